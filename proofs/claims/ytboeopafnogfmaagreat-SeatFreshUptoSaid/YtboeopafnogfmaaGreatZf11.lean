/-
  Texts of mine, put together by program (wip/slim.py), for law_seatFresh: part 11.
-/
import Derived.Test.YtboeopafnogfmaaGreatZf10
noncomputable section
set_option linter.unusedVariables false
set_option linter.unusedSimpArgs false
set_option linter.defProp false
set_option maxRecDepth 100000
/- Su13 -/
namespace Go.Ax.SU
open Go.Ax
def w_cint8(x:UInt32):Ax.cint .u8 (w32 x)=some (by8 (x.toNat%256)):=by
 unfold w32 by8;rw[zuv,wrap_u8];rfl
def s24(x:UInt32):Ax.bin .shr (w32 x) (.int .u64 24)=some (w32 (zlb x 24)):=zwc x (by omega)
def s16(x:UInt32):Ax.bin .shr (w32 x) (.int .u64 16)=some (w32 (zlb x 16)):=zwc x (by omega)
def s8(x:UInt32):Ax.bin .shr (w32 x) (.int .u64 8)=some (w32 (zlb x 8)):=zwc x (by omega)
def n24(x:UInt32):(zlb x 24).toNat=x.toNat/16777216:=by rw[zkd,yaP]
def n16(x:UInt32):(zlb x 16).toNat=x.toNat/65536:=by rw[zkd,yaP]
def n8(x:UInt32):(zlb x 8).toNat=x.toNat/256:=by rw[zkd,yaP]
def zg4(n:Nat):(by8 n).okc=true:=rfl
def zcz(n:Nat):(by8 n).cells=[by8 n]:=rfl
def zuP(a b:List UInt32):zc0 (a++b)=zc0 a++zc0 b:=by unfold zc0;rw[yaC,ybx]
def take_w{h:List UInt32}{k:Nat}(hk:k<h.length):h.take (k+1)=h.take k++[h.getD k 0]:=by
 rw[ybY,yae hk,yak,yae hk];rfl
def out_ok{H:Heap}{o r:Nat}{h:List UInt32}(hh:h.length=8) (ho:H.get o=some ⟨zak,List.replicate 32 (.int .u8 0),none⟩) :
  Ok (M.iter (zcj (sem T) (.agg (h.map w32)) (.ptr o 0) (.ptr r 0)) [.int .i64 0]) H λx H'=>x = .ex 4 []/\H'.get o=some ⟨zak,(zc0 h).map by8,none⟩/\At1 o H H':=by
 refine zaS (λk L H'=>L=[.int .i64 (k:Nat)]/\H'.get o=some ⟨zak,(zc0 (h.take k)).map by8++List.replicate (32-4*k) (.int .u8 0),none⟩/\At1 o H H') 8 ?_ ?_ ?_
 ·exact⟨rfl,by simpa [zc0]using ho,At1.refl _ _⟩
 ·rintro k L H1 hk ⟨rfl,g1,s1⟩;have hl0:((zc0 (h.take k)).map by8).length=4*k:=by rw[yah,zk7,yaq];omega
  have gk:=wg (ws:=h) (i:=k) (by omega);have e4:(4:Int)*(k:Int)=((4*k:Nat):Int):=by omega
  have e5:((4*k:Nat):Int)+1=((4*k+1:Nat):Int):=by omega
  have e6:((4*k:Nat):Int)+2=((4*k+2:Nat):Int):=by omega
  have e7:((4*k:Nat):Int)+3=((4*k+3:Nat):Int):=by omega
  have hlen:∀(l:List V) (n:Nat),l.length=n->n<=32->(l++List.replicate (32-n) (V.int .u8 0)).length=32:=λl n h1 h2=>by rw[yaf,h1,yaF];omega
  have x0:=zb0 (z:=.int .u8 0) (x:=by8 ((h.getD k 0).toNat/16777216%256)) hl0 (show 4*k<32 by omega);have hl1:((zc0 (h.take k)).map by8++[by8 ((h.getD k 0).toNat/16777216%256)]).length=4*k+1:=by rw[yaf,hl0];rfl
  have x1:=zb0 (z:=.int .u8 0) (x:=by8 ((h.getD k 0).toNat/65536%256)) hl1 (show 4*k+1<32 by omega);have hl2:((zc0 (h.take k)).map by8++[by8 ((h.getD k 0).toNat/16777216%256)]++[by8 ((h.getD k 0).toNat/65536%256)]).length=4*k+2:=by rw[yaf,hl1];rfl
  have x2:=zb0 (z:=.int .u8 0) (x:=by8 ((h.getD k 0).toNat/256%256)) hl2 (show 4*k+2<32 by omega);have hl3:((zc0 (h.take k)).map by8++[by8 ((h.getD k 0).toNat/16777216%256)]++[by8 ((h.getD k 0).toNat/65536%256)]++[by8 ((h.getD k 0).toNat/256%256)]).length=4*k+3:=by rw[yaf,hl2];rfl
  have x3:=zb0 (z:=.int .u8 0) (x:=by8 ((h.getD k 0).toNat%256)) hl3 (show 4*k+3<32 by omega);have m0:=hlen _ _ hl0 (by omega);have m1:=hlen _ _ hl1 (by omega);have m2:=hlen _ _ hl2 (by omega);have m3:=hlen _ _ hl3 (by omega);unfold zcj uL uT uB uI uK uc uq ug;simp(disch:=omega)only[↓RD,RZ,gk,e4,e5,e6,e7,s24,s16,s8,w_cint8,n24,n16,n8,zg4,zcz,g1,x0,x1,x2,x3,m0,m1,m2,m3];refine⟨by omega,by omega,by omega,by omega,rfl,?_,s1.trans ((At1.set o _ _).trans ((At1.set o _ _).trans ((At1.set o _ _).trans (At1.set o _ _))))⟩;rw[take_w (by omega),zuP,show 32-4*(k+1)=32-(4*k+3+1) by omega];simp[zc0]
 ·rintro L H1 ⟨rfl,g1,s1⟩;unfold zcj uL uT uB uI uK uc uq ug;simp(disch:=omega)only[↓RD,RZ];refine⟨?_,s1⟩;rw[g1,yaj (by omega)];simp
def zxc(n:Nat):pad n=(0x80::List.replicate (padz n) 0)++bn 8 (n*8%18446744073709551616):=rfl
instance:Coe Unit V:=⟨λ_=>.int .u8 0⟩
def Sum_ok{H:Heap}{s:Nat}{m F:List Nat}(k:Str H s m F)(hlen:m.length<=562949953421312) :
  Ok (sem T zbN [.ptr s 0]) H λr H'=>r = .agg ((sha kc m).map by8)/\Step H H' F F:=by
 refine zi7 ?_;unfold zfM uS uT uNFM uNF uB uO uA uR uc ub uq ug;have s1:=Grow.new H ⟨zak,[(),(),(),(),(),(),(),(),(),(),(),(),(),(),(),(),(),(),(),(),(),(),(),(),(),(),(),(),(),(),(),()],none⟩;have gr:(H.new ⟨zak,[(),(),(),(),(),(),(),(),(),(),(),(),(),(),(),(),(),(),(),(),(),(),(),(),(),(),(),(),(),(),(),()],none⟩).get H.next=some ⟨zak,List.replicate 32 (.int .u8 0),none⟩:=zaf _ _;have nr:(H.new ⟨zak,[(),(),(),(),(),(),(),(),(),(),(),(),(),(),(),(),(),(),(),(),(),(),(),(),(),(),(),(),(),(),(),()],none⟩).next=H.next+1:=zae _ _;have kF:=k.low;have k1:=k.grow s1;simp(disch:=omega)only[↓RD,RZ];generalize hrb:H.next=rb at *;generalize H.new _=H1 at *;refine zad (Copy_ok k1) ?_;rintro _ H2 ⟨t,c,Fb,rfl,k2,hcF,htn,hFb,s2⟩;obtain⟨c',bv,Fb',hF',k2',hm8⟩:=k2;simp only[ybs,true_and]at hF';obtain⟨rfl,rfl⟩:=hF';have n2:=s2.next;have gt2:=k2'.gs;have i9:=st9 k2'.hl;have i8:=st8 k2'.hl;have ebl:=k2'.bf.vlen;have tll:=zty m;have em:((m.length:Nat):Int)*8=((m.length*8:Nat):Int):=by omega
 have hlow2:=k2'.low;simp(disch:=first|omega|(simp only[RY]<;>omega)|decide)only[↓RD,RZ,eq_self,seval,gt2,i9,em];have s3:=Grow.new H2 ⟨zab,[.int .u8 128],none⟩;have a3:Ab H2.next (H2.new ⟨zab,[.int .u8 128],none⟩) (.sl H2.next 0 1 (.fix 1)) [0x80]:=.full (zaf _ _) rfl (yag _) (by rw[zae];omega);have b3:Bel H2.next H2 (H2.new ⟨zab,[.int .u8 128],none⟩):=s3.bel (yag _);generalize hlo:H2.next=lo at *;generalize H2.new _=H3 at *;have hz:padz m.length<64:=by unfold padz;omega
 refine zao (Q:=λr H'=>∃e,r = .ex 0 [e]/\Ab lo H' e (0x80::List.replicate (padz m.length) 0)/\Bel lo H2 H') ?_ ?_
 ·refine zaS (λj L H'=>∃e,L=[e]/\Ab lo H' e (0x80::List.replicate j 0)/\Bel lo H2 H') (padz m.length) ?_ ?_ ?_
  ·exact⟨_,rfl,a3,b3⟩
  ·rintro j L H4 hj ⟨e,rfl,a4,b4⟩;have hel:=a4.by.vlen;have hl:(0x80::List.replicate j 0).length=j+1:=by simp
   rw[hl]at hel;have gt4:=(b4.same t (hlow2 t (by simp))).trans gt2;have ej:(((tl m).length:Nat):Int)+((j+1:Nat):Int)=(((tl m).length+(j+1):Nat):Int):=rfl;have hne:¬(((((tl m).length+(j+1):Nat):Int))%64=56):=by unfold padz at hj;omega
   have n4:=b4.next;unfold zc8 uL uNFM uB uK uc ub ug;simp(disch:=omega)only[↓RD,RZ,gt4,i8,ebl,hel,ej,hne];refine okb_ab (m:=[0]) (a4.keep ((Grow.new _ _).keep _)) (by rw[zae];omega) (zcF rfl) (by rw[hl];simp;omega) λe' H5 a5 b5=>?_;simp(disch:=omega)only[↓RD,RZ];refine⟨e',rfl,?_,b4.trans (((Grow.new _ _).bel (by omega)).trans b5)⟩;rw[ycY,<-ybF];exact a5
  ·rintro L H4 ⟨e,rfl,a4,b4⟩;have hel:=a4.by.vlen;have hl:(0x80::List.replicate (padz m.length) 0).length=padz m.length+1:=by simp
   rw[hl]at hel;have gt4:=(b4.same t (hlow2 t (by simp))).trans gt2;have ej:(((tl m).length:Nat):Int)+((padz m.length+1:Nat):Int)=(((tl m).length+(padz m.length+1):Nat):Int):=rfl;have hne:((((tl m).length+(padz m.length+1):Nat):Int))%64=56:=by unfold padz;omega
   have n4:=b4.next;unfold zc8 uL uNFM uB uK uc ub ug;simp(disch:=omega)only[↓RD,RZ,gt4,i8,ebl,hel,ej,hne];exact⟨e,rfl,a4,b4⟩
 ·rintro _ H4 ⟨e4,rfl,a4,b4⟩;have hl4:(0x80::List.replicate (padz m.length) 0).length=padz m.length+1:=by simp
  have hmod:m.length*8%18446744073709551616=m.length*8:=yaB (by omega);simp(disch:=omega)only[↓RD,RZ];refine zao (Q:=λr H'=>∃e,r = .ex 2 [e]/\Ab lo H' e (pad m.length)/\Bel lo H2 H') ?_ ?_
  ·refine zaS (λj L H'=>∃w,L=[w,.int .i64 ((7:Int)-(j:Nat))]/\Ab lo H' w ((0x80::List.replicate (padz m.length) 0)++(bn 8 (m.length*8)).take j)/\Bel lo H2 H') 8 ?_ ?_ ?_
   ·exact⟨e4,rfl,by rw[ya4,yaK];exact a4,b4⟩
   ·rintro j L H5 hj ⟨w,rfl,a5,b5⟩;have e1:(7:Int)-(j:Nat)=((8-1-j:Nat):Int):=by omega
    have e2:(8:Int)*((8-1-j:Nat):Int)=((8*(8-1-j):Nat):Int):=by omega
    have e3:shr (m.length*8) (8*(8-1-j))=m.length*8/256 ^ (8-1-j):=by rw[zid,yaP,ydo]
    have n5:=b5.next;rw[e1];generalize hw:8-1-j=w' at *;unfold zc7 uL uB uK uc ub ug;have e8:IntKind.u8.wrap ((m.length*8/256 ^ w':Nat):Int)=((m.length*8/256 ^ w'%256:Nat):Int):=by rw[wrap_u8];rfl
    have hlt:((0x80::List.replicate (padz m.length) 0)++(bn 8 (m.length*8)).take j).length=padz m.length+1+j:=by rw[yaf,hl4,yaq,bn_len];omega
    simp(disch:=omega)only[↓RD,RZ,e2,e3,e8];refine okb_ab (m:=[m.length*8/256 ^ w'%256]) (a5.keep ((Grow.new _ _).keep _)) (by rw[zae];omega) (zcF rfl) (by rw[hlt];simp;omega) λe' H6 a6 b6=>?_;simp(disch:=omega)only[↓RD,RZ];refine⟨e',by rw[show((w':Nat):Int)-1=(7:Int)-((j+1:Nat):Int) by omega],?_,b5.trans (((Grow.new _ _).bel (by omega)).trans b6)⟩;rw[take_snoc (by rw[bn_len];exact hj),bn_get 8 _ j hj,hw,<-yaI];exact a6
   ·rintro L H5 ⟨w,rfl,a5,b5⟩;have e1:(7:Int)-((8:Nat):Int) = -1:=by omega
    rw[e1];unfold zc7 uL uB uK uc ub ug;simp(disch:=omega)only[↓RD,RZ];refine⟨w,rfl,?_,b5⟩;rw[yaj (by rw[bn_len];exact yag _)]at a5;rw[zxc,hmod];exact a5
  ·rintro _ H5 ⟨e5,rfl,a5,b5⟩;have n5:=b5.next;have k5:Str H5 t m (t::c::Fb):=⟨c,bv,Fb,rfl,k2'.to n5 λi hi=>b5.same i (hlow2 i hi),hm8⟩;have hpl:(pad m.length).length<=72:=by rw[zxc,yaf,hl4,bn_len];omega
   have hp8:Ok8 (pad m.length):=by
    rw[zxc];refine Ok8.app (λx hx=>?_) (bn_8 _ _);rcases yao.1 hx with rfl|hx
    ·decide
    ·rw[ybA hx];decide
   simp(disch:=omega)only[↓RD,RZ];refine zad (zuK k5 a5.by hp8 (λi hi hF=>by have h1:=(a5.by.own i hi).1;have h2:=hlow2 i hF;omega) (by omega)) ?_;rintro _ H6 ⟨rfl,F6,k6,s6⟩;obtain⟨c6,bv6,Fb6,rfl,k6,-⟩:=k6;have n6:=s6.next;have hrF:rb∉t::c::Fb:=by
    intro h;simp only[yao]at h;rcases h with h|h|h
    ·omega
    ·have:=kF c hcF;omega
    ·have:=hFb rb h;omega
   have gr6:H6.get rb=some ⟨zak,List.replicate 32 (.int .u8 0),none⟩:=by
    rw[s6.same rb (by omega) hrF,b5.same rb (by omega),s2.same rb (by omega)];exact gr
   have hlow6:=k6.low;have gt6:=k6.gs;have f8:=ld8 k6.hl [bv6,.int .u64 ((m++pad m.length).length:Nat),.ptr c6 0];have ht6:=k6.sl;have g7:∀i,i<H6.next->(H6.new ⟨zak,[(),(),(),(),(),(),(),(),(),(),(),(),(),(),(),(),(),(),(),(),(),(),(),(),(),(),(),(),(),(),(),()],none⟩).get i=H6.get i:=λi hi=>zas _ _ (by omega);have go7:(H6.new ⟨zak,[(),(),(),(),(),(),(),(),(),(),(),(),(),(),(),(),(),(),(),(),(),(),(),(),(),(),(),(),(),(),(),()],none⟩).get H6.next=some ⟨zak,List.replicate 32 (.int .u8 0),none⟩:=zaf _ _;have n7:(H6.new ⟨zak,[(),(),(),(),(),(),(),(),(),(),(),(),(),(),(),(),(),(),(),(),(),(),(),(),(),(),(),(),(),(),(),()],none⟩).next=H6.next+1:=zae _ _;simp(disch:=omega)only[↓RD,RZ,gt6,f8];clear gt6;generalize ho:H6.next=o at *;generalize H6.new _=H7 at *;refine zao (out_ok k6.hl go7) ?_;rintro _ H8 ⟨rfl,go8,s8⟩;have gr8:H8.get rb=some ⟨zak,List.replicate 32 (.int .u8 0),none⟩:=by
    rw[s8.same rb (by omega) (by omega),g7 rb (by omega)];exact gr6
   have hwl:((zc0 (hs kc (m++pad m.length))).map by8).length=32:=by rw[yah,zk7,hs_len]
   have l32:ldc (some 32) ((zc0 (hs kc (m++pad m.length))).map by8) 0=some (.agg ((zc0 (hs kc (m++pad m.length))).map by8)):=by
    rw[ze0 (by omega),yaA,yaj (by omega)]
   have hok:V.okc (.agg ((zc0 (hs kc (m++pad m.length))).map by8))=true:=by
    simp only[V.okc,ycD,yaz]
    try (intro x _;rfl)
   have hsp:∀L:List V,L.length=32->splice L 0 ((zc0 (hs kc (m++pad m.length))).map by8)=(zc0 (hs kc (m++pad m.length))).map by8:=λL hL=>by
    unfold splice;rw[ya4,yaU,hwl,yaS (by omega),yaK]
   have hrl:(List.replicate 32 (V.int .u8 0)).length=32:=rfl;have hne8:o≠rb:=by omega
   simp(disch:=first|omega|(simp only[RY]<;>omega)|decide)only[↓RD,RZ,eq_self,seval,go8,l32,gr8,hok,hwl,hsp,hrl];refine⟨rfl,⟨?_,λi hi hF=>?_,λi hi=>.inl hi⟩⟩
   ·have:=s8.next;rw[zam];omega
   ·have hi6:i∉t::c::Fb:=by
     intro h;simp only[yao]at h;rcases h with h|h|h
     ·omega
     ·exact hF (h ▸ hcF)
     ·have:=hFb i h;omega
    rw[zaj _ _ (by omega),s8.same i (by omega) (by omega),g7 i (by omega),s6.same i (by omega) hi6,b5.same i (by omega),s2.same i (by omega),s1.same i (by omega)]
def zyi{lo n:Nat}{H:Heap}{v x:V}{vs:List V}(h:Lc 1 lo H v vs n){i:Nat}(hi:i<n) (hx:vs[i]?=some x):∃p,(∀{k:IntKind},Ax.iaddr none 1 v (.int k ((i:Nat):Int))=some p)/\LdR none H p x:=by
 obtain⟨p,hp,hl⟩:=h.at (i:=((i:Nat):Int)) (by omega) (by omega);have hlen:=h.len;have hil:i<vs.length:=by omega
 have e:(vs.drop (((i:Nat):Int).toNat*1)).take 1=[x]:=by
  rw[yan,ya5,yaM hil];rw[yae hil]at hx;injection hx with hx
  rw[hx];rfl
 rw[e]at hl;refine⟨p,hp,λf Q=>?_⟩;rw[hl.ld0 (by simp)];exact zpl
def Pts(lo:Nat)(H:Heap)(vs:List V) (ps:List (List Nat)):Prop:=vs.length=ps.length/\∀(i:Nat) (v:V) (p:List Nat),vs[i]?=some v->ps[i]?=some p->By lo H v p/\Ok8 p
def Pts.grow{lo:Nat}{H H':Heap}{vs:List V} {ps:List (List Nat)} (h:Pts lo H vs ps) (g:Grow H H'):Pts lo H' vs ps:=⟨h.1,λi v p hv hp=>⟨(h.2 i v p hv hp).1.ext g,(h.2 i v p hv hp).2⟩⟩
def Pts.nil{lo:Nat}{H:Heap}:Pts lo H [] []:=⟨rfl,λi v p h=>by simp at h⟩
def Pts.cons{lo:Nat}{H:Heap}{v:V}{p:List Nat}{vs:List V} {ps:List (List Nat)} (h1:By lo H v p) (h2:Ok8 p) (h:Pts lo H vs ps):Pts lo H (v::vs) (p::ps):=by
 refine⟨by simp[h.1],λi v' p' hv hp=>?_⟩;cases i with
 | zero=>
  simp only[yaE,yaa]at hv hp;subst hv hp;exact⟨h1,h2⟩
 | succ i=>exact h.2 i v' p' hv hp
def zgT {ps:List (List Nat)} {k:Nat} {p:List Nat} (h:ps[k]?=some p):(ps.take (k+1)).flatten=(ps.take k).flatten++p:=by
 rw[ybY,h];simp
def zdI (ps:List (List Nat)) (k:Nat):(ps.take k).flatten.length<=ps.flatten.length:=by
 conv=>rhs;rw[<-ybV k ps,ybx,yaf]
 omega
def zk5{lo id n:Nat}{H:Heap}{ty:TypeId}{l:List Nat}{o:Option Nat} (h:H.get id=some ⟨ty,l.map by8,o⟩) (hl:l.length=n) (h0:lo<=id) (h1:id<H.next):By lo H (.sl id 0 n (.fix n)) l:=by
 subst hl;refine⟨?_,λi hi=>by simp only[V.pid,yaa]at hi;subst hi;exact⟨h0,h1⟩,yag _⟩;simp only[rcells,h,Option.bind_some];rw[if_pos (by simp),yaA,yaj (by simp)]
def Of_ok{H:Heap}{lo:Nat}{v:V}{vs:List V} {ps:List (List Nat)} (hv:Lc 1 lo H v vs vs.length) (hp:Pts 0 H vs ps) (hvn:vs.length<=1000) (hlen:ps.flatten.length<=281474976710656) :
  Ok (sem T zeB [v]) H λr H'=>r = .agg ((sha kc ps.flatten).map by8)/\Grow H H':=by
 refine zrs ?_;unfold znE uL uS uT uO uA uR uc;have s1:=Grow.new H ⟨zak,[(),(),(),(),(),(),(),(),(),(),(),(),(),(),(),(),(),(),(),(),(),(),(),(),(),(),(),(),(),(),(),()],none⟩;have gr:(H.new ⟨zak,[(),(),(),(),(),(),(),(),(),(),(),(),(),(),(),(),(),(),(),(),(),(),(),(),(),(),(),(),(),(),(),()],none⟩).get H.next=some ⟨zak,List.replicate 32 (.int .u8 0),none⟩:=zaf _ _;have nr:(H.new ⟨zak,[(),(),(),(),(),(),(),(),(),(),(),(),(),(),(),(),(),(),(),(),(),(),(),(),(),(),(),(),(),(),(),()],none⟩).next=H.next+1:=zae _ _;have hvl:=hv.vlen;simp(disch:=first|omega|(simp only[RY]<;>omega)|decide)only[↓RD,RZ,eq_self,seval];generalize hrb:H.next=rb at *;generalize H.new _=H1 at *;refine zad New_ok ?_;rintro _ H2 ⟨s,F,rfl,k2,hF,s2⟩;have n2:=s2.next;have g2:Grow H H2:=s1.trans s2;simp(disch:=first|omega|(simp only[RY]<;>omega)|decide)only[↓RD,RZ,eq_self,seval,hvl];refine zao (Q:=λr H'=>r = .ex 0 []/\∃F',Str H' s ps.flatten F'/\(∀i∈F',H1.next<=i)/\Grow H1 H') ?_ ?_
 ·refine zaS (λj L H'=>L=[.int .i64 (j:Nat)]/\∃F',Str H' s (ps.take j).flatten F'/\(∀i∈F',H1.next<=i)/\Grow H1 H') vs.length ?_ ?_ ?_
  ·exact⟨rfl,F,by simpa using k2,hF,s2⟩
  ·rintro j L H3 hj ⟨rfl,F',k3,hF3,s3⟩;have g3:Grow H H3:=s1.trans s3;have hx:vs[j]?=some vs[j]:=yae hj;have hq:ps[j]?=some (ps[j]'(by rw[<-hp.1];exact hj)):=yae _;obtain⟨hby,h8⟩:=hp.2 j _ _ hx hq;obtain⟨p,ip,lp⟩:=zyi (hv.ext g3) hj hx;have hl1:=zdI ps (j+1);have hft:=zgT hq;rw[hft,yaf]at hl1;unfold zhA uB uIM uA uK uc ug;simp(disch:=first|omega|(simp only[RY]<;>omega)|decide)only[↓RD,RZ,eq_self,seval,ip,lp];refine zad (zuK k3 (hby.ext g3) h8 (λi hi hc=>by have h1:=(hby.own i hi).2;have h2:=hF3 i hc;omega) (by omega)) ?_;rintro _ H4 ⟨rfl,F4,k4,s4⟩;rw[<-hft]at k4;simp(disch:=first|omega|(simp only[RY]<;>omega)|decide)only[↓RD,RZ,eq_self,seval];refine⟨rfl,F4,k4,λi hi=>?_,⟨yax s3.next s4.next,λi hi=>by rw[s4.same i (by have:=s3.next;omega) (λhc=>by have:=hF3 i hc;omega),s3.same i hi]⟩⟩;rcases s4.own i hi with h|h
   ·exact hF3 i h
   ·have:=s3.next;omega
  ·rintro L H3 ⟨rfl,F',k3,hF3,s3⟩;unfold zhA uB uIM uA uK uc ug;simp(disch:=first|omega|(simp only[RY]<;>omega)|decide)only[↓RD,RZ,eq_self,seval];refine⟨F',?_,hF3,s3⟩;rw[hp.1,ya2]at k3;exact k3
 ·rintro _ H3 ⟨rfl,F',k3,hF3,s3⟩;have n3:=s3.next;simp(disch:=first|omega|(simp only[RY]<;>omega)|decide)only[↓RD,RZ,eq_self,seval];refine zad (Sum_ok k3 (by omega)) ?_;rintro _ H4 ⟨rfl,s4⟩;have n4:=s4.next;have g4:∀i,i<H1.next->H4.get i=H1.get i:=λi hi=>by rw[s4.same i (by omega) (λhc=>by have:=hF3 i hc;omega),s3.same i hi]
  have gr4:=(g4 rb (by omega)).trans gr;have hwl:((sha kc ps.flatten).map by8).length=32:=by rw[yah,zlc]
  have l32:ldc (some 32) ((sha kc ps.flatten).map by8) 0=some (.agg ((sha kc ps.flatten).map by8)):=by
   rw[ze0 (by omega),yaA,yaj (by omega)]
  have hok:V.okc (.agg ((sha kc ps.flatten).map by8))=true:=by
   simp only[V.okc,ycD,yaz]
   try (intro x _;rfl)
  have hsp:∀L:List V,L.length=32->splice L 0 ((sha kc ps.flatten).map by8)=(sha kc ps.flatten).map by8:=λL hL=>by
   unfold splice;rw[ya4,yaU,hwl,yaS (by omega),yaK]
  have hrl:(List.replicate 32 (V.int .u8 0)).length=32:=rfl;simp(disch:=first|omega|(simp only[RY]<;>omega)|decide)only[↓RD,RZ,eq_self,seval,gr4,l32,hok,hwl,hsp,hrl];exact⟨by rw[zam];omega,λi hi=>by rw[zaj _ _ (by omega),g4 i (by omega),s1.same i (by omega)]⟩
def zt9(ks:List UInt32){key:List Nat}(x:Nat):(kpad ks key x).length=64:=by
 unfold kpad zf9;split
 ·rw[yah,yaf,yaF,zlc]
 ·rw[yah,yaf,yaF];omega
def zpW{A C:List V}{b:V}{k:Nat}(h:A.length=k):(A++b::C)[k]?=some b:=by
 rw[ybv (by omega),h,ycy];rfl
def zpV{A C:List V}{b y:V}{k:Nat}(h:A.length=k):splice (A++b::C) k [y]=A++y::C:=by
 rw[zmK _ _ _ (by rw[yaf,List.length_cons];omega),ybW _ _ (by omega),h,ycy];rfl
def xor_now{l:List Nat}{k:Nat}(f:Nat->Nat)(hk:k<l.length):((l.take k).map f++l.drop k).map by8=((l.take k).map f).map by8++by8 (l.getD k 0)::(l.drop (k+1)).map by8:=by
 rw[yaM hk,yak,yae hk,yaC,yaR];rfl
def xor_then{l:List Nat}{k:Nat}(f:Nat->Nat)(hk:k<l.length):((l.take k).map f).map by8++by8 (f (l.getD k 0))::(l.drop (k+1)).map by8=((l.take (k+1)).map f++l.drop (k+1)).map by8:=by
 rw[take_snoc hk,yaC,yaC,yaC];simp
def pad_ok{lo:Nat}{H:Heap}{v:V}{l:List Nat}{x:Nat}(hv:By lo H v l)(h8:Ok8 l)(hl:l.length<=64)(hx:x<256) :
  Ok (sem T zgL [v,.int .u8 (x:Nat)]) H λr H'=>By H.next H' r ((l++List.replicate (64-l.length) 0).map (· ^^^ x))/\Grow H H':=by
 refine zvc ?_;unfold zrM uL uR uc ub;refine zaQ (zvf (l:=64) (c:=64) ⟨by decide,by decide,by decide,by decide⟩ ?_);have e64:(64:Int).toNat=64:=rfl;rw[e64,zv4];have s1:=Grow.new H ⟨zab,List.replicate 64 (.int .u8 0),none⟩;have g1:(H.new ⟨zab,List.replicate 64 (.int .u8 0),none⟩).get H.next=some ⟨zab,List.replicate 64 (.int .u8 0),none⟩:=zaf _ _;have n1:(H.new ⟨zab,List.replicate 64 (.int .u8 0),none⟩).next=H.next+1:=zae _ _;have hv1:=hv.ext s1;generalize hid:H.next=id at *;generalize H.new _=H1 at *;have hz8:Ok8 (l++List.replicate (64-l.length) 0):=h8.app (Ok8.rep _);have hzl:(l++List.replicate (64-l.length) 0).length=64:=by rw[yaf,yaF];omega
 have hcp:mcopy 1 (.sl id 0 64 (.fix 64)) v H1=some (.int .i64 (l.length:Nat),H1.set id (some ⟨zab,(l++List.replicate (64-l.length) 0).map by8,none⟩)):=by
  unfold mcopy;rw[hv1.ac];simp only[Option.bind_some,g1];rw[if_pos (by simp)];have e1:min l.length 64=l.length:=by omega
  have e2:splice (List.replicate 64 (V.int .u8 0)) 0 ((l.map by8).take (l.length*1))=(l++List.replicate (64-l.length) 0).map by8:=by
   unfold splice;rw[ya4,yaU,yaj (by simp),yah,ya8,ycv,yaC,ycB];rfl
  rw[e1,e2]
 generalize hL:l++List.replicate (64-l.length) 0=L at *;refine zaQ ⟨_,_,hcp,?_⟩;have g2:(H1.set id (some ⟨zab,L.map by8,none⟩)).get id = _:=zai _ _ _;have n2:(H1.set id (some ⟨zab,L.map by8,none⟩)).next=H1.next:=zam _ _ _;have s2:∀i,i≠id->(H1.set id (some ⟨zab,L.map by8,none⟩)).get i=H1.get i:=λi hi=>zaj _ _ hi;generalize H1.set id _=H2 at *;simp(disch:=omega)only[↓RD,RZ,eq_self,seval];refine zao (Q:=λr H'=>r = .ex 0 []/\H'.get id=some ⟨zab,(L.map (· ^^^ x)).map by8,none⟩/\At1 id H2 H') ?_ ?_
 ·refine zaS (λk L' H'=>L'=[.int .i64 (k:Nat)]/\H'.get id=some ⟨zab,((L.take k).map (· ^^^ x)++L.drop k).map by8,none⟩/\At1 id H2 H') 64 ?_ ?_ ?_
  ·exact⟨rfl,by simpa using g2,At1.refl _ _⟩
  ·rintro k _ H3 hk ⟨rfl,g3,s3⟩;have hA:(((L.take k).map (· ^^^ x)).map by8).length=k:=by rw[yah,yah,yaq];omega
   rw[xor_now _ (by omega)]at g3;have m1:=zpW (b:=by8 (L.getD k 0)) (C:=(L.drop (k+1)).map by8) hA;have m2:=zpV (b:=by8 (L.getD k 0)) (y:=by8 (L.getD k 0 ^^^ x)) (C:=(L.drop (k+1)).map by8) hA;have ml:(((L.take k).map (· ^^^ x)).map by8++by8 (L.getD k 0)::(L.drop (k+1)).map by8).length=64:=by rw[yaf,hA,List.length_cons,yah,yas];omega
   have hg:=hz8.getD k;have ex:Ax.bin .xor (by8 (L.getD k 0)) (.int .u8 (x:Nat))=some (by8 (L.getD k 0 ^^^ x)):=by
    unfold by8;rw[zv6 (by omega) (by omega) (by omega) (by omega)];rfl
   unfold zj0 uT uB uI uIM uK uc ug;simp(disch:=omega)only[↓RD,RZ,eq_self,seval,g3,m1,ex,m2,ml,zg4,zcz];refine⟨by omega,rfl,?_,s3.trans (At1.set id _ _)⟩;have:=xor_then (l:=L) (k:=k) (· ^^^ x) (by omega);rw[<-this]
  ·rintro _ H3 ⟨rfl,g3,s3⟩;unfold zj0 uT uB uI uIM uK uc ug;simp(disch:=omega)only[↓RD,RZ,eq_self,seval];refine⟨?_,s3⟩;rw[g3,yaj (by omega),yaS (by omega),yaK]
 ·rintro _ H3 ⟨rfl,g3,s3⟩;have n3:=s3.next;simp(disch:=omega)only[↓RD,RZ,eq_self,seval];exact⟨zk5 g3 (by rw[yah];exact hzl) (yag _) (by omega),⟨by omega,λi hi=>by rw[s3.same i (by omega) (by omega),s2 i (by omega),s1.same i (by omega)]⟩⟩
def zcY(l:List Nat):V.okc (.agg (l.map by8))=true:=by
 simp only[V.okc,ycD,yaz]
 try (intro x _;rfl)
def zaD(cs:List V):V.cells (.agg cs)=cs:=rfl
def sp32{l:List Nat}(hl:l.length=32):splice [(),(),(),(),(),(),(),(),(),(),(),(),(),(),(),(),(),(),(),(),(),(),(),(),(),(),(),(),(),(),(),()] 0 (l.map by8)=l.map by8:=by
 unfold splice;rw[ya4,yaU,yah,hl];simp
def spr32{l:List Nat}(hl:l.length=32):splice (List.replicate 32 (V.int .u8 0)) 0 (l.map by8)=l.map by8:=sp32 hl
def ld32{l:List Nat}(hl:l.length=32):ldc (some 32) (l.map by8) 0=some (.agg (l.map by8)):=by
 rw[ze0 (by rw[yah];omega),yaA,yaj (by rw[yah];omega)]
def zoI{n id:Nat}:zat (.arr n) 1 (.ptr id 0) none none none=some (.sl id 0 n (.fix n)):=by
 simp only[zat,zcD,Option.bind_some,yaX];rw[if_neg (by simp),if_pos (by simp)];simp
def zll{id n:Nat}{H:Heap}{ty:TypeId}{cs:List V}{o:Option Nat} (h:H.get id=some ⟨ty,cs,o⟩) (hl:cs.length=n) (h1:id<H.next):Lc 1 0 H (.sl id 0 n (.fix n)) cs n:=by
 subst hl;refine⟨?_,λi hi=>by simp only[V.pid,yaa]at hi;subst hi;exact⟨yaD _,h1⟩,yag _⟩;simp only[rcells,h,Option.bind_some];rw[if_pos (by simp),yaA,yaj (by simp)]
def zo3(ks:List UInt32)(key:List Nat):(zf9 ks key).length<=64:=by
 unfold zf9;split
 ·rw[zlc];omega
 ·omega
def zpZ(ks:List UInt32){key:List Nat}(h:Ok8 key):Ok8 (zf9 ks key):=by
 unfold zf9;split
 ·exact zwt _ _
 ·exact h
def kpad_8(ks:List UInt32){key:List Nat}{x:Nat}(h:Ok8 key)(hx:x<256):Ok8 (kpad ks key x):=by
 unfold kpad;intro y hy;obtain⟨z,hz,rfl⟩:=yaW.1 hy;exact zcG ((zpZ ks h).app (Ok8.rep _) z hz) hx
def zmG{H:Heap}{lo lo':Nat}{kv v:V}{key:List Nat}{vs:List V} {ps:List (List Nat)} (hk:By lo H kv key) (hk8:Ok8 key) (hkl:key.length<=1099511627776) (hv:Lc 1 lo' H v vs vs.length) (hp:Pts 0 H vs ps) (hvn:vs.length<=1000) (hlen:ps.flatten.length<=1099511627776) :
  Ok (sem T zgM [kv,v]) H λr H'=>r = .agg ((hmac kc key ps.flatten).map by8)/\Grow H H':=by
 refine zxk ?_;unfold zuo uL uS uT uB uO uA uR uK uc ub ug;have s1:=Grow.new H ⟨zak,[(),(),(),(),(),(),(),(),(),(),(),(),(),(),(),(),(),(),(),(),(),(),(),(),(),(),(),(),(),(),(),()],none⟩;have gr:(H.new ⟨zak,[(),(),(),(),(),(),(),(),(),(),(),(),(),(),(),(),(),(),(),(),(),(),(),(),(),(),(),(),(),(),(),()],none⟩).get H.next=some ⟨zak,List.replicate 32 (.int .u8 0),none⟩:=zaf _ _;have nr:(H.new ⟨zak,[(),(),(),(),(),(),(),(),(),(),(),(),(),(),(),(),(),(),(),(),(),(),(),(),(),(),(),(),(),(),(),()],none⟩).next=H.next+1:=zae _ _;have hkvl:=hk.vlen;have hvl:=hv.vlen;simp(disch:=omega)only[↓RD,RZ,hkvl];generalize hrb:H.next=rb at *;generalize H.new _=H1 at *;have hk1:=hk.ext s1;refine zao (Q:=λr H'=>∃kv',r = .nrm [kv']/\By 0 H' kv' (zf9 kc key)/\Grow H1 H') ?_ ?_
 ·refine zcm (λh=>?_) λh=>?_
  ·have hc:=hk1.cells1;have ho:=hk1.okc;have s2:=Grow.new H1 ⟨zal,[kv],none⟩;have l2:Lc 1 0 (H1.new ⟨zal,[kv],none⟩) (.sl H1.next 0 1 (.fix 1)) [kv] 1:=zll (zaf _ _) rfl (by rw[zae];omega);have p2:Pts 0 (H1.new ⟨zal,[kv],none⟩) [kv] [key]:=Pts.cons ((hk1.ext s2).low (yaD _)) hk8 Pts.nil;simp(disch:=first|omega|(simp only[RY]<;>omega)|decide)only[↓RD,RZ,eq_self,Int.reduceToNat,Int.reduceAdd,Nat.reduceAdd,Nat.reduceSub,Nat.reduceMul,Nat.reduceLeDiff,hc,ho];generalize H1.new _=H2 at *;refine zad (Of_ok l2 p2 (by simp) (by simp;omega)) ?_;rintro _ H3 ⟨rfl,s3⟩;have ef:[key].flatten=key:=by simp
   rw[ef];have hsl:=zlc kc key;have hml:((sha kc key).map by8).length=32:=by rw[yah,hsl]
   have hsp:=sp32 hsl;simp(disch:=first|omega|(simp only[RY]<;>omega)|decide)only[↓RD,RZ,eq_self,Int.reduceToNat,Int.reduceAdd,Nat.reduceAdd,Nat.reduceSub,Nat.reduceMul,Nat.reduceLeDiff,zcY,zaD,hml,hsp,zoI];refine⟨_,rfl,?_,s2.trans (s3.trans ((Grow.new _ _).set (yag _) _))⟩;have ek:zf9 kc key=sha kc key:=if_pos (by omega);rw[ek];exact zk5 (zai _ _ _) hsl (yaD _) (by rw[zam,zae];omega)
  ·simp(disch:=omega)only[↓RD,RZ];have ek:zf9 kc key=key:=if_neg (by omega);rw[ek];exact⟨kv,rfl,hk1.low (yaD _),Grow.refl _⟩
 ·rintro _ H2 ⟨kv',rfl,hk2,s2⟩;have g2:=s1.trans s2;simp(disch:=omega)only[↓RD,RZ];refine zad New_ok ?_;rintro _ H3 ⟨s,F,rfl,k3,hF,s3⟩;simp(disch:=omega)only[↓RD,RZ];refine zad (pad_ok (x:=54) (hk2.ext s3) (zpZ kc hk8) (zo3 _ _) (by omega)) ?_;rintro pv H4 ⟨hpv,s4⟩;have k4:=k3.grow s4;have hF3:∀i∈F,i<H3.next:=k3.low;simp(disch:=omega)only[↓RD,RZ];have hin:(zf9 kc key++List.replicate (64-(zf9 kc key).length) 0).map (· ^^^ 54)=kpad kc key 0x36:=rfl;rw[hin]at hpv;have hinl:=zt9 kc (key:=key) 0x36;refine zad (zuK k4 hpv (kpad_8 kc hk8 (by omega)) (λi hi hc=>by have h1:=(hpv.own i hi).1;have h2:=hF3 i hc;omega) (by rw[hinl];simp)) ?_;rintro _ H5 ⟨rfl,F5,k5,s5⟩;rw[yaU]at k5;have n3:=s3.next;have n4:=s4.next;have n5:=s5.next;have hF5:∀i∈F5,H2.next<=i:=λi hi=>by
   rcases s5.own i hi with h|h
   ·exact hF i h
   ·omega
  have g5:Grow H2 H5:=⟨by omega,λi hi=>by rw[s5.same i (by omega) (λhc=>by have:=hF i hc;omega),s4.same i (by omega),s3.same i hi]⟩;simp(disch:=omega)only[↓RD,RZ,hvl];refine zao (Q:=λr H'=>r = .ex 0 []/\∃F',Str H' s (kpad kc key 0x36++ps.flatten) F'/\(∀i∈F',H2.next<=i)/\Grow H2 H') ?_ ?_
  ·refine zaS (λj L H'=>L=[.int .i64 (j:Nat)]/\∃F',Str H' s (kpad kc key 0x36++(ps.take j).flatten) F'/\(∀i∈F',H2.next<=i)/\Grow H2 H') vs.length ?_ ?_ ?_
   ·exact⟨rfl,F5,by simpa using k5,hF5,g5⟩
   ·rintro j L H6 hj ⟨rfl,F',k6,hF6,s6⟩;have g6:Grow H H6:=g2.trans s6;have hx:vs[j]?=some vs[j]:=yae hj;have hq:ps[j]?=some (ps[j]'(by rw[<-hp.1];exact hj)):=yae _;obtain⟨hby,h8⟩:=hp.2 j _ _ hx hq;obtain⟨p,ip,lp⟩:=zyi (hv.ext g6) hj hx;have hl1:=zdI ps (j+1);have hft:=zgT hq;rw[hft,yaf]at hl1;have n2:=g2.next;unfold zly uB uIM uA uK uc ug;simp(disch:=omega)only[↓RD,RZ,ip,lp];refine zad (zuK k6 (hby.ext g6) h8 (λi hi hc=>by have h1:=(hby.own i hi).2;have h2:=hF6 i hc;omega) (by rw[yaf,hinl];omega)) ?_;rintro _ H7 ⟨rfl,F7,k7,s7⟩;rw[yaI,<-hft]at k7;have n6:=s6.next;simp(disch:=omega)only[↓RD,RZ];refine⟨rfl,F7,k7,λi hi=>?_,⟨yax s6.next s7.next,λi hi=>by rw[s7.same i (by omega) (λhc=>by have:=hF6 i hc;omega),s6.same i hi]⟩⟩;rcases s7.own i hi with h|h
    ·exact hF6 i h
    ·omega
   ·rintro L H6 ⟨rfl,F',k6,hF6,s6⟩;unfold zly uB uIM uA uK uc ug;simp(disch:=omega)only[↓RD,RZ];refine⟨F',?_,hF6,s6⟩;rw[hp.1,ya2]at k6;exact k6
  ·rintro _ H6 ⟨rfl,F6,k6,hF6,s6⟩;have n6:=s6.next;simp(disch:=omega)only[↓RD,RZ];refine zad (Sum_ok k6 (by rw[yaf,hinl];omega)) ?_;rintro _ H7 ⟨rfl,s7⟩;have n7:=s7.next;have g7:Grow H2 H7:=⟨by omega,λi hi=>by rw[s7.same i (by omega) (λhc=>by have:=hF6 i hc;omega),s6.same i hi]⟩;have hsl:=zlc kc (kpad kc key 0x36++ps.flatten);have hs8:=zwt kc (kpad kc key 0x36++ps.flatten);have hml:((sha kc (kpad kc key 0x36++ps.flatten)).map by8).length=32:=by rw[yah,hsl]
   have hsp:=sp32 hsl;have hb8:By 0 ((H7.new ⟨zak,[(),(),(),(),(),(),(),(),(),(),(),(),(),(),(),(),(),(),(),(),(),(),(),(),(),(),(),(),(),(),(),()],none⟩).set H7.next (some ⟨zak,(sha kc (kpad kc key 0x36++ps.flatten)).map by8,none⟩)) (.sl H7.next 0 32 (.fix 32)) (sha kc (kpad kc key 0x36++ps.flatten)):=zk5 (zai _ _ _) hsl (yaD _) (by rw[zam,zae];omega);have s8:Grow H7 ((H7.new ⟨zak,[(),(),(),(),(),(),(),(),(),(),(),(),(),(),(),(),(),(),(),(),(),(),(),(),(),(),(),(),(),(),(),()],none⟩).set H7.next (some ⟨zak,(sha kc (kpad kc key 0x36++ps.flatten)).map by8,none⟩)):=(Grow.new _ _).set (yag _) _;simp(disch:=first|omega|(simp only[RY]<;>omega)|decide)only[↓RD,RZ,eq_self,Int.reduceToNat,Int.reduceAdd,Nat.reduceAdd,Nat.reduceSub,Nat.reduceMul,Nat.reduceLeDiff,zcY,zaD,hml,hsp,zoI];generalize (H7.new _).set _ _=H8 at *;refine zad (pad_ok (x:=92) ((hk2.ext g7).ext s8) (zpZ kc hk8) (zo3 _ _) (by omega)) ?_;rintro ov H9 ⟨hov,s9⟩;have hout:(zf9 kc key++List.replicate (64-(zf9 kc key).length) 0).map (· ^^^ 92)=kpad kc key 0x5c:=rfl;rw[hout]at hov;have houtl:=zt9 kc (key:=key) 0x5c;have hc9:=hov.cells1;have ho9:=hov.okc;have s10:=Grow.new H9 ⟨zal,[ov,.sl H7.next 0 32 (.fix 32)],none⟩;have l10:Lc 1 0 (H9.new ⟨zal,[ov,.sl H7.next 0 32 (.fix 32)],none⟩) (.sl H9.next 0 2 (.fix 2)) [ov,.sl H7.next 0 32 (.fix 32)] 2:=zll (zaf _ _) rfl (by rw[zae];omega);have p10:Pts 0 (H9.new ⟨zal,[ov,.sl H7.next 0 32 (.fix 32)],none⟩) [ov,.sl H7.next 0 32 (.fix 32)] [kpad kc key 0x5c,sha kc (kpad kc key 0x36++ps.flatten)]:=
    Pts.cons ((hov.ext s10).low (yaD _)) (kpad_8 kc hk8 (by omega)) (Pts.cons ((hb8.ext s9).ext s10) hs8 Pts.nil)
   simp(disch:=first|omega|(simp only[RY]<;>omega)|decide)only[↓RD,RZ,eq_self,Int.reduceToNat,Int.reduceAdd,Nat.reduceAdd,Nat.reduceSub,Nat.reduceMul,Nat.reduceLeDiff,hc9,ho9];generalize H9.new _=H10 at *;refine zad (Of_ok l10 p10 (by simp) (by simp[houtl,hsl])) ?_;rintro _ H11 ⟨rfl,s11⟩;have ef:[kpad kc key 0x5c,sha kc (kpad kc key 0x36++ps.flatten)].flatten=kpad kc key 0x5c++sha kc (kpad kc key 0x36++ps.flatten):=by simp
   rw[ef];have eh:sha kc (kpad kc key 0x5c++sha kc (kpad kc key 0x36++ps.flatten))=hmac kc key ps.flatten:=rfl;rw[eh];have hhl:=zdQ kc key ps.flatten;have g11:Grow H1 H11:=s2.trans (g7.trans (s8.trans (s9.trans (s10.trans s11))));have gr11:=(g11.same rb (by omega)).trans gr;have hml2:((hmac kc key ps.flatten).map by8).length=32:=by rw[yah,hhl]
   have hsp2:=spr32 hhl;have l32:=ld32 hhl;have hrl:(List.replicate 32 (V.int .u8 0)).length=32:=rfl;simp(disch:=first|omega|(simp only[RY]<;>omega)|decide)only[↓RD,RZ,eq_self,Int.reduceToNat,Int.reduceAdd,Nat.reduceAdd,Nat.reduceSub,Nat.reduceMul,Nat.reduceLeDiff,gr11,zcY,zaD,hml2,hsp2,l32,hrl];have n11:=g11.next;exact⟨by rw[zam];omega,λi hi=>by rw[zaj _ _ (by omega),g11.same i (by omega),s1.same i (by omega)]⟩
def Ab.nil{lo:Nat}{H:Heap}:Ab lo H .nils []:=.app .nil
def zlE{H:Heap}{lo lo':Nat}{sv kv:V}{salt key:List Nat}(hs:By lo H sv salt)(hs8:Ok8 salt)(hsl:salt.length<=1099511627776)(hk:By lo' H kv key)(hk8:Ok8 key)(hkl:key.length<=1099511627776) :
  Ok (sem T zbV [sv,kv]) H λr H'=>r = .agg ((hmac kc salt key).map by8)/\Grow H H':=by
 refine zoi ?_;unfold zkQ uS uT uO uA uR;have hc:=hk.cells1;have ho:=hk.okc;have s1:=Grow.new H ⟨zak,[(),(),(),(),(),(),(),(),(),(),(),(),(),(),(),(),(),(),(),(),(),(),(),(),(),(),(),(),(),(),(),()],none⟩;have gr:(H.new ⟨zak,[(),(),(),(),(),(),(),(),(),(),(),(),(),(),(),(),(),(),(),(),(),(),(),(),(),(),(),(),(),(),(),()],none⟩).get H.next=some ⟨zak,List.replicate 32 (.int .u8 0),none⟩:=zaf _ _;have nr:(H.new ⟨zak,[(),(),(),(),(),(),(),(),(),(),(),(),(),(),(),(),(),(),(),(),(),(),(),(),(),(),(),(),(),(),(),()],none⟩).next=H.next+1:=zae _ _;simp(disch:=first|omega|(simp only[RY]<;>omega)|decide)only[↓RD,RZ,eq_self,Int.reduceToNat,Int.reduceAdd,Nat.reduceAdd,Nat.reduceSub,Nat.reduceMul,Nat.reduceLeDiff,hc,ho];generalize hrb:H.next=rb at *;generalize H.new _=H1 at *;have s2:=Grow.new H1 ⟨zal,[kv],none⟩;have l2:Lc 1 0 (H1.new ⟨zal,[kv],none⟩) (.sl H1.next 0 1 (.fix 1)) [kv] 1:=zll (zaf _ _) rfl (by rw[zae];omega);have p2:Pts 0 (H1.new ⟨zal,[kv],none⟩) [kv] [key]:=Pts.cons (((hk.ext s1).ext s2).low (yaD _)) hk8 Pts.nil;rw[nr]at l2;generalize H1.new _=H2 at *;have ef:[key].flatten=key:=by simp
 refine zad (zmG ((hs.ext s1).ext s2) hs8 hsl l2 p2 (by simp) (by rw[ef];exact hkl)) ?_;rintro _ H3 ⟨rfl,s3⟩;rw[ef];have hhl:=zdQ kc salt key;have g3:Grow H1 H3:=s2.trans s3;have gr3:=(g3.same rb (by omega)).trans gr;have hml2:((hmac kc salt key).map by8).length=32:=by rw[yah,hhl]
 have hsp2:=spr32 hhl;have l32:=ld32 hhl;have hrl:(List.replicate 32 (V.int .u8 0)).length=32:=rfl;have n3:=g3.next;simp(disch:=first|omega|(simp only[RY]<;>omega)|decide)only[↓RD,RZ,eq_self,Int.reduceToNat,Int.reduceAdd,Nat.reduceAdd,Nat.reduceSub,Nat.reduceMul,Nat.reduceLeDiff,gr3,zcY,zaD,hml2,hsp2,l32,hrl];exact⟨by rw[zam];omega,λi hi=>by rw[zaj _ _ (by omega),g3.same i (by omega),s1.same i (by omega)]⟩
def zgG{H:Heap}(n k:Nat)(hn:n<18446744073709551616)(hk:k<=16):Ok (sem T zbs [.int .u64 (n:Nat),.int .i64 (k:Nat)]) H λr H'=>Ab H.next H' r (num n k)/\Grow H H':=by
 refine zm4 ?_;unfold zjs uB uR uc ug;simp(disch:=omega)only[↓RD,RZ];refine zaS (λm L H'=>∃w,L=[w,.int .i64 ((k:Int)-1-(m:Nat))]/\Ab H.next H' w ((bn k n).take m)/\Bel H.next H H') k ?_ ?_ ?_
 ·exact⟨.nils,by simp,Ab.nil,Bel.refl _ _⟩
 ·rintro m L H1 hm ⟨w,rfl,ha,hb⟩;have e1:(k:Int)-1-(m:Nat)=((k-1-m:Nat):Int):=by omega
  have e2:(8:Int)*((k-1-m:Nat):Int)=((8*(k-1-m):Nat):Int):=by omega
  have e3:shr n (8*(k-1-m))=n/256 ^ (k-1-m):=by rw[zid,yaP,ydo]
  have hlo1:=hb.next;have hbg:=bn_get k n m hm;rw[e1];generalize hw:k-1-m=w' at *;have e8:IntKind.u8.wrap ((n/256 ^ w':Nat):Int)=((n/256 ^ w'%256:Nat):Int):=by rw[wrap_u8];rfl
  unfold zeJ uL uB uK uc ub ug;simp(disch:=omega)only[↓RD,RZ,e2,e3,e8];refine okb_ab (m:=[n/256 ^ w'%256]) (ha.keep ((Grow.new _ _).keep _)) (by rw[zae];omega) (zcF rfl) (by rw[yaq,bn_len];simp;omega) λw2 H2 h2 hb2=>?_;simp(disch:=omega)only[↓RD,RZ];refine⟨w2,by rw[show((w':Nat):Int)-1=(k:Int)-1-((m+1:Nat):Int) by omega],?_,hb.trans (((Grow.new _ _).bel (by omega)).trans hb2)⟩;rw[take_snoc (by rw[bn_len];exact hm),hbg];exact h2
 ·rintro L H1 ⟨w,rfl,ha,hb⟩;have e1:(k:Int)-1-(k:Nat) = -1:=by omega
  rw[e1];unfold zeJ uL uB uK uc ub ug;simp(disch:=omega)only[↓RD,RZ];rw[yaj (by rw[bn_len];exact yag _)]at ha;exact⟨ha,hb.grow⟩
def zuH{H:Heap}{lo lo':Nat}{sv iv:V}{zaY info:List Nat}{n:Nat}(hs:By lo H sv zaY)(hs8:Ok8 zaY)(hsl:zaY.length<=1099511627776)(hi:By lo' H iv info)(hi8:Ok8 info)(hil:info.length<=1099511000000)(hn:n<=8160) :
  Ok (sem T zbD [sv,iv,.int .i64 (n:Nat)]) H λr H'=>∃v,r = .tup [v,.int .i64 0]/\By H.next H' v ((hkdf kc zaY info ((n+31)/32)).1.take n)/\Grow H H'/\(0<n->∃id,v = .sl id 0 n (.opn 1)/\H'.get id=some ⟨zab,((hkdf kc zaY info ((n+31)/32)).1.take n).map by8,some 1⟩/\H.next<=id/\id<H'.next):=by
 refine zpQ ?_;unfold zlX uL uB uR uK uc ub ug;simp(disch:=omega)only[↓RD,RZ,eq_self,seval];refine zao (Q:=λr H'=>∃w,r = .ex 1 [w]/\Ab H.next H' w (hkdf kc zaY info ((n+31)/32)).1/\Grow H H') ?_ ?_
 ·refine zaS (λj L H'=>∃w l,L=[w,l,.int .u8 ((j+1)%256:Nat)]/\Ab H.next H' w (hkdf kc zaY info j).1/\By 0 H' l (hkdf kc zaY info j).2/\Grow H H') ((n+31)/32) ?_ ?_ ?_
  ·exact⟨.nils,.nils,rfl,Ab.nil,Lc.nil,Grow.refl _⟩
  ·rintro j L H1 hj ⟨w,l,rfl,aw,al,s1⟩;have hwl:=aw.by.vlen;have h1:=zga kc zaY info j;have h2:=zjQ kc zaY info j;rw[h1]at hwl;have hjn:((32*j:Nat):Int)<((n:Nat):Int):=by omega
   have hj1:(j+1)%256=j+1:=yaB (by omega);have hlc:=al.cells1;have hlo:=al.okc;have hic:=hi.cells1;have hio:=hi.okc;have s2:=Grow.new H1 ⟨zab,[.int .u8 (j+1:Nat)],none⟩;have b2:By 0 (H1.new ⟨zab,[.int .u8 (j+1:Nat)],none⟩) (.sl H1.next 0 1 (.fix 1)) [j+1]:=zk5 (l:=[j+1]) (zaf _ _) rfl (yaD _) (by rw[zae];omega);have n1:=s1.next;rw[hj1];unfold zgw uL uT uB uO uA uK ub ug;simp(disch:=omega)only[↓RD,RZ,eq_self,seval,hwl,hjn,hlc,hlo,hic,hio];have n2e:(H1.new ⟨zab,[.int .u8 (j+1:Nat)],none⟩).next=H1.next+1:=zae _ _;generalize hb:V.sl H1.next 0 1 (.fix 1)=bv at *;generalize H1.new _=H2 at *;have s3:=Grow.new H2 ⟨zal,[l,iv,bv],none⟩;have l3:Lc 1 0 (H2.new ⟨zal,[l,iv,bv],none⟩) (.sl H2.next 0 3 (.fix 3)) [l,iv,bv] 3:=zll (zaf _ _) rfl (by rw[zae];omega);have p3:Pts 0 (H2.new ⟨zal,[l,iv,bv],none⟩) [l,iv,bv] [(hkdf kc zaY info j).2,info,[j+1]]:=
    Pts.cons ((al.ext s2).ext s3) h2.2 (Pts.cons ((((hi.ext s1).ext s2).ext s3).low (yaD _)) hi8 (Pts.cons (b2.ext s3) (λx hx=>by simp only[yao,yap,or_false]at hx;omega) Pts.nil))
   have n2:=s2.next;rw[n2e]at l3;generalize hv3:V.sl (H1.next+1) 0 3 (.fix 3)=v3 at *;generalize H2.new _=H3 at *;have ef:[(hkdf kc zaY info j).2,info,[j+1]].flatten=(hkdf kc zaY info j).2++info++[j+1]:=by simp
   have hl2:(hkdf kc zaY info j).2.length<=32:=by
    cases j with
    | zero=>simp[hkdf]
    | succ j=>exact Nat.le_of_eq (zdQ _ _ _)
   have n3:=s3.next;have s13:Grow H H3:=s1.trans (s2.trans s3);refine zad (zmG (hs.ext s13) hs8 hsl l3 p3 (by simp) (by rw[ef];simp only[yaf,List.length_cons,List.length_nil];omega)) ?_;rintro _ H4 ⟨rfl,s4⟩;rw[ef];have eh:(hkdf kc zaY info (j+1)).2=hmac kc zaY ((hkdf kc zaY info j).2++info++[j+1]):=rfl;have eh1:(hkdf kc zaY info (j+1)).1=(hkdf kc zaY info j).1++hmac kc zaY ((hkdf kc zaY info j).2++info++[j+1]):=rfl;rw[<-eh];rw[<-eh]at eh1;have hhl:(hkdf kc zaY info (j+1)).2.length=32:=zdQ _ _ _;have h28:=(zjQ kc zaY info (j+1)).2;generalize (hkdf kc zaY info (j+1)).2=tg at *;have hml2:(tg.map by8).length=32:=by rw[yah,hhl]
   have hsp2:=sp32 hhl;have b5:By 0 ((H4.new ⟨zak,[(),(),(),(),(),(),(),(),(),(),(),(),(),(),(),(),(),(),(),(),(),(),(),(),(),(),(),(),(),(),(),()],none⟩).set H4.next (some ⟨zak,tg.map by8,none⟩)) (.sl H4.next 0 32 (.fix 32)) tg:=zk5 (zai _ _ _) hhl (yaD _) (by rw[zam,zae];omega);have s5:Grow H4 ((H4.new ⟨zak,[(),(),(),(),(),(),(),(),(),(),(),(),(),(),(),(),(),(),(),(),(),(),(),(),(),(),(),(),(),(),(),()],none⟩).set H4.next (some ⟨zak,tg.map by8,none⟩)):=(Grow.new _ _).set (yag _) _;have n4:=s4.next;simp(disch:=omega)only[↓RD,RZ,eq_self,seval,zcY,zaD,hml2,hsp2,zoI];generalize hv5:V.sl H4.next 0 32 (.fix 32)=v5 at *;have hd5:∀i,w.pid=some i->v5.pid≠some i:=λi h=>by
    rw[<-hv5];have:=(aw.by.own i h).2;simp only[V.pid,ne_eq,yaa];omega
   generalize (H4.new _).set _ _=H5 at *;have s15:Grow H1 H5:=s2.trans (s3.trans (s4.trans s5));have n5:=s5.next;refine okb_ab' (aw.keep (s15.keep _)) (by omega) b5.ac (by rw[h1,hhl];omega) λw' H6 aw6 b6 s6=>?_;have ew:IntKind.u8.wrap (((j+1:Nat):Int)+1)=(((j+1+1)%256:Nat):Int):=by rw[wrap_u8];rfl
   simp(disch:=omega)only[↓RD,RZ,eq_self,seval,ew];refine⟨w',v5,rfl,?_,?_,⟨by have:=b6.next;omega,λi hi=>by rw[b6.same i hi,s15.same i (by omega),s1.same i hi]⟩⟩
   ·rw[eh1];exact aw6
   ·exact b5.stepF s6 λi hi hF=>hd5 i (zbP.1 hF) hi
  ·rintro L H1 ⟨w,l,rfl,aw,al,s1⟩;have hwl:=aw.by.vlen;rw[zga]at hwl;have hjn:((n:Nat):Int)<=((32*((n+31)/32):Nat):Int):=by omega
   unfold zgw uL uT uB uO uA uK ub ug;simp(disch:=omega)only[↓RD,RZ,eq_self,seval,hwl,hjn];exact⟨w,rfl,aw,s1⟩
 ·rintro _ H1 ⟨w,rfl,aw,s1⟩;have hwl:=zga kc zaY info ((n+31)/32);obtain⟨va,-,ha,-,hva,pa⟩:=by_slice aw.by (x:=0) (y:=((n:Nat):Int)) (by omega) (by omega) (by rw[hwl];omega);have ha2:∀{k':IntKind},zat .sl 1 w none (some (.int k' ((n:Nat):Int))) none=some va:=ha rfl;have e0:(0:Int).toNat=0:=rfl;rw[e0,yaA,yan,ych]at hva;have n1:=s1.next;simp(disch:=omega)only[↓RD,RZ,eq_self,seval,ha2];have hln:((hkdf kc zaY info ((n+31)/32)).1.take n).length=n:=by rw[yaq,hwl];omega
  refine zsG hva.ac (by rw[yah,ya5]) (by rw[hln];omega) (by rw[hln];omega) λv' H2 o2 t2 f2=>?_;have a2:Ab H1.next H2 v' ((hkdf kc zaY info ((n+31)/32)).1.take n):=.app (.opn o2 f2);have b2:Grow H1 H2:=⟨t2.next,λi hi=>t2.same i hi (by simp)⟩;simp(disch:=omega)only[↓RD,RZ,eq_self,seval];refine⟨v',rfl,a2.by.low (by omega),s1.trans b2,λh0=>?_⟩;rcases o2 with⟨rfl,-,h⟩|⟨id,rfl,hg,-⟩
  ·rw[hln]at h;omega
  ·have:=f2 id rfl;exact⟨id,by rw[hln],hg,by omega,by omega⟩
def zn3{H:Heap}{lo lo':Nat}{sv iv:V}{zaY info:List Nat}{n:Nat}(hs:By lo H sv zaY)(hs8:Ok8 zaY)(hsl:zaY.length<=1099511627776)(hi:By lo' H iv info)(hi8:Ok8 info)(hil:info.length<=1099511000000)(hn:n<=8160) :
  Ok (sem T zbD [sv,iv,.int .i64 (n:Nat)]) H λr H'=>∃v,r = .tup [v,.int .i64 0]/\By H.next H' v ((hkdf kc zaY info ((n+31)/32)).1.take n)/\Grow H H':=by
 refine zao (zuH hs hs8 hsl hi hi8 hil hn) ?_;rintro r H' ⟨v,e,h,g,_⟩;exact⟨v,e,h,g⟩
/-! Products with three,boxes,computed. -/
def tchk(n:Nat):Bool:=match Cp.cs 3 zbY [by8 n,.int .u8 3]with
 | some (.int .u8 k)=>k==((t3 n:Nat):Int)
 | _=>false
def zwh:(List.range 256).all tchk=true:=by kernel_rfl
def times_eq{n:Nat}(h:n<256):sem T zbY [by8 n,.int .u8 3]=M.pure (by8 (t3 n)):=by
 have h1:=yaz.1 zwh n (yaZ.2 h);unfold tchk at h1;split at h1
 ·rename_i b hb;rw[zqp hb];simp only[beq_iff_eq]at h1;rw[h1];rfl
 ·cases h1
def bchk(n:Nat):Bool:=match Cp.cs 3 zbX [by8 n]with
 | some (.int .u8 k)=>k==((bx n:Nat):Int)
 | _=>false
def box_all:(List.range 256).all bchk=true:=by kernel_rfl
def box_eq{n:Nat}(h:n<256):sem T zbX [by8 n]=M.pure (by8 (bx n)):=by
 have h1:=yaz.1 box_all n (yaZ.2 h);unfold bchk at h1;split at h1
 ·rename_i b hb;rw[zqp hb];simp only[beq_iff_eq]at h1;rw[h1];rfl
 ·cases h1
def bg{l:List Nat}{i:Nat}(h:i<l.length):(l.map by8)[i]?=some (by8 (l.getD i 0)):=by
 rw[yaT,yae h,yak,yae h];rfl
def bga{l:List Nat}{r:List V}{i:Nat}(h:i<l.length):(l.map by8++r)[i]?=some (by8 (l.getD i 0)):=by
 rw[yb2 (by rw[yah];exact h),bg h]
def bset{l:List Nat}{r:List V}{i x:Nat}(h:i<l.length):splice (l.map by8++r) i [by8 x]=(l.set i x).map by8++r:=by
 rw[zmK _ _ _ (by rw[yaf,yah];omega),ycX _ _ (by rw[yah];exact h),<-ydB]
def zoG{a b:Nat}(ha:a<256)(hb:b<256):Ax.bin .xor (by8 a) (by8 b)=some (by8 (a ^^^ b)):=by
 unfold by8;rw[zv6 (by omega) (by omega) (by omega) (by omega)];rfl
def ztm{n id off m:Nat}(h:m<n):Ax.iaddr (some n) 1 (.ptr id off) (by8 m)=some (.ptr id (off+m)):=by
 unfold by8;rw[zui (by omega) (by omega)];simp
def tabC:Bool->List V
 | false=>.int .u32 0 :: .int .i32 0 :: .int .u32 0::List.replicate 256 (.int .u8 0)
 | true=>.int .u32 1 :: .int .i32 0 :: .int .u32 0::sbox.map by8
def zxF{H:Heap}{b k ty:Nat}{x0 x1 x2:V}{r:List V} (hb:H.get b=some ⟨zbv,[.ptr k 0],none⟩) (hk:H.get k=some ⟨ty,x0::x1::x2::((zkH 0).map by8++r),none⟩) (hbk:b≠k) (hbl:b<H.next) (hkl:k<H.next) :
  Ok (sem T zch [.ptr b 0]) H λ_ H'=>H'.get k=some ⟨ty,x0::x1::x2::(sbox.map by8++r),none⟩/\Step H H' [k] [k]:=by
 refine zim ?_;unfold zeW uM uS uT uNF uI uO uU uA uZ uR uc ub;refine zaQ (zdO (by kernel_rfl) ?_);have ez:(V.agg (List.replicate 255 (V.int .u8 0))).cells=List.replicate 255 (V.int .u8 0):=rfl;have s1:=Grow.new H ⟨zcC,List.replicate 255 (.int .u8 0),none⟩;have gp:(H.new ⟨zcC,List.replicate 255 (.int .u8 0),none⟩).get H.next=some ⟨zcC,List.replicate 255 (.int .u8 0),none⟩:=zaf _ _;have n1:(H.new ⟨zcC,List.replicate 255 (.int .u8 0),none⟩).next=H.next+1:=zae _ _;have gb1:=(s1.same b hbl).trans hb;have gk1:=(s1.same k hkl).trans hk;show Ok _ (H.new ⟨zcC,List.replicate 255 (.int .u8 0),none⟩) _;generalize hp:H.next=p at *;generalize H.new _=H1 at *;have hpl:=pwl_len;have hp8:=pwl_lt;simp(disch:=omega)only[↓RD,RZ,eq_self,seval];refine zao (Q:=λx H'=>x = .ex 0 []/\H'.get p=some ⟨zcC,pwl.map by8,none⟩/\At1 p H1 H') ?_ ?_
 ·refine zaS (λj L H'=>∃x,L=[x,.int .i64 (j:Nat)]/\(j<255->x=by8 (pwl.getD j 0))/\H'.get p=some ⟨zcC,(pwl.take j).map by8++List.replicate (255-j) (.int .u8 0),none⟩/\At1 p H1 H') 255 ?_ ?_ ?_
  ·exact⟨_,rfl,λ_=>rfl,gp,At1.refl _ _⟩
  ·rintro j L H2 hj ⟨x,rfl,hx,g2,s2⟩;have hx:=hx hj;subst hx;have hlt:((pwl.take j).map by8).length=j:=by rw[yah,yaq];omega
   have h8:=hp8.getD j;have et:=times_eq h8;have e:=zb0 (z:=.int .u8 0) (x:=by8 (pwl.getD j 0)) hlt hj;have hll:((pwl.take j).map by8++List.replicate (255-j) (V.int .u8 0)).length=255:=by rw[yaf,hlt,yaF];omega
   unfold zcU uB uI uA uK uc ub ug;simp(disch:=omega)only[↓RD,RZ,eq_self,seval,g2,e,et,zg4,zcz,hll];refine⟨by omega,_,rfl,λh=>?_,?_,s2.trans (At1.set p _ _)⟩
   ·rw[pwl_step (by omega)]
   ·rw[take_snoc (by omega)];simp
  ·rintro L H2 ⟨x,rfl,hx,g2,s2⟩;unfold zcU uB uI uA uK uc ub ug;simp(disch:=omega)only[↓RD,RZ,eq_self,seval];refine⟨?_,s2⟩;rw[g2,yaj (by omega)];simp
 ·rintro _ H2 ⟨rfl,gp2,s2⟩;have n2:=s2.next;have gb2:=(s2.same b (by omega) (by omega)).trans gb1;have gk2:=(s2.same k (by omega) (by omega)).trans gk1;have hpm:(pwl.map by8).length=255:=by rw[yah,hpl]
  have l255:ldc (some 255) (pwl.map by8) 0=some (.agg (pwl.map by8)):=by rw[ze0 (by omega),yaA,yaj (by omega)]
  simp(disch:=omega)only[↓RD,RZ,eq_self,seval,gp2,l255];refine zao (Q:=λx H'=>x = .ex 2 []/\H'.get k=some ⟨ty,x0::x1::x2::((zkH 255).map by8++r),none⟩/\At1 k H2 H') ?_ ?_
  ·refine zaS (λj L H'=>L=[.int .i64 (j:Nat)]/\H'.get k=some ⟨ty,x0::x1::x2::((zkH j).map by8++r),none⟩/\At1 k H2 H') 255 ?_ ?_ ?_
   ·exact⟨rfl,gk2,At1.refl _ _⟩
   ·rintro j L H3 hj ⟨rfl,g3,s3⟩;have gb3:=(s3.same b (by omega) hbk).trans gb2;have gp3:=(s3.same p (by omega) (by omega)).trans gp2;have e1:=bg (l:=pwl) (i:=j) (by omega);have e2:=bg (l:=pwl) (i:=(255-j)%255) (by rw[hpl];exact ybc _ (by decide));have e3:(255:Int)-(j:Nat)=((255-j:Nat):Int):=by omega
    have e4:((255-j:Nat):Int)%255=(((255-j)%255:Nat):Int):=by omega
    have eb:=box_eq (hp8.getD ((255-j)%255));have h8:=hp8.getD j;have e5:3+pwl.getD j 0=pwl.getD j 0+1+1+1:=by omega
    have e6:=bset (l:=zkH j) (r:=r) (i:=pwl.getD j 0) (x:=bx (pwl.getD ((255-j)%255) 0)) (by rw[zkG];exact h8);have hlm:((zkH j).map by8++r).length=256+r.length:=by rw[yaf,yah,zkG]
    have hmod:=ybc (255-j) (show 0<255 by decide);have ia:=ztm (id:=k) (off:=3) (n:=256) h8;unfold zcT uL uM uT uNF uB uI uIM uU uA uZ uK uc ug;simp(disch:=omega)only[↓RD,RZ,eq_self,seval,e1,gb3,e3,e4,gp3,e2,eb,ia,e5,g3,zjG,e6,zg4,zcz,hlm];exact⟨by omega,rfl,rfl,s3.trans (At1.set k _ _)⟩
   ·rintro L H3 ⟨rfl,g3,s3⟩;unfold zcT uL uM uT uNF uB uI uIM uU uA uZ uK uc ug;simp(disch:=omega)only[↓RD,RZ,eq_self,seval];exact⟨g3,s3⟩
  ·rintro _ H3 ⟨rfl,g3,s3⟩;have gb3:=(s3.same b (by omega) hbk).trans gb2;have eb:=box_eq (n:=0) (by omega);have n3:=s3.next;have e6:=bset (l:=zkH 255) (r:=r) (i:=0) (x:=bx 0) (by rw[zkG];omega);rw[zyd]at e6;have hlm:((zkH 255).map by8++r).length=256+r.length:=by rw[yaf,yah,zkG]
   have eb0:sem T zbX [.int .u8 0]=M.pure (by8 (bx 0)):=eb;simp(disch:=omega)only[↓RD,RZ,eq_self,seval,gb3,eb0,g3,zjG,e6,zg4,zcz,hlm];refine⟨by omega,⟨by rw[zam];omega,λi hi hF=>?_,λi hi=>.inl hi⟩⟩;simp only[yar]at hF;rw[zaj _ _ hF,s3.same i (by omega) hF,s2.same i (by omega) (by omega),s1.same i (by omega)]
def zxE{H:Heap}{k ty:Nat}{d:Bool}{r:List V} (hk:H.get k=some ⟨ty,tabC d++r,none⟩) (hkl:k<H.next) :
  Ok (sem T zbj [.ptr k 0]) H λx H'=>x = .ptr k 3/\H'.get k=some ⟨ty,tabC true++r,none⟩/\Step H H' [k] [k]:=by
 refine zjM ?_;unfold zgl uM uNF uO uA uR;simp(disch:=omega)only[↓RD,RZ,eq_self,seval];have s1:=Grow.new H ⟨zbv,[.ptr k 0],none⟩;have gb:(H.new ⟨zbv,[.ptr k 0],none⟩).get H.next = _:=zaf _ _;have gk:=(s1.same k hkl).trans hk;have nb:H.next<(H.new ⟨zbv,[.ptr k 0],none⟩).next:=by rw[zae];omega
 have hne:H.next≠k:=by omega
 have n1:=s1.next;generalize hgb:H.next=b at *;generalize H.new _=H1 at *;refine zad (P:=λx H'=>H'.get b=some ⟨zbv,[.ptr k 0],none⟩/\H'.get k=some ⟨ty,tabC true++r,none⟩/\Step H1 H' [k] [k]) ?_ ?_
 ·cases d with
  | true=>
   refine zao (zrk gk rfl) ?_;rintro _ _ ⟨rfl,rfl⟩;exact⟨gb,gk,Step.refl _ _⟩
  | false=>
   refine zao (zrj (P:=λH'=>H'.get b=some ⟨zbv,[.ptr k 0],none⟩/\H'.get k=some ⟨ty,tabC true++r,none⟩/\Step H1 H' [k] [k]) gk rfl rfl ?_) ?_
   ·have e0:List.replicate 256 (V.int .u8 0)=(zkH 0).map by8:=by unfold zkH;rw[ycB];rfl
    have e1:splice (tabC false++r) (0+1) [.int .i32 1] = .int .u32 0 :: .int .i32 1 :: .int .u32 0::((zkH 0).map by8++r):=by
     rw[<-e0];rfl
    refine zao (zxF (k:=k) (ty:=ty) (x0:=.int .u32 0) (x1:=.int .i32 1) (x2:=.int .u32 0) (r:=r) (by rw[zaj _ _ hne];exact gb) (by rw[zai,e1]) hne (by rw[zam];exact nb) (by rw[zam];omega)) ?_;rintro _ H2 ⟨g2,s2⟩;have n2:=s2.next;rw[zam]at n2;have hb2:H2.get b=some ⟨zbv,[.ptr k 0],none⟩:=by rw[s2.same b (by rw[zam];exact nb) (by simpa using hne),zaj _ _ hne];exact gb
    refine⟨_,g2,rfl,rfl,?_,?_,?_⟩
    ·rw[zaj _ _ hne,zaj _ _ hne,hb2]
    ·rw[zai];rfl
    ·exact((Step.set (H:=H1) _ (by simp:k∈[k])).trans s2).trans ((Step.set (H:=H2) _ (by simp:k∈[k])).trans (Step.set _ (by simp)))
   ·rintro _ H2 ⟨_,h2⟩;exact h2
 ·rintro x H2 ⟨g1,g2,s2⟩;simp(disch:=omega)only[↓RD,RZ,eq_self,seval,g1];exact⟨g2,⟨yax (by omega) s2.next,λi hi hF=>by rw[s2.same i (by omega) hF,s1.same i (by omega)],λi hi=>.inl hi⟩⟩
def zvo{H:Heap}{k ty:Nat}{r:List V} (hk:H.get k=some ⟨ty,tabC true++r,none⟩) (hkl:k<H.next) :
  Ok (sem T zbj [.ptr k 0]) H λx H'=>x = .ptr k 3/\Grow H H':=by
 refine zao (zxE hk hkl) ?_;rintro _ H' ⟨rfl,g,s⟩;refine⟨rfl,⟨s.next,λi hi=>?_⟩⟩;by_cases e:i=k
 ·subst e;rw[g,hk]
 ·exact s.same i hi (by simpa using e)
def zpt{n:Nat}(h:n<256):sem T zbh [by8 n]=M.pure (by8 (xt n)):=by
 refine zgE λH=>?_;refine zom ?_;unfold f_block_twice by8 xt uB uR ub uq;by_cases e:128<=n
 ·have e1:n*2%256<256:=ybc _ (by decide);rw[if_pos e];simp(disch:=omega)only[↓RD,RZ,eq_self,seval]
 ·rw[if_neg e,<-yaB (show n*2<256 by omega)];simp(disch:=omega)only[↓RD,RZ,eq_self,seval]
def Aes(H:Heap)(k:Nat) (ws:List (List Nat)):Prop:=∃id,H.get k=some ⟨zaT,tabC true++[.sl id 0 ws.length (.opn 4)],none⟩/\H.get id=some ⟨zaw,ws.flatten.map by8,some 4⟩/\k<H.next/\id<H.next/\∀w∈ws,Word w
def AesB(lo:Nat)(H:Heap)(k:Nat) (ws:List (List Nat)):Prop:=lo<=k/\∃id,(H.get k=some ⟨zaT,tabC true++[.sl id 0 ws.length (.opn 4)],none⟩/\H.get id=some ⟨zaw,ws.flatten.map by8,some 4⟩/\k<H.next/\id<H.next/\∀w∈ws,Word w)/\lo<=id
def AesB.aes{lo:Nat}{H:Heap}{k:Nat} {ws:List (List Nat)} (h:AesB lo H k ws):Aes H k ws:=by
 obtain⟨_,id,h,_⟩:=h;exact⟨id,h⟩
def AesB.keep{lo:Nat}{H H':Heap}{k:Nat} {ws:List (List Nat)} (h:AesB lo H k ws) (g:Keep lo H H'):AesB lo H' k ws:=by
 obtain⟨l,id,⟨h1,h2,h3,h4,h5⟩,m⟩:=h;exact⟨l,id,⟨by rw[g.same k l h3];exact h1,by rw[g.same id m h4];exact h2,yai h3 g.next,yai h4 g.next,h5⟩,m⟩
def AesB.low{lo lo':Nat}{H:Heap}{k:Nat} {ws:List (List Nat)} (h:AesB lo H k ws) (hl:lo'<=lo):AesB lo' H k ws:=by
 obtain⟨l,id,h,m⟩:=h;exact⟨yax hl l,id,h,yax hl m⟩
def Aes.grow{H H':Heap}{k:Nat} {ws:List (List Nat)} (h:Aes H k ws) (g:Grow H H'):Aes H' k ws:=by
 obtain⟨id,h1,h2,h3,h4,h5⟩:=h;exact⟨id,by rw[g.same k h3];exact h1,by rw[g.same id h4];exact h2,yai h3 g.next,yai h4 g.next,h5⟩
def zrB(wv:V):(tabC true++[wv])[259]?=some wv:=by
 rw[ybv (by show(tabC true).length<=259;unfold tabC;simp only[List.length_cons,yah,zkg];omega)];have:(tabC true).length=259:=by unfold tabC;simp only[List.length_cons,yah,zkg]
 rw[this];rfl
def flat4:∀(ws:List (List Nat)),(∀w∈ws,Word w)->ws.flatten.length=4*ws.length:=by
 intro ws
 induction ws with
 | nil=>intro _;rfl
 | cons w ws ih=>
  intro h;rw[ybe,yaf,ih (λw' h'=>h w' (yaN _ h')),(h w (yaQ ..)).1,List.length_cons];omega
def flat4_at:∀(ws:List (List Nat)),(∀w∈ws,Word w)->∀j m:Nat,m<4->ws.flatten.getD (j*4+m) 0=(ws.getD j []).getD m 0:=by
 intro ws
 induction ws with
 | nil=>intro _ j m _;simp
 | cons w ws ih=>
  intro h j m hm;have hw:=(h w (yaQ ..)).1;cases j with
  | zero=>
   rw[ybe,ybH,ya8,yak,yb2 (by omega)];simp
  | succ j=>
   rw[ybe,yak,ybv (by omega),hw,show(j+1)*4+m-4=j*4+m by omega,<-yak,ih (λw' h'=>h w' (yaN _ h')) j m hm];rfl
def zqH {ws:List (List Nat)} (hw:∀w∈ws,Word w) {j m:Nat} (hj:j<ws.length) (hm:m<4):(ws.flatten.map by8)[j*4+m]?=some (by8 ((ws.getD j []).getD m 0)):=by
 rw[bg (by rw[flat4 ws hw];omega),flat4_at ws hw j m hm]
def zv9 {ws:List (List Nat)} (hw:∀w∈ws,Word w) (j m:Nat):(ws.getD j []).getD m 0<256:=by
 refine Ok8.getD ?_ _;rw[yak];cases e:ws[j]? with
 | none=>exact Ok8.nil
 | some w=>exact(hw w (ybb e)).2
def zjn{x:List Nat}(h:x.length=16):(x.map by8).length=16:=by rw[yah,h]
def ld16{l:List Nat}(hl:l.length=16):ldc (some 16) (l.map by8) 0=some (.agg (l.map by8)):=by
 rw[ze0 (by rw[yah];omega),yaA,yaj (by rw[yah];omega)]
def sp16{l:List Nat}(hl:l.length=16){L:List V}(hL:L.length=16):splice L 0 (l.map by8)=l.map by8:=by
 unfold splice;rw[ya4,yaU,yah,hl,yaS (by omega),yaK]
def zwe{x y:List Nat}{i:Nat}(hx:i<x.length):(y.take i++x.drop i).map by8=(y.take i).map by8++by8 (x.getD i 0)::(x.drop (i+1)).map by8:=by
 rw[yaM hx,yak,yae hx,yaC,yaR];rfl
def zse{x y:List Nat}{i:Nat}(hy:i<y.length):(y.take i).map by8++by8 (y.getD i 0)::(x.drop (i+1)).map by8=(y.take (i+1)++x.drop (i+1)).map by8:=by
 rw[take_snoc hy,yaC,yaC];simp
def zdu (ws:List (List Nat)) (r:Nat) (x:List Nat):(addk ws r x).length=16:=by simp[addk]
def ziZ(x:List Nat):(movd x).length=16:=by simp[movd]
def zmu(x:List Nat):(mixd x).length=16:=by simp[mixd]
def zuC {ws:List (List Nat)} (hw:∀w∈ws,Word w) {r:Nat} {x:List Nat} (h:Ok8 x):Ok8 (addk ws r x):=Ok8.rmap λi _=>zcG (h.getD i) (zv9 hw _ _)
def zoW(x:List Nat):Ok8 (movd x):=Ok8.rmap λi _=>zu0 _
def mixd_8{x:List Nat}(h:Ok8 x):Ok8 (mixd x):=Ok8.rmap λi _=>zcG (zcG (zcG (zcG (zmB (h.getD _)) (zmB (h.getD _))) (h.getD _)) (h.getD _)) (h.getD _)
def add_ok{H:Heap}{k r:Nat} {ws:List (List Nat)} {x:List Nat} (hA:Aes H k ws) (hx:x.length=16) (h8:Ok8 x) (hr:4*r+3<ws.length) (hwl:ws.length<=1000) :
  Ok (sem T zcO [.ptr k 0,.agg (x.map by8),.int .i64 (r:Nat)]) H λres H'=>res = .agg ((addk ws r x).map by8)/\Grow H H':=by
 refine zmc ?_;unfold ziR uS uT uO uR uc;refine zaQ (zdO (zcY _) ?_);rw[zaD];have s1:=Grow.new H ⟨zac,x.map by8,none⟩;have g1:(H.new ⟨zac,x.map by8,none⟩).get H.next=some ⟨zac,x.map by8,none⟩:=zaf _ _;have n1:(H.new ⟨zac,x.map by8,none⟩).next=H.next+1:=zae _ _;generalize ha:H.next=a at *;generalize H.new _=H1 at *;have s2:=Grow.new H1 ⟨zac,[(),(),(),(),(),(),(),(),(),(),(),(),(),(),(),()],none⟩;have g2:(H1.new ⟨zac,[(),(),(),(),(),(),(),(),(),(),(),(),(),(),(),()],none⟩).get H1.next=some ⟨zac,[(),(),(),(),(),(),(),(),(),(),(),(),(),(),(),()],none⟩:=zaf _ _;have n2:(H1.new ⟨zac,[(),(),(),(),(),(),(),(),(),(),(),(),(),(),(),()],none⟩).next=H1.next+1:=zae _ _;have ga2:=(s2.same a (by omega)).trans g1;have hA2:=(hA.grow s1).grow s2;simp(disch:=omega)only[↓RD,RZ,eq_self,seval];generalize hb:H1.next=b at *;generalize H1.new _=H2 at *;obtain⟨id,k1,k2,k3,k4,hw⟩:=hA2;have hkk:k<a/\id<a:=by
  obtain⟨id',k1',k2',k3',k4',hw'⟩:=hA;have e1:=(s2.same k (by omega)).trans ((s1.same k (by omega)).trans k1');rw[k1]at e1;injection e1 with e1
  injection e1 with _ e1 _
  have e2:=List.append_cancel_left e1;injection e2 with e2
  injection e2 with e2
  omega
 refine zao (Q:=λz H'=>z = .ex 0 []/\H'.get a=some ⟨zac,(addk ws r x).map by8,none⟩/\At1 a H2 H') ?_ ?_
 ·refine zaS (λi L H'=>L=[.int .i64 (i:Nat)]/\H'.get a=some ⟨zac,((addk ws r x).take i++x.drop i).map by8,none⟩/\At1 a H2 H') 16 ?_ ?_ ?_
  ·exact⟨rfl,by simpa using ga2,At1.refl _ _⟩
  ·rintro i L H3 hi ⟨rfl,g3,s3⟩;have gk3:=(s3.same k (by omega) (by omega)).trans k1;have gi3:=(s3.same id (by omega) (by omega)).trans k2;have hal:=zdu ws r x;have hA':(((addk ws r x).take i).map by8).length=i:=by rw[yah,yaq];omega
   rw[zwe (by omega)]at g3;have m1:=zpW (b:=by8 (x.getD i 0)) (C:=(x.drop (i+1)).map by8) hA';have m2:=zpV (b:=by8 (x.getD i 0)) (y:=by8 ((addk ws r x).getD i 0)) (C:=(x.drop (i+1)).map by8) hA';have ml:(((addk ws r x).take i).map by8++by8 (x.getD i 0)::(x.drop (i+1)).map by8).length=16:=by rw[yaf,hA',List.length_cons,yah,yas];omega
   have ek:=zrB (.sl id 0 ws.length (.opn 4));have e1:(4:Int)*(r:Nat)=((4*r:Nat):Int):=by omega
   have e2:((i:Nat):Int)/4=((i/4:Nat):Int):=by omega
   have e3:((4*r:Nat):Int)+((i/4:Nat):Int)=((4*r+i/4:Nat):Int):=by omega
   have e4:((i:Nat):Int)%4=((i%4:Nat):Int):=by omega
   have hm4:=ybc i (show 0<4 by decide);have wb:=zqH hw (j:=4*r+i/4) (m:=i%4) (by omega) hm4;have ex:=zoG (h8.getD i) (zv9 hw (4*r+i/4) (i%4));have ea:x.getD i 0 ^^^ (ws.getD (4*r+i/4) []).getD (i%4) 0=(addk ws r x).getD i 0:=by unfold addk;rw[zdR hi]
   rw[ea]at ex;unfold zei uT uNFM uB uI uIM uK uc ug;simp(disch:=omega)only[↓RD,RZ,eq_self,seval,g3,m1,gk3,ek,e1,e2,e3,e4,gi3,wb,ex,m2,ml,zg4,zcz];refine⟨by omega,rfl,?_,s3.trans (At1.set a _ _)⟩;rw[zse (by omega)]
  ·rintro L H3 ⟨rfl,g3,s3⟩;unfold zei uT uNFM uB uI uIM uK uc ug;simp(disch:=omega)only[↓RD,RZ,eq_self,seval];refine⟨?_,s3⟩;rw[g3,yaj (by rw[zdu];omega),yaS (by omega),yaK]
 ·rintro _ H3 ⟨rfl,g3,s3⟩;have n3:=s3.next;have gb3:=(s3.same b (by omega) (by omega)).trans g2;have hal:=zdu ws r x;have l1:=ld16 hal;have l2:=sp16 hal (L:=[(),(),(),(),(),(),(),(),(),(),(),(),(),(),(),()]) rfl;have l3:=zjn hal;simp(disch:=omega)only[↓RD,RZ,eq_self,seval,g3,l1,gb3,zcY,zaD,l2,l3];exact⟨by rw[zam];omega,λi hi=>by rw[zaj _ _ (by omega),s3.same i (by omega) (by omega),s2.same i (by omega),s1.same i (by omega)]⟩
def tab_at{wv:V}{n:Nat}(h:n<256):(tabC true++[wv])[3+n]?=some (by8 (sb n)):=by
 have e:tabC true++[wv] = .int .u32 1 :: .int .i32 0 :: .int .u32 0::(sbox.map by8++[wv]):=rfl;rw[e,show 3+n=n+1+1+1 by omega];rw[ybi,ybi,ybi,bga (by rw[zkg];exact h)];rfl
def moved_ok{H:Heap}{k:Nat} {ws:List (List Nat)} {x:List Nat} (hA:Aes H k ws) (hx:x.length=16) (h8:Ok8 x) :
  Ok (sem T zcX [.ptr k 0,.agg (x.map by8)]) H λres H'=>res = .agg ((movd x).map by8)/\Grow H H':=by
 refine zkp ?_;unfold zgY uS uT uNF uO uA uR uc;refine zaQ (zdO (zcY _) ?_);rw[zaD];have s1:=Grow.new H ⟨zac,x.map by8,none⟩;have g1:(H.new ⟨zac,x.map by8,none⟩).get H.next=some ⟨zac,x.map by8,none⟩:=zaf _ _;have n1:(H.new ⟨zac,x.map by8,none⟩).next=H.next+1:=zae _ _;generalize ha:H.next=a at *;generalize H.new _=H1 at *;have s2:=Grow.new H1 ⟨zac,[(),(),(),(),(),(),(),(),(),(),(),(),(),(),(),()],none⟩;have g2:(H1.new ⟨zac,[(),(),(),(),(),(),(),(),(),(),(),(),(),(),(),()],none⟩).get H1.next=some ⟨zac,[(),(),(),(),(),(),(),(),(),(),(),(),(),(),(),()],none⟩:=zaf _ _;have n2:(H1.new ⟨zac,[(),(),(),(),(),(),(),(),(),(),(),(),(),(),(),()],none⟩).next=H1.next+1:=zae _ _;have ga2:=(s2.same a (by omega)).trans g1;have hA2:=(hA.grow s1).grow s2;simp(disch:=omega)only[↓RD,RZ];generalize hb:H1.next=b at *;generalize H1.new _=H2 at *;obtain⟨id,k1,k2,k3,k4,hw⟩:=hA2;refine zad (zvo k1 k3) ?_;rintro _ H3 ⟨rfl,s3⟩;have n3:=s3.next;have gk3:=(s3.same k k3).trans k1;have ga3:=(s3.same a (by omega)).trans ga2;have gb3:=(s3.same b (by omega)).trans g2;have s4:=Grow.new H3 ⟨zac,[(),(),(),(),(),(),(),(),(),(),(),(),(),(),(),()],none⟩;have g4:(H3.new ⟨zac,[(),(),(),(),(),(),(),(),(),(),(),(),(),(),(),()],none⟩).get H3.next=some ⟨zac,List.replicate 16 (.int .u8 0),none⟩:=zaf _ _;have n4:(H3.new ⟨zac,[(),(),(),(),(),(),(),(),(),(),(),(),(),(),(),()],none⟩).next=H3.next+1:=zae _ _;have gk4:=(s4.same k (by omega)).trans gk3;have ga4:=(s4.same a (by omega)).trans ga3;have gb4:=(s4.same b (by omega)).trans gb3;simp(disch:=omega)only[↓RD,RZ];generalize hc:H3.next=c at *;generalize H3.new _=H4 at *;have hml:=ziZ x;refine zao (Q:=λz H'=>z = .ex 0 []/\H'.get c=some ⟨zac,(movd x).map by8,none⟩/\At1 c H4 H') ?_ ?_
 ·refine zaS (λi L H'=>L=[.int .i64 (i:Nat)]/\H'.get c=some ⟨zac,((movd x).take i).map by8++List.replicate (16-i) (.int .u8 0),none⟩/\At1 c H4 H') 16 ?_ ?_ ?_
  ·exact⟨rfl,by simpa using g4,At1.refl _ _⟩
  ·rintro i L H5 hi ⟨rfl,g5,s5⟩;have gk5:=(s5.same k (by omega) (by omega)).trans gk4;have ga5:=(s5.same a (by omega) (by omega)).trans ga4;have hl0:(((movd x).take i).map by8).length=i:=by rw[yah,yaq];omega
   have x0:=zb0 (z:=.int .u8 0) (x:=by8 ((movd x).getD i 0)) hl0 hi;have ml:(((movd x).take i).map by8++List.replicate (16-i) (V.int .u8 0)).length=16:=by rw[yaf,hl0,yaF];omega
   have e1:((i:Nat):Int)%4=((i%4:Nat):Int):=by omega
   have e2:(4:Int)*((i%4:Nat):Int)=((4*(i%4):Nat):Int):=by omega
   have e3:((i:Nat):Int)+((4*(i%4):Nat):Int)=((i+4*(i%4):Nat):Int):=by omega
   have e4:((i+4*(i%4):Nat):Int)%16=(((i+4*(i%4))%16:Nat):Int):=by omega
   have hm:=ybc (i+4*(i%4)) (show 0<16 by decide);have hm4:=ybc i (show 0<4 by decide);have eg:=bg (l:=x) (i:=(i+4*(i%4))%16) (by omega);have hb8:=h8.getD ((i+4*(i%4))%16);have ia:=ztm (id:=k) (off:=3) (n:=256) hb8;have et:=tab_at (wv:=.sl id 0 ws.length (.opn 4)) hb8;have em:sb (x.getD ((i+4*(i%4))%16) 0)=(movd x).getD i 0:=by unfold movd;rw[zdR hi]
   rw[em]at et;unfold zdz uT uN uB uI uIM uK uc ug;simp(disch:=omega)only[↓RD,RZ,e1,e2,e3,e4,ga5,eg,ia,gk5,et,g5,x0,ml,zg4,zcz];refine⟨by omega,rfl,?_,s5.trans (At1.set c _ _)⟩;rw[take_snoc (by omega)];simp
  ·rintro L H5 ⟨rfl,g5,s5⟩;unfold zdz uT uN uB uI uIM uK uc ug;simp(disch:=omega)only[↓RD,RZ];refine⟨?_,s5⟩;rw[g5,yaj (by omega)];simp
 ·rintro _ H5 ⟨rfl,g5,s5⟩;have n5:=s5.next;have gb5:=(s5.same b (by omega) (by omega)).trans gb4;have l1:=ld16 hml;have l2:=sp16 hml (L:=[(),(),(),(),(),(),(),(),(),(),(),(),(),(),(),()]) rfl;have l3:=zjn hml;simp(disch:=omega)only[↓RD,RZ,eq_self,seval,g5,l1,gb5,zcY,zaD,l2,l3];exact⟨by rw[zam];omega,λi hi=>by rw[zaj _ _ (by omega),s5.same i (by omega) (by omega),s4.same i (by omega),s3.same i (by omega),s2.same i (by omega),s1.same i (by omega)]⟩
def mixed_ok{H:Heap}{x:List Nat}(hx:x.length=16)(h8:Ok8 x) :
  Ok (sem T zet [.agg (x.map by8)]) H λres H'=>res = .agg ((mixd x).map by8)/\Grow H H':=by
 refine zon ?_;unfold zkV uS uT uO uR uc;refine zaQ (zdO (zcY _) ?_);rw[zaD];have s1:=Grow.new H ⟨zac,x.map by8,none⟩;have g1:(H.new ⟨zac,x.map by8,none⟩).get H.next=some ⟨zac,x.map by8,none⟩:=zaf _ _;have n1:(H.new ⟨zac,x.map by8,none⟩).next=H.next+1:=zae _ _;generalize ha:H.next=a at *;generalize H.new _=H1 at *;refine zaQ (zdO (by rfl) ?_);have s2:=Grow.new H1 ⟨zac,[(),(),(),(),(),(),(),(),(),(),(),(),(),(),(),()],none⟩;have g2:(H1.new ⟨zac,[(),(),(),(),(),(),(),(),(),(),(),(),(),(),(),()],none⟩).get H1.next=some ⟨zac,[(),(),(),(),(),(),(),(),(),(),(),(),(),(),(),()],none⟩:=zaf _ _;have n2:(H1.new ⟨zac,[(),(),(),(),(),(),(),(),(),(),(),(),(),(),(),()],none⟩).next=H1.next+1:=zae _ _;have ga2:=(s2.same a (by omega)).trans g1;rw[zaD];generalize hb:H1.next=b at *;generalize H1.new _=H2 at *;refine zaQ (zdO (by rfl) ?_);have s4:=Grow.new H2 ⟨zac,[(),(),(),(),(),(),(),(),(),(),(),(),(),(),(),()],none⟩;have g4:(H2.new ⟨zac,[(),(),(),(),(),(),(),(),(),(),(),(),(),(),(),()],none⟩).get H2.next=some ⟨zac,List.replicate 16 (.int .u8 0),none⟩:=zaf _ _;have n4:(H2.new ⟨zac,[(),(),(),(),(),(),(),(),(),(),(),(),(),(),(),()],none⟩).next=H2.next+1:=zae _ _;have ga4:=(s4.same a (by omega)).trans ga2;have gb4:=(s4.same b (by omega)).trans g2;rw[zaD];generalize hc:H2.next=c at *;generalize H2.new _=H4 at *;have hml:=zmu x;simp(disch:=omega)only[↓RD,RZ];refine zao (Q:=λz H'=>z = .ex 0 []/\H'.get c=some ⟨zac,(mixd x).map by8,none⟩/\At1 c H4 H') ?_ ?_
 ·refine zaS (λi L H'=>L=[.int .i64 (i:Nat)]/\H'.get c=some ⟨zac,((mixd x).take i).map by8++List.replicate (16-i) (.int .u8 0),none⟩/\At1 c H4 H') 16 ?_ ?_ ?_
  ·exact⟨rfl,by simpa using g4,At1.refl _ _⟩
  ·rintro i L H5 hi ⟨rfl,g5,s5⟩;have ga5:=(s5.same a (by omega) (by omega)).trans ga4;have hl0:(((mixd x).take i).map by8).length=i:=by rw[yah,yaq];omega
   have x0:=zb0 (z:=.int .u8 0) (x:=by8 ((mixd x).getD i 0)) hl0 hi;have ml:(((mixd x).take i).map by8++List.replicate (16-i) (V.int .u8 0)).length=16:=by rw[yaf,hl0,yaF];omega
   have e1:((i:Nat):Int)%4=((i%4:Nat):Int):=by omega
   have e2:((i:Nat):Int)-((i%4:Nat):Int)=((i-i%4:Nat):Int):=by omega
   have f1:(((i:Nat):Int)+1)%4=(((i+1)%4:Nat):Int):=by omega
   have f2:(((i:Nat):Int)+2)%4=(((i+2)%4:Nat):Int):=by omega
   have f3:(((i:Nat):Int)+3)%4=(((i+3)%4:Nat):Int):=by omega
   have k1:((i-i%4:Nat):Int)+(((i+1)%4:Nat):Int)=((i-i%4+(i+1)%4:Nat):Int):=rfl;have k2:((i-i%4:Nat):Int)+(((i+2)%4:Nat):Int)=((i-i%4+(i+2)%4:Nat):Int):=rfl;have k3:((i-i%4:Nat):Int)+(((i+3)%4:Nat):Int)=((i-i%4+(i+3)%4:Nat):Int):=rfl;have m0:i-i%4<=12:=by omega
   have m1:=ybc (i+1) (show 0<4 by decide);have m2:=ybc (i+2) (show 0<4 by decide);have m3:=ybc (i+3) (show 0<4 by decide);have b0:=bg (l:=x) (i:=i) (by omega);have b1:=bg (l:=x) (i:=i-i%4+(i+1)%4) (by omega);have b2:=bg (l:=x) (i:=i-i%4+(i+2)%4) (by omega);have b3:=bg (l:=x) (i:=i-i%4+(i+3)%4) (by omega);have q0:=h8.getD i;have q1:=h8.getD (i-i%4+(i+1)%4);have q2:=h8.getD (i-i%4+(i+2)%4);have q3:=h8.getD (i-i%4+(i+3)%4);have w0:=zpt q0;have w1:=zpt q1;have x1:=zoG (zmB q0) (zmB q1);have x2:=zoG (zcG (zmB q0) (zmB q1)) q1;have x3:=zoG (zcG (zcG (zmB q0) (zmB q1)) q1) q2;have x4:=zoG (zcG (zcG (zcG (zmB q0) (zmB q1)) q1) q2) q3;have em:xt (x.getD i 0) ^^^ xt (x.getD (i-i%4+(i+1)%4) 0) ^^^ x.getD (i-i%4+(i+1)%4) 0 ^^^ x.getD (i-i%4+(i+2)%4) 0 ^^^ x.getD (i-i%4+(i+3)%4) 0=(mixd x).getD i 0:=by unfold mixd;rw[zdR hi]
   rw[em]at x4;unfold zfO uM uT uB uI uIM uU uA uZ uK uc ug;simp(disch:=omega)only[↓RD,RZ,e1,e2,f1,f2,f3,k1,k2,k3,ga5,b0,b1,b2,b3,w0,w1,x1,x2,x3,x4,g5,x0,ml,zg4,zcz];refine⟨by omega,rfl,?_,s5.trans (At1.set c _ _)⟩;rw[take_snoc (by omega)];simp
  ·rintro L H5 ⟨rfl,g5,s5⟩;unfold zfO uM uT uB uI uIM uU uA uZ uK uc ug;simp(disch:=omega)only[↓RD,RZ];refine⟨?_,s5⟩;rw[g5,yaj (by omega)];simp
 ·rintro _ H5 ⟨rfl,g5,s5⟩;have n5:=s5.next;have gb5:=(s5.same b (by omega) (by omega)).trans gb4;have l1:=ld16 hml;have l2:=sp16 hml (L:=[(),(),(),(),(),(),(),(),(),(),(),(),(),(),(),()]) rfl;have l3:=zjn hml;simp(disch:=omega)only[↓RD,RZ,eq_self,seval,g5,l1,gb5,zcY,zaD,l2,l3];exact⟨by rw[zam];omega,λi hi=>by rw[zaj _ _ (by omega),s5.same i (by omega) (by omega),s4.same i (by omega),s2.same i (by omega),s1.same i (by omega)]⟩
def arnd_len {ws:List (List Nat)} {x:List Nat} (n:Nat):(arnd ws x n).length=16:=by
 cases n with
 | zero=>exact zdu _ _ _
 | succ n=>exact zdu _ _ _
def arnd_8 {ws:List (List Nat)} (hw:∀w∈ws,Word w) {x:List Nat} (h:Ok8 x) (n:Nat):Ok8 (arnd ws x n):=by
 cases n with
 | zero=>exact zuC hw h
 | succ n=>exact zuC hw (mixd_8 (zoW _))
def bst (ws:List (List Nat)) (x:List Nat) (i:Nat):List Nat:=if i<ws.length/4-1 then arnd ws x i else aes ws x
def Block_ok{H:Heap}{k:Nat} {ws:List (List Nat)} {x:List Nat} (hA:Aes H k ws) (hx:x.length=16) (h8:Ok8 x) (hwl:ws.length<=1000) (hw4:ws.length%4=0) (hw8:8<=ws.length) :
  Ok (sem T zci [.ptr k 0,.agg (x.map by8)]) H λres H'=>res = .agg ((aes ws x).map by8)/\Grow H H':=by
 have hw:∀w∈ws,Word w:=by obtain⟨_,_,_,_,_,hw⟩:=hA;exact hw
 refine zkq ?_;unfold zgZ uL uS uT uNFM uB uO uA uR uc;refine zaQ (zdO (zcY _) ?_);rw[zaD];have s1:=Grow.new H ⟨zac,x.map by8,none⟩;have g1:(H.new ⟨zac,x.map by8,none⟩).get H.next=some ⟨zac,x.map by8,none⟩:=zaf _ _;have n1:(H.new ⟨zac,x.map by8,none⟩).next=H.next+1:=zae _ _;generalize ha:H.next=a at *;generalize H.new _=H1 at *;refine zaQ (zdO (by rfl) ?_);have s2:=Grow.new H1 ⟨zac,[(),(),(),(),(),(),(),(),(),(),(),(),(),(),(),()],none⟩;have g2:(H1.new ⟨zac,[(),(),(),(),(),(),(),(),(),(),(),(),(),(),(),()],none⟩).get H1.next=some ⟨zac,[(),(),(),(),(),(),(),(),(),(),(),(),(),(),(),()],none⟩:=zaf _ _;have n2:(H1.new ⟨zac,[(),(),(),(),(),(),(),(),(),(),(),(),(),(),(),()],none⟩).next=H1.next+1:=zae _ _;have ga2:=(s2.same a (by omega)).trans g1;have hA2:=(hA.grow s1).grow s2;rw[zaD];generalize hb:H1.next=b at *;generalize H1.new _=H2 at *;obtain⟨id,k1,k2,k3,k4,-⟩:=id hA2;have ek:=zrB (.sl id 0 ws.length (.opn 4));have e1:((ws.length:Nat):Int)/4=((ws.length/4:Nat):Int):=by omega
 have e2:((ws.length/4:Nat):Int)-1=((ws.length/4-1:Nat):Int):=by omega
 have l1:=ld16 hx;simp(disch:=omega)only[↓RD,RZ,k1,ek,e1,e2,ga2,l1];have hlast:ws.length/4-1+1=ws.length/4:=by omega
 have hAg:∀H',Grow H H'->Aes H' k ws:=λH' g=>hA.grow g;have ad:=add_ok (r:=0) hA2 hx h8 (by omega) hwl;refine zad ad ?_;rintro _ H3 ⟨rfl,s3⟩;have n3:=s3.next;have ga3:=(s3.same a (by omega)).trans ga2;have gb3:=(s3.same b (by omega)).trans g2;have l2:=sp16 (zdu ws 0 x) (L:=x.map by8) (zjn hx);have l3:=zjn (zdu ws 0 x);simp(disch:=omega)only[↓RD,RZ,eq_self,seval,ga3,zcY,zaD,l2,l3,zjn hx];have gH3:Grow H (H3.set a (some ⟨zac,(addk ws 0 x).map by8,none⟩)):=(((s1.trans s2).trans s3)).set (by omega) _;have gb4:(H3.set a (some ⟨zac,(addk ws 0 x).map by8,none⟩)).get b = _:=(zaj _ _ (by omega)).trans gb3;have ga4:(H3.set a (some ⟨zac,(addk ws 0 x).map by8,none⟩)).get a = _:=zai _ _ _;have n4:H3.next=(H3.set a (some ⟨zac,(addk ws 0 x).map by8,none⟩)).next:=rfl;generalize H3.set a _=H4 at *;have gA:∀H',At1 a H4 H'->Grow H H':=λH' g=>⟨yax gH3.next g.next,λi hi=>by rw[g.same i (by omega) (by omega),gH3.same i hi]⟩;have bl:∀i,(bst ws x i).length=16:=λi=>by unfold bst;split;exact arnd_len _;exact zdu _ _ _
 have b8:∀i,Ok8 (bst ws x i):=λi=>by unfold bst;split;exact arnd_8 hw h8 _;exact zuC hw (zoW _)
 refine zao (Q:=λz H'=>z = .ex 0 []/\H'.get a=some ⟨zac,(aes ws x).map by8,none⟩/\At1 a H4 H') ?_ ?_
 ·refine zaS (λi L H'=>L=[.int .i64 ((i+1:Nat):Int)]/\H'.get a=some ⟨zac,(bst ws x i).map by8,none⟩/\At1 a H4 H') (ws.length/4-1) ?_ ?_ ?_
  ·refine⟨rfl,?_,At1.refl _ _⟩;unfold bst;rw[if_pos (by omega)];exact ga4
  ·rintro i L H5 hi ⟨rfl,ga5,s5⟩;have n5:=s5.next;have e5:((i+1:Nat):Int)+1=((i+1+1:Nat):Int):=rfl;have l1:=ld16 (bl i);unfold zdA uS uT uB uA uK uc ug;simp(disch:=omega)only[↓RD,RZ,ga5,l1];refine zad (moved_ok (hAg _ (gA _ s5)) (bl i) (b8 i)) ?_;rintro _ H6 ⟨rfl,s6⟩;have n6:=s6.next;have ga6:=(s6.same a (by omega)).trans ga5;have l2:=sp16 (ziZ (bst ws x i)) (L:=(bst ws x i).map by8) (zjn (bl i));have l3:=zjn (ziZ (bst ws x i));have l4:=zjn (bl i);have l5:=ld16 (ziZ (bst ws x i));simp(disch:=omega)only[↓RD,RZ,eq_self,seval,ga6,zcY,zaD,l2,l3,l4];have s7:At1 a H4 (H6.set a (some ⟨zac,(movd (bst ws x i)).map by8,none⟩)):=(s5.trans (s6.at1 a)).trans (At1.set a _ _);have ga7:(H6.set a (some ⟨zac,(movd (bst ws x i)).map by8,none⟩)).get a = _:=zai _ _ _;generalize H6.set a _=H7 at *;have n7:=s7.next;refine zao (Q:=λz H'=>z = .nrm []/\H'.get a=some ⟨zac,(if i+1<ws.length/4-1 then mixd (movd (bst ws x i)) else movd (bst ws x i)).map by8,none⟩/\At1 a H4 H') ?_ ?_
   ·refine zcm (λh=>?_) (λh=>?_)
    ·simp(disch:=omega)only[↓RD,RZ,ga7,l5];refine zad (mixed_ok (ziZ _) (zoW _)) ?_;rintro _ H8 ⟨rfl,s8⟩;have n8:=s8.next;have ga8:=(s8.same a (by omega)).trans ga7;have m2:=sp16 (zmu (movd (bst ws x i))) (L:=(movd (bst ws x i)).map by8) l3;have m3:=zjn (zmu (movd (bst ws x i)));simp(disch:=omega)only[↓RD,RZ,eq_self,seval,ga8,zcY,zaD,m2,m3,l3];exact⟨by rw[if_pos (by omega)],(s7.trans (s8.at1 a)).trans (At1.set a _ _)⟩
    ·simp(disch:=omega)only[↓RD,RZ];rw[if_neg (by omega)];exact⟨ga7,s7⟩
   ·rintro _ H8 ⟨rfl,ga8,s8⟩;have n8:=s8.next;generalize hy:(if i+1<ws.length/4-1 then mixd (movd (bst ws x i)) else movd (bst ws x i))=y at *;have yl:y.length=16:=by rw[<-hy];split;exact zmu _;exact ziZ _
    have y8:Ok8 y:=by rw[<-hy];split;exact mixd_8 (zoW _);exact zoW _
    have m1:=ld16 yl;simp(disch:=omega)only[↓RD,RZ,ga8,m1];refine zad (add_ok (r:=i+1) (hAg _ (gA _ s8)) yl y8 (by omega) hwl) ?_;rintro _ H9 ⟨rfl,s9⟩;have n9:=s9.next;have ga9:=(s9.same a (by omega)).trans ga8;have m2:=sp16 (zdu ws (i+1) y) (L:=y.map by8) (zjn yl);have m3:=zjn (zdu ws (i+1) y);have m4:=zjn yl;simp(disch:=omega)only[↓RD,RZ,eq_self,seval,ga9,zcY,zaD,m2,m3,m4,e5];refine⟨?_,(s8.trans (s9.at1 a)).trans (At1.set a _ _)⟩
    ·congr 3;rw[<-hy];unfold bst;rw[if_pos hi];by_cases h:i+1<ws.length/4-1
     ·rw[if_pos h,if_pos h];rfl
     ·rw[if_neg h,if_neg h];unfold aes;rw[show ws.length/4-2=i by omega,show ws.length/4-1=i+1 by omega]
  ·rintro L H5 ⟨rfl,ga5,s5⟩;unfold zdA uS uT uB uA uK uc ug;simp(disch:=omega)only[↓RD,RZ];refine⟨?_,s5⟩;rw[ga5];unfold bst;rw[if_neg (by omega)]
 ·rintro _ H5 ⟨rfl,ga5,s5⟩;have n5:=s5.next;have al:=zdu ws (ws.length/4-1) (movd (arnd ws x (ws.length/4-2)));have l1:=ld16 (l:=aes ws x) al;have l2:=sp16 (l:=aes ws x) al (L:=[(),(),(),(),(),(),(),(),(),(),(),(),(),(),(),()]) rfl;have l3:=zjn (x:=aes ws x) al;have gb6:=(s5.same b (by omega) (by omega)).trans gb4;simp(disch:=omega)only[↓RD,RZ,eq_self,seval,ga5,l1,gb6,zcY,zaD,l2,l3];exact(gA _ s5).set (by omega) _
def zgH(x:Nat):1<=zdh x/\zdh x<=8:=by
 unfold zdh
 repeat' split
 all_goals omega
def zni{x:Nat}(h:x<18446744073709551616):x<256 ^ zdh x:=by
 unfold zdh
 repeat' split
 all_goals omega
def zoU{x:Nat}(h:0<x):256 ^ (zdh x-1)<=x:=by
 unfold zdh
 repeat' split
 all_goals omega
def num_snoc(x n:Nat):num x (n+1)=num (x/256) n++[x%256]:=by
 unfold num;rw[ycr,yaC];congr 1
 ·refine yct λi hi=>?_;rw[yaZ]at hi;rw[ycc,<-Nat.pow_succ'];congr 3;omega
 ·simp
def be_num(n:Nat):∀x:Nat,x<256 ^ n->be (num x n)=x:=by
 induction n with
 | zero=>intro x h;simp at h;subst h;rfl
 | succ n ih=>
  intro x h;rw[num_snoc,be_snoc,ih]
  ·omega
  ·rw[ybu]at h;omega
def num_top{x n:Nat}(h:256 ^ n<=x) (hx:x<256 ^ (n+1)):(num x (n+1)).getD 0 0≠0:=by
 unfold num;rw[zdR (by omega)];have h1:x/256 ^ n<256:=by
  rw[ydz (Nat.pow_pos (by decide))];rw[ybu]at hx;omega
 have h2:1<=x/256 ^ n:=by
  rw[Nat.le_div_iff_mul_le (Nat.pow_pos (by decide))];omega
 show x/256 ^ (n+1-1-0)%256≠0;rw[show n+1-1-0=n by omega];omega
def psz(x:Nat):Nat:=if x<8 then 0 else x-7
def pnum(x:Nat)(b:List Nat):Nat:=if x<8 then x else be b
def zmX(x:Nat)(b:List Nat):Bool:=if x<8 then true else (b.getD 0 0 != 0)&&decide (8<=be b)
inductive PH
 | err (e:Nat)
 | ok (kid ctr n:Nat)
def parse(b:List Nat):PH:=
 if b.length=0 then .err 3
 else
  let k:=b.getD 0 0/16
  let c:=b.getD 0 0%16
  let at':=1+psz k
  let en:=at'+psz c
  if b.length<en then .err 3
  else
   let x:=(b.take at').drop 1
   let y:=(b.take en).drop at'
   if zmX k x&&zmX c y then .ok (pnum k x) (pnum c y) en else .err 2
def zlw(x:Nat):(fld x).1<16/\psz (fld x).1=(fld x).2.length:=by
 unfold fld psz;split
 ·refine⟨by dsimp only;omega,?_⟩;dsimp only
  first|rfl|(rw[if_pos (by omega)];rfl)
 ·have:=zgH x;refine⟨by dsimp only;omega,?_⟩;dsimp only;rw[if_neg (by omega),zea];omega
def zmw{x:Nat}(h:x<18446744073709551616):pnum (fld x).1 (fld x).2=x/\zmX (fld x).1 (fld x).2=true:=by
 unfold fld;split
 ·rename_i hx;dsimp only;unfold pnum zmX;rw[if_pos hx,if_pos hx];exact⟨rfl,rfl⟩
 ·have h1:=zgH x;have h2:=be_num (zdh x) x (zni h);have h3:(num x (zdh x)).getD 0 0≠0:=by
   have a:=zoU (x:=x) (by omega);have b:=zni h;obtain⟨n,hn⟩:∃n,zdh x=n+1:=⟨zdh x-1,by omega⟩;rw[hn]at a b ⊢;exact num_top (by simpa using a) b
  dsimp only;unfold pnum zmX;rw[if_neg (by omega),if_neg (by omega),h2];refine⟨rfl,?_⟩;simp only[yam,bne_iff_ne,ne_eq,decide_eq_true_eq];exact⟨h3,by omega⟩
def zxP(kid ctr:Nat):(hdr kid ctr).length=1+(fld kid).2.length+(fld ctr).2.length:=by
 unfold hdr;simp only[List.length_cons,yaf];omega
def hdr_8(kid ctr:Nat):Ok8 (hdr kid ctr):=by
 unfold hdr;intro x hx;have h1:=(zlw kid).1;have h2:=(zlw ctr).1;have h3:∀x:Nat,Ok8 (fld x).2:=λx=>by
  unfold fld;split
  ·exact Ok8.nil
  ·exact zlJ _ _
 rcases yao.1 hx with rfl|hx
 ·omega
 ·exact(h3 kid).app (h3 ctr) x hx
def zjR(kid ctr:Nat):(hdr kid ctr).length<=17:=by
 have h:∀x:Nat,(fld x).2.length<=8:=λx=>by
  unfold fld;split
  ·simp
  ·dsimp only;rw[zea];exact(zgH x).2
 rw[zxP];have:=h kid;have:=h ctr;omega
def zmZ{kid ctr:Nat}(h1:kid<18446744073709551616)(h2:ctr<18446744073709551616)(r:List Nat):parse (hdr kid ctr++r) = .ok kid ctr (hdr kid ctr).length:=by
 have k1:=zlw kid;have k2:=zlw ctr;have b0:(hdr kid ctr++r).getD 0 0=(fld kid).1*16+(fld ctr).1:=rfl;have hl:=zxP kid ctr;have e1:(hdr kid ctr++r).getD 0 0/16=(fld kid).1:=by rw[b0];omega
 have e2:(hdr kid ctr++r).getD 0 0%16=(fld ctr).1:=by rw[b0];omega
 unfold parse;rw[if_neg (by rw[yaf,hl];omega)];dsimp only;rw[e1,e2,k1.2,k2.2,if_neg (by rw[yaf,hl];omega)];have hh:hdr kid ctr++r=((fld kid).1*16+(fld ctr).1)::((fld kid).2++((fld ctr).2++r)):=by unfold hdr;simp
 have t1:((hdr kid ctr++r).take (1+(fld kid).2.length)).drop 1=(fld kid).2:=by
  rw[show 1+(fld kid).2.length=(fld kid).2.length+1 by omega,hh];rw[ybw,List.drop_one,List.tail_cons,List.take_left]
 have t2:((hdr kid ctr++r).take (1+(fld kid).2.length+(fld ctr).2.length)).drop (1+(fld kid).2.length)=(fld ctr).2:=by
  rw[show 1+(fld kid).2.length+(fld ctr).2.length=((fld kid).2.length+(fld ctr).2.length)+1 by omega,show 1+(fld kid).2.length=(fld kid).2.length+1 by omega,hh];rw[ybw,ybO,<-yaI,ybU (by rw[yaf]),ydr]
 rw[t1,t2,(zmw h1).1,(zmw h1).2,(zmw h2).1,(zmw h2).2,hl];rfl
structure Ky where
 kid:Nat
 t:Nat
 ws:List (List Nat)
 auth:List Nat
 salt:List Nat
def sKey:List Nat:=[83,70,114,97,109,101,32,49,46,48,32,83,101,99,114,101,116,32,107,101,121,32]
def sSalt:List Nat:=[83,70,114,97,109,101,32,49,46,48,32,83,101,99,114,101,116,32,115,97,108,116,32]
def szs:Nat->Option (Nat×Nat)
 | 1=>some (16,10)
 | 2=>some (16,8)
 | 3=>some (16,4)
 | 16=>some (32,10)
 | _=>none
def zaY(base:List Nat):List Nat:=hmac kc [] base
def keyb(id kid n:Nat)(base:List Nat):List Nat:=((hkdf kc (zaY base) (sKey++(num kid 8++num id 2)) 2).1).take (n+32)
def saltb(id kid:Nat)(base:List Nat):List Nat:=((hkdf kc (zaY base) (sSalt++(num kid 8++num id 2)) 1).1).take 12
def drv(id kid n t:Nat)(base:List Nat):Ky:=
 ⟨kid,t,kw ((keyb id kid n base).take n) (n/4) (4*(n/4+7)),(keyb id kid n base).drop n,saltb id kid base⟩
def zcA(salt:List Nat)(c:Nat):List Nat:=(List.range 12).map λi=>(num c 12).getD i 0 ^^^ salt.getD i 0
def first(n:List Nat):List Nat:=n++List.replicate 4 0
def tagm(k:Ky)(n head m b:List Nat):List Nat:=num (head.length+m.length) 8++num b.length 8++num k.t 8++n++head++m++b
def zk8(k:Ky)(n head m b:List Nat):List Nat:=(hmac kc k.auth (tagm k n head m b)).take k.t
def zcd(k:Ky)(c:Nat)(m p:List Nat):List Nat:=
 hdr k.kid c++ctr k.ws (first (zcA k.salt c)) p++zk8 k (zcA k.salt c) (hdr k.kid c) m (ctr k.ws (first (zcA k.salt c)) p)
inductive PO
 | err (e:Nat)
 | ok (p:List Nat) (c:Nat)
def zm3(k:Ky)(b m:List Nat):PO:=
 match parse b with
 | .err e=>.err e
 | .ok kid c n=>
  if kid≠k.kid then .err 10
  else if b.length<n+k.t then .err 3
  else if 1000<b.length-n-k.t then .err 4
  else
   if zk8 k (zcA k.salt c) (b.take n) m ((b.drop n).take (b.length-n-k.t))=b.drop (b.length-k.t) then .ok (ctr k.ws (first (zcA k.salt c)) ((b.drop n).take (b.length-n-k.t))) c
   else .err 8
def zp8 {ws:List (List Nat)} {f b:List Nat} {i:Nat} (h:i<b.length):(ctr ws f b).getD i 0=b.getD i 0 ^^^ zpY ws f i:=by
 unfold ctr;rw[zdR h]
def zqk{a b:List Nat}(h:a.length=b.length)(g:∀i,i<a.length->a.getD i 0=b.getD i 0):a=b:=by
 refine ycN h λi h1 h2=>?_;have:=g i h1;rw[yak,yak,yae h1,yae h2]at this;exact this
def zyo (ws:List (List Nat)) (f b:List Nat):ctr ws f (ctr ws f b)=b:=by
 refine zqk (by rw[zgB,zgB]) λi hi=>?_;rw[zgB,zgB]at hi;rw[zp8 (by rw[zgB];exact hi),zp8 hi,Nat.xor_assoc,ydy,Nat.xor_zero]
def zvq (ws:List (List Nat)) (f:List Nat) (hw:∀w∈ws,Word w) (i:Nat):zpY ws f i<256:=by
 unfold zpY;refine Ok8.getD ?_ _;unfold aes addk;refine Ok8.rmap λj hj=>zcG (Ok8.getD (by unfold movd;exact Ok8.rmap λ_ _=>zu0 _) j) (Ok8.getD ?_ _);rw[yak];cases e:ws[4*(ws.length/4-1)+j/4]? with
 | none=>exact Ok8.nil
 | some w=>exact(hw w (ybb e)).2
def ctr_8 {ws:List (List Nat)} {f b:List Nat} (hw:∀w∈ws,Word w) (h:Ok8 b):Ok8 (ctr ws f b):=Ok8.rmap λi _=>zcG (h.getD i) (zvq _ _ hw i)
def zqO{k:Ky}(ht:k.t<=32)(n head m b:List Nat):(zk8 k n head m b).length=k.t:=by
 unfold zk8;rw[yaq,zdQ];omega
def zsg(k:Ky)(n head m b:List Nat):Ok8 (zk8 k n head m b):=Ok8.take (zlm _ _ _) _
def zf4{k:Ky}(ht:k.t<=32)(c:Nat)(m p:List Nat):(zcd k c m p).length=(hdr k.kid c).length+p.length+k.t:=by
 unfold zcd;rw[yaf,yaf,zgB,zqO ht]
def zoM{k:Ky}(hw:∀w∈k.ws,Word w){c:Nat}{m p:List Nat}(h:Ok8 p):Ok8 (zcd k c m p):=((hdr_8 _ _).app (ctr_8 hw h)).app (zsg _ _ _ _ _)
def zri{k:Ky}(ht:k.t<=32)(h1:k.kid<18446744073709551616){c:Nat}(h2:c<18446744073709551616){m p:List Nat}(hp:p.length<=1000):zm3 k (zcd k c m p) m = .ok p c:=by
 have hl:=zf4 ht c m p;have h0:parse (zcd k c m p) = .ok k.kid c (hdr k.kid c).length:=by
  unfold zcd;rw[yaI];exact zmZ h1 h2 _
 unfold zm3;rw[h0];dsimp only;rw[if_neg (λh=>h rfl),if_neg (by omega),if_neg (by omega)];have e1:(zcd k c m p).take (hdr k.kid c).length=hdr k.kid c:=by
  unfold zcd;rw[yaI,List.take_left]
 have e2:((zcd k c m p).drop (hdr k.kid c).length).take ((zcd k c m p).length-(hdr k.kid c).length-k.t)=ctr k.ws (first (zcA k.salt c)) p:=by
  rw[hl];unfold zcd;rw[yaI,ydr,ybU (by rw[zgB];omega)]
 have e3:(zcd k c m p).drop ((zcd k c m p).length-k.t)=zk8 k (zcA k.salt c) (hdr k.kid c) m (ctr k.ws (first (zcA k.salt c)) p):=by
  rw[hl];unfold zcd;rw[ycb (by rw[yaf,zgB];omega)]
 rw[e1,e2,e3,if_pos rfl,zyo]
def zyI{l:List Nat}(h8:Ok8 l){i:Nat}(hi:i<l.length)(h:i<8):(be (l.take i)*256%18446744073709551616) ||| l.getD i 0=be (l.take (i+1)):=by
 have h1:=be_take_lt h8 (show i<=7 by omega);rw[take_snoc hi,be_snoc,yaB (by omega),or256 _ _ (getD_lt h8 i)]
def zxQ{lo:Nat}{H:Heap}{v:V}{l:List Nat}(hv:By lo H v l)(h8:Ok8 l)(hl:l.length<=8):Ok (sem T zdn [v]) H λr H'=>r = .int .u64 (be l:Nat)/\H'=H:=by
 refine zod ?_;unfold zkL uL uR uc uq ug;simp(disch:=omega)only[↓RD,RZ,eq_self,seval,hv.vlen];refine zaS (λi L H'=>L=[.int .u64 (be (l.take i):Nat),.int .i64 (i:Nat)]/\H'=H) l.length ?_ ?_ ?_
 ·exact⟨rfl,rfl⟩
 ·rintro i _ H' hi ⟨rfl,rfl⟩;obtain⟨p,hp,hld,-⟩:=by_at hv (i:=(i:Nat)) (by omega) (by omega);have e1:=zyI h8 hi (by omega);have b1:=be_take_lt h8 (show i<=8 by omega);have b2:=getD_lt h8 i;simp only[yan]at hld;have e2:be (l.take i)*256%18446744073709551616<18446744073709551616:=ybc _ (by decide);unfold zfI uL uB uIM uK uc uq ug;simp(disch:=omega)only[↓RD,RZ,eq_self,seval,hp,hld,yan,e1];rfl
 ·rintro _ H' ⟨rfl,rfl⟩;unfold zfI uL uB uIM uK uc uq ug;simp(disch:=omega)only[↓RD,RZ,eq_self,seval,ya2]
def nxt8(v:Nat)(i:Nat):Nat:=v/256 ^ (7-i)%256
def nxtS(x:List Nat)(v w i:Nat):List Nat:=(List.range 16).map λj=>if j<8 then (if j<i then nxt8 v j else x.getD j 0) else (if j-8<i then nxt8 w (j-8) else x.getD j 0)
def zf7(x:List Nat)(v w i:Nat):(nxtS x v w i).length=16:=by simp[nxtS]
def zxt{x:List Nat}(h:x.length=16)(v w:Nat):nxtS x v w 0=x:=by
 refine zqk (by rw[zf7,h]) λi hi=>?_;rw[zf7]at hi;unfold nxtS;rw[zdR hi];split<;>rfl
def nxtS_all(x:List Nat)(v w:Nat):nxtS x v w 8=(List.range 8).map (nxt8 v)++(List.range 8).map (nxt8 w):=rfl
def zxu(x:List Nat)(v w:Nat){i:Nat}(h:i<8):((nxtS x v w i).set i (nxt8 v i)).set (8+i) (nxt8 w i)=nxtS x v w (i+1):=by
 refine zqk (by simp[zf7]) λj hj=>?_;simp only[yb8,zf7]at hj;rw[yak,List.getElem?_set,List.getElem?_set];unfold nxtS;rw[zdR hj];simp only[yb8,yah,ybZ];by_cases e:8+i=j
 ·subst e;rw[if_pos rfl,if_pos hj,if_neg (by omega),if_pos (by omega),show 8+i-8=i by omega];rfl
 ·rw[if_neg e];by_cases e2:i=j
  ·subst e2;rw[if_pos rfl,if_pos hj,if_pos h,if_pos (by omega)];rfl
  ·rw[if_neg e2,yaT,ybE hj];show(if j<8 then _ else _) = _;by_cases k:j<8
   ·rw[if_pos k,if_pos k];by_cases k2:j<i
    ·rw[if_pos k2,if_pos (by omega)]
    ·rw[if_neg k2,if_neg (by omega)]
   ·rw[if_neg k,if_neg k];by_cases k2:j-8<i
    ·rw[if_pos k2,if_pos (by omega)]
    ·rw[if_neg k2,if_neg (by omega)]
def zt5{l:List Nat}{i y:Nat}(h:i<l.length):splice (l.map by8) i [by8 y]=(l.set i y).map by8:=by
 rw[zmK _ _ _ (by rw[yah];exact h),ydB]
def cint8(n:Nat):IntKind.u8.wrap (n:Int)=((n%256:Nat):Int):=by rw[wrap_u8];rfl
def Next_ok{H:Heap}{x:List Nat}{n:Nat}(hx:x.length=16)(h8:Ok8 x)(hn:n<18446744073709551616) :
  Ok (sem T zdo [.agg (x.map by8),.int .u64 (n:Nat)]) H λres H'=>res = .agg ((zfo x n).map by8)/\Grow H H':=by
 refine zoe ?_;unfold zkM uL uS uT uB uO uA uR uK uc uq ug;refine zaQ (zdO (zcY _) ?_);rw[zaD];have s1:=Grow.new H ⟨zac,x.map by8,none⟩;have g1:(H.new ⟨zac,x.map by8,none⟩).get H.next=some ⟨zac,x.map by8,none⟩:=zaf _ _;have n1:(H.new ⟨zac,x.map by8,none⟩).next=H.next+1:=zae _ _;generalize ha:H.next=a at *;generalize H.new _=H1 at *;refine zaQ (zdO (by rfl) ?_);have s2:=Grow.new H1 ⟨zac,[(),(),(),(),(),(),(),(),(),(),(),(),(),(),(),()],none⟩;have g2:(H1.new ⟨zac,[(),(),(),(),(),(),(),(),(),(),(),(),(),(),(),()],none⟩).get H1.next=some ⟨zac,[(),(),(),(),(),(),(),(),(),(),(),(),(),(),(),()],none⟩:=zaf _ _;have n2:(H1.new ⟨zac,[(),(),(),(),(),(),(),(),(),(),(),(),(),(),(),()],none⟩).next=H1.next+1:=zae _ _;have ga2:=(s2.same a (by omega)).trans g1;rw[zaD];generalize hb:H1.next=b at *;generalize H1.new _=H2 at *;have c1:By 0 H2 (.sl a 0 8 (.fix 16)) (x.take 8):=by
  refine⟨?_,λi hi=>?_,show(8:Nat)<=_ by decide⟩
  ·simp only[rcells,ga2,Option.bind_some];rw[if_pos (by rw[yah];omega),yaA,yb6,yaq,ya7 (by omega)]
  ·simp only[V.pid,yaa]at hi;omega
 have c2:By 0 H2 (.sl a 8 8 (.fix 8)) (x.drop 8):=by
  refine⟨?_,λi hi=>?_,show(8:Nat)<=_ by decide⟩
  ·simp only[rcells,ga2,Option.bind_some];rw[if_pos (by rw[yah];omega),yb7,yas,yaj (by rw[yas,yah];omega),show x.length-8=8 by omega]
  ·simp only[V.pid,yaa]at hi;omega
 have d1:=@zeQ _ _ _ _ (zxQ c1 (h8.take 8) (by rw[yaq];omega));have d2:=@zeQ _ _ _ _ (zxQ c2 (h8.drop 8) (by rw[yas];omega));have v1:zat (.arr 16) 1 (.ptr a 0) none (some (.int .i64 8)) none=some (.sl a 0 8 (.fix 16)):=rfl;have v2:zat (.arr 16) 1 (.ptr a 0) (some (.int .i64 8)) none none=some (.sl a 8 8 (.fix 8)):=rfl;have l1:be (x.take 8)<18446744073709551616:=be_take_lt h8 (n:=8) (by omega);have l2:be (x.drop 8)<18446744073709551616:=by
  have:=be_lt _ (h8.drop 8);rw[yas,hx]at this;exact this
 simp(disch:=omega)only[↓RD,RZ,eq_self,seval,v1,v2,d1,d2];have eW:IntKind.u64.wrap ((be (x.drop 8):Nat)+(n:Nat):Int)=(((be (x.drop 8)+n)%18446744073709551616:Nat):Int):=by rw[wrap_u64];rfl
 rw[eW];refine zao (Q:=λr H'=>r = .nrm [.int .u64 ((be (x.take 8)+(if 18446744073709551616<=be (x.drop 8)+n then 1 else 0))%18446744073709551616:Nat)]/\H'=H2) ?_ ?_
 ·refine zcm (λh=>?_) (λh=>?_)
  ·have hh:18446744073709551616<=be (x.drop 8)+n:=by omega
   have ew:IntKind.u64.wrap ((be (x.take 8):Nat)+1:Int)=(((be (x.take 8)+1)%18446744073709551616:Nat):Int):=by rw[wrap_u64];rfl
   rw[if_pos hh];simp(disch:=omega)only[↓RD,RZ,eq_self,seval,ew]
  ·have hh:¬18446744073709551616<=be (x.drop 8)+n:=by omega
   rw[if_neg hh,ybI,yaB l1];simp(disch:=omega)only[↓RD,RZ,eq_self,seval]
 rintro _ H2 ⟨rfl,rfl⟩;generalize hV:(be (x.take 8)+(if 18446744073709551616<=be (x.drop 8)+n then 1 else 0))%18446744073709551616=v;have v8:v<18446744073709551616:=by rw[<-hV];exact ybc _ (by decide)
 generalize hW:(be (x.drop 8)+n)%18446744073709551616=w at *;have w8:w<18446744073709551616:=by rw[<-hW];exact ybc _ (by decide)
 simp(disch:=omega)only[↓RD,RZ,eq_self,seval,eW];refine zao (Q:=λz H'=>z = .ex 0 []/\H'.get a=some ⟨zac,(zfo x n).map by8,none⟩/\At1 a H2 H') ?_ ?_
 ·refine zaS (λi L H'=>L=[.int .i64 (i:Nat)]/\H'.get a=some ⟨zac,(nxtS x v w i).map by8,none⟩/\At1 a H2 H') 8 ?_ ?_ ?_
  ·exact⟨rfl,by rw[zxt hx];exact ga2,At1.refl _ _⟩
  ·rintro i _ H3 hi ⟨rfl,g3,s3⟩;have e1:(8:Int)*((i:Nat):Int)=((8*i:Nat):Int):=rfl;have e2:(56:Int)-((8*i:Nat):Int)=((8*(7-i):Nat):Int):=by omega
   have e3:∀u,shr u (8*(7-i))=u/256 ^ (7-i):=λu=>by rw[zid,yaP,ydo]
   have e4:∀u:Nat,IntKind.u8.wrap ((u/256 ^ (7-i):Nat):Int)=((nxt8 u i:Nat):Int):=λu=>cint8 _;have e5:(8:Int)+((i:Nat):Int)=((8+i:Nat):Int):=rfl;have m1:=zt5 (l:=nxtS x v w i) (i:=i) (y:=nxt8 v i) (by rw[zf7];omega);have m2:=zt5 (l:=(nxtS x v w i).set i (nxt8 v i)) (i:=8+i) (y:=nxt8 w i) (by rw[yb8,zf7];omega);have k1:((nxtS x v w i).map by8).length=16:=by rw[yah,zf7]
   have k2:(((nxtS x v w i).set i (nxt8 v i)).map by8).length=16:=by rw[yah,yb8,zf7]
   rw[zxu _ _ _ hi]at m2;unfold zfJ uL uT uB uI uK uc ug;replace m1:splice ((nxtS x v w i).map by8) i [.int .u8 (nxt8 v i:Nat)] = _:=m1;replace m2:splice (((nxtS x v w i).set i (nxt8 v i)).map by8) (8+i) [.int .u8 (nxt8 w i:Nat)] = _:=m2;simp(disch:=omega)only[↓RD,RZ,eq_self,seval,e1,e2,e3,e4,e5,g3,m1,m2,k1,k2];exact⟨by omega,by omega,rfl,s3.trans ((At1.set a _ _).trans (At1.set a _ _))⟩
  ·rintro _ H3 ⟨rfl,g3,s3⟩;unfold zfJ uL uT uB uI uK uc ug;simp(disch:=omega)only[↓RD,RZ,eq_self,seval];refine⟨?_,s3⟩;rw[g3,nxtS_all];unfold zfo;rw[hV,hW];rfl
 ·rintro _ H3 ⟨rfl,g3,s3⟩;have n3:=s3.next;have gb3:=(s3.same b (by omega) (by omega)).trans g2;have hl:(zfo x n).length=16:=by simp[zfo]
  have l1:=ld16 hl;have l2:=sp16 hl (L:=[(),(),(),(),(),(),(),(),(),(),(),(),(),(),(),()]) rfl;have l3:=zjn hl;simp(disch:=omega)only[↓RD,RZ,eq_self,seval,g3,l1,gb3,zcY,zaD,l2,l3];exact⟨by rw[zam];omega,λi hi=>by rw[zaj _ _ (by omega),s3.same i (by omega) (by omega),s2.same i (by omega),s1.same i (by omega)]⟩
def zxw(x:List Nat)(n:Nat):(zfo x n).length=16:=by simp[zfo]
def nextb_8(x:List Nat)(n:Nat):Ok8 (zfo x n):=(Ok8.rmap λi _=>ybc _ (by decide)).app (Ok8.rmap λi _=>ybc _ (by decide))
def ztr (ws:List (List Nat)) (x:List Nat):(aes ws x).length=16:=zdu _ _ _
def aes_8 {ws:List (List Nat)} (hw:∀w∈ws,Word w) (x:List Nat):Ok8 (aes ws x):=zuC hw (zoW _)
def zin{α:Type}{c:V}{x y:M α}{H:Heap}{Q:α->Heap->Prop}:@OkI α c H ⟨x⟩ ⟨y⟩ ⟨Q⟩=Ok (M.ite c x y) H Q:=rfl
def zr0{H:Heap}{k n:Nat} {ws:List (List Nat)} {f:List Nat} {F:V->M Res} {Q:Res->Heap->Prop} (hA:Aes H k ws) (hf:f.length=16) (f8:Ok8 f) (hwl:ws.length<=1000) (hw4:ws.length%4=0) (hw8:8<=ws.length) (hn:n<18446744073709551616)
  (h:∀H',Grow H H'->Ok (F (.agg ((aes ws (zfo f n)).map by8))) H' Q):Ok ((sem T zdo [.agg (f.map by8),.int .u64 (n:Nat)]).bind λt43=>(sem T zci [.ptr k 0,t43]).bind F) H Q:=by
 refine zad (Next_ok hf f8 hn) ?_;rintro _ H1 ⟨rfl,s1⟩;refine zad (Block_ok (hA.grow s1) (zxw _ _) (nextb_8 _ _) hwl hw4 hw8) ?_;rintro _ H2 ⟨rfl,s2⟩;exact h _ (s1.trans s2)
def Fx(o:Option Nat)(lo:Nat)(H:Heap)(v:V)(l:List Nat):Prop:=∃id,v = .sl id 0 l.length (.fix l.length)/\H.get id=some ⟨zab,l.map by8,o⟩/\lo<=id/\id<H.next
def Fx.low{o:Option Nat}{lo lo':Nat}{H:Heap}{v:V}{l:List Nat}(h:Fx o lo H v l)(hl:lo'<=lo):Fx o lo' H v l:=by
 obtain⟨id,h1,h2,h3,h4⟩:=h;exact⟨id,h1,h2,yax hl h3,h4⟩
def Fx.by{o:Option Nat}{lo:Nat}{H:Heap}{v:V}{l:List Nat}(h:Fx o lo H v l):By lo H v l:=by
 obtain⟨id,rfl,h2,h3,h4⟩:=h;refine⟨?_,λi hi=>by injection hi with hi;subst hi;exact⟨h3,h4⟩,yag _⟩;simp only[rcells,h2,Option.bind_some];rw[if_pos (by rw[yah];omega),yaA,yaj (by rw[yah];omega)]
def Crypt_x{lo:Nat}{H:Heap}{k:Nat} {ws:List (List Nat)} {bv:V} {f l:List Nat} (hA:Aes H k ws) (hf:f.length=16) (f8:Ok8 f) (hv:By lo H bv l) (h8:Ok8 l) (hwl:ws.length<=1000) (hw4:ws.length%4=0) (hw8:8<=ws.length) (hl:l.length<=1099511627776) :
  Ok (sem T zdT [.ptr k 0,.agg (f.map by8),.int .i64 0,bv]) H λres H'=>∃r,res = .tup [r,.int .i64 0]/\Fx none H.next H' r (ctr ws f l)/\Grow H H':=by
 have hw:∀w∈ws,Word w:=by obtain⟨_,_,_,_,_,hw⟩:=hA;exact hw
 have cl:=zgB ws f l;refine zm6 ?_;unfold zju uL uB uG uH uO uR uc;refine zaQ (zdO (zcY _) ?_);rw[zaD];have s1:=Grow.new H ⟨zac,f.map by8,none⟩;have g1:(H.new ⟨zac,f.map by8,none⟩).get H.next=some ⟨zac,f.map by8,none⟩:=zaf _ _;have n1:(H.new ⟨zac,f.map by8,none⟩).next=H.next+1:=zae _ _;generalize ha:H.next=a at *;generalize H.new _=H1 at *;simp(disch:=omega)only[↓RD,RZ,hv.vlen];refine⟨⟨by omega,by omega,by omega,by omega⟩,?_⟩;rw[zv4,yan];have s2:=Grow.new H1 ⟨zab,List.replicate l.length (.int .u8 0),none⟩;have g2:(H1.new ⟨zab,List.replicate l.length (.int .u8 0),none⟩).get H1.next=some ⟨zab,List.replicate l.length (.int .u8 0),none⟩:=zaf _ _;have n2:(H1.new ⟨zab,List.replicate l.length (.int .u8 0),none⟩).next=H1.next+1:=zae _ _;have ga2:=(s2.same a (by omega)).trans g1;generalize hb:H1.next=b at *;generalize H1.new _=H2 at *;generalize hc:b+1=c at *;have s3:=Grow.new H2 ⟨zac,[(),(),(),(),(),(),(),(),(),(),(),(),(),(),(),()],none⟩;have g3:(H2.new ⟨zac,[(),(),(),(),(),(),(),(),(),(),(),(),(),(),(),()],none⟩).get H2.next=some ⟨zac,(List.replicate 16 0).map by8,none⟩:=zaf _ _;have n3:(H2.new ⟨zac,[(),(),(),(),(),(),(),(),(),(),(),(),(),(),(),()],none⟩).next=H2.next+1:=zae _ _;have ga3:=(s3.same a (by omega)).trans ga2;have gb3:=(s3.same b (by omega)).trans g2;rw[n2]at g3 n3;generalize H2.new _=H3 at *;have s03:Grow H H3:=(s1.trans s2).trans s3;have hv3:=hv.ext s03;refine zao (Q:=λz H'=>z = .ex 0 []/\H'.get b=some ⟨zab,(ctr ws f l).map by8,none⟩/\Grow H H'/\c<H'.next) ?_ ?_
 ·refine zaS (λi L H'=>L=[.int .i64 (i:Nat)]/\H'.get a=some ⟨zac,f.map by8,none⟩/\H'.get b=some ⟨zab,((ctr ws f l).take i).map by8++List.replicate (l.length-i) (.int .u8 0),none⟩/\H'.get c=some ⟨zac,(if i=0 then List.replicate 16 0 else aes ws (zfo f ((i-1)/16))).map by8,none⟩/\Grow H H'/\c<H'.next) l.length ?_ ?_ ?_
  ·exact⟨rfl,ga3,by simpa using gb3,g3,s03,by omega⟩
  ·rintro i _ H4 hi ⟨rfl,ga4,gb4,gc4,s4,n4⟩;have hv4:=hv.ext s4;generalize hy:(if i=0 then List.replicate 16 0 else aes ws (zfo f ((i-1)/16)))=y at *;have yl:y.length=16:=by rw[<-hy];split;exact yaF ..;exact ztr _ _
   have e1:(((i:Nat):Int)%16==0)=decide (i%16=0):=by
    by_cases h:i%16=0
    ·rw[decide_eq_true h,show((i:Nat):Int)%16=0 by omega];rfl
    ·rw[decide_eq_false h];have:¬((i:Nat):Int)%16=0:=by omega
     simpa using this
   have e2:(((i:Nat):Int)==0)=decide (i=0):=by
    by_cases h:i=0
    ·rw[decide_eq_true h,h];rfl
    ·rw[decide_eq_false h];have:¬((i:Nat):Int)=0:=by omega
     simpa using this
   have l1:=ld16 hf;unfold zeK uL uS uT uB uI uIM uG uH uA uK uc ug;simp(disch:=omega)only[↓RD,RZ,e1,e2,ycT];rw[za2];refine zao (α:=Res) (Q:=λr H'=>r = .nrm []/\∃H5,Grow H H5/\c<H5.next/\H5.get a=H4.get a/\H5.get b=H4.get b/\H5.get c=some ⟨zac,(aes ws (zfo f (i/16))).map by8,none⟩/\H'=H5.set b (some ⟨zab,((ctr ws f l).take (i+1)).map by8++List.replicate (l.length-(i+1)) (.int .u8 0),none⟩)) ?_ ?_
   ·have rest:∀H5,Grow H H5->c<H5.next->H5.get a=H4.get a->H5.get b=H4.get b->H5.get c=some ⟨zac,(aes ws (zfo f (i/16))).map by8,none⟩ ->
      Ok ((M.lift (Ax.iaddr none 1 bv (.int .i64 (i:Nat)))).bind λt49=>
       (mload none t49).bind λt50=>
       (M.lift (Ax.bin .add (.int .i64 0) (.int .i64 (i:Nat)))).bind λt53=>
       (M.lift (Ax.bin .rem t53 (V.int .i64 16))).bind λt54=>
       (M.lift (Ax.iaddr (some 16) 1 (.ptr c 0) t54)).bind λt55=>
       (mload none t55).bind λt56=>
       (M.lift (Ax.bin .xor t50 t56)).bind λt57=>
       (M.lift (Ax.iaddr none 1 (.sl b 0 l.length (.fix l.length)) (.int .i64 (i:Nat)))).bind λt58=>
       (mstore 1 t58 t57).bind λ_=>
       M.pure (Res.nrm [])) H5 λr H'=>r=Res.nrm []/\H'=H5.set b (some ⟨zab,((ctr ws f l).take (i+1)).map by8++List.replicate (l.length-(i+1)) (.int .u8 0),none⟩):=by
     intro H5 g5 m5 a5 b5 c5;have hv5:=hv.ext g5;obtain⟨p,hp,hld,-⟩:=by_at hv5 (i:=(i:Nat)) (by omega) (by omega);simp only[yan]at hld;rw[gb4]at b5;have q1:=getD_lt h8 i;have hk:=aes_8 hw (zfo f (i/16));have hkl:=ztr ws (zfo f (i/16));have q2:=bg (l:=aes ws (zfo f (i/16))) (i:=i%16) (by omega);have q3:=zoG q1 (hk.getD (i%16));have q4:l.getD i 0 ^^^ (aes ws (zfo f (i/16))).getD (i%16) 0=(ctr ws f l).getD i 0:=(zp8 hi).symm;rw[q4]at q3;have hl0:(((ctr ws f l).take i).map by8).length=i:=by rw[yah,yaq];omega
     have x0:=zb0 (z:=.int .u8 0) (x:=by8 ((ctr ws f l).getD i 0)) hl0 hi;have ml:(((ctr ws f l).take i).map by8++List.replicate (l.length-i) (V.int .u8 0)).length=l.length:=by rw[yaf,hl0,yaF];omega
     have ei:((i:Nat):Int)%16=((i%16:Nat):Int):=by omega
     have em:=ybc i (show 0<16 by decide);have et:((ctr ws f l).take i).map by8++[by8 ((ctr ws f l).getD i 0)]=((ctr ws f l).take (i+1)).map by8:=by rw[take_snoc (by omega)];simp
     rw[et]at x0;replace q3:Ax.bin .xor (.int .u8 (l.getD i 0:Nat)) (by8 ((aes ws (zfo f (i/16))).getD (i%16) 0)) = _:=q3;simp(disch:=omega)only[↓RD,RZ,hp,hld,ycT,ei,c5,q2,q3,b5,x0,ml,zg4,zcz];omega
    have ln:=ztr ws (zfo f (i/16));have l2:=ld16 ln;have l3:=sp16 ln (L:=y.map by8) (by rw[yah,yl]);have l4:=zjn ln;have e4:((i:Nat):Int)/16=((i/16:Nat):Int):=by omega
    have l5:(y.map by8).length=16:=by rw[yah,yl]
    by_cases h0:i=0
    ·have e3:decide (i=0)=true:=decide_eq_true h0;simp(disch:=omega)only[↓RD,RZ,e1,e2,e3,ycT,ga4,l1,e4];rw[za2];refine zr0 (hA.grow s4) hf f8 hwl hw4 hw8 (by omega) λH5 s5=>?_;have n5:=s5.next;have ga5:=s5.same a (by omega);have gb5:=s5.same b (by omega);have gc5:=(s5.same c (by omega)).trans gc4;simp(disch:=first|omega|(simp only[RY]<;>omega)|decide)only[↓RD,RZ,eq_self,Int.reduceToNat,Int.reduceAdd,Nat.reduceAdd,Nat.reduceSub,Nat.reduceMul,Nat.reduceLeDiff,gc5,zcY,zaD,l3,l4,l5];rw[za2];refine zao (rest (H5.set c (some ⟨zac,(aes ws (zfo f (i/16))).map by8,none⟩)) ((s4.trans s5).set (by omega) _) (by rw[zam];omega) (by rw[zaj _ _ (by omega)];exact ga5) (by rw[zaj _ _ (by omega)];exact gb5) (zai _ _ _)) ?_;rintro _ _ ⟨rfl,rfl⟩;exact⟨rfl,_,(s4.trans s5).set (by omega) _,by rw[zam];omega,by rw[zaj _ _ (by omega)];exact ga5,by rw[zaj _ _ (by omega)];exact gb5,zai _ _ _,rfl⟩
    ·have e3:decide (i=0)=false:=decide_eq_false h0;simp(disch:=omega)only[↓RD,RZ,e1,e2,e3,ycT];rw[zin];refine zcm (λh=>?_) (λh=>?_)
     ·simp(disch:=omega)only[↓RD,RZ,ga4,l1,e4,ycT];rw[za2];refine zr0 (hA.grow s4) hf f8 hwl hw4 hw8 (by omega) λH5 s5=>?_;have n5:=s5.next;have ga5:=s5.same a (by omega);have gb5:=s5.same b (by omega);have gc5:=(s5.same c (by omega)).trans gc4;simp(disch:=first|omega|(simp only[RY]<;>omega)|decide)only[↓RD,RZ,eq_self,Int.reduceToNat,Int.reduceAdd,Nat.reduceAdd,Nat.reduceSub,Nat.reduceMul,Nat.reduceLeDiff,gc5,zcY,zaD,l3,l4,l5];rw[za2];refine zao (rest (H5.set c (some ⟨zac,(aes ws (zfo f (i/16))).map by8,none⟩)) ((s4.trans s5).set (by omega) _) (by rw[zam];omega) (by rw[zaj _ _ (by omega)];exact ga5) (by rw[zaj _ _ (by omega)];exact gb5) (zai _ _ _)) ?_;rintro _ _ ⟨rfl,rfl⟩;exact⟨rfl,_,(s4.trans s5).set (by omega) _,by rw[zam];omega,by rw[zaj _ _ (by omega)];exact ga5,by rw[zaj _ _ (by omega)];exact gb5,zai _ _ _,rfl⟩
     ·have ey:y=aes ws (zfo f (i/16)):=by rw[<-hy,if_neg h0,show(i-1)/16=i/16 by omega]
      rw[ey]at gc4;simp(disch:=omega)only[↓RD,RZ];rw[za2];refine zao (rest H4 s4 n4 rfl rfl gc4) ?_;rintro _ _ ⟨rfl,rfl⟩;exact⟨rfl,_,s4,n4,rfl,rfl,gc4,rfl⟩
   ·rintro _ _ ⟨rfl,H5,s5,n5,ga5,gb5,gc5,rfl⟩;simp(disch:=omega)only[↓RD,RZ];refine⟨rfl,ga5.trans ga4,?_,s5.set (by omega) _,n5⟩;rw[gc5,if_neg (by omega),show i+1-1=i by omega]
  ·rintro _ H4 ⟨rfl,ga4,gb4,gc4,s4,n4⟩;unfold zeK uL uS uT uB uI uIM uG uH uA uK uc ug;simp(disch:=omega)only[↓RD,RZ];refine⟨?_,s4,n4⟩;rw[gb4,yaj (by omega)];simp
 ·rintro _ H4 ⟨rfl,gb4,s4,n4⟩;simp(disch:=omega)only[↓RD,RZ];refine⟨_,rfl,⟨b,?_,gb4,by omega,by omega⟩,s4⟩;rw[cl]
def App.same{ty e lo n:Nat}{H H':Heap}{v:V}{cells:List V}(h:App ty e lo H v cells n)(hn:H.next<=H'.next)(hs:∀i,v.pid=some i->H'.get i=H.get i):App ty e lo H' v cells n:=by
 cases h with
 | opn h ho=>exact .opn (h.to hs) λi hi=>⟨(ho i hi).1,yai (ho i hi).2 hn⟩
 | lit h h0 h1=>exact .lit (by rw[hs _ rfl,h]) h0 (yai h1 hn)
def Kst(H:Heap)(k:Nat)(w:V) (ws:List (List Nat)):Prop:=H.get k=some ⟨zaT,tabC true++[w],none⟩/\App zaw 4 (k+1) H w (ws.flatten.map by8) ws.length/\k<H.next
def zwl(wv x:V):splice (tabC true++[wv]) 259 [x]=tabC true++[x]:=by
 have e:(tabC true).length=259:=by unfold tabC;simp only[List.length_cons,yah,zkg]
 unfold splice;rw[ybm (by omega),yaj (by omega),yaS (by rw[yaf,e];exact yag _),yaK]
def len260(wv:V):(tabC true++[wv]).length=260:=by
 have e:(tabC true).length=259:=by unfold tabC;simp only[List.length_cons,yah,zkg]
 rw[yaf,e];rfl
def _root_.Go.Ax.Lc.same{e lo n:Nat}{H H':Heap}{v:V}{cells:List V}(h:Lc e lo H v cells n)(hn:H.next<=H'.next)(hs:∀i,v.pid=some i->H'.get i=H.get i):Lc e lo H' v cells n:=
 ⟨by rw[zc2 hs];exact h.rc,λi hi=>⟨(h.own i hi).1,yai (h.own i hi).2 hn⟩,h.cap⟩
def Kst.expl{H:Heap}{k:Nat}{w:V} {ws:List (List Nat)} (h:Kst H k w ws) (h0:0<ws.length):∃id,w = .sl id 0 ws.length (.opn 4)/\H.get id=some ⟨zaw,ws.flatten.map by8,some 4⟩/\k<id/\id<H.next:=by
 obtain⟨h1,h2,h3⟩:=h;cases hn:ws.length with
 | zero=>omega
 | succ n=>
  rw[hn]at h2;generalize ws.flatten.map by8=cs at *;cases h2 with
  | opn h ho=>
   rcases h with⟨_,_,h⟩|⟨id,rfl,hg,hl⟩
   ·omega
   ·exact⟨id,rfl,hg,(ho id rfl).1,(ho id rfl).2⟩
def kpush{H:Heap}{k:Nat}{w:V} {ws:List (List Nat)} {a b c d:Nat} {F:V->M Res} {Q:Res->Heap->Prop} (hk:Kst H k w ws) (hl:ws.length<=1000)
  (h:∀w' H',Kst H' k w' (ws++[[a,b,c,d]])->Bel k H H'->Ok (F .undef) H' Q) :
  Ok ((mappend zaw 4 4 w (.sl H.next 0 1 (.fix 1))).bind λt45=>
   (M.lift (Ax.nilck (.ptr k 0))).bind λt46=>
   (M.lift (Ax.faddr 259 t46)).bind λt47=>
   (mstore 1 t47 t45).bind F) (H.new ⟨zaw,[by8 a,by8 b,by8 c,by8 d],none⟩) Q:=by
 obtain⟨h1,h2,h3⟩:=hk;have s1:=Grow.new H ⟨zaw,[by8 a,by8 b,by8 c,by8 d],none⟩;have n1:(H.new ⟨zaw,[by8 a,by8 b,by8 c,by8 d],none⟩).next=H.next+1:=zae _ _;have g1:=(s1.same k h3).trans h1;have ac:acells 4 (H.new ⟨zaw,[by8 a,by8 b,by8 c,by8 d],none⟩) (.sl H.next 0 1 (.fix 1))=some ([by8 a,by8 b,by8 c,by8 d],1):=zcF rfl;have h2':App zaw 4 (k+1) (H.new ⟨zaw,[by8 a,by8 b,by8 c,by8 d],none⟩) w (ws.flatten.map by8) ws.length:=App.keep h2 (s1.keep _);generalize hid:H.next=id at *;generalize H.new _=H1 at *;refine zig h2' (by omega) ac rfl (by omega) (by omega) λw' H2 a2 st=>?_;have n2:=st.next;have hpw:∀i,i∈w.pid.toList->k+1<=i:=λi hi=>(h2'.lc.own i (by simpa [zbP]using hi)).1;have b2:Bel (k+1) H1 H2:=⟨st.next,λi hi=>by
  by_cases hin:i<H1.next
  ·exact st.same i hin λe=>by have:=hpw i e;omega
  ·omega⟩
 have g2:H2.get k = _:=(b2.same k (by omega)).trans g1;have sp:=zwl w w';have ln:=len260 w;simp(disch:=omega)only[↓RD,RZ,eq_self,seval,g2,sp,ln,a2.lc.cells1,a2.lc.okc];refine h w' _ ⟨zai _ _ _,?_,by rw[zam];omega⟩ ⟨by rw[zam];omega,λi hi=>?_⟩
 ·have:(ws++[[a,b,c,d]]).flatten.map by8=ws.flatten.map by8++[by8 a,by8 b,by8 c,by8 d]:=by simp
  rw[this,yaf];refine App.same a2 (by rw[zam];exact yag _) λi hi=>zaj _ _ ?_;have:=(a2.lc.own i hi).1;omega
 ·rw[zaj _ _ (by omega),b2.same i (by omega),s1.same i (by omega)]
def s2a_ok{lo:Nat}{H:Heap}{v:V}{l:List Nat}(hv:By lo H v l)(hl:4<=l.length):∃p,op1 (.s2a 4) v=some p/\LdR (some 4) H p (.agg ((l.take 4).map by8)):=by
 have hlen:=hv.len;rw[yah,ya5]at hlen;rcases hv.cases with⟨_,_,hn⟩|⟨id,off,cap,b,rfl,hb,hle,hc⟩|⟨cs,rfl,hle,hc⟩
 ·omega
 ·refine⟨.ptr id off,by simp only[op1];rw[if_pos ⟨hl,by decide⟩],?_⟩;have h1:=(pl_ptr (H:=H) (off:=off) (m:=4) hb (by omega)).all;have e:(b.cells.drop off).take 4=(l.take 4).map by8:=by
   rw[yb6,hc,ybK,ya5,ya7 hl]
  rw[e,yah,yaq,ya7 hl]at h1;exact h1
 ·refine⟨.rp cs 0,by simp only[op1];rw[if_pos ⟨hl,by decide⟩],?_⟩;have h1:=(pl_rp (H:=H) (cs:=cs) (off:=0) (m:=4) (by omega)).all;have e:(cs.drop 0).take 4=(l.take 4).map by8:=by
   rw[yb6,hc,ybK,yaA,ya5,ya7 hl]
  rw[e,yah,yaq,ya7 hl]at h1;exact h1
def four{l:List Nat}(h:l.length=4):∃a b c d,l=[a,b,c,d]:=by
 match l,h with
 | [a,b,c,d],_=>exact⟨a,b,c,d,rfl⟩
def xw(s p:List Nat):List Nat:=(List.range 4).map λj=>s.getD j 0 ^^^ p.getD j 0
def ztv(s p:List Nat):(xw s p).length=4:=by simp[xw]
def zxJ(b:List Nat)(n i:Nat):kw b n (i+1)=kw b n i++[if i<n then (b.drop (4*i)).take 4 else xw (zoq n i ((kw b n i).getD (i-1) [])) ((kw b n i).getD (i-n) [])]:=rfl
def New_1_ok{H:Heap}{k q id i j:Nat} {ws:List (List Nat)} {s:List Nat} {u2 u3 u8:V} (hw:∀w∈ws,Word w) (hs:Word s) (hgk:H.get k=some ⟨zaT,tabC true++[.sl id 0 ws.length (.opn 4)],none⟩) (hgi:H.get id=some ⟨zaw,ws.flatten.map by8,some 4⟩)
  (hq:H.get q=some ⟨zaw,s.map by8,none⟩) (hqk:q≠k) (hqi:q≠id) (hkl:k<H.next) (hil:id<H.next) (hj:j<=i) (hi:i<=ws.length) (hj0:0<j) (hwl:ws.length<=1000) :
  Ok (M.iter (zfd (sem T) (.ptr k 0) (.int .i64 (i:Nat)) (.int .i64 (j:Nat)) (.ptr q 0) u2 u3 u8) [.int .i64 0]) H λz H'=>z = .ex 5 []/\H'.get q=some ⟨zaw,(xw s (ws.getD (i-j) [])).map by8,none⟩/\At1 q H H':=by
 refine zaS (λm L H'=>L=[.int .i64 (m:Nat)]/\H'.get q=some ⟨zaw,((xw s (ws.getD (i-j) [])).take m++s.drop m).map by8,none⟩/\At1 q H H') 4 ?_ ?_ ?_
 ·exact⟨rfl,by simpa using hq,At1.refl _ _⟩
 ·rintro m _ H3 hm ⟨rfl,g3,s3⟩;have sl:=hs.1;have gk3:=(s3.same k hkl (by omega)).trans hgk;have gi3:=(s3.same id hil (by omega)).trans hgi;have hA':(((xw s (ws.getD (i-j) [])).take m).map by8).length=m:=by rw[yah,yaq,ztv];omega
  rw[zwe (by omega)]at g3;have m1:=zpW (b:=by8 (s.getD m 0)) (C:=(s.drop (m+1)).map by8) hA';have m2:=zpV (b:=by8 (s.getD m 0)) (y:=by8 ((xw s (ws.getD (i-j) [])).getD m 0)) (C:=(s.drop (m+1)).map by8) hA';have ml:(((xw s (ws.getD (i-j) [])).take m).map by8++by8 (s.getD m 0)::(s.drop (m+1)).map by8).length=4:=by rw[yaf,hA',List.length_cons,yah,yas];omega
  have ek:=zrB (.sl id 0 ws.length (.opn 4));have e1:((i:Nat):Int)-((j:Nat):Int)=((i-j:Nat):Int):=by omega
  have wb:=zqH hw (j:=i-j) (m:=m) (by omega) hm;have ex:=zoG (hs.2.getD m) (zv9 hw (i-j) m);have ea:s.getD m 0 ^^^ (ws.getD (i-j) []).getD m 0=(xw s (ws.getD (i-j) [])).getD m 0:=by unfold xw;rw[zdR hm]
  rw[ea]at ex;unfold zfd uT uNFM uB uI uIM uK uc ug;simp(disch:=omega)only[↓RD,RZ,g3,m1,gk3,ek,e1,gi3,wb,ex,m2,ml,zg4,zcz];refine⟨by omega,rfl,?_,s3.trans (At1.set q _ _)⟩;rw[zse (by rw[ztv];omega)]
 ·rintro _ H3 ⟨rfl,g3,s3⟩;have sl:=hs.1;unfold zfd uT uNFM uB uI uIM uK uc ug;simp(disch:=omega)only[↓RD,RZ];refine⟨?_,s3⟩;rw[g3,yaj (by rw[ztv];omega),yaS (by omega),yaK]
def New_rest{lo:Nat}{H:Heap}{k n:Nat}{v:V}{l:List Nat}(hv:By lo H v l)(h8:Ok8 l)(hn:n=4\/n=8)(hl:l.length=4*n)(hvk:∀i,v.pid=some i->i<k) (hk:H.get k=some ⟨zaT,tabC true++[.nils],none⟩) (hkl:k<H.next) :
  Ok (M.blk 0 (M.iter (zd3 (sem T) (.int .i64 (n:Nat)) (.ptr k 0) v .nilp (.int .i64 0)) [.int .i64 0]) λ_=>
   M.blk 2 (M.iter (zd2 (sem T) (.ptr k 3) (.int .i64 (n:Nat)) (.ptr k 0) .nilp (.int .i64 0)) [.int .u8 1,.int .i64 (n:Nat)]) λ_=>
   M.pure (.ret [.ptr k 0,.int .i64 0])) H λr H'=>r = .ret [.ptr k 0,.int .i64 0]/\AesB k H' k (kw l n (4*(n+7)))/\Bel k H H':=by
 have hn0:0<n:=by omega
 have hwd:∀i,∀w∈kw l n i,Word w:=λi=>zxI hn0 h8 hl i;simp(disch:=omega)only[↓RD,RZ];refine zao (Q:=λz H'=>z = .ex 0 []/\∃w,Kst H' k w (kw l n n)/\Bel k H H') ?_ ?_
 ·refine zaS (λi L H'=>L=[.int .i64 (i:Nat)]/\∃w,Kst H' k w (kw l n i)/\Bel k H H') n ?_ ?_ ?_
  ·exact⟨rfl,.nils,⟨hk,App.nil,hkl⟩,Bel.refl _ _⟩
  ·rintro i _ H1 hi ⟨rfl,w,hw,b1⟩;have hv1:By lo H1 v l:=hv.same b1.next λj hj=>b1.same j (hvk j hj);obtain⟨v',-,-,hs,hv',-⟩:=by_slice hv1 (x:=((4*i:Nat):Int)) (y:=(l.length:Nat)) (by omega) (by omega) (by omega);have hs:=hs rfl (k:=.i64);rw[yan,yan,yaj (by rw[yas];omega)]at hv';obtain⟨p,hp,hld⟩:=s2a_ok hv' (by rw[yas];omega);obtain⟨a,b,c,d,e4⟩:=four (l:=(l.drop (4*i)).take 4) (by rw[yaq,yas];omega);rw[e4]at hld;replace hld:LdR (some 4) H1 p (.agg [by8 a,by8 b,by8 c,by8 d]):=hld;have e1:(4:Int)*((i:Nat):Int)=((4*i:Nat):Int):=rfl;have ek:=zrB w;have g1:=hw.1;unfold zd3 uL uS uT uNFM uNF uB uK uc ub ug;simp(disch:=first|omega|(simp only[RY]<;>omega)|decide)only[↓RD,RZ,eq_self,Int.reduceToNat,Int.reduceAdd,Nat.reduceAdd,Nat.reduceSub,Nat.reduceMul,Nat.reduceLeDiff,g1,ek,e1,hs,hp,hld];rw[za2];refine kpush hw (by rw[zkv];omega) λw' H2 hw' b2=>?_;simp(disch:=omega)only[↓RD,RZ];refine⟨rfl,w',?_,b1.trans b2⟩;rw[zxJ,if_pos hi,e4];exact hw'
  ·rintro _ H1 ⟨rfl,w,hw,b1⟩;unfold zd3 uL uS uT uNFM uNF uB uK uc ub ug;simp(disch:=omega)only[↓RD,RZ];exact⟨w,hw,b1⟩
 ·rintro _ H1 ⟨rfl,w,hw,b1⟩;simp(disch:=omega)only[↓RD,RZ];refine zao (Q:=λz H'=>z = .ex 2 []/\∃w,Kst H' k w (kw l n (4*(n+7)))/\Bel k H H') ?_ ?_
  ·refine zaS (λj L H'=>L=[by8 (rcon ((n+j-1)/n)),.int .i64 ((n+j:Nat):Int)]/\∃w,Kst H' k w (kw l n (n+j))/\Bel k H H') (4*(n+7)-n) ?_ ?_ ?_
   ·refine⟨?_,w,hw,b1⟩;rw[ybI,yck (by omega)];rfl
   ·rintro j _ H2 hj ⟨rfl,w2,hw2,b2⟩;obtain⟨i,hi⟩:∃i,n+j=i:=⟨_,rfl⟩;rw[show n+(j+1)=i+1 by omega];rw[hi]at hw2 ⊢;have e1:(((n:Nat):Int)+6+1)*4=((4*(n+7):Nat):Int):=by omega
    have e1':(4:Int)*(((n:Nat):Int)+6+1)=((4*(n+7):Nat):Int):=by omega
    have e2:((i:Nat):Int)-1=((i-1:Nat):Int):=by omega
    have hwl:=zkv l n i;obtain⟨id,hwe,gi2,hid,hid2⟩:=hw2.expl (by omega);rw[hwl]at hwe;subst hwe;have ek:=zrB (.sl id 0 i (.opn 4));have g2:=hw2.1;have hil:i<4*(n+7):=by omega
    obtain⟨sw,hsw⟩:∃sw,(kw l n i).getD (i-1) []=sw:=⟨_,rfl⟩;have hsm:(kw l n i)[i-1]?=some sw:=by rw[<-hsw,yak,yae (by omega)];rfl
    have hsW:Word sw:=hwd i sw (ybb hsm);obtain⟨a,b,c,d,e4⟩:=four hsW.1;have hld:ldc (some 4) ((kw l n i).flatten.map by8) (4*(i-1))=some (.agg [by8 a,by8 b,by8 c,by8 d]):=by
     rw[List.map_flatten];have:=ldc_flat (es:=(kw l n i).map (List.map by8)) (k:=4) (i:=i-1) (x:=sw.map by8) (λx hx=>by
      obtain⟨y,hy,rfl⟩:=yaW.1 hx;rw[yah];exact(hwd i y hy).1) (by rw[yaT,hsm];rfl)
     rw[ycz,this,e4];rfl
    have hld':=hld;rw[ycz]at hld';unfold zd2 uL uS uT uNFM uNF uN uB uI uIM uG uH uO uA uK uc ug;simp(disch:=first|omega|(simp only[RY]<;>omega)|decide)only[↓RD,RZ,eq_self,Int.reduceToNat,Int.reduceAdd,Nat.reduceAdd,Nat.reduceSub,Nat.reduceMul,Nat.reduceLeDiff,e1,e1',e2,g2,ek,gi2,hld,hld'];have s3:At1 H2.next H2 ((H2.new ⟨zaw,[(),(),(),()],none⟩).set H2.next (some ⟨zaw,[by8 a,by8 b,by8 c,by8 d],none⟩)):=((Grow.new _ _).at1 _).trans (At1.set _ _ _);have gq3:((H2.new ⟨zaw,[(),(),(),()],none⟩).set H2.next (some ⟨zaw,[by8 a,by8 b,by8 c,by8 d],none⟩)).get H2.next = _:=zai _ _ _;have n3:((H2.new ⟨zaw,[(),(),(),()],none⟩).set H2.next (some ⟨zaw,[by8 a,by8 b,by8 c,by8 d],none⟩)).next=H2.next+1:=rfl;generalize hq:H2.next=q at *;generalize Heap.set _ q _=H3 at *;have gk3:=(s3.same k (by omega) (by omega)).trans g2;have gi3:=(s3.same id (by omega) (by omega)).trans gi2;have eb:(((i:Nat):Int)%((n:Nat):Int)==0)=decide (i%n=0):=by
     by_cases h:i%n=0
     ·rw[decide_eq_true h,show((i:Nat):Int)%((n:Nat):Int)=((i%n:Nat):Int) from rfl,h];rfl
     ·rw[decide_eq_false h,show((i:Nat):Int)%((n:Nat):Int)=((i%n:Nat):Int) from rfl];have:¬((i%n:Nat):Int)=0:=by omega
      simpa using this
    have eb4:(((i:Nat):Int)%((n:Nat):Int)==4)=decide (i%n=4):=by
     by_cases h:i%n=4
     ·rw[decide_eq_true h,show((i:Nat):Int)%((n:Nat):Int)=((i%n:Nat):Int) from rfl,h];rfl
     ·rw[decide_eq_false h,show((i:Nat):Int)%((n:Nat):Int)=((i%n:Nat):Int) from rfl];have:¬((i%n:Nat):Int)=4:=by omega
      simpa using this
    have tb:∀m,m<256->(tabC true++[V.sl id 0 i (.opn 4)])[3+m]?=some (by8 (sb m)):=λm h=>tab_at h;have ia:∀m,m<256->Ax.iaddr (some 256) 1 (.ptr k 3) (by8 m)=some (.ptr k (3+m)):=λm h=>ztm h;have s8:Ok8 [a,b,c,d]:=e4 ▸ hsW.2;have a8:a<256:=s8 a (by simp);have b8:b<256:=s8 b (by simp);have c8:c<256:=s8 c (by simp);have d8:d<256:=s8 d (by simp);have tw:=zpt (zsz ((i-1)/n));have xr:=zoG (zu0 b) (zsz ((i-1)/n));rw[eb,zin];refine zao (Q:=λr H'=>r = .nrm [by8 (rcon (i/n))]/\H'.get q=some ⟨zaw,(zoq n i sw).map by8,none⟩/\At1 q H3 H') ?_ ?_
    ·refine zcm (λh=>?_) (λh=>?_)
     ·simp(disch:=first|omega|(simp only[RY]<;>omega)|decide)only[↓RD,RZ,eq_self,Int.reduceToNat,Int.reduceAdd,Nat.reduceAdd,Nat.reduceSub,Nat.reduceMul,Nat.reduceLeDiff,gq3,gk3,tb _ a8,tb _ b8,tb _ c8,tb _ d8,ia _ a8,ia _ b8,ia _ c8,ia _ d8,xr,tw,zg4,zcz,zaD];have er:(i-1)/n+1=i/n:=by rcases hn with rfl|rfl<;>omega
      have er':i/n-1=(i-1)/n:=by rcases hn with rfl|rfl<;>omega
      refine⟨by rw[<-er];rfl,?_,At1.set q _ _⟩;unfold zoq;rw[if_pos h,e4,er'];rfl
     ·have er:(i-1)/n=i/n:=by rcases hn with rfl|rfl<;>omega
      have e8:[a,b,c,d].map by8=[by8 a,by8 b,by8 c,by8 d]:=rfl;rcases hn with hn4|hn8
      ·have e6:decide ((6:Int)<((n:Nat):Int))=false:=by rw[hn4];rfl
       simp(disch:=omega)only[↓RD,RZ,e6];refine⟨by rw[er],?_,At1.refl _ _⟩;unfold zoq;rw[if_neg h,if_neg (λhh=>by have:=hh.1;omega),e4,e8];exact gq3
      ·have e6:decide ((6:Int)<((n:Nat):Int))=true:=by rw[hn8];rfl
       simp(disch:=omega)only[↓RD,RZ,e6,eb4];rw[zin];refine zcm (λh4=>?_) (λh4=>?_)
       ·simp(disch:=first|omega|(simp only[RY]<;>omega)|decide)only[↓RD,RZ,eq_self,Int.reduceToNat,Int.reduceAdd,Nat.reduceAdd,Nat.reduceSub,Nat.reduceMul,Nat.reduceLeDiff,gq3,gk3,tb _ a8,tb _ b8,tb _ c8,tb _ d8,ia _ a8,ia _ b8,ia _ c8,ia _ d8,zg4,zcz,zaD];refine⟨by rw[er],?_,At1.set q _ _⟩;unfold zoq;rw[if_neg h,if_pos ⟨by omega,h4⟩,e4];rfl
       ·simp(disch:=omega)only[↓RD,RZ];refine⟨by rw[er],?_,At1.refl _ _⟩;unfold zoq;rw[if_neg h,if_neg (λhh=>h4 hh.2),e4,e8];exact gq3
    ·rintro _ H4 ⟨rfl,gq4,s4⟩;have n4:=s4.next;simp(disch:=omega)only[↓RD,RZ];have s24:=s3.trans s4;have gk4:=(s24.same k (by omega) (by omega)).trans g2;have gi4:=(s24.same id (by omega) (by omega)).trans gi2;have hkw:(kw l n i).length=i:=zkv _ _ _;refine zao (New_1_ok (k:=k) (q:=q) (id:=id) (i:=i) (j:=n) (hwd i) (zo2 hsW) (by rw[hkw];exact gk4) gi4 gq4 (by omega) (by omega) (by omega) (by omega) (by omega) (by omega) (by omega) (by omega)) ?_;rintro _ H5 ⟨rfl,gq5,s5⟩;have n5:=s5.next;have s25:=s24.trans s5;have gk5:=(s25.same k (by omega) (by omega)).trans g2;obtain⟨x0,x1,x2,x3,ex⟩:=four (ztv (zoq n i sw) ((kw l n i).getD (i-n) []));rw[ex]at gq5;have lq:ldc (some 4) ([x0,x1,x2,x3].map by8) 0=some (.agg [by8 x0,by8 x1,by8 x2,by8 x3]):=rfl;have hK5:Kst H5 k (.sl id 0 i (.opn 4)) (kw l n i):=⟨gk5,App.same hw2.2.1 (by omega) λm hm=>by
      simp only[V.pid,yaa]at hm;exact s25.same m (by omega) (by omega),by omega⟩
     simp(disch:=first|omega|(simp only[RY]<;>omega)|decide)only[↓RD,RZ,eq_self,Int.reduceToNat,Int.reduceAdd,Nat.reduceAdd,Nat.reduceSub,Nat.reduceMul,Nat.reduceLeDiff,gk5,ek,gq5,lq];rw[za2];refine kpush hK5 (by rw[zkv];omega) λw' H6 hw6 b6=>?_;simp(disch:=omega)only[↓RD,RZ];refine⟨?_,w',?_,b2.trans (Bel.trans ⟨by omega,λm hm=>s25.same m (by omega) (by omega)⟩ b6)⟩
     ·rw[show i+1-1=i by omega];rfl
     ·rw[zxJ,if_neg (by omega),hsw,ex];exact hw6
   ·rintro _ H2 ⟨rfl,w2,hw2,b2⟩;have e1:(4:Int)*(((n:Nat):Int)+6+1)=((4*(n+7):Nat):Int):=by omega
    unfold zd2 uL uS uT uNFM uNF uN uB uI uIM uG uH uO uA uK uc ug;simp(disch:=omega)only[↓RD,RZ,e1];exact⟨w2,by rw[show 4*(n+7)=n+(4*(n+7)-n) by omega];exact hw2,b2⟩
  ·rintro _ H2 ⟨rfl,w2,hw2,b2⟩;obtain⟨id,rfl,g1,h1,h2⟩:=hw2.expl (by rw[zkv];omega);simp(disch:=omega)only[↓RD,RZ];exact⟨⟨yag _,id,⟨hw2.1,g1,hw2.2.2,h2,hwd _⟩,by omega⟩,b2⟩
def KNew_x{lo:Nat}{H:Heap}{v:V}{l:List Nat}{n:Nat}(hv:By lo H v l)(h8:Ok8 l)(hn:n=4\/n=8)(hl:l.length=4*n) :
  Ok (sem T zgg [v]) H λr H'=>∃k,r = .tup [.ptr k 0,.int .i64 0]/\AesB H.next H' k (kw l n (4*(n+7)))/\Grow H H'/\H.next<=k:=by
 refine zrt ?_;unfold znH uL uNF uB uG uH uO uA uR uc ub;have hpl:∀i,v.pid=some i->i<H.next:=λi hi=>(hv.own i hi).2;have fin:∀H1,H1.get H.next=some ⟨zaT,tabC false++[.nils],none⟩->H1.next=H.next+1->Grow H H1->Ok ((sem T zbj [.ptr H.next 0]).bind λt25=>
   (M.lift (Ax.vlen v)).bind λt27=>
   (M.lift (Ax.bin .quo t27 (V.int .i64 4))).bind λt28=>
   M.blk 0 (
    M.iter (zd3 (sem T) t28 (.ptr H.next 0) v V.nilp (V.int .i64 0)) [(V.int .i64 0)]) λ_=>
   M.blk 2 (
    M.iter (zd2 (sem T) t25 t28 (.ptr H.next 0) V.nilp (V.int .i64 0)) [(V.int .u8 1),t28]) λ_=>
   M.pure (.ret [.ptr H.next 0,(V.int .i64 0)])) H1 λr H'=>∃L,r = .ret L/\∃k,zdE L = .tup [.ptr k 0,.int .i64 0]/\AesB H.next H' k (kw l n (4*(n+7)))/\Grow H H'/\H.next<=k:=by
  intro H1 g1 n1 s1;refine zad (zxE g1 (by omega)) ?_;rintro _ H2 ⟨rfl,g2,s2⟩;have n2:=s2.next;have b2:Bel H.next H1 H2:=⟨s2.next,λi hi=>s2.same i (by omega) (by simp;omega)⟩;have hv2:By lo H2 v l:=(hv.ext s1).same n2 λj hj=>b2.same j (hpl j hj);have e1:((l.length:Nat):Int)/4=((n:Nat):Int):=by omega
  refine zcH hv2.vlen ?_;refine zcH (v:=.int .i64 (n:Nat)) (by rw[zwW (by omega) (by omega) (by omega),e1]) ?_;refine zao (New_rest hv2 h8 hn hl hpl g2 (by omega)) ?_;rintro _ H3 ⟨rfl,hA,b3⟩;exact⟨_,rfl,_,rfl,hA,(s1.bel' (yag _) (b2.trans b3)),yag _⟩
 rcases hn with hn4|hn8
 ·have hvl:Ax.vlen v=some (.int .i64 16):=by rw[hv.vlen,hl,hn4];rfl
  simp(disch:=omega)only[↓RD,RZ,hvl];rw[za2];exact fin _ (by rw[zaf];rfl) (zae _ _) (Grow.new _ _)
 ·have hvl:Ax.vlen v=some (.int .i64 32):=by rw[hv.vlen,hl,hn8];rfl
  simp(disch:=omega)only[↓RD,RZ,hvl];rw[za2];exact fin _ (by rw[zaf];rfl) (zae _ _) (Grow.new _ _)
def num_cons(x n:Nat):num x (n+1)=(x/256 ^ n%256)::num x n:=by
 unfold num;rw[ydw,yaR,ycC];congr 1;refine yct λi hi=>?_;rw[yaZ]at hi;show x/256 ^ (n+1-1-(i+1))%256 = _;rw[show n+1-1-(i+1)=n-1-i by omega]
def zun{H:Heap}{x:Nat}(hx:x<18446744073709551616):Ok (sem T zc5 [.int .u64 (x:Nat)]) H λr H'=>∃v,r = .tup [.int .u8 ((fld x).1:Nat),v]/\By H.next H' v (fld x).2/\Grow H H':=by
 refine zm9 ?_;unfold zjx uL uB uR uc ub uq ug;have np:=zgH x;by_cases h8:x<8
 ·have e:fld x=(x,[]):=by unfold fld;rw[if_pos h8]
  have c8:IntKind.u8.wrap ((x:Nat):Int)=((x:Nat):Int):=by rw[wrap_u8];omega
  simp(disch:=omega)only[↓RD,RZ,eq_self,seval,c8,e];exact⟨_,rfl,Lc.nil,Grow.refl _⟩
 ·have e:fld x=(8+zdh x-1,num x (zdh x)):=by unfold fld;rw[if_neg h8]
  simp(disch:=omega)only[↓RD,RZ,eq_self,seval];refine zaS (λk L H'=>∃b,L=[.int .u64 (x/256 ^ k:Nat),b]/\By H.next H' b (num x k)/\Grow H H') (zdh x) ?_ ?_ ?_
  ·exact⟨.nils,by simp,Lc.nil,Grow.refl _⟩
  ·rintro k _ H1 hk ⟨b,rfl,hb,s1⟩;have n1:=s1.next;have hpos:0<x/256 ^ k:=by
    refine Nat.div_pos (yax (ybB (by decide) (show k<=zdh x-1 by omega)) (zoU (by omega))) (Nat.pow_pos (by decide))
   have hlt:x/256 ^ k<18446744073709551616:=yc5 (Nat.div_le_self _ _) hx;have e1':x/256 ^ k/256=x/256 ^ (k+1):=by rw[ycc,ybu]
   have e1:shr (x/256 ^ k) 8=x/256 ^ (k+1):=by rw[zid,yaP];exact e1'
   have e8:=cint8 (x/256 ^ k);unfold zeM uL uB uK ub uq ug;simp(disch:=omega)only[↓RD,RZ,eq_self,seval,e8];have s2:=Grow.new H1 ⟨zab,[.int .u8 (x/256 ^ k%256:Nat)],none⟩;have g2:(H1.new ⟨zab,[.int .u8 (x/256 ^ k%256:Nat)],none⟩).get H1.next = _:=zaf _ _;have n2:(H1.new ⟨zab,[.int .u8 (x/256 ^ k%256:Nat)],none⟩).next=H1.next+1:=zae _ _;have hb2:=hb.ext s2;refine okb_ab (lo:=H1.next) (l:=[x/256 ^ k%256]) (m:=num x k) (.full g2 rfl (yag _) (by omega)) (by omega) hb2.ac (by rw[zea];simp;omega) λw H3 hw b3=>?_;simp(disch:=omega)only[↓RD,RZ,eq_self,seval,e1,e1'];exact⟨w,rfl,by rw[num_cons];exact hw.by.low (by omega),s1.trans (s2.bel' (yag _) b3)⟩
  ·rintro _ H1 ⟨b,rfl,hb,s1⟩;have hz:x/256 ^ zdh x=0:=yck (zni hx);have c8:IntKind.u8.wrap (((zdh x:Nat):Int)-1)=((zdh x-1:Nat):Int):=by rw[wrap_u8];omega
   have o8:8 ||| (zdh x-1)=8+zdh x-1:=by
    have:∀n,n<8->8 ||| n=8+n:=by decide
    rw[this _ (by omega)];omega
   have hvl:=hb.vlen;rw[zea]at hvl;rw[hz];unfold zeM uL uB uK ub uq ug;simp(disch:=omega)only[↓RD,RZ,eq_self,seval,hvl,c8,o8,e];exact⟨_,rfl,hb,s1⟩
def Bytes_ok{H:Heap}{kid ctr:Nat}(h1:kid<18446744073709551616)(h2:ctr<18446744073709551616):Ok (sem T zdX [.int .u64 (kid:Nat),.int .u64 (ctr:Nat)]) H λr H'=>By H.next H' r (hdr kid ctr)/\Grow H H':=by
 refine znb ?_;unfold zjz uE uB uA uR ub uq;refine zad (zun h1) ?_;rintro _ H1 ⟨a,rfl,ha,s1⟩;simp(disch:=omega)only[↓RD,RZ,eq_self,seval];refine zad (zun h2) ?_;rintro _ H2 ⟨b,rfl,hb,s2⟩;have n1:=s1.next;have n2:=s2.next;have k1:=(zlw kid).1;have k2:=(zlw ctr).1;have m1:∀x:Nat,(fld x).2.length<=8:=λx=>by
  unfold fld;split
  ·simp
  ·dsimp only;rw[zea];exact(zgH x).2
 have e1:(fld kid).1*16%256 ||| (fld ctr).1=(fld kid).1*16+(fld ctr).1:=by
  rw[yaB (by omega),show(16:Nat)=2 ^ 4 from rfl,ztU _ _ 4 k2]
 have e2:shl (fld kid).1 4%256 ||| (fld ctr).1=(fld kid).1*16+(fld ctr).1:=by rw[zsn,ybl];exact e1
 simp(disch:=omega)only[↓RD,RZ,eq_self,seval,e1,e2];have s3:=Grow.new H2 ⟨zab,[.int .u8 ((fld kid).1*16+(fld ctr).1:Nat)],none⟩;have g3:(H2.new ⟨zab,[.int .u8 ((fld kid).1*16+(fld ctr).1:Nat)],none⟩).get H2.next = _:=zaf _ _;have n3:(H2.new ⟨zab,[.int .u8 ((fld kid).1*16+(fld ctr).1:Nat)],none⟩).next=H2.next+1:=zae _ _;have ha3:=((ha.ext s2).ext s3);have hb3:=hb.ext s3;have l1:=m1 kid;have l2:=m1 ctr;refine okb_ab (lo:=H2.next) (l:=[(fld kid).1*16+(fld ctr).1]) (m:=(fld kid).2) (.full g3 rfl (yag _) (by omega)) (by omega) ha3.ac (by simp;omega) λw H4 hw b4=>?_;have hb4:By H1.next H4 b (fld ctr).2:=hb3.same b4.next λi hi=>b4.same i (hb.own i hi).2;have n4:=b4.next;refine okb_ab (m:=(fld ctr).2) hw (by omega) hb4.ac (by simp;omega) λw' H5 hw' b5=>?_;simp(disch:=omega)only[↓RD,RZ,eq_self,seval];refine⟨?_,(s1.trans s2).trans (s3.bel' (yag _) (b4.trans b5))⟩;have:=hw'.by.low (show H.next<=H2.next by omega);have e:hdr kid ctr=[(fld kid).1*16+(fld ctr).1]++(fld kid).2++(fld ctr).2:=by unfold hdr;simp
 rw[e];exact this
def and8:∀x,x<16->x &&& 8=if x<8 then 0 else 8:=by decide
def and7:∀x,x<16->x &&& 7=if x<8 then x else x-8:=by decide
def size_eq{x:Nat}(hx:x<16):sem T zdp [.int .u8 (x:Nat)]=M.pure (.int .i64 (psz x:Nat)):=by
 refine zgE λH=>?_;refine zoj ?_;unfold zkR psz uL uB uR uc ub;have a8:=and8 x hx;have a7:=and7 x hx;by_cases h:x<8
 ·rw[if_pos h]at a8 a7 ⊢;simp(disch:=first|omega|(simp only[RY]<;>omega)|decide)only[↓RD,RZ,eq_self,Int.reduceToNat,Int.reduceAdd,Nat.reduceAdd,Nat.reduceSub,Nat.reduceMul,Nat.reduceLeDiff,a8,a7];rfl
 ·rw[if_neg h]at a8 a7 ⊢;have e:(((x-8:Nat):Int))+1=((x-7:Nat):Int):=by omega
  simp(disch:=first|omega|(simp only[RY]<;>omega)|decide)only[↓RD,RZ,eq_self,Int.reduceToNat,Int.reduceAdd,Nat.reduceAdd,Nat.reduceSub,Nat.reduceMul,Nat.reduceLeDiff,a8,a7,e]
def znf{lo:Nat}{H:Heap}{v:V}{l:List Nat}{x:Nat}(hx:x<16)(hv:By lo H v l)(h8:Ok8 l)(hl:l.length=psz x):Ok (sem T zcN [.int .u8 (x:Nat),v]) H λr H'=>r = .tup [.int .u64 (pnum x l:Nat),.bool (zmX x l)]/\H'=H:=by
 refine zmb ?_;unfold ziQ uL uB uIM uG uH uR uc ub uq ug;have a8:=and8 x hx;by_cases h:x<8
 ·rw[if_pos h]at a8;have c:IntKind.u64.wrap ((x:Nat):Int)=((x:Nat):Int):=by rw[wrap_u64];omega
  simp(disch:=omega)only[↓RD,RZ,eq_self,seval,a8,c];unfold pnum zmX;rw[if_pos h,if_pos h]
 ·rw[if_neg h]at a8;unfold psz at hl;rw[if_neg h]at hl;simp(disch:=omega)only[↓RD,RZ,eq_self,seval,a8,hv.vlen];refine zaS (λi L H'=>L=[.int .u64 (be (l.take i):Nat),.int .i64 (i:Nat)]/\H'=H) l.length ?_ ?_ ?_
  ·exact⟨rfl,rfl⟩
  ·rintro i _ H' hi ⟨rfl,rfl⟩;obtain⟨p,hp,hld,-⟩:=by_at hv (i:=(i:Nat)) (by omega) (by omega);have e1:=zyI h8 hi (by omega);have b1:=be_take_lt h8 (show i<=8 by omega);have b2:=getD_lt h8 i;simp only[yan]at hld;have e2:be (l.take i)*256%18446744073709551616<18446744073709551616:=ybc _ (by decide);unfold zeh uL uB uIM uK uc uq ug;simp(disch:=omega)only[↓RD,RZ,eq_self,seval,hp,hld,yan,e1];rfl
  ·rintro _ H' ⟨rfl,rfl⟩;obtain⟨p,hp,hld,-⟩:=by_at hv (i:=0) (by omega) (by omega);simp only[yc1]at hld;unfold zeh uL uB uIM uK uc uq ug;simp(disch:=omega)only[↓RD,RZ,eq_self,seval,ya2,hp,hld];have eb:(((l.getD 0 0:Nat):Int)==0)=decide (l.getD 0 0=0):=by
    by_cases h:l.getD 0 0=0
    ·rw[h];rfl
    ·rw[decide_eq_false h];have:¬((l.getD 0 0:Nat):Int)=0:=by omega
     simpa using this
   have ef:zmX x l=((l.getD 0 0 != 0)&&decide (8<=be l)):=by unfold zmX;rw[if_neg h]
   have ep:pnum x l=be l:=by unfold pnum;rw[if_neg h]
   rw[ef,ep,eb];by_cases h0:l.getD 0 0=0
   ·rw[decide_eq_true h0,h0];simp(disch:=omega)only[↓RD,RZ,eq_self,seval];rw[ya2];rfl
   ·rw[decide_eq_false h0];have e0:(l.getD 0 0 != 0)=true:=by simpa using h0
    rw[e0];have eg:decide ((8:Int)<=((be l:Nat):Int))=decide (8<=be l):=by
     by_cases h:8<=be l
     ·rw[decide_eq_true h,decide_eq_true (by omega)]
     ·rw[decide_eq_false h,decide_eq_false (by omega)]
    simp(disch:=omega)only[↓RD,RZ,eq_self,seval,eg];rw[ya2];rfl
def phv:PH->V
 | .err e=>.tup [.int .u64 0,.int .u64 0,.int .i64 0,.int .i64 (e:Nat)]
 | .ok kid ctr n=>.tup [.int .u64 (kid:Nat),.int .u64 (ctr:Nat),.int .i64 (n:Nat),.int .i64 0]
def zpq{lo:Nat}{H:Heap}{v:V}{l:List Nat}(hv:By lo H v l)(h8:Ok8 l)(hl:l.length<=1125899906842624):Ok (sem T zc6 [v]) H λr H'=>r=phv (parse l)/\H'=H:=by
 refine zna ?_;unfold zjy uL uE uB uIM uG uH uA uR uc ub uq;have ez:(((l.length:Nat):Int)==0)=decide (l.length=0):=by
  by_cases h:l.length=0
  ·rw[h];rfl
  ·rw[decide_eq_false h];have:¬((l.length:Nat):Int)=0:=by omega
   simpa using this
 simp(disch:=omega)only[↓RD,RZ,eq_self,seval,hv.vlen,ez];rw[zin];refine zcm (λh=>?_) (λh=>?_)
 ·simp(disch:=omega)only[↓RD,RZ,eq_self,seval];unfold parse;rw[if_pos h];rfl
 ·obtain⟨p,hp,hld,-⟩:=by_at hv (i:=0) (by omega) (by omega);simp only[yc1]at hld;have g8:=getD_lt h8 0;unfold parse;rw[if_neg h];generalize l.getD 0 0=x at *;have a15:x &&& 15=x%16:=yby x 4;have e4:shr x 4=x/16:=by rw[zid,yaP]
  have x1:=size_eq (x:=x/16) (by omega);have x2:=size_eq (x:=x%16) (by omega);have p1:psz (x/16)<=8:=by unfold psz;split<;>omega
  have p2:psz (x%16)<=8:=by unfold psz;split<;>omega
  have e1:(1:Int)+((psz (x/16):Nat):Int)=((1+psz (x/16):Nat):Int):=by omega
  have e2:((1+psz (x/16):Nat):Int)+((psz (x%16):Nat):Int)=((1+psz (x/16)+psz (x%16):Nat):Int):=by omega
  simp(disch:=omega)only[↓RD,RZ,eq_self,seval,hp,hld,e4,a15,x1,x2,e1,e2,hv.vlen];rw[zin];refine zcm (λh1=>?_) (λh1=>?_)
  ·simp(disch:=omega)only[↓RD,RZ,eq_self,seval];rw[if_pos (by omega)];rfl
  ·rw[if_neg (by omega)];obtain⟨va,ha,-,-,hva,-⟩:=by_slice hv (x:=1) (y:=((1+psz (x/16):Nat):Int)) (by omega) (by omega) (by omega);obtain⟨vb,hb,-,-,hvb,-⟩:=by_slice hv (x:=((1+psz (x/16):Nat):Int)) (y:=((1+psz (x/16)+psz (x%16):Nat):Int)) (by omega) (by omega) (by omega);simp only[yan,Int.toNat_one]at hva hvb;rw[<-yb3]at hva hvb;have la:((l.take (1+psz (x/16))).drop 1).length=psz (x/16):=by rw[yas,yaq];omega
   have lb:((l.take (1+psz (x/16)+psz (x%16))).drop (1+psz (x/16))).length=psz (x%16):=by rw[yas,yaq];omega
   have k1:=@zeQ _ _ _ _ (znf (by omega) hva ((h8.take _).drop _) la);have k2:=@zeQ _ _ _ _ (znf (by omega) hvb ((h8.take _).drop _) lb);simp(disch:=omega)only[↓RD,RZ,eq_self,seval,ha,hb,k1,k2];generalize (l.take (1+psz (x/16))).drop 1=ya at *;generalize (l.take (1+psz (x/16)+psz (x%16))).drop (1+psz (x/16))=yb at *;cases q1:zmX (x/16) ya with
   | false=>
    simp(disch:=omega)only[↓RD,RZ,eq_self,seval,ya6];rw[q1];rfl
   | true=>
    cases q2:zmX (x%16) yb with
    | false=>
     simp(disch:=omega)only[↓RD,RZ,eq_self,seval,ybn,ya6];rw[q1,q2];rfl
    | true=>
     simp(disch:=omega)only[↓RD,RZ,eq_self,seval,ybn,ya6];rw[q1,q2];rfl
def beqn(n m:Nat):(((n:Nat):Int)==((m:Nat):Int))=decide (n=m):=by
 by_cases h:n=m
 ·rw[h,decide_eq_true rfl];simp
 ·rw[decide_eq_false h];have:¬((n:Nat):Int)=((m:Nat):Int):=by omega
  simpa using this
def beqz(n:Nat):(((n:Nat):Int)==0)=decide (n=0):=beqn n 0
def zv5{a b:Nat}(h:a ^^^ b=0):a=b:=by
 have h1:(a ^^^ b) ^^^ b=b:=by rw[h,Nat.zero_xor]
 rw[Nat.xor_assoc,ydy,Nat.xor_zero]at h1;exact h1
def or_zero8{a b:Nat}(h:a ||| b=0):a=0/\b=0:=by
 have:=Nat.left_le_or (n:=a) (m:=b);have:=Nat.right_le_or (n:=a) (m:=b);omega
def or_lt8{a b:Nat}(ha:a<256)(hb:b<256):a ||| b<256:=yce (n:=8) ha hb
def Same_ok{lo lo':Nat}{H:Heap}{u v:V}{a b:List Nat}(hu:By lo H u a)(hv:By lo' H v b)(ha:Ok8 a)(hb:Ok8 b)(hal:a.length<=1125899906842624):Ok (sem T zhi [u,v]) H λr H'=>r = .bool (decide (a=b))/\H'=H:=by
 refine zsH ?_;unfold zo8 uL uB uR uc ub ug;simp(disch:=omega)only[↓RD,RZ,hu.vlen,hv.vlen,beqn];by_cases hl:a.length=b.length
 ·have e:decide (a.length=b.length)=true:=decide_eq_true hl;simp(disch:=omega)only[↓RD,RZ,e,hu.vlen];refine zaS (λi L H'=>∃x,L=[.int .u8 (x:Nat),.int .i64 (i:Nat)]/\H'=H/\x<256/\(x=0<->a.take i=b.take i)) a.length ?_ ?_ ?_
  ·exact⟨0,rfl,rfl,by decide,by simp⟩
  ·rintro i _ H' hi ⟨x,rfl,rfl,hx,hxe⟩;obtain⟨p,hp,hld,-⟩:=by_at hu (i:=(i:Nat)) (by omega) (by omega);obtain⟨q,hq,hlq,-⟩:=by_at hv (i:=(i:Nat)) (by omega) (by omega);simp only[yan]at hld hlq;have h1:=ha.getD i;have h2:=hb.getD i;have ex:=zoG h1 h2;replace ex:Ax.bin .xor (.int .u8 (a.getD i 0:Nat)) (.int .u8 (b.getD i 0:Nat))=some (.int .u8 (a.getD i 0 ^^^ b.getD i 0:Nat)):=ex;have hxl:=zcG h1 h2;unfold ziL uB uIM uK uc ug;simp(disch:=omega)only[↓RD,RZ,hp,hq,hld,hlq,ex];refine⟨_,rfl,or_lt8 hx hxl,?_⟩;rw[take_snoc hi,take_snoc (by omega)];constructor
   ·intro h;obtain⟨h3,h4⟩:=or_zero8 h;rw[hxe.1 h3,zv5 h4]
   ·intro h;have:=List.append_inj h (by rw[yaq,yaq];omega);rw[hxe.2 this.1,Nat.zero_or];have h5:a.getD i 0=b.getD i 0:=by simpa using this.2
    rw[h5,ydy]
  ·rintro _ H' ⟨x,rfl,rfl,hx,hxe⟩;unfold ziL uB uIM uK uc ug;simp(disch:=omega)only[↓RD,RZ,beqz];rw[ya2,hl,ya2]at hxe;simp only[hxe]
 ·have e:decide (a.length=b.length)=false:=decide_eq_false hl;have e2:decide (a=b)=false:=decide_eq_false λh=>hl (by rw[h]);simp(disch:=omega)only[↓RD,RZ,e];rw[e2]
def by_sl{lo id n:Nat}{H:Heap}{cap:Cap}{ty:TypeId}{l:List Nat}{o:Option Nat} (h:H.get id=some ⟨ty,l.map by8,o⟩) (hl:l.length=n) (h0:lo<=id) (h1:id<H.next) (hc:V.capOk 1 (.sl id 0 n cap)):By lo H (.sl id 0 n cap) l:=by
 refine⟨?_,λi hi=>by simp only[V.pid,yaa]at hi;omega,hc⟩;simp only[rcells,h,Option.bind_some];rw[if_pos (by rw[yah];omega),yaA,yaj (by rw[yah];omega),hl]
def Ab.blk{lo:Nat}{H:Heap}{v:V}{l:List Nat}(h:Ab lo H v l)(h0:0<l.length):∃id cap o,v = .sl id 0 l.length cap/\H.get id=some ⟨zab,l.map by8,o⟩/\lo<=id/\id<H.next/\V.capOk 1 (.sl id 0 l.length cap):=by
 have hc:=Ab.by h |>.cap;have h':Apf zab 1 lo H v (l.map by8) l.length:=h;generalize hn:l.length=n at *;generalize hcs:l.map by8=cs at *;have hcl:cs.length=n:=by rw[<-hcs,yah,hn]
 clear h;cases h' with
 | app h=>
  cases h with
  | opn h ho=>
   rcases h with⟨_,_,h⟩|⟨id,rfl,hg,hl⟩
   ·omega
   ·exact⟨id,_,_,rfl,hg,(ho id rfl).1,(ho id rfl).2,hc⟩
  | lit h g0 g1=>omega
 | full h hl g0 g1=>exact⟨_,_,_,rfl,h,g0,g1,hc⟩
def zqq{lo id off len:Nat}{H:Heap}{cap:Cap}{ty:TypeId}{v:V}{cs:List V}{o:Option Nat}{p:List Nat} (hg:H.get id=some ⟨ty,cs,o⟩) (hv:By lo H v p) (h1:off+len<=cs.length) (h2:p.length<=len) :
  mcopy 1 (.sl id off len cap) v H=some (.int .i64 (p.length:Nat),H.set id (some ⟨ty,splice cs off (p.map by8),o⟩)):=by
 unfold mcopy;rw[hv.ac];simp only[Option.bind_some,hg];rw[if_pos (by omega),ya7 h2,ya5,yaj (by rw[yah];exact yag _)]
def Join_x{lo:Nat}{H:Heap}{v:V}{vs:List V} {ps:List (List Nat)} (hv:Lc 1 lo H v vs vs.length) (hp:Pts 0 H vs ps) (hn:2<=vs.length) (hvn:vs.length<=1000) (hlen:ps.flatten.length<=1099511627776) :
  Ok (sem T zfb [v,.nils]) H λr H'=>Fx (some 1) H.next H' r ps.flatten/\Grow H H':=by
 refine zpS ?_;unfold zlZ uL uB uIM uR uK uc ub ug;have hpl:=hp.1;have c0:(((vs.length:Nat):Int)==0)=false:=by rw[beqz];exact decide_eq_false (by omega)
 have c1:(((vs.length:Nat):Int)==1)=false:=by rw[show(1:Int)=((1:Nat):Int) from rfl,beqn];exact decide_eq_false (by omega)
 have vn:Ax.vlen .nils=some (.int .i64 0):=rfl;simp(disch:=omega)only[↓RD,RZ,hv.vlen,c0,c1,vn];refine zao (α:=Res) (Q:=λz H'=>z = .ex 0 [.int .i64 (ps.flatten.length:Nat)]/\H'=H) ?_ ?_
 ·refine zaS (λi L H'=>L=[.int .i64 ((ps.take i).flatten.length:Nat),.int .i64 (i:Nat)]/\H'=H) vs.length ?_ ?_ ?_
  ·exact⟨rfl,rfl⟩
  ·rintro i _ H' hi ⟨rfl,rfl⟩;have hx:vs[i]?=some vs[i]:=yae hi;have hy:ps[i]?=some ps[i]:=yae (by omega);obtain⟨hb,hb8⟩:=hp.2 i _ _ hx hy;obtain⟨q,hq,hld⟩:=zyi hv hi hx;have hf:=zgT hy;have hl1:=zdI ps (i+1);rw[hf,yaf]at hl1;unfold zgy uL uB uIM uK uc ug;have ea:(((ps.take i).flatten.length:Nat):Int)+((ps[i].length:Nat):Int)=(((ps.take (i+1)).flatten.length:Nat):Int):=by rw[hf,yaf];omega
   simp(disch:=omega)only[↓RD,RZ,hq,hld,hb.vlen,ea];rfl
  ·rintro _ H' ⟨rfl,rfl⟩;unfold zgy uL uB uIM uK uc ug;simp(disch:=omega)only[↓RD,RZ];rw[yaj (by omega)]
 ·rintro _ H' ⟨rfl,rfl⟩;have hx0:vs[0]?=some vs[0]:=yae (by omega);have hy0:ps[0]?=some ps[0]:=yae (by omega);obtain⟨hb0,-⟩:=hp.2 0 _ _ hx0 hy0;have hf0:=zgT hy0;rw[ya4,ycm,yaU]at hf0;have hl0:=zdI ps 1;rw[hf0]at hl0;generalize hn':ps.flatten.length=n at *;simp(disch:=omega)only[↓RD,RZ];have hmk:mmknz zab (.int .i64 (n:Nat)) H'=some (.sl H'.next 0 n (.opn 1),H'.new ⟨zab,List.replicate n .any,some 1⟩):=by
   simp only[mmknz];rw[if_pos (by omega),yan]
  rw[za2];refine zaQ ⟨_,_,hmk,?_⟩;have s1:=Grow.new H' ⟨zab,List.replicate n .any,some 1⟩;have g1:(H'.new ⟨zab,List.replicate n .any,some 1⟩).get H'.next = _:=zaf _ _;have n1:(H'.new ⟨zab,List.replicate n .any,some 1⟩).next=H'.next+1:=zae _ _;have hv1:=hv.ext s1;have hp1:=hp.grow s1;have hb1:=hb0.ext s1;generalize hb:H'.next=b at *;generalize H'.new _=H1 at *;have hvb:∀i,v.pid=some i->i<b:=λi hi=>by have:=(hv.own i hi).2;omega
  have vsl:zat .sl 1 (.sl b 0 n (.opn 1)) none (some (.int .i64 (n:Nat))) (some (.int .i64 (n:Nat)))=some (.sl b 0 n (.fix n)):=by
   simp only[zat,zcD,vint,yat,Option.bind_some,Option.getD_some,yaX];rw[if_neg (by simp),if_pos (by omega)];simp
  obtain⟨q,hq,hld⟩:=zyi hv1 (i:=0) (by omega) hx0;replace hq:∀{k:IntKind},Ax.iaddr none 1 v (.int k 0)=some q:=hq;simp(disch:=omega)only[↓RD,RZ,vsl,hq,hld];have cp:=zqq (off:=0) (len:=n) (cap:=.fix n) g1 hb1 (by simp) (by omega);rw[za2];refine zaQ ⟨_,_,cp,?_⟩;obtain⟨w,-,-,hw,hwc,hwp⟩:=hv1.slice (x:=1) (y:=(vs.length:Nat)) (by omega) (by omega) (by omega);have hw:=hw rfl (k:=.i64);have e1:(1:Int).toNat=1:=rfl;rw[e1,yan,ya5,ya5,yaj (by rw[yas];omega)]at hwc;have hwb:w.pid≠some b:=by rw[hwp];exact λe=>by have:=hvb _ e;omega
  simp(disch:=omega)only[↓RD,RZ,hw,hwc.vlen];have sp0:∀(p:List Nat),p.length<=n->splice (List.replicate n V.any) 0 (p.map by8)=p.map by8++List.replicate (n-p.length) .any:=λp hp=>by
   unfold splice;rw[ya4,yaU,yah,ya8,ycv]
  have spj:∀(p q:List Nat),p.length+q.length<=n->splice (p.map by8++List.replicate (n-p.length) V.any) p.length (q.map by8)=(p++q).map by8++List.replicate (n-(p++q).length) .any:=λp q h=>by
   unfold splice;rw[ybU (by rw[yah]),yah,ydl,yah,yaS (by rw[yah];omega),yaU,ycv,yaC,yaf,show n-p.length-(p.length+q.length-p.length)=n-(p.length+q.length) by omega]
  refine zao (α:=Res) (Q:=λz H'=>z = .ex 2 []/\H'.get b=some ⟨zab,ps.flatten.map by8,some 1⟩/\At1 b H1 H') ?_ ?_
  ·refine zaS (λj L H'=>L=[.int .i64 ((ps.take (j+1)).flatten.length:Nat),.int .i64 (j:Nat)]/\H'.get b=some ⟨zab,(ps.take (j+1)).flatten.map by8++List.replicate (n-(ps.take (j+1)).flatten.length) .any,some 1⟩/\At1 b H1 H') (vs.length-1) ?_ ?_ ?_
   ·refine⟨by rw[ya8,hf0];rfl,?_,At1.set b _ _⟩;rw[zai,ya8,hf0,sp0 _ hl0]
   ·rintro j _ H2 hj ⟨rfl,g2,s2⟩;have hx:vs[j+1]?=some vs[j+1]:=yae (by omega);have hy:ps[j+1]?=some ps[j+1]:=yae (by omega);obtain⟨hbj,-⟩:=hp1.2 (j+1) _ _ hx hy;obtain⟨hbj0,-⟩:=hp.2 (j+1) _ _ hx hy;have hbj2:=hbj.at1 s2 (λe=>by have:=(hbj0.own _ e).2;omega);have hwc2:=hwc.at1 s2 hwb;have hwl:(vs.drop 1).length=vs.length-1:=yas ..;rw[<-hwl]at hwc2;have hwx:(vs.drop 1)[j]?=some vs[j+1]:=by rw[ya0,ycQ];exact hx
    obtain⟨q2,hq2,hld2⟩:=zyi hwc2 (i:=j) (by omega) hwx;have hf:=zgT hy;have hl1:=zdI ps (j+1+1);rw[hf,yaf]at hl1;rw[hf];generalize (ps.take (j+1)).flatten=P at *;have vs1:zat .sl 1 (.sl b 0 n (.fix n)) (some (.int .i64 (P.length:Nat))) none none=some (.sl b P.length (n-P.length) (.fix (n-P.length))):=by
     simp only[zat,zcD,vint,yat,Option.bind_some,Option.getD_some,yaX];rw[if_neg (by simp),if_pos (by omega)];simp
    have cl:(P.map by8++List.replicate (n-P.length) V.any).length=n:=by rw[yaf,yah,yaF];omega
    have nl:By 0 H2 .nils []:=Lc.nil;have cp1:=zqq (off:=P.length) (len:=n-P.length) (cap:=.fix (n-P.length)) g2 nl (by omega) (yaD _);have sp1:splice (P.map by8++List.replicate (n-P.length) V.any) P.length (([]:List Nat).map by8)=P.map by8++List.replicate (n-P.length) V.any:=by
     rw[spj P [] (by simp;omega),yaK]
    rw[sp1]at cp1;have s3:=At1.set b H2 (some ⟨zab,P.map by8++List.replicate (n-P.length) V.any,some 1⟩);have g3:(H2.set b (some ⟨zab,P.map by8++List.replicate (n-P.length) V.any,some 1⟩)).get b = _:=zai _ _ _;have hbj3:=hbj2.at1 s3 (λe=>by have:=(hbj0.own _ e).2;omega);have cp2:=zqq (off:=P.length) (len:=n-P.length) (cap:=.fix (n-P.length)) g3 hbj3 (by omega) (by omega);rw[spj _ _ (by omega)]at cp2;have ea:((P.length:Nat):Int)+((0:Nat):Int)=((P.length:Nat):Int):=by omega
    unfold zgx uL uB uIM uK uc ug;simp(disch:=omega)only[↓RD,RZ,hq2,hld2,vs1];rw[za2];refine zaQ ⟨_,_,cp1,?_⟩;have ez:(([]:List Nat).length:Nat)=0:=rfl;simp(disch:=omega)only[↓RD,RZ,ez,ea,vs1,ycn,Int.add_zero];rw[za2];refine zaQ ⟨_,_,cp2,?_⟩;simp(disch:=omega)only[↓RD,RZ];exact⟨by rw[yaf];rfl,(s2.trans s3).trans (At1.set b _ _)⟩
   ·rintro _ H2 ⟨rfl,g2,s2⟩;unfold zgx uL uB uIM uK uc ug;simp(disch:=omega)only[↓RD,RZ];refine⟨?_,s2⟩;rw[g2,show vs.length-1+1=vs.length by omega,yaj (by omega),hn',ycy];simp
  ·rintro _ H2 ⟨rfl,g2,s2⟩;have n2:=s2.next;simp(disch:=omega)only[↓RD,RZ];exact⟨⟨b,by rw[hn'],g2,by omega,by omega⟩,⟨by omega,λi hi=>by rw[s2.same i (by omega) (by omega),s1.same i (by omega)]⟩⟩
structure KyG (K:Ky):Prop where
 kid:K.kid<18446744073709551616
 t:K.t<=32
 ws:∀w∈K.ws,Word w
 wl:K.ws.length<=1000
 w4:K.ws.length%4=0
 w8:8<=K.ws.length
 auth:K.auth.length=32
 auth8:Ok8 K.auth
 salt:K.salt.length=12
 salt8:Ok8 K.salt
structure KeyM (H:Heap) (k:Nat) (K:Ky):Prop where
 good:KyG K
 mem:∃a av sv,H.get k=some ⟨zaR,[.int .u64 (K.kid:Nat),.int .i64 (K.t:Nat),.ptr a 0,av,sv],none⟩/\Aes H a K.ws/\By 0 H av K.auth/\By 0 H sv K.salt
 low:k<H.next
def KeyM.grow{H H':Heap}{k:Nat}{K:Ky}(h:KeyM H k K)(g:Grow H H'):KeyM H' k K:=by
 obtain⟨a,av,sv,h1,h2,h3,h4⟩:=h.mem;exact⟨h.good,⟨a,av,sv,by rw[g.same k h.low];exact h1,h2.grow g,h3.ext g,h4.ext g⟩,yai h.low g.next⟩
def zio(s:List Nat)(c:Nat):(zcA s c).length=12:=by simp[zcA]
def zsO{s:List Nat}(h:Ok8 s)(c:Nat):Ok8 (zcA s c):=Ok8.rmap λi _=>zcG ((zlJ c 12).getD i) (h.getD i)
def zya(s:List Nat)(c:Nat):(first (zcA s c)).length=16:=by unfold first;rw[yaf,zio];rfl
def first_8{s:List Nat}(h:Ok8 s)(c:Nat):Ok8 (first (zcA s c)):=(zsO h c).app (Ok8.rep 4)
def zt1{H:Heap}{k c:Nat}{K:Ky}(hk:KeyM H k K)(hc:c<18446744073709551616):Ok (sem T zb1 [.ptr k 0,.int .u64 (c:Nat)]) H λr H'=>By H.next H' r (zcA K.salt c)/\Grow H H':=by
 refine zjI ?_;unfold zgh uL uA uR uc;refine zad (zgG c 12 hc (by decide)) ?_;rintro r H1 ⟨hr,s1⟩;have nl:=zio K.salt c;have hk1:=hk.grow s1;have kl:=hk.low;have m12:=zea c 12;obtain⟨id,cap,o,hrv,g1,i0,i1,hcap⟩:=hr.blk (by rw[m12];decide);rw[m12]at hrv hcap;subst hrv;have vn:Ax.vlen (.sl id 0 12 cap)=some (.int .i64 12):=rfl;obtain⟨a,av,sv,k1,-,-,ks⟩:=hk1.mem;obtain⟨a',av',sv',k1',-,-,ks'⟩:=hk.mem;have hpid:∀i,sv.pid=some i->i<H.next:=by
  have e:=(s1.same k kl).symm.trans k1;rw[k1']at e;simp only[yaa,Blk.mk.injEq,ybs,true_and,and_true]at e;obtain⟨-,rfl,-⟩:_/\sv'=sv/\True:=⟨trivial,by simp_all,trivial⟩;exact λi hi=>(ks'.own i hi).2
 have n1:=s1.next;simp(disch:=omega)only[↓RD,RZ,eq_self,seval,vn];refine zao (α:=Res) (Q:=λz H'=>z = .ex 0 []/\H'.get id=some ⟨zab,(zcA K.salt c).map by8,o⟩/\At1 id H1 H') ?_ ?_
 ·refine zaS (λi L H'=>L=[.int .i64 (i:Nat)]/\H'.get id=some ⟨zab,((zcA K.salt c).take i++(num c 12).drop i).map by8,o⟩/\At1 id H1 H') 12 ?_ ?_ ?_
  ·exact⟨rfl,by simpa using g1,At1.refl _ _⟩
  ·rintro i _ H2 hi ⟨rfl,g2,s2⟩;have gk2:=(s2.same k (by omega) (by omega)).trans k1;have ks2:=ks.at1 s2 (λe=>by have:=hpid _ e;omega);obtain⟨p,hp,hld,-⟩:=by_at ks2 (i:=(i:Nat)) (by omega) (by have:=hk.good.salt;omega);simp only[yan]at hld;have hA:(((zcA K.salt c).take i).map by8).length=i:=by rw[yah,yaq];omega
   rw[zwe (by omega)]at g2;have m1:=zpW (b:=by8 ((num c 12).getD i 0)) (C:=((num c 12).drop (i+1)).map by8) hA;have m2:=zpV (b:=by8 ((num c 12).getD i 0)) (y:=by8 ((zcA K.salt c).getD i 0)) (C:=((num c 12).drop (i+1)).map by8) hA;have ml:(((zcA K.salt c).take i).map by8++by8 ((num c 12).getD i 0)::((num c 12).drop (i+1)).map by8).length=12:=by rw[yaf,hA,List.length_cons,yah,yas];omega
   have ex:=zoG ((zlJ c 12).getD i) (hk.good.salt8.getD i);have ea:(num c 12).getD i 0 ^^^ K.salt.getD i 0=(zcA K.salt c).getD i 0:=by unfold zcA;rw[zdR hi]
   rw[ea]at ex;replace ex:Ax.bin .xor (by8 ((num c 12).getD i 0)) (.int .u8 (K.salt.getD i 0:Nat)) = _:=ex;unfold zdk uT uNFM uB uI uIM uK uc ug;simp(disch:=omega)only[↓RD,RZ,eq_self,seval,g2,m1,gk2,hp,hld,ex,m2,ml,zg4,zcz];refine⟨by omega,rfl,?_,s2.trans (At1.set id _ _)⟩;rw[zse (by omega)]
  ·rintro _ H2 ⟨rfl,g2,s2⟩;unfold zdk uT uNFM uB uI uIM uK uc ug;simp(disch:=omega)only[↓RD,RZ,eq_self,seval];refine⟨?_,s2⟩;rw[g2,yaj (by omega),yaS (by omega),yaK]
 ·rintro _ H2 ⟨rfl,g2,s2⟩;have n2:=s2.next;simp(disch:=omega)only[↓RD,RZ,eq_self,seval];exact⟨by_sl g2 nl i0 (by omega) hcap,⟨by omega,λi hi=>by rw[s2.same i (by omega) (by omega),s1.same i hi]⟩⟩
def zyq{lo lo':Nat}{H:Heap}{k c:Nat}{K:Ky}{nv bv:V}{l:List Nat}(hk:KeyM H k K) (hn:By lo H nv (zcA K.salt c)) (hb:By lo' H bv l) (h8:Ok8 l) (hl:l.length<=1099511627776) :
  Ok (sem T zbA [.ptr k 0,nv,bv]) H λr H'=>Fx none H.next H' r (ctr K.ws (first (zcA K.salt c)) l)/\Grow H H':=by
 refine zjJ ?_;unfold zgi uL uS uNFM uE uO uA uR uc;refine zaQ (zdO (by rfl) ?_);rw[zaD];have s1:=Grow.new H ⟨zac,[(),(),(),(),(),(),(),(),(),(),(),(),(),(),(),()],none⟩;have g1:(H.new ⟨zac,[(),(),(),(),(),(),(),(),(),(),(),(),(),(),(),()],none⟩).get H.next=some ⟨zac,List.replicate 16 (.int .u8 0),none⟩:=zaf _ _;have n1:(H.new ⟨zac,[(),(),(),(),(),(),(),(),(),(),(),(),(),(),(),()],none⟩).next=H.next+1:=zae _ _;have hk1:=hk.grow s1;have hn1:=hn.ext s1;have hb1:=hb.ext s1;have kl:=hk.low;generalize ha:H.next=a at *;generalize H.new _=H1 at *;have nl:=zio K.salt c;have cp:=zqq (off:=0) (len:=16) (cap:=.fix 16) g1 hn1 (by rw[yaF];decide) (by omega);have sp:splice (List.replicate 16 (V.int .u8 0)) 0 ((zcA K.salt c).map by8)=(first (zcA K.salt c)).map by8:=by
  unfold splice first
  rw[ya4,yaU,yah,nl,yaC,ycv];rfl
 rw[sp]at cp;have vs:=zoI (n:=16) (id:=a);simp(disch:=omega)only[↓RD,RZ,eq_self,seval,vs];rw[za2];refine zaQ ⟨_,_,cp,?_⟩;have fl:=zya K.salt c;have f8:=first_8 hk.good.salt8 c;have s2:=At1.set a H1 (some ⟨zac,(first (zcA K.salt c)).map by8,none⟩);have g2:(H1.set a (some ⟨zac,(first (zcA K.salt c)).map by8,none⟩)).get a = _:=zai _ _ _;have s02:Grow H (H1.set a (some ⟨zac,(first (zcA K.salt c)).map by8,none⟩)):=s1.set (by omega) _;have hk2:=hk.grow s02;have hb2:=hb.ext s02;generalize Heap.set _ a _=H2 at *;obtain⟨aa,av,sv,k1,kA,-,-⟩:=hk2.mem;have l1:=ld16 fl;simp(disch:=omega)only[↓RD,RZ,eq_self,seval,k1,g2,l1];have hg:=hk.good;refine zad (Crypt_x kA fl f8 hb2 h8 hg.wl hg.w4 hg.w8 hl) ?_;rintro _ H3 ⟨r,rfl,hr,s3⟩;have n2:=s02.next;simp(disch:=omega)only[↓RD,RZ,eq_self,seval];exact⟨hr.low (by omega),s02.trans s3⟩
def crypt_ok{lo lo':Nat}{H:Heap}{k c:Nat}{K:Ky}{nv bv:V}{l:List Nat}(hk:KeyM H k K) (hn:By lo H nv (zcA K.salt c)) (hb:By lo' H bv l) (h8:Ok8 l) (hl:l.length<=1099511627776) :
  Ok (sem T zbA [.ptr k 0,nv,bv]) H λr H'=>By H.next H' r (ctr K.ws (first (zcA K.salt c)) l)/\Grow H H':=
 zao (zyq hk hn hb h8 hl) λ_ _ h=>⟨h.1.by,h.2⟩
def zqN{lo1 lo2 lo3 lo4:Nat}{H:Heap}{k:Nat}{K:Ky}{nv hv mv bv:V}{n h m b:List Nat}(hk:KeyM H k K)(hn:By lo1 H nv n)(n8:Ok8 n)(hh:By lo2 H hv h)(h8:Ok8 h)(hm:By lo3 H mv m)(m8:Ok8 m)(hb:By lo4 H bv b)(b8:Ok8 b)
  (hl:n.length+h.length+m.length+b.length<=549755813888) :
  Ok (sem T zbK [.ptr k 0,nv,hv,mv,bv]) H λr H'=>By H.next H' r (zk8 K n h m b)/\Grow H H':=by
 refine zi4 ?_;unfold zfH uL uM uT uNFM uNF uB uO uU uA uZ uR uc;have e1:((h.length:Nat):Int)+((m.length:Nat):Int)=((h.length+m.length:Nat):Int):=by omega
 have w1:IntKind.u64.wrap ((h.length+m.length:Nat):Int)=((h.length+m.length:Nat):Int):=by rw[wrap_u64];omega
 have w2:IntKind.u64.wrap ((b.length:Nat):Int)=((b.length:Nat):Int):=by rw[wrap_u64];omega
 have w3:IntKind.u64.wrap ((K.t:Nat):Int)=((K.t:Nat):Int):=by rw[wrap_u64];have:=hk.good.t;omega
 have kl:=hk.low;simp(disch:=omega)only[↓RD,RZ,eq_self,seval,hh.vlen,hm.vlen,hb.vlen,e1,w1,w2];refine zad (zgG (h.length+m.length) 8 (by omega) (by decide)) ?_;rintro x1 H1 ⟨hx1,s1⟩;have n1:=s1.next;simp(disch:=omega)only[↓RD,RZ,eq_self,seval,hh.vlen,hm.vlen,hb.vlen,w2];refine zad (zgG b.length 8 (by omega) (by decide)) ?_;rintro x2 H2 ⟨hx2,s2⟩;have n2:=s2.next;have hx1':Ab H.next H2 x1 (num (h.length+m.length) 8):=hx1.keep (s2.keep _);refine okb_ab hx1' (by omega) hx2.by.ac (by rw[zea,zea];decide) λx3 H3 hx3 b3=>?_;have n3:=b3.next;have s3:Grow H H3:=(s1.trans s2).bel' (by omega) b3;have hk3:=hk.grow s3;have hk3l:=hk3.low;obtain⟨aa,av,sv,k1,kA,kv,ks⟩:=hk3.mem;simp(disch:=omega)only[↓RD,RZ,eq_self,seval,k1,w3];refine zad (zgG K.t 8 (by have:=hk.good.t;omega) (by decide)) ?_;rintro x4 H4 ⟨hx4,s4⟩;have n4:=s4.next;have gk4:=s4.same k hk3l;have hx3':=hx3.by.ext s4;have s04:=s3.trans s4;have hn4:=hn.ext s04;have hh4:=hh.ext s04;have hm4:=hm.ext s04;have hb4:=hb.ext s04;have hv4:=kv.ext s4;simp(disch:=omega)only[↓RD,RZ,eq_self,seval,gk4,hx3'.cells1,hx3'.okc,hx4.by.cells1,hx4.by.okc,hn4.cells1,hn4.okc,hh4.cells1,hh4.okc,hm4.cells1,hm4.okc,hb4.cells1,hb4.okc];have s5:=Grow.new H4 ⟨zal,[x3,x4,nv,hv,mv,bv],none⟩;have g5:(H4.new ⟨zal,[x3,x4,nv,hv,mv,bv],none⟩).get H4.next = _:=zaf _ _;have n5:(H4.new ⟨zal,[x3,x4,nv,hv,mv,bv],none⟩).next=H4.next+1:=zae _ _;have hlv:Lc 1 0 (H4.new ⟨zal,[x3,x4,nv,hv,mv,bv],none⟩) (.sl H4.next 0 6 (.fix 6)) [x3,x4,nv,hv,mv,bv] 6:=zll g5 rfl (by omega);have hps:Pts 0 H4 [x3,x4,nv,hv,mv,bv] [num (h.length+m.length) 8++num b.length 8,num K.t 8,n,h,m,b]:=
  .cons (hx3'.low (yaD _)) ((zlJ _ _).app (zlJ _ _)) (.cons (hx4.by.low (yaD _)) (zlJ _ _) (.cons (hn4.low (yaD _)) n8 (.cons (hh4.low (yaD _)) h8 (.cons (hm4.low (yaD _)) m8 (.cons (hb4.low (yaD _)) b8 .nil)))))
 have efl:[num (h.length+m.length) 8++num b.length 8,num K.t 8,n,h,m,b].flatten=tagm K n h m b:=by
  unfold tagm;simp
 have lfl:(tagm K n h m b).length<=1099511627776:=by
  unfold tagm;simp only[yaf,zea];omega
 refine zad (zmG (hv4.ext s5) hk.good.auth8 (by rw[hk.good.auth];decide) hlv (hps.grow s5) (show 6<=1000 by decide) (by rw[efl];exact lfl)) ?_;rintro _ H6 ⟨rfl,s6⟩;rw[efl];have n6:=s6.next;have hl32:=zdQ kc K.auth (tagm K n h m b);have sp:=sp32 hl32;have l32:(((hmac kc K.auth (tagm K n h m b))).map by8).length=32:=by rw[yah,hl32]
 have s06:=(s04.trans s5).trans s6;have hk6:=hk.grow s06;have kl6:=hk6.low;obtain⟨aa,av,sv,k6,-,-,-⟩:=hk6.mem;have ht:=hk.good.t;have vsl:∀id,zat (.arr 32) 1 (.ptr id 0) none (some (.int .i64 (K.t:Nat))) none=some (.sl id 0 K.t (.fix 32)):=λid=>by
  simp only[zat,zcD,vint,yat,Option.bind_some,Option.getD_some,yaX];rw[if_neg (by simp),if_pos ⟨by simp,by omega,by omega,by omega⟩];simp
 simp(disch:=omega)only[↓RD,RZ,eq_self,seval,zcY,zaD,sp,l32,k6,vsl];refine⟨⟨?_,λi hi=>?_,?_⟩,⟨by rw[zam,zae];omega,λi hi=>by rw[zaj _ _ (by omega),zas _ _ (by omega),s06.same i hi]⟩⟩
 ·simp only[rcells,zai,Option.bind_some];rw[if_pos (by rw[l32];omega),yaA,ya5];unfold zk8;rw[yb6,yaq,hl32,ya7 ht]
 ·simp only[V.pid,yaa]at hi;rw[zam,zae];omega
 ·show K.t<=32;exact ht
def sizes_ok{H:Heap}(id:Int)(h0:-9223372036854775808<=id):Ok (sem T zeo [.int .i64 id]) H λr H'=>r=(match szs id.toNat with|some (n,t)=>if 0<=id then V.tup [.int .i64 (n:Nat),.int .i64 (t:Nat),.bool true] else .tup [.int .i64 0,.int .i64 0,.bool false]|none=>.tup [.int .i64 0,.int .i64 0,.bool false])/\H'=H:=by
 refine zoc ?_;unfold zkK uB uR uK uc;by_cases h1:id=1
 ·subst h1;simp(disch:=omega)only[↓RD,RZ];rfl
 by_cases h2:id=2
 ·subst h2;simp(disch:=omega)only[↓RD,RZ];rfl
 by_cases h3:id=3
 ·subst h3;simp(disch:=omega)only[↓RD,RZ];rfl
 by_cases h4:id=16
 ·subst h4;simp(disch:=omega)only[↓RD,RZ];rfl
 have e1:(id==1)=false:=by simpa using h1
 have e2:(id==2)=false:=by simpa using h2
 have e3:(id==3)=false:=by simpa using h3
 have e4:(id==16)=false:=by simpa using h4
 simp(disch:=omega)only[↓RD,RZ,e1,e2,e3,e4];unfold szs;split
 ·rename_i n t heq;split at heq
  ·rw[if_neg (by omega)]
  ·rw[if_neg (by omega)]
  ·rw[if_neg (by omega)]
  ·rw[if_neg (by omega)]
  ·cases heq
 ·rfl
def Seal_x{lo1 lo2:Nat}{H:Heap}{k c:Nat}{K:Ky}{mv pv:V}{m p:List Nat}(hk:KeyM H k K)(hc:c<18446744073709551616)(hm:By lo1 H mv m)(m8:Ok8 m)(hp:By lo2 H pv p)(p8:Ok8 p)(hml:m.length<=274877906944)(hpl:p.length<=1099511627776) :
  Ok (sem T zba [.ptr k 0,.int .u64 (c:Nat),mv,pv]) H λr H'=>Grow H H'/\if 1000<p.length then r = .tup [.nils,.int .i64 4] else ∃v,r = .tup [v,.int .i64 0]/\Fx (some 1) H.next H' v (zcd K c m p):=by
 refine zkl ?_;unfold zgU uL uNFM uB uA uR uc;have hg:=hk.good;have kl:=hk.low;simp(disch:=omega)only[↓RD,RZ,hp.vlen];rw[zin];refine zcm (λh=>?_) (λh=>?_)
 ·simp(disch:=omega)only[↓RD,RZ];rw[if_pos (by omega)];exact⟨Grow.refl _,trivial⟩
 ·obtain⟨aa,av,sv,k1,kA,kv,ks⟩:=id hk.mem;simp(disch:=omega)only[↓RD,RZ,k1];refine zad (Bytes_ok hg.kid hc) ?_;rintro hv H1 ⟨hh,s1⟩;refine zad (zt1 (hk.grow s1) hc) ?_;rintro nv H2 ⟨hn,s2⟩;have s02:=s1.trans s2;refine zad (crypt_ok (hk.grow s02) hn (hp.ext s02) p8 hpl) ?_;rintro bv H3 ⟨hb,s3⟩;have s03:=s02.trans s3;have cl:=zgB K.ws (first (zcA K.salt c)) p;have hx:=zjR K.kid c;have nl:=zio K.salt c;refine zad (zqN (hk.grow s03) (hn.ext s3) (zsO hg.salt8 c) ((hh.ext s2).ext s3) (hdr_8 _ _) (hm.ext s03) m8 hb (ctr_8 hg.ws p8) (by rw[cl];omega)) ?_;rintro tv H4 ⟨ht,s4⟩;have s04:=s03.trans s4;have hh4:=((hh.ext s2).ext s3).ext s4;have hb4:=hb.ext s4;have n1:=s1.next;have n2:=s2.next;have n3:=s3.next;have n4:=s4.next;simp(disch:=omega)only[↓RD,RZ,hh4.cells1,hh4.okc,hb4.cells1,hb4.okc,ht.cells1,ht.okc];have s5:=Grow.new H4 ⟨zal,[hv,bv,tv],none⟩;have g5:(H4.new ⟨zal,[hv,bv,tv],none⟩).get H4.next = _:=zaf _ _;have n5:(H4.new ⟨zal,[hv,bv,tv],none⟩).next=H4.next+1:=zae _ _;have hlv:Lc 1 0 (H4.new ⟨zal,[hv,bv,tv],none⟩) (.sl H4.next 0 3 (.fix 3)) [hv,bv,tv] [hv,bv,tv].length:=zll g5 rfl (by omega);have hps:Pts 0 H4 [hv,bv,tv] [hdr K.kid c,ctr K.ws (first (zcA K.salt c)) p,zk8 K (zcA K.salt c) (hdr K.kid c) m (ctr K.ws (first (zcA K.salt c)) p)]:=
   .cons (hh4.low (yaD _)) (hdr_8 _ _) (.cons (hb4.low (yaD _)) (ctr_8 hg.ws p8) (.cons (ht.low (yaD _)) (zsg _ _ _ _ _) .nil))
  have efl:[hdr K.kid c,ctr K.ws (first (zcA K.salt c)) p,zk8 K (zcA K.salt c) (hdr K.kid c) m (ctr K.ws (first (zcA K.salt c)) p)].flatten=zcd K c m p:=by
   unfold zcd;simp
  refine zad (Join_x hlv (hps.grow s5) (show 2<=3 by decide) (show 3<=1000 by decide) (by rw[efl,zf4 hg.t];have:=hg.t;omega)) ?_;rintro v H6 ⟨hv6,s6⟩;rw[efl]at hv6;simp(disch:=omega)only[↓RD,RZ];rw[if_neg (by omega)];exact⟨(s04.trans s5).trans s6,_,rfl,hv6.low (by omega)⟩
def Seal_ok{lo1 lo2:Nat}{H:Heap}{k c:Nat}{K:Ky}{mv pv:V}{m p:List Nat}(hk:KeyM H k K)(hc:c<18446744073709551616)(hm:By lo1 H mv m)(m8:Ok8 m)(hp:By lo2 H pv p)(p8:Ok8 p)(hml:m.length<=274877906944)(hpl:p.length<=1099511627776) :
  Ok (sem T zba [.ptr k 0,.int .u64 (c:Nat),mv,pv]) H λr H'=>Grow H H'/\if 1000<p.length then r = .tup [.nils,.int .i64 4] else ∃v,r = .tup [v,.int .i64 0]/\By H.next H' v (zcd K c m p):=by
 refine zao (Seal_x hk hc hm m8 hp p8 hml hpl) ?_;rintro r H' ⟨g,h⟩;refine⟨g,?_⟩;split at h
 ·rename_i hl;rw[if_pos hl];exact h
 ·rename_i hl;rw[if_neg hl];obtain⟨v,e,h⟩:=h;exact⟨v,e,h.by⟩
def zxb{b:List Nat}{kid c n:Nat}(h:parse b = .ok kid c n)(h8:Ok8 b):n<=b.length/\n<=17/\kid<18446744073709551616/\c<18446744073709551616:=by
 unfold parse at h;split at h
 ·cases h
 ·dsimp only at h;split at h
  ·cases h
  ·split at h
   ·rename_i h2 h3;injection h with e1 e2 e3
    have g:=getD_lt h8 0;have q:∀x,psz x<=x-7/\(x<16->psz x<=8):=λx=>by unfold psz;split<;>omega
    have r:∀(x:Nat) (l:List Nat),x<16->Ok8 l->l.length<=8->pnum x l<18446744073709551616:=λx l hx hl h8=>by
     unfold pnum;split
     ·omega
     ·have:=be_lt l hl;have h3:256 ^ l.length<=256 ^ 8:=ybB (by decide) h8;omega
    have q1:=(q (b.getD 0 0/16)).2 (by omega);have q2:=(q (b.getD 0 0%16)).2 (by omega);refine⟨by omega,by omega,?_,?_⟩
    ·rw[<-e1];refine r _ _ (by omega) ((h8.take _).drop _) ?_;rw[yas,yaq];omega
    ·rw[<-e2];refine r _ _ (by omega) ((h8.take _).drop _) ?_;rw[yas,yaq];omega
   ·cases h
def pov(H0 H:Heap)(r:V):PO->Prop
 | .err e=>r = .tup [.nils,.int .u64 0,.int .i64 (e:Nat)]
 | .ok p c=>∃v,r = .tup [v,.int .u64 (c:Nat),.int .i64 0]/\By H0.next H v p
def pox(H0 H:Heap)(r:V):PO->Prop
 | .err e=>r = .tup [.nils,.int .u64 0,.int .i64 (e:Nat)]
 | .ok p c=>∃v,r = .tup [v,.int .u64 (c:Nat),.int .i64 0]/\Fx none H0.next H v p
def Open_x{lo1 lo2:Nat}{H:Heap}{k:Nat}{K:Ky}{bv mv:V}{b m:List Nat}(hk:KeyM H k K)(hb:By lo1 H bv b)(b8:Ok8 b)(hm:By lo2 H mv m)(m8:Ok8 m)(hml:m.length<=274877906944)(hbl:b.length<=1099511627776) :
  Ok (sem T zbb [.ptr k 0,bv,mv]) H λr H'=>Grow H H'/\pox H H' r (zm3 K b m):=by
 refine zkm ?_;unfold zgV uL uNFM uE uB uA uR uK uc uq ug;have hg:=hk.good;have kl:=hk.low;have ht:=hg.t;obtain⟨aa,av,sv,k1,kA,kv,ks⟩:=id hk.mem;refine zad (zpq hb b8 (by omega)) ?_;rintro _ H ⟨rfl,rfl⟩;unfold zm3;cases hp:parse b with
 | err e=>
  have e0:(((e:Nat):Int)==0)=false:=by
   have:e≠0:=by
    unfold parse at hp;split at hp
    ·injection hp with hp;omega
    ·dsimp only at hp;split at hp
     ·injection hp with hp;omega
     ·split at hp
      ·cases hp
      ·injection hp with hp;omega
   rw[beqz];exact decide_eq_false this
  simp(disch:=omega)only[↓RD,RZ,phv,k1,hb.vlen,e0,ya6];exact⟨Grow.refl _,rfl⟩
 | ok kid c n=>
  obtain⟨n1,n2,n3,n4⟩:=zxb hp b8;dsimp only;simp(disch:=omega)only[↓RD,RZ,phv,k1,hb.vlen,beqn];by_cases hkid:kid=K.kid
  ·have ed:decide (kid=K.kid)=true:=decide_eq_true hkid;rw[if_neg (λh=>h hkid)];simp(disch:=omega)only[↓RD,RZ,ed,ybn];rw[zin];refine zcm (λh1=>?_) (λh1=>?_)
   ·simp(disch:=omega)only[↓RD,RZ];rw[if_pos (by omega)];exact⟨Grow.refl _,rfl⟩
   ·rw[if_neg (by omega)];obtain⟨z,hz⟩:∃z,b.length-n-K.t=z:=⟨_,rfl⟩;have ez:((b.length:Nat):Int)-((n:Nat):Int)-((K.t:Nat):Int)=((z:Nat):Int):=by omega
    have eb:b.length-K.t=n+z:=by omega
    rw[hz,eb];simp(disch:=omega)only[↓RD,RZ,ez];rw[zin];refine zcm (λh2=>?_) (λh2=>?_)
    ·simp(disch:=omega)only[↓RD,RZ];rw[if_pos (by omega)];exact⟨Grow.refl _,rfl⟩
    ·rw[if_neg (by omega)];obtain⟨va,-,ha,-,hva,hpa⟩:=by_slice hb (x:=0) (y:=(n:Nat)) (by omega) (by omega) (by omega);obtain⟨vc,hc,-,-,hvc,hpc⟩:=by_slice hb (x:=(n:Nat)) (y:=((n+z:Nat):Int)) (by omega) (by omega) (by omega);obtain⟨vt,-,-,hx,hvt,hpt⟩:=by_slice hb (x:=((n+z:Nat):Int)) (y:=(b.length:Nat)) (by omega) (by omega) (by omega);have ha:=ha rfl (k':=.i64);have hx:=hx rfl (k:=.i64);simp only[yan,yc1,yaA,ych]at hva hvc hvt;rw[show n+z-n=z by omega]at hvc;rw[yaj (by rw[yas];omega)]at hvt;have eq:((n:Nat):Int)+((z:Nat):Int)=((n+z:Nat):Int):=rfl;have eq':((n:Nat):Int)+(((b.length:Nat):Int)-((n:Nat):Int)-((K.t:Nat):Int))=((n+z:Nat):Int):=by omega
     simp(disch:=omega)only[↓RD,RZ,ha,hc,eq,eq'];refine zad (zt1 hk n4) ?_;rintro nv H1 ⟨hn,s1⟩;have nl:=zio K.salt c;have lc:((b.drop n).take z).length=z:=by rw[yaq,yas];omega
     have la:(b.take n).length=n:=by rw[yaq];omega
     have c8:Ok8 ((b.drop n).take z):=(b8.drop n).take z;simp(disch:=omega)only[↓RD,RZ,hx,eq,eq'];refine zad (zqN (hk.grow s1) hn (zsO hg.salt8 c) (hva.ext s1) (b8.take n) (hm.ext s1) m8 (hvc.ext s1) c8 (by omega)) ?_;rintro tv H2 ⟨htv,s2⟩;have s02:=s1.trans s2;have kS:=@zeQ _ _ _ _ (Same_ok htv (hvt.ext s02) (zsg _ _ _ _ _) (b8.drop _) (by rw[zqO ht];omega));simp(disch:=omega)only[↓RD,RZ,kS];by_cases htg:zk8 K (zcA K.salt c) (b.take n) m ((b.drop n).take z)=b.drop (n+z)
     ·rw[if_pos htg];have e:decide (zk8 K (zcA K.salt c) (b.take n) m ((b.drop n).take z)=b.drop (n+z))=true:=decide_eq_true htg;simp(disch:=omega)only[↓RD,RZ,e,ybn];refine zad (zyq (hk.grow s02) (hn.ext s2) (hvc.ext s02) c8 (by omega)) ?_;rintro pv H3 ⟨hpv,s3⟩;have q1:=s1.next;have q2:=s2.next;simp(disch:=omega)only[↓RD,RZ];exact⟨s02.trans s3,_,rfl,hpv.low (by omega)⟩
     ·rw[if_neg htg];have e:decide (zk8 K (zcA K.salt c) (b.take n) m ((b.drop n).take z)=b.drop (n+z))=false:=decide_eq_false htg;simp(disch:=omega)only[↓RD,RZ,e,ya6];exact⟨s02,rfl⟩
  ·have ed:decide (kid=K.kid)=false:=decide_eq_false hkid;rw[if_pos hkid];simp(disch:=omega)only[↓RD,RZ,ed,ya6];exact⟨Grow.refl _,rfl⟩
def Open_ok{lo1 lo2:Nat}{H:Heap}{k:Nat}{K:Ky}{bv mv:V}{b m:List Nat}(hk:KeyM H k K)(hb:By lo1 H bv b)(b8:Ok8 b)(hm:By lo2 H mv m)(m8:Ok8 m)(hml:m.length<=274877906944)(hbl:b.length<=1099511627776) :
  Ok (sem T zbb [.ptr k 0,bv,mv]) H λr H'=>Grow H H'/\pov H H' r (zm3 K b m):=by
 refine zao (Open_x hk hb b8 hm m8 hml hbl) ?_;rintro r H' ⟨g,h⟩;refine⟨g,?_⟩;cases ho:zm3 K b m with
 | err e=>rw[ho]at h;exact h
 | ok p c=>
  rw[ho]at h;obtain⟨v,e,h⟩:=h;exact⟨v,e,h.by⟩
def szs_n{id n t:Nat} (h:szs id=some (n,t)):(n=16\/n=32)/\t<=10/\id<=16:=by
 unfold szs at h;split at h<;>simp at h<;>omega
def zua(id kid n:Nat)(base:List Nat)(hn:n<=32):(keyb id kid n base).length=n+32:=by
 unfold keyb;rw[yaq,zga];omega
def zwJ(id kid:Nat)(base:List Nat):(saltb id kid base).length=12:=by
 unfold saltb;rw[yaq,zga];rfl
def keyb_8(id kid n:Nat)(base:List Nat):Ok8 (keyb id kid n base):=Ok8.take (zjQ _ _ _ _).1 _
def saltb_8(id kid:Nat)(base:List Nat):Ok8 (saltb id kid base):=Ok8.take (zjQ _ _ _ _).1 _
def zcq{id kid n t:Nat}{base:List Nat} (h:szs id=some (n,t)) (hk:kid<18446744073709551616):KyG (drv id kid n t base):=by
 obtain⟨h1,h2,h3⟩:=szs_n h;have kl:=zua id kid n base (by omega);have k8:=keyb_8 id kid n base;unfold drv;refine⟨hk,by dsimp only;omega,?_,?_,?_,?_,?_,k8.drop _,zwJ _ _ _,saltb_8 _ _ _⟩
 ·exact zxI (by omega) (k8.take _) (by rw[yaq];omega) _
 ·dsimp only;rw[zkv];omega
 ·dsimp only;rw[zkv];omega
 ·dsimp only;rw[zkv];omega
 ·dsimp only;rw[yas,kl];omega
def zoO{lo n:Nat}{H:Heap}{y:V}{l m:List Nat}{F:V->M Res}{Q:Res->Heap->Prop}(hl:l.length=n)(h0:0<n)(hy:By lo H y m)(hm:n+m.length<=1099511627776) (k:∀x' H',Ab H.next H' x' (l++m)->Grow H H'->Ok (F x') H' Q) :
  Ok ((mremark zab (.sl H.next 0 n (.fix n))).bind λt=>(mappend zab 1 1 t y).bind F) (H.new ⟨zab,l.map by8,none⟩) Q:=by
 have s1:=Grow.new H ⟨zab,l.map by8,none⟩;have g1:(H.new ⟨zab,l.map by8,none⟩).get H.next = _:=zaf _ _;have n1:(H.new ⟨zab,l.map by8,none⟩).next=H.next+1:=zae _ _;have hy1:=hy.ext s1;generalize H.new _=H1 at *;refine zaQ ⟨.sl H.next 0 n (.fix n),H1,?_,?_⟩
 ·simp only[mremark,g1,Option.bind_some];rw[if_neg (by omega)]
 ·subst hl;refine okb_ab (lo:=H.next) (l:=l) (m:=m) (.full g1 (by simp) (yag _) (by omega)) (by omega) hy1.ac (by omega) λx' H2 h2 b2=>?_;exact k x' H2 h2 (s1.bel' (yag _) b2)
def zoH(lo:Nat)(H:Heap)(k:Nat):Prop:=∀x y a av sv,H.get k=some ⟨zaR,[x,y,.ptr a 0,av,sv],none⟩->∀j,av.pid=some j\/sv.pid=some j->lo<=j
structure KeyB (lo:Nat) (H:Heap) (k:Nat) (K:Ky):Prop where
 good:KyG K
 mem:∃a av sv,H.get k=some ⟨zaR,[.int .u64 (K.kid:Nat),.int .i64 (K.t:Nat),.ptr a 0,av,sv],none⟩/\AesB lo H a K.ws/\By lo H av K.auth/\By lo H sv K.salt
 low:k<H.next
 lo:lo<=k
def KeyB.m{lo:Nat}{H:Heap}{k:Nat}{K:Ky}(h:KeyB lo H k K):KeyM H k K:=by
 obtain⟨a,av,sv,h1,h2,h3,h4⟩:=h.mem;exact⟨h.good,⟨a,av,sv,h1,h2.aes,h3.low (yaD _),h4.low (yaD _)⟩,h.low⟩
def KeyB.kl{lo:Nat}{H:Heap}{k:Nat}{K:Ky}(h:KeyB lo H k K):zoH lo H k:=by
 obtain⟨a,av,sv,h1,h2,h3,h4⟩:=h.mem;intro x y a' av' sv' e j hj;rw[h1]at e;simp only[yaa,Blk.mk.injEq,ybs,true_and,and_true]at e;obtain⟨-,-,-,rfl,rfl⟩:=e;rcases hj with hj|hj
 ·exact(h3.own j hj).1
 ·exact(h4.own j hj).1
def KeyB.keep{lo:Nat}{H H':Heap}{k:Nat}{K:Ky}(h:KeyB lo H k K)(g:Keep lo H H'):KeyB lo H' k K:=by
 obtain⟨a,av,sv,h1,h2,h3,h4⟩:=h.mem;exact⟨h.good,⟨a,av,sv,by rw[g.same k h.lo h.low];exact h1,h2.keep g,h3.keep g,h4.keep g⟩,yai h.low g.next,h.lo⟩
def zuI{lo:Nat}{H:Heap}{kid:Nat}{id:Int}{bv:V}{base:List Nat}(h0:-9223372036854775808<=id)(hk:kid<18446744073709551616)(hb:By lo H bv base)(b8:Ok8 base)(hbl:base.length<=1099511627776) :
  Ok (sem T zbg [.int .i64 id,.int .u64 (kid:Nat),bv]) H λr H'=>Grow H H'/\((id<0\/szs id.toNat=none)/\r = .tup [.nilp,.int .i64 1]\/∃n t k,0<=id/\szs id.toNat=some (n,t)/\r = .tup [.ptr k 0,.int .i64 0]/\KeyB H.next H' k (drv id.toNat kid n t base)):=by
 refine zm5 ?_;unfold zjt uL uT uE uB uO uA uR uc ub uq;refine zad (sizes_ok id h0) ?_;rintro _ H ⟨rfl,rfl⟩;cases hs:szs id.toNat with
 | none=>
  simp(disch:=omega)only[↓RD,RZ,eq_self,seval];exact⟨Grow.refl _,.inl (.inr trivial)⟩
 | some q=>
  obtain⟨n,t⟩:=q;dsimp only;by_cases hi:0<=id
  ·rw[if_pos hi];obtain⟨hn,ht,hid⟩:=szs_n hs;obtain⟨i,hii⟩:∃i:Nat,id=(i:Nat):=⟨id.toNat,by omega⟩;subst hii;rw[yan]at *;have w0:IntKind.u64.wrap ((i:Nat):Int)=((i:Nat):Int):=by rw[wrap_u64];omega
   simp(disch:=omega)only[↓RD,RZ,eq_self,seval];refine zad (zlE (Lc.nil:By 0 H .nils []) Ok8.nil (by decide) hb b8 hbl) ?_;rintro _ H1 ⟨rfl,s1⟩;have n1:=s1.next;have sl:(zaY base).length=32:=zdQ _ _ _;have s8:Ok8 (zaY base):=zlm _ _ _;have eS:hmac kc [] base=zaY base:=rfl;rw[eS];have sp:=sp32 sl;have l32:((zaY base).map by8).length=32:=by rw[yah,sl]
   simp(disch:=omega)only[↓RD,RZ,eq_self,seval,zcY,zaD,sp,l32];have s2:Grow H ((H1.new ⟨zak,[(),(),(),(),(),(),(),(),(),(),(),(),(),(),(),(),(),(),(),(),(),(),(),(),(),(),(),(),(),(),(),()],none⟩).set H1.next (some ⟨zak,(zaY base).map by8,none⟩)):=(s1.trans (Grow.new _ _)).set (by omega) _;have g2:((H1.new ⟨zak,[(),(),(),(),(),(),(),(),(),(),(),(),(),(),(),(),(),(),(),(),(),(),(),(),(),(),(),(),(),(),(),()],none⟩).set H1.next (some ⟨zak,(zaY base).map by8,none⟩)).get H1.next = _:=zai _ _ _;have n2:((H1.new ⟨zak,[(),(),(),(),(),(),(),(),(),(),(),(),(),(),(),(),(),(),(),(),(),(),(),(),(),(),(),(),(),(),(),()],none⟩).set H1.next (some ⟨zak,(zaY base).map by8,none⟩)).next=H1.next+1:=rfl;generalize hq:H1.next=q at *;generalize Heap.set _ q _=H2 at *;refine zad (zgG kid 8 hk (by decide)) ?_;rintro x1 H3 ⟨hx1,s3⟩;have n3:=s3.next;simp(disch:=omega)only[↓RD,RZ,eq_self,seval,w0];refine zad (zgG i 2 (by omega) (by decide)) ?_;rintro x2 H4 ⟨hx2,s4⟩;have n4:=s4.next;refine okb_ab (hx1.keep (s4.keep _)) (by omega) hx2.by.ac (by rw[zea,zea];decide) λx3 H5 hx3 b5=>?_;have n5:=b5.next;have s25:Grow H2 H5:=(s3.trans s4).bel' (yag _) b5;have g5:=(s25.same q (by omega)).trans g2;have vs:=zoI (n:=32) (id:=q);have ad:((n:Nat):Int)+32=((n+32:Nat):Int):=rfl;have hx3b:=hx3.by;have il:(num kid 8++num i 2).length=10:=by rw[yaf,zea,zea]
   have i8:Ok8 (num kid 8++num i 2):=(zlJ _ _).app (zlJ _ _);simp(disch:=omega)only[↓RD,RZ,eq_self,seval,vs,ad];rw[za2];refine zoO (l:=sKey) rfl (by decide) hx3b (by omega) λx6 H6 hx6 s6=>?_;have n6:=s6.next;have g6:=(s6.same q (by omega)).trans g5;have skl:(sKey++(num kid 8++num i 2)).length=32:=by rw[yaf,il];rfl
   have sk8:Ok8 (sKey++(num kid 8++num i 2)):=(all8 rfl).app i8;refine zad (zn3 (zk5 (lo:=0) g6 sl (by omega) (by omega)) s8 (by omega) hx6.by sk8 (by omega) (show n+32<=8160 by omega)) ?_;rintro _ H7 ⟨key,rfl,hkey,s7⟩;have n7:=s7.next;have ek:((hkdf kc (zaY base) (sKey++(num kid 8++num i 2)) ((n+32+31)/32)).1.take (n+32))=keyb i kid n base:=by
    unfold keyb;rw[show(n+32+31)/32=2 by omega]
   rw[ek]at hkey;have kl:=zua i kid n base (by omega);have k8:=keyb_8 i kid n base;have g7:=(s7.same q (by omega)).trans g6;have hx7:=(hx3b.ext s6).ext s7;simp(disch:=omega)only[↓RD,RZ,eq_self,seval,vs];rw[za2];refine zoO (l:=sSalt) rfl (by decide) hx7 (by omega) λx8 H8 hx8 s8'=>?_;have n8:=s8'.next;have g8:=(s8'.same q (by omega)).trans g7;have ssl:(sSalt++(num kid 8++num i 2)).length=33:=by rw[yaf,il];rfl
   have ss8:Ok8 (sSalt++(num kid 8++num i 2)):=(all8 rfl).app i8;refine zad (zn3 (zk5 (lo:=0) g8 sl (by omega) (by omega)) s8 (by omega) hx8.by ss8 (by omega) (show 12<=8160 by omega)) ?_;rintro _ H9 ⟨salt,rfl,hsalt,s9⟩;have n9:=s9.next;have hkey9:=(hkey.ext s8').ext s9;obtain⟨va,-,ha,-,hva,-⟩:=by_slice hkey9 (x:=0) (y:=(n:Nat)) (by omega) (by omega) (by omega);obtain⟨vb,-,-,hvb',hvb,-⟩:=by_slice hkey9 (x:=(n:Nat)) (y:=((keyb i kid n base).length:Nat)) (by omega) (by omega) (by omega);have ha:=ha rfl (k':=.i64);have hvb':=hvb' rfl (k:=.i64);simp only[yan,yc1,yaA,ych]at hva hvb;rw[yaj (by rw[yas];omega)]at hvb;simp(disch:=omega)only[↓RD,RZ,eq_self,seval,ha];refine zad (KNew_x (n:=n/4) hva (k8.take n) (by omega) (by rw[yaq];omega)) ?_;rintro _ H10 ⟨k,rfl,hA,s10,hkk⟩;have n10:=s10.next;have hvb10:=hvb.ext s10;have hs10:=hsalt.ext s10;simp(disch:=omega)only[↓RD,RZ,eq_self,seval,hvb',hvb10.cells1,hvb10.okc,hs10.cells1,hs10.okc];have s010:Grow H H10:=((((((s2.trans s25).trans s6).trans s7).trans s8').trans s9).trans s10);have s11:=Grow.new H10 ⟨zaR,[.int .u64 (kid:Nat),.int .i64 (t:Nat),.ptr k 0,vb,salt],none⟩;exact⟨s010.trans s11,.inr ⟨n,t,H10.next,by omega,rfl,rfl,⟨zcq hs hk,⟨k,vb,salt,zaf _ _,(hA.keep (s11.keep _)).low (by omega),(hvb10.ext s11).low (by omega),(hs10.ext s11).low (by omega)⟩,by rw[zae];omega,by omega⟩⟩⟩
  ·rw[if_neg hi];simp(disch:=omega)only[↓RD,RZ,eq_self,seval];exact⟨Grow.refl _,.inl (.inl (by omega))⟩
def zyT{lo:Nat}{H:Heap}{kid:Nat}{id:Int}{bv:V}{base:List Nat}(h0:-9223372036854775808<=id)(hk:kid<18446744073709551616)(hb:By lo H bv base)(b8:Ok8 base)(hbl:base.length<=1099511627776) :
  Ok (sem T zbg [.int .i64 id,.int .u64 (kid:Nat),bv]) H λr H'=>Grow H H'/\((id<0\/szs id.toNat=none)/\r = .tup [.nilp,.int .i64 1]\/∃n t k,0<=id/\szs id.toNat=some (n,t)/\r = .tup [.ptr k 0,.int .i64 0]/\KeyM H' k (drv id.toNat kid n t base)/\H.next<=k/\zoH H.next H' k):=by
 refine zao (zuI h0 hk hb b8 hbl) ?_;rintro r H' ⟨g,h|⟨n,t,k,h1,h2,h3,h4⟩⟩
 ·exact⟨g,.inl h⟩
 ·exact⟨g,.inr ⟨n,t,k,h1,h2,h3,h4.m,h4.lo,h4.kl⟩⟩
def zyS{lo:Nat}{H:Heap}{kid:Nat}{id:Int}{bv:V}{base:List Nat}(h0:-9223372036854775808<=id)(hk:kid<18446744073709551616)(hb:By lo H bv base)(b8:Ok8 base)(hbl:base.length<=1099511627776) :
  Ok (sem T zbg [.int .i64 id,.int .u64 (kid:Nat),bv]) H λr H'=>Grow H H'/\((id<0\/szs id.toNat=none)/\r = .tup [.nilp,.int .i64 1]\/∃n t k,0<=id/\szs id.toNat=some (n,t)/\r = .tup [.ptr k 0,.int .i64 0]/\KeyM H' k (drv id.toNat kid n t base)/\H.next<=k):=by
 refine zao (zyT h0 hk hb b8 hbl) ?_;rintro r H' ⟨g,h|⟨n,t,k,h1,h2,h3,h4,h5,_⟩⟩
 ·exact⟨g,.inl h⟩
 ·exact⟨g,.inr ⟨n,t,k,h1,h2,h3,h4,h5⟩⟩
end Go.Ax.SU
/- Su27 -/
namespace Go.Ax.SU
open Go.Ax
def same_ok{lo lo':Nat}{H:Heap}{u v:V}{a b:List Nat}(hu:By lo H u a)(hv:By lo' H v b)(ha:Ok8 a)(hb:Ok8 b):Ok (sem T zaZ [u,v]) H λr H'=>r = .bool (decide (a=b))/\H'=H:=by
 refine zij ?_;unfold zeT uB uR;refine zrm hu.rc ?_;refine zrm hv.rc ?_;refine zcH (v:=.bool (decide (a=b))) ?_ ?_
 ·show some (V.bool _) = _;rw[bytes_eq ha hb]
 ·exact zha ⟨_,rfl,rfl,rfl⟩
def zwQ{n:Nat}{H:Heap}{l:List Nat}{F:V->M Res}{Q:Res->Heap->Prop}(hl:l.length=n)(h0:0<n) (k:∀x' H',By H.next H' x' l->Grow H H'->Ok (F x') H' Q) :
  Ok ((mremark zab (.sl H.next 0 n (.fix n))).bind F) (H.new ⟨zab,l.map by8,none⟩) Q:=by
 have s1:=Grow.new H ⟨zab,l.map by8,none⟩;have g1:(H.new ⟨zab,l.map by8,none⟩).get H.next = _:=zaf _ _;have n1:(H.new ⟨zab,l.map by8,none⟩).next=H.next+1:=zae _ _;generalize H.new _=H1 at *;refine zaQ ⟨.sl H.next 0 n (.fix n),H1,?_,?_⟩
 ·simp only[mremark,g1,Option.bind_some];rw[if_neg (by omega)]
 ·exact k _ _ (zk5 g1 hl (yag _) (by omega)) s1
def zrY{lo:Nat}{H:Heap}{kid id n t:Nat}{bv:V}{base:List Nat} (hs:szs id=some (n,t)) (hk:kid<18446744073709551616) (hb:By lo H bv base) (b8:Ok8 base) (hbl:base.length<=1099511627776) :
  Ok (sem T zbg [.int .i64 (id:Nat),.int .u64 (kid:Nat),bv]) H λr H'=>Grow H H'/\∃k,r = .tup [.ptr k 0,.int .i64 0]/\KeyM H' k (drv id kid n t base)/\H.next<=k:=by
 refine zao (zyS (by omega) hk hb b8 hbl) ?_;rintro r H' ⟨g,⟨h1|h1,_⟩|⟨n',t',k,h1,h2,rfl,h4,h5⟩⟩
 ·omega
 ·rw[yan,hs]at h1;cases h1
 ·rw[yan,hs]at h2;injection h2 with h2
  injection h2 with e1 e2
  subst e1 e2;rw[yan]at h4;exact⟨g,k,rfl,h4,h5⟩
end Go.Ax.SU
namespace Go.Ax
open SU
end Go.Ax
/- Re1 -/
namespace Go.Ax.SU
open Go.Ax
def w_rot'(x:UInt32){k k':IntKind}{n:Nat}{a b:Int} (ha:a=(32-n:Nat)) (hb:b=n):(Ax.bin .shr (w32 x) (.int k' b)).bind (λv=>(Ax.bin .shl (w32 x) (.int k a)).bind λu=>Ax.bin .or v u)=some (w32 (rotr x n)):=by
 subst ha hb;unfold w32;have h1:=x.toNat_lt;rw[zsl (by omega) (by omega),zpA (by omega) (by omega) (by omega)];have h2:shr x.toNat n<=x.toNat:=zws _ _;simp only[Option.bind_some,yan];rw[zxe (by omega) (by omega) (by omega) (by have:=ybc (shl x.toNat (32-n)) (show 0<4294967296 by decide);omega),ztI];simp only[yan,zid,zsn]
def right_eq(x:UInt32)(n:Nat)(h0:0<n)(h1:n<32):sem T zby [w32 x,.int .u64 (n:Nat)]=M.pure (w32 (rotr x n)):=by
 refine zgE λH=>?_;refine zhV ?_;unfold zeC uB uR uq;have e4:Ax.bin .sub (.int .u64 32) (.int .u64 (n:Nat))=some (.int .u64 ((32-n:Nat):Int)):=by
  rw[zti,wrap_u64];congr 2;omega
 have e5:=w_rot' x (k:=.u64) (k':=.u64) (n:=n) (a:=((32-n:Nat):Int)) (b:=(n:Nat)) rfl rfl;obtain⟨u,hu,hu2⟩:=yab.1 e5;obtain⟨v,hv,hv2⟩:=yab.1 hu2;simp(disch:=omega)only[↓RD,RZ,eq_self,seval,hv,e4,hu,hv2]
def r6(x:UInt32):sem T zby [w32 x,.int .u64 6]=M.pure (w32 (rotr x 6)):=right_eq x 6 (by omega) (by omega)
def r2(x:UInt32):sem T zby [w32 x,.int .u64 2]=M.pure (w32 (rotr x 2)):=right_eq x 2 (by omega) (by omega)
def copy8{β:Type}{lo:Nat}{H:Heap}{y:V}{l:List Nat}{f:V->M β}{Q:β->Heap->Prop}(hy:By lo H y l)(hl:l.length<=140737488355328)
  (k:∀x' H',Ab H.next H' x' l->Grow H H'->Ok (f x') H' Q):Ok ((mappend zab 1 1 (.sl H.next 0 0 (.fix 0)) y).bind f) (H.new ⟨zab,[],none⟩) Q:=
 okb_copy hy.ac (λi hi=>(hy.own i hi).2) (by rw[yah];omega) (by omega) (by omega) λx' H' h g=>k x' H' (.app h) g
def Rst(H:Heap)(k:Nat)(R:V)(l:List Nat)(n:Nat):Prop:=H.get k=some ⟨zi3,sbox.map by8++[R],none⟩/\App zac 16 (k+1) H R (l.map by8) n/\k<H.next
structure AtS (S:List Nat) (H H':Heap):Prop where
 next:H.next<=H'.next
 same:∀i,i<H.next->i∉S->H'.get i=H.get i
def AtS.refl(S:List Nat)(H:Heap):AtS S H H:=⟨yag _,λ_ _ _=>rfl⟩
def AtS.trans{S:List Nat}{H H1 H2:Heap}(h:AtS S H H1)(g:AtS S H1 H2):AtS S H H2:=⟨yax h.next g.next,λi hi hk=>by rw[g.same i (yai hi h.next) hk,h.same i hi hk]⟩
def Grow.atS{H H':Heap}(h:Grow H H')(S:List Nat):AtS S H H':=⟨h.next,λi hi _=>h.same i hi⟩
def AtS.set{S:List Nat}(H:Heap){k:Nat}(h:k∈S)(b:Option Blk):AtS S H (H.set k b):=⟨yag _,λi _ hk=>zaj _ _ (λe=>hk (e ▸ h))⟩
def AtS.mono{S S':List Nat}{H H':Heap}(h:AtS S H H')(g:∀i∈S,i∈S'):AtS S' H H':=⟨h.next,λi hi hk=>h.same i hi λe=>hk (g i e)⟩
def Lc.atS{e lo n:Nat}{S:List Nat}{H H':Heap}{v:V}{cells:List V}(h:Lc e lo H v cells n)(s:AtS S H H')(hk:∀i,v.pid=some i->i∉S):Lc e lo H' v cells n:=
 ⟨by rw[zc2 λi hi=>s.same i (h.own i hi).2 (hk i hi)];exact h.rc,λi hi=>⟨(h.own i hi).1,yai (h.own i hi).2 s.next⟩,h.cap⟩
def Odd(b:Blk):Prop:=b.ty≠zaR/\b.ty≠zaT/\b.ty≠zaw/\∀v∈b.cells,∀n,v≠.int .u8 n
def By.odd{lo i:Nat}{H:Heap}{v:V}{l:List Nat}{b:Blk}(h:By lo H v l)(hl:0<l.length)(hp:v.pid=some i)(hg:H.get i=some b):¬∀v∈b.cells,∀n,v≠.int .u8 n:=by
 rcases Lc.cases h with⟨rfl,_⟩|⟨id,off,cap,b',rfl,hb,hle,hc⟩|⟨cs,rfl,_⟩
 ·cases hp
 ·simp only[V.pid,yaa]at hp;subst hp;rw[hb]at hg;injection hg with hg
  subst hg;intro hno;cases l with
  | nil=>simp at hl
  | cons x l=>
   rw[yaR]at hc;have:by8 x∈b'.cells:=ybM (ybL (by rw[<-hc];exact yaQ));exact hno _ this _ rfl
 ·cases hp
def KeyM.atS{S:List Nat}{H H':Heap}{k:Nat}{K:Ky}(h:KeyM H k K)(s:AtS S H H')(hS:∀i∈S,∃b,H.get i=some b/\Odd b):KeyM H' k K:=by
 obtain⟨a,av,sv,h1,h2,h3,h4⟩:=h.mem;obtain⟨id,g1,g2,l1,l2,hw⟩:=h2;have hne:∀{i b},H.get i=some b->¬Odd b->i∉S:=λhb ho e=>by
  obtain⟨b',hb',ho'⟩:=hS _ e;rw[hb]at hb';injection hb' with hb'
  exact ho (hb' ▸ ho')
 have by':∀{v:V} {l:List Nat},By 0 H v l->0<l.length->By 0 H' v l:=λhv hl=>Lc.atS hv s λi hi e=>by
  obtain⟨b',hb',ho'⟩:=hS _ e;exact By.odd hv hl hi hb' ho'.2.2.2
 refine⟨h.good,⟨a,av,sv,?_,⟨id,?_,?_,yai l1 s.next,yai l2 s.next,hw⟩,by' h3 (by rw[h.good.auth];decide),by' h4 (by rw[h.good.salt];decide)⟩,yai h.low s.next⟩
 ·rw[s.same k h.low (hne h1 λo=>o.1 rfl)];exact h1
 ·rw[s.same a l1 (hne g1 λo=>o.2.1 rfl)];exact g1
 ·rw[s.same id l2 (hne g2 λo=>o.2.2.1 rfl)];exact g2
/-! Maps as lists of keys and values. -/
def encM{α:Type}(ek:α->V) (l:List (α×V)):List V:=l.flatMap λp=>[ek p.1,p.2]
def look{α β:Type}[DecidableEq α](a:α):List (α×β)->Option β
 | []=>none
 | (k,v)::l=>if a=k then some v else look a l
def putl{α β:Type}[DecidableEq α](a:α)(b:β):List (α×β)->List (α×β)
 | []=>[(a,b)]
 | (k,v)::l=>if a=k then (a,b)::l else (k,v)::putl a b l
def zrU{α:Type}{ek:α->V}(p:α×V) (l:List (α×V)):encM ek (p::l)=ek p.1::p.2::encM ek l:=rfl
section
variable {α:Type} [DecidableEq α] {ek:α->V} {mk:MK}
def mget_enc (hk:∀a b,keq mk (ek a) (ek b)=some (decide (a=b))) (a:α) (l:List (α×V)):mget mk (ek a) (encM ek l)=some (look a l):=by
 induction l with
 | nil=>rfl
 | cons p l ih=>
  obtain⟨k,v⟩:=p;rw[zrU];simp only[mget,hk,Option.bind_some,decide_eq_true_eq,look];split
  ·rfl
  ·exact ih
def mset_enc (hk:∀a b,keq mk (ek a) (ek b)=some (decide (a=b))) (a:α) (v:V) (l:List (α×V)):mset mk (ek a) v (encM ek l)=some (encM ek (putl a v l)):=by
 induction l with
 | nil=>rfl
 | cons p l ih=>
  obtain⟨k,u⟩:=p;rw[zrU];simp only[mset,hk,Option.bind_some,decide_eq_true_eq,putl];split
  ·rfl
  ·rw[ih];rfl
def zlh{β:Type}{H:Heap}{c:Nat}{ty:TypeId}{o:Option Nat}{z:V}{a:α} {l:List (α×V)} {f:V->M β} {Q:β->Heap->Prop} (hk:∀a b,keq mk (ek a) (ek b)=some (decide (a=b))) (ho:kok mk (ek a)=true)
  (hg:H.get c=some ⟨ty,encM ek l,o⟩) (k:Ok (f ((look a l).getD z)) H Q):Ok ((mlookup mk z false (.mp c) (ek a)).bind f) H Q:=by
 refine zaQ ⟨_,_,(show mlookup mk z false (.mp c) (ek a) H=some ((look a l).getD z,H) from ?_),k⟩;simp only[mlookup,hg,Option.bind_some,if_pos ho,mget_enc hk,yat,yaO,if_false]
def zoS{β:Type}{H:Heap}{c:Nat}{ty:TypeId}{o:Option Nat}{v:V}{a:α} {l:List (α×V)} {f:V->M β} {Q:β->Heap->Prop} (hk:∀a b,keq mk (ek a) (ek b)=some (decide (a=b))) (ho:kok mk (ek a)=true)
  (hg:H.get c=some ⟨ty,encM ek l,o⟩) (k:Ok (f .undef) (H.set c (some ⟨ty,encM ek (putl a v l),o⟩)) Q):Ok ((mmapset mk (.mp c) (ek a) v).bind f) H Q:=by
 refine zaQ ⟨_,_,(show mmapset mk (.mp c) (ek a) v H=some (.undef,H.set c (some ⟨ty,encM ek (putl a v l),o⟩)) from ?_),k⟩;simp only[mmapset,hg,Option.bind_some,if_pos ho,mset_enc hk,yat]
end
def ekid(n:Nat):V:=.int .u64 (n:Nat)
def eplc(p:Int×Int):V:=.agg [.int .i64 p.1,.int .i64 p.2]
def zp1(a b:Nat):keq .int (ekid a) (ekid b)=some (decide (a=b)):=by
 simp only[keq,ekid,if_true,yaa];by_cases h:a=b
 ·subst h;simp
 ·rw[decide_eq_false h];have:¬((a:Nat):Int)=((b:Nat):Int):=by omega
  simpa using this
def keq_plc(a b:Int×Int):keq (.st [.int,.int]) (eplc a) (eplc b)=some (decide (a=b)):=by
 obtain⟨a1,a2⟩:=a;obtain⟨b1,b2⟩:=b;simp only[keq,eplc,za0,if_true,yat,yaa,yad,yaH];by_cases h1:a1=b1<;>by_cases h2:a2=b2<;>simp[h1,h2]
def zt6{α β:Type}[DecidableEq α](a k:α)(b:β) (l:List (α×β)):look k (putl a b l)=if k=a then some b else look k l:=by
 induction l with
 | nil=>rfl
 | cons p l ih=>
  obtain⟨k',v⟩:=p;simp only[putl];by_cases h:a=k'
  ·subst h;rw[if_pos rfl];simp only[look];by_cases h2:k=a
   ·rw[if_pos h2,if_pos h2]
   ·rw[if_neg h2,if_neg h2,if_neg h2]
  ·rw[if_neg h];simp only[look];by_cases h2:k=k'
   ·subst h2;rw[if_pos rfl,if_neg (λe=>h e.symm),if_pos rfl]
   ·rw[if_neg h2,ih,if_neg h2]
/-! Numbers of keys. -/
def kidOk(e st sl:Int):Prop:=(0<=e/\e<=65535)/\(0<=st/\st<=31)/\0<=sl/\sl<8
instance (e st sl:Int):Decidable (kidOk e st sl):=by unfold kidOk;infer_instance
def zmY(k:Nat):V:=if 16777216<=k then .tup [.int .i64 0,.int .i64 0,.int .i64 0,.bool false] else .tup [.int .i64 (k/256:Nat),.int .i64 (k%256/8:Nat),.int .i64 (k%8:Nat),.bool true]
def zuz{a m:Nat}(ha:a<18446744073709551616)(hm:0<m):Ax.bin .quo (.int .u64 (a:Nat)) (.int .u64 (m:Nat))=some (.int .u64 (a/m:Nat)):=by
 have h0:¬((m:Nat):Int)=0:=by omega
 have h1:((a:Nat):Int).tdiv ((m:Nat):Int)=((a/m:Nat):Int):=by rw[Int.tdiv_eq_ediv_of_nonneg (by omega)];rfl
 have h2:a/m<=a:=Nat.div_le_self _ _;simp only[Ax.bin,if_true,zc4,if_neg h0,h1,wrap_u64];generalize a/m=d at h2;rw[ycg (by omega) (by omega)]
def zuy{a m:Nat}(hm:0<m):Ax.bin .rem (.int .u64 (a:Nat)) (.int .u64 (m:Nat))=some (.int .u64 (a%m:Nat)):=by
 have h0:¬((m:Nat):Int)=0:=by omega
 have h1:((a:Nat):Int).tmod ((m:Nat):Int)=((a%m:Nat):Int):=by rw[Int.tmod_eq_emod_of_nonneg (by omega)];rfl
 simp only[Ax.bin,if_true,zc4,if_neg h0,h1]
def zrA{H:Heap}{k:Nat}(hk:k<18446744073709551616):Ok (sem T zge [.int .u64 (k:Nat)]) H λr H'=>r=zmY k/\H'=H:=by
 refine zrr ?_;unfold znB uL uB uR uc uq;by_cases h1:16777216<=k
 ·have b1:decide ((16777216:Int)<=((k:Nat):Int))=true:=decide_eq_true (by omega);have b1':decide (16777216<=k)=true:=decide_eq_true h1;simp(disch:=omega)only[↓RD,RZ,b1,b1',zmY,h1]
 ·have b1:decide ((16777216:Int)<=((k:Nat):Int))=false:=decide_eq_false (by omega);have b1':decide (16777216<=k)=false:=decide_eq_false h1;have w1:IntKind.i64.wrap ((k/256:Nat):Int)=((k/256:Nat):Int):=wrap_i64 (by omega) (by omega);have w2:IntKind.i64.wrap ((k%256/8:Nat):Int)=((k%256/8:Nat):Int):=wrap_i64 (by omega) (by omega);have w3:IntKind.i64.wrap ((k%8:Nat):Int)=((k%8:Nat):Int):=wrap_i64 (by omega) (by omega);have q1:Ax.bin .quo (.int .u64 (k:Nat)) (.int .u64 256)=some (.int .u64 (k/256:Nat)):=zuz (m:=256) hk (by decide);have q2:Ax.bin .rem (.int .u64 (k:Nat)) (.int .u64 256)=some (.int .u64 (k%256:Nat)):=zuy (m:=256) (by decide);have q3:Ax.bin .rem (.int .u64 (k:Nat)) (.int .u64 8)=some (.int .u64 (k%8:Nat)):=zuy (m:=8) (by decide);have q4:Ax.bin .quo (.int .u64 (k%256:Nat)) (.int .u64 8)=some (.int .u64 (k%256/8:Nat)):=zuz (m:=8) (by omega) (by decide);simp(disch:=omega)only[↓RD,RZ,b1,b1',zmY,h1,q1,q2,q3,q4,w1,w2,w3]
/-! ratchet -/
def sRat:List Nat:=[83,70,114,97,109,101,32,49,46,48,32,82,97,116,99,104,101,116]
def zvl(b:List Nat):List Nat:=(hkdf kc (hmac kc [] b) sRat 1).1.take 32
def zd4(b:List Nat):Nat->List Nat
 | 0=>b
 | n+1=>zvl (zd4 b n)
def zxy(b:List Nat):(zvl b).length=32:=by unfold zvl;rw[yaq,zga];omega
def nextB_8(b:List Nat):Ok8 (zvl b):=Ok8.take (zjQ kc _ _ _).1 _
def zuB{b:List Nat}(h:Ok8 b):∀n,Ok8 (zd4 b n)
 | 0=>h
 | n+1=>nextB_8 _
def zpm{b:List Nat}{m:Nat}(h:b.length<=m)(h32:32<=m):∀n,(zd4 b n).length<=m
 | 0=>h
 | n+1=>by unfold zd4;rw[zxy];exact h32
def zxx{lo:Nat}{H:Heap}{bv:V}{b:List Nat}(hb:By lo H bv b)(b8:Ok8 b)(hbl:b.length<=1099511627776):Ok (sem T zdV [bv]) H λr H'=>By H.next H' r (zvl b)/\Grow H H':=by
 refine zm8 ?_;unfold zjw uL uT uE uO uA uR uc ub;refine zad (zlE (Lc.nil:By 0 H .nils []) Ok8.nil (by decide) hb b8 hbl) ?_;rintro _ H1 ⟨rfl,s1⟩;have n1:=s1.next;have sl:(hmac kc [] b).length=32:=zdQ _ _ _;have s8:Ok8 (hmac kc [] b):=zlm _ _ _;have sp:=sp32 sl;have l32:((hmac kc [] b).map by8).length=32:=by rw[yah,sl]
 have vs:=zoI (n:=32) (id:=H1.next);simp(disch:=omega)only[↓RD,RZ,eq_self,seval,l32,sp,vs];have s2:Grow H ((H1.new ⟨zak,[(),(),(),(),(),(),(),(),(),(),(),(),(),(),(),(),(),(),(),(),(),(),(),(),(),(),(),(),(),(),(),()],none⟩).set H1.next (some ⟨zak,(hmac kc [] b).map by8,none⟩)):=(s1.trans (Grow.new _ _)).set (by omega) _;have g2:((H1.new ⟨zak,[(),(),(),(),(),(),(),(),(),(),(),(),(),(),(),(),(),(),(),(),(),(),(),(),(),(),(),(),(),(),(),()],none⟩).set H1.next (some ⟨zak,(hmac kc [] b).map by8,none⟩)).get H1.next = _:=zai _ _ _;have n2:((H1.new ⟨zak,[(),(),(),(),(),(),(),(),(),(),(),(),(),(),(),(),(),(),(),(),(),(),(),(),(),(),(),(),(),(),(),()],none⟩).set H1.next (some ⟨zak,(hmac kc [] b).map by8,none⟩)).next=H1.next+1:=rfl;generalize hq:H1.next=q at *;generalize Heap.set _ q _=H2 at *;rw[za2,<-n2];refine zwQ (l:=sRat) rfl (by decide) λx6 H6 hx6 s6=>?_;have g6:=(s6.same q (by omega)).trans g2;have n6:=s6.next;refine zad (zn3 (n:=32) (zk5 (lo:=0) g6 sl (by omega) (by omega)) s8 (by omega) hx6 (all8 rfl) (by decide) (by decide)) ?_;rintro _ H7 ⟨key,rfl,hkey,s7⟩;simp(disch:=omega)only[↓RD,RZ,eq_self,seval];exact⟨hkey.low (by have:=(s2.trans s6).next;omega),(s2.trans s6).trans s7⟩
def zqI{H:Heap}(n:Int):Ok (sem T zcw [.int .i64 n]) H λr H'=>r = .bool (decide (0<=n/\n<=31))/\H'=H:=by
 refine zlk ?_;unfold zhR uL uB uG uH uR uc;by_cases h1:0<=n
 ·have b1:decide (0<=n)=true:=decide_eq_true h1;by_cases h2:n<=31
  ·have b2:decide (n<=31)=true:=decide_eq_true h2;have b3:decide (0<=n/\n<=31)=true:=decide_eq_true ⟨h1,h2⟩;simp(disch:=omega)only[↓RD,RZ,b1,b2,b3]
  ·have b2:decide (n<=31)=false:=decide_eq_false h2;have b3:decide (0<=n/\n<=31)=false:=decide_eq_false λh=>h2 h.2;simp(disch:=omega)only[↓RD,RZ,b1,b2,b3]
 ·have b1:decide (0<=n)=false:=decide_eq_false h1;have b3:decide (0<=n/\n<=31)=false:=decide_eq_false λh=>h1 h.1;simp(disch:=omega)only[↓RD,RZ,b1,b3]
def eq_nils{lo:Nat}{H:Heap}{v:V}{l:List Nat}(h:By lo H v l):(v = .nils/\l=[])\/Ax.eqr .sl false v .nils=some (.bool false):=by
 rcases Lc.cases h with⟨rfl,h1,h2⟩|⟨id,off,cap,b',rfl,hb,hle,hc⟩|⟨cs,rfl,_⟩
 ·exact .inl ⟨rfl,yay h2⟩
 ·exact .inr rfl
 ·exact .inr rfl
def zuu{lo:Nat}{H:Heap}{v:V}{l:List Nat}(hv:By lo H v l)(hl:l.length<=140737488355328):Ok (sem T zbp [v]) H λr H'=>By H.next H' r l/\Grow H H':=by
 refine zjp ?_;unfold zhB uL uR ub;rcases eq_nils hv with⟨rfl,rfl⟩|e
 ·have e:Ax.eqr .sl false .nils .nils=some (.bool true):=rfl;simp(disch:=omega)only[↓RD,RZ,e];exact⟨Lc.nil,Grow.refl _⟩
 ·simp(disch:=omega)only[↓RD,RZ,e];rw[za2];refine copy8 hv hl λx0 H0' hx0 s0=>?_;simp(disch:=omega)only[↓RD,RZ];exact⟨hx0.by,s0⟩
def zv0{lo:Nat}{H:Heap}{bv:V}{b:List Nat}{n:Nat}(hb:By lo H bv b)(b8:Ok8 b)(hbl:b.length<=1099511627)(hn:n<=31) :
  Ok (sem T zds [bv,.int .i64 (n:Nat)]) H λr H'=>∃v,r = .tup [v,.int .i64 0]/\By H.next H' v (zd4 b n)/\Grow H H':=by
 refine zma ?_;unfold ziO uL uA uR uc ug;have hw:=@zeQ _ _ _ _ (@zqI H ((n:Nat):Int));have b3:decide (0<=((n:Nat):Int)/\((n:Nat):Int)<=31)=true:=decide_eq_true (by omega);rw[b3]at hw;simp(disch:=omega)only[↓RD,RZ,hw];refine zad (zuu hb (by omega)) ?_;rintro v0 H1 ⟨hv0,s1⟩;simp(disch:=omega)only[↓RD,RZ];refine zao (Q:=λr H'=>∃v,r = .ex 0 [v]/\By H.next H' v (zd4 b n)/\Grow H H') ?_ ?_
 ·refine zaS (λj L H'=>∃v,L=[v,.int .i64 (j:Nat)]/\By H.next H' v (zd4 b j)/\Grow H H') n ?_ ?_ ?_
  ·exact⟨v0,rfl,hv0,s1⟩
  ·rintro j L H2 hj ⟨v,rfl,hv,s2⟩;have al:=zpm (b:=b) (m:=1099511627) hbl (by decide) j;have d1:decide (((j:Nat):Int)<((n:Nat):Int))=true:=decide_eq_true (by omega);unfold zeg uB uA uK uc ug;simp(disch:=omega)only[↓RD,RZ,d1];refine zad (zxx hv (zuB b8 j) (by omega)) ?_;rintro v2 H3 ⟨hv2,s3⟩;simp(disch:=omega)only[↓RD,RZ];exact⟨v2,rfl,hv2.low s2.next,s2.trans s3⟩
  ·rintro L H2 ⟨v,rfl,hv,s2⟩;have d1:decide (((n:Nat):Int)<((n:Nat):Int))=false:=decide_eq_false (by omega);unfold zeg uB uA uK uc ug;simp(disch:=omega)only[↓RD,RZ,d1];exact⟨v,rfl,hv,s2⟩
 ·rintro _ H2 ⟨v,rfl,hv,s2⟩;simp(disch:=omega)only[↓RD,RZ];exact⟨v,rfl,hv,s2⟩
end Go.Ax.SU
/- Ax43 -/
namespace Go.Ax
structure Rsu where
 u:Nat
def Heap.pluc(H:Heap)(G:Rsu):Heap:=H
structure Dcl (H:Heap) (G:Rsu):Prop where
 cl:∀i,H.next<=i->H.get i=none
 lo:G.u<=H.next
section
variable {G:Rsu} {H H':Heap}
def Dcl.get(h:Dcl H G){id:Nat}{b:Blk}(hb:H.get id=some b):(H.pluc G).get id=some b:=hb
def Dcl.lt(h:Dcl H G){id:Nat}{b:Blk}(hb:H.get id=some b):id<H.next:=by
 by_cases hl:id<H.next
 ·exact hl
 ·rw[h.cl id (by omega)]at hb;cases hb
def Dcl.set(h:Dcl H G){id:Nat}{b:Blk}(hb:H.get id=some b)(o:Option Blk):(H.pluc G).set id o=(H.set id o).pluc G/\Dcl (H.set id o) G:=by
 have hl:=h.lt hb;refine⟨rfl,⟨λi hi=>?_,h.lo⟩⟩;have hi:H.next<=i:=hi;rw[zaj _ _ (by omega)];exact h.cl i hi
def Dcl.new(h:Dcl H G)(b:Blk):(H.pluc G).new b=(H.new b).pluc G/\Dcl (H.new b) G:=by
 refine⟨rfl,⟨λi hi=>?_,by rw[zae];have:=h.lo;omega⟩⟩;rw[zae]at hi;rw[zas _ _ (by omega)];exact h.cl i (by omega)
def CfR(G:Rsu){α:Type}(x y:M α):Prop:=∀H a H',Dcl H G->x H=some (a,H')->y (H.pluc G)=some (a,H'.pluc G)/\Dcl H' G
abbrev CfM(G:Rsu){α:Type}(x:M α):Prop:=CfR G x x
section
variable {α β:Type}
def zb9(v:α):CfM G (M.pure v):=by
 intro H a H' hd h;simp only[M.pure,yaa,yad]at h ⊢;obtain⟨rfl,rfl⟩:=h;exact⟨⟨rfl,rfl⟩,hd⟩
def zcy{y:M α}:CfR G M.fail y:=by intro H a H' hd h;cases h
def zfS(o:Option α):CfM G (M.lift o):=by
 intro H a H' hd h;cases o with
 | none=>cases h
 | some v=>exact zb9 v H a H' hd h
def zbJ{x x':M α}{f g:α->M β}(h:CfR G x x') (k:∀v,CfR G (f v) (g v)):CfR G (x.bind f) (x'.bind g):=by
 intro H a H' hd e;obtain⟨v,H1,h1,h2⟩:=bind_some e;obtain⟨e1,d1⟩:=h H v H1 hd h1;obtain⟨e2,d2⟩:=k v H1 a H' d1 h2;exact⟨by rw[bind_ok e1];exact e2,d2⟩
def cf_ite(c:V){x x' y y':M α}(h:CfR G x y)(k:CfR G x' y'):CfR G (M.ite c x x') (M.ite c y y'):=by
 cases c<;>first|exact zcy|skip
 rename_i b;cases b
 ·exact k
 ·exact h
def zdC{H:Heap}{a v:α}{H':Heap}(hd:Dcl H G) (h:(v,H)=(a,H')):(some (v,H.pluc G):Option (α×Heap))=some (a,H'.pluc G)/\Dcl H' G:=by
 injection h with h1 h2
 subst h1 h2;exact⟨rfl,hd⟩
def zl5{H:Heap}{a v:α}{H':Heap}{id:Nat}{b:Blk}{o:Option Blk}(hd:Dcl H G)(hb:H.get id=some b) (h:(v,H.set id o)=(a,H')):(some (v,(H.pluc G).set id o):Option (α×Heap))=some (a,H'.pluc G)/\Dcl H' G:=by
 injection h with h1 h2
 subst h1 h2;obtain⟨e,d⟩:=hd.set hb o;exact⟨by rw[e],d⟩
def zl6{H:Heap}{a v:α}{H':Heap}{b:Blk}(hd:Dcl H G) (h:(v,H.new b)=(a,H')):(some (v,(H.pluc G).new b):Option (α×Heap))=some (a,H'.pluc G)/\Dcl H' G:=by
 injection h with h1 h2
 subst h1 h2;obtain⟨e,d⟩:=hd.new b;exact⟨by rw[e],d⟩
def cf_snew{H:Heap}{a v:α}{H':Heap}{id:Nat}{b c:Blk}{o:Option Blk}(hd:Dcl H G)(hb:H.get id=some b) (h:(v,(H.set id o).new c)=(a,H')):(some (v,((H.pluc G).set id o).new c):Option (α×Heap))=some (a,H'.pluc G)/\Dcl H' G:=by
 injection h with h1 h2
 subst h1 h2;obtain⟨e,d⟩:=hd.set hb o;obtain⟨e',d'⟩:=d.new c;exact⟨by rw[e,e'],d'⟩
def zel{p:Prop}[Decidable p] {X Y:Option (α×Heap)} {X' Y':Option (α×Heap)} {a:α} {H':Heap} {R:Prop} (h1:X=some (a,H')->X'=some (a,H'.pluc G)/\R) (h2:Y=some (a,H')->Y'=some (a,H'.pluc G)/\R) (h:(if p then X else Y)=some (a,H')):(if p then X' else Y')=some (a,H'.pluc G)/\R:=by
 by_cases hp:p
 ·rw[if_pos hp]at h ⊢;exact h1 h
 ·rw[if_neg hp]at h ⊢;exact h2 h
def zaW{a:α}{H':Heap}{X:Prop} (h:(none:Option (α×Heap))=some (a,H')):X:=by cases h
def zg2{H:Heap}{id:Nat} {k k':Blk->Option (α×Heap)} {a:α} {H':Heap} (hd:Dcl H G) (h:(H.get id).bind k=some (a,H')) (hk:∀b,H.get id=some b->k b=some (a,H')->k' b=some (a,H'.pluc G)/\Dcl H' G):((H.pluc G).get id).bind k'=some (a,H'.pluc G)/\Dcl H' G:=by
 rw[yab]at h;obtain⟨b,hb,h⟩:=h;rw[hd.get hb];exact hk b hb h
def znT{γ:Type}{o:Option γ}{k k':γ->α×Heap}{a:α}{H':Heap}{R:Prop} (h:o.map k=some (a,H')) (hk:∀b,some (k b)=some (a,H')->some (k' b)=some (a,H'.pluc G)/\R):o.map k'=some (a,H'.pluc G)/\R:=by
 cases o with
 | none=>cases h
 | some b=>exact hk b h
end
def zbf{γ:Type}{x y:γ}(h:some x=some y):x=y:=ycq h
def zte(n:Option Nat)(p:V):CfM G (mload n p):=by
 intro H a H' hd h;cases p<;>first|exact zaW h|skip
 ·exact zg2 hd h λb hb h=>znT h λv h=>zdC hd (zbf h)
 ·exact znT h λv h=>zdC hd (zbf h)
def cf_store(n:Nat)(p x:V):CfM G (mstore n p x):=by
 intro H a H' hd h;cases p<;>first|exact zaW h|skip
 exact zg2 hd h λb hb h=>zel (λh=>zl5 hd hb (zbf h)) zaW h
def cf_box(ty:TypeId)(x:V):CfM G (mbox ty x):=by
 intro H a H' hd h;exact zel (λh=>zl6 hd (zbf h)) zaW h
def cf_slit(ty:TypeId)(l:Nat)(z:List V) (ps:List (Nat×Nat×V)):CfM G (mslit ty l z ps):=by
 intro H a H' hd h;exact znT h λcs h=>zl6 hd (zbf h)
def zsA(hd:Dcl H G){e:Nat}{v:V}{q:List V×Nat}(h:rcells e H v=some q):rcells e (H.pluc G) v=some q:=h
def ztt(hd:Dcl H G){e:Nat}{v:V}{q:List V×Nat}(h:acells e H v=some q):acells e (H.pluc G) v=some q:=h
def cf_ac{α:Type}{H:Heap}{e:Nat}{v:V} {k k':List V×Nat->Option (α×Heap)} {a:α} {H':Heap} (hd:Dcl H G) (h:(acells e H v).bind k=some (a,H')) (hk:∀q,k q=some (a,H')->k' q=some (a,H'.pluc G)/\Dcl H' G):(acells e (H.pluc G) v).bind k'=some (a,H'.pluc G)/\Dcl H' G:=by
 rw[yab]at h;obtain⟨q,hq,h⟩:=h;rw[ztt hd hq];exact hk q h
def cf_rc{α:Type}{H:Heap}{e:Nat}{v:V} {k k':List V×Nat->Option (α×Heap)} {a:α} {H':Heap} (hd:Dcl H G) (h:(rcells e H v).bind k=some (a,H')) (hk:∀q,k q=some (a,H')->k' q=some (a,H'.pluc G)/\Dcl H' G):(rcells e (H.pluc G) v).bind k'=some (a,H'.pluc G)/\Dcl H' G:=by
 rw[yab]at h;obtain⟨q,hq,h⟩:=h;rw[zsA hd hq];exact hk q h
def zpj(ty e b:Nat)(q:List V×Nat)(x:V):CfM G (mappendq ty e b q x):=by
 intro H a H' hd h;cases x<;>first|exact zaW h|skip
 ·exact zel (λh=>zdC hd (zbf h)) (zel (λh=>zl6 hd (zbf h)) zaW) h
 ·rename_i id off len cap;refine zg2 hd h λb hb h=>zel (λh=>?_) zaW h;cases cap with
  | fix c=>exact zel (zel (λh=>zl5 hd hb (zbf h)) zaW) (zel (λh=>zl6 hd (zbf h)) zaW) h
  | opn ee=>exact zel (zel (λh=>zdC hd (zbf h)) (zel (λh=>cf_snew hd hb (zbf h)) zaW)) (zel (λh=>zdC hd (zbf h)) (zel (λh=>zl5 hd hb (zbf h)) zaW)) h
 ·exact zel (λh=>zdC hd (zbf h)) zaW h
def znU(ty e b:Nat)(x y:V):CfM G (mappend ty e b x y):=by
 intro H a H' hd h;exact cf_ac hd h λq h=>zpj ty e b q x H a H' hd h
def zvQ(ty b:Nat)(z:List V)(x y:V):CfM G (mappendz ty b z x y):=by
 intro H a H' hd h;cases y<;>first|exact zaW h|skip
 exact zel (λh=>zpj _ _ _ _ _ H a H' hd h) zaW h
def cf_copy(e:Nat)(x y:V):CfM G (mcopy e x y):=by
 intro H a H' hd h;refine cf_ac hd h λq h=>?_;cases x<;>first|exact zaW h|skip
 ·exact zdC hd (zbf h)
 ·exact zg2 hd h λb hb h=>zel (λh=>zl5 hd hb (zbf h)) zaW h
def cf_tostr(x:V):CfM G (mtostr x):=by
 intro H a H' hd h;exact cf_rc hd h λq h=>znT h λv h=>zdC hd (zbf h)
def zpi(ty:TypeId)(x:V):CfM G (mtobytes ty x):=by
 intro H a H' hd h;cases x<;>first|exact zaW h|skip
 exact zel (λh=>zl6 hd (zbf h)) zaW h
def zyv(ty:TypeId)(x:V):CfM G (mremark ty x):=by
 intro H a H' hd h;cases x<;>first|exact zaW h|skip
 ·exact zpi ty (.str _) H a H' hd h
 ·exact zg2 hd h λb hb h=>zel zaW (λh=>zdC hd (zbf h)) h
def zvN(ty b:Nat)(z:List V)(l c:V):CfM G (mmkslice ty b z l c):=by
 intro H a H' hd h;unfold mmkslice at h ⊢;split at h
 ·exact zel (λh=>zl6 hd (zbf h)) zaW h
 ·exact zaW h
def cf_mknz(ty:TypeId)(x:V):CfM G (mmknz ty x):=by
 intro H a H' hd h;unfold mmknz at h ⊢;split at h
 ·exact zel (λh=>zl6 hd (zbf h)) zaW h
 ·exact zaW h
def zyu(e:Nat)(x lo hi:V):CfM G (mslice2 e x lo hi):=by
 intro H a H' hd h;unfold mslice2 at h ⊢;split at h
 ·exact zg2 hd h λb hb h=>zel (λh=>zdC hd (zbf h)) zaW h
 ·exact zaW h
def cf_clear(z:List V)(x:V):CfM G (mclear z x):=by
 intro H a H' hd h;cases x<;>first|exact zaW h|skip
 exact zel (λh=>zdC hd (zbf h)) (λh=>zg2 hd h λb hb h=>zel (λh=>zl5 hd hb (zbf h)) zaW h) h
def cf_mkmap(ty:TypeId):CfM G (mmkmap ty):=by
 intro H a H' hd h;exact zl6 hd (zbf h)
def zyy(mk:MK)(z:V)(ok:Bool)(x k:V):CfM G (mlookup mk z ok x k):=by
 intro H a H' hd h;cases x<;>first|exact zaW h|skip
 exact zg2 hd h λb hb h=>zel (λh=>znT h λv h=>zdC hd (zbf h)) zaW h
def zyw(mk:MK)(x k v:V):CfM G (mmapset mk x k v):=by
 intro H a H' hd h;cases x<;>first|exact zaW h|skip
 exact zg2 hd h λb hb h=>zel (λh=>znT h λv h=>zl5 hd hb (zbf h)) zaW h
def zyx(x:V):CfM G (mmaplen x):=by
 intro H a H' hd h;cases x<;>first|exact zaW h|skip
 rename_i id;have h':(H.get id).bind (λb=>some (V.int .i64 ((b.cells.length/2:Nat):Int),H))=some (a,H'):=by rw[<-h];simp only[mmaplen];cases H.get id<;>rfl
 have:=zg2 (k':=λb=>some (V.int .i64 ((b.cells.length/2:Nat):Int),H.pluc G)) hd h' λb hb h=>zdC hd (zbf h);rw[<-this.1];exact⟨by simp only[mmaplen];cases (H.pluc G).get id<;>rfl,this.2⟩
def cf_aload(k:IntKind)(p:V):CfM G (matoload k p):=by
 intro H a H' hd h;unfold matoload at h ⊢;rw[yab]at h;obtain⟨⟨v,H1⟩,h1,h⟩:=h;obtain⟨e1,d1⟩:=zte none p H v H1 hd h1;rw[e1];dsimp only[Option.bind_some]at h ⊢;cases v<;>first|exact zaW h|skip
 exact zel (λh=>zdC d1 (zbf h)) zaW h
def cf_aadd(k:IntKind)(p y:V):CfM G (matoadd k p y):=by
 intro H a H' hd h;unfold matoadd at h ⊢;split at h
 ·refine zg2 hd h λb hb h=>?_;split at h
  ·rename_i hc;exact zel (λh=>zl5 hd hb (zbf h)) zaW h
  ·exact zaW h
 ·exact zaW h
def zvO(p:Bool)(o:Nat)(x n:V):CfM G (mmapdrop p o x n):=by
 intro H a H' hd h;unfold mmapdrop at h ⊢;split at h
 ·refine zg2 hd h λb hb h=>?_;split at h
  ·rename_i hc;exact zg2 hd h λb hb h=>znT h λv h=>zl5 hd hb (zbf h)
  ·exact zaW h
 ·exact zaW h
section
variable {g:Sem'}
def zaM{A:Fr}{x:Arg}{k:V->M V} (h:∀v,CfM G (k v)):CfM G (with1 A x k):=by
 unfold with1;cases x.ev A with
 | none=>exact zcy
 | some v=>exact h v
def zmz{A:Fr}{xs:List Arg}{k:List V->M V} (h:∀v,CfM G (k v)):CfM G (withs A xs k):=by
 unfold withs;cases evs A xs with
 | none=>exact zcy
 | some v=>exact h v
def cf_run (hg:∀f args,CfM G (g f args)) (A:Fr) (ins:I):CfM G (ins.run g A):=by
 cases ins<;>unfold I.run<;>dsimp only
 case mkmap=>exact cf_mkmap _
 case build zero parts=>cases zaX A parts with|none=>exact zcy|some ps=>exact zfS _
 case slit=>rename_i ps;cases zaX A ps with|none=>exact zcy|some ps=>exact cf_slit _ _ _ _
 case call f args=>exact zmz λv=>hg f v
 case mkfn f caps=>exact zmz λv=>zb9 _
 case callv x args=>exact zaM λv=>zmz λvs=>by cases v<;>first|exact zcy|exact hg _ _
 case slice ck esz x lo hi mx=>
  refine zaM λv=>?_;split
  ·exact zfS _
  ·exact zcy
 case minmax=>exact zaM λv=>zmz λvs=>zfS _
 all_goals first
  | exact zaM λv=>zb9 _
  | exact zaM λv=>zfS _
  | exact zaM λv=>zaM λw=>zfS _
  | exact zaM λv=>zaM λw=>zaM λu=>zfS _
  | exact zaM λv=>cf_box _ _
  | exact zaM λv=>zte _ _
  | exact zaM λv=>cf_tostr _
  | exact zaM λv=>zpi _ _
  | exact zaM λv=>zyv _ _
  | exact zaM λv=>cf_mknz _ _
  | exact zaM λv=>cf_clear _ _
  | exact zaM λv=>zyx _
  | exact zaM λv=>cf_aload _ _
  | exact zaM λv=>zaM λw=>cf_store _ _ _
  | exact zaM λv=>zaM λw=>znU _ _ _ _ _
  | exact zaM λv=>zaM λw=>zvQ _ _ _ _ _
  | exact zaM λv=>zaM λw=>cf_copy _ _ _
  | exact zaM λv=>zaM λw=>zvN _ _ _ _ _
  | exact zaM λv=>zaM λw=>zyy _ _ _ _ _
  | exact zaM λv=>zaM λw=>cf_aadd _ _ _
  | exact zaM λv=>zaM λw=>zvO _ _ _ _
  | exact zaM λv=>zaM λw=>zaM λu=>zyu _ _ _ _
  | exact zaM λv=>zaM λw=>zaM λu=>zyw _ _ _ _
def zvP{A:Fr} {gd:Option (Nat×Bool)} {x:M V} (h:CfM G x):CfM G (guarded A gd x):=by
 unfold guarded;cases gd with
 | none=>exact h
 | some p=>
  dsimp only;cases A.get p.1 with
  | none=>exact zcy
  | some v=>
   cases v with
   | bool b=>
    dsimp only;by_cases hb:b=p.2
    ·rw[if_pos hb];exact h
    ·rw[if_neg hb];exact zb9 _
   | tup vs=>cases vs with|nil=>exact zb9 _|cons _ _=>exact zcy
   | _=>exact zcy
def zvR (hg:∀f args,CfM G (g f args)) (A:Fr) (o:AO):CfM G (o.run g A):=zvP (cf_run hg A o.ins)
def cf_ops (hg:∀f args,CfM G (g f args)):∀(l:List AO) (A:Fr),CfM G (zeP g l A)
 | [],A=>zb9 A
 | o::l,A=>zbJ (zvR hg A o) λv=>cf_ops hg l _
def zyt(v:V)(h h':Heap):CfR G (M.unch v h h') (M.unch v (h.pluc G) (h'.pluc G)):=by
 intro H a H' hd e;unfold M.unch at e ⊢;split at e
 ·rename_i hp;rw[if_pos]
  ·exact zdC hd (zbf e)
  ·intro id hid;exact hp id hid
 ·exact zaW e
def zqx (un:List (Nat×Nat)) (j:Nat) (h h':Heap):∀rs,CfR G (zbn un j h h' rs) (zbn un j (h.pluc G) (h'.pluc G) rs)
 | []=>zb9 ()
 | (i,a)::rs=>by
  unfold zbn;by_cases hc:un.contains (i,j)=true
  ·rw[if_pos hc,if_pos hc];exact zbJ (zyt a h h') λ_=>zqx un j h h' rs
  ·rw[if_neg hc,if_neg hc];exact zqx un j h h' rs
def zqy (un:List (Nat×Nat)) (i:Nat) (a:V):∀js,CfR G (zbk un i a js) (zbk un i a (js.map λq=>(q.1,q.2.1.pluc G,q.2.2.pluc G)))
 | []=>zb9 ()
 | (j,h,h')::js=>by
  show CfR G (zbk un i a ((j,h,h')::js)) (zbk un i a ((j,h.pluc G,h'.pluc G)::js.map λq=>(q.1,q.2.1.pluc G,q.2.2.pluc G)));unfold zbk;by_cases hc:un.contains (i,j)=true
  ·rw[if_pos hc,if_pos hc];exact zbJ (zyt a h h') λ_=>zqy un i a js
  ·rw[if_neg hc,if_neg hc];exact zqy un i a js
def zyz{α:Type}{f f':Heap->M α} (h:∀H,Dcl H G->CfR G (f H) (f' (H.pluc G))):CfR G (M.getH.bind f) (M.getH.bind f'):=by
 intro H a H' hd e;exact h H hd H a H' hd e
def cf_draw (hg:∀f args,CfM G (g f args)) (un:List (Nat×Nat)):∀(l:List AO) (p:Nat) (rs:List (Nat×V)) (js:List (Nat×Heap×Heap)) (A:Fr),CfR G (zaP g un p rs js l A) (zaP g un p rs (js.map λq=>(q.1,q.2.1.pluc G,q.2.2.pluc G)) l A):=by
 intro l
 induction l with
 | nil=>intro p rs js A;exact zb9 A
 | cons o l ih=>
  intro p rs js A;unfold zaP;cases hk:o.ins.kind with
  | read x=>
   dsimp only;unfold zaP.with1';cases x.ev A with
   | none=>exact zbJ (zvR hg A o) λv=>zbJ (zqy un p _ js) λ_=>ih _ _ _ _
   | some a=>exact zbJ (zvR hg A o) λv=>zbJ (zqy un p _ js) λ_=>ih _ _ _ _
  | act=>exact zyz λh hd=>zbJ (zvR hg A o) λv=>zyz λh' hd'=>zbJ (zqx un p h h' rs) λ_=>ih _ _ ((p,h,h')::js) _
  | pure=>exact zbJ (zvR hg A o) λv=>ih _ _ _ _
  | new=>exact zbJ (zvR hg A o) λv=>ih _ _ _ _
def cf_iter{body:List V->M Res} (h:∀L,CfM G (body L)) (L:List V):CfM G (M.iter body L):=by
 intro H a H' hd e;obtain⟨n,hn⟩:=zfp e;have key:∀(n:Nat) (L:List V),CfM G (iterN body n L):=by
  intro n
  induction n with
  | zero=>intro L;exact zcy
  | succ n ih=>
   intro L;show CfM G (M.join (body L) (iterN body n));refine zbJ (h L) λr=>?_;cases r with
   | nrm L'=>exact ih L'
   | ex id L'=>exact zb9 _
   | ret L'=>exact zb9 _
 obtain⟨e1,d1⟩:=key n L H a H' hd hn;exact⟨zhd e1,d1⟩
def zlD(A:Fr):∀rv,CfM G (results A rv)
 | []=>zb9 _
 | .tmp t::rs=>zbJ (zfS _) λv=>zbJ (zlD A rs) λvs=>zb9 _
 | .cell t n::rs=>zbJ (zfS _) λa=>zbJ (zte n a) λv=>zbJ (zlD A rs) λvs=>zb9 _
def cf_exec (hg:∀f args,CfM G (g f args)) (rv:List RV):∀(c:C) (cx:List (Nat×List Nat)) (J:List Nat) (A:Fr),CfM G (exec g rv c cx J A):=by
 intro c
 induction c with
 | done=>intro cx J A;exact zbJ (zfS _) λL=>zb9 _
 | bad=>intro cx J A;exact zcy
 | ops l k ih=>intro cx J A;exact zbJ (cf_ops hg l A) λA'=>ih _ _ _
 | draw l un k ih=>intro cx J A;exact zbJ (cf_draw hg un l 0 [] [] A) λA'=>ih _ _ _
 | cond x a b iha ihb=>
  intro cx J A;simp only[exec];cases x.ev A with
  | none=>exact zcy
  | some c=>exact cf_ite c (iha _ _ _) (ihb _ _ _)
 | condJ x a b J' W k iha ihb ihk=>
  intro cx J A;simp only[exec];cases x.ev A with
  | none=>exact zcy
  | some c=>
   refine zbJ (cf_ite c (iha _ _ _) (ihb _ _ _)) λr=>?_;cases r with
   | nrm L=>exact ihk _ _ _
   | ex id L=>exact zb9 _
   | ret L=>exact zb9 _
 | blk id a J' W k iha ihk=>
  intro cx J A;simp only[exec,M.blk];refine zbJ (iha _ _ _) λr=>?_;cases r with
  | nrm L=>exact ihk _ _ _
  | ex i L=>
   dsimp only;by_cases e:i=id
   ·simp only[if_pos e];exact ihk _ _ _
   ·simp only[if_neg e];exact zb9 _
  | ret L=>exact zb9 _
 | loop a K W iha=>
  intro cx J A;exact zbJ (zfS _) λL=>cf_iter (λL=>iha _ _ _) L
 | exit id=>
  intro cx J A;simp only[exec];cases zjm cx id with
  | none=>exact zcy
  | some J=>exact zbJ (zfS _) λL=>zb9 _
 | ret=>intro cx J A;exact zbJ (zlD A rv) λL=>zb9 _
def cf_fn (hg:∀f args,CfM G (g f args)) (f:Fn') (args:List V):CfM G (f.run g args):=zbJ (cf_exec hg _ _ _ _ _) λr=>by
 cases r with
 | ret L=>exact zb9 _
 | nrm L=>exact zcy
 | ex id L=>exact zcy
end
def zyA{T:FuncId->Option Fn'}:∀(n:Nat) (f:FuncId) (args:List V),CfM G (deep T n f args)
 | 0,f,args=>zcy
 | n+1,f,args=>by
  unfold deep;cases T f with
  | none=>exact zcy
  | some ir=>
   dsimp only;split
   ·exact cf_fn (zyA n) ir args
   ·exact zcy
def cf_sem{T:FuncId->Option Fn'}(f:FuncId)(args:List V):CfM G (sem T f args):=by
 intro H a H' hd e;unfold sem at e;split at e
 ·obtain⟨e1,d1⟩:=zyA _ f args H a H' hd e;exact⟨zjH e1,d1⟩
 ·cases e
end
def Heap.Cl(H:Heap):Prop:=∀i,H.next<=i->H.get i=none
def zd7{H:Heap}(h:H.Cl)(b:Blk):(H.new b).Cl:=λi hi=>by
 rw[zae]at hi;rw[zas _ _ (by omega)];exact h i (by omega)
def zcE{H:Heap}(h:H.Cl){id:Nat}(hl:id<H.next)(o:Option Blk):(H.set id o).Cl:=λi hi=>by
 have hi:H.next<=i:=hi;rw[zaj _ _ (by omega)];exact h i hi
def zko{T:FuncId->Option Fn'}{f:FuncId}{args:List V}{H:Heap}{Q:V->Heap->Prop}(hc:H.Cl) (h:Ok (sem T f args) H Q):Ok (sem T f args) H λv H'=>Q v H'/\H'.Cl:=by
 obtain⟨v,H',h1,h2⟩:=h;exact⟨v,H',h1,h2,(cf_sem (G:=⟨0⟩) f args H v H' ⟨hc,yaD _⟩ h1).2.cl⟩
mutual
def V.still:V->Bool
 | .ptr _ _=>false
 | .mp _=>false
 | .sl _ _ _ _=>false
 | .rs cells _=>V.stills cells
 | .rp cells _=>V.stills cells
 | .fn _ caps=>V.stills caps
 | .agg cells=>V.stills cells
 | .tup vs=>V.stills vs
 | .lit (.int _ _)=>false
 | _=>true
def V.stills:List V->Bool
 | []=>true
 | x::xs=>x.still&&V.stills xs
end
def Arg.still:Arg->Bool
 | .s _=>true
 | .c v=>v.still
def zjo:Option Arg->Bool
 | none=>true
 | some x=>x.still
def I.still:I->Bool
 | .mkmap _=>true
 | .maplen x | .aload _ x | .mv x | .box _ x | .load _ x | .nilck x | .un _ x | .cint _ x | .tostr x | .tobytes _ x | .faddr _ x | .field _ _ x | .ext _ x | .len x | .slen x | .op1 _ x | .mknz _ x | .remark _ x=>x.still
 | .clear z x=>V.stills z&&x.still
 | .pick c a b | .slice2 _ c a b | .mapset _ c a b=>c.still&&(a.still&&b.still)
 | .build z ps | .slit _ _ z ps=>V.stills z&&ps.all λp=>p.2.2.still
 | .store _ p x | .aadd _ p x | .mdrop _ _ p x=>p.still&&x.still
 | .lookup _ z _ p x=>z.still&&(p.still&&x.still)
 | .bin _ x y | .eq _ _ x y | .iaddr _ _ x y | .index _ _ _ x y | .sindex x y | .append _ _ _ x y | .copy _ x y=>x.still&&y.still
 | .appendz _ _ z x y | .mkslice _ _ z x y=>V.stills z&&(x.still&&y.still)
 | .slice _ _ x lo hi mx=>x.still&&(zjo lo&&(zjo hi&&zjo mx))
 | .minmax _ x xs=>x.still&&xs.all Arg.still
 | .call _ xs | .mkfn _ xs=>xs.all Arg.still
 | .callv x xs=>x.still&&xs.all Arg.still
def AO.still(o:AO):Bool:=o.ins.still
def C.still:C->Bool
 | .done | .bad | .exit _ | .ret=>true
 | .ops l k=>l.all AO.still&&k.still
 | .draw l _ k=>l.all AO.still&&k.still
 | .cond x a b=>x.still&&(a.still&&b.still)
 | .condJ x a b _ _ k=>x.still&&(a.still&&(b.still&&k.still))
 | .blk _ a _ _ k=>a.still&&k.still
 | .loop a _ _=>a.still
end Go.Ax
/- Ax50 -/
namespace Go.Ax.Y
structure Nm where
 f:Nat->Nat
 w:Nat->V
 s:Nat->Nat
def okw(v:V):V:=if v.one=true then v else .any
def zxh(v:V):(okw v).one=true:=by
 unfold okw;by_cases h:v.one=true
 ·rw[if_pos h];exact h
 ·rw[if_neg h];rfl
def zxg{v:V}(h:v.one=true):v.cells=[v]:=by cases v<;>first|rfl|cases h
def one_okc{v:V}(h:v.one=true):v.okc=true:=by cases v<;>first|rfl|exact h|cases h
def sy(d:Nm):Value->V
 | .int .u8 n=>.int .u8 (d.s n.toNat:Nat)
 | .int .i64 n=>okw (d.w n.toNat)
 | x=>.lit x
mutual
def sh(d:Nm):V->V
 | .ptr id off=>.ptr (d.f id) off
 | .mp id=>.mp (d.f id)
 | .sl id off len cap=>.sl (d.f id) off len cap
 | .rs cells len=>.rs (shL d cells) len
 | .rp cells off=>.rp (shL d cells) off
 | .fn f caps=>.fn f (shL d caps)
 | .agg cells=>.agg (shL d cells)
 | .tup vs=>.tup (shL d vs)
 | .bool b=>.bool b
 | .int k n=>.int k n
 | .str s=>.str s
 | .nilp=>.nilp
 | .nils=>.nils
 | .lit x=>sy d x
 | .any=>.any
def shL(d:Nm):List V->List V
 | []=>[]
 | x::xs=>sh d x::shL d xs
end
section
variable {d:Nm}
def sy_cells(x:Value):(sy d x).cells=[sy d x]:=by
 unfold sy;split
 ·rfl
 ·exact zxg (zxh _)
 ·rfl
def sy_okc{x:Value} (h:V.okc (.lit x)=true):(sy d x).okc=true:=by
 unfold sy;split
 ·rfl
 ·exact one_okc (zxh _)
 ·exact h
def shL_map(l:List V):shL d l=l.map (sh d):=by
 induction l with
 | nil=>rfl
 | cons x xs ih=>rw[yaR,<-ih];rfl
def shL_len(l:List V):(shL d l).length=l.length:=by rw[shL_map,yah]
def zpC(l:List V)(i:Nat):(shL d l)[i]?=l[i]?.map (sh d):=by rw[shL_map,yaT]
def shL_drop(l:List V)(i:Nat):(shL d l).drop i=shL d (l.drop i):=by rw[shL_map,shL_map,yb7]
def shL_take(l:List V)(i:Nat):(shL d l).take i=shL d (l.take i):=by rw[shL_map,shL_map,yb6]
def shL_app(l m:List V):shL d (l++m)=shL d l++shL d m:=by rw[shL_map,shL_map,shL_map,yaC]
def zkf(v:V):(sh d v).cells=shL d v.cells:=by
 cases v<;>try (simp[sh,shL,V.cells];done)
 exact sy_cells _
def zwA{v:V}(h:v.okc=true):(sh d v).okc=true:=by
 cases v<;>first|rfl|exact sy_okc h|cases h
def zfk(xs:List V)(o:Nat)(ys:List V):splice (shL d xs) o (shL d ys)=shL d (splice xs o ys):=by
 unfold splice;rw[shL_take,shL_len,shL_drop,<-shL_app,<-shL_app]
def sh_ldc'(n:Option Nat)(cs:List V)(o:Nat):ldc n (shL d cs) o=(ldc n cs o).map (sh d):=by
 cases n with
 | none=>exact zpC cs o
 | some n=>
  simp only[ldc];rw[shL_len];by_cases h:o+n<=cs.length
  ·rw[if_pos h,if_pos h,shL_drop,shL_take];simp[sh]
  ·rw[if_neg h,if_neg h];rfl
def ztC{n:Option Nat}{cs:List V}{o:Nat}{r:V}(h:ldc n cs o=some r):ldc n (shL d cs) o=some (sh d r):=by rw[sh_ldc',h];rfl
def get_of{l:List V}{i:Nat}{r:V} (h:l[i]?=some r):(shL d l)[i]?=some (sh d r):=by rw[zpC,h];rfl
def zwF{op:BinOp}{k:IntKind}{a b:Int}{r:V}(h:zc4 op k a b=some r):sh d r=r:=by
 cases op<;>simp only[zc4]at h<;>first|(cases h;done)|(injection h with h;subst h;rfl)|(split at h<;>first|(cases h;done)|(injection h with h;subst h;rfl))
def zwx{op:BinOp}{a b:ByteArray}{r:V}(h:ztz op a b=some r):sh d r=r:=by
 cases op<;>simp only[ztz]at h<;>first|(cases h;done)|(injection h with h;subst h;rfl)|(split at h<;>first|(cases h;done)|(injection h with h;subst h;rfl))
def map_flt{k:FloatKind}{o:Option Nat}{r:V} (h:(o.map λn=>V.lit (.float k n))=some r):sh d r=r:=by
 cases o with
 | none=>cases h
 | some n=>injection h with h;subst h;rfl
def zwG{op:BinOp}{k:FloatKind}{a b:Nat}{r:V}(h:zul op k a b=some r):sh d r=r:=by
 cases op<;>simp only[zul]at h<;>first|(cases h;done)|exact map_flt h|(injection h with h;subst h;rfl)
def sh_bin{op:BinOp}{x y r:V}(h:bin op x y=some r):bin op (sh d x) (sh d y)=some (sh d r):=by
 have key:sh d x=x/\sh d y=y/\sh d r=r:=by
  unfold bin at h;split at h
  ·refine⟨rfl,rfl,?_⟩;split at h
   ·split at h
    ·cases h
    ·injection h with h;subst h;rfl
   ·split at h
    ·cases h
    ·injection h with h;subst h;rfl
   ·split at h
    ·exact zwF h
    ·cases h
  ·exact⟨rfl,rfl,zwx h⟩
  ·refine⟨rfl,rfl,?_⟩;split at h
   ·exact zwG h
   ·cases h
  ·cases h
 rw[key.1,key.2.1,key.2.2,h]
def sh_un{op:UnOp}{x r:V}(h:un op x=some r):un op (sh d x)=some (sh d r):=by
 unfold un at h;split at h<;>first|(cases h;done)|(injection h with h;subst h;rfl)
def sh_cint{k:IntKind}{x r:V}(h:cint k x=some r):cint k (sh d x)=some (sh d r):=by
 have key:sh d x=x/\sh d r=r:=by
  unfold cint at h;split at h
  ·injection h with h;subst h;exact⟨rfl,rfl⟩
  ·split at h
   ·split at h
    ·injection h with h;subst h;exact⟨rfl,rfl⟩
    ·cases h
   ·cases h
  ·cases h
 rw[key.1,key.2,h]
def sh_op1{o:U1}{x r:V}(h:op1 o x=some r):op1 o (sh d x)=some (sh d r):=by
 unfold op1 at h;split at h
 ·injection h with h;subst h;rfl
 ·injection h with h;subst h;rfl
 ·injection h with h;subst h;rfl
 ·split at h
  ·rename_i hc;injection h with h;subst h
   simp only[sh,op1,if_pos hc]
  ·cases h
 ·split at h
  ·rename_i hc;injection h with h;subst h
   simp only[sh,op1,if_pos hc]
  ·cases h
 ·cases h
def sh_pick{c a b r:V}(h:pick c a b=some r):pick (sh d c) (sh d a) (sh d b)=some (sh d r):=by
 unfold pick at h;split at h
 ·rename_i t;injection h with h;subst h
  cases t<;>rfl
 ·cases h
def sh_nilck{x r:V}(h:nilck x=some r):nilck (sh d x)=some (sh d r):=by
 unfold nilck at h;split at h<;>first|(cases h;done)|(injection h with h;subst h;rfl)
def sh_faddr{o:Nat}{x r:V}(h:faddr o x=some r):faddr o (sh d x)=some (sh d r):=by
 unfold faddr at h;split at h<;>first|(cases h;done)|(injection h with h;subst h;rfl)
def sh_iaddr{al:Option Nat}{e:Nat}{x i r:V}(h:iaddr al e x i=some r):iaddr al e (sh d x) (sh d i)=some (sh d r):=by
 unfold iaddr at h;split at h
 ·split at h<;>first|(cases h;done)|skip
  all_goals
   split at h
   ·rename_i hc;injection h with h;subst h
    simp only[sh,iaddr,if_pos hc]
   ·cases h
 ·cases h
def sh_index{l e:Nat}{n:Option Nat}{x i r:V}(h:index l e n x i=some r):index l e n (sh d x) (sh d i)=some (sh d r):=by
 unfold index at h;split at h
 ·split at h
  ·rename_i hc;simp only[sh,index,if_pos hc];exact ztC h
  ·cases h
 ·cases h
def zwy{x i r:V}(h:sindex x i=some r):sindex (sh d x) (sh d i)=some (sh d r):=by
 unfold sindex at h;split at h
 ·split at h
  ·rename_i hc;simp only[sh,sindex,if_pos hc];rw[h];obtain⟨b,_,rfl⟩:=yac.1 h;rfl
  ·cases h
 ·cases h
def sh_field{o:Nat}{n:Option Nat}{x r:V}(h:field o n x=some r):field o n (sh d x)=some (sh d r):=by
 unfold field at h;split at h
 ·exact ztC h
 ·cases h
def sh_ext{i:Nat}{x r:V}(h:ext i x=some r):ext i (sh d x)=some (sh d r):=by
 unfold ext at h;split at h
 ·exact get_of h
 ·cases h
def sh_slen{x r:V}(h:slen x=some r):slen (sh d x)=some (sh d r):=by
 unfold slen at h;split at h<;>first|(cases h;done)|(injection h with h;subst h;rfl)
def sh_vlen{x r:V}(h:vlen x=some r):vlen (sh d x)=some (sh d r):=by
 unfold vlen at h;split at h<;>first|(cases h;done)|(injection h with h;subst h;rfl)
def shP(d:Nm) (ps:List (Nat×Nat×V)):List (Nat×Nat×V):=ps.map λp=>(p.1,p.2.1,sh d p.2.2)
def zso:∀{ps:List (Nat×Nat×V)} {cs r:List V},fill cs ps=some r->fill (shL d cs) (shP d ps)=some (shL d r)
 | [],cs,r,h=>by injection h with h;subst h;rfl
 | (o,s,v)::ps,cs,r,h=>by
  simp only[fill]at h;show fill (shL d cs) ((o,s,sh d v)::shP d ps) = _;simp only[fill];split at h
  ·rename_i hc;rw[if_pos (by rw[zkf,shL_len,shL_len];exact⟨hc.1,hc.2.1,zwA hc.2.2⟩),zkf,zfk];exact zso h
  ·cases h
def zmo(z:List V)(n:Nat):zeros (shL d z) n=shL d (zeros z n):=by
 induction n with
 | zero=>rfl
 | succ n ih=>simp only[zeros];rw[ih,shL_app]
def zqW:∀{xs ys:List V} {b:Bool},zhS xs ys=some b->zhS (shL d xs) (shL d ys)=some b
 | [],[],b,h=>h
 | [],y::ys,b,h=>by simp[zhS]at h
 | x::xs,[],b,h=>by cases x<;>simp[zhS]at h
 | x::xs,y::ys,b,h=>by
  cases x<;>cases y<;>simp only[zhS]at h<;>first|(cases h;done)|skip
  simp only[shL,sh,zhS];split at h
  ·rename_i hk;rw[if_pos hk];cases he:zhS xs ys with
   | none=>rw[he]at h;cases h
   | some c=>rw[he]at h;rw[zqW he];exact h
  ·cases h
def zke:∀{ks:List FK} {xs ys:List V} {b:Bool},za0 ks xs ys=some b->za0 ks (shL d xs) (shL d ys)=some b
 | [],[],[],b,h=>h
 | [],[],y::ys,b,h=>by simp[za0]at h
 | [],x::xs,ys,b,h=>by cases ys<;>simp[za0]at h
 | k::ks,[],ys,b,h=>by cases k<;>cases ys<;>simp[za0]at h
 | k::ks,x::xs,[],b,h=>by cases k<;>cases x<;>simp[za0]at h
 | k::ks,x::xs,y::ys,b,h=>by
  cases k<;>cases x<;>cases y<;>simp only[za0]at h<;>first|(cases h;done)|skip
  ·simp only[shL,sh,za0];cases he:za0 ks xs ys with
   | none=>rw[he]at h;cases h
   | some c=>rw[he]at h;rw[zke he];exact h
  ·simp only[shL,sh,za0];split at h
   ·rename_i hk;rw[if_pos hk];cases he:za0 ks xs ys with
    | none=>rw[he]at h;cases h
    | some c=>rw[he]at h;rw[zke he];exact h
   ·cases h
def sh_eqv{k:EK}{x y:V}{b:Bool}(h:eqv k x y=some b):eqv k (sh d x) (sh d y)=some b:=by
 unfold eqv at h;split at h<;>first|(cases h;done)|(exact h)|skip
 ·split at h
  ·rename_i hc;simp only[sh,eqv];rw[if_pos (by rw[shL_len,shL_len];exact hc)];exact zqW h
  ·cases h
 ·exact zke h
def sh_eqr{k:EK}{neg:Bool}{x y r:V}(h:eqr k neg x y=some r):eqr k neg (sh d x) (sh d y)=some (sh d r):=by
 unfold eqr at h ⊢;cases he:eqv k x y with
 | none=>rw[he]at h;cases h
 | some b=>rw[he]at h;rw[sh_eqv he];injection h with h;subst h;rfl
def sh_vint{v:V}{n:Int}(h:vint v=some n):vint (sh d v)=some n:=by
 unfold vint at h;split at h
 ·exact h
 ·cases h
def zmO{o:Option V}{r:Option Int}(h:zcD o=some r):zcD (o.map (sh d))=some r:=by
 cases o with
 | none=>exact h
 | some v=>
  simp only[yat,zcD]at h ⊢;cases hv:vint v with
  | none=>rw[hv]at h;cases h
  | some n=>rw[hv]at h;rw[sh_vint hv];exact h
def sh_min2{mx:Bool}{x y r:V}(h:min2 mx x y=some r):min2 mx (sh d x) (sh d y)=some (sh d r):=by
 unfold min2 at h;split at h
 ·injection h with h;subst h;rfl
 ·cases h
def zqT{mx:Bool}:∀{l:List V} {v r:V},minmax mx v l=some r->minmax mx (sh d v) (shL d l)=some (sh d r)
 | [],v,r,h=>by injection h with h;subst h;rfl
 | x::xs,v,r,h=>by
  simp only[shL,minmax]at h ⊢;cases hm:min2 mx v x with
  | none=>rw[hm]at h;cases h
  | some w=>rw[hm]at h;rw[sh_min2 hm];exact zqT h
def sh_build{z:List V} {ps:List (Nat×Nat×V)} {r:V} (h:build z ps=some r):build (shL d z) (shP d ps)=some (sh d r):=by
 unfold build at h ⊢;cases hf:fill z ps with
 | none=>rw[hf]at h;cases h
 | some cs=>rw[hf]at h;rw[zso hf];injection h with h;subst h;rfl
def zwu{ck:CK}{e:Nat}{x:V}{lo hi mx:Option V}{r:V}(h:zat ck e x lo hi mx=some r):zat ck e (sh d x) (lo.map (sh d)) (hi.map (sh d)) (mx.map (sh d))=some (sh d r):=by
 unfold zat at h ⊢;cases h1:zcD lo with
 | none=>rw[h1]at h;cases h
 | some lo'=>
 cases h2:zcD hi with
 | none=>rw[h1,h2]at h;cases h
 | some hi'=>
 cases h3:zcD mx with
 | none=>rw[h1,h2,h3]at h;cases h
 | some mx'=>
 rw[zmO h1,zmO h2,zmO h3];rw[h1,h2,h3]at h;simp only[Option.bind_some]at h ⊢;split at h
 ·cases h
 rename_i hm;rw[if_neg hm];split at h<;>first|(cases h;done)|skip
 all_goals simp only[sh]
 ·split at h
  ·rename_i hc;injection h with h;subst h
   rw[if_pos hc];rfl
  ·cases h
 ·split at h
  ·rename_i hc;injection h with h;subst h
   rw[if_pos hc];rfl
  ·cases h
 ·split at h
  ·rename_i hc;injection h with h;subst h
   rw[if_pos hc,shL_drop];rfl
  ·cases h
 ·split at h
  ·rename_i hc;injection h with h;subst h
   rw[if_pos hc];rfl
  ·cases h
 ·cases mx' with
  | none=>
   simp only at h ⊢;split at h
   ·rename_i hc;injection h with h;subst h
    rw[if_pos hc];rfl
   ·cases h
  | some m=>
   simp only at h ⊢;split at h
   ·rename_i hc;injection h with h;subst h
    rw[if_pos hc];rfl
   ·cases h
 ·split at h
  ·rename_i hc;injection h with h;subst h
   rw[if_pos hc];rfl
  ·cases h
def zwE{mk:MK}{a b:V}{r:Bool}(h:keq mk a b=some r):keq mk (sh d a) (sh d b)=some r:=by
 unfold keq at h;split at h
 ·exact h
 ·exact zke h
 ·cases h
def sh_kok{mk:MK}{a:V}(h:kok mk a=true):kok mk (sh d a)=true:=by
 unfold kok at h;split at h
 ·rfl
 ·simp only[sh,kok,shL_len];exact h
 ·cases h
def zwC{mk:MK}{k:V}:∀{l:List V} {r:Option V},mget mk k l=some r->mget mk (sh d k) (shL d l)=some (r.map (sh d))
 | [],r,h=>by injection h with h;subst h;rfl
 | [x],r,h=>by cases h
 | k'::v'::l,r,h=>by
  simp only[shL,mget]at h ⊢;cases hk:keq mk k k' with
  | none=>rw[hk]at h;cases h
  | some b=>
   rw[hk]at h;rw[zwE hk];cases b with
   | true=>injection h with h;subst h;rfl
   | false=>exact zwC h
def zwB{mk:MK}{k v:V}:∀{l r:List V},mset mk k v l=some r->mset mk (sh d k) (sh d v) (shL d l)=some (shL d r)
 | [],r,h=>by injection h with h;subst h;rfl
 | [x],r,h=>by cases h
 | k'::v'::l,r,h=>by
  simp only[shL,mset]at h ⊢;cases hk:keq mk k k' with
  | none=>rw[hk]at h;cases h
  | some b=>
   rw[hk]at h;rw[zwE hk];cases b with
   | true=>injection h with h;subst h;rfl
   | false=>
    simp only[Option.bind_some,yaO,if_false]at h ⊢;cases hm:mset mk k v l with
    | none=>rw[hm]at h;cases h
    | some r'=>rw[hm]at h;rw[zwB hm];injection h with h;subst h;rfl
def zqU{mk:MK}{k:V}:∀{l:List V},znk mk k l=true->znk mk (sh d k) (shL d l)=true
 | [],_=>rfl
 | [x],h=>by cases h
 | k'::v'::r,h=>by
  simp only[shL,znk,yam]at h ⊢;refine⟨?_,zqU h.2⟩;have h1:=h.1;cases hk:keq mk k' k with
  | none=>rw[hk]at h1;cases h1
  | some b=>rw[hk]at h1;rw[zwE hk];exact h1
def sh_mkeep{p:Bool}{n:Int}{k:V}{r:Bool}(h:zsR p n k=some r):zsR p n (sh d k)=some r:=by
 unfold zsR at h;split at h
 ·exact h
 ·exact h
 ·cases h
def zwD{p:Bool}{n:Int}:∀{l r:List V},mfil p n l=some r->mfil p n (shL d l)=some (shL d r)
 | [],r,h=>by injection h with h;subst h;rfl
 | [x],r,h=>by cases h
 | k::v::l,r,h=>by
  simp only[shL,mfil]at h ⊢;split at h
  ·rename_i hm;rw[if_pos (zqU hm)];cases hk:zsR p n k with
   | none=>rw[hk]at h;cases h
   | some b=>
    rw[hk]at h;rw[sh_mkeep hk];simp only[Option.bind_some]at h ⊢;cases hf:mfil p n l with
    | none=>rw[hf]at h;cases h
    | some r'=>
     rw[hf]at h;rw[zwD hf];injection h with h
     subst h;cases b<;>rfl
  ·cases h
def zqS:∀{l:List V} {r:List UInt8},zgC l=some r->zgC (shL d l)=some r
 | [],r,h=>h
 | x::xs,r,h=>by
  unfold zgC at h;split at h
  ·cases h;rename_i e;cases e
  ·rename_i n xs' e;injection e with e1 e2
   subst e1 e2;simp only[shL,sh,zgC];cases hv:zgC xs with
   | none=>rw[hv]at h;cases h
   | some l=>rw[hv]at h;rw[zqS hv];exact h
  ·cases h
def zmN(s:ByteArray):shL d (strCells s)=strCells s:=by
 unfold strCells;rw[shL_map,ycC];rfl
end
mutual
theorem zpx{d:Nm}:∀v:V,v.still=true->sh d v=v
 | .ptr _ _,h=>by cases h
 | .mp _,h=>by cases h
 | .sl _ _ _ _,h=>by cases h
 | .rs cells _,h=>by simp only[V.still]at h;simp only[sh,zc1 cells h]
 | .rp cells _,h=>by simp only[V.still]at h;simp only[sh,zc1 cells h]
 | .fn _ caps,h=>by simp only[V.still]at h;simp only[sh,zc1 caps h]
 | .agg cells,h=>by simp only[V.still]at h;simp only[sh,zc1 cells h]
 | .tup vs,h=>by simp only[V.still]at h;simp only[sh,zc1 vs h]
 | .bool _,_=>rfl
 | .int _ _,_=>rfl
 | .str _,_=>rfl
 | .nilp,_=>rfl
 | .nils,_=>rfl
 | .lit x,h=>by
  show sy d x = .lit x;unfold sy;split
  ·cases h
  ·cases h
  ·rfl
 | .any,_=>rfl
theorem zc1{d:Nm}:∀l:List V,V.stills l=true->shL d l=l
 | [],_=>rfl
 | x::xs,h=>by
  simp only[V.stills,yam]at h;simp only[shL,zpx x h.1,zc1 xs h.2]
end
def shB(d:Nm)(b:Blk):Blk:=⟨b.ty,shL d b.cells,b.opn⟩
def shB_c(d:Nm)(b:Blk):(shB d b).cells=shL d b.cells:=rfl
def Emd(d:Nm)(h K:Heap):Prop:=∀i b,h.get i=some b->K.get (d.f i)=some (shB d b)
inductive Stp (d:Nm) (h K:Heap):Heap->Heap->Prop where
 | same:Stp d h K h K
 | set {id:Nat} {b:Blk} (o:Option Blk) (hb:h.get id=some b):Stp d h K (h.set id o) (K.set (d.f id) (o.map (shB d)))
 | new (b:Blk):Stp d h K (h.new b) (K.new (shB d b))
 | snew {id:Nat} {b:Blk} (c:Blk) (hb:h.get id=some b):Stp d h K ((h.set id none).new c) ((K.set (d.f id) none).new (shB d c))
def OpR(d:Nm)(x y:M V):Prop:=∀h K a h',Emd d h K->x h=some (a,h')->(h'.next=h.next\/d.f h.next=K.next)->∃K',y K=some (sh d a,K')/\Stp d h K h' K'
section
variable {d:Nm}
def Stp.seti{h K:Heap}{id:Nat}{b:Blk}(hb:h.get id=some b){cs cs':List V}(e:cs'=shL d cs):Stp d h K (h.set id (some ⟨b.ty,cs,b.opn⟩)) (K.set (d.f id) (some ⟨b.ty,cs',b.opn⟩)):=by
 subst e;exact Stp.set (some ⟨b.ty,cs,b.opn⟩) hb
def Stp.newi{h K:Heap}{ty:TypeId}{o:Option Nat}{cs cs':List V}(e:cs'=shL d cs):Stp d h K (h.new ⟨ty,cs,o⟩) (K.new ⟨ty,cs',o⟩):=by
 subst e;exact Stp.new ⟨ty,cs,o⟩
def gb{α β:Type}{o:Option α}{k:α->Option β}{r:β}(h:o.bind k=some r):∃b,o=some b/\k b=some r:=by
 cases o with
 | none=>cases h
 | some b=>exact⟨b,rfl,h⟩
def gm{α β:Type}{o:Option α}{k:α->β}{r:β}(h:o.map k=some r):∃b,o=some b/\k b=r:=by
 cases o with
 | none=>cases h
 | some b=>injection h with h;exact⟨b,rfl,h⟩
def nn{h:Heap}{b:Blk}{P:Prop} (hn:(h.new b).next=h.next\/P):P:=hn.resolve_left (by rw[zae];omega)
def nn'{h:Heap}{i:Nat}{o:Option Blk}{b:Blk}{P:Prop} (hn:((h.set i o).new b).next=h.next\/P):P:=hn.resolve_left (by rw[zae,zam];omega)
def zd5{o o':Option V} (hl:∀r,o=some r->o'=some (sh d r)):OpR d (M.lift o) (M.lift o'):=by
 intro h K a h' hE hx hn;cases o with
 | none=>cases hx
 | some r=>cases hx;rw[hl _ rfl];exact⟨K,rfl,.same⟩
def zwU(n:Option Nat)(p:V):OpR d (mload n p) (mload n (sh d p)):=by
 intro h K a h' hE hx hn;cases p<;>try (cases hx;done)
 ·rename_i id off;simp only[mload,sh]at hx ⊢;obtain⟨b,hb,hx⟩:=gb hx;obtain⟨v,hv,hx⟩:=gm hx;cases hx;rw[hE _ _ hb,Option.bind_some,shB_c,ztC hv];exact⟨K,rfl,.same⟩
 ·rename_i cells off;simp only[mload,sh]at hx ⊢;obtain⟨v,hv,hx⟩:=gm hx;cases hx;rw[ztC hv];exact⟨K,rfl,.same⟩
def r_store(n:Nat)(p x:V):OpR d (mstore n p x) (mstore n (sh d p) (sh d x)):=by
 intro h K a h' hE hx hn;cases p<;>try (cases hx;done)
 rename_i id off;simp only[mstore,sh]at hx ⊢;obtain⟨b,hb,hx⟩:=gb hx;rw[hE _ _ hb,Option.bind_some];split at hx
 ·rename_i hc;cases hx;rw[if_pos ⟨by rw[zkf,shL_len];exact hc.1,by rw[shB_c,shL_len];exact hc.2.1,zwA hc.2.2⟩];exact⟨_,rfl,Stp.seti hb (by rw[shB_c,zkf,zfk])⟩
 ·cases hx
def r_box(ty:TypeId)(x:V):OpR d (mbox ty x) (mbox ty (sh d x)):=by
 intro h K a h' hE hx hn;unfold mbox at hx ⊢;split at hx
 ·rename_i hc;cases hx;have e:=nn hn;rw[if_pos (zwA hc)];simp only[sh];rw[e];exact⟨_,rfl,Stp.newi (zkf x)⟩
 ·cases hx
def r_slit(ty:TypeId)(l:Nat)(z:List V) (ps:List (Nat×Nat×V)):OpR d (mslit ty l z ps) (mslit ty l (shL d z) (shP d ps)):=by
 intro h K a h' hE hx hn;unfold mslit at hx ⊢;obtain⟨cs,hf,hx⟩:=gm hx;cases hx;have e:=nn hn;rw[zmo,zso hf];simp only[sh];rw[e];exact⟨_,rfl,Stp.newi rfl⟩
def znM{e:Nat}{h K:Heap}{v:V}{q:List V×Nat}(hE:Emd d h K)(hx:rcells e h v=some q):rcells e K (sh d v)=some (shL d q.1,q.2):=by
 cases v<;>try (cases hx;done)
 ·cases hx;rfl
 ·rename_i id off len cap;simp only[rcells,sh]at hx ⊢;obtain⟨b,hb,hx⟩:=gb hx;rw[hE _ _ hb,Option.bind_some,shB_c,shL_len];split at hx
  ·rename_i hc;cases hx;rw[if_pos hc,shL_drop,shL_take]
  ·cases hx
 ·simp only[rcells,sh]at hx ⊢;rw[shL_len];split at hx
  ·rename_i hc;cases hx;rw[if_pos hc,shL_take]
  ·cases hx
def zrV{e:Nat}{h K:Heap}{v:V}{q:List V×Nat}(hE:Emd d h K)(hx:acells e h v=some q):acells e K (sh d v)=some (shL d q.1,q.2):=by
 cases v with
 | str s=>
  simp only[acells,sh]at hx ⊢;split at hx
  ·rename_i hc;cases hx;rw[if_pos hc,zmN]
  ·cases hx
 | nils=>cases hx;rfl
 | sl id off len cap=>exact znM (v:=.sl id off len cap) hE hx
 | rs cells len=>exact znM (v:=.rs cells len) hE hx
 | _=>cases hx
def zrb(ty e b:Nat)(q:List V×Nat)(x:V):OpR d (mappendq ty e b q x) (mappendq ty e b (shL d q.1,q.2) (sh d x)):=by
 intro h K a h' hE hx hn;cases x<;>try (cases hx;done)
 ·simp only[mappendq,sh]at hx ⊢;split at hx
  ·rename_i hc;cases hx;rw[if_pos hc];exact⟨K,rfl,.same⟩
  ·rename_i hc;rw[if_neg hc];split at hx
   ·rename_i hc;cases hx;have e:=nn hn;rw[if_pos hc];simp only[sh];rw[e];exact⟨_,rfl,Stp.newi rfl⟩
   ·cases hx
 ·rename_i id off len cap;simp only[mappendq,sh]at hx ⊢;obtain⟨bb,hb,hx⟩:=gb hx;rw[hE _ _ hb,Option.bind_some];have el:(shB d bb).cells.length=bb.cells.length:=by rw[shB_c,shL_len]
  rw[el];split at hx
  case isFalse=>cases hx
  rename_i hc;rw[if_pos (show _/\(shB d bb).ty=ty from hc)];cases cap with
  | fix c=>
   dsimp only at hx ⊢;split at hx
   ·rename_i h1;rw[if_pos h1];split at hx
    ·rename_i h2;cases hx;rw[if_pos h2];exact⟨_,rfl,Stp.seti hb (by rw[shB_c,zfk])⟩
    ·cases hx
   ·rename_i h1;rw[if_neg h1];split at hx
    ·rename_i h2;cases hx;have e:=nn hn;rw[if_pos h2];simp only[sh];rw[e];exact⟨_,rfl,Stp.newi (by rw[shB_c,shL_drop,shL_take,<-shL_app])⟩
    ·cases hx
  | opn ee=>
   dsimp only at hx ⊢;have eo:(shB d bb).opn=bb.opn:=rfl;rw[eo];split at hx
   ·rename_i h1;rw[if_pos h1];split at hx
    ·rename_i h2;cases hx;rw[if_pos h2];exact⟨K,rfl,.same⟩
    ·rename_i h2;rw[if_neg h2];split at hx
     ·rename_i h3;cases hx;have e:=nn' hn;rw[if_pos h3];simp only[sh];rw[e,shB_c,shL_drop,<-shL_app];exact⟨_,rfl,Stp.snew ⟨ty,bb.cells.drop off++q.1,some _⟩ hb⟩
     ·cases hx
   ·rename_i h1;rw[if_neg h1];split at hx
    ·rename_i h2;cases hx;rw[if_pos h2];exact⟨K,rfl,.same⟩
    ·rename_i h2;rw[if_neg h2];split at hx
     ·rename_i h3;cases hx;rw[if_pos h3];exact⟨_,rfl,Stp.seti hb (by rw[shB_c,zfk])⟩
     ·cases hx
 ·simp only[mappendq,sh]at hx ⊢;split at hx
  ·rename_i hc;cases hx;rw[if_pos hc];exact⟨K,rfl,.same⟩
  ·cases hx
def r_append(ty e b:Nat)(x y:V):OpR d (mappend ty e b x y) (mappend ty e b (sh d x) (sh d y)):=by
 intro h K a h' hE hx hn;unfold mappend at hx ⊢;obtain⟨q,hq,hx⟩:=gb hx;rw[zrV hE hq,Option.bind_some];exact zrb ty e b q x h K a h' hE hx hn
def zwV(ty b:Nat)(z:List V)(x y:V):OpR d (mappendz ty b z x y) (mappendz ty b (shL d z) (sh d x) (sh d y)):=by
 intro h K a h' hE hx hn;cases y<;>try (cases hx;done)
 simp only[mappendz,sh]at hx ⊢;split at hx
 ·rename_i hc;rw[if_pos hc,shL_len,zmo];exact zrb _ _ _ _ _ h K a h' hE hx hn
 ·cases hx
def r_copy(e:Nat)(x y:V):OpR d (mcopy e x y) (mcopy e (sh d x) (sh d y)):=by
 intro h K a h' hE hx hn;unfold mcopy at hx ⊢;obtain⟨q,hq,hx⟩:=gb hx;rw[zrV hE hq,Option.bind_some];cases x<;>try (cases hx;done)
 ·cases hx;exact⟨K,rfl,.same⟩
 ·rename_i id off len cap;simp only[sh]at hx ⊢;obtain⟨b,hb,hx⟩:=gb hx;rw[hE _ _ hb,Option.bind_some];split at hx
  ·rename_i hc;cases hx;rw[if_pos (by rw[shB_c,shL_len];exact hc)];exact⟨_,rfl,Stp.seti hb (by rw[shB_c,shL_take,zfk])⟩
  ·cases hx
def r_tostr(x:V):OpR d (mtostr x) (mtostr (sh d x)):=by
 intro h K a h' hE hx hn;unfold mtostr at hx ⊢;obtain⟨q,hq,hx⟩:=gb hx;obtain⟨l,hl,hx⟩:=gm hx;cases hx;rw[znM hE hq,Option.bind_some,zqS hl];exact⟨K,rfl,.same⟩
def zra(ty:TypeId)(x:V):OpR d (mtobytes ty x) (mtobytes ty (sh d x)):=by
 intro h K a h' hE hx hn;cases x<;>try (cases hx;done)
 simp only[mtobytes,sh]at hx ⊢;split at hx
 ·rename_i hc;cases hx;have e:=nn hn;rw[if_pos hc];simp only[sh];rw[e];exact⟨_,rfl,Stp.newi (zmN _).symm⟩
 ·cases hx
def r_remark(ty:TypeId)(x:V):OpR d (mremark ty x) (mremark ty (sh d x)):=by
 intro h K a h' hE hx hn;cases x<;>try (cases hx;done)
 ·exact zra ty (.str _) h K a h' hE hx hn
 ·simp only[mremark,sh]at hx ⊢;obtain⟨b,hb,hx⟩:=gb hx;rw[hE _ _ hb,Option.bind_some];split at hx
  ·cases hx
  ·rename_i hc;cases hx;rw[if_neg hc];exact⟨K,rfl,.same⟩
def zwS(ty b:Nat)(z:List V)(l c:V):OpR d (mmkslice ty b z l c) (mmkslice ty b (shL d z) (sh d l) (sh d c)):=by
 intro h K a h' hE hx hn;unfold mmkslice at hx;split at hx
 ·rename_i l c;split at hx
  ·rename_i hc;cases hx;have e:=nn hn;simp only[mmkslice,sh];rw[if_pos hc,e];exact⟨_,rfl,Stp.newi (zmo _ _)⟩
  ·cases hx
 ·cases hx
def r_mknz(ty:TypeId)(x:V):OpR d (mmknz ty x) (mmknz ty (sh d x)):=by
 intro h K a h' hE hx hn;unfold mmknz at hx;split at hx
 ·rename_i n;split at hx
  ·rename_i hc;cases hx;have e:=nn hn;simp only[mmknz,sh];rw[if_pos hc,e];refine⟨_,rfl,Stp.newi ?_⟩;rw[shL_map,ycB];rfl
  ·cases hx
 ·cases hx
def r_slice2(e:Nat)(x lo hi:V):OpR d (mslice2 e x lo hi) (mslice2 e (sh d x) (sh d lo) (sh d hi)):=by
 intro h K a h' hE hx hn;unfold mslice2 at hx;split at hx
 ·obtain⟨b,hb,hx⟩:=gb hx;split at hx
  ·rename_i hc;cases hx;simp only[mslice2,sh];rw[hE _ _ hb,Option.bind_some,if_pos ⟨hc.1,hc.2.1,hc.2.2.1,hc.2.2.2.1,by rw[shB_c,shL_len];exact hc.2.2.2.2⟩];exact⟨K,rfl,.same⟩
  ·cases hx
 ·cases hx
def r_clear(z:List V)(x:V):OpR d (mclear z x) (mclear (shL d z) (sh d x)):=by
 intro h K a h' hE hx hn;cases x<;>try (cases hx;done)
 rename_i id off len cap;simp only[mclear,sh]at hx ⊢;split at hx
 ·rename_i hc;cases hx;rw[if_pos hc];exact⟨K,rfl,.same⟩
 ·rename_i hc;rw[if_neg hc];obtain⟨b,hb,hx⟩:=gb hx;rw[hE _ _ hb,Option.bind_some];split at hx
  ·rename_i hc;cases hx;rw[if_pos (by rw[shB_c,shL_len,shL_len];exact hc)];exact⟨_,rfl,Stp.seti hb (by rw[shB_c,zmo,zfk])⟩
  ·cases hx
def r_mkmap(ty:TypeId):OpR d (mmkmap ty) (mmkmap ty):=by
 intro h K a h' hE hx hn;cases hx;have e:=nn hn;simp only[mmkmap,sh];rw[e];exact⟨_,rfl,Stp.newi rfl⟩
def r_lookup(mk:MK)(z:V)(ok:Bool)(x k:V):OpR d (mlookup mk z ok x k) (mlookup mk (sh d z) ok (sh d x) (sh d k)):=by
 intro h K a h' hE hx hn;cases x<;>try (cases hx;done)
 simp only[mlookup,sh]at hx ⊢;obtain⟨b,hb,hx⟩:=gb hx;rw[hE _ _ hb,Option.bind_some];split at hx
 ·rename_i hc;rw[if_pos (sh_kok hc)];obtain⟨r,hr,hx⟩:=gm hx;cases hx;rw[shB_c,zwC hr];refine⟨K,?_,.same⟩;cases r<;>cases ok<;>rfl
 ·cases hx
def r_mapset(mk:MK)(x k v:V):OpR d (mmapset mk x k v) (mmapset mk (sh d x) (sh d k) (sh d v)):=by
 intro h K a h' hE hx hn;cases x<;>try (cases hx;done)
 simp only[mmapset,sh]at hx ⊢;obtain⟨b,hb,hx⟩:=gb hx;rw[hE _ _ hb,Option.bind_some];split at hx
 ·rename_i hc;rw[if_pos (sh_kok hc)];obtain⟨cs,hr,hx⟩:=gm hx;cases hx;rw[shB_c,zwB hr];exact⟨_,rfl,Stp.seti hb rfl⟩
 ·cases hx
def r_maplen(x:V):OpR d (mmaplen x) (mmaplen (sh d x)):=by
 intro h K a h' hE hx hn;cases x<;>try (cases hx;done)
 simp only[mmaplen,sh]at hx ⊢;obtain⟨b,hb,hx⟩:=gm hx;cases hx;rw[hE _ _ hb,yat,shB_c,shL_len];exact⟨K,rfl,.same⟩
def r_aload(k:IntKind)(p:V):OpR d (matoload k p) (matoload k (sh d p)):=by
 intro h K a h' hE hx hn;unfold matoload at hx ⊢;obtain⟨⟨v,h1⟩,hl,hx⟩:=gb hx;have e1:h1=h:=by
  cases p<;>try (cases hl;done)
  ·obtain⟨b,hb,hl⟩:=gb hl;obtain⟨u,hu,hl⟩:=gm hl;cases hl;rfl
  ·obtain⟨u,hu,hl⟩:=gm hl;cases hl;rfl
 subst e1;obtain⟨K1,e2,s⟩:=zwU none p h1 K v h1 hE hl (.inl rfl);have e3:K1=K:=by
  cases p<;>try (cases hl;done)
  ·obtain⟨b,hb,e2⟩:=gb e2;obtain⟨u,hu,e2⟩:=gm e2;cases e2;rfl
  ·obtain⟨u,hu,e2⟩:=gm e2;cases e2;rfl
 subst e3;rw[e2];simp only[Option.bind_some]at hx ⊢;cases v<;>try (cases hx;done)
 simp only[sh]at hx ⊢;split at hx
 ·rename_i hc;cases hx;rw[if_pos hc];exact⟨K1,rfl,.same⟩
 ·cases hx
def r_aadd(k:IntKind)(p y:V):OpR d (matoadd k p y) (matoadd k (sh d p) (sh d y)):=by
 intro h K a h' hE hx hn;unfold matoadd at hx;split at hx
 ·rename_i id off k2 j;obtain⟨b,hb,hx⟩:=gb hx;simp only[matoadd,sh];rw[hE _ _ hb,Option.bind_some,shB_c];split at hx
  ·rename_i k' n hc;rw[get_of hc];simp only[sh];split at hx
   ·rename_i hk;cases hx;rw[if_pos hk];refine⟨_,rfl,Stp.seti hb ?_⟩;exact zfk b.cells off [.int k (k.wrap (n+j))]
   ·cases hx
  ·cases hx
 ·cases hx
def zwT(p:Bool)(o:Nat)(x n:V):OpR d (mmapdrop p o x n) (mmapdrop p o (sh d x) (sh d n)):=by
 intro h K a h' hE hx hn;unfold mmapdrop at hx;split at hx
 ·rename_i id off n;obtain⟨b0,hb0,hx⟩:=gb hx;simp only[mmapdrop,sh];rw[hE _ _ hb0,Option.bind_some,shB_c];split at hx
  ·rename_i i hi;rw[get_of hi];simp only[sh];obtain⟨b,hb,hx⟩:=gb hx;obtain⟨cs,hcs,hx⟩:=gm hx;cases hx;rw[hE _ _ hb,Option.bind_some,shB_c,zwD hcs];exact⟨_,rfl,Stp.seti hb rfl⟩
  ·cases hx
 ·cases hx
end
section
variable {d:Nm} {h K h' K':Heap}
def Stp.nx(t:Stp d h K h' K'):(h'.next=h.next/\K'.next=K.next)\/(h'.next=h.next+1/\K'.next=K.next+1):=by
 cases t with
 | same=>exact .inl ⟨rfl,rfl⟩
 | set o hb=>exact .inl ⟨rfl,rfl⟩
 | new b=>exact .inr ⟨zae _ _,zae _ _⟩
 | snew c hb=>exact .inr ⟨zae _ _,zae _ _⟩
def zmp{H:Heap}{id j:Nat}{o:Option Blk}{b:Blk} (hj:(H.set id o).get j=some b):(j=id/\o=some b)\/(j≠id/\H.get j=some b):=by
 by_cases e:j=id
 ·subst e;rw[zai]at hj;exact .inl ⟨rfl,hj⟩
 ·rw[zaj _ _ e]at hj;exact .inr ⟨e,hj⟩
def zmt{H:Heap}{j:Nat}{c b:Blk} (hj:(H.new c).get j=some b):(j=H.next/\c=b)\/(j≠H.next/\H.get j=some b):=by
 by_cases e:j=H.next
 ·subst e;rw[zaf]at hj;injection hj with hj;exact .inl ⟨rfl,hj⟩
 ·rw[zas _ _ e]at hj;exact .inr ⟨e,hj⟩
def Stp.kn (t : Stp d h K h' K') : ∀ j b, h'.get j = some b -> (∃ b', h.get j = some b') \/ (j = h.next /\ h'.next = h.next + 1):= by
  intro j b hj
  cases t with
  | same=> exact .inl ⟨b, hj⟩
  | set o hb=> rcases zmp hj with ⟨rfl, _⟩ | ⟨_, e⟩ <;> exact .inl ⟨_, by assumption⟩
  | new c => rcases zmt hj with ⟨rfl, _⟩ | ⟨_, e⟩
             · exact .inr ⟨rfl, zae _ _⟩
             · exact .inl ⟨_, e⟩
  | snew c hb => rcases zmt hj with ⟨rfl, _⟩ | ⟨_, e⟩
                 · exact .inr ⟨rfl, zae _ _⟩
                 · rcases zmp e with ⟨rfl, _⟩ | ⟨_, e⟩ <;> exact .inl ⟨_, by assumption⟩
def Stp.fr(t:Stp d h K h' K'):∀i,i<K.next->(∀j b,h.get j=some b->d.f j≠i)->K'.get i=K.get i:=by
 intro i hi hf;cases t with
 | same=>rfl
 | set o hb=>exact zaj _ _ λe=>hf _ _ hb e.symm
 | new c=>exact zas _ _ (by omega)
 | snew c hb=>
  rw[zas _ _ (by rw[zam];omega)];exact zaj _ _ λe=>hf _ _ hb e.symm
def Stp.emd(t:Stp d h K h' K')(hE:Emd d h K)(inj:∀i j b b',h.get i=some b->h.get j=some b'->d.f i=d.f j->i=j)(lt:∀i b,h.get i=some b->i<h.next/\d.f i<K.next)(hn:h'.next=h.next\/d.f h.next=K.next):Emd d h' K':=by
 intro i b hi;cases t with
 | same=>exact hE i b hi
 | set o hb=>
  rcases zmp hi with⟨rfl,rfl⟩|⟨e,hi⟩
  ·rw[zai];rfl
  ·rw[zaj _ _ λk=>e (inj _ _ _ _ hi hb k)];exact hE i b hi
 | new c=>
  have en:=nn hn;rcases zmt hi with⟨rfl,rfl⟩|⟨e,hi⟩
  ·rw[en,zaf]
  ·rw[zas _ _ (by have:=(lt _ _ hi).2;omega)];exact hE i b hi
 | @snew id b1 c hb=>
  have en:=nn' hn;rcases zmt hi with⟨rfl,rfl⟩|⟨e,hi⟩
  ·have:d.f (h.set id none).next=(K.set (d.f id) none).next:=en;rw[this,zaf]
  ·rcases zmp hi with⟨rfl,e1⟩|⟨e,hi⟩
   ·cases e1
   ·rw[zas _ _ (by have:=(lt _ _ hi).2;rw[zam];omega),zaj _ _ λk=>e (inj _ _ _ _ hi hb k)];exact hE i b hi
def Stp.cl(t:Stp d h K h' K')(hc:K.Cl)(lt:∀i b,h.get i=some b->d.f i<K.next):K'.Cl:=by
 cases t with
 | same=>exact hc
 | set o hb=>exact zcE hc (lt _ _ hb) _
 | new c=>exact zd7 hc _
 | snew c hb=>exact zd7 (zcE hc (lt _ _ hb) _) _
def Stp.dr(t:Stp d h K h' K')(lt:∀i b,h.get i=some b->i<h.next/\d.f i<K.next){i:Nat}{b:Blk}(hi:h.get i=some b)(hi':h'.get i=none):K'.get (d.f i)=none:=by
 cases t with
 | same=>rw[hi]at hi';cases hi'
 | set o hb=>
  by_cases e:i = ‹Nat›
  ·subst e;rw[zai]at hi' ⊢;rw[hi'];rfl
  ·rw[zaj _ _ e,hi]at hi';cases hi'
 | new c=>rw[zas _ _ (by have:=(lt _ _ hi).1;omega),hi]at hi';cases hi'
 | snew c hb=>
  rw[zas _ _ (by have:=(lt _ _ hi).1;rw[zam];omega)]at hi';rw[zas _ _ (by have:=(lt _ _ hi).2;rw[zam];omega)];by_cases e:i = ‹Nat›
  ·subst e;exact zai _ _ _
  ·rw[zaj _ _ e,hi]at hi';cases hi'
end
structure Sg where
 e:Nm
 nf:Nat->Prop
 nw:Nat->Prop
def Ag(g:Sg)(d:Nm):Prop:=d.s=g.e.s/\(∀i,g.nf i->d.f i=g.e.f i)/\∀i,g.nw i->d.w i=g.e.w i
def Ag.self(g:Sg):Ag g g.e:=⟨rfl,λ_ _=>rfl,λ_ _=>rfl⟩
structure Tb where
 R:Nat
 B:Nat
 rb:R<=B
 s:Nat->Nat
 t:Nat->Nat
 Pf:Nat->Nat->Heap->Nat->Prop
 Pw:Nat->Nat->Heap->V->Prop
structure Sf (g:Sg) (h K:Heap) (lo:Nat) (Hc:Heap):Prop where
 le:Hc.next<=K.next
 sm:∀i,lo<=i->i<Hc.next->K.get i=Hc.get i
 ap:∀i,lo<=i->i<Hc.next->∀j b,h.get j=some b->g.e.f j≠i
structure St (tb:Tb) (g:Sg) (h K:Heap):Prop where
 s:g.e.s=tb.s
 kn:∀i b,h.get i=some b->g.nf i/\tb.R<=i
 nb:∀i,g.nf i->i<h.next
 nwb:∀i,g.nw i->i<tb.R
 lo:tb.R<=h.next
 inj:∀i j,g.nf i->g.nf j->g.e.f i=g.e.f j->i=j
 lt:∀i,g.nf i->g.e.f i<K.next
 em:∀d,Ag g d->Emd d h K
 dr:∀i,g.nf i->tb.R<=i->h.get i=none->K.get (g.e.f i)=none
 cl:K.Cl
 seq:∀i,tb.B<=i->g.nf i->g.nf (i+1)->g.e.f (i+1)=g.e.f i+1
 top:∀i,tb.B<=i->g.nf i->i+1=h.next->K.next=g.e.f i+1
 mono:∀i j,tb.B<=i->i<j->g.nf i->g.nf j->g.e.f i<g.e.f j
 mf:∀m,m<tb.R->g.nf m->tb.t m<h.next/\∃lo Hc,tb.Pf m lo Hc (g.e.f m)/\Sf g h K lo Hc/\∀i,tb.R<=i->i<tb.t m->g.nf i->g.e.f i<lo
 mw:∀m,g.nw m->tb.t m<h.next/\∃lo Hc,tb.Pw m lo Hc (g.e.w m)/\Sf g h K lo Hc
structure Ex (n:Nat) (g g':Sg):Prop where
 s:g'.e.s=g.e.s
 f:∀i,g.nf i->g'.nf i/\g'.e.f i=g.e.f i
 w:∀i,g.nw i->g'.nw i/\g'.e.w i=g.e.w i
 new:∀i,g'.nf i->¬g.nf i->n<=g'.e.f i
def Ex.refl(n:Nat)(g:Sg):Ex n g g:=⟨rfl,λ_ h=>⟨h,rfl⟩,λ_ h=>⟨h,rfl⟩,λ_ h k=>absurd h k⟩
def Ag.mono{n:Nat}{g g':Sg}{d:Nm}(x:Ex n g g')(a:Ag g' d):Ag g d:=
 ⟨a.1.trans x.s,λi hi=>(a.2.1 i (x.f i hi).1).trans (x.f i hi).2,λi hi=>(a.2.2 i (x.w i hi).1).trans (x.w i hi).2⟩
structure Frm (g:Sg) (h K:Heap) (g':Sg) (h' K':Heap):Prop where
 ex:Ex K.next g g'
 le:K.next<=K'.next
 hle:h.next<=h'.next
 fr:∀i,i<K.next->(∀j b,h.get j=some b->g.e.f j≠i)->K'.get i=K.get i
 kn:∀j b,h'.get j=some b->(∃b',h.get j=some b')\/K.next<=g'.e.f j
def Frm.refl(g:Sg)(h K:Heap):Frm g h K g h K:=⟨Ex.refl _ _,yag _,yag _,λ_ _ _=>rfl,λj b hj=>.inl ⟨b,hj⟩⟩
def Frm.trans{tb:Tb}{g g1 g2:Sg}{h h1 h2 K K1 K2:Heap}(s:St tb g h K)(s1:St tb g1 h1 K1)(a:Frm g h K g1 h1 K1)(b:Frm g1 h1 K1 g2 h2 K2):Frm g h K g2 h2 K2:=by
 refine⟨⟨b.ex.s.trans a.ex.s,λi hi=>?_,λi hi=>?_,λi hi hn=>?_⟩,yax a.le b.le,yax a.hle b.hle,λi hi hf=>?_,λj c hj=>?_⟩
 ·have h1:=a.ex.f i hi;have h2:=b.ex.f i h1.1;exact⟨h2.1,h2.2.trans h1.2⟩
 ·have h1:=a.ex.w i hi;have h2:=b.ex.w i h1.1;exact⟨h2.1,h2.2.trans h1.2⟩
 ·by_cases h1:g1.nf i
  ·rw[(b.ex.f i h1).2];exact a.ex.new i h1 hn
  ·exact yax a.le (b.ex.new i hi h1)
 ·rw[b.fr i (yai hi a.le),a.fr i hi hf];intro j c hj e;rcases a.kn j c hj with⟨b',hb'⟩|hk
  ·exact hf j b' hb' (by rw[<-e,(a.ex.f j (s.kn j b' hb').1).2])
  ·omega
 ·rcases b.kn j c hj with⟨b',hb'⟩|hk
  ·rcases a.kn j b' hb' with h3|h3
   ·exact .inl h3
   ·refine .inr ?_;rw[(b.ex.f j (s1.kn j b' hb').1).2];exact h3
  ·exact .inr (yax a.le hk)
def Sf.step{tb:Tb}{g g':Sg}{h h' K K':Heap}(s:St tb g h K)(a:Frm g h K g' h' K'){lo:Nat}{Hc:Heap}(x:Sf g h K lo Hc):Sf g' h' K' lo Hc:=by
 refine⟨yax x.le a.le,λi h1 h2=>?_,λi h1 h2 j b hj e=>?_⟩
 ·rw[a.fr i (yai h2 x.le) (x.ap i h1 h2),x.sm i h1 h2]
 ·rcases a.kn j b hj with⟨b',hb'⟩|hk
  ·rw[(a.ex.f j (s.kn j b' hb').1).2]at e;exact x.ap i h1 h2 j b' hb' e
  ·have:=x.le;omega
abbrev Rl{α β:Type}(g:Sg)(f:Nm->α->β)(a:α)(b:β):Prop:=∀d,Ag g d->b=f d a
def Rl.mono{α β:Type}{n:Nat}{g g':Sg}{f:Nm->α->β}{a:α}{b:β}(x:Ex n g g')(r:Rl g f a b):Rl g' f a b:=λd hd=>r d (hd.mono x)
def S(tb:Tb)(g:Sg)(h K:Heap){α β:Type}(f:Nm->α->β)(x:M α)(y:M β):Prop:=
 ∀a h',x h=some (a,h')->∃g' b K',y K=some (b,K')/\St tb g' h' K'/\Frm g h K g' h' K'/\Rl g' f a b
section
variable {tb:Tb} {g:Sg} {h K:Heap} {α β γ δ:Type}
def zdl{f:Nm->α->β}{a:α}{b:β}(s:St tb g h K)(r:Rl g f a b):S tb g h K f (M.pure a) (M.pure b):=by
 intro c h' e;cases e;exact⟨g,b,K,rfl,s,Frm.refl _ _ _,r⟩
def zcV{f:Nm->α->β}{y:M β}:S tb g h K f M.fail y:=by intro c h' e;cases e
def zq3{f:Nm->α->β}{o:Option α}{o':Option β}(s:St tb g h K)(r:∀a,o=some a->∃b,o'=some b/\Rl g f a b):S tb g h K f (M.lift o) (M.lift o'):=by
 cases o with
 | none=>exact zcV
 | some a=>
  obtain⟨b,rfl,q⟩:=r a rfl;exact zdl s q
def zdF{f:Nm->α->β}{k:Nm->γ->δ}{x:M α}{y:M β}{u:α->M γ}{v:β->M δ}(s:St tb g h K)(hx:S tb g h K f x y) (hk:∀g' h' K' a b,St tb g' h' K'->Frm g h K g' h' K'->Rl g' f a b->S tb g' h' K' k (u a) (v b)):S tb g h K k (x.bind u) (y.bind v):=by
 intro c h2 e;obtain⟨a,h1,e1,e2⟩:=bind_some e;obtain⟨g1,b,K1,y1,s1,f1,r1⟩:=hx a h1 e1;obtain⟨g2,w,K2,y2,s2,f2,r2⟩:=hk g1 h1 K1 a b s1 f1 r1 c h2 e2;exact⟨g2,w,K2,by rw[bind_ok y1];exact y2,s2,Frm.trans s s1 f1 f2,r2⟩
def s_ite{f:Nm->α->β}{c c':V}{x x':M α}{y y':M β}(hc:Rl g sh c c')(a:S tb g h K f x y)(b:S tb g h K f x' y'):S tb g h K f (M.ite c x x') (M.ite c' y y'):=by
 have:=hc g.e (Ag.self g);subst this;cases c<;>first|exact zcV|skip
 rename_i t;cases t
 ·exact b
 ·exact a
def s_op{x y:M V}(s:St tb g h K)(hx:∀d,Ag g d->OpR d x y):S tb g h K sh x y:=by
 intro a h' e
 let e2:Nm:=⟨λi=>if i=h.next then K.next else g.e.f i,g.e.w,g.e.s⟩
 have f2:∀i,g.nf i->e2.f i=g.e.f i:=λi hi=>by
  show(if i=h.next then K.next else g.e.f i) = _;rw[if_neg (by have:=s.nb i hi;omega)]
 have fn:e2.f h.next=K.next:=if_pos rfl;have a2:Ag g e2:=⟨rfl,f2,λ_ _=>rfl⟩;obtain⟨K',ey,st⟩:=hx e2 a2 h K a h' (s.em e2 a2) e (.inr fn);have lt:∀d,Ag g d->∀i b,h.get i=some b->i<h.next/\d.f i<K.next:=λd hd i b hi=>by
  have:=(s.kn i b hi).1;exact⟨s.nb i this,by rw[hd.2.1 i this];exact s.lt i this⟩
 have inj:∀d,Ag g d->∀i j b b',h.get i=some b->h.get j=some b'->d.f i=d.f j->i=j:=λd hd i j b b' hi hj e=>by
  have h1:=(s.kn i b hi).1;have h2:=(s.kn j b' hj).1;rw[hd.2.1 i h1,hd.2.1 j h2]at e;exact s.inj i j h1 h2 e
 have cl':=st.cl s.cl λi b hi=>(lt e2 a2 i b hi).2;have fr':∀i,i<K.next->(∀j b,h.get j=some b->g.e.f j≠i)->K'.get i=K.get i:=λi hi hf=>st.fr i hi λj b hj=>by
  rw[f2 j (s.kn j b hj).1];exact hf j b hj
 have dr':∀i,g.nf i->tb.R<=i->h'.get i=none->K'.get (g.e.f i)=none:=λi hi hR hn=>by
  cases hg:h.get i with
  | some b=>have:=st.dr (lt e2 a2) hg hn;rw[f2 i hi]at this;exact this
  | none=>
   rw[fr' _ (s.lt i hi) λj b hj ej=>?_,s.dr i hi hR hg];have:=s.inj j i (s.kn j b hj).1 hi ej;subst this;rw[hj]at hg;cases hg
 rcases st.nx with⟨n1,n2⟩|⟨n1,n2⟩
 ·have fm:Frm g h K g h' K':=⟨Ex.refl _ _,by omega,by omega,fr',λj b hj=>(st.kn j b hj).elim .inl λk=>by omega⟩;have key:∀d,Ag g d->sh e2 a=sh d a/\Emd d h' K':=λd hd=>by
   obtain⟨Kd,ed,sd⟩:=hx d hd h K a h' (s.em d hd) e (.inl n1);rw[ey]at ed;injection ed with ed
   injection ed with h1 h2
   subst h2;exact⟨h1,sd.emd (s.em d hd) (inj d hd) (lt d hd) (.inl n1)⟩
  refine⟨g,sh e2 a,K',ey,⟨s.s,λi b hi=>?_,λi hi=>by have:=s.nb i hi;omega,s.nwb,by have:=s.lo;omega,s.inj,λi hi=>by have:=s.lt i hi;omega,λd hd=>(key d hd).2,dr',cl',s.seq,λi hR hi e=>by have:=s.top i hR hi (by omega);omega,s.mono,λm hm hf=>?_,λm hw=>?_⟩,fm,λd hd=>(key d hd).1⟩
  ·rcases st.kn i b hi with⟨b',hb'⟩|⟨_,k⟩
   ·exact s.kn i b' hb'
   ·omega
  ·obtain⟨h1,lo,Hc,h2,h3,h4⟩:=s.mf m hm hf;exact⟨by omega,lo,Hc,h2,h3.step s fm,h4⟩
  ·obtain⟨h1,lo,Hc,h2,h3⟩:=s.mw m hw;exact⟨by omega,lo,Hc,h2,h3.step s fm⟩
 ·let g':Sg:=⟨e2,λi=>g.nf i\/i=h.next,g.nw⟩
  have ex:Ex K.next g g':=⟨rfl,λi hi=>⟨.inl hi,f2 i hi⟩,λi hi=>⟨hi,rfl⟩,λi hi hn=>by
   rcases hi with hi|rfl
   ·exact absurd hi hn
   ·exact Nat.le_of_eq fn.symm⟩
  have fm:Frm g h K g' h' K':=⟨ex,by omega,by omega,fr',λj b hj=>(st.kn j b hj).elim .inl λk=>.inr (by
   show K.next<=e2.f j;rw[k.1,fn];exact yag _)⟩
  have key:∀d,Ag g' d->sh e2 a=sh d a/\Emd d h' K':=λd hd=>by
   have hd0:=hd.mono ex;have hn:d.f h.next=K.next:=(hd.2.1 h.next (.inr rfl)).trans fn;obtain⟨Kd,ed,sd⟩:=hx d hd0 h K a h' (s.em d hd0) e (.inr hn);rw[ey]at ed;injection ed with ed
   injection ed with h1 h2
   subst h2;exact⟨h1,sd.emd (s.em d hd0) (inj d hd0) (lt d hd0) (.inr hn)⟩
  have ltn:∀i,g.nf i->e2.f i<K.next:=λi hi=>by rw[f2 i hi];exact s.lt i hi
  refine⟨g',sh e2 a,K',ey,⟨s.s,λi b hi=>?_,λi hi=>?_,s.nwb,by have:=s.lo;omega,λi j hi hj eq=>?_,λi hi=>?_,λd hd=>(key d hd).2,λi hi hR hn=>?_,cl',λi hR hi hj=>?_,λi hR hi e=>?_,λi j hR hl hi hj=>?_,λm hm hf=>?_,λm hw=>?_⟩,fm,λd hd=>(key d hd).1⟩
  ·rcases st.kn i b hi with⟨b',hb'⟩|⟨k,_⟩
   ·have:=s.kn i b' hb';exact⟨.inl this.1,this.2⟩
   ·exact⟨.inr k,by rw[k];exact s.lo⟩
  ·rcases hi with hi|rfl
   ·have:=s.nb i hi;omega
   ·omega
  ·have eq:e2.f i=e2.f j:=eq;rcases hi with hi|rfl<;>rcases hj with hj|rfl
   ·rw[f2 i hi,f2 j hj]at eq;exact s.inj i j hi hj eq
   ·have:=ltn i hi;omega
   ·have:=ltn j hj;omega
   ·rfl
  ·show e2.f i<K'.next;rcases hi with hi|rfl
   ·have:=ltn i hi;omega
   ·omega
  ·show K'.get (e2.f i)=none;rcases hi with hi|rfl
   ·rw[f2 i hi];exact dr' i hi hR hn
   ·exfalso;cases st with
    | same=>omega
    | set o hb=>rw[zam]at n1;omega
    | new b=>rw[zaf]at hn;cases hn
    | snew c hb=>
     have:=zaf (h.set ‹Nat› none) c;rw[zam]at this;rw[this]at hn;cases hn
  ·show e2.f (i+1)=e2.f i+1;have h1:g.nf i:=by
    rcases hi with hi|rfl
    ·exact hi
    ·rcases hj with hj|hj
     ·have:=s.nb _ hj;omega
     ·omega
   rw[f2 i h1];rcases hj with hj|hj
   ·rw[f2 _ hj];exact s.seq i hR h1 hj
   ·rw[hj,fn];exact s.top i hR h1 hj
  ·show K'.next=e2.f i+1;have:i=h.next:=by omega
   subst this;rw[fn];exact n2
  ·show e2.f i<e2.f j;have h1:g.nf i:=by
    rcases hi with hi|rfl
    ·exact hi
    ·rcases hj with hj|hj
     ·have:=s.nb _ hj;omega
     ·omega
   rcases hj with hj|rfl
   ·rw[f2 i h1,f2 j hj];exact s.mono i j hR hl h1 hj
   ·rw[fn];exact ltn i h1
  ·rcases hf with hf|rfl
   ·obtain⟨h1,lo,Hc,h2,h3,h4⟩:=s.mf m hm hf;refine⟨by omega,lo,Hc,by show tb.Pf m lo Hc (e2.f m);rw[f2 m hf];exact h2,h3.step s fm,λi hR hl hi=>?_⟩;show e2.f i<lo;rcases hi with hi|rfl
    ·rw[f2 i hi];exact h4 i hR hl hi
    ·omega
   ·have:=s.lo;omega
  ·obtain⟨h1,lo,Hc,h2,h3⟩:=s.mw m hw;exact⟨by omega,lo,Hc,h2,h3.step s fm⟩
end
end Go.Ax.Y
