/-
  Texts of mine, put together by program (wip/slim.py), for law_seatMeets: part 11.
-/
import Derived.Test.YtboeopafnogfmaaGreatZx10
noncomputable section
set_option linter.unusedVariables false
set_option linter.unusedSimpArgs false
set_option linter.defProp false
set_option maxRecDepth 100000
/- Su13 -/
namespace Go.Ax.SU
open Go.Ax
def w_cint8(x:UInt32):Ax.cint .u8 (w32 x)=some (by8 (x.toNat%256)):=by
 unfold w32 by8;rw[zuu,wrap_u8];rfl
def s24(x:UInt32):Ax.bin .shr (w32 x) (.int .u64 24)=some (w32 (zli x 24)):=zwj x (by omega)
def s16(x:UInt32):Ax.bin .shr (w32 x) (.int .u64 16)=some (w32 (zli x 16)):=zwj x (by omega)
def s8(x:UInt32):Ax.bin .shr (w32 x) (.int .u64 8)=some (w32 (zli x 8)):=zwj x (by omega)
def n24(x:UInt32):(zli x 24).toNat=x.toNat/16777216:=by rw[zkh,yah]
def n16(x:UInt32):(zli x 16).toNat=x.toNat/65536:=by rw[zkh,yah]
def n8(x:UInt32):(zli x 8).toNat=x.toNat/256:=by rw[zkh,yah]
def zg4(n:Nat):(by8 n).okc=true:=rfl
def zcy(n:Nat):(by8 n).cells=[by8 n]:=rfl
def zuS(a b:List UInt32):zcW (a++b)=zcW a++zcW b:=by unfold zcW;rw[yaE,ybz]
def take_w{h:List UInt32}{k:Nat}(hk:k<h.length):h.take (k+1)=h.take k++[h.getD k 0]:=by
 rw[yb4,yaf hk,yan,yaf hk];rfl
def out_ok{H:Heap}{o r:Nat}{h:List UInt32}(hh:h.length=8) (ho:H.get o=some ⟨zak,List.replicate 32 (.int .u8 0),none⟩) :
  Ok (M.iter (zck (sem T) (.agg (h.map w32)) (.ptr o 0) (.ptr r 0)) [.int .i64 0]) H λx H'=>x = .ex 4 []/\H'.get o=some ⟨zak,(zcW h).map by8,none⟩/\At1 o H H':=by
 refine zaQ (λk L H'=>L=[.int .i64 (k:Nat)]/\H'.get o=some ⟨zak,(zcW (h.take k)).map by8++List.replicate (32-4*k) (.int .u8 0),none⟩/\At1 o H H') 8 ?_ ?_ ?_
 ·exact⟨rfl,by simpa [zcW]using ho,At1.refl _ _⟩
 ·rintro k L H1 hk ⟨rfl,g1,s1⟩;have hl0:((zcW (h.take k)).map by8).length=4*k:=by rw[yai,zld,yaq];omega
  have gk:=wg (ws:=h) (i:=k) (by omega);have e4:(4:Int)*(k:Int)=((4*k:Nat):Int):=by omega
  have e5:((4*k:Nat):Int)+1=((4*k+1:Nat):Int):=by omega
  have e6:((4*k:Nat):Int)+2=((4*k+2:Nat):Int):=by omega
  have e7:((4*k:Nat):Int)+3=((4*k+3:Nat):Int):=by omega
  have hlen:∀(l:List V) (n:Nat),l.length=n->n<=32->(l++List.replicate (32-n) (V.int .u8 0)).length=32:=λl n h1 h2=>by rw[yag,h1,yaH];omega
  have x0:=zbX (z:=.int .u8 0) (x:=by8 ((h.getD k 0).toNat/16777216%256)) hl0 (show 4*k<32 by omega);have hl1:((zcW (h.take k)).map by8++[by8 ((h.getD k 0).toNat/16777216%256)]).length=4*k+1:=by rw[yag,hl0];rfl
  have x1:=zbX (z:=.int .u8 0) (x:=by8 ((h.getD k 0).toNat/65536%256)) hl1 (show 4*k+1<32 by omega);have hl2:((zcW (h.take k)).map by8++[by8 ((h.getD k 0).toNat/16777216%256)]++[by8 ((h.getD k 0).toNat/65536%256)]).length=4*k+2:=by rw[yag,hl1];rfl
  have x2:=zbX (z:=.int .u8 0) (x:=by8 ((h.getD k 0).toNat/256%256)) hl2 (show 4*k+2<32 by omega);have hl3:((zcW (h.take k)).map by8++[by8 ((h.getD k 0).toNat/16777216%256)]++[by8 ((h.getD k 0).toNat/65536%256)]++[by8 ((h.getD k 0).toNat/256%256)]).length=4*k+3:=by rw[yag,hl2];rfl
  have x3:=zbX (z:=.int .u8 0) (x:=by8 ((h.getD k 0).toNat%256)) hl3 (show 4*k+3<32 by omega);have m0:=hlen _ _ hl0 (by omega);have m1:=hlen _ _ hl1 (by omega);have m2:=hlen _ _ hl2 (by omega);have m3:=hlen _ _ hl3 (by omega);unfold zck uL uT uB uI uK uc uq ug;simp(disch:=omega)only[↓RD,RZ,gk,e4,e5,e6,e7,s24,s16,s8,w_cint8,n24,n16,n8,zg4,zcy,g1,x0,x1,x2,x3,m0,m1,m2,m3];refine⟨by omega,by omega,by omega,by omega,rfl,?_,s1.trans ((At1.set o _ _).trans ((At1.set o _ _).trans ((At1.set o _ _).trans (At1.set o _ _))))⟩;rw[take_w (by omega),zuS,show 32-4*(k+1)=32-(4*k+3+1) by omega];simp[zcW]
 ·rintro L H1 ⟨rfl,g1,s1⟩;unfold zck uL uT uB uI uK uc uq ug;simp(disch:=omega)only[↓RD,RZ];refine⟨?_,s1⟩;rw[g1,yal (by omega)];simp
def zxh(n:Nat):pad n=(0x80::List.replicate (padz n) 0)++bn 8 (n*8%18446744073709551616):=rfl
instance:Coe Unit V:=⟨λ_=>.int .u8 0⟩
def Sum_ok{H:Heap}{s:Nat}{m F:List Nat}(k:Str H s m F)(hlen:m.length<=562949953421312) :
  Ok (sem T zbH [.ptr s 0]) H λr H'=>r = .agg ((sha kc m).map by8)/\Step H H' F F:=by
 refine zjf ?_;unfold zfJ uS uT uNFM uNF uB uO uA uR uc ub uq ug;have s1:=Grow.new H ⟨zak,[(),(),(),(),(),(),(),(),(),(),(),(),(),(),(),(),(),(),(),(),(),(),(),(),(),(),(),(),(),(),(),()],none⟩;have gr:(H.new ⟨zak,[(),(),(),(),(),(),(),(),(),(),(),(),(),(),(),(),(),(),(),(),(),(),(),(),(),(),(),(),(),(),(),()],none⟩).get H.next=some ⟨zak,List.replicate 32 (.int .u8 0),none⟩:=zae _ _;have nr:(H.new ⟨zak,[(),(),(),(),(),(),(),(),(),(),(),(),(),(),(),(),(),(),(),(),(),(),(),(),(),(),(),(),(),(),(),()],none⟩).next=H.next+1:=zac _ _;have kF:=k.low;have k1:=k.grow s1;simp(disch:=omega)only[↓RD,RZ];generalize hrb:H.next=rb at *;generalize H.new _=H1 at *;refine zaf (Copy_ok k1) ?_;rintro _ H2 ⟨t,c,Fb,rfl,k2,hcF,htn,hFb,s2⟩;obtain⟨c',bv,Fb',hF',k2',hm8⟩:=k2;simp only[ybO,true_and]at hF';obtain⟨rfl,rfl⟩:=hF';have n2:=s2.next;have gt2:=k2'.gs;have i9:=st9 k2'.hl;have i8:=st8 k2'.hl;have ebl:=k2'.bf.vlen;have tll:=ztz m;have em:((m.length:Nat):Int)*8=((m.length*8:Nat):Int):=by omega
 have hlow2:=k2'.low;simp(disch:=first|omega|(simp only[RY]<;>omega)|decide)only[↓RD,RZ,eq_self,seval,gt2,i9,em];have s3:=Grow.new H2 ⟨zad,[.int .u8 128],none⟩;have a3:Ab H2.next (H2.new ⟨zad,[.int .u8 128],none⟩) (.sl H2.next 0 1 (.fix 1)) [0x80]:=.full (zae _ _) rfl (yaj _) (by rw[zac];omega);have b3:Bel H2.next H2 (H2.new ⟨zad,[.int .u8 128],none⟩):=s3.bel (yaj _);generalize hlo:H2.next=lo at *;generalize H2.new _=H3 at *;have hz:padz m.length<64:=by unfold padz;omega
 refine zao (Q:=λr H'=>∃e,r = .ex 0 [e]/\Ab lo H' e (0x80::List.replicate (padz m.length) 0)/\Bel lo H2 H') ?_ ?_
 ·refine zaQ (λj L H'=>∃e,L=[e]/\Ab lo H' e (0x80::List.replicate j 0)/\Bel lo H2 H') (padz m.length) ?_ ?_ ?_
  ·exact⟨_,rfl,a3,b3⟩
  ·rintro j L H4 hj ⟨e,rfl,a4,b4⟩;have hel:=a4.by.vlen;have hl:(0x80::List.replicate j 0).length=j+1:=by simp
   rw[hl]at hel;have gt4:=(b4.same t (hlow2 t (by simp))).trans gt2;have ej:(((tl m).length:Nat):Int)+((j+1:Nat):Int)=(((tl m).length+(j+1):Nat):Int):=rfl;have hne:¬(((((tl m).length+(j+1):Nat):Int))%64=56):=by unfold padz at hj;omega
   have n4:=b4.next;unfold zc4 uL uNFM uB uK uc ub ug;simp(disch:=omega)only[↓RD,RZ,gt4,i8,ebl,hel,ej,hne];refine okb_ab (m:=[0]) (a4.keep ((Grow.new _ _).keep _)) (by rw[zac];omega) (zcD rfl) (by rw[hl];simp;omega) λe' H5 a5 b5=>?_;simp(disch:=omega)only[↓RD,RZ];refine⟨e',rfl,?_,b4.trans (((Grow.new _ _).bel (by omega)).trans b5)⟩;rw[yc5,<-ybY];exact a5
  ·rintro L H4 ⟨e,rfl,a4,b4⟩;have hel:=a4.by.vlen;have hl:(0x80::List.replicate (padz m.length) 0).length=padz m.length+1:=by simp
   rw[hl]at hel;have gt4:=(b4.same t (hlow2 t (by simp))).trans gt2;have ej:(((tl m).length:Nat):Int)+((padz m.length+1:Nat):Int)=(((tl m).length+(padz m.length+1):Nat):Int):=rfl;have hne:((((tl m).length+(padz m.length+1):Nat):Int))%64=56:=by unfold padz;omega
   have n4:=b4.next;unfold zc4 uL uNFM uB uK uc ub ug;simp(disch:=omega)only[↓RD,RZ,gt4,i8,ebl,hel,ej,hne];exact⟨e,rfl,a4,b4⟩
 ·rintro _ H4 ⟨e4,rfl,a4,b4⟩;have hl4:(0x80::List.replicate (padz m.length) 0).length=padz m.length+1:=by simp
  have hmod:m.length*8%18446744073709551616=m.length*8:=yav (by omega);simp(disch:=omega)only[↓RD,RZ];refine zao (Q:=λr H'=>∃e,r = .ex 2 [e]/\Ab lo H' e (pad m.length)/\Bel lo H2 H') ?_ ?_
  ·refine zaQ (λj L H'=>∃w,L=[w,.int .i64 ((7:Int)-(j:Nat))]/\Ab lo H' w ((0x80::List.replicate (padz m.length) 0)++(bn 8 (m.length*8)).take j)/\Bel lo H2 H') 8 ?_ ?_ ?_
   ·exact⟨e4,rfl,by rw[ya8,yaK];exact a4,b4⟩
   ·rintro j L H5 hj ⟨w,rfl,a5,b5⟩;have e1:(7:Int)-(j:Nat)=((8-1-j:Nat):Int):=by omega
    have e2:(8:Int)*((8-1-j:Nat):Int)=((8*(8-1-j):Nat):Int):=by omega
    have e3:shr (m.length*8) (8*(8-1-j))=m.length*8/256 ^ (8-1-j):=by rw[zif,yah,yds]
    have n5:=b5.next;rw[e1];generalize hw:8-1-j=w' at *;unfold zc3 uL uB uK uc ub ug;have e8:IntKind.u8.wrap ((m.length*8/256 ^ w':Nat):Int)=((m.length*8/256 ^ w'%256:Nat):Int):=by rw[wrap_u8];rfl
    have hlt:((0x80::List.replicate (padz m.length) 0)++(bn 8 (m.length*8)).take j).length=padz m.length+1+j:=by rw[yag,hl4,yaq,bn_len];omega
    simp(disch:=omega)only[↓RD,RZ,e2,e3,e8];refine okb_ab (m:=[m.length*8/256 ^ w'%256]) (a5.keep ((Grow.new _ _).keep _)) (by rw[zac];omega) (zcD rfl) (by rw[hlt];simp;omega) λe' H6 a6 b6=>?_;simp(disch:=omega)only[↓RD,RZ];refine⟨e',by rw[show((w':Nat):Int)-1=(7:Int)-((j+1:Nat):Int) by omega],?_,b5.trans (((Grow.new _ _).bel (by omega)).trans b6)⟩;rw[take_snoc (by rw[bn_len];exact hj),bn_get 8 _ j hj,hw,<-yaO];exact a6
   ·rintro L H5 ⟨w,rfl,a5,b5⟩;have e1:(7:Int)-((8:Nat):Int) = -1:=by omega
    rw[e1];unfold zc3 uL uB uK uc ub ug;simp(disch:=omega)only[↓RD,RZ];refine⟨w,rfl,?_,b5⟩;rw[yal (by rw[bn_len];exact yaj _)]at a5;rw[zxh,hmod];exact a5
  ·rintro _ H5 ⟨e5,rfl,a5,b5⟩;have n5:=b5.next;have k5:Str H5 t m (t::c::Fb):=⟨c,bv,Fb,rfl,k2'.to n5 λi hi=>b5.same i (hlow2 i hi),hm8⟩;have hpl:(pad m.length).length<=72:=by rw[zxh,yag,hl4,bn_len];omega
   have hp8:Ok8 (pad m.length):=by
    rw[zxh];refine Ok8.app (λx hx=>?_) (bn_8 _ _);rcases yau.1 hx with rfl|hx
    ·decide
    ·rw[ybD hx];decide
   simp(disch:=omega)only[↓RD,RZ];refine zaf (zuN k5 a5.by hp8 (λi hi hF=>by have h1:=(a5.by.own i hi).1;have h2:=hlow2 i hF;omega) (by omega)) ?_;rintro _ H6 ⟨rfl,F6,k6,s6⟩;obtain⟨c6,bv6,Fb6,rfl,k6,-⟩:=k6;have n6:=s6.next;have hrF:rb∉t::c::Fb:=by
    intro h;simp only[yau]at h;rcases h with h|h|h
    ·omega
    ·have:=kF c hcF;omega
    ·have:=hFb rb h;omega
   have gr6:H6.get rb=some ⟨zak,List.replicate 32 (.int .u8 0),none⟩:=by
    rw[s6.same rb (by omega) hrF,b5.same rb (by omega),s2.same rb (by omega)];exact gr
   have hlow6:=k6.low;have gt6:=k6.gs;have f8:=ld8 k6.hl [bv6,.int .u64 ((m++pad m.length).length:Nat),.ptr c6 0];have ht6:=k6.sl;have g7:∀i,i<H6.next->(H6.new ⟨zak,[(),(),(),(),(),(),(),(),(),(),(),(),(),(),(),(),(),(),(),(),(),(),(),(),(),(),(),(),(),(),(),()],none⟩).get i=H6.get i:=λi hi=>zas _ _ (by omega);have go7:(H6.new ⟨zak,[(),(),(),(),(),(),(),(),(),(),(),(),(),(),(),(),(),(),(),(),(),(),(),(),(),(),(),(),(),(),(),()],none⟩).get H6.next=some ⟨zak,List.replicate 32 (.int .u8 0),none⟩:=zae _ _;have n7:(H6.new ⟨zak,[(),(),(),(),(),(),(),(),(),(),(),(),(),(),(),(),(),(),(),(),(),(),(),(),(),(),(),(),(),(),(),()],none⟩).next=H6.next+1:=zac _ _;simp(disch:=omega)only[↓RD,RZ,gt6,f8];clear gt6;generalize ho:H6.next=o at *;generalize H6.new _=H7 at *;refine zao (out_ok k6.hl go7) ?_;rintro _ H8 ⟨rfl,go8,s8⟩;have gr8:H8.get rb=some ⟨zak,List.replicate 32 (.int .u8 0),none⟩:=by
    rw[s8.same rb (by omega) (by omega),g7 rb (by omega)];exact gr6
   have hwl:((zcW (hs kc (m++pad m.length))).map by8).length=32:=by rw[yai,zld,hs_len]
   have l32:ldc (some 32) ((zcW (hs kc (m++pad m.length))).map by8) 0=some (.agg ((zcW (hs kc (m++pad m.length))).map by8)):=by
    rw[ze1 (by omega),yaC,yal (by omega)]
   have hok:V.okc (.agg ((zcW (hs kc (m++pad m.length))).map by8))=true:=by
    simp only[V.okc,yc0,yaL]
    try (intro x _;rfl)
   have hsp:∀L:List V,L.length=32->splice L 0 ((zcW (hs kc (m++pad m.length))).map by8)=(zcW (hs kc (m++pad m.length))).map by8:=λL hL=>by
    unfold splice;rw[ya8,yaY,hwl,yaV (by omega),yaK]
   have hrl:(List.replicate 32 (V.int .u8 0)).length=32:=rfl;have hne8:o≠rb:=by omega
   simp(disch:=first|omega|(simp only[RY]<;>omega)|decide)only[↓RD,RZ,eq_self,seval,go8,l32,gr8,hok,hwl,hsp,hrl];refine⟨rfl,⟨?_,λi hi hF=>?_,λi hi=>.inl hi⟩⟩
   ·have:=s8.next;rw[zal];omega
   ·have hi6:i∉t::c::Fb:=by
     intro h;simp only[yau]at h;rcases h with h|h|h
     ·omega
     ·exact hF (h ▸ hcF)
     ·have:=hFb i h;omega
    rw[zai _ _ (by omega),s8.same i (by omega) (by omega),g7 i (by omega),s6.same i (by omega) hi6,b5.same i (by omega),s2.same i (by omega),s1.same i (by omega)]
def zyx{lo n:Nat}{H:Heap}{v x:V}{vs:List V}(h:Lc 1 lo H v vs n){i:Nat}(hi:i<n) (hx:vs[i]?=some x):∃p,(∀{k:IntKind},Ax.iaddr none 1 v (.int k ((i:Nat):Int))=some p)/\LdR none H p x:=by
 obtain⟨p,hp,hl⟩:=h.at (i:=((i:Nat):Int)) (by omega) (by omega);have hlen:=h.len;have hil:i<vs.length:=by omega
 have e:(vs.drop (((i:Nat):Int).toNat*1)).take 1=[x]:=by
  rw[yao,ya9,yaP hil];rw[yaf hil]at hx;injection hx with hx
  rw[hx];rfl
 rw[e]at hl;refine⟨p,hp,λf Q=>?_⟩;rw[hl.ld0 (by simp)];exact zpE
def Pts(lo:Nat)(H:Heap)(vs:List V) (ps:List (List Nat)):Prop:=vs.length=ps.length/\∀(i:Nat) (v:V) (p:List Nat),vs[i]?=some v->ps[i]?=some p->By lo H v p/\Ok8 p
def Pts.grow{lo:Nat}{H H':Heap}{vs:List V} {ps:List (List Nat)} (h:Pts lo H vs ps) (g:Grow H H'):Pts lo H' vs ps:=⟨h.1,λi v p hv hp=>⟨(h.2 i v p hv hp).1.ext g,(h.2 i v p hv hp).2⟩⟩
def Pts.nil{lo:Nat}{H:Heap}:Pts lo H [] []:=⟨rfl,λi v p h=>by simp at h⟩
def Pts.cons{lo:Nat}{H:Heap}{v:V}{p:List Nat}{vs:List V} {ps:List (List Nat)} (h1:By lo H v p) (h2:Ok8 p) (h:Pts lo H vs ps):Pts lo H (v::vs) (p::ps):=by
 refine⟨by simp[h.1],λi v' p' hv hp=>?_⟩;cases i with
 | zero=>
  simp only[yaF,yaa]at hv hp;subst hv hp;exact⟨h1,h2⟩
 | succ i=>exact h.2 i v' p' hv hp
def zgT {ps:List (List Nat)} {k:Nat} {p:List Nat} (h:ps[k]?=some p):(ps.take (k+1)).flatten=(ps.take k).flatten++p:=by
 rw[yb4,h];simp
def zdI (ps:List (List Nat)) (k:Nat):(ps.take k).flatten.length<=ps.flatten.length:=by
 conv=>rhs;rw[<-yb1 k ps,ybz,yag]
 omega
def zlb{lo id n:Nat}{H:Heap}{ty:TypeId}{l:List Nat}{o:Option Nat} (h:H.get id=some ⟨ty,l.map by8,o⟩) (hl:l.length=n) (h0:lo<=id) (h1:id<H.next):By lo H (.sl id 0 n (.fix n)) l:=by
 subst hl;refine⟨?_,λi hi=>by simp only[V.pid,yaa]at hi;subst hi;exact⟨h0,h1⟩,yaj _⟩;simp only[rcells,h,Option.bind_some];rw[if_pos (by simp),yaC,yal (by simp)]
def Of_ok{H:Heap}{lo:Nat}{v:V}{vs:List V} {ps:List (List Nat)} (hv:Lc 1 lo H v vs vs.length) (hp:Pts 0 H vs ps) (hvn:vs.length<=1000) (hlen:ps.flatten.length<=281474976710656) :
  Ok (sem T zeC [v]) H λr H'=>r = .agg ((sha kc ps.flatten).map by8)/\Grow H H':=by
 refine zrw ?_;unfold znW uL uS uT uO uA uR uc;have s1:=Grow.new H ⟨zak,[(),(),(),(),(),(),(),(),(),(),(),(),(),(),(),(),(),(),(),(),(),(),(),(),(),(),(),(),(),(),(),()],none⟩;have gr:(H.new ⟨zak,[(),(),(),(),(),(),(),(),(),(),(),(),(),(),(),(),(),(),(),(),(),(),(),(),(),(),(),(),(),(),(),()],none⟩).get H.next=some ⟨zak,List.replicate 32 (.int .u8 0),none⟩:=zae _ _;have nr:(H.new ⟨zak,[(),(),(),(),(),(),(),(),(),(),(),(),(),(),(),(),(),(),(),(),(),(),(),(),(),(),(),(),(),(),(),()],none⟩).next=H.next+1:=zac _ _;have hvl:=hv.vlen;simp(disch:=first|omega|(simp only[RY]<;>omega)|decide)only[↓RD,RZ,eq_self,seval];generalize hrb:H.next=rb at *;generalize H.new _=H1 at *;refine zaf New_ok ?_;rintro _ H2 ⟨s,F,rfl,k2,hF,s2⟩;have n2:=s2.next;have g2:Grow H H2:=s1.trans s2;simp(disch:=first|omega|(simp only[RY]<;>omega)|decide)only[↓RD,RZ,eq_self,seval,hvl];refine zao (Q:=λr H'=>r = .ex 0 []/\∃F',Str H' s ps.flatten F'/\(∀i∈F',H1.next<=i)/\Grow H1 H') ?_ ?_
 ·refine zaQ (λj L H'=>L=[.int .i64 (j:Nat)]/\∃F',Str H' s (ps.take j).flatten F'/\(∀i∈F',H1.next<=i)/\Grow H1 H') vs.length ?_ ?_ ?_
  ·exact⟨rfl,F,by simpa using k2,hF,s2⟩
  ·rintro j L H3 hj ⟨rfl,F',k3,hF3,s3⟩;have g3:Grow H H3:=s1.trans s3;have hx:vs[j]?=some vs[j]:=yaf hj;have hq:ps[j]?=some (ps[j]'(by rw[<-hp.1];exact hj)):=yaf _;obtain⟨hby,h8⟩:=hp.2 j _ _ hx hq;obtain⟨p,ip,lp⟩:=zyx (hv.ext g3) hj hx;have hl1:=zdI ps (j+1);have hft:=zgT hq;rw[hft,yag]at hl1;unfold zhB uB uIM uA uK uc ug;simp(disch:=first|omega|(simp only[RY]<;>omega)|decide)only[↓RD,RZ,eq_self,seval,ip,lp];refine zaf (zuN k3 (hby.ext g3) h8 (λi hi hc=>by have h1:=(hby.own i hi).2;have h2:=hF3 i hc;omega) (by omega)) ?_;rintro _ H4 ⟨rfl,F4,k4,s4⟩;rw[<-hft]at k4;simp(disch:=first|omega|(simp only[RY]<;>omega)|decide)only[↓RD,RZ,eq_self,seval];refine⟨rfl,F4,k4,λi hi=>?_,⟨yay s3.next s4.next,λi hi=>by rw[s4.same i (by have:=s3.next;omega) (λhc=>by have:=hF3 i hc;omega),s3.same i hi]⟩⟩;rcases s4.own i hi with h|h
   ·exact hF3 i h
   ·have:=s3.next;omega
  ·rintro L H3 ⟨rfl,F',k3,hF3,s3⟩;unfold zhB uB uIM uA uK uc ug;simp(disch:=first|omega|(simp only[RY]<;>omega)|decide)only[↓RD,RZ,eq_self,seval];refine⟨F',?_,hF3,s3⟩;rw[hp.1,ya6]at k3;exact k3
 ·rintro _ H3 ⟨rfl,F',k3,hF3,s3⟩;have n3:=s3.next;simp(disch:=first|omega|(simp only[RY]<;>omega)|decide)only[↓RD,RZ,eq_self,seval];refine zaf (Sum_ok k3 (by omega)) ?_;rintro _ H4 ⟨rfl,s4⟩;have n4:=s4.next;have g4:∀i,i<H1.next->H4.get i=H1.get i:=λi hi=>by rw[s4.same i (by omega) (λhc=>by have:=hF3 i hc;omega),s3.same i hi]
  have gr4:=(g4 rb (by omega)).trans gr;have hwl:((sha kc ps.flatten).map by8).length=32:=by rw[yai,zlj]
  have l32:ldc (some 32) ((sha kc ps.flatten).map by8) 0=some (.agg ((sha kc ps.flatten).map by8)):=by
   rw[ze1 (by omega),yaC,yal (by omega)]
  have hok:V.okc (.agg ((sha kc ps.flatten).map by8))=true:=by
   simp only[V.okc,yc0,yaL]
   try (intro x _;rfl)
  have hsp:∀L:List V,L.length=32->splice L 0 ((sha kc ps.flatten).map by8)=(sha kc ps.flatten).map by8:=λL hL=>by
   unfold splice;rw[ya8,yaY,hwl,yaV (by omega),yaK]
  have hrl:(List.replicate 32 (V.int .u8 0)).length=32:=rfl;simp(disch:=first|omega|(simp only[RY]<;>omega)|decide)only[↓RD,RZ,eq_self,seval,gr4,l32,hok,hwl,hsp,hrl];exact⟨by rw[zal];omega,λi hi=>by rw[zai _ _ (by omega),g4 i (by omega),s1.same i (by omega)]⟩
def zua(ks:List UInt32){key:List Nat}(x:Nat):(kpad ks key x).length=64:=by
 unfold kpad zf7;split
 ·rw[yai,yag,yaH,zlj]
 ·rw[yai,yag,yaH];omega
def zqc{A C:List V}{b:V}{k:Nat}(h:A.length=k):(A++b::C)[k]?=some b:=by
 rw[ybp (by omega),h,ycV];rfl
def zqb{A C:List V}{b y:V}{k:Nat}(h:A.length=k):splice (A++b::C) k [y]=A++y::C:=by
 rw[zm3 _ _ _ (by rw[yag,List.length_cons];omega),yb2 _ _ (by omega),h,ycV];rfl
def xor_now{l:List Nat}{k:Nat}(f:Nat->Nat)(hk:k<l.length):((l.take k).map f++l.drop k).map by8=((l.take k).map f).map by8++by8 (l.getD k 0)::(l.drop (k+1)).map by8:=by
 rw[yaP hk,yan,yaf hk,yaE,yaT];rfl
def xor_then{l:List Nat}{k:Nat}(f:Nat->Nat)(hk:k<l.length):((l.take k).map f).map by8++by8 (f (l.getD k 0))::(l.drop (k+1)).map by8=((l.take (k+1)).map f++l.drop (k+1)).map by8:=by
 rw[take_snoc hk,yaE,yaE,yaE];simp
def pad_ok{lo:Nat}{H:Heap}{v:V}{l:List Nat}{x:Nat}(hv:By lo H v l)(h8:Ok8 l)(hl:l.length<=64)(hx:x<256) :
  Ok (sem T zgL [v,.int .u8 (x:Nat)]) H λr H'=>By H.next H' r ((l++List.replicate (64-l.length) 0).map (· ^^^ x))/\Grow H H':=by
 refine zvk ?_;unfold zrR uL uR uc ub;refine zaL (zvn (l:=64) (c:=64) ⟨by decide,by decide,by decide,by decide⟩ ?_);have e64:(64:Int).toNat=64:=rfl;rw[e64,zwc];have s1:=Grow.new H ⟨zad,List.replicate 64 (.int .u8 0),none⟩;have g1:(H.new ⟨zad,List.replicate 64 (.int .u8 0),none⟩).get H.next=some ⟨zad,List.replicate 64 (.int .u8 0),none⟩:=zae _ _;have n1:(H.new ⟨zad,List.replicate 64 (.int .u8 0),none⟩).next=H.next+1:=zac _ _;have hv1:=hv.ext s1;generalize hid:H.next=id at *;generalize H.new _=H1 at *;have hz8:Ok8 (l++List.replicate (64-l.length) 0):=h8.app (Ok8.rep _);have hzl:(l++List.replicate (64-l.length) 0).length=64:=by rw[yag,yaH];omega
 have hcp:mcopy 1 (.sl id 0 64 (.fix 64)) v H1=some (.int .i64 (l.length:Nat),H1.set id (some ⟨zad,(l++List.replicate (64-l.length) 0).map by8,none⟩)):=by
  unfold mcopy;rw[hv1.ac];simp only[Option.bind_some,g1];rw[if_pos (by simp)];have e1:min l.length 64=l.length:=by omega
  have e2:splice (List.replicate 64 (V.int .u8 0)) 0 ((l.map by8).take (l.length*1))=(l++List.replicate (64-l.length) 0).map by8:=by
   unfold splice;rw[ya8,yaY,yal (by simp),yai,ybe,ycz,yaE,yce];rfl
  rw[e1,e2]
 generalize hL:l++List.replicate (64-l.length) 0=L at *;refine zaL ⟨_,_,hcp,?_⟩;have g2:(H1.set id (some ⟨zad,L.map by8,none⟩)).get id = _:=zah _ _ _;have n2:(H1.set id (some ⟨zad,L.map by8,none⟩)).next=H1.next:=zal _ _ _;have s2:∀i,i≠id->(H1.set id (some ⟨zad,L.map by8,none⟩)).get i=H1.get i:=λi hi=>zai _ _ hi;generalize H1.set id _=H2 at *;simp(disch:=omega)only[↓RD,RZ,eq_self,seval];refine zao (Q:=λr H'=>r = .ex 0 []/\H'.get id=some ⟨zad,(L.map (· ^^^ x)).map by8,none⟩/\At1 id H2 H') ?_ ?_
 ·refine zaQ (λk L' H'=>L'=[.int .i64 (k:Nat)]/\H'.get id=some ⟨zad,((L.take k).map (· ^^^ x)++L.drop k).map by8,none⟩/\At1 id H2 H') 64 ?_ ?_ ?_
  ·exact⟨rfl,by simpa using g2,At1.refl _ _⟩
  ·rintro k _ H3 hk ⟨rfl,g3,s3⟩;have hA:(((L.take k).map (· ^^^ x)).map by8).length=k:=by rw[yai,yai,yaq];omega
   rw[xor_now _ (by omega)]at g3;have m1:=zqc (b:=by8 (L.getD k 0)) (C:=(L.drop (k+1)).map by8) hA;have m2:=zqb (b:=by8 (L.getD k 0)) (y:=by8 (L.getD k 0 ^^^ x)) (C:=(L.drop (k+1)).map by8) hA;have ml:(((L.take k).map (· ^^^ x)).map by8++by8 (L.getD k 0)::(L.drop (k+1)).map by8).length=64:=by rw[yag,hA,List.length_cons,yai,yat];omega
   have hg:=hz8.getD k;have ex:Ax.bin .xor (by8 (L.getD k 0)) (.int .u8 (x:Nat))=some (by8 (L.getD k 0 ^^^ x)):=by
    unfold by8;rw[zwe (by omega) (by omega) (by omega) (by omega)];rfl
   unfold zj3 uT uB uI uIM uK uc ug;simp(disch:=omega)only[↓RD,RZ,eq_self,seval,g3,m1,ex,m2,ml,zg4,zcy];refine⟨by omega,rfl,?_,s3.trans (At1.set id _ _)⟩;have:=xor_then (l:=L) (k:=k) (· ^^^ x) (by omega);rw[<-this]
  ·rintro _ H3 ⟨rfl,g3,s3⟩;unfold zj3 uT uB uI uIM uK uc ug;simp(disch:=omega)only[↓RD,RZ,eq_self,seval];refine⟨?_,s3⟩;rw[g3,yal (by omega),yaV (by omega),yaK]
 ·rintro _ H3 ⟨rfl,g3,s3⟩;have n3:=s3.next;simp(disch:=omega)only[↓RD,RZ,eq_self,seval];exact⟨zlb g3 (by rw[yai];exact hzl) (yaj _) (by omega),⟨by omega,λi hi=>by rw[s3.same i (by omega) (by omega),s2 i (by omega),s1.same i (by omega)]⟩⟩
def zcU(l:List Nat):V.okc (.agg (l.map by8))=true:=by
 simp only[V.okc,yc0,yaL]
 try (intro x _;rfl)
def zaA(cs:List V):V.cells (.agg cs)=cs:=rfl
def sp32{l:List Nat}(hl:l.length=32):splice [(),(),(),(),(),(),(),(),(),(),(),(),(),(),(),(),(),(),(),(),(),(),(),(),(),(),(),(),(),(),(),()] 0 (l.map by8)=l.map by8:=by
 unfold splice;rw[ya8,yaY,yai,hl];simp
def spr32{l:List Nat}(hl:l.length=32):splice (List.replicate 32 (V.int .u8 0)) 0 (l.map by8)=l.map by8:=sp32 hl
def ld32{l:List Nat}(hl:l.length=32):ldc (some 32) (l.map by8) 0=some (.agg (l.map by8)):=by
 rw[ze1 (by rw[yai];omega),yaC,yal (by rw[yai];omega)]
def zo2{n id:Nat}:zat (.arr n) 1 (.ptr id 0) none none none=some (.sl id 0 n (.fix n)):=by
 simp only[zat,zbP,Option.bind_some,ya0];rw[if_neg (by simp),if_pos (by simp)];simp
def zls{id n:Nat}{H:Heap}{ty:TypeId}{cs:List V}{o:Option Nat} (h:H.get id=some ⟨ty,cs,o⟩) (hl:cs.length=n) (h1:id<H.next):Lc 1 0 H (.sl id 0 n (.fix n)) cs n:=by
 subst hl;refine⟨?_,λi hi=>by simp only[V.pid,yaa]at hi;subst hi;exact⟨yaI _,h1⟩,yaj _⟩;simp only[rcells,h,Option.bind_some];rw[if_pos (by simp),yaC,yal (by simp)]
def zpn(ks:List UInt32)(key:List Nat):(zf7 ks key).length<=64:=by
 unfold zf7;split
 ·rw[zlj];omega
 ·omega
def zqf(ks:List UInt32){key:List Nat}(h:Ok8 key):Ok8 (zf7 ks key):=by
 unfold zf7;split
 ·exact zwM _ _
 ·exact h
def kpad_8(ks:List UInt32){key:List Nat}{x:Nat}(h:Ok8 key)(hx:x<256):Ok8 (kpad ks key x):=by
 unfold kpad;intro y hy;obtain⟨z,hz,rfl⟩:=ya3.1 hy;exact zcE ((zqf ks h).app (Ok8.rep _) z hz) hx
def zmY{H:Heap}{lo lo':Nat}{kv v:V}{key:List Nat}{vs:List V} {ps:List (List Nat)} (hk:By lo H kv key) (hk8:Ok8 key) (hkl:key.length<=1099511627776) (hv:Lc 1 lo' H v vs vs.length) (hp:Pts 0 H vs ps) (hvn:vs.length<=1000) (hlen:ps.flatten.length<=1099511627776) :
  Ok (sem T zgM [kv,v]) H λr H'=>r = .agg ((hmac kc key ps.flatten).map by8)/\Grow H H':=by
 refine zxq ?_;unfold zun uL uS uT uB uO uA uR uK uc ub ug;have s1:=Grow.new H ⟨zak,[(),(),(),(),(),(),(),(),(),(),(),(),(),(),(),(),(),(),(),(),(),(),(),(),(),(),(),(),(),(),(),()],none⟩;have gr:(H.new ⟨zak,[(),(),(),(),(),(),(),(),(),(),(),(),(),(),(),(),(),(),(),(),(),(),(),(),(),(),(),(),(),(),(),()],none⟩).get H.next=some ⟨zak,List.replicate 32 (.int .u8 0),none⟩:=zae _ _;have nr:(H.new ⟨zak,[(),(),(),(),(),(),(),(),(),(),(),(),(),(),(),(),(),(),(),(),(),(),(),(),(),(),(),(),(),(),(),()],none⟩).next=H.next+1:=zac _ _;have hkvl:=hk.vlen;have hvl:=hv.vlen;simp(disch:=omega)only[↓RD,RZ,hkvl];generalize hrb:H.next=rb at *;generalize H.new _=H1 at *;have hk1:=hk.ext s1;refine zao (Q:=λr H'=>∃kv',r = .nrm [kv']/\By 0 H' kv' (zf7 kc key)/\Grow H1 H') ?_ ?_
 ·refine zcm (λh=>?_) λh=>?_
  ·have hc:=hk1.cells1;have ho:=hk1.okc;have s2:=Grow.new H1 ⟨zam,[kv],none⟩;have l2:Lc 1 0 (H1.new ⟨zam,[kv],none⟩) (.sl H1.next 0 1 (.fix 1)) [kv] 1:=zls (zae _ _) rfl (by rw[zac];omega);have p2:Pts 0 (H1.new ⟨zam,[kv],none⟩) [kv] [key]:=Pts.cons ((hk1.ext s2).low (yaI _)) hk8 Pts.nil;simp(disch:=first|omega|(simp only[RY]<;>omega)|decide)only[↓RD,RZ,eq_self,Int.reduceToNat,Int.reduceAdd,Nat.reduceAdd,Nat.reduceSub,Nat.reduceMul,Nat.reduceLeDiff,hc,ho];generalize H1.new _=H2 at *;refine zaf (Of_ok l2 p2 (by simp) (by simp;omega)) ?_;rintro _ H3 ⟨rfl,s3⟩;have ef:[key].flatten=key:=by simp
   rw[ef];have hsl:=zlj kc key;have hml:((sha kc key).map by8).length=32:=by rw[yai,hsl]
   have hsp:=sp32 hsl;simp(disch:=first|omega|(simp only[RY]<;>omega)|decide)only[↓RD,RZ,eq_self,Int.reduceToNat,Int.reduceAdd,Nat.reduceAdd,Nat.reduceSub,Nat.reduceMul,Nat.reduceLeDiff,zcU,zaA,hml,hsp,zo2];refine⟨_,rfl,?_,s2.trans (s3.trans ((Grow.new _ _).set (yaj _) _))⟩;have ek:zf7 kc key=sha kc key:=if_pos (by omega);rw[ek];exact zlb (zah _ _ _) hsl (yaI _) (by rw[zal,zac];omega)
  ·simp(disch:=omega)only[↓RD,RZ];have ek:zf7 kc key=key:=if_neg (by omega);rw[ek];exact⟨kv,rfl,hk1.low (yaI _),Grow.refl _⟩
 ·rintro _ H2 ⟨kv',rfl,hk2,s2⟩;have g2:=s1.trans s2;simp(disch:=omega)only[↓RD,RZ];refine zaf New_ok ?_;rintro _ H3 ⟨s,F,rfl,k3,hF,s3⟩;simp(disch:=omega)only[↓RD,RZ];refine zaf (pad_ok (x:=54) (hk2.ext s3) (zqf kc hk8) (zpn _ _) (by omega)) ?_;rintro pv H4 ⟨hpv,s4⟩;have k4:=k3.grow s4;have hF3:∀i∈F,i<H3.next:=k3.low;simp(disch:=omega)only[↓RD,RZ];have hin:(zf7 kc key++List.replicate (64-(zf7 kc key).length) 0).map (· ^^^ 54)=kpad kc key 0x36:=rfl;rw[hin]at hpv;have hinl:=zua kc (key:=key) 0x36;refine zaf (zuN k4 hpv (kpad_8 kc hk8 (by omega)) (λi hi hc=>by have h1:=(hpv.own i hi).1;have h2:=hF3 i hc;omega) (by rw[hinl];simp)) ?_;rintro _ H5 ⟨rfl,F5,k5,s5⟩;rw[yaY]at k5;have n3:=s3.next;have n4:=s4.next;have n5:=s5.next;have hF5:∀i∈F5,H2.next<=i:=λi hi=>by
   rcases s5.own i hi with h|h
   ·exact hF i h
   ·omega
  have g5:Grow H2 H5:=⟨by omega,λi hi=>by rw[s5.same i (by omega) (λhc=>by have:=hF i hc;omega),s4.same i (by omega),s3.same i hi]⟩;simp(disch:=omega)only[↓RD,RZ,hvl];refine zao (Q:=λr H'=>r = .ex 0 []/\∃F',Str H' s (kpad kc key 0x36++ps.flatten) F'/\(∀i∈F',H2.next<=i)/\Grow H2 H') ?_ ?_
  ·refine zaQ (λj L H'=>L=[.int .i64 (j:Nat)]/\∃F',Str H' s (kpad kc key 0x36++(ps.take j).flatten) F'/\(∀i∈F',H2.next<=i)/\Grow H2 H') vs.length ?_ ?_ ?_
   ·exact⟨rfl,F5,by simpa using k5,hF5,g5⟩
   ·rintro j L H6 hj ⟨rfl,F',k6,hF6,s6⟩;have g6:Grow H H6:=g2.trans s6;have hx:vs[j]?=some vs[j]:=yaf hj;have hq:ps[j]?=some (ps[j]'(by rw[<-hp.1];exact hj)):=yaf _;obtain⟨hby,h8⟩:=hp.2 j _ _ hx hq;obtain⟨p,ip,lp⟩:=zyx (hv.ext g6) hj hx;have hl1:=zdI ps (j+1);have hft:=zgT hq;rw[hft,yag]at hl1;have n2:=g2.next;unfold zlG uB uIM uA uK uc ug;simp(disch:=omega)only[↓RD,RZ,ip,lp];refine zaf (zuN k6 (hby.ext g6) h8 (λi hi hc=>by have h1:=(hby.own i hi).2;have h2:=hF6 i hc;omega) (by rw[yag,hinl];omega)) ?_;rintro _ H7 ⟨rfl,F7,k7,s7⟩;rw[yaO,<-hft]at k7;have n6:=s6.next;simp(disch:=omega)only[↓RD,RZ];refine⟨rfl,F7,k7,λi hi=>?_,⟨yay s6.next s7.next,λi hi=>by rw[s7.same i (by omega) (λhc=>by have:=hF6 i hc;omega),s6.same i hi]⟩⟩;rcases s7.own i hi with h|h
    ·exact hF6 i h
    ·omega
   ·rintro L H6 ⟨rfl,F',k6,hF6,s6⟩;unfold zlG uB uIM uA uK uc ug;simp(disch:=omega)only[↓RD,RZ];refine⟨F',?_,hF6,s6⟩;rw[hp.1,ya6]at k6;exact k6
  ·rintro _ H6 ⟨rfl,F6,k6,hF6,s6⟩;have n6:=s6.next;simp(disch:=omega)only[↓RD,RZ];refine zaf (Sum_ok k6 (by rw[yag,hinl];omega)) ?_;rintro _ H7 ⟨rfl,s7⟩;have n7:=s7.next;have g7:Grow H2 H7:=⟨by omega,λi hi=>by rw[s7.same i (by omega) (λhc=>by have:=hF6 i hc;omega),s6.same i hi]⟩;have hsl:=zlj kc (kpad kc key 0x36++ps.flatten);have hs8:=zwM kc (kpad kc key 0x36++ps.flatten);have hml:((sha kc (kpad kc key 0x36++ps.flatten)).map by8).length=32:=by rw[yai,hsl]
   have hsp:=sp32 hsl;have hb8:By 0 ((H7.new ⟨zak,[(),(),(),(),(),(),(),(),(),(),(),(),(),(),(),(),(),(),(),(),(),(),(),(),(),(),(),(),(),(),(),()],none⟩).set H7.next (some ⟨zak,(sha kc (kpad kc key 0x36++ps.flatten)).map by8,none⟩)) (.sl H7.next 0 32 (.fix 32)) (sha kc (kpad kc key 0x36++ps.flatten)):=zlb (zah _ _ _) hsl (yaI _) (by rw[zal,zac];omega);have s8:Grow H7 ((H7.new ⟨zak,[(),(),(),(),(),(),(),(),(),(),(),(),(),(),(),(),(),(),(),(),(),(),(),(),(),(),(),(),(),(),(),()],none⟩).set H7.next (some ⟨zak,(sha kc (kpad kc key 0x36++ps.flatten)).map by8,none⟩)):=(Grow.new _ _).set (yaj _) _;simp(disch:=first|omega|(simp only[RY]<;>omega)|decide)only[↓RD,RZ,eq_self,Int.reduceToNat,Int.reduceAdd,Nat.reduceAdd,Nat.reduceSub,Nat.reduceMul,Nat.reduceLeDiff,zcU,zaA,hml,hsp,zo2];generalize (H7.new _).set _ _=H8 at *;refine zaf (pad_ok (x:=92) ((hk2.ext g7).ext s8) (zqf kc hk8) (zpn _ _) (by omega)) ?_;rintro ov H9 ⟨hov,s9⟩;have hout:(zf7 kc key++List.replicate (64-(zf7 kc key).length) 0).map (· ^^^ 92)=kpad kc key 0x5c:=rfl;rw[hout]at hov;have houtl:=zua kc (key:=key) 0x5c;have hc9:=hov.cells1;have ho9:=hov.okc;have s10:=Grow.new H9 ⟨zam,[ov,.sl H7.next 0 32 (.fix 32)],none⟩;have l10:Lc 1 0 (H9.new ⟨zam,[ov,.sl H7.next 0 32 (.fix 32)],none⟩) (.sl H9.next 0 2 (.fix 2)) [ov,.sl H7.next 0 32 (.fix 32)] 2:=zls (zae _ _) rfl (by rw[zac];omega);have p10:Pts 0 (H9.new ⟨zam,[ov,.sl H7.next 0 32 (.fix 32)],none⟩) [ov,.sl H7.next 0 32 (.fix 32)] [kpad kc key 0x5c,sha kc (kpad kc key 0x36++ps.flatten)]:=
    Pts.cons ((hov.ext s10).low (yaI _)) (kpad_8 kc hk8 (by omega)) (Pts.cons ((hb8.ext s9).ext s10) hs8 Pts.nil)
   simp(disch:=first|omega|(simp only[RY]<;>omega)|decide)only[↓RD,RZ,eq_self,Int.reduceToNat,Int.reduceAdd,Nat.reduceAdd,Nat.reduceSub,Nat.reduceMul,Nat.reduceLeDiff,hc9,ho9];generalize H9.new _=H10 at *;refine zaf (Of_ok l10 p10 (by simp) (by simp[houtl,hsl])) ?_;rintro _ H11 ⟨rfl,s11⟩;have ef:[kpad kc key 0x5c,sha kc (kpad kc key 0x36++ps.flatten)].flatten=kpad kc key 0x5c++sha kc (kpad kc key 0x36++ps.flatten):=by simp
   rw[ef];have eh:sha kc (kpad kc key 0x5c++sha kc (kpad kc key 0x36++ps.flatten))=hmac kc key ps.flatten:=rfl;rw[eh];have hhl:=zem kc key ps.flatten;have g11:Grow H1 H11:=s2.trans (g7.trans (s8.trans (s9.trans (s10.trans s11))));have gr11:=(g11.same rb (by omega)).trans gr;have hml2:((hmac kc key ps.flatten).map by8).length=32:=by rw[yai,hhl]
   have hsp2:=spr32 hhl;have l32:=ld32 hhl;have hrl:(List.replicate 32 (V.int .u8 0)).length=32:=rfl;simp(disch:=first|omega|(simp only[RY]<;>omega)|decide)only[↓RD,RZ,eq_self,Int.reduceToNat,Int.reduceAdd,Nat.reduceAdd,Nat.reduceSub,Nat.reduceMul,Nat.reduceLeDiff,gr11,zcU,zaA,hml2,hsp2,l32,hrl];have n11:=g11.next;exact⟨by rw[zal];omega,λi hi=>by rw[zai _ _ (by omega),g11.same i (by omega),s1.same i (by omega)]⟩
def Ab.nil{lo:Nat}{H:Heap}:Ab lo H .nils []:=.app .nil
def zlP{H:Heap}{lo lo':Nat}{sv kv:V}{salt key:List Nat}(hs:By lo H sv salt)(hs8:Ok8 salt)(hsl:salt.length<=1099511627776)(hk:By lo' H kv key)(hk8:Ok8 key)(hkl:key.length<=1099511627776) :
  Ok (sem T zbQ [sv,kv]) H λr H'=>r = .agg ((hmac kc salt key).map by8)/\Grow H H':=by
 refine zoC ?_;unfold zkU uS uT uO uA uR;have hc:=hk.cells1;have ho:=hk.okc;have s1:=Grow.new H ⟨zak,[(),(),(),(),(),(),(),(),(),(),(),(),(),(),(),(),(),(),(),(),(),(),(),(),(),(),(),(),(),(),(),()],none⟩;have gr:(H.new ⟨zak,[(),(),(),(),(),(),(),(),(),(),(),(),(),(),(),(),(),(),(),(),(),(),(),(),(),(),(),(),(),(),(),()],none⟩).get H.next=some ⟨zak,List.replicate 32 (.int .u8 0),none⟩:=zae _ _;have nr:(H.new ⟨zak,[(),(),(),(),(),(),(),(),(),(),(),(),(),(),(),(),(),(),(),(),(),(),(),(),(),(),(),(),(),(),(),()],none⟩).next=H.next+1:=zac _ _;simp(disch:=first|omega|(simp only[RY]<;>omega)|decide)only[↓RD,RZ,eq_self,Int.reduceToNat,Int.reduceAdd,Nat.reduceAdd,Nat.reduceSub,Nat.reduceMul,Nat.reduceLeDiff,hc,ho];generalize hrb:H.next=rb at *;generalize H.new _=H1 at *;have s2:=Grow.new H1 ⟨zam,[kv],none⟩;have l2:Lc 1 0 (H1.new ⟨zam,[kv],none⟩) (.sl H1.next 0 1 (.fix 1)) [kv] 1:=zls (zae _ _) rfl (by rw[zac];omega);have p2:Pts 0 (H1.new ⟨zam,[kv],none⟩) [kv] [key]:=Pts.cons (((hk.ext s1).ext s2).low (yaI _)) hk8 Pts.nil;rw[nr]at l2;generalize H1.new _=H2 at *;have ef:[key].flatten=key:=by simp
 refine zaf (zmY ((hs.ext s1).ext s2) hs8 hsl l2 p2 (by simp) (by rw[ef];exact hkl)) ?_;rintro _ H3 ⟨rfl,s3⟩;rw[ef];have hhl:=zem kc salt key;have g3:Grow H1 H3:=s2.trans s3;have gr3:=(g3.same rb (by omega)).trans gr;have hml2:((hmac kc salt key).map by8).length=32:=by rw[yai,hhl]
 have hsp2:=spr32 hhl;have l32:=ld32 hhl;have hrl:(List.replicate 32 (V.int .u8 0)).length=32:=rfl;have n3:=g3.next;simp(disch:=first|omega|(simp only[RY]<;>omega)|decide)only[↓RD,RZ,eq_self,Int.reduceToNat,Int.reduceAdd,Nat.reduceAdd,Nat.reduceSub,Nat.reduceMul,Nat.reduceLeDiff,gr3,zcU,zaA,hml2,hsp2,l32,hrl];exact⟨by rw[zal];omega,λi hi=>by rw[zai _ _ (by omega),g3.same i (by omega),s1.same i (by omega)]⟩
def zgG{H:Heap}(n k:Nat)(hn:n<18446744073709551616)(hk:k<=16):Ok (sem T zbm [.int .u64 (n:Nat),.int .i64 (k:Nat)]) H λr H'=>Ab H.next H' r (num n k)/\Grow H H':=by
 refine znm ?_;unfold zjx uB uR uc ug;simp(disch:=omega)only[↓RD,RZ];refine zaQ (λm L H'=>∃w,L=[w,.int .i64 ((k:Int)-1-(m:Nat))]/\Ab H.next H' w ((bn k n).take m)/\Bel H.next H H') k ?_ ?_ ?_
 ·exact⟨.nils,by simp,Ab.nil,Bel.refl _ _⟩
 ·rintro m L H1 hm ⟨w,rfl,ha,hb⟩;have e1:(k:Int)-1-(m:Nat)=((k-1-m:Nat):Int):=by omega
  have e2:(8:Int)*((k-1-m:Nat):Int)=((8*(k-1-m):Nat):Int):=by omega
  have e3:shr n (8*(k-1-m))=n/256 ^ (k-1-m):=by rw[zif,yah,yds]
  have hlo1:=hb.next;have hbg:=bn_get k n m hm;rw[e1];generalize hw:k-1-m=w' at *;have e8:IntKind.u8.wrap ((n/256 ^ w':Nat):Int)=((n/256 ^ w'%256:Nat):Int):=by rw[wrap_u8];rfl
  unfold zeM uL uB uK uc ub ug;simp(disch:=omega)only[↓RD,RZ,e2,e3,e8];refine okb_ab (m:=[n/256 ^ w'%256]) (ha.keep ((Grow.new _ _).keep _)) (by rw[zac];omega) (zcD rfl) (by rw[yaq,bn_len];simp;omega) λw2 H2 h2 hb2=>?_;simp(disch:=omega)only[↓RD,RZ];refine⟨w2,by rw[show((w':Nat):Int)-1=(k:Int)-1-((m+1:Nat):Int) by omega],?_,hb.trans (((Grow.new _ _).bel (by omega)).trans hb2)⟩;rw[take_snoc (by rw[bn_len];exact hm),hbg];exact h2
 ·rintro L H1 ⟨w,rfl,ha,hb⟩;have e1:(k:Int)-1-(k:Nat) = -1:=by omega
  rw[e1];unfold zeM uL uB uK uc ub ug;simp(disch:=omega)only[↓RD,RZ];rw[yal (by rw[bn_len];exact yaj _)]at ha;exact⟨ha,hb.grow⟩
def zuK{H:Heap}{lo lo':Nat}{sv iv:V}{zaV info:List Nat}{n:Nat}(hs:By lo H sv zaV)(hs8:Ok8 zaV)(hsl:zaV.length<=1099511627776)(hi:By lo' H iv info)(hi8:Ok8 info)(hil:info.length<=1099511000000)(hn:n<=8160) :
  Ok (sem T zbv [sv,iv,.int .i64 (n:Nat)]) H λr H'=>∃v,r = .tup [v,.int .i64 0]/\By H.next H' v ((hkdf kc zaV info ((n+31)/32)).1.take n)/\Grow H H'/\(0<n->∃id,v = .sl id 0 n (.opn 1)/\H'.get id=some ⟨zad,((hkdf kc zaV info ((n+31)/32)).1.take n).map by8,some 1⟩/\H.next<=id/\id<H'.next):=by
 refine zp8 ?_;unfold zl8 uL uB uR uK uc ub ug;simp(disch:=omega)only[↓RD,RZ,eq_self,seval];refine zao (Q:=λr H'=>∃w,r = .ex 1 [w]/\Ab H.next H' w (hkdf kc zaV info ((n+31)/32)).1/\Grow H H') ?_ ?_
 ·refine zaQ (λj L H'=>∃w l,L=[w,l,.int .u8 ((j+1)%256:Nat)]/\Ab H.next H' w (hkdf kc zaV info j).1/\By 0 H' l (hkdf kc zaV info j).2/\Grow H H') ((n+31)/32) ?_ ?_ ?_
  ·exact⟨.nils,.nils,rfl,Ab.nil,Lc.nil,Grow.refl _⟩
  ·rintro j L H1 hj ⟨w,l,rfl,aw,al,s1⟩;have hwl:=aw.by.vlen;have h1:=zf8 kc zaV info j;have h2:=zjU kc zaV info j;rw[h1]at hwl;have hjn:((32*j:Nat):Int)<((n:Nat):Int):=by omega
   have hj1:(j+1)%256=j+1:=yav (by omega);have hlc:=al.cells1;have hlo:=al.okc;have hic:=hi.cells1;have hio:=hi.okc;have s2:=Grow.new H1 ⟨zad,[.int .u8 (j+1:Nat)],none⟩;have b2:By 0 (H1.new ⟨zad,[.int .u8 (j+1:Nat)],none⟩) (.sl H1.next 0 1 (.fix 1)) [j+1]:=zlb (l:=[j+1]) (zae _ _) rfl (yaI _) (by rw[zac];omega);have n1:=s1.next;rw[hj1];unfold zgw uL uT uB uO uA uK ub ug;simp(disch:=omega)only[↓RD,RZ,eq_self,seval,hwl,hjn,hlc,hlo,hic,hio];have n2e:(H1.new ⟨zad,[.int .u8 (j+1:Nat)],none⟩).next=H1.next+1:=zac _ _;generalize hb:V.sl H1.next 0 1 (.fix 1)=bv at *;generalize H1.new _=H2 at *;have s3:=Grow.new H2 ⟨zam,[l,iv,bv],none⟩;have l3:Lc 1 0 (H2.new ⟨zam,[l,iv,bv],none⟩) (.sl H2.next 0 3 (.fix 3)) [l,iv,bv] 3:=zls (zae _ _) rfl (by rw[zac];omega);have p3:Pts 0 (H2.new ⟨zam,[l,iv,bv],none⟩) [l,iv,bv] [(hkdf kc zaV info j).2,info,[j+1]]:=
    Pts.cons ((al.ext s2).ext s3) h2.2 (Pts.cons ((((hi.ext s1).ext s2).ext s3).low (yaI _)) hi8 (Pts.cons (b2.ext s3) (λx hx=>by simp only[yau,yaw,or_false]at hx;omega) Pts.nil))
   have n2:=s2.next;rw[n2e]at l3;generalize hv3:V.sl (H1.next+1) 0 3 (.fix 3)=v3 at *;generalize H2.new _=H3 at *;have ef:[(hkdf kc zaV info j).2,info,[j+1]].flatten=(hkdf kc zaV info j).2++info++[j+1]:=by simp
   have hl2:(hkdf kc zaV info j).2.length<=32:=by
    cases j with
    | zero=>simp[hkdf]
    | succ j=>exact Nat.le_of_eq (zem _ _ _)
   have n3:=s3.next;have s13:Grow H H3:=s1.trans (s2.trans s3);refine zaf (zmY (hs.ext s13) hs8 hsl l3 p3 (by simp) (by rw[ef];simp only[yag,List.length_cons,List.length_nil];omega)) ?_;rintro _ H4 ⟨rfl,s4⟩;rw[ef];have eh:(hkdf kc zaV info (j+1)).2=hmac kc zaV ((hkdf kc zaV info j).2++info++[j+1]):=rfl;have eh1:(hkdf kc zaV info (j+1)).1=(hkdf kc zaV info j).1++hmac kc zaV ((hkdf kc zaV info j).2++info++[j+1]):=rfl;rw[<-eh];rw[<-eh]at eh1;have hhl:(hkdf kc zaV info (j+1)).2.length=32:=zem _ _ _;have h28:=(zjU kc zaV info (j+1)).2;generalize (hkdf kc zaV info (j+1)).2=tg at *;have hml2:(tg.map by8).length=32:=by rw[yai,hhl]
   have hsp2:=sp32 hhl;have b5:By 0 ((H4.new ⟨zak,[(),(),(),(),(),(),(),(),(),(),(),(),(),(),(),(),(),(),(),(),(),(),(),(),(),(),(),(),(),(),(),()],none⟩).set H4.next (some ⟨zak,tg.map by8,none⟩)) (.sl H4.next 0 32 (.fix 32)) tg:=zlb (zah _ _ _) hhl (yaI _) (by rw[zal,zac];omega);have s5:Grow H4 ((H4.new ⟨zak,[(),(),(),(),(),(),(),(),(),(),(),(),(),(),(),(),(),(),(),(),(),(),(),(),(),(),(),(),(),(),(),()],none⟩).set H4.next (some ⟨zak,tg.map by8,none⟩)):=(Grow.new _ _).set (yaj _) _;have n4:=s4.next;simp(disch:=omega)only[↓RD,RZ,eq_self,seval,zcU,zaA,hml2,hsp2,zo2];generalize hv5:V.sl H4.next 0 32 (.fix 32)=v5 at *;have hd5:∀i,w.pid=some i->v5.pid≠some i:=λi h=>by
    rw[<-hv5];have:=(aw.by.own i h).2;simp only[V.pid,ne_eq,yaa];omega
   generalize (H4.new _).set _ _=H5 at *;have s15:Grow H1 H5:=s2.trans (s3.trans (s4.trans s5));have n5:=s5.next;refine okb_ab' (aw.keep (s15.keep _)) (by omega) b5.ac (by rw[h1,hhl];omega) λw' H6 aw6 b6 s6=>?_;have ew:IntKind.u8.wrap (((j+1:Nat):Int)+1)=(((j+1+1)%256:Nat):Int):=by rw[wrap_u8];rfl
   simp(disch:=omega)only[↓RD,RZ,eq_self,seval,ew];refine⟨w',v5,rfl,?_,?_,⟨by have:=b6.next;omega,λi hi=>by rw[b6.same i hi,s15.same i (by omega),s1.same i hi]⟩⟩
   ·rw[eh1];exact aw6
   ·exact b5.stepF s6 λi hi hF=>hd5 i (zbK.1 hF) hi
  ·rintro L H1 ⟨w,l,rfl,aw,al,s1⟩;have hwl:=aw.by.vlen;rw[zf8]at hwl;have hjn:((n:Nat):Int)<=((32*((n+31)/32):Nat):Int):=by omega
   unfold zgw uL uT uB uO uA uK ub ug;simp(disch:=omega)only[↓RD,RZ,eq_self,seval,hwl,hjn];exact⟨w,rfl,aw,s1⟩
 ·rintro _ H1 ⟨w,rfl,aw,s1⟩;have hwl:=zf8 kc zaV info ((n+31)/32);obtain⟨va,-,ha,-,hva,pa⟩:=by_slice aw.by (x:=0) (y:=((n:Nat):Int)) (by omega) (by omega) (by rw[hwl];omega);have ha2:∀{k':IntKind},zat .sl 1 w none (some (.int k' ((n:Nat):Int))) none=some va:=ha rfl;have e0:(0:Int).toNat=0:=rfl;rw[e0,yaC,yao,ycl]at hva;have n1:=s1.next;simp(disch:=omega)only[↓RD,RZ,eq_self,seval,ha2];have hln:((hkdf kc zaV info ((n+31)/32)).1.take n).length=n:=by rw[yaq,hwl];omega
  refine zsO hva.ac (by rw[yai,ya9]) (by rw[hln];omega) (by rw[hln];omega) λv' H2 o2 t2 f2=>?_;have a2:Ab H1.next H2 v' ((hkdf kc zaV info ((n+31)/32)).1.take n):=.app (.opn o2 f2);have b2:Grow H1 H2:=⟨t2.next,λi hi=>t2.same i hi (by simp)⟩;simp(disch:=omega)only[↓RD,RZ,eq_self,seval];refine⟨v',rfl,a2.by.low (by omega),s1.trans b2,λh0=>?_⟩;rcases o2 with⟨rfl,-,h⟩|⟨id,rfl,hg,-⟩
  ·rw[hln]at h;omega
  ·have:=f2 id rfl;exact⟨id,by rw[hln],hg,by omega,by omega⟩
def zon{H:Heap}{lo lo':Nat}{sv iv:V}{zaV info:List Nat}{n:Nat}(hs:By lo H sv zaV)(hs8:Ok8 zaV)(hsl:zaV.length<=1099511627776)(hi:By lo' H iv info)(hi8:Ok8 info)(hil:info.length<=1099511000000)(hn:n<=8160) :
  Ok (sem T zbv [sv,iv,.int .i64 (n:Nat)]) H λr H'=>∃v,r = .tup [v,.int .i64 0]/\By H.next H' v ((hkdf kc zaV info ((n+31)/32)).1.take n)/\Grow H H':=by
 refine zao (zuK hs hs8 hsl hi hi8 hil hn) ?_;rintro r H' ⟨v,e,h,g,_⟩;exact⟨v,e,h,g⟩
/-! Products with three,boxes,computed. -/
def tchk(n:Nat):Bool:=match Cp.cs 3 zbT [by8 n,.int .u8 3]with
 | some (.int .u8 k)=>k==((t3 n:Nat):Int)
 | _=>false
def zwp:(List.range 256).all tchk=true:=by kernel_rfl
def times_eq{n:Nat}(h:n<256):sem T zbT [by8 n,.int .u8 3]=M.pure (by8 (t3 n)):=by
 have h1:=yaL.1 zwp n (ya2.2 h);unfold tchk at h1;split at h1
 ·rename_i b hb;rw[zqC hb];simp only[beq_iff_eq]at h1;rw[h1];rfl
 ·cases h1
def bchk(n:Nat):Bool:=match Cp.cs 3 zbS [by8 n]with
 | some (.int .u8 k)=>k==((bx n:Nat):Int)
 | _=>false
def box_all:(List.range 256).all bchk=true:=by kernel_rfl
def box_eq{n:Nat}(h:n<256):sem T zbS [by8 n]=M.pure (by8 (bx n)):=by
 have h1:=yaL.1 box_all n (ya2.2 h);unfold bchk at h1;split at h1
 ·rename_i b hb;rw[zqC hb];simp only[beq_iff_eq]at h1;rw[h1];rfl
 ·cases h1
def bg{l:List Nat}{i:Nat}(h:i<l.length):(l.map by8)[i]?=some (by8 (l.getD i 0)):=by
 rw[yaQ,yaf h,yan,yaf h];rfl
def bga{l:List Nat}{r:List V}{i:Nat}(h:i<l.length):(l.map by8++r)[i]?=some (by8 (l.getD i 0)):=by
 rw[ybL (by rw[yai];exact h),bg h]
def bset{l:List Nat}{r:List V}{i x:Nat}(h:i<l.length):splice (l.map by8++r) i [by8 x]=(l.set i x).map by8++r:=by
 rw[zm3 _ _ _ (by rw[yag,yai];omega),yc4 _ _ (by rw[yai];exact h),<-ydH]
def zo1{a b:Nat}(ha:a<256)(hb:b<256):Ax.bin .xor (by8 a) (by8 b)=some (by8 (a ^^^ b)):=by
 unfold by8;rw[zwe (by omega) (by omega) (by omega) (by omega)];rfl
def ztp{n id off m:Nat}(h:m<n):Ax.iaddr (some n) 1 (.ptr id off) (by8 m)=some (.ptr id (off+m)):=by
 unfold by8;rw[zuj (by omega) (by omega)];simp
def tabC:Bool->List V
 | false=>.int .u32 0 :: .int .i32 0 :: .int .u32 0::List.replicate 256 (.int .u8 0)
 | true=>.int .u32 1 :: .int .i32 0 :: .int .u32 0::sbox.map by8
def zxN{H:Heap}{b k ty:Nat}{x0 x1 x2:V}{r:List V} (hb:H.get b=some ⟨zbp,[.ptr k 0],none⟩) (hk:H.get k=some ⟨ty,x0::x1::x2::((zkK 0).map by8++r),none⟩) (hbk:b≠k) (hbl:b<H.next) (hkl:k<H.next) :
  Ok (sem T zci [.ptr b 0]) H λ_ H'=>H'.get k=some ⟨ty,x0::x1::x2::(sbox.map by8++r),none⟩/\Step H H' [k] [k]:=by
 refine ziq ?_;unfold zeX uM uS uT uNF uI uO uU uA uZ uR uc ub;refine zaL (zdO (by kernel_rfl) ?_);have ez:(V.agg (List.replicate 255 (V.int .u8 0))).cells=List.replicate 255 (V.int .u8 0):=rfl;have s1:=Grow.new H ⟨zcB,List.replicate 255 (.int .u8 0),none⟩;have gp:(H.new ⟨zcB,List.replicate 255 (.int .u8 0),none⟩).get H.next=some ⟨zcB,List.replicate 255 (.int .u8 0),none⟩:=zae _ _;have n1:(H.new ⟨zcB,List.replicate 255 (.int .u8 0),none⟩).next=H.next+1:=zac _ _;have gb1:=(s1.same b hbl).trans hb;have gk1:=(s1.same k hkl).trans hk;show Ok _ (H.new ⟨zcB,List.replicate 255 (.int .u8 0),none⟩) _;generalize hp:H.next=p at *;generalize H.new _=H1 at *;have hpl:=pwl_len;have hp8:=pwl_lt;simp(disch:=omega)only[↓RD,RZ,eq_self,seval];refine zao (Q:=λx H'=>x = .ex 0 []/\H'.get p=some ⟨zcB,pwl.map by8,none⟩/\At1 p H1 H') ?_ ?_
 ·refine zaQ (λj L H'=>∃x,L=[x,.int .i64 (j:Nat)]/\(j<255->x=by8 (pwl.getD j 0))/\H'.get p=some ⟨zcB,(pwl.take j).map by8++List.replicate (255-j) (.int .u8 0),none⟩/\At1 p H1 H') 255 ?_ ?_ ?_
  ·exact⟨_,rfl,λ_=>rfl,gp,At1.refl _ _⟩
  ·rintro j L H2 hj ⟨x,rfl,hx,g2,s2⟩;have hx:=hx hj;subst hx;have hlt:((pwl.take j).map by8).length=j:=by rw[yai,yaq];omega
   have h8:=hp8.getD j;have et:=times_eq h8;have e:=zbX (z:=.int .u8 0) (x:=by8 (pwl.getD j 0)) hlt hj;have hll:((pwl.take j).map by8++List.replicate (255-j) (V.int .u8 0)).length=255:=by rw[yag,hlt,yaH];omega
   unfold zcQ uB uI uA uK uc ub ug;simp(disch:=omega)only[↓RD,RZ,eq_self,seval,g2,e,et,zg4,zcy,hll];refine⟨by omega,_,rfl,λh=>?_,?_,s2.trans (At1.set p _ _)⟩
   ·rw[pwl_step (by omega)]
   ·rw[take_snoc (by omega)];simp
  ·rintro L H2 ⟨x,rfl,hx,g2,s2⟩;unfold zcQ uB uI uA uK uc ub ug;simp(disch:=omega)only[↓RD,RZ,eq_self,seval];refine⟨?_,s2⟩;rw[g2,yal (by omega)];simp
 ·rintro _ H2 ⟨rfl,gp2,s2⟩;have n2:=s2.next;have gb2:=(s2.same b (by omega) (by omega)).trans gb1;have gk2:=(s2.same k (by omega) (by omega)).trans gk1;have hpm:(pwl.map by8).length=255:=by rw[yai,hpl]
  have l255:ldc (some 255) (pwl.map by8) 0=some (.agg (pwl.map by8)):=by rw[ze1 (by omega),yaC,yal (by omega)]
  simp(disch:=omega)only[↓RD,RZ,eq_self,seval,gp2,l255];refine zao (Q:=λx H'=>x = .ex 2 []/\H'.get k=some ⟨ty,x0::x1::x2::((zkK 255).map by8++r),none⟩/\At1 k H2 H') ?_ ?_
  ·refine zaQ (λj L H'=>L=[.int .i64 (j:Nat)]/\H'.get k=some ⟨ty,x0::x1::x2::((zkK j).map by8++r),none⟩/\At1 k H2 H') 255 ?_ ?_ ?_
   ·exact⟨rfl,gk2,At1.refl _ _⟩
   ·rintro j L H3 hj ⟨rfl,g3,s3⟩;have gb3:=(s3.same b (by omega) hbk).trans gb2;have gp3:=(s3.same p (by omega) (by omega)).trans gp2;have e1:=bg (l:=pwl) (i:=j) (by omega);have e2:=bg (l:=pwl) (i:=(255-j)%255) (by rw[hpl];exact ybf _ (by decide));have e3:(255:Int)-(j:Nat)=((255-j:Nat):Int):=by omega
    have e4:((255-j:Nat):Int)%255=(((255-j)%255:Nat):Int):=by omega
    have eb:=box_eq (hp8.getD ((255-j)%255));have h8:=hp8.getD j;have e5:3+pwl.getD j 0=pwl.getD j 0+1+1+1:=by omega
    have e6:=bset (l:=zkK j) (r:=r) (i:=pwl.getD j 0) (x:=bx (pwl.getD ((255-j)%255) 0)) (by rw[zkJ];exact h8);have hlm:((zkK j).map by8++r).length=256+r.length:=by rw[yag,yai,zkJ]
    have hmod:=ybf (255-j) (show 0<255 by decide);have ia:=ztp (id:=k) (off:=3) (n:=256) h8;unfold zcP uL uM uT uNF uB uI uIM uU uA uZ uK uc ug;simp(disch:=omega)only[↓RD,RZ,eq_self,seval,e1,gb3,e3,e4,gp3,e2,eb,ia,e5,g3,zjM,e6,zg4,zcy,hlm];exact⟨by omega,rfl,rfl,s3.trans (At1.set k _ _)⟩
   ·rintro L H3 ⟨rfl,g3,s3⟩;unfold zcP uL uM uT uNF uB uI uIM uU uA uZ uK uc ug;simp(disch:=omega)only[↓RD,RZ,eq_self,seval];exact⟨g3,s3⟩
  ·rintro _ H3 ⟨rfl,g3,s3⟩;have gb3:=(s3.same b (by omega) hbk).trans gb2;have eb:=box_eq (n:=0) (by omega);have n3:=s3.next;have e6:=bset (l:=zkK 255) (r:=r) (i:=0) (x:=bx 0) (by rw[zkJ];omega);rw[zyr]at e6;have hlm:((zkK 255).map by8++r).length=256+r.length:=by rw[yag,yai,zkJ]
   have eb0:sem T zbS [.int .u8 0]=M.pure (by8 (bx 0)):=eb;simp(disch:=omega)only[↓RD,RZ,eq_self,seval,gb3,eb0,g3,zjM,e6,zg4,zcy,hlm];refine⟨by omega,⟨by rw[zal];omega,λi hi hF=>?_,λi hi=>.inl hi⟩⟩;simp only[yas]at hF;rw[zai _ _ hF,s3.same i (by omega) hF,s2.same i (by omega) (by omega),s1.same i (by omega)]
def zxM{H:Heap}{k ty:Nat}{d:Bool}{r:List V} (hk:H.get k=some ⟨ty,tabC d++r,none⟩) (hkl:k<H.next) :
  Ok (sem T zbi [.ptr k 0]) H λx H'=>x = .ptr k 3/\H'.get k=some ⟨ty,tabC true++r,none⟩/\Step H H' [k] [k]:=by
 refine zjR ?_;unfold zgi uM uNF uO uA uR;simp(disch:=omega)only[↓RD,RZ,eq_self,seval];have s1:=Grow.new H ⟨zbp,[.ptr k 0],none⟩;have gb:(H.new ⟨zbp,[.ptr k 0],none⟩).get H.next = _:=zae _ _;have gk:=(s1.same k hkl).trans hk;have nb:H.next<(H.new ⟨zbp,[.ptr k 0],none⟩).next:=by rw[zac];omega
 have hne:H.next≠k:=by omega
 have n1:=s1.next;generalize hgb:H.next=b at *;generalize H.new _=H1 at *;refine zaf (P:=λx H'=>H'.get b=some ⟨zbp,[.ptr k 0],none⟩/\H'.get k=some ⟨ty,tabC true++r,none⟩/\Step H1 H' [k] [k]) ?_ ?_
 ·cases d with
  | true=>
   refine zao (zro gk rfl) ?_;rintro _ _ ⟨rfl,rfl⟩;exact⟨gb,gk,Step.refl _ _⟩
  | false=>
   refine zao (zrn (P:=λH'=>H'.get b=some ⟨zbp,[.ptr k 0],none⟩/\H'.get k=some ⟨ty,tabC true++r,none⟩/\Step H1 H' [k] [k]) gk rfl rfl ?_) ?_
   ·have e0:List.replicate 256 (V.int .u8 0)=(zkK 0).map by8:=by unfold zkK;rw[yce];rfl
    have e1:splice (tabC false++r) (0+1) [.int .i32 1] = .int .u32 0 :: .int .i32 1 :: .int .u32 0::((zkK 0).map by8++r):=by
     rw[<-e0];rfl
    refine zao (zxN (k:=k) (ty:=ty) (x0:=.int .u32 0) (x1:=.int .i32 1) (x2:=.int .u32 0) (r:=r) (by rw[zai _ _ hne];exact gb) (by rw[zah,e1]) hne (by rw[zal];exact nb) (by rw[zal];omega)) ?_;rintro _ H2 ⟨g2,s2⟩;have n2:=s2.next;rw[zal]at n2;have hb2:H2.get b=some ⟨zbp,[.ptr k 0],none⟩:=by rw[s2.same b (by rw[zal];exact nb) (by simpa using hne),zai _ _ hne];exact gb
    refine⟨_,g2,rfl,rfl,?_,?_,?_⟩
    ·rw[zai _ _ hne,zai _ _ hne,hb2]
    ·rw[zah];rfl
    ·exact((Step.set (H:=H1) _ (by simp:k∈[k])).trans s2).trans ((Step.set (H:=H2) _ (by simp:k∈[k])).trans (Step.set _ (by simp)))
   ·rintro _ H2 ⟨_,h2⟩;exact h2
 ·rintro x H2 ⟨g1,g2,s2⟩;simp(disch:=omega)only[↓RD,RZ,eq_self,seval,g1];exact⟨g2,⟨yay (by omega) s2.next,λi hi hF=>by rw[s2.same i (by omega) hF,s1.same i (by omega)],λi hi=>.inl hi⟩⟩
def zvu{H:Heap}{k ty:Nat}{r:List V} (hk:H.get k=some ⟨ty,tabC true++r,none⟩) (hkl:k<H.next) :
  Ok (sem T zbi [.ptr k 0]) H λx H'=>x = .ptr k 3/\Grow H H':=by
 refine zao (zxM hk hkl) ?_;rintro _ H' ⟨rfl,g,s⟩;refine⟨rfl,⟨s.next,λi hi=>?_⟩⟩;by_cases e:i=k
 ·subst e;rw[g,hk]
 ·exact s.same i hi (by simpa using e)
def zpL{n:Nat}(h:n<256):sem T zbf [by8 n]=M.pure (by8 (xt n)):=by
 refine zgE λH=>?_;refine zoG ?_;unfold f_block_twice by8 xt uB uR ub uq;by_cases e:128<=n
 ·have e1:n*2%256<256:=ybf _ (by decide);rw[if_pos e];simp(disch:=omega)only[↓RD,RZ,eq_self,seval]
 ·rw[if_neg e,<-yav (show n*2<256 by omega)];simp(disch:=omega)only[↓RD,RZ,eq_self,seval]
def Aes(H:Heap)(k:Nat) (ws:List (List Nat)):Prop:=∃id,H.get k=some ⟨zaR,tabC true++[.sl id 0 ws.length (.opn 4)],none⟩/\H.get id=some ⟨zaw,ws.flatten.map by8,some 4⟩/\k<H.next/\id<H.next/\∀w∈ws,Word w
def AesB(lo:Nat)(H:Heap)(k:Nat) (ws:List (List Nat)):Prop:=lo<=k/\∃id,(H.get k=some ⟨zaR,tabC true++[.sl id 0 ws.length (.opn 4)],none⟩/\H.get id=some ⟨zaw,ws.flatten.map by8,some 4⟩/\k<H.next/\id<H.next/\∀w∈ws,Word w)/\lo<=id
def AesB.aes{lo:Nat}{H:Heap}{k:Nat} {ws:List (List Nat)} (h:AesB lo H k ws):Aes H k ws:=by
 obtain⟨_,id,h,_⟩:=h;exact⟨id,h⟩
def AesB.keep{lo:Nat}{H H':Heap}{k:Nat} {ws:List (List Nat)} (h:AesB lo H k ws) (g:Keep lo H H'):AesB lo H' k ws:=by
 obtain⟨l,id,⟨h1,h2,h3,h4,h5⟩,m⟩:=h;exact⟨l,id,⟨by rw[g.same k l h3];exact h1,by rw[g.same id m h4];exact h2,yak h3 g.next,yak h4 g.next,h5⟩,m⟩
def AesB.low{lo lo':Nat}{H:Heap}{k:Nat} {ws:List (List Nat)} (h:AesB lo H k ws) (hl:lo'<=lo):AesB lo' H k ws:=by
 obtain⟨l,id,h,m⟩:=h;exact⟨yay hl l,id,h,yay hl m⟩
def Aes.grow{H H':Heap}{k:Nat} {ws:List (List Nat)} (h:Aes H k ws) (g:Grow H H'):Aes H' k ws:=by
 obtain⟨id,h1,h2,h3,h4,h5⟩:=h;exact⟨id,by rw[g.same k h3];exact h1,by rw[g.same id h4];exact h2,yak h3 g.next,yak h4 g.next,h5⟩
def zrG(wv:V):(tabC true++[wv])[259]?=some wv:=by
 rw[ybp (by show(tabC true).length<=259;unfold tabC;simp only[List.length_cons,yai,zki];omega)];have:(tabC true).length=259:=by unfold tabC;simp only[List.length_cons,yai,zki]
 rw[this];rfl
def flat4:∀(ws:List (List Nat)),(∀w∈ws,Word w)->ws.flatten.length=4*ws.length:=by
 intro ws
 induction ws with
 | nil=>intro _;rfl
 | cons w ws ih=>
  intro h;rw[ybi,yag,ih (λw' h'=>h w' (yaS _ h')),(h w (yaU ..)).1,List.length_cons];omega
def flat4_at:∀(ws:List (List Nat)),(∀w∈ws,Word w)->∀j m:Nat,m<4->ws.flatten.getD (j*4+m) 0=(ws.getD j []).getD m 0:=by
 intro ws
 induction ws with
 | nil=>intro _ j m _;simp
 | cons w ws ih=>
  intro h j m hm;have hw:=(h w (yaU ..)).1;cases j with
  | zero=>
   rw[ybi,ybI,ybe,yan,ybL (by omega)];simp
  | succ j=>
   rw[ybi,yan,ybp (by omega),hw,show(j+1)*4+m-4=j*4+m by omega,<-yan,ih (λw' h'=>h w' (yaS _ h')) j m hm];rfl
def zqT {ws:List (List Nat)} (hw:∀w∈ws,Word w) {j m:Nat} (hj:j<ws.length) (hm:m<4):(ws.flatten.map by8)[j*4+m]?=some (by8 ((ws.getD j []).getD m 0)):=by
 rw[bg (by rw[flat4 ws hw];omega),flat4_at ws hw j m hm]
def zwg {ws:List (List Nat)} (hw:∀w∈ws,Word w) (j m:Nat):(ws.getD j []).getD m 0<256:=by
 refine Ok8.getD ?_ _;rw[yan];cases e:ws[j]? with
 | none=>exact Ok8.nil
 | some w=>exact(hw w (ybm e)).2
def zjt{x:List Nat}(h:x.length=16):(x.map by8).length=16:=by rw[yai,h]
def ld16{l:List Nat}(hl:l.length=16):ldc (some 16) (l.map by8) 0=some (.agg (l.map by8)):=by
 rw[ze1 (by rw[yai];omega),yaC,yal (by rw[yai];omega)]
def sp16{l:List Nat}(hl:l.length=16){L:List V}(hL:L.length=16):splice L 0 (l.map by8)=l.map by8:=by
 unfold splice;rw[ya8,yaY,yai,hl,yaV (by omega),yaK]
def zwm{x y:List Nat}{i:Nat}(hx:i<x.length):(y.take i++x.drop i).map by8=(y.take i).map by8++by8 (x.getD i 0)::(x.drop (i+1)).map by8:=by
 rw[yaP hx,yan,yaf hx,yaE,yaT];rfl
def zsp{x y:List Nat}{i:Nat}(hy:i<y.length):(y.take i).map by8++by8 (y.getD i 0)::(x.drop (i+1)).map by8=(y.take (i+1)++x.drop (i+1)).map by8:=by
 rw[take_snoc hy,yaE,yaE];simp
def zdu (ws:List (List Nat)) (r:Nat) (x:List Nat):(addk ws r x).length=16:=by simp[addk]
def zi6(x:List Nat):(movd x).length=16:=by simp[movd]
def zmG(x:List Nat):(mixd x).length=16:=by simp[mixd]
def zuF {ws:List (List Nat)} (hw:∀w∈ws,Word w) {r:Nat} {x:List Nat} (h:Ok8 x):Ok8 (addk ws r x):=Ok8.rmap λi _=>zcE (h.getD i) (zwg hw _ _)
def zpg(x:List Nat):Ok8 (movd x):=Ok8.rmap λi _=>zu8 _
def mixd_8{x:List Nat}(h:Ok8 x):Ok8 (mixd x):=Ok8.rmap λi _=>zcE (zcE (zcE (zcE (zmR (h.getD _)) (zmR (h.getD _))) (h.getD _)) (h.getD _)) (h.getD _)
def add_ok{H:Heap}{k r:Nat} {ws:List (List Nat)} {x:List Nat} (hA:Aes H k ws) (hx:x.length=16) (h8:Ok8 x) (hr:4*r+3<ws.length) (hwl:ws.length<=1000) :
  Ok (sem T zcL [.ptr k 0,.agg (x.map by8),.int .i64 (r:Nat)]) H λres H'=>res = .agg ((addk ws r x).map by8)/\Grow H H':=by
 refine zmo ?_;unfold ziV uS uT uO uR uc;refine zaL (zdO (zcU _) ?_);rw[zaA];have s1:=Grow.new H ⟨zab,x.map by8,none⟩;have g1:(H.new ⟨zab,x.map by8,none⟩).get H.next=some ⟨zab,x.map by8,none⟩:=zae _ _;have n1:(H.new ⟨zab,x.map by8,none⟩).next=H.next+1:=zac _ _;generalize ha:H.next=a at *;generalize H.new _=H1 at *;have s2:=Grow.new H1 ⟨zab,[(),(),(),(),(),(),(),(),(),(),(),(),(),(),(),()],none⟩;have g2:(H1.new ⟨zab,[(),(),(),(),(),(),(),(),(),(),(),(),(),(),(),()],none⟩).get H1.next=some ⟨zab,[(),(),(),(),(),(),(),(),(),(),(),(),(),(),(),()],none⟩:=zae _ _;have n2:(H1.new ⟨zab,[(),(),(),(),(),(),(),(),(),(),(),(),(),(),(),()],none⟩).next=H1.next+1:=zac _ _;have ga2:=(s2.same a (by omega)).trans g1;have hA2:=(hA.grow s1).grow s2;simp(disch:=omega)only[↓RD,RZ,eq_self,seval];generalize hb:H1.next=b at *;generalize H1.new _=H2 at *;obtain⟨id,k1,k2,k3,k4,hw⟩:=hA2;have hkk:k<a/\id<a:=by
  obtain⟨id',k1',k2',k3',k4',hw'⟩:=hA;have e1:=(s2.same k (by omega)).trans ((s1.same k (by omega)).trans k1');rw[k1]at e1;injection e1 with e1
  injection e1 with _ e1 _
  have e2:=List.append_cancel_left e1;injection e2 with e2
  injection e2 with e2
  omega
 refine zao (Q:=λz H'=>z = .ex 0 []/\H'.get a=some ⟨zab,(addk ws r x).map by8,none⟩/\At1 a H2 H') ?_ ?_
 ·refine zaQ (λi L H'=>L=[.int .i64 (i:Nat)]/\H'.get a=some ⟨zab,((addk ws r x).take i++x.drop i).map by8,none⟩/\At1 a H2 H') 16 ?_ ?_ ?_
  ·exact⟨rfl,by simpa using ga2,At1.refl _ _⟩
  ·rintro i L H3 hi ⟨rfl,g3,s3⟩;have gk3:=(s3.same k (by omega) (by omega)).trans k1;have gi3:=(s3.same id (by omega) (by omega)).trans k2;have hal:=zdu ws r x;have hA':(((addk ws r x).take i).map by8).length=i:=by rw[yai,yaq];omega
   rw[zwm (by omega)]at g3;have m1:=zqc (b:=by8 (x.getD i 0)) (C:=(x.drop (i+1)).map by8) hA';have m2:=zqb (b:=by8 (x.getD i 0)) (y:=by8 ((addk ws r x).getD i 0)) (C:=(x.drop (i+1)).map by8) hA';have ml:(((addk ws r x).take i).map by8++by8 (x.getD i 0)::(x.drop (i+1)).map by8).length=16:=by rw[yag,hA',List.length_cons,yai,yat];omega
   have ek:=zrG (.sl id 0 ws.length (.opn 4));have e1:(4:Int)*(r:Nat)=((4*r:Nat):Int):=by omega
   have e2:((i:Nat):Int)/4=((i/4:Nat):Int):=by omega
   have e3:((4*r:Nat):Int)+((i/4:Nat):Int)=((4*r+i/4:Nat):Int):=by omega
   have e4:((i:Nat):Int)%4=((i%4:Nat):Int):=by omega
   have hm4:=ybf i (show 0<4 by decide);have wb:=zqT hw (j:=4*r+i/4) (m:=i%4) (by omega) hm4;have ex:=zo1 (h8.getD i) (zwg hw (4*r+i/4) (i%4));have ea:x.getD i 0 ^^^ (ws.getD (4*r+i/4) []).getD (i%4) 0=(addk ws r x).getD i 0:=by unfold addk;rw[zdQ hi]
   rw[ea]at ex;unfold zeh uT uNFM uB uI uIM uK uc ug;simp(disch:=omega)only[↓RD,RZ,eq_self,seval,g3,m1,gk3,ek,e1,e2,e3,e4,gi3,wb,ex,m2,ml,zg4,zcy];refine⟨by omega,rfl,?_,s3.trans (At1.set a _ _)⟩;rw[zsp (by omega)]
  ·rintro L H3 ⟨rfl,g3,s3⟩;unfold zeh uT uNFM uB uI uIM uK uc ug;simp(disch:=omega)only[↓RD,RZ,eq_self,seval];refine⟨?_,s3⟩;rw[g3,yal (by rw[zdu];omega),yaV (by omega),yaK]
 ·rintro _ H3 ⟨rfl,g3,s3⟩;have n3:=s3.next;have gb3:=(s3.same b (by omega) (by omega)).trans g2;have hal:=zdu ws r x;have l1:=ld16 hal;have l2:=sp16 hal (L:=[(),(),(),(),(),(),(),(),(),(),(),(),(),(),(),()]) rfl;have l3:=zjt hal;simp(disch:=omega)only[↓RD,RZ,eq_self,seval,g3,l1,gb3,zcU,zaA,l2,l3];exact⟨by rw[zal];omega,λi hi=>by rw[zai _ _ (by omega),s3.same i (by omega) (by omega),s2.same i (by omega),s1.same i (by omega)]⟩
def tab_at{wv:V}{n:Nat}(h:n<256):(tabC true++[wv])[3+n]?=some (by8 (sb n)):=by
 have e:tabC true++[wv] = .int .u32 1 :: .int .i32 0 :: .int .u32 0::(sbox.map by8++[wv]):=rfl;rw[e,show 3+n=n+1+1+1 by omega];rw[ybk,ybk,ybk,bga (by rw[zki];exact h)];rfl
def moved_ok{H:Heap}{k:Nat} {ws:List (List Nat)} {x:List Nat} (hA:Aes H k ws) (hx:x.length=16) (h8:Ok8 x) :
  Ok (sem T zcT [.ptr k 0,.agg (x.map by8)]) H λres H'=>res = .agg ((movd x).map by8)/\Grow H H':=by
 refine zkr ?_;unfold zgY uS uT uNF uO uA uR uc;refine zaL (zdO (zcU _) ?_);rw[zaA];have s1:=Grow.new H ⟨zab,x.map by8,none⟩;have g1:(H.new ⟨zab,x.map by8,none⟩).get H.next=some ⟨zab,x.map by8,none⟩:=zae _ _;have n1:(H.new ⟨zab,x.map by8,none⟩).next=H.next+1:=zac _ _;generalize ha:H.next=a at *;generalize H.new _=H1 at *;have s2:=Grow.new H1 ⟨zab,[(),(),(),(),(),(),(),(),(),(),(),(),(),(),(),()],none⟩;have g2:(H1.new ⟨zab,[(),(),(),(),(),(),(),(),(),(),(),(),(),(),(),()],none⟩).get H1.next=some ⟨zab,[(),(),(),(),(),(),(),(),(),(),(),(),(),(),(),()],none⟩:=zae _ _;have n2:(H1.new ⟨zab,[(),(),(),(),(),(),(),(),(),(),(),(),(),(),(),()],none⟩).next=H1.next+1:=zac _ _;have ga2:=(s2.same a (by omega)).trans g1;have hA2:=(hA.grow s1).grow s2;simp(disch:=omega)only[↓RD,RZ];generalize hb:H1.next=b at *;generalize H1.new _=H2 at *;obtain⟨id,k1,k2,k3,k4,hw⟩:=hA2;refine zaf (zvu k1 k3) ?_;rintro _ H3 ⟨rfl,s3⟩;have n3:=s3.next;have gk3:=(s3.same k k3).trans k1;have ga3:=(s3.same a (by omega)).trans ga2;have gb3:=(s3.same b (by omega)).trans g2;have s4:=Grow.new H3 ⟨zab,[(),(),(),(),(),(),(),(),(),(),(),(),(),(),(),()],none⟩;have g4:(H3.new ⟨zab,[(),(),(),(),(),(),(),(),(),(),(),(),(),(),(),()],none⟩).get H3.next=some ⟨zab,List.replicate 16 (.int .u8 0),none⟩:=zae _ _;have n4:(H3.new ⟨zab,[(),(),(),(),(),(),(),(),(),(),(),(),(),(),(),()],none⟩).next=H3.next+1:=zac _ _;have gk4:=(s4.same k (by omega)).trans gk3;have ga4:=(s4.same a (by omega)).trans ga3;have gb4:=(s4.same b (by omega)).trans gb3;simp(disch:=omega)only[↓RD,RZ];generalize hc:H3.next=c at *;generalize H3.new _=H4 at *;have hml:=zi6 x;refine zao (Q:=λz H'=>z = .ex 0 []/\H'.get c=some ⟨zab,(movd x).map by8,none⟩/\At1 c H4 H') ?_ ?_
 ·refine zaQ (λi L H'=>L=[.int .i64 (i:Nat)]/\H'.get c=some ⟨zab,((movd x).take i).map by8++List.replicate (16-i) (.int .u8 0),none⟩/\At1 c H4 H') 16 ?_ ?_ ?_
  ·exact⟨rfl,by simpa using g4,At1.refl _ _⟩
  ·rintro i L H5 hi ⟨rfl,g5,s5⟩;have gk5:=(s5.same k (by omega) (by omega)).trans gk4;have ga5:=(s5.same a (by omega) (by omega)).trans ga4;have hl0:(((movd x).take i).map by8).length=i:=by rw[yai,yaq];omega
   have x0:=zbX (z:=.int .u8 0) (x:=by8 ((movd x).getD i 0)) hl0 hi;have ml:(((movd x).take i).map by8++List.replicate (16-i) (V.int .u8 0)).length=16:=by rw[yag,hl0,yaH];omega
   have e1:((i:Nat):Int)%4=((i%4:Nat):Int):=by omega
   have e2:(4:Int)*((i%4:Nat):Int)=((4*(i%4):Nat):Int):=by omega
   have e3:((i:Nat):Int)+((4*(i%4):Nat):Int)=((i+4*(i%4):Nat):Int):=by omega
   have e4:((i+4*(i%4):Nat):Int)%16=(((i+4*(i%4))%16:Nat):Int):=by omega
   have hm:=ybf (i+4*(i%4)) (show 0<16 by decide);have hm4:=ybf i (show 0<4 by decide);have eg:=bg (l:=x) (i:=(i+4*(i%4))%16) (by omega);have hb8:=h8.getD ((i+4*(i%4))%16);have ia:=ztp (id:=k) (off:=3) (n:=256) hb8;have et:=tab_at (wv:=.sl id 0 ws.length (.opn 4)) hb8;have em:sb (x.getD ((i+4*(i%4))%16) 0)=(movd x).getD i 0:=by unfold movd;rw[zdQ hi]
   rw[em]at et;unfold zdz uT uN uB uI uIM uK uc ug;simp(disch:=omega)only[↓RD,RZ,e1,e2,e3,e4,ga5,eg,ia,gk5,et,g5,x0,ml,zg4,zcy];refine⟨by omega,rfl,?_,s5.trans (At1.set c _ _)⟩;rw[take_snoc (by omega)];simp
  ·rintro L H5 ⟨rfl,g5,s5⟩;unfold zdz uT uN uB uI uIM uK uc ug;simp(disch:=omega)only[↓RD,RZ];refine⟨?_,s5⟩;rw[g5,yal (by omega)];simp
 ·rintro _ H5 ⟨rfl,g5,s5⟩;have n5:=s5.next;have gb5:=(s5.same b (by omega) (by omega)).trans gb4;have l1:=ld16 hml;have l2:=sp16 hml (L:=[(),(),(),(),(),(),(),(),(),(),(),(),(),(),(),()]) rfl;have l3:=zjt hml;simp(disch:=omega)only[↓RD,RZ,eq_self,seval,g5,l1,gb5,zcU,zaA,l2,l3];exact⟨by rw[zal];omega,λi hi=>by rw[zai _ _ (by omega),s5.same i (by omega) (by omega),s4.same i (by omega),s3.same i (by omega),s2.same i (by omega),s1.same i (by omega)]⟩
def mixed_ok{H:Heap}{x:List Nat}(hx:x.length=16)(h8:Ok8 x) :
  Ok (sem T zeu [.agg (x.map by8)]) H λres H'=>res = .agg ((mixd x).map by8)/\Grow H H':=by
 refine zoH ?_;unfold zkZ uS uT uO uR uc;refine zaL (zdO (zcU _) ?_);rw[zaA];have s1:=Grow.new H ⟨zab,x.map by8,none⟩;have g1:(H.new ⟨zab,x.map by8,none⟩).get H.next=some ⟨zab,x.map by8,none⟩:=zae _ _;have n1:(H.new ⟨zab,x.map by8,none⟩).next=H.next+1:=zac _ _;generalize ha:H.next=a at *;generalize H.new _=H1 at *;refine zaL (zdO (by rfl) ?_);have s2:=Grow.new H1 ⟨zab,[(),(),(),(),(),(),(),(),(),(),(),(),(),(),(),()],none⟩;have g2:(H1.new ⟨zab,[(),(),(),(),(),(),(),(),(),(),(),(),(),(),(),()],none⟩).get H1.next=some ⟨zab,[(),(),(),(),(),(),(),(),(),(),(),(),(),(),(),()],none⟩:=zae _ _;have n2:(H1.new ⟨zab,[(),(),(),(),(),(),(),(),(),(),(),(),(),(),(),()],none⟩).next=H1.next+1:=zac _ _;have ga2:=(s2.same a (by omega)).trans g1;rw[zaA];generalize hb:H1.next=b at *;generalize H1.new _=H2 at *;refine zaL (zdO (by rfl) ?_);have s4:=Grow.new H2 ⟨zab,[(),(),(),(),(),(),(),(),(),(),(),(),(),(),(),()],none⟩;have g4:(H2.new ⟨zab,[(),(),(),(),(),(),(),(),(),(),(),(),(),(),(),()],none⟩).get H2.next=some ⟨zab,List.replicate 16 (.int .u8 0),none⟩:=zae _ _;have n4:(H2.new ⟨zab,[(),(),(),(),(),(),(),(),(),(),(),(),(),(),(),()],none⟩).next=H2.next+1:=zac _ _;have ga4:=(s4.same a (by omega)).trans ga2;have gb4:=(s4.same b (by omega)).trans g2;rw[zaA];generalize hc:H2.next=c at *;generalize H2.new _=H4 at *;have hml:=zmG x;simp(disch:=omega)only[↓RD,RZ];refine zao (Q:=λz H'=>z = .ex 0 []/\H'.get c=some ⟨zab,(mixd x).map by8,none⟩/\At1 c H4 H') ?_ ?_
 ·refine zaQ (λi L H'=>L=[.int .i64 (i:Nat)]/\H'.get c=some ⟨zab,((mixd x).take i).map by8++List.replicate (16-i) (.int .u8 0),none⟩/\At1 c H4 H') 16 ?_ ?_ ?_
  ·exact⟨rfl,by simpa using g4,At1.refl _ _⟩
  ·rintro i L H5 hi ⟨rfl,g5,s5⟩;have ga5:=(s5.same a (by omega) (by omega)).trans ga4;have hl0:(((mixd x).take i).map by8).length=i:=by rw[yai,yaq];omega
   have x0:=zbX (z:=.int .u8 0) (x:=by8 ((mixd x).getD i 0)) hl0 hi;have ml:(((mixd x).take i).map by8++List.replicate (16-i) (V.int .u8 0)).length=16:=by rw[yag,hl0,yaH];omega
   have e1:((i:Nat):Int)%4=((i%4:Nat):Int):=by omega
   have e2:((i:Nat):Int)-((i%4:Nat):Int)=((i-i%4:Nat):Int):=by omega
   have f1:(((i:Nat):Int)+1)%4=(((i+1)%4:Nat):Int):=by omega
   have f2:(((i:Nat):Int)+2)%4=(((i+2)%4:Nat):Int):=by omega
   have f3:(((i:Nat):Int)+3)%4=(((i+3)%4:Nat):Int):=by omega
   have k1:((i-i%4:Nat):Int)+(((i+1)%4:Nat):Int)=((i-i%4+(i+1)%4:Nat):Int):=rfl;have k2:((i-i%4:Nat):Int)+(((i+2)%4:Nat):Int)=((i-i%4+(i+2)%4:Nat):Int):=rfl;have k3:((i-i%4:Nat):Int)+(((i+3)%4:Nat):Int)=((i-i%4+(i+3)%4:Nat):Int):=rfl;have m0:i-i%4<=12:=by omega
   have m1:=ybf (i+1) (show 0<4 by decide);have m2:=ybf (i+2) (show 0<4 by decide);have m3:=ybf (i+3) (show 0<4 by decide);have b0:=bg (l:=x) (i:=i) (by omega);have b1:=bg (l:=x) (i:=i-i%4+(i+1)%4) (by omega);have b2:=bg (l:=x) (i:=i-i%4+(i+2)%4) (by omega);have b3:=bg (l:=x) (i:=i-i%4+(i+3)%4) (by omega);have q0:=h8.getD i;have q1:=h8.getD (i-i%4+(i+1)%4);have q2:=h8.getD (i-i%4+(i+2)%4);have q3:=h8.getD (i-i%4+(i+3)%4);have w0:=zpL q0;have w1:=zpL q1;have x1:=zo1 (zmR q0) (zmR q1);have x2:=zo1 (zcE (zmR q0) (zmR q1)) q1;have x3:=zo1 (zcE (zcE (zmR q0) (zmR q1)) q1) q2;have x4:=zo1 (zcE (zcE (zcE (zmR q0) (zmR q1)) q1) q2) q3;have em:xt (x.getD i 0) ^^^ xt (x.getD (i-i%4+(i+1)%4) 0) ^^^ x.getD (i-i%4+(i+1)%4) 0 ^^^ x.getD (i-i%4+(i+2)%4) 0 ^^^ x.getD (i-i%4+(i+3)%4) 0=(mixd x).getD i 0:=by unfold mixd;rw[zdQ hi]
   rw[em]at x4;unfold zfL uM uT uB uI uIM uU uA uZ uK uc ug;simp(disch:=omega)only[↓RD,RZ,e1,e2,f1,f2,f3,k1,k2,k3,ga5,b0,b1,b2,b3,w0,w1,x1,x2,x3,x4,g5,x0,ml,zg4,zcy];refine⟨by omega,rfl,?_,s5.trans (At1.set c _ _)⟩;rw[take_snoc (by omega)];simp
  ·rintro L H5 ⟨rfl,g5,s5⟩;unfold zfL uM uT uB uI uIM uU uA uZ uK uc ug;simp(disch:=omega)only[↓RD,RZ];refine⟨?_,s5⟩;rw[g5,yal (by omega)];simp
 ·rintro _ H5 ⟨rfl,g5,s5⟩;have n5:=s5.next;have gb5:=(s5.same b (by omega) (by omega)).trans gb4;have l1:=ld16 hml;have l2:=sp16 hml (L:=[(),(),(),(),(),(),(),(),(),(),(),(),(),(),(),()]) rfl;have l3:=zjt hml;simp(disch:=omega)only[↓RD,RZ,eq_self,seval,g5,l1,gb5,zcU,zaA,l2,l3];exact⟨by rw[zal];omega,λi hi=>by rw[zai _ _ (by omega),s5.same i (by omega) (by omega),s4.same i (by omega),s2.same i (by omega),s1.same i (by omega)]⟩
def arnd_len {ws:List (List Nat)} {x:List Nat} (n:Nat):(arnd ws x n).length=16:=by
 cases n with
 | zero=>exact zdu _ _ _
 | succ n=>exact zdu _ _ _
def arnd_8 {ws:List (List Nat)} (hw:∀w∈ws,Word w) {x:List Nat} (h:Ok8 x) (n:Nat):Ok8 (arnd ws x n):=by
 cases n with
 | zero=>exact zuF hw h
 | succ n=>exact zuF hw (mixd_8 (zpg _))
def bst (ws:List (List Nat)) (x:List Nat) (i:Nat):List Nat:=if i<ws.length/4-1 then arnd ws x i else aes ws x
def Block_ok{H:Heap}{k:Nat} {ws:List (List Nat)} {x:List Nat} (hA:Aes H k ws) (hx:x.length=16) (h8:Ok8 x) (hwl:ws.length<=1000) (hw4:ws.length%4=0) (hw8:8<=ws.length) :
  Ok (sem T zcj [.ptr k 0,.agg (x.map by8)]) H λres H'=>res = .agg ((aes ws x).map by8)/\Grow H H':=by
 have hw:∀w∈ws,Word w:=by obtain⟨_,_,_,_,_,hw⟩:=hA;exact hw
 refine zks ?_;unfold zgZ uL uS uT uNFM uB uO uA uR uc;refine zaL (zdO (zcU _) ?_);rw[zaA];have s1:=Grow.new H ⟨zab,x.map by8,none⟩;have g1:(H.new ⟨zab,x.map by8,none⟩).get H.next=some ⟨zab,x.map by8,none⟩:=zae _ _;have n1:(H.new ⟨zab,x.map by8,none⟩).next=H.next+1:=zac _ _;generalize ha:H.next=a at *;generalize H.new _=H1 at *;refine zaL (zdO (by rfl) ?_);have s2:=Grow.new H1 ⟨zab,[(),(),(),(),(),(),(),(),(),(),(),(),(),(),(),()],none⟩;have g2:(H1.new ⟨zab,[(),(),(),(),(),(),(),(),(),(),(),(),(),(),(),()],none⟩).get H1.next=some ⟨zab,[(),(),(),(),(),(),(),(),(),(),(),(),(),(),(),()],none⟩:=zae _ _;have n2:(H1.new ⟨zab,[(),(),(),(),(),(),(),(),(),(),(),(),(),(),(),()],none⟩).next=H1.next+1:=zac _ _;have ga2:=(s2.same a (by omega)).trans g1;have hA2:=(hA.grow s1).grow s2;rw[zaA];generalize hb:H1.next=b at *;generalize H1.new _=H2 at *;obtain⟨id,k1,k2,k3,k4,-⟩:=id hA2;have ek:=zrG (.sl id 0 ws.length (.opn 4));have e1:((ws.length:Nat):Int)/4=((ws.length/4:Nat):Int):=by omega
 have e2:((ws.length/4:Nat):Int)-1=((ws.length/4-1:Nat):Int):=by omega
 have l1:=ld16 hx;simp(disch:=omega)only[↓RD,RZ,k1,ek,e1,e2,ga2,l1];have hlast:ws.length/4-1+1=ws.length/4:=by omega
 have hAg:∀H',Grow H H'->Aes H' k ws:=λH' g=>hA.grow g;have ad:=add_ok (r:=0) hA2 hx h8 (by omega) hwl;refine zaf ad ?_;rintro _ H3 ⟨rfl,s3⟩;have n3:=s3.next;have ga3:=(s3.same a (by omega)).trans ga2;have gb3:=(s3.same b (by omega)).trans g2;have l2:=sp16 (zdu ws 0 x) (L:=x.map by8) (zjt hx);have l3:=zjt (zdu ws 0 x);simp(disch:=omega)only[↓RD,RZ,eq_self,seval,ga3,zcU,zaA,l2,l3,zjt hx];have gH3:Grow H (H3.set a (some ⟨zab,(addk ws 0 x).map by8,none⟩)):=(((s1.trans s2).trans s3)).set (by omega) _;have gb4:(H3.set a (some ⟨zab,(addk ws 0 x).map by8,none⟩)).get b = _:=(zai _ _ (by omega)).trans gb3;have ga4:(H3.set a (some ⟨zab,(addk ws 0 x).map by8,none⟩)).get a = _:=zah _ _ _;have n4:H3.next=(H3.set a (some ⟨zab,(addk ws 0 x).map by8,none⟩)).next:=rfl;generalize H3.set a _=H4 at *;have gA:∀H',At1 a H4 H'->Grow H H':=λH' g=>⟨yay gH3.next g.next,λi hi=>by rw[g.same i (by omega) (by omega),gH3.same i hi]⟩;have bl:∀i,(bst ws x i).length=16:=λi=>by unfold bst;split;exact arnd_len _;exact zdu _ _ _
 have b8:∀i,Ok8 (bst ws x i):=λi=>by unfold bst;split;exact arnd_8 hw h8 _;exact zuF hw (zpg _)
 refine zao (Q:=λz H'=>z = .ex 0 []/\H'.get a=some ⟨zab,(aes ws x).map by8,none⟩/\At1 a H4 H') ?_ ?_
 ·refine zaQ (λi L H'=>L=[.int .i64 ((i+1:Nat):Int)]/\H'.get a=some ⟨zab,(bst ws x i).map by8,none⟩/\At1 a H4 H') (ws.length/4-1) ?_ ?_ ?_
  ·refine⟨rfl,?_,At1.refl _ _⟩;unfold bst;rw[if_pos (by omega)];exact ga4
  ·rintro i L H5 hi ⟨rfl,ga5,s5⟩;have n5:=s5.next;have e5:((i+1:Nat):Int)+1=((i+1+1:Nat):Int):=rfl;have l1:=ld16 (bl i);unfold zdA uS uT uB uA uK uc ug;simp(disch:=omega)only[↓RD,RZ,ga5,l1];refine zaf (moved_ok (hAg _ (gA _ s5)) (bl i) (b8 i)) ?_;rintro _ H6 ⟨rfl,s6⟩;have n6:=s6.next;have ga6:=(s6.same a (by omega)).trans ga5;have l2:=sp16 (zi6 (bst ws x i)) (L:=(bst ws x i).map by8) (zjt (bl i));have l3:=zjt (zi6 (bst ws x i));have l4:=zjt (bl i);have l5:=ld16 (zi6 (bst ws x i));simp(disch:=omega)only[↓RD,RZ,eq_self,seval,ga6,zcU,zaA,l2,l3,l4];have s7:At1 a H4 (H6.set a (some ⟨zab,(movd (bst ws x i)).map by8,none⟩)):=(s5.trans (s6.at1 a)).trans (At1.set a _ _);have ga7:(H6.set a (some ⟨zab,(movd (bst ws x i)).map by8,none⟩)).get a = _:=zah _ _ _;generalize H6.set a _=H7 at *;have n7:=s7.next;refine zao (Q:=λz H'=>z = .nrm []/\H'.get a=some ⟨zab,(if i+1<ws.length/4-1 then mixd (movd (bst ws x i)) else movd (bst ws x i)).map by8,none⟩/\At1 a H4 H') ?_ ?_
   ·refine zcm (λh=>?_) (λh=>?_)
    ·simp(disch:=omega)only[↓RD,RZ,ga7,l5];refine zaf (mixed_ok (zi6 _) (zpg _)) ?_;rintro _ H8 ⟨rfl,s8⟩;have n8:=s8.next;have ga8:=(s8.same a (by omega)).trans ga7;have m2:=sp16 (zmG (movd (bst ws x i))) (L:=(movd (bst ws x i)).map by8) l3;have m3:=zjt (zmG (movd (bst ws x i)));simp(disch:=omega)only[↓RD,RZ,eq_self,seval,ga8,zcU,zaA,m2,m3,l3];exact⟨by rw[if_pos (by omega)],(s7.trans (s8.at1 a)).trans (At1.set a _ _)⟩
    ·simp(disch:=omega)only[↓RD,RZ];rw[if_neg (by omega)];exact⟨ga7,s7⟩
   ·rintro _ H8 ⟨rfl,ga8,s8⟩;have n8:=s8.next;generalize hy:(if i+1<ws.length/4-1 then mixd (movd (bst ws x i)) else movd (bst ws x i))=y at *;have yl:y.length=16:=by rw[<-hy];split;exact zmG _;exact zi6 _
    have y8:Ok8 y:=by rw[<-hy];split;exact mixd_8 (zpg _);exact zpg _
    have m1:=ld16 yl;simp(disch:=omega)only[↓RD,RZ,ga8,m1];refine zaf (add_ok (r:=i+1) (hAg _ (gA _ s8)) yl y8 (by omega) hwl) ?_;rintro _ H9 ⟨rfl,s9⟩;have n9:=s9.next;have ga9:=(s9.same a (by omega)).trans ga8;have m2:=sp16 (zdu ws (i+1) y) (L:=y.map by8) (zjt yl);have m3:=zjt (zdu ws (i+1) y);have m4:=zjt yl;simp(disch:=omega)only[↓RD,RZ,eq_self,seval,ga9,zcU,zaA,m2,m3,m4,e5];refine⟨?_,(s8.trans (s9.at1 a)).trans (At1.set a _ _)⟩
    ·congr 3;rw[<-hy];unfold bst;rw[if_pos hi];by_cases h:i+1<ws.length/4-1
     ·rw[if_pos h,if_pos h];rfl
     ·rw[if_neg h,if_neg h];unfold aes;rw[show ws.length/4-2=i by omega,show ws.length/4-1=i+1 by omega]
  ·rintro L H5 ⟨rfl,ga5,s5⟩;unfold zdA uS uT uB uA uK uc ug;simp(disch:=omega)only[↓RD,RZ];refine⟨?_,s5⟩;rw[ga5];unfold bst;rw[if_neg (by omega)]
 ·rintro _ H5 ⟨rfl,ga5,s5⟩;have n5:=s5.next;have al:=zdu ws (ws.length/4-1) (movd (arnd ws x (ws.length/4-2)));have l1:=ld16 (l:=aes ws x) al;have l2:=sp16 (l:=aes ws x) al (L:=[(),(),(),(),(),(),(),(),(),(),(),(),(),(),(),()]) rfl;have l3:=zjt (x:=aes ws x) al;have gb6:=(s5.same b (by omega) (by omega)).trans gb4;simp(disch:=omega)only[↓RD,RZ,eq_self,seval,ga5,l1,gb6,zcU,zaA,l2,l3];exact(gA _ s5).set (by omega) _
def zgH(x:Nat):1<=zdf x/\zdf x<=8:=by
 unfold zdf
 repeat' split
 all_goals omega
def znB{x:Nat}(h:x<18446744073709551616):x<256 ^ zdf x:=by
 unfold zdf
 repeat' split
 all_goals omega
def zpe{x:Nat}(h:0<x):256 ^ (zdf x-1)<=x:=by
 unfold zdf
 repeat' split
 all_goals omega
def num_snoc(x n:Nat):num x (n+1)=num (x/256) n++[x%256]:=by
 unfold num;rw[ycv,yaE];congr 1
 ·refine ycx λi hi=>?_;rw[ya2]at hi;rw[ycj,<-Nat.pow_succ'];congr 3;omega
 ·simp
def be_num(n:Nat):∀x:Nat,x<256 ^ n->be (num x n)=x:=by
 induction n with
 | zero=>intro x h;simp at h;subst h;rfl
 | succ n ih=>
  intro x h;rw[num_snoc,be_snoc,ih]
  ·omega
  ·rw[ybx]at h;omega
def num_top{x n:Nat}(h:256 ^ n<=x) (hx:x<256 ^ (n+1)):(num x (n+1)).getD 0 0≠0:=by
 unfold num;rw[zdQ (by omega)];have h1:x/256 ^ n<256:=by
  rw[ydF (Nat.pow_pos (by decide))];rw[ybx]at hx;omega
 have h2:1<=x/256 ^ n:=by
  rw[Nat.le_div_iff_mul_le (Nat.pow_pos (by decide))];omega
 show x/256 ^ (n+1-1-0)%256≠0;rw[show n+1-1-0=n by omega];omega
def psz(x:Nat):Nat:=if x<8 then 0 else x-7
def pnum(x:Nat)(b:List Nat):Nat:=if x<8 then x else be b
def znf(x:Nat)(b:List Nat):Bool:=if x<8 then true else (b.getD 0 0 != 0)&&decide (8<=be b)
inductive PH
 | err (e:Nat)
 | ok (kid ctr n:Nat)
def parse(b:List Nat):PH:=
 if b.length=0 then .err 3
 else
  let k:=b.getD 0 0/16
  let c:=b.getD 0 0%16
  let at':=1+psz k
  let en:=at'+psz c
  if b.length<en then .err 3
  else
   let x:=(b.take at').drop 1
   let y:=(b.take en).drop at'
   if znf k x&&znf c y then .ok (pnum k x) (pnum c y) en else .err 2
def zlE(x:Nat):(fld x).1<16/\psz (fld x).1=(fld x).2.length:=by
 unfold fld psz;split
 ·refine⟨by dsimp only;omega,?_⟩;dsimp only
  first|rfl|(rw[if_pos (by omega)];rfl)
 ·have:=zgH x;refine⟨by dsimp only;omega,?_⟩;dsimp only;rw[if_neg (by omega),zd9];omega
def zmI{x:Nat}(h:x<18446744073709551616):pnum (fld x).1 (fld x).2=x/\znf (fld x).1 (fld x).2=true:=by
 unfold fld;split
 ·rename_i hx;dsimp only;unfold pnum znf;rw[if_pos hx,if_pos hx];exact⟨rfl,rfl⟩
 ·have h1:=zgH x;have h2:=be_num (zdf x) x (znB h);have h3:(num x (zdf x)).getD 0 0≠0:=by
   have a:=zpe (x:=x) (by omega);have b:=znB h;obtain⟨n,hn⟩:∃n,zdf x=n+1:=⟨zdf x-1,by omega⟩;rw[hn]at a b ⊢;exact num_top (by simpa using a) b
  dsimp only;unfold pnum znf;rw[if_neg (by omega),if_neg (by omega),h2];refine⟨rfl,?_⟩;simp only[yam,bne_iff_ne,ne_eq,decide_eq_true_eq];exact⟨h3,by omega⟩
def zxZ(kid ctr:Nat):(hdr kid ctr).length=1+(fld kid).2.length+(fld ctr).2.length:=by
 unfold hdr;simp only[List.length_cons,yag];omega
def hdr_8(kid ctr:Nat):Ok8 (hdr kid ctr):=by
 unfold hdr;intro x hx;have h1:=(zlE kid).1;have h2:=(zlE ctr).1;have h3:∀x:Nat,Ok8 (fld x).2:=λx=>by
  unfold fld;split
  ·exact Ok8.nil
  ·exact zlU _ _
 rcases yau.1 hx with rfl|hx
 ·omega
 ·exact(h3 kid).app (h3 ctr) x hx
def znF(kid ctr:Nat):(hdr kid ctr).length<=17:=by
 have h:∀x:Nat,(fld x).2.length<=8:=λx=>by
  unfold fld;split
  ·simp
  ·dsimp only;rw[zd9];exact(zgH x).2
 rw[zxZ];have:=h kid;have:=h ctr;omega
def zri{kid ctr:Nat}(h1:kid<18446744073709551616)(h2:ctr<18446744073709551616)(r:List Nat):parse (hdr kid ctr++r) = .ok kid ctr (hdr kid ctr).length:=by
 have k1:=zlE kid;have k2:=zlE ctr;have b0:(hdr kid ctr++r).getD 0 0=(fld kid).1*16+(fld ctr).1:=rfl;have hl:=zxZ kid ctr;have e1:(hdr kid ctr++r).getD 0 0/16=(fld kid).1:=by rw[b0];omega
 have e2:(hdr kid ctr++r).getD 0 0%16=(fld ctr).1:=by rw[b0];omega
 unfold parse;rw[if_neg (by rw[yag,hl];omega)];dsimp only;rw[e1,e2,k1.2,k2.2,if_neg (by rw[yag,hl];omega)];have hh:hdr kid ctr++r=((fld kid).1*16+(fld ctr).1)::((fld kid).2++((fld ctr).2++r)):=by unfold hdr;simp
 have t1:((hdr kid ctr++r).take (1+(fld kid).2.length)).drop 1=(fld kid).2:=by
  rw[show 1+(fld kid).2.length=(fld kid).2.length+1 by omega,hh];rw[yby,List.drop_one,List.tail_cons,List.take_left]
 have t2:((hdr kid ctr++r).take (1+(fld kid).2.length+(fld ctr).2.length)).drop (1+(fld kid).2.length)=(fld ctr).2:=by
  rw[show 1+(fld kid).2.length+(fld ctr).2.length=((fld kid).2.length+(fld ctr).2.length)+1 by omega,show 1+(fld kid).2.length=(fld kid).2.length+1 by omega,hh];rw[yby,ybV,<-yaO,yb0 (by rw[yag]),ydx]
 rw[t1,t2,(zmI h1).1,(zmI h1).2,(zmI h2).1,(zmI h2).2,hl];rfl
structure Ky where
 kid:Nat
 t:Nat
 ws:List (List Nat)
 auth:List Nat
 salt:List Nat
def sKey:List Nat:=[83,70,114,97,109,101,32,49,46,48,32,83,101,99,114,101,116,32,107,101,121,32]
def sSalt:List Nat:=[83,70,114,97,109,101,32,49,46,48,32,83,101,99,114,101,116,32,115,97,108,116,32]
def szs:Nat->Option (Nat×Nat)
 | 1=>some (16,10)
 | 2=>some (16,8)
 | 3=>some (16,4)
 | 16=>some (32,10)
 | _=>none
def zaV(base:List Nat):List Nat:=hmac kc [] base
def keyb(id kid n:Nat)(base:List Nat):List Nat:=((hkdf kc (zaV base) (sKey++(num kid 8++num id 2)) 2).1).take (n+32)
def saltb(id kid:Nat)(base:List Nat):List Nat:=((hkdf kc (zaV base) (sSalt++(num kid 8++num id 2)) 1).1).take 12
def drv(id kid n t:Nat)(base:List Nat):Ky:=
 ⟨kid,t,kw ((keyb id kid n base).take n) (n/4) (4*(n/4+7)),(keyb id kid n base).drop n,saltb id kid base⟩
def zcz(salt:List Nat)(c:Nat):List Nat:=(List.range 12).map λi=>(num c 12).getD i 0 ^^^ salt.getD i 0
def first(n:List Nat):List Nat:=n++List.replicate 4 0
def tagm(k:Ky)(n head m b:List Nat):List Nat:=num (head.length+m.length) 8++num b.length 8++num k.t 8++n++head++m++b
def zle(k:Ky)(n head m b:List Nat):List Nat:=(hmac kc k.auth (tagm k n head m b)).take k.t
def zcr(k:Ky)(c:Nat)(m p:List Nat):List Nat:=
 hdr k.kid c++ctr k.ws (first (zcz k.salt c)) p++zle k (zcz k.salt c) (hdr k.kid c) m (ctr k.ws (first (zcz k.salt c)) p)
inductive PO
 | err (e:Nat)
 | ok (p:List Nat) (c:Nat)
def znk(k:Ky)(b m:List Nat):PO:=
 match parse b with
 | .err e=>.err e
 | .ok kid c n=>
  if kid≠k.kid then .err 10
  else if b.length<n+k.t then .err 3
  else if 1000<b.length-n-k.t then .err 4
  else
   if zle k (zcz k.salt c) (b.take n) m ((b.drop n).take (b.length-n-k.t))=b.drop (b.length-k.t) then .ok (ctr k.ws (first (zcz k.salt c)) ((b.drop n).take (b.length-n-k.t))) c
   else .err 8
def zqn {ws:List (List Nat)} {f b:List Nat} {i:Nat} (h:i<b.length):(ctr ws f b).getD i 0=b.getD i 0 ^^^ zqe ws f i:=by
 unfold ctr;rw[zdQ h]
def zqx{a b:List Nat}(h:a.length=b.length)(g:∀i,i<a.length->a.getD i 0=b.getD i 0):a=b:=by
 refine ycQ h λi h1 h2=>?_;have:=g i h1;rw[yan,yan,yaf h1,yaf h2]at this;exact this
def zyD (ws:List (List Nat)) (f b:List Nat):ctr ws f (ctr ws f b)=b:=by
 refine zqx (by rw[zgB,zgB]) λi hi=>?_;rw[zgB,zgB]at hi;rw[zqn (by rw[zgB];exact hi),zqn hi,Nat.xor_assoc,ydE,Nat.xor_zero]
def zvw (ws:List (List Nat)) (f:List Nat) (hw:∀w∈ws,Word w) (i:Nat):zqe ws f i<256:=by
 unfold zqe;refine Ok8.getD ?_ _;unfold aes addk;refine Ok8.rmap λj hj=>zcE (Ok8.getD (by unfold movd;exact Ok8.rmap λ_ _=>zu8 _) j) (Ok8.getD ?_ _);rw[yan];cases e:ws[4*(ws.length/4-1)+j/4]? with
 | none=>exact Ok8.nil
 | some w=>exact(hw w (ybm e)).2
def ctr_8 {ws:List (List Nat)} {f b:List Nat} (hw:∀w∈ws,Word w) (h:Ok8 b):Ok8 (ctr ws f b):=Ok8.rmap λi _=>zcE (h.getD i) (zvw _ _ hw i)
def zq1{k:Ky}(ht:k.t<=32)(n head m b:List Nat):(zle k n head m b).length=k.t:=by
 unfold zle;rw[yaq,zem];omega
def zsr(k:Ky)(n head m b:List Nat):Ok8 (zle k n head m b):=Ok8.take (zlu _ _ _) _
def zi2{k:Ky}(ht:k.t<=32)(c:Nat)(m p:List Nat):(zcr k c m p).length=(hdr k.kid c).length+p.length+k.t:=by
 unfold zcr;rw[yag,yag,zgB,zq1 ht]
def ztD{k:Ky}(hw:∀w∈k.ws,Word w){c:Nat}{m p:List Nat}(h:Ok8 p):Ok8 (zcr k c m p):=((hdr_8 _ _).app (ctr_8 hw h)).app (zsr _ _ _ _ _)
def zrm{k:Ky}(ht:k.t<=32)(h1:k.kid<18446744073709551616){c:Nat}(h2:c<18446744073709551616){m p:List Nat}(hp:p.length<=1000):znk k (zcr k c m p) m = .ok p c:=by
 have hl:=zi2 ht c m p;have h0:parse (zcr k c m p) = .ok k.kid c (hdr k.kid c).length:=by
  unfold zcr;rw[yaO];exact zri h1 h2 _
 unfold znk;rw[h0];dsimp only;rw[if_neg (λh=>h rfl),if_neg (by omega),if_neg (by omega)];have e1:(zcr k c m p).take (hdr k.kid c).length=hdr k.kid c:=by
  unfold zcr;rw[yaO,List.take_left]
 have e2:((zcr k c m p).drop (hdr k.kid c).length).take ((zcr k c m p).length-(hdr k.kid c).length-k.t)=ctr k.ws (first (zcz k.salt c)) p:=by
  rw[hl];unfold zcr;rw[yaO,ydx,yb0 (by rw[zgB];omega)]
 have e3:(zcr k c m p).drop ((zcr k c m p).length-k.t)=zle k (zcz k.salt c) (hdr k.kid c) m (ctr k.ws (first (zcz k.salt c)) p):=by
  rw[hl];unfold zcr;rw[yci (by rw[yag,zgB];omega)]
 rw[e1,e2,e3,if_pos rfl,zyD]
def zyZ{l:List Nat}(h8:Ok8 l){i:Nat}(hi:i<l.length)(h:i<8):(be (l.take i)*256%18446744073709551616) ||| l.getD i 0=be (l.take (i+1)):=by
 have h1:=be_take_lt h8 (show i<=7 by omega);rw[take_snoc hi,be_snoc,yav (by omega),or256 _ _ (getD_lt h8 i)]
def zx0{lo:Nat}{H:Heap}{v:V}{l:List Nat}(hv:By lo H v l)(h8:Ok8 l)(hl:l.length<=8):Ok (sem T zdn [v]) H λr H'=>r = .int .u64 (be l:Nat)/\H'=H:=by
 refine zox ?_;unfold zkP uL uR uc uq ug;simp(disch:=omega)only[↓RD,RZ,eq_self,seval,hv.vlen];refine zaQ (λi L H'=>L=[.int .u64 (be (l.take i):Nat),.int .i64 (i:Nat)]/\H'=H) l.length ?_ ?_ ?_
 ·exact⟨rfl,rfl⟩
 ·rintro i _ H' hi ⟨rfl,rfl⟩;obtain⟨p,hp,hld,-⟩:=by_at hv (i:=(i:Nat)) (by omega) (by omega);have e1:=zyZ h8 hi (by omega);have b1:=be_take_lt h8 (show i<=8 by omega);have b2:=getD_lt h8 i;simp only[yao]at hld;have e2:be (l.take i)*256%18446744073709551616<18446744073709551616:=ybf _ (by decide);unfold zfE uL uB uIM uK uc uq ug;simp(disch:=omega)only[↓RD,RZ,eq_self,seval,hp,hld,yao,e1];rfl
 ·rintro _ H' ⟨rfl,rfl⟩;unfold zfE uL uB uIM uK uc uq ug;simp(disch:=omega)only[↓RD,RZ,eq_self,seval,ya6]
def nxt8(v:Nat)(i:Nat):Nat:=v/256 ^ (7-i)%256
def nxtS(x:List Nat)(v w i:Nat):List Nat:=(List.range 16).map λj=>if j<8 then (if j<i then nxt8 v j else x.getD j 0) else (if j-8<i then nxt8 w (j-8) else x.getD j 0)
def zf5(x:List Nat)(v w i:Nat):(nxtS x v w i).length=16:=by simp[nxtS]
def zxA{x:List Nat}(h:x.length=16)(v w:Nat):nxtS x v w 0=x:=by
 refine zqx (by rw[zf5,h]) λi hi=>?_;rw[zf5]at hi;unfold nxtS;rw[zdQ hi];split<;>rfl
def nxtS_all(x:List Nat)(v w:Nat):nxtS x v w 8=(List.range 8).map (nxt8 v)++(List.range 8).map (nxt8 w):=rfl
def zxB(x:List Nat)(v w:Nat){i:Nat}(h:i<8):((nxtS x v w i).set i (nxt8 v i)).set (8+i) (nxt8 w i)=nxtS x v w (i+1):=by
 refine zqx (by simp[zf5]) λj hj=>?_;simp only[ycf,zf5]at hj;rw[yan,List.getElem?_set,List.getElem?_set];unfold nxtS;rw[zdQ hj];simp only[ycf,yai,ybg];by_cases e:8+i=j
 ·subst e;rw[if_pos rfl,if_pos hj,if_neg (by omega),if_pos (by omega),show 8+i-8=i by omega];rfl
 ·rw[if_neg e];by_cases e2:i=j
  ·subst e2;rw[if_pos rfl,if_pos hj,if_pos h,if_pos (by omega)];rfl
  ·rw[if_neg e2,yaQ,ybU hj];show(if j<8 then _ else _) = _;by_cases k:j<8
   ·rw[if_pos k,if_pos k];by_cases k2:j<i
    ·rw[if_pos k2,if_pos (by omega)]
    ·rw[if_neg k2,if_neg (by omega)]
   ·rw[if_neg k,if_neg k];by_cases k2:j-8<i
    ·rw[if_pos k2,if_pos (by omega)]
    ·rw[if_neg k2,if_neg (by omega)]
def zt6{l:List Nat}{i y:Nat}(h:i<l.length):splice (l.map by8) i [by8 y]=(l.set i y).map by8:=by
 rw[zm3 _ _ _ (by rw[yai];exact h),ydH]
def cint8(n:Nat):IntKind.u8.wrap (n:Int)=((n%256:Nat):Int):=by rw[wrap_u8];rfl
def Next_ok{H:Heap}{x:List Nat}{n:Nat}(hx:x.length=16)(h8:Ok8 x)(hn:n<18446744073709551616) :
  Ok (sem T zdo [.agg (x.map by8),.int .u64 (n:Nat)]) H λres H'=>res = .agg ((zfl x n).map by8)/\Grow H H':=by
 refine zoy ?_;unfold zkQ uL uS uT uB uO uA uR uK uc uq ug;refine zaL (zdO (zcU _) ?_);rw[zaA];have s1:=Grow.new H ⟨zab,x.map by8,none⟩;have g1:(H.new ⟨zab,x.map by8,none⟩).get H.next=some ⟨zab,x.map by8,none⟩:=zae _ _;have n1:(H.new ⟨zab,x.map by8,none⟩).next=H.next+1:=zac _ _;generalize ha:H.next=a at *;generalize H.new _=H1 at *;refine zaL (zdO (by rfl) ?_);have s2:=Grow.new H1 ⟨zab,[(),(),(),(),(),(),(),(),(),(),(),(),(),(),(),()],none⟩;have g2:(H1.new ⟨zab,[(),(),(),(),(),(),(),(),(),(),(),(),(),(),(),()],none⟩).get H1.next=some ⟨zab,[(),(),(),(),(),(),(),(),(),(),(),(),(),(),(),()],none⟩:=zae _ _;have n2:(H1.new ⟨zab,[(),(),(),(),(),(),(),(),(),(),(),(),(),(),(),()],none⟩).next=H1.next+1:=zac _ _;have ga2:=(s2.same a (by omega)).trans g1;rw[zaA];generalize hb:H1.next=b at *;generalize H1.new _=H2 at *;have c1:By 0 H2 (.sl a 0 8 (.fix 16)) (x.take 8):=by
  refine⟨?_,λi hi=>?_,show(8:Nat)<=_ by decide⟩
  ·simp only[rcells,ga2,Option.bind_some];rw[if_pos (by rw[yai];omega),yaC,yb5,yaq,ybc (by omega)]
  ·simp only[V.pid,yaa]at hi;omega
 have c2:By 0 H2 (.sl a 8 8 (.fix 8)) (x.drop 8):=by
  refine⟨?_,λi hi=>?_,show(8:Nat)<=_ by decide⟩
  ·simp only[rcells,ga2,Option.bind_some];rw[if_pos (by rw[yai];omega),yb6,yat,yal (by rw[yat,yai];omega),show x.length-8=8 by omega]
  ·simp only[V.pid,yaa]at hi;omega
 have d1:=@zeR _ _ _ _ (zx0 c1 (h8.take 8) (by rw[yaq];omega));have d2:=@zeR _ _ _ _ (zx0 c2 (h8.drop 8) (by rw[yat];omega));have v1:zat (.arr 16) 1 (.ptr a 0) none (some (.int .i64 8)) none=some (.sl a 0 8 (.fix 16)):=rfl;have v2:zat (.arr 16) 1 (.ptr a 0) (some (.int .i64 8)) none none=some (.sl a 8 8 (.fix 8)):=rfl;have l1:be (x.take 8)<18446744073709551616:=be_take_lt h8 (n:=8) (by omega);have l2:be (x.drop 8)<18446744073709551616:=by
  have:=be_lt _ (h8.drop 8);rw[yat,hx]at this;exact this
 simp(disch:=omega)only[↓RD,RZ,eq_self,seval,v1,v2,d1,d2];have eW:IntKind.u64.wrap ((be (x.drop 8):Nat)+(n:Nat):Int)=(((be (x.drop 8)+n)%18446744073709551616:Nat):Int):=by rw[wrap_u64];rfl
 rw[eW];refine zao (Q:=λr H'=>r = .nrm [.int .u64 ((be (x.take 8)+(if 18446744073709551616<=be (x.drop 8)+n then 1 else 0))%18446744073709551616:Nat)]/\H'=H2) ?_ ?_
 ·refine zcm (λh=>?_) (λh=>?_)
  ·have hh:18446744073709551616<=be (x.drop 8)+n:=by omega
   have ew:IntKind.u64.wrap ((be (x.take 8):Nat)+1:Int)=(((be (x.take 8)+1)%18446744073709551616:Nat):Int):=by rw[wrap_u64];rfl
   rw[if_pos hh];simp(disch:=omega)only[↓RD,RZ,eq_self,seval,ew]
  ·have hh:¬18446744073709551616<=be (x.drop 8)+n:=by omega
   rw[if_neg hh,ybR,yav l1];simp(disch:=omega)only[↓RD,RZ,eq_self,seval]
 rintro _ H2 ⟨rfl,rfl⟩;generalize hV:(be (x.take 8)+(if 18446744073709551616<=be (x.drop 8)+n then 1 else 0))%18446744073709551616=v;have v8:v<18446744073709551616:=by rw[<-hV];exact ybf _ (by decide)
 generalize hW:(be (x.drop 8)+n)%18446744073709551616=w at *;have w8:w<18446744073709551616:=by rw[<-hW];exact ybf _ (by decide)
 simp(disch:=omega)only[↓RD,RZ,eq_self,seval,eW];refine zao (Q:=λz H'=>z = .ex 0 []/\H'.get a=some ⟨zab,(zfl x n).map by8,none⟩/\At1 a H2 H') ?_ ?_
 ·refine zaQ (λi L H'=>L=[.int .i64 (i:Nat)]/\H'.get a=some ⟨zab,(nxtS x v w i).map by8,none⟩/\At1 a H2 H') 8 ?_ ?_ ?_
  ·exact⟨rfl,by rw[zxA hx];exact ga2,At1.refl _ _⟩
  ·rintro i _ H3 hi ⟨rfl,g3,s3⟩;have e1:(8:Int)*((i:Nat):Int)=((8*i:Nat):Int):=rfl;have e2:(56:Int)-((8*i:Nat):Int)=((8*(7-i):Nat):Int):=by omega
   have e3:∀u,shr u (8*(7-i))=u/256 ^ (7-i):=λu=>by rw[zif,yah,yds]
   have e4:∀u:Nat,IntKind.u8.wrap ((u/256 ^ (7-i):Nat):Int)=((nxt8 u i:Nat):Int):=λu=>cint8 _;have e5:(8:Int)+((i:Nat):Int)=((8+i:Nat):Int):=rfl;have m1:=zt6 (l:=nxtS x v w i) (i:=i) (y:=nxt8 v i) (by rw[zf5];omega);have m2:=zt6 (l:=(nxtS x v w i).set i (nxt8 v i)) (i:=8+i) (y:=nxt8 w i) (by rw[ycf,zf5];omega);have k1:((nxtS x v w i).map by8).length=16:=by rw[yai,zf5]
   have k2:(((nxtS x v w i).set i (nxt8 v i)).map by8).length=16:=by rw[yai,ycf,zf5]
   rw[zxB _ _ _ hi]at m2;unfold zfF uL uT uB uI uK uc ug;replace m1:splice ((nxtS x v w i).map by8) i [.int .u8 (nxt8 v i:Nat)] = _:=m1;replace m2:splice (((nxtS x v w i).set i (nxt8 v i)).map by8) (8+i) [.int .u8 (nxt8 w i:Nat)] = _:=m2;simp(disch:=omega)only[↓RD,RZ,eq_self,seval,e1,e2,e3,e4,e5,g3,m1,m2,k1,k2];exact⟨by omega,by omega,rfl,s3.trans ((At1.set a _ _).trans (At1.set a _ _))⟩
  ·rintro _ H3 ⟨rfl,g3,s3⟩;unfold zfF uL uT uB uI uK uc ug;simp(disch:=omega)only[↓RD,RZ,eq_self,seval];refine⟨?_,s3⟩;rw[g3,nxtS_all];unfold zfl;rw[hV,hW];rfl
 ·rintro _ H3 ⟨rfl,g3,s3⟩;have n3:=s3.next;have gb3:=(s3.same b (by omega) (by omega)).trans g2;have hl:(zfl x n).length=16:=by simp[zfl]
  have l1:=ld16 hl;have l2:=sp16 hl (L:=[(),(),(),(),(),(),(),(),(),(),(),(),(),(),(),()]) rfl;have l3:=zjt hl;simp(disch:=omega)only[↓RD,RZ,eq_self,seval,g3,l1,gb3,zcU,zaA,l2,l3];exact⟨by rw[zal];omega,λi hi=>by rw[zai _ _ (by omega),s3.same i (by omega) (by omega),s2.same i (by omega),s1.same i (by omega)]⟩
def zxD(x:List Nat)(n:Nat):(zfl x n).length=16:=by simp[zfl]
def nextb_8(x:List Nat)(n:Nat):Ok8 (zfl x n):=(Ok8.rmap λi _=>ybf _ (by decide)).app (Ok8.rmap λi _=>ybf _ (by decide))
def ztt (ws:List (List Nat)) (x:List Nat):(aes ws x).length=16:=zdu _ _ _
def aes_8 {ws:List (List Nat)} (hw:∀w∈ws,Word w) (x:List Nat):Ok8 (aes ws x):=zuF hw (zpg _)
def zir{α:Type}{c:V}{x y:M α}{H:Heap}{Q:α->Heap->Prop}:@OkI α c H ⟨x⟩ ⟨y⟩ ⟨Q⟩=Ok (M.ite c x y) H Q:=rfl
def zr5{H:Heap}{k n:Nat} {ws:List (List Nat)} {f:List Nat} {F:V->M Res} {Q:Res->Heap->Prop} (hA:Aes H k ws) (hf:f.length=16) (f8:Ok8 f) (hwl:ws.length<=1000) (hw4:ws.length%4=0) (hw8:8<=ws.length) (hn:n<18446744073709551616)
  (h:∀H',Grow H H'->Ok (F (.agg ((aes ws (zfl f n)).map by8))) H' Q):Ok ((sem T zdo [.agg (f.map by8),.int .u64 (n:Nat)]).bind λt43=>(sem T zcj [.ptr k 0,t43]).bind F) H Q:=by
 refine zaf (Next_ok hf f8 hn) ?_;rintro _ H1 ⟨rfl,s1⟩;refine zaf (Block_ok (hA.grow s1) (zxD _ _) (nextb_8 _ _) hwl hw4 hw8) ?_;rintro _ H2 ⟨rfl,s2⟩;exact h _ (s1.trans s2)
def Fx(o:Option Nat)(lo:Nat)(H:Heap)(v:V)(l:List Nat):Prop:=∃id,v = .sl id 0 l.length (.fix l.length)/\H.get id=some ⟨zad,l.map by8,o⟩/\lo<=id/\id<H.next
def Fx.low{o:Option Nat}{lo lo':Nat}{H:Heap}{v:V}{l:List Nat}(h:Fx o lo H v l)(hl:lo'<=lo):Fx o lo' H v l:=by
 obtain⟨id,h1,h2,h3,h4⟩:=h;exact⟨id,h1,h2,yay hl h3,h4⟩
def Fx.by{o:Option Nat}{lo:Nat}{H:Heap}{v:V}{l:List Nat}(h:Fx o lo H v l):By lo H v l:=by
 obtain⟨id,rfl,h2,h3,h4⟩:=h;refine⟨?_,λi hi=>by injection hi with hi;subst hi;exact⟨h3,h4⟩,yaj _⟩;simp only[rcells,h2,Option.bind_some];rw[if_pos (by rw[yai];omega),yaC,yal (by rw[yai];omega)]
def Crypt_x{lo:Nat}{H:Heap}{k:Nat} {ws:List (List Nat)} {bv:V} {f l:List Nat} (hA:Aes H k ws) (hf:f.length=16) (f8:Ok8 f) (hv:By lo H bv l) (h8:Ok8 l) (hwl:ws.length<=1000) (hw4:ws.length%4=0) (hw8:8<=ws.length) (hl:l.length<=1099511627776) :
  Ok (sem T zdS [.ptr k 0,.agg (f.map by8),.int .i64 0,bv]) H λres H'=>∃r,res = .tup [r,.int .i64 0]/\Fx none H.next H' r (ctr ws f l)/\Grow H H':=by
 have hw:∀w∈ws,Word w:=by obtain⟨_,_,_,_,_,hw⟩:=hA;exact hw
 have cl:=zgB ws f l;refine zno ?_;unfold zjz uL uB uG uH uO uR uc;refine zaL (zdO (zcU _) ?_);rw[zaA];have s1:=Grow.new H ⟨zab,f.map by8,none⟩;have g1:(H.new ⟨zab,f.map by8,none⟩).get H.next=some ⟨zab,f.map by8,none⟩:=zae _ _;have n1:(H.new ⟨zab,f.map by8,none⟩).next=H.next+1:=zac _ _;generalize ha:H.next=a at *;generalize H.new _=H1 at *;simp(disch:=omega)only[↓RD,RZ,hv.vlen];refine⟨⟨by omega,by omega,by omega,by omega⟩,?_⟩;rw[zwc,yao];have s2:=Grow.new H1 ⟨zad,List.replicate l.length (.int .u8 0),none⟩;have g2:(H1.new ⟨zad,List.replicate l.length (.int .u8 0),none⟩).get H1.next=some ⟨zad,List.replicate l.length (.int .u8 0),none⟩:=zae _ _;have n2:(H1.new ⟨zad,List.replicate l.length (.int .u8 0),none⟩).next=H1.next+1:=zac _ _;have ga2:=(s2.same a (by omega)).trans g1;generalize hb:H1.next=b at *;generalize H1.new _=H2 at *;generalize hc:b+1=c at *;have s3:=Grow.new H2 ⟨zab,[(),(),(),(),(),(),(),(),(),(),(),(),(),(),(),()],none⟩;have g3:(H2.new ⟨zab,[(),(),(),(),(),(),(),(),(),(),(),(),(),(),(),()],none⟩).get H2.next=some ⟨zab,(List.replicate 16 0).map by8,none⟩:=zae _ _;have n3:(H2.new ⟨zab,[(),(),(),(),(),(),(),(),(),(),(),(),(),(),(),()],none⟩).next=H2.next+1:=zac _ _;have ga3:=(s3.same a (by omega)).trans ga2;have gb3:=(s3.same b (by omega)).trans g2;rw[n2]at g3 n3;generalize H2.new _=H3 at *;have s03:Grow H H3:=(s1.trans s2).trans s3;have hv3:=hv.ext s03;refine zao (Q:=λz H'=>z = .ex 0 []/\H'.get b=some ⟨zad,(ctr ws f l).map by8,none⟩/\Grow H H'/\c<H'.next) ?_ ?_
 ·refine zaQ (λi L H'=>L=[.int .i64 (i:Nat)]/\H'.get a=some ⟨zab,f.map by8,none⟩/\H'.get b=some ⟨zad,((ctr ws f l).take i).map by8++List.replicate (l.length-i) (.int .u8 0),none⟩/\H'.get c=some ⟨zab,(if i=0 then List.replicate 16 0 else aes ws (zfl f ((i-1)/16))).map by8,none⟩/\Grow H H'/\c<H'.next) l.length ?_ ?_ ?_
  ·exact⟨rfl,ga3,by simpa using gb3,g3,s03,by omega⟩
  ·rintro i _ H4 hi ⟨rfl,ga4,gb4,gc4,s4,n4⟩;have hv4:=hv.ext s4;generalize hy:(if i=0 then List.replicate 16 0 else aes ws (zfl f ((i-1)/16)))=y at *;have yl:y.length=16:=by rw[<-hy];split;exact yaH ..;exact ztt _ _
   have e1:(((i:Nat):Int)%16==0)=decide (i%16=0):=by
    by_cases h:i%16=0
    ·rw[decide_eq_true h,show((i:Nat):Int)%16=0 by omega];rfl
    ·rw[decide_eq_false h];have:¬((i:Nat):Int)%16=0:=by omega
     simpa using this
   have e2:(((i:Nat):Int)==0)=decide (i=0):=by
    by_cases h:i=0
    ·rw[decide_eq_true h,h];rfl
    ·rw[decide_eq_false h];have:¬((i:Nat):Int)=0:=by omega
     simpa using this
   have l1:=ld16 hf;unfold zeN uL uS uT uB uI uIM uG uH uA uK uc ug;simp(disch:=omega)only[↓RD,RZ,e1,e2,yc1];rw[za1];refine zao (α:=Res) (Q:=λr H'=>r = .nrm []/\∃H5,Grow H H5/\c<H5.next/\H5.get a=H4.get a/\H5.get b=H4.get b/\H5.get c=some ⟨zab,(aes ws (zfl f (i/16))).map by8,none⟩/\H'=H5.set b (some ⟨zad,((ctr ws f l).take (i+1)).map by8++List.replicate (l.length-(i+1)) (.int .u8 0),none⟩)) ?_ ?_
   ·have rest:∀H5,Grow H H5->c<H5.next->H5.get a=H4.get a->H5.get b=H4.get b->H5.get c=some ⟨zab,(aes ws (zfl f (i/16))).map by8,none⟩ ->
      Ok ((M.lift (Ax.iaddr none 1 bv (.int .i64 (i:Nat)))).bind λt49=>
       (mload none t49).bind λt50=>
       (M.lift (Ax.bin .add (.int .i64 0) (.int .i64 (i:Nat)))).bind λt53=>
       (M.lift (Ax.bin .rem t53 (V.int .i64 16))).bind λt54=>
       (M.lift (Ax.iaddr (some 16) 1 (.ptr c 0) t54)).bind λt55=>
       (mload none t55).bind λt56=>
       (M.lift (Ax.bin .xor t50 t56)).bind λt57=>
       (M.lift (Ax.iaddr none 1 (.sl b 0 l.length (.fix l.length)) (.int .i64 (i:Nat)))).bind λt58=>
       (mstore 1 t58 t57).bind λ_=>
       M.pure (Res.nrm [])) H5 λr H'=>r=Res.nrm []/\H'=H5.set b (some ⟨zad,((ctr ws f l).take (i+1)).map by8++List.replicate (l.length-(i+1)) (.int .u8 0),none⟩):=by
     intro H5 g5 m5 a5 b5 c5;have hv5:=hv.ext g5;obtain⟨p,hp,hld,-⟩:=by_at hv5 (i:=(i:Nat)) (by omega) (by omega);simp only[yao]at hld;rw[gb4]at b5;have q1:=getD_lt h8 i;have hk:=aes_8 hw (zfl f (i/16));have hkl:=ztt ws (zfl f (i/16));have q2:=bg (l:=aes ws (zfl f (i/16))) (i:=i%16) (by omega);have q3:=zo1 q1 (hk.getD (i%16));have q4:l.getD i 0 ^^^ (aes ws (zfl f (i/16))).getD (i%16) 0=(ctr ws f l).getD i 0:=(zqn hi).symm;rw[q4]at q3;have hl0:(((ctr ws f l).take i).map by8).length=i:=by rw[yai,yaq];omega
     have x0:=zbX (z:=.int .u8 0) (x:=by8 ((ctr ws f l).getD i 0)) hl0 hi;have ml:(((ctr ws f l).take i).map by8++List.replicate (l.length-i) (V.int .u8 0)).length=l.length:=by rw[yag,hl0,yaH];omega
     have ei:((i:Nat):Int)%16=((i%16:Nat):Int):=by omega
     have em:=ybf i (show 0<16 by decide);have et:((ctr ws f l).take i).map by8++[by8 ((ctr ws f l).getD i 0)]=((ctr ws f l).take (i+1)).map by8:=by rw[take_snoc (by omega)];simp
     rw[et]at x0;replace q3:Ax.bin .xor (.int .u8 (l.getD i 0:Nat)) (by8 ((aes ws (zfl f (i/16))).getD (i%16) 0)) = _:=q3;simp(disch:=omega)only[↓RD,RZ,hp,hld,yc1,ei,c5,q2,q3,b5,x0,ml,zg4,zcy];omega
    have ln:=ztt ws (zfl f (i/16));have l2:=ld16 ln;have l3:=sp16 ln (L:=y.map by8) (by rw[yai,yl]);have l4:=zjt ln;have e4:((i:Nat):Int)/16=((i/16:Nat):Int):=by omega
    have l5:(y.map by8).length=16:=by rw[yai,yl]
    by_cases h0:i=0
    ·have e3:decide (i=0)=true:=decide_eq_true h0;simp(disch:=omega)only[↓RD,RZ,e1,e2,e3,yc1,ga4,l1,e4];rw[za1];refine zr5 (hA.grow s4) hf f8 hwl hw4 hw8 (by omega) λH5 s5=>?_;have n5:=s5.next;have ga5:=s5.same a (by omega);have gb5:=s5.same b (by omega);have gc5:=(s5.same c (by omega)).trans gc4;simp(disch:=first|omega|(simp only[RY]<;>omega)|decide)only[↓RD,RZ,eq_self,Int.reduceToNat,Int.reduceAdd,Nat.reduceAdd,Nat.reduceSub,Nat.reduceMul,Nat.reduceLeDiff,gc5,zcU,zaA,l3,l4,l5];rw[za1];refine zao (rest (H5.set c (some ⟨zab,(aes ws (zfl f (i/16))).map by8,none⟩)) ((s4.trans s5).set (by omega) _) (by rw[zal];omega) (by rw[zai _ _ (by omega)];exact ga5) (by rw[zai _ _ (by omega)];exact gb5) (zah _ _ _)) ?_;rintro _ _ ⟨rfl,rfl⟩;exact⟨rfl,_,(s4.trans s5).set (by omega) _,by rw[zal];omega,by rw[zai _ _ (by omega)];exact ga5,by rw[zai _ _ (by omega)];exact gb5,zah _ _ _,rfl⟩
    ·have e3:decide (i=0)=false:=decide_eq_false h0;simp(disch:=omega)only[↓RD,RZ,e1,e2,e3,yc1];rw[zir];refine zcm (λh=>?_) (λh=>?_)
     ·simp(disch:=omega)only[↓RD,RZ,ga4,l1,e4,yc1];rw[za1];refine zr5 (hA.grow s4) hf f8 hwl hw4 hw8 (by omega) λH5 s5=>?_;have n5:=s5.next;have ga5:=s5.same a (by omega);have gb5:=s5.same b (by omega);have gc5:=(s5.same c (by omega)).trans gc4;simp(disch:=first|omega|(simp only[RY]<;>omega)|decide)only[↓RD,RZ,eq_self,Int.reduceToNat,Int.reduceAdd,Nat.reduceAdd,Nat.reduceSub,Nat.reduceMul,Nat.reduceLeDiff,gc5,zcU,zaA,l3,l4,l5];rw[za1];refine zao (rest (H5.set c (some ⟨zab,(aes ws (zfl f (i/16))).map by8,none⟩)) ((s4.trans s5).set (by omega) _) (by rw[zal];omega) (by rw[zai _ _ (by omega)];exact ga5) (by rw[zai _ _ (by omega)];exact gb5) (zah _ _ _)) ?_;rintro _ _ ⟨rfl,rfl⟩;exact⟨rfl,_,(s4.trans s5).set (by omega) _,by rw[zal];omega,by rw[zai _ _ (by omega)];exact ga5,by rw[zai _ _ (by omega)];exact gb5,zah _ _ _,rfl⟩
     ·have ey:y=aes ws (zfl f (i/16)):=by rw[<-hy,if_neg h0,show(i-1)/16=i/16 by omega]
      rw[ey]at gc4;simp(disch:=omega)only[↓RD,RZ];rw[za1];refine zao (rest H4 s4 n4 rfl rfl gc4) ?_;rintro _ _ ⟨rfl,rfl⟩;exact⟨rfl,_,s4,n4,rfl,rfl,gc4,rfl⟩
   ·rintro _ _ ⟨rfl,H5,s5,n5,ga5,gb5,gc5,rfl⟩;simp(disch:=omega)only[↓RD,RZ];refine⟨rfl,ga5.trans ga4,?_,s5.set (by omega) _,n5⟩;rw[gc5,if_neg (by omega),show i+1-1=i by omega]
  ·rintro _ H4 ⟨rfl,ga4,gb4,gc4,s4,n4⟩;unfold zeN uL uS uT uB uI uIM uG uH uA uK uc ug;simp(disch:=omega)only[↓RD,RZ];refine⟨?_,s4,n4⟩;rw[gb4,yal (by omega)];simp
 ·rintro _ H4 ⟨rfl,gb4,s4,n4⟩;simp(disch:=omega)only[↓RD,RZ];refine⟨_,rfl,⟨b,?_,gb4,by omega,by omega⟩,s4⟩;rw[cl]
def App.same{ty e lo n:Nat}{H H':Heap}{v:V}{cells:List V}(h:App ty e lo H v cells n)(hn:H.next<=H'.next)(hs:∀i,v.pid=some i->H'.get i=H.get i):App ty e lo H' v cells n:=by
 cases h with
 | opn h ho=>exact .opn (h.to hs) λi hi=>⟨(ho i hi).1,yak (ho i hi).2 hn⟩
 | lit h h0 h1=>exact .lit (by rw[hs _ rfl,h]) h0 (yak h1 hn)
def Kst(H:Heap)(k:Nat)(w:V) (ws:List (List Nat)):Prop:=H.get k=some ⟨zaR,tabC true++[w],none⟩/\App zaw 4 (k+1) H w (ws.flatten.map by8) ws.length/\k<H.next
def zwE(wv x:V):splice (tabC true++[wv]) 259 [x]=tabC true++[x]:=by
 have e:(tabC true).length=259:=by unfold tabC;simp only[List.length_cons,yai,zki]
 unfold splice;rw[ybr (by omega),yal (by omega),yaV (by rw[yag,e];exact yaj _),yaK]
def len260(wv:V):(tabC true++[wv]).length=260:=by
 have e:(tabC true).length=259:=by unfold tabC;simp only[List.length_cons,yai,zki]
 rw[yag,e];rfl
def _root_.Go.Ax.Lc.same{e lo n:Nat}{H H':Heap}{v:V}{cells:List V}(h:Lc e lo H v cells n)(hn:H.next<=H'.next)(hs:∀i,v.pid=some i->H'.get i=H.get i):Lc e lo H' v cells n:=
 ⟨by rw[zcZ hs];exact h.rc,λi hi=>⟨(h.own i hi).1,yak (h.own i hi).2 hn⟩,h.cap⟩
def Kst.expl{H:Heap}{k:Nat}{w:V} {ws:List (List Nat)} (h:Kst H k w ws) (h0:0<ws.length):∃id,w = .sl id 0 ws.length (.opn 4)/\H.get id=some ⟨zaw,ws.flatten.map by8,some 4⟩/\k<id/\id<H.next:=by
 obtain⟨h1,h2,h3⟩:=h;cases hn:ws.length with
 | zero=>omega
 | succ n=>
  rw[hn]at h2;generalize ws.flatten.map by8=cs at *;cases h2 with
  | opn h ho=>
   rcases h with⟨_,_,h⟩|⟨id,rfl,hg,hl⟩
   ·omega
   ·exact⟨id,rfl,hg,(ho id rfl).1,(ho id rfl).2⟩
def kpush{H:Heap}{k:Nat}{w:V} {ws:List (List Nat)} {a b c d:Nat} {F:V->M Res} {Q:Res->Heap->Prop} (hk:Kst H k w ws) (hl:ws.length<=1000)
  (h:∀w' H',Kst H' k w' (ws++[[a,b,c,d]])->Bel k H H'->Ok (F .undef) H' Q) :
  Ok ((mappend zaw 4 4 w (.sl H.next 0 1 (.fix 1))).bind λt45=>
   (M.lift (Ax.nilck (.ptr k 0))).bind λt46=>
   (M.lift (Ax.faddr 259 t46)).bind λt47=>
   (mstore 1 t47 t45).bind F) (H.new ⟨zaw,[by8 a,by8 b,by8 c,by8 d],none⟩) Q:=by
 obtain⟨h1,h2,h3⟩:=hk;have s1:=Grow.new H ⟨zaw,[by8 a,by8 b,by8 c,by8 d],none⟩;have n1:(H.new ⟨zaw,[by8 a,by8 b,by8 c,by8 d],none⟩).next=H.next+1:=zac _ _;have g1:=(s1.same k h3).trans h1;have ac:acells 4 (H.new ⟨zaw,[by8 a,by8 b,by8 c,by8 d],none⟩) (.sl H.next 0 1 (.fix 1))=some ([by8 a,by8 b,by8 c,by8 d],1):=zcD rfl;have h2':App zaw 4 (k+1) (H.new ⟨zaw,[by8 a,by8 b,by8 c,by8 d],none⟩) w (ws.flatten.map by8) ws.length:=App.keep h2 (s1.keep _);generalize hid:H.next=id at *;generalize H.new _=H1 at *;refine zij h2' (by omega) ac rfl (by omega) (by omega) λw' H2 a2 st=>?_;have n2:=st.next;have hpw:∀i,i∈w.pid.toList->k+1<=i:=λi hi=>(h2'.lc.own i (by simpa [zbK]using hi)).1;have b2:Bel (k+1) H1 H2:=⟨st.next,λi hi=>by
  by_cases hin:i<H1.next
  ·exact st.same i hin λe=>by have:=hpw i e;omega
  ·omega⟩
 have g2:H2.get k = _:=(b2.same k (by omega)).trans g1;have sp:=zwE w w';have ln:=len260 w;simp(disch:=omega)only[↓RD,RZ,eq_self,seval,g2,sp,ln,a2.lc.cells1,a2.lc.okc];refine h w' _ ⟨zah _ _ _,?_,by rw[zal];omega⟩ ⟨by rw[zal];omega,λi hi=>?_⟩
 ·have:(ws++[[a,b,c,d]]).flatten.map by8=ws.flatten.map by8++[by8 a,by8 b,by8 c,by8 d]:=by simp
  rw[this,yag];refine App.same a2 (by rw[zal];exact yaj _) λi hi=>zai _ _ ?_;have:=(a2.lc.own i hi).1;omega
 ·rw[zai _ _ (by omega),b2.same i (by omega),s1.same i (by omega)]
def s2a_ok{lo:Nat}{H:Heap}{v:V}{l:List Nat}(hv:By lo H v l)(hl:4<=l.length):∃p,op1 (.s2a 4) v=some p/\LdR (some 4) H p (.agg ((l.take 4).map by8)):=by
 have hlen:=hv.len;rw[yai,ya9]at hlen;rcases hv.cases with⟨_,_,hn⟩|⟨id,off,cap,b,rfl,hb,hle,hc⟩|⟨cs,rfl,hle,hc⟩
 ·omega
 ·refine⟨.ptr id off,by simp only[op1];rw[if_pos ⟨hl,by decide⟩],?_⟩;have h1:=(pl_ptr (H:=H) (off:=off) (m:=4) hb (by omega)).all;have e:(b.cells.drop off).take 4=(l.take 4).map by8:=by
   rw[yb5,hc,ybK,ya9,ybc hl]
  rw[e,yai,yaq,ybc hl]at h1;exact h1
 ·refine⟨.rp cs 0,by simp only[op1];rw[if_pos ⟨hl,by decide⟩],?_⟩;have h1:=(pl_rp (H:=H) (cs:=cs) (off:=0) (m:=4) (by omega)).all;have e:(cs.drop 0).take 4=(l.take 4).map by8:=by
   rw[yb5,hc,ybK,yaC,ya9,ybc hl]
  rw[e,yai,yaq,ybc hl]at h1;exact h1
def four{l:List Nat}(h:l.length=4):∃a b c d,l=[a,b,c,d]:=by
 match l,h with
 | [a,b,c,d],_=>exact⟨a,b,c,d,rfl⟩
def xw(s p:List Nat):List Nat:=(List.range 4).map λj=>s.getD j 0 ^^^ p.getD j 0
def ztx(s p:List Nat):(xw s p).length=4:=by simp[xw]
def zxR(b:List Nat)(n i:Nat):kw b n (i+1)=kw b n i++[if i<n then (b.drop (4*i)).take 4 else xw (zoL n i ((kw b n i).getD (i-1) [])) ((kw b n i).getD (i-n) [])]:=rfl
def New_1_ok{H:Heap}{k q id i j:Nat} {ws:List (List Nat)} {s:List Nat} {u2 u3 u8:V} (hw:∀w∈ws,Word w) (hs:Word s) (hgk:H.get k=some ⟨zaR,tabC true++[.sl id 0 ws.length (.opn 4)],none⟩) (hgi:H.get id=some ⟨zaw,ws.flatten.map by8,some 4⟩)
  (hq:H.get q=some ⟨zaw,s.map by8,none⟩) (hqk:q≠k) (hqi:q≠id) (hkl:k<H.next) (hil:id<H.next) (hj:j<=i) (hi:i<=ws.length) (hj0:0<j) (hwl:ws.length<=1000) :
  Ok (M.iter (zfd (sem T) (.ptr k 0) (.int .i64 (i:Nat)) (.int .i64 (j:Nat)) (.ptr q 0) u2 u3 u8) [.int .i64 0]) H λz H'=>z = .ex 5 []/\H'.get q=some ⟨zaw,(xw s (ws.getD (i-j) [])).map by8,none⟩/\At1 q H H':=by
 refine zaQ (λm L H'=>L=[.int .i64 (m:Nat)]/\H'.get q=some ⟨zaw,((xw s (ws.getD (i-j) [])).take m++s.drop m).map by8,none⟩/\At1 q H H') 4 ?_ ?_ ?_
 ·exact⟨rfl,by simpa using hq,At1.refl _ _⟩
 ·rintro m _ H3 hm ⟨rfl,g3,s3⟩;have sl:=hs.1;have gk3:=(s3.same k hkl (by omega)).trans hgk;have gi3:=(s3.same id hil (by omega)).trans hgi;have hA':(((xw s (ws.getD (i-j) [])).take m).map by8).length=m:=by rw[yai,yaq,ztx];omega
  rw[zwm (by omega)]at g3;have m1:=zqc (b:=by8 (s.getD m 0)) (C:=(s.drop (m+1)).map by8) hA';have m2:=zqb (b:=by8 (s.getD m 0)) (y:=by8 ((xw s (ws.getD (i-j) [])).getD m 0)) (C:=(s.drop (m+1)).map by8) hA';have ml:(((xw s (ws.getD (i-j) [])).take m).map by8++by8 (s.getD m 0)::(s.drop (m+1)).map by8).length=4:=by rw[yag,hA',List.length_cons,yai,yat];omega
  have ek:=zrG (.sl id 0 ws.length (.opn 4));have e1:((i:Nat):Int)-((j:Nat):Int)=((i-j:Nat):Int):=by omega
  have wb:=zqT hw (j:=i-j) (m:=m) (by omega) hm;have ex:=zo1 (hs.2.getD m) (zwg hw (i-j) m);have ea:s.getD m 0 ^^^ (ws.getD (i-j) []).getD m 0=(xw s (ws.getD (i-j) [])).getD m 0:=by unfold xw;rw[zdQ hm]
  rw[ea]at ex;unfold zfd uT uNFM uB uI uIM uK uc ug;simp(disch:=omega)only[↓RD,RZ,g3,m1,gk3,ek,e1,gi3,wb,ex,m2,ml,zg4,zcy];refine⟨by omega,rfl,?_,s3.trans (At1.set q _ _)⟩;rw[zsp (by rw[ztx];omega)]
 ·rintro _ H3 ⟨rfl,g3,s3⟩;have sl:=hs.1;unfold zfd uT uNFM uB uI uIM uK uc ug;simp(disch:=omega)only[↓RD,RZ];refine⟨?_,s3⟩;rw[g3,yal (by rw[ztx];omega),yaV (by omega),yaK]
def New_rest{lo:Nat}{H:Heap}{k n:Nat}{v:V}{l:List Nat}(hv:By lo H v l)(h8:Ok8 l)(hn:n=4\/n=8)(hl:l.length=4*n)(hvk:∀i,v.pid=some i->i<k) (hk:H.get k=some ⟨zaR,tabC true++[.nils],none⟩) (hkl:k<H.next) :
  Ok (M.blk 0 (M.iter (zd3 (sem T) (.int .i64 (n:Nat)) (.ptr k 0) v .nilp (.int .i64 0)) [.int .i64 0]) λ_=>
   M.blk 2 (M.iter (zd2 (sem T) (.ptr k 3) (.int .i64 (n:Nat)) (.ptr k 0) .nilp (.int .i64 0)) [.int .u8 1,.int .i64 (n:Nat)]) λ_=>
   M.pure (.ret [.ptr k 0,.int .i64 0])) H λr H'=>r = .ret [.ptr k 0,.int .i64 0]/\AesB k H' k (kw l n (4*(n+7)))/\Bel k H H':=by
 have hn0:0<n:=by omega
 have hwd:∀i,∀w∈kw l n i,Word w:=λi=>zxQ hn0 h8 hl i;simp(disch:=omega)only[↓RD,RZ];refine zao (Q:=λz H'=>z = .ex 0 []/\∃w,Kst H' k w (kw l n n)/\Bel k H H') ?_ ?_
 ·refine zaQ (λi L H'=>L=[.int .i64 (i:Nat)]/\∃w,Kst H' k w (kw l n i)/\Bel k H H') n ?_ ?_ ?_
  ·exact⟨rfl,.nils,⟨hk,App.nil,hkl⟩,Bel.refl _ _⟩
  ·rintro i _ H1 hi ⟨rfl,w,hw,b1⟩;have hv1:By lo H1 v l:=hv.same b1.next λj hj=>b1.same j (hvk j hj);obtain⟨v',-,-,hs,hv',-⟩:=by_slice hv1 (x:=((4*i:Nat):Int)) (y:=(l.length:Nat)) (by omega) (by omega) (by omega);have hs:=hs rfl (k:=.i64);rw[yao,yao,yal (by rw[yat];omega)]at hv';obtain⟨p,hp,hld⟩:=s2a_ok hv' (by rw[yat];omega);obtain⟨a,b,c,d,e4⟩:=four (l:=(l.drop (4*i)).take 4) (by rw[yaq,yat];omega);rw[e4]at hld;replace hld:LdR (some 4) H1 p (.agg [by8 a,by8 b,by8 c,by8 d]):=hld;have e1:(4:Int)*((i:Nat):Int)=((4*i:Nat):Int):=rfl;have ek:=zrG w;have g1:=hw.1;unfold zd3 uL uS uT uNFM uNF uB uK uc ub ug;simp(disch:=first|omega|(simp only[RY]<;>omega)|decide)only[↓RD,RZ,eq_self,Int.reduceToNat,Int.reduceAdd,Nat.reduceAdd,Nat.reduceSub,Nat.reduceMul,Nat.reduceLeDiff,g1,ek,e1,hs,hp,hld];rw[za1];refine kpush hw (by rw[zkx];omega) λw' H2 hw' b2=>?_;simp(disch:=omega)only[↓RD,RZ];refine⟨rfl,w',?_,b1.trans b2⟩;rw[zxR,if_pos hi,e4];exact hw'
  ·rintro _ H1 ⟨rfl,w,hw,b1⟩;unfold zd3 uL uS uT uNFM uNF uB uK uc ub ug;simp(disch:=omega)only[↓RD,RZ];exact⟨w,hw,b1⟩
 ·rintro _ H1 ⟨rfl,w,hw,b1⟩;simp(disch:=omega)only[↓RD,RZ];refine zao (Q:=λz H'=>z = .ex 2 []/\∃w,Kst H' k w (kw l n (4*(n+7)))/\Bel k H H') ?_ ?_
  ·refine zaQ (λj L H'=>L=[by8 (rcon ((n+j-1)/n)),.int .i64 ((n+j:Nat):Int)]/\∃w,Kst H' k w (kw l n (n+j))/\Bel k H H') (4*(n+7)-n) ?_ ?_ ?_
   ·refine⟨?_,w,hw,b1⟩;rw[ybR,yco (by omega)];rfl
   ·rintro j _ H2 hj ⟨rfl,w2,hw2,b2⟩;obtain⟨i,hi⟩:∃i,n+j=i:=⟨_,rfl⟩;rw[show n+(j+1)=i+1 by omega];rw[hi]at hw2 ⊢;have e1:(((n:Nat):Int)+6+1)*4=((4*(n+7):Nat):Int):=by omega
    have e1':(4:Int)*(((n:Nat):Int)+6+1)=((4*(n+7):Nat):Int):=by omega
    have e2:((i:Nat):Int)-1=((i-1:Nat):Int):=by omega
    have hwl:=zkx l n i;obtain⟨id,hwe,gi2,hid,hid2⟩:=hw2.expl (by omega);rw[hwl]at hwe;subst hwe;have ek:=zrG (.sl id 0 i (.opn 4));have g2:=hw2.1;have hil:i<4*(n+7):=by omega
    obtain⟨sw,hsw⟩:∃sw,(kw l n i).getD (i-1) []=sw:=⟨_,rfl⟩;have hsm:(kw l n i)[i-1]?=some sw:=by rw[<-hsw,yan,yaf (by omega)];rfl
    have hsW:Word sw:=hwd i sw (ybm hsm);obtain⟨a,b,c,d,e4⟩:=four hsW.1;have hld:ldc (some 4) ((kw l n i).flatten.map by8) (4*(i-1))=some (.agg [by8 a,by8 b,by8 c,by8 d]):=by
     rw[List.map_flatten];have:=ldc_flat (es:=(kw l n i).map (List.map by8)) (k:=4) (i:=i-1) (x:=sw.map by8) (λx hx=>by
      obtain⟨y,hy,rfl⟩:=ya3.1 hx;rw[yai];exact(hwd i y hy).1) (by rw[yaQ,hsm];rfl)
     rw[ycD,this,e4];rfl
    have hld':=hld;rw[ycD]at hld';unfold zd2 uL uS uT uNFM uNF uN uB uI uIM uG uH uO uA uK uc ug;simp(disch:=first|omega|(simp only[RY]<;>omega)|decide)only[↓RD,RZ,eq_self,Int.reduceToNat,Int.reduceAdd,Nat.reduceAdd,Nat.reduceSub,Nat.reduceMul,Nat.reduceLeDiff,e1,e1',e2,g2,ek,gi2,hld,hld'];have s3:At1 H2.next H2 ((H2.new ⟨zaw,[(),(),(),()],none⟩).set H2.next (some ⟨zaw,[by8 a,by8 b,by8 c,by8 d],none⟩)):=((Grow.new _ _).at1 _).trans (At1.set _ _ _);have gq3:((H2.new ⟨zaw,[(),(),(),()],none⟩).set H2.next (some ⟨zaw,[by8 a,by8 b,by8 c,by8 d],none⟩)).get H2.next = _:=zah _ _ _;have n3:((H2.new ⟨zaw,[(),(),(),()],none⟩).set H2.next (some ⟨zaw,[by8 a,by8 b,by8 c,by8 d],none⟩)).next=H2.next+1:=rfl;generalize hq:H2.next=q at *;generalize Heap.set _ q _=H3 at *;have gk3:=(s3.same k (by omega) (by omega)).trans g2;have gi3:=(s3.same id (by omega) (by omega)).trans gi2;have eb:(((i:Nat):Int)%((n:Nat):Int)==0)=decide (i%n=0):=by
     by_cases h:i%n=0
     ·rw[decide_eq_true h,show((i:Nat):Int)%((n:Nat):Int)=((i%n:Nat):Int) from rfl,h];rfl
     ·rw[decide_eq_false h,show((i:Nat):Int)%((n:Nat):Int)=((i%n:Nat):Int) from rfl];have:¬((i%n:Nat):Int)=0:=by omega
      simpa using this
    have eb4:(((i:Nat):Int)%((n:Nat):Int)==4)=decide (i%n=4):=by
     by_cases h:i%n=4
     ·rw[decide_eq_true h,show((i:Nat):Int)%((n:Nat):Int)=((i%n:Nat):Int) from rfl,h];rfl
     ·rw[decide_eq_false h,show((i:Nat):Int)%((n:Nat):Int)=((i%n:Nat):Int) from rfl];have:¬((i%n:Nat):Int)=4:=by omega
      simpa using this
    have tb:∀m,m<256->(tabC true++[V.sl id 0 i (.opn 4)])[3+m]?=some (by8 (sb m)):=λm h=>tab_at h;have ia:∀m,m<256->Ax.iaddr (some 256) 1 (.ptr k 3) (by8 m)=some (.ptr k (3+m)):=λm h=>ztp h;have s8:Ok8 [a,b,c,d]:=e4 ▸ hsW.2;have a8:a<256:=s8 a (by simp);have b8:b<256:=s8 b (by simp);have c8:c<256:=s8 c (by simp);have d8:d<256:=s8 d (by simp);have tw:=zpL (zsI ((i-1)/n));have xr:=zo1 (zu8 b) (zsI ((i-1)/n));rw[eb,zir];refine zao (Q:=λr H'=>r = .nrm [by8 (rcon (i/n))]/\H'.get q=some ⟨zaw,(zoL n i sw).map by8,none⟩/\At1 q H3 H') ?_ ?_
    ·refine zcm (λh=>?_) (λh=>?_)
     ·simp(disch:=first|omega|(simp only[RY]<;>omega)|decide)only[↓RD,RZ,eq_self,Int.reduceToNat,Int.reduceAdd,Nat.reduceAdd,Nat.reduceSub,Nat.reduceMul,Nat.reduceLeDiff,gq3,gk3,tb _ a8,tb _ b8,tb _ c8,tb _ d8,ia _ a8,ia _ b8,ia _ c8,ia _ d8,xr,tw,zg4,zcy,zaA];have er:(i-1)/n+1=i/n:=by rcases hn with rfl|rfl<;>omega
      have er':i/n-1=(i-1)/n:=by rcases hn with rfl|rfl<;>omega
      refine⟨by rw[<-er];rfl,?_,At1.set q _ _⟩;unfold zoL;rw[if_pos h,e4,er'];rfl
     ·have er:(i-1)/n=i/n:=by rcases hn with rfl|rfl<;>omega
      have e8:[a,b,c,d].map by8=[by8 a,by8 b,by8 c,by8 d]:=rfl;rcases hn with hn4|hn8
      ·have e6:decide ((6:Int)<((n:Nat):Int))=false:=by rw[hn4];rfl
       simp(disch:=omega)only[↓RD,RZ,e6];refine⟨by rw[er],?_,At1.refl _ _⟩;unfold zoL;rw[if_neg h,if_neg (λhh=>by have:=hh.1;omega),e4,e8];exact gq3
      ·have e6:decide ((6:Int)<((n:Nat):Int))=true:=by rw[hn8];rfl
       simp(disch:=omega)only[↓RD,RZ,e6,eb4];rw[zir];refine zcm (λh4=>?_) (λh4=>?_)
       ·simp(disch:=first|omega|(simp only[RY]<;>omega)|decide)only[↓RD,RZ,eq_self,Int.reduceToNat,Int.reduceAdd,Nat.reduceAdd,Nat.reduceSub,Nat.reduceMul,Nat.reduceLeDiff,gq3,gk3,tb _ a8,tb _ b8,tb _ c8,tb _ d8,ia _ a8,ia _ b8,ia _ c8,ia _ d8,zg4,zcy,zaA];refine⟨by rw[er],?_,At1.set q _ _⟩;unfold zoL;rw[if_neg h,if_pos ⟨by omega,h4⟩,e4];rfl
       ·simp(disch:=omega)only[↓RD,RZ];refine⟨by rw[er],?_,At1.refl _ _⟩;unfold zoL;rw[if_neg h,if_neg (λhh=>h4 hh.2),e4,e8];exact gq3
    ·rintro _ H4 ⟨rfl,gq4,s4⟩;have n4:=s4.next;simp(disch:=omega)only[↓RD,RZ];have s24:=s3.trans s4;have gk4:=(s24.same k (by omega) (by omega)).trans g2;have gi4:=(s24.same id (by omega) (by omega)).trans gi2;have hkw:(kw l n i).length=i:=zkx _ _ _;refine zao (New_1_ok (k:=k) (q:=q) (id:=id) (i:=i) (j:=n) (hwd i) (zpm hsW) (by rw[hkw];exact gk4) gi4 gq4 (by omega) (by omega) (by omega) (by omega) (by omega) (by omega) (by omega) (by omega)) ?_;rintro _ H5 ⟨rfl,gq5,s5⟩;have n5:=s5.next;have s25:=s24.trans s5;have gk5:=(s25.same k (by omega) (by omega)).trans g2;obtain⟨x0,x1,x2,x3,ex⟩:=four (ztx (zoL n i sw) ((kw l n i).getD (i-n) []));rw[ex]at gq5;have lq:ldc (some 4) ([x0,x1,x2,x3].map by8) 0=some (.agg [by8 x0,by8 x1,by8 x2,by8 x3]):=rfl;have hK5:Kst H5 k (.sl id 0 i (.opn 4)) (kw l n i):=⟨gk5,App.same hw2.2.1 (by omega) λm hm=>by
      simp only[V.pid,yaa]at hm;exact s25.same m (by omega) (by omega),by omega⟩
     simp(disch:=first|omega|(simp only[RY]<;>omega)|decide)only[↓RD,RZ,eq_self,Int.reduceToNat,Int.reduceAdd,Nat.reduceAdd,Nat.reduceSub,Nat.reduceMul,Nat.reduceLeDiff,gk5,ek,gq5,lq];rw[za1];refine kpush hK5 (by rw[zkx];omega) λw' H6 hw6 b6=>?_;simp(disch:=omega)only[↓RD,RZ];refine⟨?_,w',?_,b2.trans (Bel.trans ⟨by omega,λm hm=>s25.same m (by omega) (by omega)⟩ b6)⟩
     ·rw[show i+1-1=i by omega];rfl
     ·rw[zxR,if_neg (by omega),hsw,ex];exact hw6
   ·rintro _ H2 ⟨rfl,w2,hw2,b2⟩;have e1:(4:Int)*(((n:Nat):Int)+6+1)=((4*(n+7):Nat):Int):=by omega
    unfold zd2 uL uS uT uNFM uNF uN uB uI uIM uG uH uO uA uK uc ug;simp(disch:=omega)only[↓RD,RZ,e1];exact⟨w2,by rw[show 4*(n+7)=n+(4*(n+7)-n) by omega];exact hw2,b2⟩
  ·rintro _ H2 ⟨rfl,w2,hw2,b2⟩;obtain⟨id,rfl,g1,h1,h2⟩:=hw2.expl (by rw[zkx];omega);simp(disch:=omega)only[↓RD,RZ];exact⟨⟨yaj _,id,⟨hw2.1,g1,hw2.2.2,h2,hwd _⟩,by omega⟩,b2⟩
def KNew_x{lo:Nat}{H:Heap}{v:V}{l:List Nat}{n:Nat}(hv:By lo H v l)(h8:Ok8 l)(hn:n=4\/n=8)(hl:l.length=4*n) :
  Ok (sem T zgd [v]) H λr H'=>∃k,r = .tup [.ptr k 0,.int .i64 0]/\AesB H.next H' k (kw l n (4*(n+7)))/\Grow H H'/\H.next<=k:=by
 refine zrx ?_;unfold znZ uL uNF uB uG uH uO uA uR uc ub;have hpl:∀i,v.pid=some i->i<H.next:=λi hi=>(hv.own i hi).2;have fin:∀H1,H1.get H.next=some ⟨zaR,tabC false++[.nils],none⟩->H1.next=H.next+1->Grow H H1->Ok ((sem T zbi [.ptr H.next 0]).bind λt25=>
   (M.lift (Ax.vlen v)).bind λt27=>
   (M.lift (Ax.bin .quo t27 (V.int .i64 4))).bind λt28=>
   M.blk 0 (
    M.iter (zd3 (sem T) t28 (.ptr H.next 0) v V.nilp (V.int .i64 0)) [(V.int .i64 0)]) λ_=>
   M.blk 2 (
    M.iter (zd2 (sem T) t25 t28 (.ptr H.next 0) V.nilp (V.int .i64 0)) [(V.int .u8 1),t28]) λ_=>
   M.pure (.ret [.ptr H.next 0,(V.int .i64 0)])) H1 λr H'=>∃L,r = .ret L/\∃k,zcX L = .tup [.ptr k 0,.int .i64 0]/\AesB H.next H' k (kw l n (4*(n+7)))/\Grow H H'/\H.next<=k:=by
  intro H1 g1 n1 s1;refine zaf (zxM g1 (by omega)) ?_;rintro _ H2 ⟨rfl,g2,s2⟩;have n2:=s2.next;have b2:Bel H.next H1 H2:=⟨s2.next,λi hi=>s2.same i (by omega) (by simp;omega)⟩;have hv2:By lo H2 v l:=(hv.ext s1).same n2 λj hj=>b2.same j (hpl j hj);have e1:((l.length:Nat):Int)/4=((n:Nat):Int):=by omega
  refine zel hv2.vlen ?_;refine zel (v:=.int .i64 (n:Nat)) (by rw[zw2 (by omega) (by omega) (by omega),e1]) ?_;refine zao (New_rest hv2 h8 hn hl hpl g2 (by omega)) ?_;rintro _ H3 ⟨rfl,hA,b3⟩;exact⟨_,rfl,_,rfl,hA,(s1.bel' (yaj _) (b2.trans b3)),yaj _⟩
 rcases hn with hn4|hn8
 ·have hvl:Ax.vlen v=some (.int .i64 16):=by rw[hv.vlen,hl,hn4];rfl
  simp(disch:=omega)only[↓RD,RZ,hvl];rw[za1];exact fin _ (by rw[zae];rfl) (zac _ _) (Grow.new _ _)
 ·have hvl:Ax.vlen v=some (.int .i64 32):=by rw[hv.vlen,hl,hn8];rfl
  simp(disch:=omega)only[↓RD,RZ,hvl];rw[za1];exact fin _ (by rw[zae];rfl) (zac _ _) (Grow.new _ _)
def num_cons(x n:Nat):num x (n+1)=(x/256 ^ n%256)::num x n:=by
 unfold num;rw[ydC,yaT,ycY];congr 1;refine ycx λi hi=>?_;rw[ya2]at hi;show x/256 ^ (n+1-1-(i+1))%256 = _;rw[show n+1-1-(i+1)=n-1-i by omega]
def zum{H:Heap}{x:Nat}(hx:x<18446744073709551616):Ok (sem T zc1 [.int .u64 (x:Nat)]) H λr H'=>∃v,r = .tup [.int .u8 ((fld x).1:Nat),v]/\By H.next H' v (fld x).2/\Grow H H':=by
 refine zns ?_;unfold zjD uL uB uR uc ub uq ug;have np:=zgH x;by_cases h8:x<8
 ·have e:fld x=(x,[]):=by unfold fld;rw[if_pos h8]
  have c8:IntKind.u8.wrap ((x:Nat):Int)=((x:Nat):Int):=by rw[wrap_u8];omega
  simp(disch:=omega)only[↓RD,RZ,eq_self,seval,c8,e];exact⟨_,rfl,Lc.nil,Grow.refl _⟩
 ·have e:fld x=(8+zdf x-1,num x (zdf x)):=by unfold fld;rw[if_neg h8]
  simp(disch:=omega)only[↓RD,RZ,eq_self,seval];refine zaQ (λk L H'=>∃b,L=[.int .u64 (x/256 ^ k:Nat),b]/\By H.next H' b (num x k)/\Grow H H') (zdf x) ?_ ?_ ?_
  ·exact⟨.nils,by simp,Lc.nil,Grow.refl _⟩
  ·rintro k _ H1 hk ⟨b,rfl,hb,s1⟩;have n1:=s1.next;have hpos:0<x/256 ^ k:=by
    refine Nat.div_pos (yay (ybF (by decide) (show k<=zdf x-1 by omega)) (zpe (by omega))) (Nat.pow_pos (by decide))
   have hlt:x/256 ^ k<18446744073709551616:=ydc (Nat.div_le_self _ _) hx;have e1':x/256 ^ k/256=x/256 ^ (k+1):=by rw[ycj,ybx]
   have e1:shr (x/256 ^ k) 8=x/256 ^ (k+1):=by rw[zif,yah];exact e1'
   have e8:=cint8 (x/256 ^ k);unfold zeP uL uB uK ub uq ug;simp(disch:=omega)only[↓RD,RZ,eq_self,seval,e8];have s2:=Grow.new H1 ⟨zad,[.int .u8 (x/256 ^ k%256:Nat)],none⟩;have g2:(H1.new ⟨zad,[.int .u8 (x/256 ^ k%256:Nat)],none⟩).get H1.next = _:=zae _ _;have n2:(H1.new ⟨zad,[.int .u8 (x/256 ^ k%256:Nat)],none⟩).next=H1.next+1:=zac _ _;have hb2:=hb.ext s2;refine okb_ab (lo:=H1.next) (l:=[x/256 ^ k%256]) (m:=num x k) (.full g2 rfl (yaj _) (by omega)) (by omega) hb2.ac (by rw[zd9];simp;omega) λw H3 hw b3=>?_;simp(disch:=omega)only[↓RD,RZ,eq_self,seval,e1,e1'];exact⟨w,rfl,by rw[num_cons];exact hw.by.low (by omega),s1.trans (s2.bel' (yaj _) b3)⟩
  ·rintro _ H1 ⟨b,rfl,hb,s1⟩;have hz:x/256 ^ zdf x=0:=yco (znB hx);have c8:IntKind.u8.wrap (((zdf x:Nat):Int)-1)=((zdf x-1:Nat):Int):=by rw[wrap_u8];omega
   have o8:8 ||| (zdf x-1)=8+zdf x-1:=by
    have:∀n,n<8->8 ||| n=8+n:=by decide
    rw[this _ (by omega)];omega
   have hvl:=hb.vlen;rw[zd9]at hvl;rw[hz];unfold zeP uL uB uK ub uq ug;simp(disch:=omega)only[↓RD,RZ,eq_self,seval,hvl,c8,o8,e];exact⟨_,rfl,hb,s1⟩
def Bytes_ok{H:Heap}{kid ctr:Nat}(h1:kid<18446744073709551616)(h2:ctr<18446744073709551616):Ok (sem T zdX [.int .u64 (kid:Nat),.int .u64 (ctr:Nat)]) H λr H'=>By H.next H' r (hdr kid ctr)/\Grow H H':=by
 refine znu ?_;unfold zjF uE uB uA uR ub uq;refine zaf (zum h1) ?_;rintro _ H1 ⟨a,rfl,ha,s1⟩;simp(disch:=omega)only[↓RD,RZ,eq_self,seval];refine zaf (zum h2) ?_;rintro _ H2 ⟨b,rfl,hb,s2⟩;have n1:=s1.next;have n2:=s2.next;have k1:=(zlE kid).1;have k2:=(zlE ctr).1;have m1:∀x:Nat,(fld x).2.length<=8:=λx=>by
  unfold fld;split
  ·simp
  ·dsimp only;rw[zd9];exact(zgH x).2
 have e1:(fld kid).1*16%256 ||| (fld ctr).1=(fld kid).1*16+(fld ctr).1:=by
  rw[yav (by omega),show(16:Nat)=2 ^ 4 from rfl,ztV _ _ 4 k2]
 have e2:shl (fld kid).1 4%256 ||| (fld ctr).1=(fld kid).1*16+(fld ctr).1:=by rw[zsy,yap];exact e1
 simp(disch:=omega)only[↓RD,RZ,eq_self,seval,e1,e2];have s3:=Grow.new H2 ⟨zad,[.int .u8 ((fld kid).1*16+(fld ctr).1:Nat)],none⟩;have g3:(H2.new ⟨zad,[.int .u8 ((fld kid).1*16+(fld ctr).1:Nat)],none⟩).get H2.next = _:=zae _ _;have n3:(H2.new ⟨zad,[.int .u8 ((fld kid).1*16+(fld ctr).1:Nat)],none⟩).next=H2.next+1:=zac _ _;have ha3:=((ha.ext s2).ext s3);have hb3:=hb.ext s3;have l1:=m1 kid;have l2:=m1 ctr;refine okb_ab (lo:=H2.next) (l:=[(fld kid).1*16+(fld ctr).1]) (m:=(fld kid).2) (.full g3 rfl (yaj _) (by omega)) (by omega) ha3.ac (by simp;omega) λw H4 hw b4=>?_;have hb4:By H1.next H4 b (fld ctr).2:=hb3.same b4.next λi hi=>b4.same i (hb.own i hi).2;have n4:=b4.next;refine okb_ab (m:=(fld ctr).2) hw (by omega) hb4.ac (by simp;omega) λw' H5 hw' b5=>?_;simp(disch:=omega)only[↓RD,RZ,eq_self,seval];refine⟨?_,(s1.trans s2).trans (s3.bel' (yaj _) (b4.trans b5))⟩;have:=hw'.by.low (show H.next<=H2.next by omega);have e:hdr kid ctr=[(fld kid).1*16+(fld ctr).1]++(fld kid).2++(fld ctr).2:=by unfold hdr;simp
 rw[e];exact this
def and8:∀x,x<16->x &&& 8=if x<8 then 0 else 8:=by decide
def and7:∀x,x<16->x &&& 7=if x<8 then x else x-8:=by decide
def size_eq{x:Nat}(hx:x<16):sem T zdp [.int .u8 (x:Nat)]=M.pure (.int .i64 (psz x:Nat)):=by
 refine zgE λH=>?_;refine zoD ?_;unfold zkV psz uL uB uR uc ub;have a8:=and8 x hx;have a7:=and7 x hx;by_cases h:x<8
 ·rw[if_pos h]at a8 a7 ⊢;simp(disch:=first|omega|(simp only[RY]<;>omega)|decide)only[↓RD,RZ,eq_self,Int.reduceToNat,Int.reduceAdd,Nat.reduceAdd,Nat.reduceSub,Nat.reduceMul,Nat.reduceLeDiff,a8,a7];rfl
 ·rw[if_neg h]at a8 a7 ⊢;have e:(((x-8:Nat):Int))+1=((x-7:Nat):Int):=by omega
  simp(disch:=first|omega|(simp only[RY]<;>omega)|decide)only[↓RD,RZ,eq_self,Int.reduceToNat,Int.reduceAdd,Nat.reduceAdd,Nat.reduceSub,Nat.reduceMul,Nat.reduceLeDiff,a8,a7,e]
def zny{lo:Nat}{H:Heap}{v:V}{l:List Nat}{x:Nat}(hx:x<16)(hv:By lo H v l)(h8:Ok8 l)(hl:l.length=psz x):Ok (sem T zcK [.int .u8 (x:Nat),v]) H λr H'=>r = .tup [.int .u64 (pnum x l:Nat),.bool (znf x l)]/\H'=H:=by
 refine zmn ?_;unfold ziU uL uB uIM uG uH uR uc ub uq ug;have a8:=and8 x hx;by_cases h:x<8
 ·rw[if_pos h]at a8;have c:IntKind.u64.wrap ((x:Nat):Int)=((x:Nat):Int):=by rw[wrap_u64];omega
  simp(disch:=omega)only[↓RD,RZ,eq_self,seval,a8,c];unfold pnum znf;rw[if_pos h,if_pos h]
 ·rw[if_neg h]at a8;unfold psz at hl;rw[if_neg h]at hl;simp(disch:=omega)only[↓RD,RZ,eq_self,seval,a8,hv.vlen];refine zaQ (λi L H'=>L=[.int .u64 (be (l.take i):Nat),.int .i64 (i:Nat)]/\H'=H) l.length ?_ ?_ ?_
  ·exact⟨rfl,rfl⟩
  ·rintro i _ H' hi ⟨rfl,rfl⟩;obtain⟨p,hp,hld,-⟩:=by_at hv (i:=(i:Nat)) (by omega) (by omega);have e1:=zyZ h8 hi (by omega);have b1:=be_take_lt h8 (show i<=8 by omega);have b2:=getD_lt h8 i;simp only[yao]at hld;have e2:be (l.take i)*256%18446744073709551616<18446744073709551616:=ybf _ (by decide);unfold zeg uL uB uIM uK uc uq ug;simp(disch:=omega)only[↓RD,RZ,eq_self,seval,hp,hld,yao,e1];rfl
  ·rintro _ H' ⟨rfl,rfl⟩;obtain⟨p,hp,hld,-⟩:=by_at hv (i:=0) (by omega) (by omega);simp only[yc7]at hld;unfold zeg uL uB uIM uK uc uq ug;simp(disch:=omega)only[↓RD,RZ,eq_self,seval,ya6,hp,hld];have eb:(((l.getD 0 0:Nat):Int)==0)=decide (l.getD 0 0=0):=by
    by_cases h:l.getD 0 0=0
    ·rw[h];rfl
    ·rw[decide_eq_false h];have:¬((l.getD 0 0:Nat):Int)=0:=by omega
     simpa using this
   have ef:znf x l=((l.getD 0 0 != 0)&&decide (8<=be l)):=by unfold znf;rw[if_neg h]
   have ep:pnum x l=be l:=by unfold pnum;rw[if_neg h]
   rw[ef,ep,eb];by_cases h0:l.getD 0 0=0
   ·rw[decide_eq_true h0,h0];simp(disch:=omega)only[↓RD,RZ,eq_self,seval];rw[ya6];rfl
   ·rw[decide_eq_false h0];have e0:(l.getD 0 0 != 0)=true:=by simpa using h0
    rw[e0];have eg:decide ((8:Int)<=((be l:Nat):Int))=decide (8<=be l):=by
     by_cases h:8<=be l
     ·rw[decide_eq_true h,decide_eq_true (by omega)]
     ·rw[decide_eq_false h,decide_eq_false (by omega)]
    simp(disch:=omega)only[↓RD,RZ,eq_self,seval,eg];rw[ya6];rfl
def phv:PH->V
 | .err e=>.tup [.int .u64 0,.int .u64 0,.int .i64 0,.int .i64 (e:Nat)]
 | .ok kid ctr n=>.tup [.int .u64 (kid:Nat),.int .u64 (ctr:Nat),.int .i64 (n:Nat),.int .i64 0]
def zpI{lo:Nat}{H:Heap}{v:V}{l:List Nat}(hv:By lo H v l)(h8:Ok8 l)(hl:l.length<=1125899906842624):Ok (sem T zc2 [v]) H λr H'=>r=phv (parse l)/\H'=H:=by
 refine znt ?_;unfold zjE uL uE uB uIM uG uH uA uR uc ub uq;have ez:(((l.length:Nat):Int)==0)=decide (l.length=0):=by
  by_cases h:l.length=0
  ·rw[h];rfl
  ·rw[decide_eq_false h];have:¬((l.length:Nat):Int)=0:=by omega
   simpa using this
 simp(disch:=omega)only[↓RD,RZ,eq_self,seval,hv.vlen,ez];rw[zir];refine zcm (λh=>?_) (λh=>?_)
 ·simp(disch:=omega)only[↓RD,RZ,eq_self,seval];unfold parse;rw[if_pos h];rfl
 ·obtain⟨p,hp,hld,-⟩:=by_at hv (i:=0) (by omega) (by omega);simp only[yc7]at hld;have g8:=getD_lt h8 0;unfold parse;rw[if_neg h];generalize l.getD 0 0=x at *;have a15:x &&& 15=x%16:=yaD x 4;have e4:shr x 4=x/16:=by rw[zif,yah]
  have x1:=size_eq (x:=x/16) (by omega);have x2:=size_eq (x:=x%16) (by omega);have p1:psz (x/16)<=8:=by unfold psz;split<;>omega
  have p2:psz (x%16)<=8:=by unfold psz;split<;>omega
  have e1:(1:Int)+((psz (x/16):Nat):Int)=((1+psz (x/16):Nat):Int):=by omega
  have e2:((1+psz (x/16):Nat):Int)+((psz (x%16):Nat):Int)=((1+psz (x/16)+psz (x%16):Nat):Int):=by omega
  simp(disch:=omega)only[↓RD,RZ,eq_self,seval,hp,hld,e4,a15,x1,x2,e1,e2,hv.vlen];rw[zir];refine zcm (λh1=>?_) (λh1=>?_)
  ·simp(disch:=omega)only[↓RD,RZ,eq_self,seval];rw[if_pos (by omega)];rfl
  ·rw[if_neg (by omega)];obtain⟨va,ha,-,-,hva,-⟩:=by_slice hv (x:=1) (y:=((1+psz (x/16):Nat):Int)) (by omega) (by omega) (by omega);obtain⟨vb,hb,-,-,hvb,-⟩:=by_slice hv (x:=((1+psz (x/16):Nat):Int)) (y:=((1+psz (x/16)+psz (x%16):Nat):Int)) (by omega) (by omega) (by omega);simp only[yao,Int.toNat_one]at hva hvb;rw[<-yca]at hva hvb;have la:((l.take (1+psz (x/16))).drop 1).length=psz (x/16):=by rw[yat,yaq];omega
   have lb:((l.take (1+psz (x/16)+psz (x%16))).drop (1+psz (x/16))).length=psz (x%16):=by rw[yat,yaq];omega
   have k1:=@zeR _ _ _ _ (zny (by omega) hva ((h8.take _).drop _) la);have k2:=@zeR _ _ _ _ (zny (by omega) hvb ((h8.take _).drop _) lb);simp(disch:=omega)only[↓RD,RZ,eq_self,seval,ha,hb,k1,k2];generalize (l.take (1+psz (x/16))).drop 1=ya at *;generalize (l.take (1+psz (x/16)+psz (x%16))).drop (1+psz (x/16))=yb at *;cases q1:znf (x/16) ya with
   | false=>
    simp(disch:=omega)only[↓RD,RZ,eq_self,seval,ybb];rw[q1];rfl
   | true=>
    cases q2:znf (x%16) yb with
    | false=>
     simp(disch:=omega)only[↓RD,RZ,eq_self,seval,ybs,ybb];rw[q1,q2];rfl
    | true=>
     simp(disch:=omega)only[↓RD,RZ,eq_self,seval,ybs,ybb];rw[q1,q2];rfl
def beqn(n m:Nat):(((n:Nat):Int)==((m:Nat):Int))=decide (n=m):=by
 by_cases h:n=m
 ·rw[h,decide_eq_true rfl];simp
 ·rw[decide_eq_false h];have:¬((n:Nat):Int)=((m:Nat):Int):=by omega
  simpa using this
def beqz(n:Nat):(((n:Nat):Int)==0)=decide (n=0):=beqn n 0
def zwd{a b:Nat}(h:a ^^^ b=0):a=b:=by
 have h1:(a ^^^ b) ^^^ b=b:=by rw[h,Nat.zero_xor]
 rw[Nat.xor_assoc,ydE,Nat.xor_zero]at h1;exact h1
def or_zero8{a b:Nat}(h:a ||| b=0):a=0/\b=0:=by
 have:=Nat.left_le_or (n:=a) (m:=b);have:=Nat.right_le_or (n:=a) (m:=b);omega
def or_lt8{a b:Nat}(ha:a<256)(hb:b<256):a ||| b<256:=yck (n:=8) ha hb
def Same_ok{lo lo':Nat}{H:Heap}{u v:V}{a b:List Nat}(hu:By lo H u a)(hv:By lo' H v b)(ha:Ok8 a)(hb:Ok8 b)(hal:a.length<=1125899906842624):Ok (sem T zhi [u,v]) H λr H'=>r = .bool (decide (a=b))/\H'=H:=by
 refine zsP ?_;unfold zps uL uB uR uc ub ug;simp(disch:=omega)only[↓RD,RZ,hu.vlen,hv.vlen,beqn];by_cases hl:a.length=b.length
 ·have e:decide (a.length=b.length)=true:=decide_eq_true hl;simp(disch:=omega)only[↓RD,RZ,e,hu.vlen];refine zaQ (λi L H'=>∃x,L=[.int .u8 (x:Nat),.int .i64 (i:Nat)]/\H'=H/\x<256/\(x=0<->a.take i=b.take i)) a.length ?_ ?_ ?_
  ·exact⟨0,rfl,rfl,by decide,by simp⟩
  ·rintro i _ H' hi ⟨x,rfl,rfl,hx,hxe⟩;obtain⟨p,hp,hld,-⟩:=by_at hu (i:=(i:Nat)) (by omega) (by omega);obtain⟨q,hq,hlq,-⟩:=by_at hv (i:=(i:Nat)) (by omega) (by omega);simp only[yao]at hld hlq;have h1:=ha.getD i;have h2:=hb.getD i;have ex:=zo1 h1 h2;replace ex:Ax.bin .xor (.int .u8 (a.getD i 0:Nat)) (.int .u8 (b.getD i 0:Nat))=some (.int .u8 (a.getD i 0 ^^^ b.getD i 0:Nat)):=ex;have hxl:=zcE h1 h2;unfold ziP uB uIM uK uc ug;simp(disch:=omega)only[↓RD,RZ,hp,hq,hld,hlq,ex];refine⟨_,rfl,or_lt8 hx hxl,?_⟩;rw[take_snoc hi,take_snoc (by omega)];constructor
   ·intro h;obtain⟨h3,h4⟩:=or_zero8 h;rw[hxe.1 h3,zwd h4]
   ·intro h;have:=List.append_inj h (by rw[yaq,yaq];omega);rw[hxe.2 this.1,Nat.zero_or];have h5:a.getD i 0=b.getD i 0:=by simpa using this.2
    rw[h5,ydE]
  ·rintro _ H' ⟨x,rfl,rfl,hx,hxe⟩;unfold ziP uB uIM uK uc ug;simp(disch:=omega)only[↓RD,RZ,beqz];rw[ya6,hl,ya6]at hxe;simp only[hxe]
 ·have e:decide (a.length=b.length)=false:=decide_eq_false hl;have e2:decide (a=b)=false:=decide_eq_false λh=>hl (by rw[h]);simp(disch:=omega)only[↓RD,RZ,e];rw[e2]
def by_sl{lo id n:Nat}{H:Heap}{cap:Cap}{ty:TypeId}{l:List Nat}{o:Option Nat} (h:H.get id=some ⟨ty,l.map by8,o⟩) (hl:l.length=n) (h0:lo<=id) (h1:id<H.next) (hc:V.capOk 1 (.sl id 0 n cap)):By lo H (.sl id 0 n cap) l:=by
 refine⟨?_,λi hi=>by simp only[V.pid,yaa]at hi;omega,hc⟩;simp only[rcells,h,Option.bind_some];rw[if_pos (by rw[yai];omega),yaC,yal (by rw[yai];omega),hl]
def Ab.blk{lo:Nat}{H:Heap}{v:V}{l:List Nat}(h:Ab lo H v l)(h0:0<l.length):∃id cap o,v = .sl id 0 l.length cap/\H.get id=some ⟨zad,l.map by8,o⟩/\lo<=id/\id<H.next/\V.capOk 1 (.sl id 0 l.length cap):=by
 have hc:=Ab.by h |>.cap;have h':Apf zad 1 lo H v (l.map by8) l.length:=h;generalize hn:l.length=n at *;generalize hcs:l.map by8=cs at *;have hcl:cs.length=n:=by rw[<-hcs,yai,hn]
 clear h;cases h' with
 | app h=>
  cases h with
  | opn h ho=>
   rcases h with⟨_,_,h⟩|⟨id,rfl,hg,hl⟩
   ·omega
   ·exact⟨id,_,_,rfl,hg,(ho id rfl).1,(ho id rfl).2,hc⟩
  | lit h g0 g1=>omega
 | full h hl g0 g1=>exact⟨_,_,_,rfl,h,g0,g1,hc⟩
def zqD{lo id off len:Nat}{H:Heap}{cap:Cap}{ty:TypeId}{v:V}{cs:List V}{o:Option Nat}{p:List Nat} (hg:H.get id=some ⟨ty,cs,o⟩) (hv:By lo H v p) (h1:off+len<=cs.length) (h2:p.length<=len) :
  mcopy 1 (.sl id off len cap) v H=some (.int .i64 (p.length:Nat),H.set id (some ⟨ty,splice cs off (p.map by8),o⟩)):=by
 unfold mcopy;rw[hv.ac];simp only[Option.bind_some,hg];rw[if_pos (by omega),ybc h2,ya9,yal (by rw[yai];exact yaj _)]
def Join_x{lo:Nat}{H:Heap}{v:V}{vs:List V} {ps:List (List Nat)} (hv:Lc 1 lo H v vs vs.length) (hp:Pts 0 H vs ps) (hn:2<=vs.length) (hvn:vs.length<=1000) (hlen:ps.flatten.length<=1099511627776) :
  Ok (sem T zfb [v,.nils]) H λr H'=>Fx (some 1) H.next H' r ps.flatten/\Grow H H':=by
 refine zqa ?_;unfold zma uL uB uIM uR uK uc ub ug;have hpl:=hp.1;have c0:(((vs.length:Nat):Int)==0)=false:=by rw[beqz];exact decide_eq_false (by omega)
 have c1:(((vs.length:Nat):Int)==1)=false:=by rw[show(1:Int)=((1:Nat):Int) from rfl,beqn];exact decide_eq_false (by omega)
 have vn:Ax.vlen .nils=some (.int .i64 0):=rfl;simp(disch:=omega)only[↓RD,RZ,hv.vlen,c0,c1,vn];refine zao (α:=Res) (Q:=λz H'=>z = .ex 0 [.int .i64 (ps.flatten.length:Nat)]/\H'=H) ?_ ?_
 ·refine zaQ (λi L H'=>L=[.int .i64 ((ps.take i).flatten.length:Nat),.int .i64 (i:Nat)]/\H'=H) vs.length ?_ ?_ ?_
  ·exact⟨rfl,rfl⟩
  ·rintro i _ H' hi ⟨rfl,rfl⟩;have hx:vs[i]?=some vs[i]:=yaf hi;have hy:ps[i]?=some ps[i]:=yaf (by omega);obtain⟨hb,hb8⟩:=hp.2 i _ _ hx hy;obtain⟨q,hq,hld⟩:=zyx hv hi hx;have hf:=zgT hy;have hl1:=zdI ps (i+1);rw[hf,yag]at hl1;unfold zgy uL uB uIM uK uc ug;have ea:(((ps.take i).flatten.length:Nat):Int)+((ps[i].length:Nat):Int)=(((ps.take (i+1)).flatten.length:Nat):Int):=by rw[hf,yag];omega
   simp(disch:=omega)only[↓RD,RZ,hq,hld,hb.vlen,ea];rfl
  ·rintro _ H' ⟨rfl,rfl⟩;unfold zgy uL uB uIM uK uc ug;simp(disch:=omega)only[↓RD,RZ];rw[yal (by omega)]
 ·rintro _ H' ⟨rfl,rfl⟩;have hx0:vs[0]?=some vs[0]:=yaf (by omega);have hy0:ps[0]?=some ps[0]:=yaf (by omega);obtain⟨hb0,-⟩:=hp.2 0 _ _ hx0 hy0;have hf0:=zgT hy0;rw[ya8,ycq,yaY]at hf0;have hl0:=zdI ps 1;rw[hf0]at hl0;generalize hn':ps.flatten.length=n at *;simp(disch:=omega)only[↓RD,RZ];have hmk:mmknz zad (.int .i64 (n:Nat)) H'=some (.sl H'.next 0 n (.opn 1),H'.new ⟨zad,List.replicate n .any,some 1⟩):=by
   simp only[mmknz];rw[if_pos (by omega),yao]
  rw[za1];refine zaL ⟨_,_,hmk,?_⟩;have s1:=Grow.new H' ⟨zad,List.replicate n .any,some 1⟩;have g1:(H'.new ⟨zad,List.replicate n .any,some 1⟩).get H'.next = _:=zae _ _;have n1:(H'.new ⟨zad,List.replicate n .any,some 1⟩).next=H'.next+1:=zac _ _;have hv1:=hv.ext s1;have hp1:=hp.grow s1;have hb1:=hb0.ext s1;generalize hb:H'.next=b at *;generalize H'.new _=H1 at *;have hvb:∀i,v.pid=some i->i<b:=λi hi=>by have:=(hv.own i hi).2;omega
  have vsl:zat .sl 1 (.sl b 0 n (.opn 1)) none (some (.int .i64 (n:Nat))) (some (.int .i64 (n:Nat)))=some (.sl b 0 n (.fix n)):=by
   simp only[zat,zbP,vint,yar,Option.bind_some,yaG,ya0];rw[if_neg (by simp),if_pos (by omega)];simp
  obtain⟨q,hq,hld⟩:=zyx hv1 (i:=0) (by omega) hx0;replace hq:∀{k:IntKind},Ax.iaddr none 1 v (.int k 0)=some q:=hq;simp(disch:=omega)only[↓RD,RZ,vsl,hq,hld];have cp:=zqD (off:=0) (len:=n) (cap:=.fix n) g1 hb1 (by simp) (by omega);rw[za1];refine zaL ⟨_,_,cp,?_⟩;obtain⟨w,-,-,hw,hwc,hwp⟩:=hv1.slice (x:=1) (y:=(vs.length:Nat)) (by omega) (by omega) (by omega);have hw:=hw rfl (k:=.i64);have e1:(1:Int).toNat=1:=rfl;rw[e1,yao,ya9,ya9,yal (by rw[yat];omega)]at hwc;have hwb:w.pid≠some b:=by rw[hwp];exact λe=>by have:=hvb _ e;omega
  simp(disch:=omega)only[↓RD,RZ,hw,hwc.vlen];have sp0:∀(p:List Nat),p.length<=n->splice (List.replicate n V.any) 0 (p.map by8)=p.map by8++List.replicate (n-p.length) .any:=λp hp=>by
   unfold splice;rw[ya8,yaY,yai,ybe,ycz]
  have spj:∀(p q:List Nat),p.length+q.length<=n->splice (p.map by8++List.replicate (n-p.length) V.any) p.length (q.map by8)=(p++q).map by8++List.replicate (n-(p++q).length) .any:=λp q h=>by
   unfold splice;rw[yb0 (by rw[yai]),yai,ydp,yai,yaV (by rw[yai];omega),yaY,ycz,yaE,yag,show n-p.length-(p.length+q.length-p.length)=n-(p.length+q.length) by omega]
  refine zao (α:=Res) (Q:=λz H'=>z = .ex 2 []/\H'.get b=some ⟨zad,ps.flatten.map by8,some 1⟩/\At1 b H1 H') ?_ ?_
  ·refine zaQ (λj L H'=>L=[.int .i64 ((ps.take (j+1)).flatten.length:Nat),.int .i64 (j:Nat)]/\H'.get b=some ⟨zad,(ps.take (j+1)).flatten.map by8++List.replicate (n-(ps.take (j+1)).flatten.length) .any,some 1⟩/\At1 b H1 H') (vs.length-1) ?_ ?_ ?_
   ·refine⟨by rw[ybe,hf0];rfl,?_,At1.set b _ _⟩;rw[zah,ybe,hf0,sp0 _ hl0]
   ·rintro j _ H2 hj ⟨rfl,g2,s2⟩;have hx:vs[j+1]?=some vs[j+1]:=yaf (by omega);have hy:ps[j+1]?=some ps[j+1]:=yaf (by omega);obtain⟨hbj,-⟩:=hp1.2 (j+1) _ _ hx hy;obtain⟨hbj0,-⟩:=hp.2 (j+1) _ _ hx hy;have hbj2:=hbj.at1 s2 (λe=>by have:=(hbj0.own _ e).2;omega);have hwc2:=hwc.at1 s2 hwb;have hwl:(vs.drop 1).length=vs.length-1:=yat ..;rw[<-hwl]at hwc2;have hwx:(vs.drop 1)[j]?=some vs[j+1]:=by rw[ya4,ycW];exact hx
    obtain⟨q2,hq2,hld2⟩:=zyx hwc2 (i:=j) (by omega) hwx;have hf:=zgT hy;have hl1:=zdI ps (j+1+1);rw[hf,yag]at hl1;rw[hf];generalize (ps.take (j+1)).flatten=P at *;have vs1:zat .sl 1 (.sl b 0 n (.fix n)) (some (.int .i64 (P.length:Nat))) none none=some (.sl b P.length (n-P.length) (.fix (n-P.length))):=by
     simp only[zat,zbP,vint,yar,Option.bind_some,yaG,ya0];rw[if_neg (by simp),if_pos (by omega)];simp
    have cl:(P.map by8++List.replicate (n-P.length) V.any).length=n:=by rw[yag,yai,yaH];omega
    have nl:By 0 H2 .nils []:=Lc.nil;have cp1:=zqD (off:=P.length) (len:=n-P.length) (cap:=.fix (n-P.length)) g2 nl (by omega) (yaI _);have sp1:splice (P.map by8++List.replicate (n-P.length) V.any) P.length (([]:List Nat).map by8)=P.map by8++List.replicate (n-P.length) V.any:=by
     rw[spj P [] (by simp;omega),yaK]
    rw[sp1]at cp1;have s3:=At1.set b H2 (some ⟨zad,P.map by8++List.replicate (n-P.length) V.any,some 1⟩);have g3:(H2.set b (some ⟨zad,P.map by8++List.replicate (n-P.length) V.any,some 1⟩)).get b = _:=zah _ _ _;have hbj3:=hbj2.at1 s3 (λe=>by have:=(hbj0.own _ e).2;omega);have cp2:=zqD (off:=P.length) (len:=n-P.length) (cap:=.fix (n-P.length)) g3 hbj3 (by omega) (by omega);rw[spj _ _ (by omega)]at cp2;have ea:((P.length:Nat):Int)+((0:Nat):Int)=((P.length:Nat):Int):=by omega
    unfold zgx uL uB uIM uK uc ug;simp(disch:=omega)only[↓RD,RZ,hq2,hld2,vs1];rw[za1];refine zaL ⟨_,_,cp1,?_⟩;have ez:(([]:List Nat).length:Nat)=0:=rfl;simp(disch:=omega)only[↓RD,RZ,ez,ea,vs1,ycs,Int.add_zero];rw[za1];refine zaL ⟨_,_,cp2,?_⟩;simp(disch:=omega)only[↓RD,RZ];exact⟨by rw[yag];rfl,(s2.trans s3).trans (At1.set b _ _)⟩
   ·rintro _ H2 ⟨rfl,g2,s2⟩;unfold zgx uL uB uIM uK uc ug;simp(disch:=omega)only[↓RD,RZ];refine⟨?_,s2⟩;rw[g2,show vs.length-1+1=vs.length by omega,yal (by omega),hn',ycV];simp
  ·rintro _ H2 ⟨rfl,g2,s2⟩;have n2:=s2.next;simp(disch:=omega)only[↓RD,RZ];exact⟨⟨b,by rw[hn'],g2,by omega,by omega⟩,⟨by omega,λi hi=>by rw[s2.same i (by omega) (by omega),s1.same i (by omega)]⟩⟩
structure KyG (K:Ky):Prop where
 kid:K.kid<18446744073709551616
 t:K.t<=32
 ws:∀w∈K.ws,Word w
 wl:K.ws.length<=1000
 w4:K.ws.length%4=0
 w8:8<=K.ws.length
 auth:K.auth.length=32
 auth8:Ok8 K.auth
 salt:K.salt.length=12
 salt8:Ok8 K.salt
structure KeyM (H:Heap) (k:Nat) (K:Ky):Prop where
 good:KyG K
 mem:∃a av sv,H.get k=some ⟨zaO,[.int .u64 (K.kid:Nat),.int .i64 (K.t:Nat),.ptr a 0,av,sv],none⟩/\Aes H a K.ws/\By 0 H av K.auth/\By 0 H sv K.salt
 low:k<H.next
def KeyM.grow{H H':Heap}{k:Nat}{K:Ky}(h:KeyM H k K)(g:Grow H H'):KeyM H' k K:=by
 obtain⟨a,av,sv,h1,h2,h3,h4⟩:=h.mem;exact⟨h.good,⟨a,av,sv,by rw[g.same k h.low];exact h1,h2.grow g,h3.ext g,h4.ext g⟩,yak h.low g.next⟩
def zis(s:List Nat)(c:Nat):(zcz s c).length=12:=by simp[zcz]
def zsW{s:List Nat}(h:Ok8 s)(c:Nat):Ok8 (zcz s c):=Ok8.rmap λi _=>zcE ((zlU c 12).getD i) (h.getD i)
def zyo(s:List Nat)(c:Nat):(first (zcz s c)).length=16:=by unfold first;rw[yag,zis];rfl
def first_8{s:List Nat}(h:Ok8 s)(c:Nat):Ok8 (first (zcz s c)):=(zsW h c).app (Ok8.rep 4)
def zt2{H:Heap}{k c:Nat}{K:Ky}(hk:KeyM H k K)(hc:c<18446744073709551616):Ok (sem T zbY [.ptr k 0,.int .u64 (c:Nat)]) H λr H'=>By H.next H' r (zcz K.salt c)/\Grow H H':=by
 refine zjN ?_;unfold zge uL uA uR uc;refine zaf (zgG c 12 hc (by decide)) ?_;rintro r H1 ⟨hr,s1⟩;have nl:=zis K.salt c;have hk1:=hk.grow s1;have kl:=hk.low;have m12:=zd9 c 12;obtain⟨id,cap,o,hrv,g1,i0,i1,hcap⟩:=hr.blk (by rw[m12];decide);rw[m12]at hrv hcap;subst hrv;have vn:Ax.vlen (.sl id 0 12 cap)=some (.int .i64 12):=rfl;obtain⟨a,av,sv,k1,-,-,ks⟩:=hk1.mem;obtain⟨a',av',sv',k1',-,-,ks'⟩:=hk.mem;have hpid:∀i,sv.pid=some i->i<H.next:=by
  have e:=(s1.same k kl).symm.trans k1;rw[k1']at e;simp only[yaa,Blk.mk.injEq,ybO,true_and,and_true]at e;obtain⟨-,rfl,-⟩:_/\sv'=sv/\True:=⟨trivial,by simp_all,trivial⟩;exact λi hi=>(ks'.own i hi).2
 have n1:=s1.next;simp(disch:=omega)only[↓RD,RZ,eq_self,seval,vn];refine zao (α:=Res) (Q:=λz H'=>z = .ex 0 []/\H'.get id=some ⟨zad,(zcz K.salt c).map by8,o⟩/\At1 id H1 H') ?_ ?_
 ·refine zaQ (λi L H'=>L=[.int .i64 (i:Nat)]/\H'.get id=some ⟨zad,((zcz K.salt c).take i++(num c 12).drop i).map by8,o⟩/\At1 id H1 H') 12 ?_ ?_ ?_
  ·exact⟨rfl,by simpa using g1,At1.refl _ _⟩
  ·rintro i _ H2 hi ⟨rfl,g2,s2⟩;have gk2:=(s2.same k (by omega) (by omega)).trans k1;have ks2:=ks.at1 s2 (λe=>by have:=hpid _ e;omega);obtain⟨p,hp,hld,-⟩:=by_at ks2 (i:=(i:Nat)) (by omega) (by have:=hk.good.salt;omega);simp only[yao]at hld;have hA:(((zcz K.salt c).take i).map by8).length=i:=by rw[yai,yaq];omega
   rw[zwm (by omega)]at g2;have m1:=zqc (b:=by8 ((num c 12).getD i 0)) (C:=((num c 12).drop (i+1)).map by8) hA;have m2:=zqb (b:=by8 ((num c 12).getD i 0)) (y:=by8 ((zcz K.salt c).getD i 0)) (C:=((num c 12).drop (i+1)).map by8) hA;have ml:(((zcz K.salt c).take i).map by8++by8 ((num c 12).getD i 0)::((num c 12).drop (i+1)).map by8).length=12:=by rw[yag,hA,List.length_cons,yai,yat];omega
   have ex:=zo1 ((zlU c 12).getD i) (hk.good.salt8.getD i);have ea:(num c 12).getD i 0 ^^^ K.salt.getD i 0=(zcz K.salt c).getD i 0:=by unfold zcz;rw[zdQ hi]
   rw[ea]at ex;replace ex:Ax.bin .xor (by8 ((num c 12).getD i 0)) (.int .u8 (K.salt.getD i 0:Nat)) = _:=ex;unfold zdj uT uNFM uB uI uIM uK uc ug;simp(disch:=omega)only[↓RD,RZ,eq_self,seval,g2,m1,gk2,hp,hld,ex,m2,ml,zg4,zcy];refine⟨by omega,rfl,?_,s2.trans (At1.set id _ _)⟩;rw[zsp (by omega)]
  ·rintro _ H2 ⟨rfl,g2,s2⟩;unfold zdj uT uNFM uB uI uIM uK uc ug;simp(disch:=omega)only[↓RD,RZ,eq_self,seval];refine⟨?_,s2⟩;rw[g2,yal (by omega),yaV (by omega),yaK]
 ·rintro _ H2 ⟨rfl,g2,s2⟩;have n2:=s2.next;simp(disch:=omega)only[↓RD,RZ,eq_self,seval];exact⟨by_sl g2 nl i0 (by omega) hcap,⟨by omega,λi hi=>by rw[s2.same i (by omega) (by omega),s1.same i hi]⟩⟩
def zyF{lo lo':Nat}{H:Heap}{k c:Nat}{K:Ky}{nv bv:V}{l:List Nat}(hk:KeyM H k K) (hn:By lo H nv (zcz K.salt c)) (hb:By lo' H bv l) (h8:Ok8 l) (hl:l.length<=1099511627776) :
  Ok (sem T zbt [.ptr k 0,nv,bv]) H λr H'=>Fx none H.next H' r (ctr K.ws (first (zcz K.salt c)) l)/\Grow H H':=by
 refine zjO ?_;unfold zgf uL uS uNFM uE uO uA uR uc;refine zaL (zdO (by rfl) ?_);rw[zaA];have s1:=Grow.new H ⟨zab,[(),(),(),(),(),(),(),(),(),(),(),(),(),(),(),()],none⟩;have g1:(H.new ⟨zab,[(),(),(),(),(),(),(),(),(),(),(),(),(),(),(),()],none⟩).get H.next=some ⟨zab,List.replicate 16 (.int .u8 0),none⟩:=zae _ _;have n1:(H.new ⟨zab,[(),(),(),(),(),(),(),(),(),(),(),(),(),(),(),()],none⟩).next=H.next+1:=zac _ _;have hk1:=hk.grow s1;have hn1:=hn.ext s1;have hb1:=hb.ext s1;have kl:=hk.low;generalize ha:H.next=a at *;generalize H.new _=H1 at *;have nl:=zis K.salt c;have cp:=zqD (off:=0) (len:=16) (cap:=.fix 16) g1 hn1 (by rw[yaH];decide) (by omega);have sp:splice (List.replicate 16 (V.int .u8 0)) 0 ((zcz K.salt c).map by8)=(first (zcz K.salt c)).map by8:=by
  unfold splice first
  rw[ya8,yaY,yai,nl,yaE,ycz];rfl
 rw[sp]at cp;have vs:=zo2 (n:=16) (id:=a);simp(disch:=omega)only[↓RD,RZ,eq_self,seval,vs];rw[za1];refine zaL ⟨_,_,cp,?_⟩;have fl:=zyo K.salt c;have f8:=first_8 hk.good.salt8 c;have s2:=At1.set a H1 (some ⟨zab,(first (zcz K.salt c)).map by8,none⟩);have g2:(H1.set a (some ⟨zab,(first (zcz K.salt c)).map by8,none⟩)).get a = _:=zah _ _ _;have s02:Grow H (H1.set a (some ⟨zab,(first (zcz K.salt c)).map by8,none⟩)):=s1.set (by omega) _;have hk2:=hk.grow s02;have hb2:=hb.ext s02;generalize Heap.set _ a _=H2 at *;obtain⟨aa,av,sv,k1,kA,-,-⟩:=hk2.mem;have l1:=ld16 fl;simp(disch:=omega)only[↓RD,RZ,eq_self,seval,k1,g2,l1];have hg:=hk.good;refine zaf (Crypt_x kA fl f8 hb2 h8 hg.wl hg.w4 hg.w8 hl) ?_;rintro _ H3 ⟨r,rfl,hr,s3⟩;have n2:=s02.next;simp(disch:=omega)only[↓RD,RZ,eq_self,seval];exact⟨hr.low (by omega),s02.trans s3⟩
def crypt_ok{lo lo':Nat}{H:Heap}{k c:Nat}{K:Ky}{nv bv:V}{l:List Nat}(hk:KeyM H k K) (hn:By lo H nv (zcz K.salt c)) (hb:By lo' H bv l) (h8:Ok8 l) (hl:l.length<=1099511627776) :
  Ok (sem T zbt [.ptr k 0,nv,bv]) H λr H'=>By H.next H' r (ctr K.ws (first (zcz K.salt c)) l)/\Grow H H':=
 zao (zyF hk hn hb h8 hl) λ_ _ h=>⟨h.1.by,h.2⟩
def zq0{lo1 lo2 lo3 lo4:Nat}{H:Heap}{k:Nat}{K:Ky}{nv hv mv bv:V}{n h m b:List Nat}(hk:KeyM H k K)(hn:By lo1 H nv n)(n8:Ok8 n)(hh:By lo2 H hv h)(h8:Ok8 h)(hm:By lo3 H mv m)(m8:Ok8 m)(hb:By lo4 H bv b)(b8:Ok8 b)
  (hl:n.length+h.length+m.length+b.length<=549755813888) :
  Ok (sem T zbD [.ptr k 0,nv,hv,mv,bv]) H λr H'=>By H.next H' r (zle K n h m b)/\Grow H H':=by
 refine zjb ?_;unfold zfD uL uM uT uNFM uNF uB uO uU uA uZ uR uc;have e1:((h.length:Nat):Int)+((m.length:Nat):Int)=((h.length+m.length:Nat):Int):=by omega
 have w1:IntKind.u64.wrap ((h.length+m.length:Nat):Int)=((h.length+m.length:Nat):Int):=by rw[wrap_u64];omega
 have w2:IntKind.u64.wrap ((b.length:Nat):Int)=((b.length:Nat):Int):=by rw[wrap_u64];omega
 have w3:IntKind.u64.wrap ((K.t:Nat):Int)=((K.t:Nat):Int):=by rw[wrap_u64];have:=hk.good.t;omega
 have kl:=hk.low;simp(disch:=omega)only[↓RD,RZ,eq_self,seval,hh.vlen,hm.vlen,hb.vlen,e1,w1,w2];refine zaf (zgG (h.length+m.length) 8 (by omega) (by decide)) ?_;rintro x1 H1 ⟨hx1,s1⟩;have n1:=s1.next;simp(disch:=omega)only[↓RD,RZ,eq_self,seval,hh.vlen,hm.vlen,hb.vlen,w2];refine zaf (zgG b.length 8 (by omega) (by decide)) ?_;rintro x2 H2 ⟨hx2,s2⟩;have n2:=s2.next;have hx1':Ab H.next H2 x1 (num (h.length+m.length) 8):=hx1.keep (s2.keep _);refine okb_ab hx1' (by omega) hx2.by.ac (by rw[zd9,zd9];decide) λx3 H3 hx3 b3=>?_;have n3:=b3.next;have s3:Grow H H3:=(s1.trans s2).bel' (by omega) b3;have hk3:=hk.grow s3;have hk3l:=hk3.low;obtain⟨aa,av,sv,k1,kA,kv,ks⟩:=hk3.mem;simp(disch:=omega)only[↓RD,RZ,eq_self,seval,k1,w3];refine zaf (zgG K.t 8 (by have:=hk.good.t;omega) (by decide)) ?_;rintro x4 H4 ⟨hx4,s4⟩;have n4:=s4.next;have gk4:=s4.same k hk3l;have hx3':=hx3.by.ext s4;have s04:=s3.trans s4;have hn4:=hn.ext s04;have hh4:=hh.ext s04;have hm4:=hm.ext s04;have hb4:=hb.ext s04;have hv4:=kv.ext s4;simp(disch:=omega)only[↓RD,RZ,eq_self,seval,gk4,hx3'.cells1,hx3'.okc,hx4.by.cells1,hx4.by.okc,hn4.cells1,hn4.okc,hh4.cells1,hh4.okc,hm4.cells1,hm4.okc,hb4.cells1,hb4.okc];have s5:=Grow.new H4 ⟨zam,[x3,x4,nv,hv,mv,bv],none⟩;have g5:(H4.new ⟨zam,[x3,x4,nv,hv,mv,bv],none⟩).get H4.next = _:=zae _ _;have n5:(H4.new ⟨zam,[x3,x4,nv,hv,mv,bv],none⟩).next=H4.next+1:=zac _ _;have hlv:Lc 1 0 (H4.new ⟨zam,[x3,x4,nv,hv,mv,bv],none⟩) (.sl H4.next 0 6 (.fix 6)) [x3,x4,nv,hv,mv,bv] 6:=zls g5 rfl (by omega);have hps:Pts 0 H4 [x3,x4,nv,hv,mv,bv] [num (h.length+m.length) 8++num b.length 8,num K.t 8,n,h,m,b]:=
  .cons (hx3'.low (yaI _)) ((zlU _ _).app (zlU _ _)) (.cons (hx4.by.low (yaI _)) (zlU _ _) (.cons (hn4.low (yaI _)) n8 (.cons (hh4.low (yaI _)) h8 (.cons (hm4.low (yaI _)) m8 (.cons (hb4.low (yaI _)) b8 .nil)))))
 have efl:[num (h.length+m.length) 8++num b.length 8,num K.t 8,n,h,m,b].flatten=tagm K n h m b:=by
  unfold tagm;simp
 have lfl:(tagm K n h m b).length<=1099511627776:=by
  unfold tagm;simp only[yag,zd9];omega
 refine zaf (zmY (hv4.ext s5) hk.good.auth8 (by rw[hk.good.auth];decide) hlv (hps.grow s5) (show 6<=1000 by decide) (by rw[efl];exact lfl)) ?_;rintro _ H6 ⟨rfl,s6⟩;rw[efl];have n6:=s6.next;have hl32:=zem kc K.auth (tagm K n h m b);have sp:=sp32 hl32;have l32:(((hmac kc K.auth (tagm K n h m b))).map by8).length=32:=by rw[yai,hl32]
 have s06:=(s04.trans s5).trans s6;have hk6:=hk.grow s06;have kl6:=hk6.low;obtain⟨aa,av,sv,k6,-,-,-⟩:=hk6.mem;have ht:=hk.good.t;have vsl:∀id,zat (.arr 32) 1 (.ptr id 0) none (some (.int .i64 (K.t:Nat))) none=some (.sl id 0 K.t (.fix 32)):=λid=>by
  simp only[zat,zbP,vint,yar,Option.bind_some,yaG,ya0];rw[if_neg (by simp),if_pos ⟨by simp,by omega,by omega,by omega⟩];simp
 simp(disch:=omega)only[↓RD,RZ,eq_self,seval,zcU,zaA,sp,l32,k6,vsl];refine⟨⟨?_,λi hi=>?_,?_⟩,⟨by rw[zal,zac];omega,λi hi=>by rw[zai _ _ (by omega),zas _ _ (by omega),s06.same i hi]⟩⟩
 ·simp only[rcells,zah,Option.bind_some];rw[if_pos (by rw[l32];omega),yaC,ya9];unfold zle;rw[yb5,yaq,hl32,ybc ht]
 ·simp only[V.pid,yaa]at hi;rw[zal,zac];omega
 ·show K.t<=32;exact ht
def sizes_ok{H:Heap}(id:Int)(h0:-9223372036854775808<=id):Ok (sem T zep [.int .i64 id]) H λr H'=>r=(match szs id.toNat with|some (n,t)=>if 0<=id then V.tup [.int .i64 (n:Nat),.int .i64 (t:Nat),.bool true] else .tup [.int .i64 0,.int .i64 0,.bool false]|none=>.tup [.int .i64 0,.int .i64 0,.bool false])/\H'=H:=by
 refine zow ?_;unfold zkO uB uR uK uc;by_cases h1:id=1
 ·subst h1;simp(disch:=omega)only[↓RD,RZ];rfl
 by_cases h2:id=2
 ·subst h2;simp(disch:=omega)only[↓RD,RZ];rfl
 by_cases h3:id=3
 ·subst h3;simp(disch:=omega)only[↓RD,RZ];rfl
 by_cases h4:id=16
 ·subst h4;simp(disch:=omega)only[↓RD,RZ];rfl
 have e1:(id==1)=false:=by simpa using h1
 have e2:(id==2)=false:=by simpa using h2
 have e3:(id==3)=false:=by simpa using h3
 have e4:(id==16)=false:=by simpa using h4
 simp(disch:=omega)only[↓RD,RZ,e1,e2,e3,e4];unfold szs;split
 ·rename_i n t heq;split at heq
  ·rw[if_neg (by omega)]
  ·rw[if_neg (by omega)]
  ·rw[if_neg (by omega)]
  ·rw[if_neg (by omega)]
  ·cases heq
 ·rfl
def Seal_x{lo1 lo2:Nat}{H:Heap}{k c:Nat}{K:Ky}{mv pv:V}{m p:List Nat}(hk:KeyM H k K)(hc:c<18446744073709551616)(hm:By lo1 H mv m)(m8:Ok8 m)(hp:By lo2 H pv p)(p8:Ok8 p)(hml:m.length<=274877906944)(hpl:p.length<=1099511627776) :
  Ok (sem T za9 [.ptr k 0,.int .u64 (c:Nat),mv,pv]) H λr H'=>Grow H H'/\if 1000<p.length then r = .tup [.nils,.int .i64 4] else ∃v,r = .tup [v,.int .i64 0]/\Fx (some 1) H.next H' v (zcr K c m p):=by
 refine zkn ?_;unfold zgU uL uNFM uB uA uR uc;have hg:=hk.good;have kl:=hk.low;simp(disch:=omega)only[↓RD,RZ,hp.vlen];rw[zir];refine zcm (λh=>?_) (λh=>?_)
 ·simp(disch:=omega)only[↓RD,RZ];rw[if_pos (by omega)];exact⟨Grow.refl _,trivial⟩
 ·obtain⟨aa,av,sv,k1,kA,kv,ks⟩:=id hk.mem;simp(disch:=omega)only[↓RD,RZ,k1];refine zaf (Bytes_ok hg.kid hc) ?_;rintro hv H1 ⟨hh,s1⟩;refine zaf (zt2 (hk.grow s1) hc) ?_;rintro nv H2 ⟨hn,s2⟩;have s02:=s1.trans s2;refine zaf (crypt_ok (hk.grow s02) hn (hp.ext s02) p8 hpl) ?_;rintro bv H3 ⟨hb,s3⟩;have s03:=s02.trans s3;have cl:=zgB K.ws (first (zcz K.salt c)) p;have hx:=znF K.kid c;have nl:=zis K.salt c;refine zaf (zq0 (hk.grow s03) (hn.ext s3) (zsW hg.salt8 c) ((hh.ext s2).ext s3) (hdr_8 _ _) (hm.ext s03) m8 hb (ctr_8 hg.ws p8) (by rw[cl];omega)) ?_;rintro tv H4 ⟨ht,s4⟩;have s04:=s03.trans s4;have hh4:=((hh.ext s2).ext s3).ext s4;have hb4:=hb.ext s4;have n1:=s1.next;have n2:=s2.next;have n3:=s3.next;have n4:=s4.next;simp(disch:=omega)only[↓RD,RZ,hh4.cells1,hh4.okc,hb4.cells1,hb4.okc,ht.cells1,ht.okc];have s5:=Grow.new H4 ⟨zam,[hv,bv,tv],none⟩;have g5:(H4.new ⟨zam,[hv,bv,tv],none⟩).get H4.next = _:=zae _ _;have n5:(H4.new ⟨zam,[hv,bv,tv],none⟩).next=H4.next+1:=zac _ _;have hlv:Lc 1 0 (H4.new ⟨zam,[hv,bv,tv],none⟩) (.sl H4.next 0 3 (.fix 3)) [hv,bv,tv] [hv,bv,tv].length:=zls g5 rfl (by omega);have hps:Pts 0 H4 [hv,bv,tv] [hdr K.kid c,ctr K.ws (first (zcz K.salt c)) p,zle K (zcz K.salt c) (hdr K.kid c) m (ctr K.ws (first (zcz K.salt c)) p)]:=
   .cons (hh4.low (yaI _)) (hdr_8 _ _) (.cons (hb4.low (yaI _)) (ctr_8 hg.ws p8) (.cons (ht.low (yaI _)) (zsr _ _ _ _ _) .nil))
  have efl:[hdr K.kid c,ctr K.ws (first (zcz K.salt c)) p,zle K (zcz K.salt c) (hdr K.kid c) m (ctr K.ws (first (zcz K.salt c)) p)].flatten=zcr K c m p:=by
   unfold zcr;simp
  refine zaf (Join_x hlv (hps.grow s5) (show 2<=3 by decide) (show 3<=1000 by decide) (by rw[efl,zi2 hg.t];have:=hg.t;omega)) ?_;rintro v H6 ⟨hv6,s6⟩;rw[efl]at hv6;simp(disch:=omega)only[↓RD,RZ];rw[if_neg (by omega)];exact⟨(s04.trans s5).trans s6,_,rfl,hv6.low (by omega)⟩
def Seal_ok{lo1 lo2:Nat}{H:Heap}{k c:Nat}{K:Ky}{mv pv:V}{m p:List Nat}(hk:KeyM H k K)(hc:c<18446744073709551616)(hm:By lo1 H mv m)(m8:Ok8 m)(hp:By lo2 H pv p)(p8:Ok8 p)(hml:m.length<=274877906944)(hpl:p.length<=1099511627776) :
  Ok (sem T za9 [.ptr k 0,.int .u64 (c:Nat),mv,pv]) H λr H'=>Grow H H'/\if 1000<p.length then r = .tup [.nils,.int .i64 4] else ∃v,r = .tup [v,.int .i64 0]/\By H.next H' v (zcr K c m p):=by
 refine zao (Seal_x hk hc hm m8 hp p8 hml hpl) ?_;rintro r H' ⟨g,h⟩;refine⟨g,?_⟩;split at h
 ·rename_i hl;rw[if_pos hl];exact h
 ·rename_i hl;rw[if_neg hl];obtain⟨v,e,h⟩:=h;exact⟨v,e,h.by⟩
def zxf{b:List Nat}{kid c n:Nat}(h:parse b = .ok kid c n)(h8:Ok8 b):n<=b.length/\n<=17/\kid<18446744073709551616/\c<18446744073709551616:=by
 unfold parse at h;split at h
 ·cases h
 ·dsimp only at h;split at h
  ·cases h
  ·split at h
   ·rename_i h2 h3;injection h with e1 e2 e3
    have g:=getD_lt h8 0;have q:∀x,psz x<=x-7/\(x<16->psz x<=8):=λx=>by unfold psz;split<;>omega
    have r:∀(x:Nat) (l:List Nat),x<16->Ok8 l->l.length<=8->pnum x l<18446744073709551616:=λx l hx hl h8=>by
     unfold pnum;split
     ·omega
     ·have:=be_lt l hl;have h3:256 ^ l.length<=256 ^ 8:=ybF (by decide) h8;omega
    have q1:=(q (b.getD 0 0/16)).2 (by omega);have q2:=(q (b.getD 0 0%16)).2 (by omega);refine⟨by omega,by omega,?_,?_⟩
    ·rw[<-e1];refine r _ _ (by omega) ((h8.take _).drop _) ?_;rw[yat,yaq];omega
    ·rw[<-e2];refine r _ _ (by omega) ((h8.take _).drop _) ?_;rw[yat,yaq];omega
   ·cases h
def pov(H0 H:Heap)(r:V):PO->Prop
 | .err e=>r = .tup [.nils,.int .u64 0,.int .i64 (e:Nat)]
 | .ok p c=>∃v,r = .tup [v,.int .u64 (c:Nat),.int .i64 0]/\By H0.next H v p
def pox(H0 H:Heap)(r:V):PO->Prop
 | .err e=>r = .tup [.nils,.int .u64 0,.int .i64 (e:Nat)]
 | .ok p c=>∃v,r = .tup [v,.int .u64 (c:Nat),.int .i64 0]/\Fx none H0.next H v p
def Open_x{lo1 lo2:Nat}{H:Heap}{k:Nat}{K:Ky}{bv mv:V}{b m:List Nat}(hk:KeyM H k K)(hb:By lo1 H bv b)(b8:Ok8 b)(hm:By lo2 H mv m)(m8:Ok8 m)(hml:m.length<=274877906944)(hbl:b.length<=1099511627776) :
  Ok (sem T zba [.ptr k 0,bv,mv]) H λr H'=>Grow H H'/\pox H H' r (znk K b m):=by
 refine zko ?_;unfold zgV uL uNFM uE uB uA uR uK uc uq ug;have hg:=hk.good;have kl:=hk.low;have ht:=hg.t;obtain⟨aa,av,sv,k1,kA,kv,ks⟩:=id hk.mem;refine zaf (zpI hb b8 (by omega)) ?_;rintro _ H ⟨rfl,rfl⟩;unfold znk;cases hp:parse b with
 | err e=>
  have e0:(((e:Nat):Int)==0)=false:=by
   have:e≠0:=by
    unfold parse at hp;split at hp
    ·injection hp with hp;omega
    ·dsimp only at hp;split at hp
     ·injection hp with hp;omega
     ·split at hp
      ·cases hp
      ·injection hp with hp;omega
   rw[beqz];exact decide_eq_false this
  simp(disch:=omega)only[↓RD,RZ,phv,k1,hb.vlen,e0,ybb];exact⟨Grow.refl _,rfl⟩
 | ok kid c n=>
  obtain⟨n1,n2,n3,n4⟩:=zxf hp b8;dsimp only;simp(disch:=omega)only[↓RD,RZ,phv,k1,hb.vlen,beqn];by_cases hkid:kid=K.kid
  ·have ed:decide (kid=K.kid)=true:=decide_eq_true hkid;rw[if_neg (λh=>h hkid)];simp(disch:=omega)only[↓RD,RZ,ed,ybs];rw[zir];refine zcm (λh1=>?_) (λh1=>?_)
   ·simp(disch:=omega)only[↓RD,RZ];rw[if_pos (by omega)];exact⟨Grow.refl _,rfl⟩
   ·rw[if_neg (by omega)];obtain⟨z,hz⟩:∃z,b.length-n-K.t=z:=⟨_,rfl⟩;have ez:((b.length:Nat):Int)-((n:Nat):Int)-((K.t:Nat):Int)=((z:Nat):Int):=by omega
    have eb:b.length-K.t=n+z:=by omega
    rw[hz,eb];simp(disch:=omega)only[↓RD,RZ,ez];rw[zir];refine zcm (λh2=>?_) (λh2=>?_)
    ·simp(disch:=omega)only[↓RD,RZ];rw[if_pos (by omega)];exact⟨Grow.refl _,rfl⟩
    ·rw[if_neg (by omega)];obtain⟨va,-,ha,-,hva,hpa⟩:=by_slice hb (x:=0) (y:=(n:Nat)) (by omega) (by omega) (by omega);obtain⟨vc,hc,-,-,hvc,hpc⟩:=by_slice hb (x:=(n:Nat)) (y:=((n+z:Nat):Int)) (by omega) (by omega) (by omega);obtain⟨vt,-,-,hx,hvt,hpt⟩:=by_slice hb (x:=((n+z:Nat):Int)) (y:=(b.length:Nat)) (by omega) (by omega) (by omega);have ha:=ha rfl (k':=.i64);have hx:=hx rfl (k:=.i64);simp only[yao,yc7,yaC,ycl]at hva hvc hvt;rw[show n+z-n=z by omega]at hvc;rw[yal (by rw[yat];omega)]at hvt;have eq:((n:Nat):Int)+((z:Nat):Int)=((n+z:Nat):Int):=rfl;have eq':((n:Nat):Int)+(((b.length:Nat):Int)-((n:Nat):Int)-((K.t:Nat):Int))=((n+z:Nat):Int):=by omega
     simp(disch:=omega)only[↓RD,RZ,ha,hc,eq,eq'];refine zaf (zt2 hk n4) ?_;rintro nv H1 ⟨hn,s1⟩;have nl:=zis K.salt c;have lc:((b.drop n).take z).length=z:=by rw[yaq,yat];omega
     have la:(b.take n).length=n:=by rw[yaq];omega
     have c8:Ok8 ((b.drop n).take z):=(b8.drop n).take z;simp(disch:=omega)only[↓RD,RZ,hx,eq,eq'];refine zaf (zq0 (hk.grow s1) hn (zsW hg.salt8 c) (hva.ext s1) (b8.take n) (hm.ext s1) m8 (hvc.ext s1) c8 (by omega)) ?_;rintro tv H2 ⟨htv,s2⟩;have s02:=s1.trans s2;have kS:=@zeR _ _ _ _ (Same_ok htv (hvt.ext s02) (zsr _ _ _ _ _) (b8.drop _) (by rw[zq1 ht];omega));simp(disch:=omega)only[↓RD,RZ,kS];by_cases htg:zle K (zcz K.salt c) (b.take n) m ((b.drop n).take z)=b.drop (n+z)
     ·rw[if_pos htg];have e:decide (zle K (zcz K.salt c) (b.take n) m ((b.drop n).take z)=b.drop (n+z))=true:=decide_eq_true htg;simp(disch:=omega)only[↓RD,RZ,e,ybs];refine zaf (zyF (hk.grow s02) (hn.ext s2) (hvc.ext s02) c8 (by omega)) ?_;rintro pv H3 ⟨hpv,s3⟩;have q1:=s1.next;have q2:=s2.next;simp(disch:=omega)only[↓RD,RZ];exact⟨s02.trans s3,_,rfl,hpv.low (by omega)⟩
     ·rw[if_neg htg];have e:decide (zle K (zcz K.salt c) (b.take n) m ((b.drop n).take z)=b.drop (n+z))=false:=decide_eq_false htg;simp(disch:=omega)only[↓RD,RZ,e,ybb];exact⟨s02,rfl⟩
  ·have ed:decide (kid=K.kid)=false:=decide_eq_false hkid;rw[if_pos hkid];simp(disch:=omega)only[↓RD,RZ,ed,ybb];exact⟨Grow.refl _,rfl⟩
def Open_ok{lo1 lo2:Nat}{H:Heap}{k:Nat}{K:Ky}{bv mv:V}{b m:List Nat}(hk:KeyM H k K)(hb:By lo1 H bv b)(b8:Ok8 b)(hm:By lo2 H mv m)(m8:Ok8 m)(hml:m.length<=274877906944)(hbl:b.length<=1099511627776) :
  Ok (sem T zba [.ptr k 0,bv,mv]) H λr H'=>Grow H H'/\pov H H' r (znk K b m):=by
 refine zao (Open_x hk hb b8 hm m8 hml hbl) ?_;rintro r H' ⟨g,h⟩;refine⟨g,?_⟩;cases ho:znk K b m with
 | err e=>rw[ho]at h;exact h
 | ok p c=>
  rw[ho]at h;obtain⟨v,e,h⟩:=h;exact⟨v,e,h.by⟩
def zwq{id n t:Nat} (h:szs id=some (n,t)):(n=16\/n=32)/\t<=10/\id<=16:=by
 unfold szs at h;split at h<;>simp at h<;>omega
def zub(id kid n:Nat)(base:List Nat)(hn:n<=32):(keyb id kid n base).length=n+32:=by
 unfold keyb;rw[yaq,zf8];omega
def zwQ(id kid:Nat)(base:List Nat):(saltb id kid base).length=12:=by
 unfold saltb;rw[yaq,zf8];rfl
def keyb_8(id kid n:Nat)(base:List Nat):Ok8 (keyb id kid n base):=Ok8.take (zjU _ _ _ _).1 _
def saltb_8(id kid:Nat)(base:List Nat):Ok8 (saltb id kid base):=Ok8.take (zjU _ _ _ _).1 _
def zmJ{id kid n t:Nat}{base:List Nat} (h:szs id=some (n,t)) (hk:kid<18446744073709551616):KyG (drv id kid n t base):=by
 obtain⟨h1,h2,h3⟩:=zwq h;have kl:=zub id kid n base (by omega);have k8:=keyb_8 id kid n base;unfold drv;refine⟨hk,by dsimp only;omega,?_,?_,?_,?_,?_,k8.drop _,zwQ _ _ _,saltb_8 _ _ _⟩
 ·exact zxQ (by omega) (k8.take _) (by rw[yaq];omega) _
 ·dsimp only;rw[zkx];omega
 ·dsimp only;rw[zkx];omega
 ·dsimp only;rw[zkx];omega
 ·dsimp only;rw[yat,kl];omega
def zo8{lo n:Nat}{H:Heap}{y:V}{l m:List Nat}{F:V->M Res}{Q:Res->Heap->Prop}(hl:l.length=n)(h0:0<n)(hy:By lo H y m)(hm:n+m.length<=1099511627776) (k:∀x' H',Ab H.next H' x' (l++m)->Grow H H'->Ok (F x') H' Q) :
  Ok ((mremark zad (.sl H.next 0 n (.fix n))).bind λt=>(mappend zad 1 1 t y).bind F) (H.new ⟨zad,l.map by8,none⟩) Q:=by
 have s1:=Grow.new H ⟨zad,l.map by8,none⟩;have g1:(H.new ⟨zad,l.map by8,none⟩).get H.next = _:=zae _ _;have n1:(H.new ⟨zad,l.map by8,none⟩).next=H.next+1:=zac _ _;have hy1:=hy.ext s1;generalize H.new _=H1 at *;refine zaL ⟨.sl H.next 0 n (.fix n),H1,?_,?_⟩
 ·simp only[mremark,g1,Option.bind_some];rw[if_neg (by omega)]
 ·subst hl;refine okb_ab (lo:=H.next) (l:=l) (m:=m) (.full g1 (by simp) (yaj _) (by omega)) (by omega) hy1.ac (by omega) λx' H2 h2 b2=>?_;exact k x' H2 h2 (s1.bel' (yaj _) b2)
def zmA(lo:Nat)(H:Heap)(k:Nat):Prop:=∀x y a av sv,H.get k=some ⟨zaO,[x,y,.ptr a 0,av,sv],none⟩->∀j,av.pid=some j\/sv.pid=some j->lo<=j
structure KeyB (lo:Nat) (H:Heap) (k:Nat) (K:Ky):Prop where
 good:KyG K
 mem:∃a av sv,H.get k=some ⟨zaO,[.int .u64 (K.kid:Nat),.int .i64 (K.t:Nat),.ptr a 0,av,sv],none⟩/\AesB lo H a K.ws/\By lo H av K.auth/\By lo H sv K.salt
 low:k<H.next
 lo:lo<=k
def KeyB.m{lo:Nat}{H:Heap}{k:Nat}{K:Ky}(h:KeyB lo H k K):KeyM H k K:=by
 obtain⟨a,av,sv,h1,h2,h3,h4⟩:=h.mem;exact⟨h.good,⟨a,av,sv,h1,h2.aes,h3.low (yaI _),h4.low (yaI _)⟩,h.low⟩
def KeyB.kl{lo:Nat}{H:Heap}{k:Nat}{K:Ky}(h:KeyB lo H k K):zmA lo H k:=by
 obtain⟨a,av,sv,h1,h2,h3,h4⟩:=h.mem;intro x y a' av' sv' e j hj;rw[h1]at e;simp only[yaa,Blk.mk.injEq,ybO,true_and,and_true]at e;obtain⟨-,-,-,rfl,rfl⟩:=e;rcases hj with hj|hj
 ·exact(h3.own j hj).1
 ·exact(h4.own j hj).1
def KeyB.keep{lo:Nat}{H H':Heap}{k:Nat}{K:Ky}(h:KeyB lo H k K)(g:Keep lo H H'):KeyB lo H' k K:=by
 obtain⟨a,av,sv,h1,h2,h3,h4⟩:=h.mem;exact⟨h.good,⟨a,av,sv,by rw[g.same k h.lo h.low];exact h1,h2.keep g,h3.keep g,h4.keep g⟩,yak h.low g.next,h.lo⟩
def zuL{lo:Nat}{H:Heap}{kid:Nat}{id:Int}{bv:V}{base:List Nat}(h0:-9223372036854775808<=id)(hk:kid<18446744073709551616)(hb:By lo H bv base)(b8:Ok8 base)(hbl:base.length<=1099511627776) :
  Ok (sem T zbe [.int .i64 id,.int .u64 (kid:Nat),bv]) H λr H'=>Grow H H'/\((id<0\/szs id.toNat=none)/\r = .tup [.nilp,.int .i64 1]\/∃n t k,0<=id/\szs id.toNat=some (n,t)/\r = .tup [.ptr k 0,.int .i64 0]/\KeyB H.next H' k (drv id.toNat kid n t base)):=by
 refine znn ?_;unfold zjy uL uT uE uB uO uA uR uc ub uq;refine zaf (sizes_ok id h0) ?_;rintro _ H ⟨rfl,rfl⟩;cases hs:szs id.toNat with
 | none=>
  simp(disch:=omega)only[↓RD,RZ,eq_self,seval];exact⟨Grow.refl _,.inl (.inr trivial)⟩
 | some q=>
  obtain⟨n,t⟩:=q;dsimp only;by_cases hi:0<=id
  ·rw[if_pos hi];obtain⟨hn,ht,hid⟩:=zwq hs;obtain⟨i,hii⟩:∃i:Nat,id=(i:Nat):=⟨id.toNat,by omega⟩;subst hii;rw[yao]at *;have w0:IntKind.u64.wrap ((i:Nat):Int)=((i:Nat):Int):=by rw[wrap_u64];omega
   simp(disch:=omega)only[↓RD,RZ,eq_self,seval];refine zaf (zlP (Lc.nil:By 0 H .nils []) Ok8.nil (by decide) hb b8 hbl) ?_;rintro _ H1 ⟨rfl,s1⟩;have n1:=s1.next;have sl:(zaV base).length=32:=zem _ _ _;have s8:Ok8 (zaV base):=zlu _ _ _;have eS:hmac kc [] base=zaV base:=rfl;rw[eS];have sp:=sp32 sl;have l32:((zaV base).map by8).length=32:=by rw[yai,sl]
   simp(disch:=omega)only[↓RD,RZ,eq_self,seval,zcU,zaA,sp,l32];have s2:Grow H ((H1.new ⟨zak,[(),(),(),(),(),(),(),(),(),(),(),(),(),(),(),(),(),(),(),(),(),(),(),(),(),(),(),(),(),(),(),()],none⟩).set H1.next (some ⟨zak,(zaV base).map by8,none⟩)):=(s1.trans (Grow.new _ _)).set (by omega) _;have g2:((H1.new ⟨zak,[(),(),(),(),(),(),(),(),(),(),(),(),(),(),(),(),(),(),(),(),(),(),(),(),(),(),(),(),(),(),(),()],none⟩).set H1.next (some ⟨zak,(zaV base).map by8,none⟩)).get H1.next = _:=zah _ _ _;have n2:((H1.new ⟨zak,[(),(),(),(),(),(),(),(),(),(),(),(),(),(),(),(),(),(),(),(),(),(),(),(),(),(),(),(),(),(),(),()],none⟩).set H1.next (some ⟨zak,(zaV base).map by8,none⟩)).next=H1.next+1:=rfl;generalize hq:H1.next=q at *;generalize Heap.set _ q _=H2 at *;refine zaf (zgG kid 8 hk (by decide)) ?_;rintro x1 H3 ⟨hx1,s3⟩;have n3:=s3.next;simp(disch:=omega)only[↓RD,RZ,eq_self,seval,w0];refine zaf (zgG i 2 (by omega) (by decide)) ?_;rintro x2 H4 ⟨hx2,s4⟩;have n4:=s4.next;refine okb_ab (hx1.keep (s4.keep _)) (by omega) hx2.by.ac (by rw[zd9,zd9];decide) λx3 H5 hx3 b5=>?_;have n5:=b5.next;have s25:Grow H2 H5:=(s3.trans s4).bel' (yaj _) b5;have g5:=(s25.same q (by omega)).trans g2;have vs:=zo2 (n:=32) (id:=q);have ad:((n:Nat):Int)+32=((n+32:Nat):Int):=rfl;have hx3b:=hx3.by;have il:(num kid 8++num i 2).length=10:=by rw[yag,zd9,zd9]
   have i8:Ok8 (num kid 8++num i 2):=(zlU _ _).app (zlU _ _);simp(disch:=omega)only[↓RD,RZ,eq_self,seval,vs,ad];rw[za1];refine zo8 (l:=sKey) rfl (by decide) hx3b (by omega) λx6 H6 hx6 s6=>?_;have n6:=s6.next;have g6:=(s6.same q (by omega)).trans g5;have skl:(sKey++(num kid 8++num i 2)).length=32:=by rw[yag,il];rfl
   have sk8:Ok8 (sKey++(num kid 8++num i 2)):=(all8 rfl).app i8;refine zaf (zon (zlb (lo:=0) g6 sl (by omega) (by omega)) s8 (by omega) hx6.by sk8 (by omega) (show n+32<=8160 by omega)) ?_;rintro _ H7 ⟨key,rfl,hkey,s7⟩;have n7:=s7.next;have ek:((hkdf kc (zaV base) (sKey++(num kid 8++num i 2)) ((n+32+31)/32)).1.take (n+32))=keyb i kid n base:=by
    unfold keyb;rw[show(n+32+31)/32=2 by omega]
   rw[ek]at hkey;have kl:=zub i kid n base (by omega);have k8:=keyb_8 i kid n base;have g7:=(s7.same q (by omega)).trans g6;have hx7:=(hx3b.ext s6).ext s7;simp(disch:=omega)only[↓RD,RZ,eq_self,seval,vs];rw[za1];refine zo8 (l:=sSalt) rfl (by decide) hx7 (by omega) λx8 H8 hx8 s8'=>?_;have n8:=s8'.next;have g8:=(s8'.same q (by omega)).trans g7;have ssl:(sSalt++(num kid 8++num i 2)).length=33:=by rw[yag,il];rfl
   have ss8:Ok8 (sSalt++(num kid 8++num i 2)):=(all8 rfl).app i8;refine zaf (zon (zlb (lo:=0) g8 sl (by omega) (by omega)) s8 (by omega) hx8.by ss8 (by omega) (show 12<=8160 by omega)) ?_;rintro _ H9 ⟨salt,rfl,hsalt,s9⟩;have n9:=s9.next;have hkey9:=(hkey.ext s8').ext s9;obtain⟨va,-,ha,-,hva,-⟩:=by_slice hkey9 (x:=0) (y:=(n:Nat)) (by omega) (by omega) (by omega);obtain⟨vb,-,-,hvb',hvb,-⟩:=by_slice hkey9 (x:=(n:Nat)) (y:=((keyb i kid n base).length:Nat)) (by omega) (by omega) (by omega);have ha:=ha rfl (k':=.i64);have hvb':=hvb' rfl (k:=.i64);simp only[yao,yc7,yaC,ycl]at hva hvb;rw[yal (by rw[yat];omega)]at hvb;simp(disch:=omega)only[↓RD,RZ,eq_self,seval,ha];refine zaf (KNew_x (n:=n/4) hva (k8.take n) (by omega) (by rw[yaq];omega)) ?_;rintro _ H10 ⟨k,rfl,hA,s10,hkk⟩;have n10:=s10.next;have hvb10:=hvb.ext s10;have hs10:=hsalt.ext s10;simp(disch:=omega)only[↓RD,RZ,eq_self,seval,hvb',hvb10.cells1,hvb10.okc,hs10.cells1,hs10.okc];have s010:Grow H H10:=((((((s2.trans s25).trans s6).trans s7).trans s8').trans s9).trans s10);have s11:=Grow.new H10 ⟨zaO,[.int .u64 (kid:Nat),.int .i64 (t:Nat),.ptr k 0,vb,salt],none⟩;exact⟨s010.trans s11,.inr ⟨n,t,H10.next,by omega,rfl,rfl,⟨zmJ hs hk,⟨k,vb,salt,zae _ _,(hA.keep (s11.keep _)).low (by omega),(hvb10.ext s11).low (by omega),(hs10.ext s11).low (by omega)⟩,by rw[zac];omega,by omega⟩⟩⟩
  ·rw[if_neg hi];simp(disch:=omega)only[↓RD,RZ,eq_self,seval];exact⟨Grow.refl _,.inl (.inl (by omega))⟩
def zzg{lo:Nat}{H:Heap}{kid:Nat}{id:Int}{bv:V}{base:List Nat}(h0:-9223372036854775808<=id)(hk:kid<18446744073709551616)(hb:By lo H bv base)(b8:Ok8 base)(hbl:base.length<=1099511627776) :
  Ok (sem T zbe [.int .i64 id,.int .u64 (kid:Nat),bv]) H λr H'=>Grow H H'/\((id<0\/szs id.toNat=none)/\r = .tup [.nilp,.int .i64 1]\/∃n t k,0<=id/\szs id.toNat=some (n,t)/\r = .tup [.ptr k 0,.int .i64 0]/\KeyM H' k (drv id.toNat kid n t base)/\H.next<=k/\zmA H.next H' k):=by
 refine zao (zuL h0 hk hb b8 hbl) ?_;rintro r H' ⟨g,h|⟨n,t,k,h1,h2,h3,h4⟩⟩
 ·exact⟨g,.inl h⟩
 ·exact⟨g,.inr ⟨n,t,k,h1,h2,h3,h4.m,h4.lo,h4.kl⟩⟩
def zzf{lo:Nat}{H:Heap}{kid:Nat}{id:Int}{bv:V}{base:List Nat}(h0:-9223372036854775808<=id)(hk:kid<18446744073709551616)(hb:By lo H bv base)(b8:Ok8 base)(hbl:base.length<=1099511627776) :
  Ok (sem T zbe [.int .i64 id,.int .u64 (kid:Nat),bv]) H λr H'=>Grow H H'/\((id<0\/szs id.toNat=none)/\r = .tup [.nilp,.int .i64 1]\/∃n t k,0<=id/\szs id.toNat=some (n,t)/\r = .tup [.ptr k 0,.int .i64 0]/\KeyM H' k (drv id.toNat kid n t base)/\H.next<=k):=by
 refine zao (zzg h0 hk hb b8 hbl) ?_;rintro r H' ⟨g,h|⟨n,t,k,h1,h2,h3,h4,h5,_⟩⟩
 ·exact⟨g,.inl h⟩
 ·exact⟨g,.inr ⟨n,t,k,h1,h2,h3,h4,h5⟩⟩
end Go.Ax.SU
/- Su27 -/
namespace Go.Ax.SU
open Go.Ax
def same_ok{lo lo':Nat}{H:Heap}{u v:V}{a b:List Nat}(hu:By lo H u a)(hv:By lo' H v b)(ha:Ok8 a)(hb:Ok8 b):Ok (sem T zcf [u,v]) H λr H'=>r = .bool (decide (a=b))/\H'=H:=by
 refine zim ?_;unfold zeU uB uR;refine zrq hu.rc ?_;refine zrq hv.rc ?_;refine zel (v:=.bool (decide (a=b))) ?_ ?_
 ·show some (V.bool _) = _;rw[bytes_eq ha hb]
 ·exact zha ⟨_,rfl,rfl,rfl⟩
def zwW{n:Nat}{H:Heap}{l:List Nat}{F:V->M Res}{Q:Res->Heap->Prop}(hl:l.length=n)(h0:0<n) (k:∀x' H',By H.next H' x' l->Grow H H'->Ok (F x') H' Q) :
  Ok ((mremark zad (.sl H.next 0 n (.fix n))).bind F) (H.new ⟨zad,l.map by8,none⟩) Q:=by
 have s1:=Grow.new H ⟨zad,l.map by8,none⟩;have g1:(H.new ⟨zad,l.map by8,none⟩).get H.next = _:=zae _ _;have n1:(H.new ⟨zad,l.map by8,none⟩).next=H.next+1:=zac _ _;generalize H.new _=H1 at *;refine zaL ⟨.sl H.next 0 n (.fix n),H1,?_,?_⟩
 ·simp only[mremark,g1,Option.bind_some];rw[if_neg (by omega)]
 ·exact k _ _ (zlb g1 hl (yaj _) (by omega)) s1
def zr3{lo:Nat}{H:Heap}{kid id n t:Nat}{bv:V}{base:List Nat} (hs:szs id=some (n,t)) (hk:kid<18446744073709551616) (hb:By lo H bv base) (b8:Ok8 base) (hbl:base.length<=1099511627776) :
  Ok (sem T zbe [.int .i64 (id:Nat),.int .u64 (kid:Nat),bv]) H λr H'=>Grow H H'/\∃k,r = .tup [.ptr k 0,.int .i64 0]/\KeyM H' k (drv id kid n t base)/\H.next<=k:=by
 refine zao (zzf (by omega) hk hb b8 hbl) ?_;rintro r H' ⟨g,⟨h1|h1,_⟩|⟨n',t',k,h1,h2,rfl,h4,h5⟩⟩
 ·omega
 ·rw[yao,hs]at h1;cases h1
 ·rw[yao,hs]at h2;injection h2 with h2
  injection h2 with e1 e2
  subst e1 e2;rw[yao]at h4;exact⟨g,k,rfl,h4,h5⟩
end Go.Ax.SU
namespace Go.Ax
open SU
end Go.Ax
/- Re1 -/
namespace Go.Ax.SU
open Go.Ax
def w_rot'(x:UInt32){k k':IntKind}{n:Nat}{a b:Int} (ha:a=(32-n:Nat)) (hb:b=n):(Ax.bin .shr (w32 x) (.int k' b)).bind (λv=>(Ax.bin .shl (w32 x) (.int k a)).bind λu=>Ax.bin .or v u)=some (w32 (rotr x n)):=by
 subst ha hb;unfold w32;have h1:=x.toNat_lt;rw[zsx (by omega) (by omega),zpT (by omega) (by omega) (by omega)];have h2:shr x.toNat n<=x.toNat:=zwL _ _;simp only[Option.bind_some,yao];rw[zxj (by omega) (by omega) (by omega) (by have:=ybf (shl x.toNat (32-n)) (show 0<4294967296 by decide);omega),ztI];simp only[yao,zif,zsy]
def right_eq(x:UInt32)(n:Nat)(h0:0<n)(h1:n<32):sem T zbr [w32 x,.int .u64 (n:Nat)]=M.pure (w32 (rotr x n)):=by
 refine zgE λH=>?_;refine zhV ?_;unfold zeD uB uR uq;have e4:Ax.bin .sub (.int .u64 32) (.int .u64 (n:Nat))=some (.int .u64 ((32-n:Nat):Int)):=by
  rw[ztn,wrap_u64];congr 2;omega
 have e5:=w_rot' x (k:=.u64) (k':=.u64) (n:=n) (a:=((32-n:Nat):Int)) (b:=(n:Nat)) rfl rfl;obtain⟨u,hu,hu2⟩:=yab.1 e5;obtain⟨v,hv,hv2⟩:=yab.1 hu2;simp(disch:=omega)only[↓RD,RZ,eq_self,seval,hv,e4,hu,hv2]
def r6(x:UInt32):sem T zbr [w32 x,.int .u64 6]=M.pure (w32 (rotr x 6)):=right_eq x 6 (by omega) (by omega)
def r2(x:UInt32):sem T zbr [w32 x,.int .u64 2]=M.pure (w32 (rotr x 2)):=right_eq x 2 (by omega) (by omega)
def copy8{β:Type}{lo:Nat}{H:Heap}{y:V}{l:List Nat}{f:V->M β}{Q:β->Heap->Prop}(hy:By lo H y l)(hl:l.length<=140737488355328)
  (k:∀x' H',Ab H.next H' x' l->Grow H H'->Ok (f x') H' Q):Ok ((mappend zad 1 1 (.sl H.next 0 0 (.fix 0)) y).bind f) (H.new ⟨zad,[],none⟩) Q:=
 okb_copy hy.ac (λi hi=>(hy.own i hi).2) (by rw[yai];omega) (by omega) (by omega) λx' H' h g=>k x' H' (.app h) g
def Rst(H:Heap)(k:Nat)(R:V)(l:List Nat)(n:Nat):Prop:=H.get k=some ⟨zja,sbox.map by8++[R],none⟩/\App zab 16 (k+1) H R (l.map by8) n/\k<H.next
def RK(H:Heap)(r:V) (ws:List (List Nat)):Prop:=∃R,r = .agg (sbox.map by8++[R])/\Lc 16 0 H R (ws.flatten.map by8) (ws.length/4)/\(∀w∈ws,Word w)/\ws.length%4=0
def RK.grow{H H':Heap}{r:V} {ws:List (List Nat)} (h:RK H r ws) (g:Grow H H'):RK H' r ws:=by
 obtain⟨R,h1,h2,h3⟩:=h;exact⟨R,h1,h2.ext g,h3⟩
def RK.agg{H:Heap}{r:V} {ws:List (List Nat)} (h:RK H r ws):∃R,r = .agg (sbox.map by8++[R])/\V.okc r=true/\r.cells=sbox.map by8++[R]:=by
 obtain⟨R,rfl,h2,h3⟩:=h;exact⟨R,rfl,rfl,rfl⟩
structure RKs (H:Heap) (R tv sv:V) (K:Ky):Prop where
 good:KyG K
 key:Lc 16 0 H R (K.ws.flatten.map by8) (K.ws.length/4)
 tag:By 0 H tv K.auth
 salt:By 0 H sv K.salt
def RKs.grow{H H':Heap}{R tv sv:V}{K:Ky}(h:RKs H R tv sv K)(g:Grow H H'):RKs H' R tv sv K:=⟨h.good,h.key.ext g,h.tag.ext g,h.salt.ext g⟩
structure AtS (S:List Nat) (H H':Heap):Prop where
 next:H.next<=H'.next
 same:∀i,i<H.next->i∉S->H'.get i=H.get i
def AtS.refl(S:List Nat)(H:Heap):AtS S H H:=⟨yaj _,λ_ _ _=>rfl⟩
def AtS.trans{S:List Nat}{H H1 H2:Heap}(h:AtS S H H1)(g:AtS S H1 H2):AtS S H H2:=⟨yay h.next g.next,λi hi hk=>by rw[g.same i (yak hi h.next) hk,h.same i hi hk]⟩
def Grow.atS{H H':Heap}(h:Grow H H')(S:List Nat):AtS S H H':=⟨h.next,λi hi _=>h.same i hi⟩
def AtS.set{S:List Nat}(H:Heap){k:Nat}(h:k∈S)(b:Option Blk):AtS S H (H.set k b):=⟨yaj _,λi _ hk=>zai _ _ (λe=>hk (e ▸ h))⟩
def AtS.mono{S S':List Nat}{H H':Heap}(h:AtS S H H')(g:∀i∈S,i∈S'):AtS S' H H':=⟨h.next,λi hi hk=>h.same i hi λe=>hk (g i e)⟩
def AtS.grow{H H':Heap} (h:AtS [] H H'):Grow H H':=⟨h.next,λi hi=>h.same i hi (by simp)⟩
def AtS.new{S:List Nat}{H0 H H':Heap}(g:Grow H0 H)(h:AtS S H H')(hS:∀i∈S,H0.next<=i):Grow H0 H':=
 ⟨yay g.next h.next,λi hi=>by rw[h.same i (yak hi g.next) (λe=>by have:=hS i e;omega),g.same i hi]⟩
def Lc.atS{e lo n:Nat}{S:List Nat}{H H':Heap}{v:V}{cells:List V}(h:Lc e lo H v cells n)(s:AtS S H H')(hk:∀i,v.pid=some i->i∉S):Lc e lo H' v cells n:=
 ⟨by rw[zcZ λi hi=>s.same i (h.own i hi).2 (hk i hi)];exact h.rc,λi hi=>⟨(h.own i hi).1,yak (h.own i hi).2 s.next⟩,h.cap⟩
def Odd(b:Blk):Prop:=b.ty≠zaO/\b.ty≠zaR/\b.ty≠zaw/\∀v∈b.cells,∀n,v≠.int .u8 n
def By.odd{lo i:Nat}{H:Heap}{v:V}{l:List Nat}{b:Blk}(h:By lo H v l)(hl:0<l.length)(hp:v.pid=some i)(hg:H.get i=some b):¬∀v∈b.cells,∀n,v≠.int .u8 n:=by
 rcases Lc.cases h with⟨rfl,_⟩|⟨id,off,cap,b',rfl,hb,hle,hc⟩|⟨cs,rfl,_⟩
 ·cases hp
 ·simp only[V.pid,yaa]at hp;subst hp;rw[hb]at hg;injection hg with hg
  subst hg;intro hno;cases l with
  | nil=>simp at hl
  | cons x l=>
   rw[yaT]at hc;have:by8 x∈b'.cells:=ybN (ybM (by rw[<-hc];exact yaU));exact hno _ this _ rfl
 ·cases hp
def KeyM.atS{S:List Nat}{H H':Heap}{k:Nat}{K:Ky}(h:KeyM H k K)(s:AtS S H H')(hS:∀i∈S,∃b,H.get i=some b/\Odd b):KeyM H' k K:=by
 obtain⟨a,av,sv,h1,h2,h3,h4⟩:=h.mem;obtain⟨id,g1,g2,l1,l2,hw⟩:=h2;have hne:∀{i b},H.get i=some b->¬Odd b->i∉S:=λhb ho e=>by
  obtain⟨b',hb',ho'⟩:=hS _ e;rw[hb]at hb';injection hb' with hb'
  exact ho (hb' ▸ ho')
 have by':∀{v:V} {l:List Nat},By 0 H v l->0<l.length->By 0 H' v l:=λhv hl=>Lc.atS hv s λi hi e=>by
  obtain⟨b',hb',ho'⟩:=hS _ e;exact By.odd hv hl hi hb' ho'.2.2.2
 refine⟨h.good,⟨a,av,sv,?_,⟨id,?_,?_,yak l1 s.next,yak l2 s.next,hw⟩,by' h3 (by rw[h.good.auth];decide),by' h4 (by rw[h.good.salt];decide)⟩,yak h.low s.next⟩
 ·rw[s.same k h.low (hne h1 λo=>o.1 rfl)];exact h1
 ·rw[s.same a l1 (hne g1 λo=>o.2.1 rfl)];exact g1
 ·rw[s.same id l2 (hne g2 λo=>o.2.2.1 rfl)];exact g2
/-! Maps as lists of keys and values. -/
def encM{α:Type}(ek:α->V) (l:List (α×V)):List V:=l.flatMap λp=>[ek p.1,p.2]
def look{α β:Type}[DecidableEq α](a:α):List (α×β)->Option β
 | []=>none
 | (k,v)::l=>if a=k then some v else look a l
def putl{α β:Type}[DecidableEq α](a:α)(b:β):List (α×β)->List (α×β)
 | []=>[(a,b)]
 | (k,v)::l=>if a=k then (a,b)::l else (k,v)::putl a b l
def zrZ{α:Type}{ek:α->V}(p:α×V) (l:List (α×V)):encM ek (p::l)=ek p.1::p.2::encM ek l:=rfl
section
variable {α:Type} [DecidableEq α] {ek:α->V} {mk:MK}
def mget_enc (hk:∀a b,keq mk (ek a) (ek b)=some (decide (a=b))) (a:α) (l:List (α×V)):mget mk (ek a) (encM ek l)=some (look a l):=by
 induction l with
 | nil=>rfl
 | cons p l ih=>
  obtain⟨k,v⟩:=p;rw[zrZ];simp only[mget,hk,Option.bind_some,decide_eq_true_eq,look];split
  ·rfl
  ·exact ih
def mset_enc (hk:∀a b,keq mk (ek a) (ek b)=some (decide (a=b))) (a:α) (v:V) (l:List (α×V)):mset mk (ek a) v (encM ek l)=some (encM ek (putl a v l)):=by
 induction l with
 | nil=>rfl
 | cons p l ih=>
  obtain⟨k,u⟩:=p;rw[zrZ];simp only[mset,hk,Option.bind_some,decide_eq_true_eq,putl];split
  ·rfl
  ·rw[ih];rfl
def zlo{β:Type}{H:Heap}{c:Nat}{ty:TypeId}{o:Option Nat}{z:V}{a:α} {l:List (α×V)} {f:V->M β} {Q:β->Heap->Prop} (hk:∀a b,keq mk (ek a) (ek b)=some (decide (a=b))) (ho:kok mk (ek a)=true)
  (hg:H.get c=some ⟨ty,encM ek l,o⟩) (k:Ok (f ((look a l).getD z)) H Q):Ok ((mlookup mk z false (.mp c) (ek a)).bind f) H Q:=by
 refine zaL ⟨_,_,(show mlookup mk z false (.mp c) (ek a) H=some ((look a l).getD z,H) from ?_),k⟩;simp only[mlookup,hg,Option.bind_some,if_pos ho,mget_enc hk,yar,yaR,if_false]
def zpc{β:Type}{H:Heap}{c:Nat}{ty:TypeId}{o:Option Nat}{v:V}{a:α} {l:List (α×V)} {f:V->M β} {Q:β->Heap->Prop} (hk:∀a b,keq mk (ek a) (ek b)=some (decide (a=b))) (ho:kok mk (ek a)=true)
  (hg:H.get c=some ⟨ty,encM ek l,o⟩) (k:Ok (f .undef) (H.set c (some ⟨ty,encM ek (putl a v l),o⟩)) Q):Ok ((mmapset mk (.mp c) (ek a) v).bind f) H Q:=by
 refine zaL ⟨_,_,(show mmapset mk (.mp c) (ek a) v H=some (.undef,H.set c (some ⟨ty,encM ek (putl a v l),o⟩)) from ?_),k⟩;simp only[mmapset,hg,Option.bind_some,if_pos ho,mset_enc hk,yar]
end
def ekid(n:Nat):V:=.int .u64 (n:Nat)
def eplc(p:Int×Int):V:=.agg [.int .i64 p.1,.int .i64 p.2]
def zqh(a b:Nat):keq .int (ekid a) (ekid b)=some (decide (a=b)):=by
 simp only[keq,ekid,if_true,yaa];by_cases h:a=b
 ·subst h;simp
 ·rw[decide_eq_false h];have:¬((a:Nat):Int)=((b:Nat):Int):=by omega
  simpa using this
def keq_plc(a b:Int×Int):keq (.st [.int,.int]) (eplc a) (eplc b)=some (decide (a=b)):=by
 obtain⟨a1,a2⟩:=a;obtain⟨b1,b2⟩:=b;simp only[keq,eplc,zaN,if_true,yar,yaa,yae,yaJ];by_cases h1:a1=b1<;>by_cases h2:a2=b2<;>simp[h1,h2]
def zt7{α β:Type}[DecidableEq α](a k:α)(b:β) (l:List (α×β)):look k (putl a b l)=if k=a then some b else look k l:=by
 induction l with
 | nil=>rfl
 | cons p l ih=>
  obtain⟨k',v⟩:=p;simp only[putl];by_cases h:a=k'
  ·subst h;rw[if_pos rfl];simp only[look];by_cases h2:k=a
   ·rw[if_pos h2,if_pos h2]
   ·rw[if_neg h2,if_neg h2,if_neg h2]
  ·rw[if_neg h];simp only[look];by_cases h2:k=k'
   ·subst h2;rw[if_pos rfl,if_neg (λe=>h e.symm),if_pos rfl]
   ·rw[if_neg h2,ih,if_neg h2]
/-! Numbers of keys. -/
def kidOk(e st sl:Int):Prop:=(0<=e/\e<=65535)/\(0<=st/\st<=31)/\0<=sl/\sl<8
instance (e st sl:Int):Decidable (kidOk e st sl):=by unfold kidOk;infer_instance
def zng(k:Nat):V:=if 16777216<=k then .tup [.int .i64 0,.int .i64 0,.int .i64 0,.bool false] else .tup [.int .i64 (k/256:Nat),.int .i64 (k%256/8:Nat),.int .i64 (k%8:Nat),.bool true]
def zuD{a m:Nat}(ha:a<18446744073709551616)(hm:0<m):Ax.bin .quo (.int .u64 (a:Nat)) (.int .u64 (m:Nat))=some (.int .u64 (a/m:Nat)):=by
 have h0:¬((m:Nat):Int)=0:=by omega
 have h1:((a:Nat):Int).tdiv ((m:Nat):Int)=((a/m:Nat):Int):=by rw[Int.tdiv_eq_ediv_of_nonneg (by omega)];rfl
 have h2:a/m<=a:=Nat.div_le_self _ _;simp only[Ax.bin,if_true,zcC,if_neg h0,h1,wrap_u64];generalize a/m=d at h2;rw[yb7 (by omega) (by omega)]
def zuC{a m:Nat}(hm:0<m):Ax.bin .rem (.int .u64 (a:Nat)) (.int .u64 (m:Nat))=some (.int .u64 (a%m:Nat)):=by
 have h0:¬((m:Nat):Int)=0:=by omega
 have h1:((a:Nat):Int).tmod ((m:Nat):Int)=((a%m:Nat):Int):=by rw[ydt (by omega)];rfl
 simp only[Ax.bin,if_true,zcC,if_neg h0,h1]
def zrF{H:Heap}{k:Nat}(hk:k<18446744073709551616):Ok (sem T zgc [.int .u64 (k:Nat)]) H λr H'=>r=zng k/\H'=H:=by
 refine zrv ?_;unfold znT uL uB uR uc uq;by_cases h1:16777216<=k
 ·have b1:decide ((16777216:Int)<=((k:Nat):Int))=true:=decide_eq_true (by omega);have b1':decide (16777216<=k)=true:=decide_eq_true h1;simp(disch:=omega)only[↓RD,RZ,b1,b1',zng,h1]
 ·have b1:decide ((16777216:Int)<=((k:Nat):Int))=false:=decide_eq_false (by omega);have b1':decide (16777216<=k)=false:=decide_eq_false h1;have w1:IntKind.i64.wrap ((k/256:Nat):Int)=((k/256:Nat):Int):=wrap_i64 (by omega) (by omega);have w2:IntKind.i64.wrap ((k%256/8:Nat):Int)=((k%256/8:Nat):Int):=wrap_i64 (by omega) (by omega);have w3:IntKind.i64.wrap ((k%8:Nat):Int)=((k%8:Nat):Int):=wrap_i64 (by omega) (by omega);have q1:Ax.bin .quo (.int .u64 (k:Nat)) (.int .u64 256)=some (.int .u64 (k/256:Nat)):=zuD (m:=256) hk (by decide);have q2:Ax.bin .rem (.int .u64 (k:Nat)) (.int .u64 256)=some (.int .u64 (k%256:Nat)):=zuC (m:=256) (by decide);have q3:Ax.bin .rem (.int .u64 (k:Nat)) (.int .u64 8)=some (.int .u64 (k%8:Nat)):=zuC (m:=8) (by decide);have q4:Ax.bin .quo (.int .u64 (k%256:Nat)) (.int .u64 8)=some (.int .u64 (k%256/8:Nat)):=zuD (m:=8) (by omega) (by decide);simp(disch:=omega)only[↓RD,RZ,b1,b1',zng,h1,q1,q2,q3,q4,w1,w2,w3]
/-! ratchet -/
def sRat:List Nat:=[83,70,114,97,109,101,32,49,46,48,32,82,97,116,99,104,101,116]
def zxG(b:List Nat):List Nat:=(hkdf kc (hmac kc [] b) sRat 1).1.take 32
def zeI(b:List Nat):Nat->List Nat
 | 0=>b
 | n+1=>zxG (zeI b n)
def zxF(b:List Nat):(zxG b).length=32:=by unfold zxG;rw[yaq,zf8];omega
def nextB_8(b:List Nat):Ok8 (zxG b):=Ok8.take (zjU kc _ _ _).1 _
def zuE{b:List Nat}(h:Ok8 b):∀n,Ok8 (zeI b n)
 | 0=>h
 | n+1=>nextB_8 _
def zpF{b:List Nat}{m:Nat}(h:b.length<=m)(h32:32<=m):∀n,(zeI b n).length<=m
 | 0=>h
 | n+1=>by unfold zeI;rw[zxF];exact h32
def zxE{lo:Nat}{H:Heap}{bv:V}{b:List Nat}(hb:By lo H bv b)(b8:Ok8 b)(hbl:b.length<=1099511627776):Ok (sem T zdV [bv]) H λr H'=>By H.next H' r (zxG b)/\Grow H H':=by
 refine znr ?_;unfold zjC uL uT uE uO uA uR uc ub;refine zaf (zlP (Lc.nil:By 0 H .nils []) Ok8.nil (by decide) hb b8 hbl) ?_;rintro _ H1 ⟨rfl,s1⟩;have n1:=s1.next;have sl:(hmac kc [] b).length=32:=zem _ _ _;have s8:Ok8 (hmac kc [] b):=zlu _ _ _;have sp:=sp32 sl;have l32:((hmac kc [] b).map by8).length=32:=by rw[yai,sl]
 have vs:=zo2 (n:=32) (id:=H1.next);simp(disch:=omega)only[↓RD,RZ,eq_self,seval,l32,sp,vs];have s2:Grow H ((H1.new ⟨zak,[(),(),(),(),(),(),(),(),(),(),(),(),(),(),(),(),(),(),(),(),(),(),(),(),(),(),(),(),(),(),(),()],none⟩).set H1.next (some ⟨zak,(hmac kc [] b).map by8,none⟩)):=(s1.trans (Grow.new _ _)).set (by omega) _;have g2:((H1.new ⟨zak,[(),(),(),(),(),(),(),(),(),(),(),(),(),(),(),(),(),(),(),(),(),(),(),(),(),(),(),(),(),(),(),()],none⟩).set H1.next (some ⟨zak,(hmac kc [] b).map by8,none⟩)).get H1.next = _:=zah _ _ _;have n2:((H1.new ⟨zak,[(),(),(),(),(),(),(),(),(),(),(),(),(),(),(),(),(),(),(),(),(),(),(),(),(),(),(),(),(),(),(),()],none⟩).set H1.next (some ⟨zak,(hmac kc [] b).map by8,none⟩)).next=H1.next+1:=rfl;generalize hq:H1.next=q at *;generalize Heap.set _ q _=H2 at *;rw[za1,<-n2];refine zwW (l:=sRat) rfl (by decide) λx6 H6 hx6 s6=>?_;have g6:=(s6.same q (by omega)).trans g2;have n6:=s6.next;refine zaf (zon (n:=32) (zlb (lo:=0) g6 sl (by omega) (by omega)) s8 (by omega) hx6 (all8 rfl) (by decide) (by decide)) ?_;rintro _ H7 ⟨key,rfl,hkey,s7⟩;simp(disch:=omega)only[↓RD,RZ,eq_self,seval];exact⟨hkey.low (by have:=(s2.trans s6).next;omega),(s2.trans s6).trans s7⟩
def zqU{H:Heap}(n:Int):Ok (sem T zcv [.int .i64 n]) H λr H'=>r = .bool (decide (0<=n/\n<=31))/\H'=H:=by
 refine zlr ?_;unfold zhS uL uB uG uH uR uc;by_cases h1:0<=n
 ·have b1:decide (0<=n)=true:=decide_eq_true h1;by_cases h2:n<=31
  ·have b2:decide (n<=31)=true:=decide_eq_true h2;have b3:decide (0<=n/\n<=31)=true:=decide_eq_true ⟨h1,h2⟩;simp(disch:=omega)only[↓RD,RZ,b1,b2,b3]
  ·have b2:decide (n<=31)=false:=decide_eq_false h2;have b3:decide (0<=n/\n<=31)=false:=decide_eq_false λh=>h2 h.2;simp(disch:=omega)only[↓RD,RZ,b1,b2,b3]
 ·have b1:decide (0<=n)=false:=decide_eq_false h1;have b3:decide (0<=n/\n<=31)=false:=decide_eq_false λh=>h1 h.1;simp(disch:=omega)only[↓RD,RZ,b1,b3]
def eq_nils{lo:Nat}{H:Heap}{v:V}{l:List Nat}(h:By lo H v l):(v = .nils/\l=[])\/Ax.eqr .sl false v .nils=some (.bool false):=by
 rcases Lc.cases h with⟨rfl,h1,h2⟩|⟨id,off,cap,b',rfl,hb,hle,hc⟩|⟨cs,rfl,_⟩
 ·exact .inl ⟨rfl,yaA h2⟩
 ·exact .inr rfl
 ·exact .inr rfl
def zut{lo:Nat}{H:Heap}{v:V}{l:List Nat}(hv:By lo H v l)(hl:l.length<=140737488355328):Ok (sem T zbk [v]) H λr H'=>By H.next H' r l/\Grow H H':=by
 refine zju ?_;unfold zhC uL uR ub;rcases eq_nils hv with⟨rfl,rfl⟩|e
 ·have e:Ax.eqr .sl false .nils .nils=some (.bool true):=rfl;simp(disch:=omega)only[↓RD,RZ,e];exact⟨Lc.nil,Grow.refl _⟩
 ·simp(disch:=omega)only[↓RD,RZ,e];rw[za1];refine copy8 hv hl λx0 H0' hx0 s0=>?_;simp(disch:=omega)only[↓RD,RZ];exact⟨hx0.by,s0⟩
def zv8{lo:Nat}{H:Heap}{bv:V}{b:List Nat}{n:Nat}(hb:By lo H bv b)(b8:Ok8 b)(hbl:b.length<=1099511627)(hn:n<=31) :
  Ok (sem T zds [bv,.int .i64 (n:Nat)]) H λr H'=>∃v,r = .tup [v,.int .i64 0]/\By H.next H' v (zeI b n)/\Grow H H':=by
 refine zmm ?_;unfold ziS uL uA uR uc ug;have hw:=@zeR _ _ _ _ (@zqU H ((n:Nat):Int));have b3:decide (0<=((n:Nat):Int)/\((n:Nat):Int)<=31)=true:=decide_eq_true (by omega);rw[b3]at hw;simp(disch:=omega)only[↓RD,RZ,hw];refine zaf (zut hb (by omega)) ?_;rintro v0 H1 ⟨hv0,s1⟩;simp(disch:=omega)only[↓RD,RZ];refine zao (Q:=λr H'=>∃v,r = .ex 0 [v]/\By H.next H' v (zeI b n)/\Grow H H') ?_ ?_
 ·refine zaQ (λj L H'=>∃v,L=[v,.int .i64 (j:Nat)]/\By H.next H' v (zeI b j)/\Grow H H') n ?_ ?_ ?_
  ·exact⟨v0,rfl,hv0,s1⟩
  ·rintro j L H2 hj ⟨v,rfl,hv,s2⟩;have al:=zpF (b:=b) (m:=1099511627) hbl (by decide) j;have d1:decide (((j:Nat):Int)<((n:Nat):Int))=true:=decide_eq_true (by omega);unfold zef uB uA uK uc ug;simp(disch:=omega)only[↓RD,RZ,d1];refine zaf (zxE hv (zuE b8 j) (by omega)) ?_;rintro v2 H3 ⟨hv2,s3⟩;simp(disch:=omega)only[↓RD,RZ];exact⟨v2,rfl,hv2.low s2.next,s2.trans s3⟩
  ·rintro L H2 ⟨v,rfl,hv,s2⟩;have d1:decide (((n:Nat):Int)<((n:Nat):Int))=false:=decide_eq_false (by omega);unfold zef uB uA uK uc ug;simp(disch:=omega)only[↓RD,RZ,d1];exact⟨v,rfl,hv,s2⟩
 ·rintro _ H2 ⟨v,rfl,hv,s2⟩;simp(disch:=omega)only[↓RD,RZ];exact⟨v,rfl,hv,s2⟩
end Go.Ax.SU
/- Ax43 -/
namespace Go.Ax
structure Rsu where
 u:Nat
def Heap.pluc(H:Heap)(G:Rsu):Heap:=H
structure Dcl (H:Heap) (G:Rsu):Prop where
 cl:∀i,H.next<=i->H.get i=none
 lo:G.u<=H.next
section
variable {G:Rsu} {H H':Heap}
def Dcl.get(h:Dcl H G){id:Nat}{b:Blk}(hb:H.get id=some b):(H.pluc G).get id=some b:=hb
def Dcl.lt(h:Dcl H G){id:Nat}{b:Blk}(hb:H.get id=some b):id<H.next:=by
 by_cases hl:id<H.next
 ·exact hl
 ·rw[h.cl id (by omega)]at hb;cases hb
def Dcl.set(h:Dcl H G){id:Nat}{b:Blk}(hb:H.get id=some b)(o:Option Blk):(H.pluc G).set id o=(H.set id o).pluc G/\Dcl (H.set id o) G:=by
 have hl:=h.lt hb;refine⟨rfl,⟨λi hi=>?_,h.lo⟩⟩;have hi:H.next<=i:=hi;rw[zai _ _ (by omega)];exact h.cl i hi
def Dcl.new(h:Dcl H G)(b:Blk):(H.pluc G).new b=(H.new b).pluc G/\Dcl (H.new b) G:=by
 refine⟨rfl,⟨λi hi=>?_,by rw[zac];have:=h.lo;omega⟩⟩;rw[zac]at hi;rw[zas _ _ (by omega)];exact h.cl i (by omega)
def CfR(G:Rsu){α:Type}(x y:M α):Prop:=∀H a H',Dcl H G->x H=some (a,H')->y (H.pluc G)=some (a,H'.pluc G)/\Dcl H' G
abbrev CfM(G:Rsu){α:Type}(x:M α):Prop:=CfR G x x
section
variable {α β:Type}
def zb8(v:α):CfM G (M.pure v):=by
 intro H a H' hd h;simp only[M.pure,yaa,yae]at h ⊢;obtain⟨rfl,rfl⟩:=h;exact⟨⟨rfl,rfl⟩,hd⟩
def zcx{y:M α}:CfR G M.fail y:=by intro H a H' hd h;cases h
def zfP(o:Option α):CfM G (M.lift o):=by
 intro H a H' hd h;cases o with
 | none=>cases h
 | some v=>exact zb8 v H a H' hd h
def zbA{x x':M α}{f g:α->M β}(h:CfR G x x') (k:∀v,CfR G (f v) (g v)):CfR G (x.bind f) (x'.bind g):=by
 intro H a H' hd e;obtain⟨v,H1,h1,h2⟩:=bind_some e;obtain⟨e1,d1⟩:=h H v H1 hd h1;obtain⟨e2,d2⟩:=k v H1 a H' d1 h2;exact⟨by rw[bind_ok e1];exact e2,d2⟩
def cf_ite(c:V){x x' y y':M α}(h:CfR G x y)(k:CfR G x' y'):CfR G (M.ite c x x') (M.ite c y y'):=by
 cases c<;>first|exact zcx|skip
 rename_i b;cases b
 ·exact k
 ·exact h
def zdC{H:Heap}{a v:α}{H':Heap}(hd:Dcl H G) (h:(v,H)=(a,H')):(some (v,H.pluc G):Option (α×Heap))=some (a,H'.pluc G)/\Dcl H' G:=by
 injection h with h1 h2
 subst h1 h2;exact⟨rfl,hd⟩
def zmg{H:Heap}{a v:α}{H':Heap}{id:Nat}{b:Blk}{o:Option Blk}(hd:Dcl H G)(hb:H.get id=some b) (h:(v,H.set id o)=(a,H')):(some (v,(H.pluc G).set id o):Option (α×Heap))=some (a,H'.pluc G)/\Dcl H' G:=by
 injection h with h1 h2
 subst h1 h2;obtain⟨e,d⟩:=hd.set hb o;exact⟨by rw[e],d⟩
def zmh{H:Heap}{a v:α}{H':Heap}{b:Blk}(hd:Dcl H G) (h:(v,H.new b)=(a,H')):(some (v,(H.pluc G).new b):Option (α×Heap))=some (a,H'.pluc G)/\Dcl H' G:=by
 injection h with h1 h2
 subst h1 h2;obtain⟨e,d⟩:=hd.new b;exact⟨by rw[e],d⟩
def cf_snew{H:Heap}{a v:α}{H':Heap}{id:Nat}{b c:Blk}{o:Option Blk}(hd:Dcl H G)(hb:H.get id=some b) (h:(v,(H.set id o).new c)=(a,H')):(some (v,((H.pluc G).set id o).new c):Option (α×Heap))=some (a,H'.pluc G)/\Dcl H' G:=by
 injection h with h1 h2
 subst h1 h2;obtain⟨e,d⟩:=hd.set hb o;obtain⟨e',d'⟩:=d.new c;exact⟨by rw[e,e'],d'⟩
def zek{p:Prop}[Decidable p] {X Y:Option (α×Heap)} {X' Y':Option (α×Heap)} {a:α} {H':Heap} {R:Prop} (h1:X=some (a,H')->X'=some (a,H'.pluc G)/\R) (h2:Y=some (a,H')->Y'=some (a,H'.pluc G)/\R) (h:(if p then X else Y)=some (a,H')):(if p then X' else Y')=some (a,H'.pluc G)/\R:=by
 by_cases hp:p
 ·rw[if_pos hp]at h ⊢;exact h1 h
 ·rw[if_neg hp]at h ⊢;exact h2 h
def zaU{a:α}{H':Heap}{X:Prop} (h:(none:Option (α×Heap))=some (a,H')):X:=by cases h
def zg2{H:Heap}{id:Nat} {k k':Blk->Option (α×Heap)} {a:α} {H':Heap} (hd:Dcl H G) (h:(H.get id).bind k=some (a,H')) (hk:∀b,H.get id=some b->k b=some (a,H')->k' b=some (a,H'.pluc G)/\Dcl H' G):((H.pluc G).get id).bind k'=some (a,H'.pluc G)/\Dcl H' G:=by
 rw[yab]at h;obtain⟨b,hb,h⟩:=h;rw[hd.get hb];exact hk b hb h
def zob{γ:Type}{o:Option γ}{k k':γ->α×Heap}{a:α}{H':Heap}{R:Prop} (h:o.map k=some (a,H')) (hk:∀b,some (k b)=some (a,H')->some (k' b)=some (a,H'.pluc G)/\R):o.map k'=some (a,H'.pluc G)/\R:=by
 cases o with
 | none=>cases h
 | some b=>exact hk b h
end
def zbd{γ:Type}{x y:γ}(h:some x=some y):x=y:=ycU h
def zqL(n:Option Nat)(p:V):CfM G (mload n p):=by
 intro H a H' hd h;cases p<;>first|exact zaU h|skip
 ·exact zg2 hd h λb hb h=>zob h λv h=>zdC hd (zbd h)
 ·exact zob h λv h=>zdC hd (zbd h)
def zuw(n:Nat)(p x:V):CfM G (mstore n p x):=by
 intro H a H' hd h;cases p<;>first|exact zaU h|skip
 exact zg2 hd h λb hb h=>zek (λh=>zmg hd hb (zbd h)) zaU h
def cf_box(ty:TypeId)(x:V):CfM G (mbox ty x):=by
 intro H a H' hd h;exact zek (λh=>zmh hd (zbd h)) zaU h
def zyJ(ty:TypeId)(l:Nat)(z:List V) (ps:List (Nat×Nat×V)):CfM G (mslit ty l z ps):=by
 intro H a H' hd h;exact zob h λcs h=>zmh hd (zbd h)
def zsJ(hd:Dcl H G){e:Nat}{v:V}{q:List V×Nat}(h:rcells e H v=some q):rcells e (H.pluc G) v=some q:=h
def ztv(hd:Dcl H G){e:Nat}{v:V}{q:List V×Nat}(h:acells e H v=some q):acells e (H.pluc G) v=some q:=h
def cf_ac{α:Type}{H:Heap}{e:Nat}{v:V} {k k':List V×Nat->Option (α×Heap)} {a:α} {H':Heap} (hd:Dcl H G) (h:(acells e H v).bind k=some (a,H')) (hk:∀q,k q=some (a,H')->k' q=some (a,H'.pluc G)/\Dcl H' G):(acells e (H.pluc G) v).bind k'=some (a,H'.pluc G)/\Dcl H' G:=by
 rw[yab]at h;obtain⟨q,hq,h⟩:=h;rw[ztv hd hq];exact hk q h
def cf_rc{α:Type}{H:Heap}{e:Nat}{v:V} {k k':List V×Nat->Option (α×Heap)} {a:α} {H':Heap} (hd:Dcl H G) (h:(rcells e H v).bind k=some (a,H')) (hk:∀q,k q=some (a,H')->k' q=some (a,H'.pluc G)/\Dcl H' G):(rcells e (H.pluc G) v).bind k'=some (a,H'.pluc G)/\Dcl H' G:=by
 rw[yab]at h;obtain⟨q,hq,h⟩:=h;rw[zsJ hd hq];exact hk q h
def zlN(ty e b:Nat)(q:List V×Nat)(x:V):CfM G (mappendq ty e b q x):=by
 intro H a H' hd h;cases x<;>first|exact zaU h|skip
 ·exact zek (λh=>zdC hd (zbd h)) (zek (λh=>zmh hd (zbd h)) zaU) h
 ·rename_i id off len cap;refine zg2 hd h λb hb h=>zek (λh=>?_) zaU h;cases cap with
  | fix c=>exact zek (zek (λh=>zmg hd hb (zbd h)) zaU) (zek (λh=>zmh hd (zbd h)) zaU) h
  | opn ee=>exact zek (zek (λh=>zdC hd (zbd h)) (zek (λh=>cf_snew hd hb (zbd h)) zaU)) (zek (λh=>zdC hd (zbd h)) (zek (λh=>zmg hd hb (zbd h)) zaU)) h
 ·exact zek (λh=>zdC hd (zbd h)) zaU h
def zk7(ty e b:Nat)(x y:V):CfM G (mappend ty e b x y):=by
 intro H a H' hd h;exact cf_ac hd h λq h=>zlN ty e b q x H a H' hd h
def zpD(ty b:Nat)(z:List V)(x y:V):CfM G (mappendz ty b z x y):=by
 intro H a H' hd h;cases y<;>first|exact zaU h|skip
 exact zek (λh=>zlN _ _ _ _ _ H a H' hd h) zaU h
def zyO(e:Nat)(x y:V):CfM G (mcopy e x y):=by
 intro H a H' hd h;refine cf_ac hd h λq h=>?_;cases x<;>first|exact zaU h|skip
 ·exact zdC hd (zbd h)
 ·exact zg2 hd h λb hb h=>zek (λh=>zmg hd hb (zbd h)) zaU h
def zuv(x:V):CfM G (mtostr x):=by
 intro H a H' hd h;exact cf_rc hd h λq h=>zob h λv h=>zdC hd (zbd h)
def zlL(ty:TypeId)(x:V):CfM G (mtobytes ty x):=by
 intro H a H' hd h;cases x<;>first|exact zaU h|skip
 exact zek (λh=>zmh hd (zbd h)) zaU h
def zsc(ty:TypeId)(x:V):CfM G (mremark ty x):=by
 intro H a H' hd h;cases x<;>first|exact zaU h|skip
 ·exact zlL ty (.str _) H a H' hd h
 ·exact zg2 hd h λb hb h=>zek zaU (λh=>zdC hd (zbd h)) h
def zpB(ty b:Nat)(z:List V)(l c:V):CfM G (mmkslice ty b z l c):=by
 intro H a H' hd h;unfold mmkslice at h ⊢;split at h
 ·exact zek (λh=>zmh hd (zbd h)) zaU h
 ·exact zaU h
def zyL(ty:TypeId)(x:V):CfM G (mmknz ty x):=by
 intro H a H' hd h;unfold mmknz at h ⊢;split at h
 ·exact zek (λh=>zmh hd (zbd h)) zaU h
 ·exact zaU h
def zsb(e:Nat)(x lo hi:V):CfM G (mslice2 e x lo hi):=by
 intro H a H' hd h;unfold mslice2 at h ⊢;split at h
 ·exact zg2 hd h λb hb h=>zek (λh=>zdC hd (zbd h)) zaU h
 ·exact zaU h
def zuy(z:List V)(x:V):CfM G (mclear z x):=by
 intro H a H' hd h;cases x<;>first|exact zaU h|skip
 exact zek (λh=>zdC hd (zbd h)) (λh=>zg2 hd h λb hb h=>zek (λh=>zmg hd hb (zbd h)) zaU h) h
def zux(ty:TypeId):CfM G (mmkmap ty):=by
 intro H a H' hd h;exact zmh hd (zbd h)
def zsf(mk:MK)(z:V)(ok:Bool)(x k:V):CfM G (mlookup mk z ok x k):=by
 intro H a H' hd h;cases x<;>first|exact zaU h|skip
 exact zg2 hd h λb hb h=>zek (λh=>zob h λv h=>zdC hd (zbd h)) zaU h
def zsd(mk:MK)(x k v:V):CfM G (mmapset mk x k v):=by
 intro H a H' hd h;cases x<;>first|exact zaU h|skip
 exact zg2 hd h λb hb h=>zek (λh=>zob h λv h=>zmg hd hb (zbd h)) zaU h
def zse(x:V):CfM G (mmaplen x):=by
 intro H a H' hd h;cases x<;>first|exact zaU h|skip
 rename_i id;have h':(H.get id).bind (λb=>some (V.int .i64 ((b.cells.length/2:Nat):Int),H))=some (a,H'):=by rw[<-h];simp only[mmaplen];cases H.get id<;>rfl
 have:=zg2 (k':=λb=>some (V.int .i64 ((b.cells.length/2:Nat):Int),H.pluc G)) hd h' λb hb h=>zdC hd (zbd h);rw[<-this.1];exact⟨by simp only[mmaplen];cases (H.pluc G).get id<;>rfl,this.2⟩
def zuz(k:IntKind)(p:V):CfM G (matoload k p):=by
 intro H a H' hd h;unfold matoload at h ⊢;rw[yab]at h;obtain⟨⟨v,H1⟩,h1,h⟩:=h;obtain⟨e1,d1⟩:=zqL none p H v H1 hd h1;rw[e1];dsimp only[Option.bind_some]at h ⊢;cases v<;>first|exact zaU h|skip
 exact zek (λh=>zdC d1 (zbd h)) zaU h
def zyP(k:IntKind)(p y:V):CfM G (matoadd k p y):=by
 intro H a H' hd h;unfold matoadd at h ⊢;split at h
 ·refine zg2 hd h λb hb h=>?_;split at h
  ·rename_i hc;exact zek (λh=>zmg hd hb (zbd h)) zaU h
  ·exact zaU h
 ·exact zaU h
def zpC(p:Bool)(o:Nat)(x n:V):CfM G (mmapdrop p o x n):=by
 intro H a H' hd h;unfold mmapdrop at h ⊢;split at h
 ·refine zg2 hd h λb hb h=>?_;split at h
  ·rename_i hc;exact zg2 hd h λb hb h=>zob h λv h=>zmg hd hb (zbd h)
  ·exact zaU h
 ·exact zaU h
section
variable {g:Sem'}
def zaH{A:Fr}{x:Arg}{k:V->M V} (h:∀v,CfM G (k v)):CfM G (with1 A x k):=by
 unfold with1;cases x.ev A with
 | none=>exact zcx
 | some v=>exact h v
def zmM{A:Fr}{xs:List Arg}{k:List V->M V} (h:∀v,CfM G (k v)):CfM G (withs A xs k):=by
 unfold withs;cases evs A xs with
 | none=>exact zcx
 | some v=>exact h v
def cf_run (hg:∀f args,CfM G (g f args)) (A:Fr) (ins:I):CfM G (ins.run g A):=by
 cases ins<;>unfold I.run<;>dsimp only
 case mkmap=>exact zux _
 case build zero parts=>cases zaM A parts with|none=>exact zcx|some ps=>exact zfP _
 case slit=>rename_i ps;cases zaM A ps with|none=>exact zcx|some ps=>exact zyJ _ _ _ _
 case call f args=>exact zmM λv=>hg f v
 case mkfn f caps=>exact zmM λv=>zb8 _
 case callv x args=>exact zaH λv=>zmM λvs=>by cases v<;>first|exact zcx|exact hg _ _
 case slice ck esz x lo hi mx=>
  refine zaH λv=>?_;split
  ·exact zfP _
  ·exact zcx
 case minmax=>exact zaH λv=>zmM λvs=>zfP _
 all_goals first
  | exact zaH λv=>zb8 _
  | exact zaH λv=>zfP _
  | exact zaH λv=>zaH λw=>zfP _
  | exact zaH λv=>zaH λw=>zaH λu=>zfP _
  | exact zaH λv=>cf_box _ _
  | exact zaH λv=>zqL _ _
  | exact zaH λv=>zuv _
  | exact zaH λv=>zlL _ _
  | exact zaH λv=>zsc _ _
  | exact zaH λv=>zyL _ _
  | exact zaH λv=>zuy _ _
  | exact zaH λv=>zse _
  | exact zaH λv=>zuz _ _
  | exact zaH λv=>zaH λw=>zuw _ _ _
  | exact zaH λv=>zaH λw=>zk7 _ _ _ _ _
  | exact zaH λv=>zaH λw=>zpD _ _ _ _ _
  | exact zaH λv=>zaH λw=>zyO _ _ _
  | exact zaH λv=>zaH λw=>zpB _ _ _ _ _
  | exact zaH λv=>zaH λw=>zsf _ _ _ _ _
  | exact zaH λv=>zaH λw=>zyP _ _ _
  | exact zaH λv=>zaH λw=>zpC _ _ _ _
  | exact zaH λv=>zaH λw=>zaH λu=>zsb _ _ _ _
  | exact zaH λv=>zaH λw=>zaH λu=>zsd _ _ _ _
def zvS{A:Fr} {gd:Option (Nat×Bool)} {x:M V} (h:CfM G x):CfM G (guarded A gd x):=by
 unfold guarded;cases gd with
 | none=>exact h
 | some p=>
  dsimp only;cases A.get p.1 with
  | none=>exact zcx
  | some v=>
   cases v with
   | bool b=>
    dsimp only;by_cases hb:b=p.2
    ·rw[if_pos hb];exact h
    ·rw[if_neg hb];exact zb8 _
   | tup vs=>cases vs with|nil=>exact zb8 _|cons _ _=>exact zcx
   | _=>exact zcx
def zvT (hg:∀f args,CfM G (g f args)) (A:Fr) (o:AO):CfM G (o.run g A):=zvS (cf_run hg A o.ins)
def cf_ops (hg:∀f args,CfM G (g f args)):∀(l:List AO) (A:Fr),CfM G (zd5 g l A)
 | [],A=>zb8 A
 | o::l,A=>zbA (zvT hg A o) λv=>cf_ops hg l _
def zyI(v:V)(h h':Heap):CfR G (M.unch v h h') (M.unch v (h.pluc G) (h'.pluc G)):=by
 intro H a H' hd e;unfold M.unch at e ⊢;split at e
 ·rename_i hp;rw[if_pos]
  ·exact zdC hd (zbd e)
  ·intro id hid;exact hp id hid
 ·exact zaU e
def zqK (un:List (Nat×Nat)) (j:Nat) (h h':Heap):∀rs,CfR G (zaY un j h h' rs) (zaY un j (h.pluc G) (h'.pluc G) rs)
 | []=>zb8 ()
 | (i,a)::rs=>by
  unfold zaY;by_cases hc:un.contains (i,j)=true
  ·rw[if_pos hc,if_pos hc];exact zbA (zyI a h h') λ_=>zqK un j h h' rs
  ·rw[if_neg hc,if_neg hc];exact zqK un j h h' rs
def zqM (un:List (Nat×Nat)) (i:Nat) (a:V):∀js,CfR G (zaZ un i a js) (zaZ un i a (js.map λq=>(q.1,q.2.1.pluc G,q.2.2.pluc G)))
 | []=>zb8 ()
 | (j,h,h')::js=>by
  show CfR G (zaZ un i a ((j,h,h')::js)) (zaZ un i a ((j,h.pluc G,h'.pluc G)::js.map λq=>(q.1,q.2.1.pluc G,q.2.2.pluc G)));unfold zaZ;by_cases hc:un.contains (i,j)=true
  ·rw[if_pos hc,if_pos hc];exact zbA (zyI a h h') λ_=>zqM un i a js
  ·rw[if_neg hc,if_neg hc];exact zqM un i a js
def zyM{α:Type}{f f':Heap->M α} (h:∀H,Dcl H G->CfR G (f H) (f' (H.pluc G))):CfR G (M.getH.bind f) (M.getH.bind f'):=by
 intro H a H' hd e;exact h H hd H a H' hd e
def cf_draw (hg:∀f args,CfM G (g f args)) (un:List (Nat×Nat)):∀(l:List AO) (p:Nat) (rs:List (Nat×V)) (js:List (Nat×Heap×Heap)) (A:Fr),CfR G (zaI g un p rs js l A) (zaI g un p rs (js.map λq=>(q.1,q.2.1.pluc G,q.2.2.pluc G)) l A):=by
 intro l
 induction l with
 | nil=>intro p rs js A;exact zb8 A
 | cons o l ih=>
  intro p rs js A;unfold zaI;cases hk:o.ins.kind with
  | read x=>
   dsimp only;unfold zaI.with1';cases x.ev A with
   | none=>exact zbA (zvT hg A o) λv=>zbA (zqM un p _ js) λ_=>ih _ _ _ _
   | some a=>exact zbA (zvT hg A o) λv=>zbA (zqM un p _ js) λ_=>ih _ _ _ _
  | act=>exact zyM λh hd=>zbA (zvT hg A o) λv=>zyM λh' hd'=>zbA (zqK un p h h' rs) λ_=>ih _ _ ((p,h,h')::js) _
  | pure=>exact zbA (zvT hg A o) λv=>ih _ _ _ _
  | new=>exact zbA (zvT hg A o) λv=>ih _ _ _ _
def cf_iter{body:List V->M Res} (h:∀L,CfM G (body L)) (L:List V):CfM G (M.iter body L):=by
 intro H a H' hd e;obtain⟨n,hn⟩:=zew e;have key:∀(n:Nat) (L:List V),CfM G (iterN body n L):=by
  intro n
  induction n with
  | zero=>intro L;exact zcx
  | succ n ih=>
   intro L;show CfM G (M.join (body L) (iterN body n));refine zbA (h L) λr=>?_;cases r with
   | nrm L'=>exact ih L'
   | ex id L'=>exact zb8 _
   | ret L'=>exact zb8 _
 obtain⟨e1,d1⟩:=key n L H a H' hd hn;exact⟨zgp e1,d1⟩
def zlM(A:Fr):∀rv,CfM G (results A rv)
 | []=>zb8 _
 | .tmp t::rs=>zbA (zfP _) λv=>zbA (zlM A rs) λvs=>zb8 _
 | .cell t n::rs=>zbA (zfP _) λa=>zbA (zqL n a) λv=>zbA (zlM A rs) λvs=>zb8 _
def cf_exec (hg:∀f args,CfM G (g f args)) (rv:List RV):∀(c:C) (cx:List (Nat×List Nat)) (J:List Nat) (A:Fr),CfM G (exec g rv c cx J A):=by
 intro c
 induction c with
 | done=>intro cx J A;exact zbA (zfP _) λL=>zb8 _
 | bad=>intro cx J A;exact zcx
 | ops l k ih=>intro cx J A;exact zbA (cf_ops hg l A) λA'=>ih _ _ _
 | draw l un k ih=>intro cx J A;exact zbA (cf_draw hg un l 0 [] [] A) λA'=>ih _ _ _
 | cond x a b iha ihb=>
  intro cx J A;simp only[exec];cases x.ev A with
  | none=>exact zcx
  | some c=>exact cf_ite c (iha _ _ _) (ihb _ _ _)
 | condJ x a b J' W k iha ihb ihk=>
  intro cx J A;simp only[exec];cases x.ev A with
  | none=>exact zcx
  | some c=>
   refine zbA (cf_ite c (iha _ _ _) (ihb _ _ _)) λr=>?_;cases r with
   | nrm L=>exact ihk _ _ _
   | ex id L=>exact zb8 _
   | ret L=>exact zb8 _
 | blk id a J' W k iha ihk=>
  intro cx J A;simp only[exec,M.blk];refine zbA (iha _ _ _) λr=>?_;cases r with
  | nrm L=>exact ihk _ _ _
  | ex i L=>
   dsimp only;by_cases e:i=id
   ·simp only[if_pos e];exact ihk _ _ _
   ·simp only[if_neg e];exact zb8 _
  | ret L=>exact zb8 _
 | loop a K W iha=>
  intro cx J A;exact zbA (zfP _) λL=>cf_iter (λL=>iha _ _ _) L
 | exit id=>
  intro cx J A;simp only[exec];cases ziY cx id with
  | none=>exact zcx
  | some J=>exact zbA (zfP _) λL=>zb8 _
 | ret=>intro cx J A;exact zbA (zlM A rv) λL=>zb8 _
def cf_fn (hg:∀f args,CfM G (g f args)) (f:Fn') (args:List V):CfM G (f.run g args):=zbA (cf_exec hg _ _ _ _ _) λr=>by
 cases r with
 | ret L=>exact zb8 _
 | nrm L=>exact zcx
 | ex id L=>exact zcx
end
def zyN{T:FuncId->Option Fn'}:∀(n:Nat) (f:FuncId) (args:List V),CfM G (deep T n f args)
 | 0,f,args=>zcx
 | n+1,f,args=>by
  unfold deep;cases T f with
  | none=>exact zcx
  | some ir=>
   dsimp only;split
   ·exact cf_fn (zyN n) ir args
   ·exact zcx
def zyK{T:FuncId->Option Fn'}(f:FuncId)(args:List V):CfM G (sem T f args):=by
 intro H a H' hd e;unfold sem at e;split at e
 ·obtain⟨e1,d1⟩:=zyN _ f args H a H' hd e;exact⟨zg7 e1,d1⟩
 ·cases e
end
def Heap.Cl(H:Heap):Prop:=∀i,H.next<=i->H.get i=none
def zeY{H:Heap}(h:H.Cl)(b:Blk):(H.new b).Cl:=λi hi=>by
 rw[zac]at hi;rw[zas _ _ (by omega)];exact h i (by omega)
def zc6{H:Heap}(h:H.Cl){id:Nat}(hl:id<H.next)(o:Option Blk):(H.set id o).Cl:=λi hi=>by
 have hi:H.next<=i:=hi;rw[zai _ _ (by omega)];exact h i hi
def zkq{T:FuncId->Option Fn'}{f:FuncId}{args:List V}{H:Heap}{Q:V->Heap->Prop}(hc:H.Cl) (h:Ok (sem T f args) H Q):Ok (sem T f args) H λv H'=>Q v H'/\H'.Cl:=by
 obtain⟨v,H',h1,h2⟩:=h;exact⟨v,H',h1,h2,(zyK (G:=⟨0⟩) f args H v H' ⟨hc,yaI _⟩ h1).2.cl⟩
structure Rn where
 f:Nat->Nat
 g:Nat->Option Nat
 k:Nat
 gf:∀i,g (f i)=some i
 fg:∀i j,g j=some i->f i=j
 suc:∀n,k<=n->f (n+1)=f n+1
mutual
def sh(d:Rn):V->V
 | .ptr id off=>.ptr (d.f id) off
 | .mp id=>.mp (d.f id)
 | .sl id off len cap=>.sl (d.f id) off len cap
 | .rs cells len=>.rs (shL d cells) len
 | .rp cells off=>.rp (shL d cells) off
 | .fn f caps=>.fn f (shL d caps)
 | .agg cells=>.agg (shL d cells)
 | .tup vs=>.tup (shL d vs)
 | .bool b=>.bool b
 | .int k n=>.int k n
 | .str s=>.str s
 | .nilp=>.nilp
 | .nils=>.nils
 | .lit x=>.lit x
 | .any=>.any
def shL(d:Rn):List V->List V
 | []=>[]
 | x::xs=>sh d x::shL d xs
end
section
variable {d:Rn}
def shL_map(l:List V):shL d l=l.map (sh d):=by
 induction l with
 | nil=>rfl
 | cons x xs ih=>rw[yaT,<-ih];rfl
def shL_len(l:List V):(shL d l).length=l.length:=by rw[shL_map,yai]
def shL_get(l:List V)(i:Nat):(shL d l)[i]?=l[i]?.map (sh d):=by rw[shL_map,yaQ]
def shL_drop(l:List V)(i:Nat):(shL d l).drop i=shL d (l.drop i):=by rw[shL_map,shL_map,yb6]
def shL_take(l:List V)(i:Nat):(shL d l).take i=shL d (l.take i):=by rw[shL_map,shL_map,yb5]
def shL_app(l m:List V):shL d (l++m)=shL d l++shL d m:=by rw[shL_map,shL_map,shL_map,yaE]
def sh_cells(v:V):(sh d v).cells=shL d v.cells:=by cases v<;>simp[sh,shL,V.cells]
def sh_okc(v:V):(sh d v).okc=v.okc:=by cases v<;>simp[sh,V.okc]
def sh_splice(xs:List V)(o:Nat)(ys:List V):splice (shL d xs) o (shL d ys)=shL d (splice xs o ys):=by
 unfold splice;rw[shL_take,shL_len,shL_drop,<-shL_app,<-shL_app]
def sh_ldc(n:Option Nat)(cs:List V)(o:Nat):ldc n (shL d cs) o=(ldc n cs o).map (sh d):=by
 cases n with
 | none=>exact shL_get cs o
 | some n=>
  simp only[ldc];rw[shL_len];by_cases h:o+n<=cs.length
  ·rw[if_pos h,if_pos h,shL_drop,shL_take];simp[sh]
  ·rw[if_neg h,if_neg h];rfl
def sh_intBin(op:BinOp)(k:IntKind)(a b:Int):(zcC op k a b).map (sh d)=zcC op k a b:=by
 cases op<;>simp only[zcC]<;>first|rfl|(split<;>rfl)
def sh_strBin(op:BinOp)(a b:ByteArray):(zm1 op a b).map (sh d)=zm1 op a b:=by
 cases op<;>simp only[zm1]<;>first|rfl|(split<;>rfl)
def sh_fltBin(op:BinOp)(k:FloatKind)(a b:Nat):(znN op k a b).map (sh d)=znN op k a b:=by
 cases op<;>simp only[znN,ybj]<;>rfl
def sh_bin(op:BinOp)(x y:V):bin op (sh d x) (sh d y)=(bin op x y).map (sh d):=by
 cases x<;>cases y<;>try (simp[bin,sh];done)
 ·rename_i k a k' b;simp only[sh];cases op<;>simp only[bin]<;>split<;>first|rfl|exact(sh_intBin _ _ _ _).symm
 ·simp only[sh,bin];exact(sh_strBin _ _ _).symm
 ·rename_i x y;simp only[sh];cases x<;>cases y<;>try rfl
  simp only[bin];split
  ·exact(sh_fltBin _ _ _ _).symm
  ·rfl
def sh_un(op:UnOp)(x:V):un op (sh d x)=(un op x).map (sh d):=by
 cases op<;>cases x<;>rfl
def sh_cint(k:IntKind)(x:V):cint k (sh d x)=(cint k x).map (sh d):=by
 cases x<;>try (simp[cint,sh];done)
 rename_i x;simp only[sh];cases x<;>try rfl
 simp only[cint];split
 ·split<;>rfl
 ·rfl
def sh_op1(o:U1)(x:V):op1 o (sh d x)=(op1 o x).map (sh d):=by
 cases o<;>cases x<;>try rfl
 ·rename_i x;simp only[sh];cases x<;>try rfl
  rename_i k b;cases k<;>rfl
 ·rename_i k n;cases k<;>rfl
 ·simp only[sh,op1];split<;>rfl
 ·simp only[sh,op1];split<;>rfl
def sh_pick(c a b:V):pick (sh d c) (sh d a) (sh d b)=(pick c a b).map (sh d):=by
 cases c<;>simp[pick,sh]
 split<;>rfl
def sh_nilck(x:V):nilck (sh d x)=(nilck x).map (sh d):=by cases x<;>simp[nilck,sh]
def sh_faddr(o:Nat)(x:V):faddr o (sh d x)=(faddr o x).map (sh d):=by cases x<;>simp[faddr,sh]
def sh_iaddr(al:Option Nat)(e:Nat)(x i:V):iaddr al e (sh d x) (sh d i)=(iaddr al e x i).map (sh d):=by
 cases i<;>try (simp[iaddr,sh];done)
 cases al<;>cases x<;>simp[iaddr,sh]<;>split<;>simp[sh]
def sh_index(l e:Nat)(n:Option Nat)(x i:V):index l e n (sh d x) (sh d i)=(index l e n x i).map (sh d):=by
 cases i<;>try (simp[index,sh];done)
 cases x<;>simp[index,sh]
 split
 ·exact sh_ldc _ _ _
 ·rfl
def sh_sindex(x i:V):sindex (sh d x) (sh d i)=(sindex x i).map (sh d):=by
 cases i<;>try (simp[sindex,sh];done)
 cases x<;>simp[sindex,sh]
 split
 ·rw[ybj];rfl
 ·rfl
def sh_field(o:Nat)(n:Option Nat)(x:V):field o n (sh d x)=(field o n x).map (sh d):=by
 cases x<;>simp[field,sh]
 exact sh_ldc _ _ _
def sh_ext(i:Nat)(x:V):ext i (sh d x)=(ext i x).map (sh d):=by
 cases x<;>simp[ext,sh]
 exact shL_get _ _
def sh_slen(x:V):slen (sh d x)=(slen x).map (sh d):=by cases x<;>simp[slen,sh]
def sh_vlen(x:V):vlen (sh d x)=(vlen x).map (sh d):=by cases x<;>simp[vlen,sh]
def sh_fill (ps:List (Nat×Nat×V)):∀cs:List V,fill (shL d cs) (ps.map λp=>(p.1,p.2.1,sh d p.2.2))=(fill cs ps).map (shL d):=by
 induction ps with
 | nil=>intro cs;rfl
 | cons p ps ih=>
  intro cs;obtain⟨o,s,v⟩:=p;simp only[yaT,fill];rw[sh_cells,shL_len,shL_len,sh_okc];split
  ·rw[sh_splice];exact ih _
  ·rfl
def sh_zeros(z:List V)(n:Nat):zeros (shL d z) n=shL d (zeros z n):=by
 induction n with
 | zero=>rfl
 | succ n ih=>simp only[zeros];rw[ih,shL_app]
def sh_eqInts:∀xs ys:List V,zeH (shL d xs) (shL d ys)=zeH xs ys
 | [],[]=>rfl
 | [],y::ys=>by simp[shL,zeH]
 | x::xs,[]=>by cases x<;>simp[shL,sh,zeH]
 | x::xs,y::ys=>by
  cases x<;>cases y<;>simp only[shL,sh,zeH]
  rw[sh_eqInts xs ys]
def sh_eqFlat:∀(ks:List FK) (xs ys:List V),zaN ks (shL d xs) (shL d ys)=zaN ks xs ys
 | [],[],[]=>rfl
 | [],[],y::ys=>by simp[shL,zaN]
 | [],x::xs,ys=>by cases ys<;>simp[shL,zaN]
 | k::ks,[],ys=>by cases k<;>cases ys<;>simp[shL,zaN]
 | k::ks,x::xs,[]=>by cases k<;>cases x<;>simp[shL,sh,zaN]
 | k::ks,x::xs,y::ys=>by
  cases k<;>cases x<;>cases y<;>simp only[shL,sh,zaN]<;>rw[sh_eqFlat ks xs ys]
def sh_eqv(k:EK)(x y:V):eqv k (sh d x) (sh d y)=eqv k x y:=by
 cases k<;>cases x<;>cases y<;>simp only[eqv,sh]
 ·rw[shL_len,shL_len,sh_eqInts]
 ·exact sh_eqFlat _ _ _
def sh_eqr(k:EK)(neg:Bool)(x y:V):eqr k neg (sh d x) (sh d y)=(eqr k neg x y).map (sh d):=by
 unfold eqr;rw[sh_eqv,ybj];rfl
def sh_vint(v:V):vint (sh d v)=vint v:=by cases v<;>rfl
def sh_optInt(o:Option V):zbP (o.map (sh d))=zbP o:=by
 cases o with
 | none=>rfl
 | some v=>simp only[yar,zbP,sh_vint]
def sh_min2(mx:Bool)(x y:V):min2 mx (sh d x) (sh d y)=(min2 mx x y).map (sh d):=by cases x<;>cases y<;>rfl
def sh_minmax(mx:Bool):∀(l:List V) (v:V),minmax mx (sh d v) (shL d l)=(minmax mx v l).map (sh d)
 | [],v=>rfl
 | x::xs,v=>by
  simp only[shL,minmax];rw[sh_min2];cases min2 mx v x with
  | none=>rfl
  | some w=>exact sh_minmax mx xs w
def sh_build(z:List V) (ps:List (Nat×Nat×V)):build (shL d z) (ps.map λp=>(p.1,p.2.1,sh d p.2.2))=(build z ps).map (sh d):=by
 unfold build;rw[sh_fill,ybj,ybj];congr 1
/-! Memory with other blocks ahead. -/
def shB(d:Rn)(b:Blk):Blk:=⟨b.ty,shL d b.cells,b.opn⟩
def Heap.up(H:Heap)(d:Rn)(R:Nat->Option Blk):Heap:=⟨λj=>match d.g j with|none=>R j|some i=>(H.get i).map (shB d),d.f H.next⟩
variable {R:Nat->Option Blk}
def zmU(H:Heap)(i:Nat):(H.up d R).get (d.f i)=(H.get i).map (shB d):=by
 show(match d.g (d.f i) with|none=>R (d.f i)|some i=>(H.get i).map (shB d)) = _;rw[d.gf]
def zwl(H:Heap)(i:Nat)(o:Option Blk):(H.up d R).set (d.f i) (o.map (shB d))=(H.set i o).up d R:=by
 show Heap.mk _ _=Heap.mk _ _;congr 1;funext j;show(if j=d.f i then o.map (shB d) else match d.g j with|none=>R j|some i=>(H.get i).map (shB d))=match d.g j with|none=>R j|some k=>(if k=i then o else H.get k).map (shB d)
 by_cases e:j=d.f i
 ·subst e;rw[if_pos rfl,d.gf];dsimp only;rw[if_pos rfl]
 ·rw[if_neg e];cases hg:d.g j with
  | none=>rfl
  | some k=>
   dsimp only;rw[if_neg];intro h;subst h;exact e (d.fg _ _ hg).symm
def up_new(H:Heap)(hk:d.k<=H.next)(b:Blk):(H.up d R).new (shB d b)=(H.new b).up d R:=by
 show Heap.mk _ _=Heap.mk _ _;have hn:(H.up d R).next=d.f H.next:=rfl;rw[hn];congr 1
 ·funext j;show(if j=d.f H.next then some (shB d b) else match d.g j with|none=>R j|some i=>(H.get i).map (shB d))=match d.g j with|none=>R j|some k=>(if k=H.next then some b else H.get k).map (shB d)
  by_cases e:j=d.f H.next
  ·subst e;rw[if_pos rfl,d.gf];dsimp only;rw[if_pos rfl];rfl
  ·rw[if_neg e];cases hg:d.g j with
   | none=>rfl
   | some k=>
    dsimp only;rw[if_neg];intro h;subst h;exact e (d.fg _ _ hg).symm
 ·exact(d.suc _ hk).symm
def ShR(d:Rn)(R:Nat->Option Blk){α β:Type}(f:α->β)(x:M α)(y:M β):Prop:=∀H a H',Dcl H ⟨d.k⟩->x H=some (a,H')->y (H.up d R)=some (f a,H'.up d R)/\Dcl H' ⟨d.k⟩
def zcq{α β:Type}(f:α->β)(a:α):ShR d R f (M.pure a) (M.pure (f a)):=by
 intro H b H' hd h;simp only[M.pure,yaa,yae]at h;obtain⟨rfl,rfl⟩:=h;exact⟨rfl,hd⟩
def zb6{α β:Type}{f:α->β}{y:M β}:ShR d R f M.fail y:=by intro H a H' hd h;cases h
def zbW{α β:Type}{f:α->β}{o:Option α}{o':Option β}(h:o'=o.map f):ShR d R f (M.lift o) (M.lift o'):=by
 subst h;intro H a H' hd h;cases o with
 | none=>cases h
 | some v=>exact zcq f v H a H' hd h
def zbC{α β γ δ:Type}{f:α->β}{g:γ->δ}{x:M α}{y:M β}{k:α->M γ}{l:β->M δ}(h:ShR d R f x y) (hk:∀v,ShR d R g (k v) (l (f v))):ShR d R g (x.bind k) (y.bind l):=by
 intro H a H' hd e;obtain⟨v,H1,h1,h2⟩:=bind_some e;obtain⟨e1,d1⟩:=h H v H1 hd h1;rw[bind_ok e1];exact hk v H1 a H' d1 h2
def zss(n:Option Nat)(p:V):ShR d R (sh d) (mload n p) (mload n (sh d p)):=by
 intro H a H' hd h;refine⟨?_,(zqL n p H a H' hd h).2⟩;cases p<;>try (cases h;done)
 ·rename_i id off;simp only[mload,sh]at h ⊢;rw[zmU];cases hb:H.get id with
  | none=>rw[hb]at h;cases h
  | some b=>
   rw[hb]at h;simp only[Option.bind_some,yar]at h ⊢;show(ldc n (shL d b.cells) off).map _ = _;rw[sh_ldc];cases hl:ldc n b.cells off with
   | none=>rw[hl]at h;cases h
   | some v=>rw[hl]at h;cases h;rfl
 ·rename_i cells off;simp only[mload,sh]at h ⊢;rw[sh_ldc];cases hl:ldc n cells off with
  | none=>rw[hl]at h;cases h
  | some v=>rw[hl]at h;cases h;rfl
def sr_store(n:Nat)(p x:V):ShR d R (sh d) (mstore n p x) (mstore n (sh d p) (sh d x)):=by
 intro H a H' hd h;refine⟨?_,(zuw n p x H a H' hd h).2⟩;cases p<;>try (cases h;done)
 rename_i id off;simp only[mstore,sh]at h ⊢;rw[zmU];cases hb:H.get id with
 | none=>rw[hb]at h;cases h
 | some b=>
  rw[hb]at h;simp only[Option.bind_some,yar]at h ⊢;have hc':((sh d x).cells.length=n/\off+n<=(shB d b).cells.length/\(sh d x).okc=true)<->(x.cells.length=n/\off+n<=b.cells.length/\x.okc=true):=by
   rw[sh_cells,shL_len,sh_okc,show(shB d b).cells=shL d b.cells from rfl,shL_len]
  by_cases hc:x.cells.length=n/\off+n<=b.cells.length/\x.okc=true
  ·rw[if_pos hc]at h;rw[if_pos (hc'.2 hc)];cases h;have e:=zwl (d:=d) (R:=R) H id (some { b with cells:=splice b.cells off x.cells });rw[<-e,sh_cells,show(shB d b).cells=shL d b.cells from rfl,sh_splice];rfl
  ·rw[if_neg hc]at h;cases h
def sr_box(ty:TypeId)(x:V):ShR d R (sh d) (mbox ty x) (mbox ty (sh d x)):=by
 intro H a H' hd h;refine⟨?_,(cf_box ty x H a H' hd h).2⟩;unfold mbox at h ⊢;rw[sh_okc];by_cases hc:x.okc=true
 ·rw[if_pos hc]at h ⊢;cases h;rw[sh_cells];exact congrArg (λq=>some (V.ptr (d.f H.next) 0,q)) (up_new H hd.lo ⟨ty,x.cells,none⟩)
 ·rw[if_neg hc]at h;cases h
end
section
variable {d:Rn} {R:Nat->Option Blk}
def upg{H:Heap}{id:Nat}{γ δ:Type}{k:Blk->Option γ}{k':Blk->Option δ}{a:γ}{r:Option δ} (h:(H.get id).bind k=some a) (hk:∀b,H.get id=some b->k b=some a->k' (shB d b)=r):((H.up d R).get (d.f id)).bind k'=r:=by
 rw[zmU];cases hb:H.get id with
 | none=>rw[hb]at h;cases h
 | some b=>rw[hb]at h;exact hk b hb h
def uset(H:Heap)(id:Nat)(ty:TypeId)(cs:List V)(o:Option Nat):(H.up d R).set (d.f id) (some ⟨ty,shL d cs,o⟩)=(H.set id (some ⟨ty,cs,o⟩)).up d R:=zwl H id (some ⟨ty,cs,o⟩)
def unew(H:Heap)(hk:d.k<=H.next)(ty:TypeId)(cs:List V)(o:Option Nat):(H.up d R).new ⟨ty,shL d cs,o⟩=(H.new ⟨ty,cs,o⟩).up d R:=up_new H hk ⟨ty,cs,o⟩
def shB_c(b:Blk):(shB d b).cells=shL d b.cells:=rfl
def uif{γ:Type}{p p':Prop}[Decidable p][Decidable p']{x y:Option γ}{δ:Type}{x' y':Option δ}{a:γ}{r:Option δ}(hp:p<->p') (h:(if p then x else y)=some a) (h1:p->x=some a->x'=r) (h2:¬p->y=some a->y'=r):(if p' then x' else y')=r:=by
 by_cases hc:p
 ·rw[if_pos hc]at h;rw[if_pos (hp.1 hc)];exact h1 hc h
 ·rw[if_neg hc]at h;rw[if_neg λk=>hc (hp.2 k)];exact h2 hc h
def sr_slit(ty:TypeId)(l:Nat)(z:List V) (ps:List (Nat×Nat×V)):ShR d R (sh d) (mslit ty l z ps) (mslit ty l (shL d z) (ps.map λp=>(p.1,p.2.1,sh d p.2.2))):=by
 intro H a H' hd h;refine⟨?_,(zyJ ty l z ps H a H' hd h).2⟩;unfold mslit at h ⊢;rw[sh_zeros,sh_fill];cases hf:fill (zeros z l) ps with
 | none=>rw[hf]at h;cases h
 | some cs=>
  rw[hf]at h;cases h;show some (V.sl (d.f H.next) 0 l (.fix l),(H.up d R).new ⟨ty,shL d cs,none⟩) = _;rw[unew _ hd.lo];rfl
def zmT{e:Nat}{H:Heap}{v:V}{q:List V×Nat}(h:rcells e H v=some q):rcells e (H.up d R) (sh d v)=some (shL d q.1,q.2):=by
 cases v<;>try (cases h;done)
 ·cases h;rfl
 ·rename_i id off len cap;simp only[rcells,sh]at h ⊢;refine upg h λb hb h=>?_;refine uif (by rw[shB_c,shL_len]) h (λ_ h=>?_) (λ_ h=>by cases h);cases h;rw[shB_c,shL_drop,shL_take]
 ·simp only[rcells,sh]at h ⊢;refine uif (by rw[shL_len]) h (λ_ h=>?_) (λ_ h=>by cases h);cases h;rw[shL_take]
def sh_strCells(s:ByteArray):shL d (strCells s)=strCells s:=by
 unfold strCells;rw[shL_map,ycY];rfl
def zqV{e:Nat}{H:Heap}{v:V}{q:List V×Nat}(h:acells e H v=some q):acells e (H.up d R) (sh d v)=some (shL d q.1,q.2):=by
 cases v with
 | str s=>
  simp only[acells,sh]at h ⊢;refine uif ybA h (λ_ h=>?_) (λ_ h=>by cases h);cases h;rw[sh_strCells]
 | nils=>cases h;rfl
 | sl id off len cap=>exact zmT (v:=.sl id off len cap) h
 | rs cells len=>exact zmT (R:=R) (H:=H) (v:=.rs cells len) h
 | _=>cases h
def zo5(ty e b:Nat)(q:List V×Nat)(x:V):ShR d R (sh d) (mappendq ty e b q x) (mappendq ty e b (shL d q.1,q.2) (sh d x)):=by
 intro H a H' hd h;refine⟨?_,(zlN ty e b q x H a H' hd h).2⟩;cases x<;>try (cases h;done)
 ·simp only[mappendq,sh]at h ⊢;refine uif ybA h (λ_ h=>by cases h;rfl) λ_ h=>?_;refine uif ybA h (λ_ h=>?_) (λ_ h=>by cases h);cases h;rw[unew _ hd.lo];rfl
 ·rename_i id off len cap;simp only[mappendq,sh]at h ⊢;refine upg h λbb hb h=>?_;refine uif (by rw[shB_c,shL_len];exact ybA) h (λ_ h=>?_) (λ_ h=>by cases h);cases cap with
  | fix c=>
   dsimp only at h ⊢;refine uif ybA h (λ_ h=>?_) λ_ h=>?_
   ·refine uif (by rw[shB_c,shL_len]) h (λ_ h=>?_) (λ_ h=>by cases h);cases h;rw[shB_c,sh_splice];exact congrArg (λq=>some (V.sl (d.f id) off _ _,q)) (uset H id bb.ty _ bb.opn)
   ·refine uif ybA h (λ_ h=>?_) (λ_ h=>by cases h);cases h;rw[shB_c,shL_drop,shL_take,<-shL_app,unew _ hd.lo];rfl
  | opn ee=>
   dsimp only at h ⊢;refine uif (by rw[shB_c,shL_len];exact ybA) h (λ_ h=>?_) λ_ h=>?_
   ·refine uif ybA h (λ_ h=>by cases h;rfl) λ_ h=>?_;refine uif ybA h (λ_ h=>?_) (λ_ h=>by cases h);cases h;rw[shB_c,shL_drop,<-shL_app];have e1:(H.up d R).set (d.f id) none=(H.set id none).up d R:=zwl H id none;rw[e1,unew (H.set id none) hd.lo];rfl
   ·refine uif ybA h (λ_ h=>by cases h;rfl) λ_ h=>?_;refine uif (by rw[shB_c,shL_len];exact ybA) h (λ_ h=>?_) (λ_ h=>by cases h);cases h;rw[shB_c,sh_splice];exact congrArg (λq=>some (V.sl (d.f id) off _ _,q)) (uset H id bb.ty _ bb.opn)
 ·simp only[mappendq,sh]at h ⊢;refine uif ybA h (λ_ h=>by cases h;rfl) (λ_ h=>by cases h)
def zwD(ty e b:Nat)(x y:V):ShR d R (sh d) (mappend ty e b x y) (mappend ty e b (sh d x) (sh d y)):=by
 intro H a H' hd h;refine⟨?_,(zk7 ty e b x y H a H' hd h).2⟩;unfold mappend at h ⊢;cases hq:acells e H y with
 | none=>rw[hq]at h;cases h
 | some q=>
  rw[hq]at h;rw[zqV hq];exact(zo5 ty e b q x H a H' hd h).1
def zuX(ty b:Nat)(z:List V)(x y:V):ShR d R (sh d) (mappendz ty b z x y) (mappendz ty b (shL d z) (sh d x) (sh d y)):=by
 intro H a H' hd h;refine⟨?_,(zpD ty b z x y H a H' hd h).2⟩;cases y<;>try (cases h;done)
 simp only[mappendz,sh]at h ⊢;refine uif ybA h (λ_ h=>?_) (λ_ h=>by cases h);rw[shL_len,sh_zeros];exact(zo5 _ _ _ _ _ H a H' hd h).1
def sr_copy(e:Nat)(x y:V):ShR d R (sh d) (mcopy e x y) (mcopy e (sh d x) (sh d y)):=by
 intro H a H' hd h;refine⟨?_,(zyO e x y H a H' hd h).2⟩;unfold mcopy at h ⊢;cases hq:acells e H y with
 | none=>rw[hq]at h;cases h
 | some q=>
  rw[hq]at h;rw[zqV hq];simp only[Option.bind_some]at h ⊢;cases x<;>try (cases h;done)
  ·cases h;rfl
  ·rename_i id off len cap;simp only[sh]at h ⊢;refine upg h λb hb h=>?_;refine uif (by rw[shB_c,shL_len]) h (λ_ h=>?_) (λ_ h=>by cases h);cases h;rw[shB_c,shL_take,sh_splice];exact congrArg (λq=>some (V.int .i64 _,q)) (uset H id b.ty _ b.opn)
def sh_vbytes:∀l:List V,zd4 (shL d l)=zd4 l
 | []=>rfl
 | x::xs=>by
  cases x<;>simp only[shL,sh,zd4]
  rename_i k n;cases k<;>simp only[zd4]
  rw[sh_vbytes xs]
def sr_tostr(x:V):ShR d R (sh d) (mtostr x) (mtostr (sh d x)):=by
 intro H a H' hd h;refine⟨?_,(zuv x H a H' hd h).2⟩;unfold mtostr at h ⊢;cases hq:rcells 1 H x with
 | none=>rw[hq]at h;cases h
 | some q=>
  rw[hq]at h;rw[zmT hq];simp only[Option.bind_some]at h ⊢;rw[sh_vbytes];cases hv:zd4 q.1 with
  | none=>rw[hv]at h;cases h
  | some l=>rw[hv]at h;cases h;rfl
def zo4(ty:TypeId)(x:V):ShR d R (sh d) (mtobytes ty x) (mtobytes ty (sh d x)):=by
 intro H a H' hd h;refine⟨?_,(zlL ty x H a H' hd h).2⟩;cases x<;>try (cases h;done)
 simp only[mtobytes,sh]at h ⊢;refine uif ybA h (λ_ h=>?_) (λ_ h=>by cases h);cases h;have e:=unew (d:=d) (R:=R) H hd.lo ty (strCells ‹ByteArray›) (some 1);rw[sh_strCells]at e;rw[e];rfl
def zww(ty:TypeId)(x:V):ShR d R (sh d) (mremark ty x) (mremark ty (sh d x)):=by
 intro H a H' hd h;refine⟨?_,(zsc ty x H a H' hd h).2⟩;cases x<;>try (cases h;done)
 ·exact(zo4 ty (.str _) H a H' hd h).1
 ·simp only[mremark,sh]at h ⊢;refine upg h λb hb h=>?_;refine uif ybA h (λ_ h=>by cases h) λ_ h=>by cases h;rfl
def zuU(ty b:Nat)(z:List V)(l c:V):ShR d R (sh d) (mmkslice ty b z l c) (mmkslice ty b (shL d z) (sh d l) (sh d c)):=by
 intro H a H' hd h;refine⟨?_,(zpB ty b z l c H a H' hd h).2⟩;cases l<;>try (cases h;done)
 rename_i k n;cases k<;>try (cases h;done)
 cases c<;>try (cases h;done)
 rename_i k' n';cases k'<;>try (cases h;done)
 simp only[mmkslice,sh]at h ⊢;refine uif ybA h (λ_ h=>?_) (λ_ h=>by cases h);cases h;rw[sh_zeros,unew _ hd.lo];rfl
def sr_mknz(ty:TypeId)(x:V):ShR d R (sh d) (mmknz ty x) (mmknz ty (sh d x)):=by
 intro H a H' hd h;refine⟨?_,(zyL ty x H a H' hd h).2⟩;cases x<;>try (cases h;done)
 rename_i k n;cases k<;>try (cases h;done)
 simp only[mmknz,sh]at h ⊢;refine uif ybA h (λ_ h=>?_) (λ_ h=>by cases h);cases h;have e:=unew (d:=d) (R:=R) H hd.lo ty (List.replicate n.toNat .any) (some 1);have e2:shL d (List.replicate n.toNat V.any)=List.replicate n.toNat .any:=by rw[shL_map,yce];rfl
 rw[e2]at e;rw[e];rfl
def zwv(e:Nat)(x lo hi:V):ShR d R (sh d) (mslice2 e x lo hi) (mslice2 e (sh d x) (sh d lo) (sh d hi)):=by
 intro H a H' hd h;refine⟨?_,(zsb e x lo hi H a H' hd h).2⟩;cases x<;>try (cases h;done)
 rename_i id off len cap;cases cap<;>cases lo<;>try (cases h;done)
 cases hi<;>try (cases h;done)
 simp only[mslice2,sh]at h ⊢;refine upg h λb hb h=>?_;refine uif (by rw[shB_c,shL_len];exact ybA) h (λ_ h=>by cases h;rfl) (λ_ h=>by cases h)
def sr_clear(z:List V)(x:V):ShR d R (sh d) (mclear z x) (mclear (shL d z) (sh d x)):=by
 intro H a H' hd h;refine⟨?_,(zuy z x H a H' hd h).2⟩;cases x<;>try (cases h;done)
 rename_i id off len cap;simp only[mclear,sh]at h ⊢;refine uif ybA h (λ_ h=>by cases h;rfl) λ_ h=>?_;refine upg h λb hb h=>?_;refine uif (by rw[shB_c,shL_len,shL_len]) h (λ_ h=>?_) (λ_ h=>by cases h);cases h;rw[shB_c,sh_zeros,sh_splice];exact congrArg (λq=>some (V.undef,q)) (uset H id b.ty _ b.opn)
def sh_vslice(ck:CK)(e:Nat)(x:V)(lo hi mx:Option V):zat ck e (sh d x) (lo.map (sh d)) (hi.map (sh d)) (mx.map (sh d))=(zat ck e x lo hi mx).map (sh d):=by
 unfold zat;rw[sh_optInt,sh_optInt,sh_optInt];cases zbP lo with
 | none=>rfl
 | some lo=>
 cases zbP hi with
 | none=>rfl
 | some hi=>
 cases zbP mx with
 | none=>rfl
 | some mx=>
 simp only[Option.bind_some];split
 ·rfl
 cases ck<;>cases x<;>try rfl
 all_goals simp only[sh]
 ·split<;>rfl
 ·split<;>rfl
 ·rename_i id off len cap;cases cap with
  | fix c=>simp only;split<;>rfl
  | opn ee=>
   cases mx with
   | none=>simp only;split<;>rfl
   | some m=>simp only;split<;>rfl
 ·split
  ·rw[shL_drop];rfl
  ·rfl
 ·split<;>rfl
def sh_keq(mk:MK)(a b:V):keq mk (sh d a) (sh d b)=keq mk a b:=by
 cases mk<;>cases a<;>cases b<;>simp only[keq,sh]
 exact sh_eqFlat _ _ _
def sh_kok(mk:MK)(a:V):kok mk (sh d a)=kok mk a:=by
 cases mk<;>cases a<;>simp only[kok,sh]
 rw[shL_len]
def sh_mget(mk:MK)(k:V):∀l:List V,mget mk (sh d k) (shL d l)=(mget mk k l).map (Option.map (sh d))
 | []=>rfl
 | [x]=>rfl
 | k'::v'::r=>by
  simp only[shL,mget];rw[sh_keq];cases keq mk k k' with
  | none=>rfl
  | some b=>
   cases b with
   | true=>rfl
   | false=>exact sh_mget mk k r
def sh_mset(mk:MK)(k v:V):∀l:List V,mset mk (sh d k) (sh d v) (shL d l)=(mset mk k v l).map (shL d)
 | []=>rfl
 | [x]=>rfl
 | k'::v'::r=>by
  simp only[shL,mset];rw[sh_keq];cases keq mk k k' with
  | none=>rfl
  | some b=>
   cases b with
   | true=>rfl
   | false=>
    simp only[Option.bind_some];rw[if_neg (by decide),if_neg (by decide),sh_mset mk k v r,ybj,ybj];rfl
def sr_mkmap(ty:TypeId):ShR d R (sh d) (mmkmap ty) (mmkmap ty):=by
 intro H a H' hd h;refine⟨?_,(zux ty H a H' hd h).2⟩;cases h;exact congrArg (λq=>some (V.mp (d.f H.next),q)) (unew H hd.lo ty [] none)
def zwz(mk:MK)(z:V)(ok:Bool)(x k:V):ShR d R (sh d) (mlookup mk z ok x k) (mlookup mk (sh d z) ok (sh d x) (sh d k)):=by
 intro H a H' hd h;refine⟨?_,(zsf mk z ok x k H a H' hd h).2⟩;cases x<;>try (cases h;done)
 simp only[mlookup,sh]at h ⊢;refine upg h λb hb h=>?_;refine uif (by rw[sh_kok]) h (λ_ h=>?_) (λ_ h=>by cases h);rw[shB_c,sh_mget];cases hg:mget mk k b.cells with
 | none=>rw[hg]at h;cases h
 | some r=>
  rw[hg]at h;cases h;cases r<;>cases ok<;>rfl
def zwx(mk:MK)(x k v:V):ShR d R (sh d) (mmapset mk x k v) (mmapset mk (sh d x) (sh d k) (sh d v)):=by
 intro H a H' hd h;refine⟨?_,(zsd mk x k v H a H' hd h).2⟩;cases x<;>try (cases h;done)
 simp only[mmapset,sh]at h ⊢;refine upg h λb hb h=>?_;refine uif (by rw[sh_kok]) h (λ_ h=>?_) (λ_ h=>by cases h);rw[shB_c,sh_mset];cases hg:mset mk k v b.cells with
 | none=>rw[hg]at h;cases h
 | some cs=>
  rw[hg]at h;cases h;exact congrArg (λq=>some (V.undef,q)) (uset H _ b.ty cs b.opn)
def zwy(x:V):ShR d R (sh d) (mmaplen x) (mmaplen (sh d x)):=by
 intro H a H' hd h;refine⟨?_,(zse x H a H' hd h).2⟩;cases x<;>try (cases h;done)
 simp only[mmaplen,sh]at h ⊢;rw[zmU];rename_i id;cases hb:H.get id with
 | none=>rw[hb]at h;cases h
 | some b=>
  rw[hb]at h;cases h;simp only[yar];rw[shB_c,shL_len];rfl
def sr_aload(k:IntKind)(p:V):ShR d R (sh d) (matoload k p) (matoload k (sh d p)):=by
 intro H a H' hd h;refine⟨?_,(zuz k p H a H' hd h).2⟩;unfold matoload at h ⊢;cases hl:mload none p H with
 | none=>rw[hl]at h;cases h
 | some r=>
  obtain⟨v,H1⟩:=r;rw[hl]at h;rw[(zss none p H v H1 hd hl).1];simp only[Option.bind_some]at h ⊢;cases v<;>try (cases h;done)
  simp only[sh]at h ⊢;refine uif ybA h (λ_ h=>by cases h;rfl) (λ_ h=>by cases h)
def sr_aadd(k:IntKind)(p y:V):ShR d R (sh d) (matoadd k p y) (matoadd k (sh d p) (sh d y)):=by
 intro H a H' hd h;refine⟨?_,(zyP k p y H a H' hd h).2⟩;cases p<;>try (cases h;done)
 cases y<;>try (cases h;done)
 rename_i id off k2 j;simp only[matoadd,sh]at h ⊢;refine upg h λb hb h=>?_;rw[shB_c,shL_get];cases hc:b.cells[off]? with
 | none=>rw[hc]at h;cases h
 | some c=>
  rw[hc]at h;cases c<;>try (cases h;done)
  rename_i kk nn;simp only[yar,sh]at h ⊢;refine uif ybA h (λ_ h=>?_) (λ_ h=>by cases h);cases h;have e:splice (shL d b.cells) off [V.int k (k.wrap (nn+j))]=shL d (splice b.cells off [V.int k (k.wrap (nn+j))]):=sh_splice (d:=d) b.cells off [V.int k (k.wrap (nn+j))];rw[e];exact congrArg (λq=>some (V.int k _,q)) (uset H id b.ty _ b.opn)
def sh_mapart(mk:MK)(k:V):∀l:List V,zit mk (sh d k) (shL d l)=zit mk k l
 | []=>rfl
 | [x]=>rfl
 | k'::v'::r=>by
  simp only[shL,zit];rw[sh_keq,sh_mapart mk k r]
def sh_mkeep(p:Bool)(n:Int)(k:V):zoJ p n (sh d k)=zoJ p n k:=by
 cases k<;>try rfl
 rename_i cs;simp only[sh];rcases cs with _|⟨a,_|⟨b,_|⟨c,cs⟩⟩⟩
 ·rfl
 ·cases a<;>rfl
 ·cases a<;>try rfl
  rename_i k1 n1;cases b<;>try (cases k1<;>rfl)
 ·cases a<;>try rfl
  rename_i k1 n1;cases b<;>try (cases k1<;>rfl)
  rename_i k2 n2;cases k1<;>cases k2<;>rfl
def sh_mfil(p:Bool)(n:Int):∀l:List V,mfil p n (shL d l)=(mfil p n l).map (shL d)
 | []=>rfl
 | [x]=>rfl
 | k::v::r=>by
  simp only[shL,mfil];rw[sh_mapart];by_cases h:zit (zoK p) k r=true
  ·rw[if_pos h,if_pos h,sh_mkeep];cases zoJ p n k with
   | none=>rfl
   | some b=>
    simp only[Option.bind_some];rw[sh_mfil p n r,ybj,ybj];cases b<;>rfl
  ·rw[if_neg h,if_neg h];rfl
def zuV(p:Bool)(o:Nat)(x n:V):ShR d R (sh d) (mmapdrop p o x n) (mmapdrop p o (sh d x) (sh d n)):=by
 intro H a H' hd h;refine⟨?_,(zpC p o x n H a H' hd h).2⟩;cases x<;>try (cases h;done)
 cases n<;>try (cases h;done)
 rename_i id off k n;cases k<;>try (cases h;done)
 simp only[mmapdrop,sh]at h ⊢;refine upg h λb0 hb0 h=>?_;rw[shB_c,shL_get];cases hc:b0.cells[off+o]? with
 | none=>rw[hc]at h;cases h
 | some c=>
  rw[hc]at h;cases c<;>try (cases h;done)
  simp only[yar,sh]at h ⊢;refine upg h λb hb h=>?_;rw[shB_c,sh_mfil];cases hf:mfil p n b.cells with
  | none=>rw[hf]at h;cases h
  | some cs=>
   rw[hf]at h;cases h;exact congrArg (λq=>some (V.undef,q)) (uset H _ b.ty cs b.opn)
end
mutual
def V.still:V->Bool
 | .ptr _ _=>false
 | .mp _=>false
 | .sl _ _ _ _=>false
 | .rs cells _=>V.stills cells
 | .rp cells _=>V.stills cells
 | .fn _ caps=>V.stills caps
 | .agg cells=>V.stills cells
 | .tup vs=>V.stills vs
 | .lit (.int _ _)=>false
 | _=>true
def V.stills:List V->Bool
 | []=>true
 | x::xs=>x.still&&V.stills xs
end
mutual
theorem still_sh{d:Rn}:∀v:V,v.still=true->sh d v=v
 | .ptr _ _,h=>by cases h
 | .mp _,h=>by cases h
 | .sl _ _ _ _,h=>by cases h
 | .rs cells _,h=>by simp only[V.still]at h;simp only[sh,stills_sh cells h]
 | .rp cells _,h=>by simp only[V.still]at h;simp only[sh,stills_sh cells h]
 | .fn _ caps,h=>by simp only[V.still]at h;simp only[sh,stills_sh caps h]
 | .agg cells,h=>by simp only[V.still]at h;simp only[sh,stills_sh cells h]
 | .tup vs,h=>by simp only[V.still]at h;simp only[sh,stills_sh vs h]
 | .bool _,_=>rfl
 | .int _ _,_=>rfl
 | .str _,_=>rfl
 | .nilp,_=>rfl
 | .nils,_=>rfl
 | .lit _,_=>rfl
 | .any,_=>rfl
theorem stills_sh{d:Rn}:∀l:List V,V.stills l=true->shL d l=l
 | [],_=>rfl
 | x::xs,h=>by
  simp only[V.stills,yam]at h;simp only[shL,still_sh x h.1,stills_sh xs h.2]
end
def Arg.still:Arg->Bool
 | .s _=>true
 | .c v=>v.still
def zii:Option Arg->Bool
 | none=>true
 | some x=>x.still
def I.still:I->Bool
 | .mkmap _=>true
 | .maplen x | .aload _ x | .mv x | .box _ x | .load _ x | .nilck x | .un _ x | .cint _ x | .tostr x | .tobytes _ x | .faddr _ x | .field _ _ x | .ext _ x | .len x | .slen x | .op1 _ x | .mknz _ x | .remark _ x=>x.still
 | .clear z x=>V.stills z&&x.still
 | .pick c a b | .slice2 _ c a b | .mapset _ c a b=>c.still&&(a.still&&b.still)
 | .build z ps | .slit _ _ z ps=>V.stills z&&ps.all λp=>p.2.2.still
 | .store _ p x | .aadd _ p x | .mdrop _ _ p x=>p.still&&x.still
 | .lookup _ z _ p x=>z.still&&(p.still&&x.still)
 | .bin _ x y | .eq _ _ x y | .iaddr _ _ x y | .index _ _ _ x y | .sindex x y | .append _ _ _ x y | .copy _ x y=>x.still&&y.still
 | .appendz _ _ z x y | .mkslice _ _ z x y=>V.stills z&&(x.still&&y.still)
 | .slice _ _ x lo hi mx=>x.still&&(zii lo&&(zii hi&&zii mx))
 | .minmax _ x xs=>x.still&&xs.all Arg.still
 | .call _ xs | .mkfn _ xs=>xs.all Arg.still
 | .callv x xs=>x.still&&xs.all Arg.still
def AO.still(o:AO):Bool:=o.ins.still
def C.still:C->Bool
 | .done | .bad | .exit _ | .ret=>true
 | .ops l k=>l.all AO.still&&k.still
 | .draw l _ k=>l.all AO.still&&k.still
 | .cond x a b=>x.still&&(a.still&&b.still)
 | .condJ x a b _ _ k=>x.still&&(a.still&&(b.still&&k.still))
 | .blk _ a _ _ k=>a.still&&k.still
 | .loop a _ _=>a.still
section
variable {d:Rn} {R:Nat->Option Blk} {g g':Sem'}
def shF(d:Rn)(A:Fr):Fr:=A.map λp=>(p.1,sh d p.2)
def shF_get(A:Fr)(t:Nat):Fr.get (shF d A) t=(Fr.get A t).map (sh d):=by
 induction A with
 | nil=>rfl
 | cons p A ih=>
  obtain⟨k,v⟩:=p;show(if k=t then some (sh d v) else Fr.get (shF d A) t)=(if k=t then some v else Fr.get A t).map (sh d);split
  ·rfl
  ·exact ih
def shF_put(A:Fr)(o:Option Nat)(v:V):(shF d A).put o (sh d v)=shF d (A.put o v):=by cases o<;>rfl
def shF_drop(W:List Nat)(A:Fr):(shF d A).drop W=shF d (A.drop W):=by
 induction A with
 | nil=>rfl
 | cons p A ih=>
  obtain⟨k,v⟩:=p;show(if W.contains k then Fr.drop W (shF d A) else (k,sh d v)::Fr.drop W (shF d A))=shF d (if W.contains k then Fr.drop W A else (k,v)::Fr.drop W A);split
  ·exact ih
  ·rw[ih];rfl
def sh_getD(L:List V)(i:Nat):(shL d L).getD i .undef=sh d (L.getD i .undef):=by
 rw[yan,yan,shL_get];cases L[i]?<;>rfl
def shF_bindJ(L:List V):∀(J:List Nat) (i:Nat),zog (shL d L) i J=shF d (zog L i J)
 | [],i=>rfl
 | t::ts,i=>by
  simp only[zog];rw[sh_getD,shF_bindJ L ts (i+1)];rfl
def shF_join(A:Fr)(J W:List Nat)(L:List V):(shF d A).join J W (shL d L)=shF d (A.join J W L):=by
 unfold Fr.join;rw[shF_bindJ,shF_drop];unfold shF;rw[yaE]
def ev_sh{A:Fr}{x:Arg}(h:x.still=true):x.ev (shF d A)=(x.ev A).map (sh d):=by
 cases x with
 | s t=>exact shF_get A t
 | c v=>show some v=some (sh d v);rw[still_sh v h]
def evs_sh{A:Fr}:∀{xs:List Arg},xs.all Arg.still=true->evs (shF d A) xs=(evs A xs).map (shL d)
 | [],_=>rfl
 | x::xs,h=>by
  simp only[yba,yam]at h;simp only[evs];rw[ev_sh h.1,evs_sh h.2];cases x.ev A with
  | none=>rfl
  | some v=>simp only[yar,Option.bind_some,ybj];rfl
def evParts_sh{A:Fr}:∀{ps:List (Nat×Nat×Arg)},ps.all (λp=>p.2.2.still)=true->zaM (shF d A) ps=(zaM A ps).map (λl=>l.map λp=>(p.1,p.2.1,sh d p.2.2))
 | [],_=>rfl
 | (o,s,x)::ps,h=>by
  simp only[yba,yam]at h;simp only[zaM];rw[ev_sh h.1,evParts_sh h.2];cases x.ev A with
  | none=>rfl
  | some v=>simp only[yar,Option.bind_some,ybj];rfl
def evOpt_sh{A:Fr}{o:Option Arg}(h:zii o=true):zbJ (shF d A) o=(zbJ A o).map (Option.map (sh d)):=by
 cases o with
 | none=>rfl
 | some x=>
  simp only[zbJ];rw[ev_sh h];cases x.ev A<;>rfl
def zau{A:Fr}{x:Arg}{k k':V->M V}(h:x.still=true) (hk:∀v,ShR d R (sh d) (k v) (k' (sh d v))):ShR d R (sh d) (with1 A x k) (with1 (shF d A) x k'):=by
 unfold with1;rw[ev_sh h];cases x.ev A with
 | none=>exact zb6
 | some v=>exact hk v
def zmB{A:Fr}{xs:List Arg}{k k':List V->M V}(h:xs.all Arg.still=true) (hk:∀v,ShR d R (sh d) (k v) (k' (shL d v))):ShR d R (sh d) (withs A xs k) (withs (shF d A) xs k'):=by
 unfold withs;rw[evs_sh h];cases evs A xs with
 | none=>exact zb6
 | some v=>exact hk v
def sr_callv (hg:∀f args,ShR d R (sh d) (g f args) (g' f (shL d args))) (x:V) (args:List V):ShR d R (sh d) (callv g x args) (callv g' (sh d x) (shL d args)):=by
 cases x<;>first|exact zb6|skip
 simp only[callv,sh];rw[<-shL_app];exact hg _ _
def sr_run (hg:∀f args,ShR d R (sh d) (g f args) (g' f (shL d args))) (A:Fr) (i:I) (h:i.still=true):ShR d R (sh d) (i.run g A) (i.run g' (shF d A)):=by
 cases i<;>simp only[I.still,yam]at h<;>simp only[I.run]
 case build z ps=>
  rw[evParts_sh h.2];cases zaM A ps with
  | none=>exact zb6
  | some l=>exact zbW (by have:=sh_build (d:=d) z l;rw[stills_sh z h.1]at this;exact this)
 case slit ty l z ps=>
  rw[evParts_sh h.2];cases zaM A ps with
  | none=>exact zb6
  | some q=>have:=sr_slit (d:=d) (R:=R) ty l z q;rw[stills_sh z h.1]at this;exact this
 case slice ck e x lo hi mx=>
  refine zau h.1 λv=>?_;rw[evOpt_sh h.2.1,evOpt_sh h.2.2.1,evOpt_sh h.2.2.2];cases zbJ A lo with
  | none=>exact zb6
  | some lo=>
  cases zbJ A hi with
  | none=>exact zb6
  | some hi=>
  cases zbJ A mx with
  | none=>exact zb6
  | some mx=>exact zbW (sh_vslice ck e v lo hi mx)
 case minmax mx x xs=>exact zau h.1 λv=>zmB h.2 λl=>zbW (sh_minmax mx l v)
 case call f xs=>exact zmB h λl=>hg f l
 case callv x xs=>exact zau h.1 λv=>zmB h.2 λl=>sr_callv hg v l
 case mkfn f xs=>exact zmB h λl=>zcq (sh d) (V.fn f l)
 case mkmap ty=>exact sr_mkmap ty
 case clear z x=>exact zau h.2 λv=>by have:=sr_clear (d:=d) (R:=R) z v;rw[stills_sh z h.1]at this;exact this
 case appendz ty b z x y=>exact zau h.2.1 λv=>zau h.2.2 λw=>by have:=zuX (d:=d) (R:=R) ty b z v w;rw[stills_sh z h.1]at this;exact this
 case mkslice ty b z x y=>exact zau h.2.1 λv=>zau h.2.2 λw=>by have:=zuU (d:=d) (R:=R) ty b z v w;rw[stills_sh z h.1]at this;exact this
 case lookup mk z ok x k=>exact zau h.2.1 λv=>zau h.2.2 λw=>by have:=zwz (d:=d) (R:=R) mk z ok v w;rw[still_sh z h.1]at this;exact this
 case mv x=>exact zau h λv=>zcq (sh d) v
 case pick c a b=>exact zau h.1 λu=>zau h.2.1 λv=>zau h.2.2 λw=>zbW (sh_pick u v w)
 case slice2 e c a b=>exact zau h.1 λu=>zau h.2.1 λv=>zau h.2.2 λw=>zwv e u v w
 case mapset mk c a b=>exact zau h.1 λu=>zau h.2.1 λv=>zau h.2.2 λw=>zwx mk u v w
 case box ty x=>exact zau h λv=>sr_box ty v
 case load n x=>exact zau h λv=>zss n v
 case store n p x=>exact zau h.1 λv=>zau h.2 λw=>sr_store n v w
 case nilck x=>exact zau h λv=>zbW (sh_nilck v)
 case bin op x y=>exact zau h.1 λv=>zau h.2 λw=>zbW (sh_bin op v w)
 case eq k n x y=>exact zau h.1 λv=>zau h.2 λw=>zbW (sh_eqr k n v w)
 case un op x=>exact zau h λv=>zbW (sh_un op v)
 case cint k x=>exact zau h λv=>zbW (sh_cint k v)
 case tostr x=>exact zau h λv=>sr_tostr v
 case tobytes ty x=>exact zau h λv=>zo4 ty v
 case faddr o x=>exact zau h λv=>zbW (sh_faddr o v)
 case iaddr al e x y=>exact zau h.1 λv=>zau h.2 λw=>zbW (sh_iaddr al e v w)
 case index l e n x y=>exact zau h.1 λv=>zau h.2 λw=>zbW (sh_index l e n v w)
 case sindex x y=>exact zau h.1 λv=>zau h.2 λw=>zbW (sh_sindex v w)
 case field o n x=>exact zau h λv=>zbW (sh_field o n v)
 case ext i x=>exact zau h λv=>zbW (sh_ext i v)
 case len x=>exact zau h λv=>zbW (sh_vlen v)
 case slen x=>exact zau h λv=>zbW (sh_slen v)
 case append ty e b x y=>exact zau h.1 λv=>zau h.2 λw=>zwD ty e b v w
 case copy e x y=>exact zau h.1 λv=>zau h.2 λw=>sr_copy e v w
 case op1 k x=>exact zau h λv=>zbW (sh_op1 k v)
 case mknz ty x=>exact zau h λv=>sr_mknz ty v
 case remark ty x=>exact zau h λv=>zww ty v
 case maplen x=>exact zau h λv=>zwy v
 case aload k x=>exact zau h λv=>sr_aload k v
 case aadd k x y=>exact zau h.1 λv=>zau h.2 λw=>sr_aadd k v w
 case mdrop p o x y=>exact zau h.1 λv=>zau h.2 λw=>zuV p o v w
def zuW{A:Fr} {gd:Option (Nat×Bool)} {x y:M V} (h:ShR d R (sh d) x y):ShR d R (sh d) (guarded A gd x) (guarded (shF d A) gd y):=by
 unfold guarded;cases gd with
 | none=>exact h
 | some p=>
  dsimp only;rw[shF_get];cases Fr.get A p.1 with
  | none=>exact zb6
  | some v=>
   cases v with
   | bool b=>
    simp only[yar,sh];by_cases hb:b=p.2
    ·rw[if_pos hb,if_pos hb];exact h
    ·rw[if_neg hb,if_neg hb];exact zcq (sh d) V.undef
   | tup vs=>cases vs with|nil=>exact zcq (sh d) V.undef|cons _ _=>exact zb6
   | _=>exact zb6
def zuY (hg:∀f args,ShR d R (sh d) (g f args) (g' f (shL d args))) (A:Fr) (o:AO) (h:o.still=true):ShR d R (sh d) (o.run g A) (o.run g' (shF d A)):=zuW (sr_run hg A o.ins h)
def sr_ops (hg:∀f args,ShR d R (sh d) (g f args) (g' f (shL d args))):∀(l:List AO) (A:Fr),l.all AO.still=true->ShR d R (shF d) (zd5 g l A) (zd5 g' l (shF d A))
 | [],A,_=>zcq (shF d) A
 | o::l,A,h=>by
  simp only[yba,yam]at h;refine zbC (zuY hg A o h.1) λv=>?_;rw[shF_put];exact sr_ops hg l _ h.2
def sh_pid(v:V):(sh d v).pid=v.pid.map d.f:=by cases v<;>rfl
def zwu(v:V)(h h':Heap):ShR d R (λ_:Unit=>()) (M.unch v h h') (M.unch (sh d v) (h.up d R) (h'.up d R)):=by
 intro H a H' hd e;unfold M.unch at e ⊢;split at e
 ·rename_i hp;rw[if_pos]
  ·cases e;exact⟨rfl,hd⟩
  ·intro id hid;rw[sh_pid]at hid;cases hv:v.pid with
   | none=>rw[hv]at hid;cases hid
   | some j=>
    rw[hv]at hid;have hid:d.f j=id:=ycU hid;subst hid;rw[zmU,zmU,hp j hv]
 ·cases e
def shJ(d:Rn)(R:Nat->Option Blk) (js:List (Nat×Heap×Heap)):List (Nat×Heap×Heap):=js.map λq=>(q.1,q.2.1.up d R,q.2.2.up d R)
def zpQ (un:List (Nat×Nat)) (j:Nat) (h h':Heap):∀rs,ShR d R (λ_:Unit=>()) (zaY un j h h' rs) (zaY un j (h.up d R) (h'.up d R) (shF d rs))
 | []=>zcq (λ_:Unit=>()) ()
 | (i,a)::rs=>by
  show ShR d R _ (zaY un j h h' ((i,a)::rs)) (zaY un j (h.up d R) (h'.up d R) ((i,sh d a)::shF d rs));unfold zaY;by_cases hc:un.contains (i,j)=true
  ·rw[if_pos hc,if_pos hc];exact zbC (zwu a h h') λ_=>zpQ un j h h' rs
  ·rw[if_neg hc,if_neg hc];exact zpQ un j h h' rs
def zpR (un:List (Nat×Nat)) (i:Nat) (a:V):∀js,ShR d R (λ_:Unit=>()) (zaZ un i a js) (zaZ un i (sh d a) (shJ d R js))
 | []=>zcq (λ_:Unit=>()) ()
 | (j,h,h')::js=>by
  show ShR d R _ (zaZ un i a ((j,h,h')::js)) (zaZ un i (sh d a) ((j,h.up d R,h'.up d R)::shJ d R js));unfold zaZ;by_cases hc:un.contains (i,j)=true
  ·rw[if_pos hc,if_pos hc];exact zbC (zwu a h h') λ_=>zpR un i a js
  ·rw[if_neg hc,if_neg hc];exact zpR un i a js
def zwB{α β:Type}{f:α->β}{k:Heap->M α}{k':Heap->M β} (h:∀H,ShR d R f (k H) (k' (H.up d R))):ShR d R f (M.getH.bind k) (M.getH.bind k'):=by
 intro H a H' hd e;exact h H H a H' hd e
def sr_draw (hg:∀f args,ShR d R (sh d) (g f args) (g' f (shL d args))) (un:List (Nat×Nat)):∀(l:List AO) (p:Nat) (rs:List (Nat×V)) (js:List (Nat×Heap×Heap)) (A:Fr),l.all AO.still=true->ShR d R (shF d) (zaI g un p rs js l A) (zaI g' un p (shF d rs) (shJ d R js) l (shF d A)):=by
 intro l
 induction l with
 | nil=>intro p rs js A _;exact zcq (shF d) A
 | cons o l ih=>
  intro p rs js A h;simp only[yba,yam]at h;have hk:∀x,o.ins.kind = .read x->x.still=true:=λx hx=>by
   have h1:=h.1;unfold AO.still at h1;cases hi:o.ins<;>rw[hi]at h1 hx<;>first|(simp only[I.kind,zhd]at hx;done)|(simp only[I.kind]at hx;cases hx;done)|(simp only[I.kind]at hx;cases hx;exact h1)
  unfold zaI;cases hkk:o.ins.kind with
  | read x=>
   dsimp only;unfold zaI.with1';rw[ev_sh (hk x hkk)];cases x.ev A with
   | none=>refine zbC (zuY hg A o h.1) λv=>?_;rw[shF_put];exact zbC (zpR un p V.undef js) λ_=>ih _ ((p,V.undef)::rs) js _ h.2
   | some a=>refine zbC (zuY hg A o h.1) λv=>?_;rw[shF_put];exact zbC (zpR un p a js) λ_=>ih _ ((p,a)::rs) js _ h.2
  | act=>exact zwB λh0=>zbC (zuY hg A o h.1) λv=>zwB λh1=>zbC (zpQ un p h0 h1 rs) λ_=>by rw[shF_put];exact ih _ rs ((p,h0,h1)::js) _ h.2
  | pure=>refine zbC (zuY hg A o h.1) λv=>?_;rw[shF_put];exact ih _ rs js _ h.2
  | new=>refine zbC (zuY hg A o h.1) λv=>?_;rw[shF_put];exact ih _ rs js _ h.2
def shRes(d:Rn):Res->Res
 | .nrm L=>.nrm (shL d L)
 | .ex id L=>.ex id (shL d L)
 | .ret L=>.ret (shL d L)
def zwA{x y:M Res}{k k':List V->M Res} (h:ShR d R (shRes d) x y) (hk:∀L,ShR d R (shRes d) (k L) (k' (shL d L))):ShR d R (shRes d) (M.join x k) (M.join y k'):=by
 refine zbC h λr=>?_;cases r with
 | nrm L=>exact hk L
 | ex id L=>exact zcq (shRes d) (.ex id L)
 | ret L=>exact zcq (shRes d) (.ret L)
def sr_iter{body body':List V->M Res} (h:∀L,ShR d R (shRes d) (body L) (body' (shL d L))) (L:List V):ShR d R (shRes d) (M.iter body L) (M.iter body' (shL d L)):=by
 intro H a H' hd e;obtain⟨n,hn⟩:=zew e;have key:∀(n:Nat) (L:List V),ShR d R (shRes d) (iterN body n L) (iterN body' n (shL d L)):=by
  intro n
  induction n with
  | zero=>intro L;exact zb6
  | succ n ih=>intro L;exact zwA (h L) ih
 obtain⟨e1,d1⟩:=key n L H a H' hd hn;exact⟨zgp e1,d1⟩
def sh_getAll(A:Fr):∀J:List Nat,zbh (shF d A) J=(zbh A J).map (shL d)
 | []=>rfl
 | t::ts=>by
  simp only[zbh];rw[shF_get,sh_getAll A ts];cases Fr.get A t with
  | none=>rfl
  | some v=>simp only[yar,Option.bind_some,ybj];rfl
def sr_ite{α β:Type}{f:α->β}(c:V){x x':M α}{y y':M β}(h:ShR d R f x y)(k:ShR d R f x' y'):ShR d R f (M.ite c x x') (M.ite (sh d c) y y'):=by
 cases c<;>first|exact zb6|skip
 rename_i b;cases b
 ·exact k
 ·exact h
def zlg(A:Fr):∀rv,ShR d R (shL d) (results A rv) (results (shF d A) rv)
 | []=>zcq (shL d) []
 | .tmp t::rs=>zbC (zbW (shF_get A t)) λv=>zbC (zlg A rs) λvs=>zcq (shL d) (v::vs)
 | .cell t n::rs=>zbC (zbW (shF_get A t)) λa=>zbC (zss n a) λv=>zbC (zlg A rs) λvs=>zcq (shL d) (v::vs)
def sr_exec (hg:∀f args,ShR d R (sh d) (g f args) (g' f (shL d args))) (rv:List RV):∀(c:C) (cx:List (Nat×List Nat)) (J:List Nat) (A:Fr),c.still=true->ShR d R (shRes d) (exec g rv c cx J A) (exec g' rv c cx J (shF d A)):=by
 intro c
 induction c with
 | done=>intro cx J A _;exact zbC (zbW (sh_getAll A J)) λL=>zcq (shRes d) (.nrm L)
 | bad=>intro cx J A _;exact zb6
 | ops l k ih=>intro cx J A h;simp only[C.still,yam]at h;exact zbC (sr_ops hg l A h.1) λA'=>ih _ _ _ h.2
 | draw l un k ih=>intro cx J A h;simp only[C.still,yam]at h;exact zbC (sr_draw hg un l 0 [] [] A h.1) λA'=>ih _ _ _ h.2
 | cond x a b iha ihb=>
  intro cx J A h;simp only[C.still,yam]at h;simp only[exec];rw[ev_sh h.1];cases x.ev A with
  | none=>exact zb6
  | some c=>exact sr_ite c (iha _ _ _ h.2.1) (ihb _ _ _ h.2.2)
 | condJ x a b J' W k iha ihb ihk=>
  intro cx J A h;simp only[C.still,yam]at h;simp only[exec];rw[ev_sh h.1];cases x.ev A with
  | none=>exact zb6
  | some c=>
   refine zwA (sr_ite c (iha _ _ _ h.2.1) (ihb _ _ _ h.2.2.1)) λL=>?_;rw[shF_join];exact ihk _ _ _ h.2.2.2
 | blk id a J' W k iha ihk=>
  intro cx J A h;simp only[C.still,yam]at h;simp only[exec,M.blk];refine zbC (iha _ _ _ h.1) λr=>?_;cases r with
  | nrm L=>simp only[shRes];rw[shF_join];exact ihk _ _ _ h.2
  | ex i L=>
   simp only[shRes];by_cases e:i=id
   ·simp only[if_pos e];rw[shF_join];exact ihk _ _ _ h.2
   ·simp only[if_neg e];exact zcq (shRes d) (.ex i L)
  | ret L=>exact zcq (shRes d) (.ret L)
 | loop a K W iha=>
  intro cx J A h;refine zbC (zbW (sh_getAll A K)) λL=>sr_iter (λL=>?_) L;rw[shF_join];exact iha _ _ _ h
 | exit id=>
  intro cx J A _;simp only[exec];cases ziY cx id with
  | none=>exact zb6
  | some J=>exact zbC (zbW (sh_getAll A J)) λL=>zcq (shRes d) (.ex id L)
 | ret=>intro cx J A _;exact zbC (zlg A rv) λL=>zcq (shRes d) (.ret L)
def shF_params(l:List V):∀i,params i (shL d l)=shF d (params i l):=by
 induction l with
 | nil=>intro i;rfl
 | cons v vs ih=>intro i;simp only[shL,params];rw[ih];rfl
def sh_tupled(L:List V):zcX (shL d L)=sh d (zcX L):=by
 rcases L with _|⟨a,_|⟨b,L⟩⟩<;>rfl
def sr_fn (hg:∀f args,ShR d R (sh d) (g f args) (g' f (shL d args))) (f:Fn') (args:List V) (h:f.body.still=true):ShR d R (sh d) (f.run g args) (f.run g' (shL d args)):=by
 unfold Fn'.run;rw[shF_params];refine zbC (sr_exec hg _ _ _ _ _ h) λr=>?_;cases r with
 | ret L=>simp only[shRes];rw[sh_tupled];exact zcq (sh d) (zcX L)
 | nrm L=>exact zb6
 | ex id L=>exact zb6
end
def zwC{d:Rn}{R:Nat->Option Blk}{T0 T:FuncId->Option Fn'}(hT:∀f ir,T0 f=some ir->T f=some ir/\ir.body.still=true):∀(n:Nat) (f:FuncId) (args:List V),ShR d R (sh d) (deep T0 n f args) (deep T n f (shL d args))
 | 0,f,args=>zb6
 | n+1,f,args=>by
  unfold deep;cases hf:T0 f with
  | none=>exact zb6
  | some ir=>
   rw[(hT f ir hf).1];dsimp only;rw[shL_len];split
   ·exact sr_fn (zwC hT n) ir args (hT f ir hf).2
   ·exact zb6
def sr_sem{d:Rn}{R:Nat->Option Blk}{T0 T:FuncId->Option Fn'}(hT:∀f ir,T0 f=some ir->T f=some ir/\ir.body.still=true)(f:FuncId)(args:List V):ShR d R (sh d) (sem T0 f args) (sem T f (shL d args)):=by
 intro H a H' hd e;unfold sem at e;split at e
 ·obtain⟨e1,d1⟩:=zwC hT _ f args H a H' hd e;exact⟨zg7 e1,d1⟩
 ·cases e
end Go.Ax
/- Ax50 -/
namespace Go.Ax.Y
structure Nm where
 f:Nat->Nat
 w:Nat->V
 s:Nat->Nat
def okw(v:V):V:=if v.one=true then v else .any
def zxl(v:V):(okw v).one=true:=by
 unfold okw;by_cases h:v.one=true
 ·rw[if_pos h];exact h
 ·rw[if_neg h];rfl
def zxk{v:V}(h:v.one=true):v.cells=[v]:=by cases v<;>first|rfl|cases h
def one_okc{v:V}(h:v.one=true):v.okc=true:=by cases v<;>first|rfl|exact h|cases h
def sy(d:Nm):Value->V
 | .int .u8 n=>.int .u8 (d.s n.toNat:Nat)
 | .int .i64 n=>okw (d.w n.toNat)
 | x=>.lit x
mutual
def sh(d:Nm):V->V
 | .ptr id off=>.ptr (d.f id) off
 | .mp id=>.mp (d.f id)
 | .sl id off len cap=>.sl (d.f id) off len cap
 | .rs cells len=>.rs (shL d cells) len
 | .rp cells off=>.rp (shL d cells) off
 | .fn f caps=>.fn f (shL d caps)
 | .agg cells=>.agg (shL d cells)
 | .tup vs=>.tup (shL d vs)
 | .bool b=>.bool b
 | .int k n=>.int k n
 | .str s=>.str s
 | .nilp=>.nilp
 | .nils=>.nils
 | .lit x=>sy d x
 | .any=>.any
def shL(d:Nm):List V->List V
 | []=>[]
 | x::xs=>sh d x::shL d xs
end
section
variable {d:Nm}
def sy_cells(x:Value):(sy d x).cells=[sy d x]:=by
 unfold sy;split
 ·rfl
 ·exact zxk (zxl _)
 ·rfl
def sy_okc{x:Value} (h:V.okc (.lit x)=true):(sy d x).okc=true:=by
 unfold sy;split
 ·rfl
 ·exact one_okc (zxl _)
 ·exact h
def shL_map(l:List V):shL d l=l.map (sh d):=by
 induction l with
 | nil=>rfl
 | cons x xs ih=>rw[yaT,<-ih];rfl
def shL_len(l:List V):(shL d l).length=l.length:=by rw[shL_map,yai]
def shL_get(l:List V)(i:Nat):(shL d l)[i]?=l[i]?.map (sh d):=by rw[shL_map,yaQ]
def shL_drop(l:List V)(i:Nat):(shL d l).drop i=shL d (l.drop i):=by rw[shL_map,shL_map,yb6]
def shL_take(l:List V)(i:Nat):(shL d l).take i=shL d (l.take i):=by rw[shL_map,shL_map,yb5]
def shL_app(l m:List V):shL d (l++m)=shL d l++shL d m:=by rw[shL_map,shL_map,shL_map,yaE]
def sh_cells(v:V):(sh d v).cells=shL d v.cells:=by
 cases v<;>try (simp[sh,shL,V.cells];done)
 exact sy_cells _
def sh_okc{v:V}(h:v.okc=true):(sh d v).okc=true:=by
 cases v<;>first|rfl|exact sy_okc h|cases h
def sh_splice(xs:List V)(o:Nat)(ys:List V):splice (shL d xs) o (shL d ys)=shL d (splice xs o ys):=by
 unfold splice;rw[shL_take,shL_len,shL_drop,<-shL_app,<-shL_app]
def sh_ldc'(n:Option Nat)(cs:List V)(o:Nat):ldc n (shL d cs) o=(ldc n cs o).map (sh d):=by
 cases n with
 | none=>exact shL_get cs o
 | some n=>
  simp only[ldc];rw[shL_len];by_cases h:o+n<=cs.length
  ·rw[if_pos h,if_pos h,shL_drop,shL_take];simp[sh]
  ·rw[if_neg h,if_neg h];rfl
def sh_ldc{n:Option Nat}{cs:List V}{o:Nat}{r:V}(h:ldc n cs o=some r):ldc n (shL d cs) o=some (sh d r):=by rw[sh_ldc',h];rfl
def get_of{l:List V}{i:Nat}{r:V} (h:l[i]?=some r):(shL d l)[i]?=some (sh d r):=by rw[shL_get,h];rfl
def sh_intBin{op:BinOp}{k:IntKind}{a b:Int}{r:V}(h:zcC op k a b=some r):sh d r=r:=by
 cases op<;>simp only[zcC]at h<;>first|(cases h;done)|(injection h with h;subst h;rfl)|(split at h<;>first|(cases h;done)|(injection h with h;subst h;rfl))
def sh_strBin{op:BinOp}{a b:ByteArray}{r:V}(h:zm1 op a b=some r):sh d r=r:=by
 cases op<;>simp only[zm1]at h<;>first|(cases h;done)|(injection h with h;subst h;rfl)|(split at h<;>first|(cases h;done)|(injection h with h;subst h;rfl))
def map_flt{k:FloatKind}{o:Option Nat}{r:V} (h:(o.map λn=>V.lit (.float k n))=some r):sh d r=r:=by
 cases o with
 | none=>cases h
 | some n=>injection h with h;subst h;rfl
def sh_fltBin{op:BinOp}{k:FloatKind}{a b:Nat}{r:V}(h:znN op k a b=some r):sh d r=r:=by
 cases op<;>simp only[znN]at h<;>first|(cases h;done)|exact map_flt h|(injection h with h;subst h;rfl)
def sh_bin{op:BinOp}{x y r:V}(h:bin op x y=some r):bin op (sh d x) (sh d y)=some (sh d r):=by
 have key:sh d x=x/\sh d y=y/\sh d r=r:=by
  unfold bin at h;split at h
  ·refine⟨rfl,rfl,?_⟩;split at h
   ·split at h
    ·cases h
    ·injection h with h;subst h;rfl
   ·split at h
    ·cases h
    ·injection h with h;subst h;rfl
   ·split at h
    ·exact sh_intBin h
    ·cases h
  ·exact⟨rfl,rfl,sh_strBin h⟩
  ·refine⟨rfl,rfl,?_⟩;split at h
   ·exact sh_fltBin h
   ·cases h
  ·cases h
 rw[key.1,key.2.1,key.2.2,h]
def sh_un{op:UnOp}{x r:V}(h:un op x=some r):un op (sh d x)=some (sh d r):=by
 unfold un at h;split at h<;>first|(cases h;done)|(injection h with h;subst h;rfl)
def sh_cint{k:IntKind}{x r:V}(h:cint k x=some r):cint k (sh d x)=some (sh d r):=by
 have key:sh d x=x/\sh d r=r:=by
  unfold cint at h;split at h
  ·injection h with h;subst h;exact⟨rfl,rfl⟩
  ·split at h
   ·split at h
    ·injection h with h;subst h;exact⟨rfl,rfl⟩
    ·cases h
   ·cases h
  ·cases h
 rw[key.1,key.2,h]
def sh_op1{o:U1}{x r:V}(h:op1 o x=some r):op1 o (sh d x)=some (sh d r):=by
 unfold op1 at h;split at h
 ·injection h with h;subst h;rfl
 ·injection h with h;subst h;rfl
 ·injection h with h;subst h;rfl
 ·split at h
  ·rename_i hc;injection h with h;subst h
   simp only[sh,op1,if_pos hc]
  ·cases h
 ·split at h
  ·rename_i hc;injection h with h;subst h
   simp only[sh,op1,if_pos hc]
  ·cases h
 ·cases h
def sh_pick{c a b r:V}(h:pick c a b=some r):pick (sh d c) (sh d a) (sh d b)=some (sh d r):=by
 unfold pick at h;split at h
 ·rename_i t;injection h with h;subst h
  cases t<;>rfl
 ·cases h
def sh_nilck{x r:V}(h:nilck x=some r):nilck (sh d x)=some (sh d r):=by
 unfold nilck at h;split at h<;>first|(cases h;done)|(injection h with h;subst h;rfl)
def sh_faddr{o:Nat}{x r:V}(h:faddr o x=some r):faddr o (sh d x)=some (sh d r):=by
 unfold faddr at h;split at h<;>first|(cases h;done)|(injection h with h;subst h;rfl)
def sh_iaddr{al:Option Nat}{e:Nat}{x i r:V}(h:iaddr al e x i=some r):iaddr al e (sh d x) (sh d i)=some (sh d r):=by
 unfold iaddr at h;split at h
 ·split at h<;>first|(cases h;done)|skip
  all_goals
   split at h
   ·rename_i hc;injection h with h;subst h
    simp only[sh,iaddr,if_pos hc]
   ·cases h
 ·cases h
def sh_index{l e:Nat}{n:Option Nat}{x i r:V}(h:index l e n x i=some r):index l e n (sh d x) (sh d i)=some (sh d r):=by
 unfold index at h;split at h
 ·split at h
  ·rename_i hc;simp only[sh,index,if_pos hc];exact sh_ldc h
  ·cases h
 ·cases h
def sh_sindex{x i r:V}(h:sindex x i=some r):sindex (sh d x) (sh d i)=some (sh d r):=by
 unfold sindex at h;split at h
 ·split at h
  ·rename_i hc;simp only[sh,sindex,if_pos hc];rw[h];obtain⟨b,_,rfl⟩:=yac.1 h;rfl
  ·cases h
 ·cases h
def sh_field{o:Nat}{n:Option Nat}{x r:V}(h:field o n x=some r):field o n (sh d x)=some (sh d r):=by
 unfold field at h;split at h
 ·exact sh_ldc h
 ·cases h
def sh_ext{i:Nat}{x r:V}(h:ext i x=some r):ext i (sh d x)=some (sh d r):=by
 unfold ext at h;split at h
 ·exact get_of h
 ·cases h
def sh_slen{x r:V}(h:slen x=some r):slen (sh d x)=some (sh d r):=by
 unfold slen at h;split at h<;>first|(cases h;done)|(injection h with h;subst h;rfl)
def sh_vlen{x r:V}(h:vlen x=some r):vlen (sh d x)=some (sh d r):=by
 unfold vlen at h;split at h<;>first|(cases h;done)|(injection h with h;subst h;rfl)
def shP(d:Nm) (ps:List (Nat×Nat×V)):List (Nat×Nat×V):=ps.map λp=>(p.1,p.2.1,sh d p.2.2)
def sh_fill:∀{ps:List (Nat×Nat×V)} {cs r:List V},fill cs ps=some r->fill (shL d cs) (shP d ps)=some (shL d r)
 | [],cs,r,h=>by injection h with h;subst h;rfl
 | (o,s,v)::ps,cs,r,h=>by
  simp only[fill]at h;show fill (shL d cs) ((o,s,sh d v)::shP d ps) = _;simp only[fill];split at h
  ·rename_i hc;rw[if_pos (by rw[sh_cells,shL_len,shL_len];exact⟨hc.1,hc.2.1,sh_okc hc.2.2⟩),sh_cells,sh_splice];exact sh_fill h
  ·cases h
def sh_zeros(z:List V)(n:Nat):zeros (shL d z) n=shL d (zeros z n):=by
 induction n with
 | zero=>rfl
 | succ n ih=>simp only[zeros];rw[ih,shL_app]
def sh_eqInts:∀{xs ys:List V} {b:Bool},zeH xs ys=some b->zeH (shL d xs) (shL d ys)=some b
 | [],[],b,h=>h
 | [],y::ys,b,h=>by simp[zeH]at h
 | x::xs,[],b,h=>by cases x<;>simp[zeH]at h
 | x::xs,y::ys,b,h=>by
  cases x<;>cases y<;>simp only[zeH]at h<;>first|(cases h;done)|skip
  simp only[shL,sh,zeH];split at h
  ·rename_i hk;rw[if_pos hk];cases he:zeH xs ys with
   | none=>rw[he]at h;cases h
   | some c=>rw[he]at h;rw[sh_eqInts he];exact h
  ·cases h
def sh_eqFlat:∀{ks:List FK} {xs ys:List V} {b:Bool},zaN ks xs ys=some b->zaN ks (shL d xs) (shL d ys)=some b
 | [],[],[],b,h=>h
 | [],[],y::ys,b,h=>by simp[zaN]at h
 | [],x::xs,ys,b,h=>by cases ys<;>simp[zaN]at h
 | k::ks,[],ys,b,h=>by cases k<;>cases ys<;>simp[zaN]at h
 | k::ks,x::xs,[],b,h=>by cases k<;>cases x<;>simp[zaN]at h
 | k::ks,x::xs,y::ys,b,h=>by
  cases k<;>cases x<;>cases y<;>simp only[zaN]at h<;>first|(cases h;done)|skip
  ·simp only[shL,sh,zaN];cases he:zaN ks xs ys with
   | none=>rw[he]at h;cases h
   | some c=>rw[he]at h;rw[sh_eqFlat he];exact h
  ·simp only[shL,sh,zaN];split at h
   ·rename_i hk;rw[if_pos hk];cases he:zaN ks xs ys with
    | none=>rw[he]at h;cases h
    | some c=>rw[he]at h;rw[sh_eqFlat he];exact h
   ·cases h
def sh_eqv{k:EK}{x y:V}{b:Bool}(h:eqv k x y=some b):eqv k (sh d x) (sh d y)=some b:=by
 unfold eqv at h;split at h<;>first|(cases h;done)|(exact h)|skip
 ·split at h
  ·rename_i hc;simp only[sh,eqv];rw[if_pos (by rw[shL_len,shL_len];exact hc)];exact sh_eqInts h
  ·cases h
 ·exact sh_eqFlat h
def sh_eqr{k:EK}{neg:Bool}{x y r:V}(h:eqr k neg x y=some r):eqr k neg (sh d x) (sh d y)=some (sh d r):=by
 unfold eqr at h ⊢;cases he:eqv k x y with
 | none=>rw[he]at h;cases h
 | some b=>rw[he]at h;rw[sh_eqv he];injection h with h;subst h;rfl
def sh_vint{v:V}{n:Int}(h:vint v=some n):vint (sh d v)=some n:=by
 unfold vint at h;split at h
 ·exact h
 ·cases h
def sh_optInt{o:Option V}{r:Option Int}(h:zbP o=some r):zbP (o.map (sh d))=some r:=by
 cases o with
 | none=>exact h
 | some v=>
  simp only[yar,zbP]at h ⊢;cases hv:vint v with
  | none=>rw[hv]at h;cases h
  | some n=>rw[hv]at h;rw[sh_vint hv];exact h
def sh_min2{mx:Bool}{x y r:V}(h:min2 mx x y=some r):min2 mx (sh d x) (sh d y)=some (sh d r):=by
 unfold min2 at h;split at h
 ·injection h with h;subst h;rfl
 ·cases h
def sh_minmax{mx:Bool}:∀{l:List V} {v r:V},minmax mx v l=some r->minmax mx (sh d v) (shL d l)=some (sh d r)
 | [],v,r,h=>by injection h with h;subst h;rfl
 | x::xs,v,r,h=>by
  simp only[shL,minmax]at h ⊢;cases hm:min2 mx v x with
  | none=>rw[hm]at h;cases h
  | some w=>rw[hm]at h;rw[sh_min2 hm];exact sh_minmax h
def sh_build{z:List V} {ps:List (Nat×Nat×V)} {r:V} (h:build z ps=some r):build (shL d z) (shP d ps)=some (sh d r):=by
 unfold build at h ⊢;cases hf:fill z ps with
 | none=>rw[hf]at h;cases h
 | some cs=>rw[hf]at h;rw[sh_fill hf];injection h with h;subst h;rfl
def sh_vslice{ck:CK}{e:Nat}{x:V}{lo hi mx:Option V}{r:V}(h:zat ck e x lo hi mx=some r):zat ck e (sh d x) (lo.map (sh d)) (hi.map (sh d)) (mx.map (sh d))=some (sh d r):=by
 unfold zat at h ⊢;cases h1:zbP lo with
 | none=>rw[h1]at h;cases h
 | some lo'=>
 cases h2:zbP hi with
 | none=>rw[h1,h2]at h;cases h
 | some hi'=>
 cases h3:zbP mx with
 | none=>rw[h1,h2,h3]at h;cases h
 | some mx'=>
 rw[sh_optInt h1,sh_optInt h2,sh_optInt h3];rw[h1,h2,h3]at h;simp only[Option.bind_some]at h ⊢;split at h
 ·cases h
 rename_i hm;rw[if_neg hm];split at h<;>first|(cases h;done)|skip
 all_goals simp only[sh]
 ·split at h
  ·rename_i hc;injection h with h;subst h
   rw[if_pos hc];rfl
  ·cases h
 ·split at h
  ·rename_i hc;injection h with h;subst h
   rw[if_pos hc];rfl
  ·cases h
 ·split at h
  ·rename_i hc;injection h with h;subst h
   rw[if_pos hc,shL_drop];rfl
  ·cases h
 ·split at h
  ·rename_i hc;injection h with h;subst h
   rw[if_pos hc];rfl
  ·cases h
 ·cases mx' with
  | none=>
   simp only at h ⊢;split at h
   ·rename_i hc;injection h with h;subst h
    rw[if_pos hc];rfl
   ·cases h
  | some m=>
   simp only at h ⊢;split at h
   ·rename_i hc;injection h with h;subst h
    rw[if_pos hc];rfl
   ·cases h
 ·split at h
  ·rename_i hc;injection h with h;subst h
   rw[if_pos hc];rfl
  ·cases h
def sh_keq{mk:MK}{a b:V}{r:Bool}(h:keq mk a b=some r):keq mk (sh d a) (sh d b)=some r:=by
 unfold keq at h;split at h
 ·exact h
 ·exact sh_eqFlat h
 ·cases h
def sh_kok{mk:MK}{a:V}(h:kok mk a=true):kok mk (sh d a)=true:=by
 unfold kok at h;split at h
 ·rfl
 ·simp only[sh,kok,shL_len];exact h
 ·cases h
def sh_mget{mk:MK}{k:V}:∀{l:List V} {r:Option V},mget mk k l=some r->mget mk (sh d k) (shL d l)=some (r.map (sh d))
 | [],r,h=>by injection h with h;subst h;rfl
 | [x],r,h=>by cases h
 | k'::v'::l,r,h=>by
  simp only[shL,mget]at h ⊢;cases hk:keq mk k k' with
  | none=>rw[hk]at h;cases h
  | some b=>
   rw[hk]at h;rw[sh_keq hk];cases b with
   | true=>injection h with h;subst h;rfl
   | false=>exact sh_mget h
def sh_mset{mk:MK}{k v:V}:∀{l r:List V},mset mk k v l=some r->mset mk (sh d k) (sh d v) (shL d l)=some (shL d r)
 | [],r,h=>by injection h with h;subst h;rfl
 | [x],r,h=>by cases h
 | k'::v'::l,r,h=>by
  simp only[shL,mset]at h ⊢;cases hk:keq mk k k' with
  | none=>rw[hk]at h;cases h
  | some b=>
   rw[hk]at h;rw[sh_keq hk];cases b with
   | true=>injection h with h;subst h;rfl
   | false=>
    simp only[Option.bind_some,yaR,if_false]at h ⊢;cases hm:mset mk k v l with
    | none=>rw[hm]at h;cases h
    | some r'=>rw[hm]at h;rw[sh_mset hm];injection h with h;subst h;rfl
def sh_mapart{mk:MK}{k:V}:∀{l:List V},zit mk k l=true->zit mk (sh d k) (shL d l)=true
 | [],_=>rfl
 | [x],h=>by cases h
 | k'::v'::r,h=>by
  simp only[shL,zit,yam]at h ⊢;refine⟨?_,sh_mapart h.2⟩;have h1:=h.1;cases hk:keq mk k' k with
  | none=>rw[hk]at h1;cases h1
  | some b=>rw[hk]at h1;rw[sh_keq hk];exact h1
def sh_mkeep{p:Bool}{n:Int}{k:V}{r:Bool}(h:zoJ p n k=some r):zoJ p n (sh d k)=some r:=by
 unfold zoJ at h;split at h
 ·exact h
 ·exact h
 ·cases h
def sh_mfil{p:Bool}{n:Int}:∀{l r:List V},mfil p n l=some r->mfil p n (shL d l)=some (shL d r)
 | [],r,h=>by injection h with h;subst h;rfl
 | [x],r,h=>by cases h
 | k::v::l,r,h=>by
  simp only[shL,mfil]at h ⊢;split at h
  ·rename_i hm;rw[if_pos (sh_mapart hm)];cases hk:zoJ p n k with
   | none=>rw[hk]at h;cases h
   | some b=>
    rw[hk]at h;rw[sh_mkeep hk];simp only[Option.bind_some]at h ⊢;cases hf:mfil p n l with
    | none=>rw[hf]at h;cases h
    | some r'=>
     rw[hf]at h;rw[sh_mfil hf];injection h with h
     subst h;cases b<;>rfl
  ·cases h
def sh_vbytes:∀{l:List V} {r:List UInt8},zd4 l=some r->zd4 (shL d l)=some r
 | [],r,h=>h
 | x::xs,r,h=>by
  unfold zd4 at h;split at h
  ·cases h;rename_i e;cases e
  ·rename_i n xs' e;injection e with e1 e2
   subst e1 e2;simp only[shL,sh,zd4];cases hv:zd4 xs with
   | none=>rw[hv]at h;cases h
   | some l=>rw[hv]at h;rw[sh_vbytes hv];exact h
  ·cases h
def sh_strCells(s:ByteArray):shL d (strCells s)=strCells s:=by
 unfold strCells;rw[shL_map,ycY];rfl
end
mutual
theorem still_sh{d:Nm}:∀v:V,v.still=true->sh d v=v
 | .ptr _ _,h=>by cases h
 | .mp _,h=>by cases h
 | .sl _ _ _ _,h=>by cases h
 | .rs cells _,h=>by simp only[V.still]at h;simp only[sh,stills_sh cells h]
 | .rp cells _,h=>by simp only[V.still]at h;simp only[sh,stills_sh cells h]
 | .fn _ caps,h=>by simp only[V.still]at h;simp only[sh,stills_sh caps h]
 | .agg cells,h=>by simp only[V.still]at h;simp only[sh,stills_sh cells h]
 | .tup vs,h=>by simp only[V.still]at h;simp only[sh,stills_sh vs h]
 | .bool _,_=>rfl
 | .int _ _,_=>rfl
 | .str _,_=>rfl
 | .nilp,_=>rfl
 | .nils,_=>rfl
 | .lit x,h=>by
  show sy d x = .lit x;unfold sy;split
  ·cases h
  ·cases h
  ·rfl
 | .any,_=>rfl
theorem stills_sh{d:Nm}:∀l:List V,V.stills l=true->shL d l=l
 | [],_=>rfl
 | x::xs,h=>by
  simp only[V.stills,yam]at h;simp only[shL,still_sh x h.1,stills_sh xs h.2]
end
end Go.Ax.Y
