/-
  Texts of mine, put together by program (wip/slim.py), for law_worldKnown: part 11.
-/
import Derived.Test.YtjabaappgopdmaaGreatZw10
noncomputable section
set_option linter.unusedVariables false
set_option linter.unusedSimpArgs false
set_option linter.defProp false
set_option maxRecDepth 100000
/- Su16 -/
namespace Go.Ax.SU
open Go.Ax
def Ab.nil{lo:Nat}{H:Heap}:Ab lo H .nils []:=.app .nil
def znl{H:Heap}{lo lo':Nat}{sv kv:V}{salt key:List Nat}(hs:By lo H sv salt)(hs8:Ok8 salt)(hsl:salt.length<=1099511627776)(hk:By lo' H kv key)(hk8:Ok8 key)(hkl:key.length<=1099511627776) :
  Ok (sem T zbB [sv,kv]) H λr H'=>r = .agg ((hmac kc salt key).map by8)/\Grow H H':=by
 refine zmf ?_;unfold zit uS uT uO uA uR;have hc:=hk.cells1;have ho:=hk.okc;have s1:=Grow.new H ⟨zah,[(),(),(),(),(),(),(),(),(),(),(),(),(),(),(),(),(),(),(),(),(),(),(),(),(),(),(),(),(),(),(),()],none⟩;have gr:(H.new ⟨zah,[(),(),(),(),(),(),(),(),(),(),(),(),(),(),(),(),(),(),(),(),(),(),(),(),(),(),(),(),(),(),(),()],none⟩).get H.next=some ⟨zah,List.replicate 32 (.int .u8 0),none⟩:=zae _ _;have nr:(H.new ⟨zah,[(),(),(),(),(),(),(),(),(),(),(),(),(),(),(),(),(),(),(),(),(),(),(),(),(),(),(),(),(),(),(),()],none⟩).next=H.next+1:=zaf _ _;simp(disch:=first|omega|(simp only[RY]<;>omega)|decide)only[↓RD,RZ,eq_self,Int.reduceToNat,Int.reduceAdd,Nat.reduceAdd,Nat.reduceSub,Nat.reduceMul,Nat.reduceLeDiff,hc,ho];generalize hrb:H.next=rb at *;generalize H.new _=H1 at *;have s2:=Grow.new H1 ⟨zaw,[kv],none⟩;have l2:Lc 1 0 (H1.new ⟨zaw,[kv],none⟩) (.sl H1.next 0 1 (.fix 1)) [kv] 1:=ziV (zae _ _) rfl (by rw[zaf];omega);have p2:Pts 0 (H1.new ⟨zaw,[kv],none⟩) [kv] [key]:=Pts.cons (((hk.ext s1).ext s2).low (yaJ _)) hk8 Pts.nil;rw[nr]at l2;generalize H1.new _=H2 at *;have ef:[key].flatten=key:=by simp
 refine zam (zkC ((hs.ext s1).ext s2) hs8 hsl l2 p2 (by simp) (by rw[ef];exact hkl)) ?_;rintro _ H3 ⟨rfl,s3⟩;rw[ef];have hhl:=zdL kc salt key;have g3:Grow H1 H3:=s2.trans s3;have gr3:=(g3.same rb (by omega)).trans gr;have hml2:((hmac kc salt key).map by8).length=32:=by rw[yai,hhl]
 have hsp2:=spr32 hhl;have l32:=ld32 hhl;have hrl:(List.replicate 32 (V.int .u8 0)).length=32:=rfl;have n3:=g3.next;simp(disch:=first|omega|(simp only[RY]<;>omega)|decide)only[↓RD,RZ,eq_self,Int.reduceToNat,Int.reduceAdd,Nat.reduceAdd,Nat.reduceSub,Nat.reduceMul,Nat.reduceLeDiff,gr3,zb9,zaB,hml2,hsp2,l32,hrl];exact⟨by rw[zak];omega,λi hi=>by rw[zag _ _ (by omega),g3.same i (by omega),s1.same i (by omega)]⟩
def zeK{H:Heap}(n k:Nat)(hn:n<18446744073709551616)(hk:k<=16):Ok (sem T zaW [.int .u64 (n:Nat),.int .i64 (k:Nat)]) H λr H'=>Ab H.next H' r (num n k)/\Grow H H':=by
 refine zkX ?_;unfold zgO uB uR uc ug;simp(disch:=omega)only[↓RD,RZ];refine zaK (λm L H'=>∃w,L=[w,.int .i64 ((k:Int)-1-(m:Nat))]/\Ab H.next H' w ((bn k n).take m)/\Bel H.next H H') k ?_ ?_ ?_
 ·exact⟨.nils,by simp,Ab.nil,Bel.refl _ _⟩
 ·rintro m L H1 hm ⟨w,rfl,ha,hb⟩;have e1:(k:Int)-1-(m:Nat)=((k-1-m:Nat):Int):=by omega
  have e2:(8:Int)*((k-1-m:Nat):Int)=((8*(k-1-m):Nat):Int):=by omega
  have e3:shr n (8*(k-1-m))=n/256 ^ (k-1-m):=by rw[ziN,yaf,Nat.pow_mul]
  have hlo1:=hb.next;have hbg:=bn_get k n m hm;rw[e1];generalize hw:k-1-m=w' at *;have e8:IntKind.u8.wrap ((n/256 ^ w':Nat):Int)=((n/256 ^ w'%256:Nat):Int):=by rw[wrap_u8];rfl
  unfold zdz uL uB uK uc ub ug;simp(disch:=omega)only[↓RD,RZ,e2,e3,e8];refine zhM (m:=[n/256 ^ w'%256]) (ha.keep ((Grow.new _ _).keep _)) (by rw[zaf];omega) (zep rfl) (by rw[yan,zjR];simp;omega) λw2 H2 h2 hb2=>?_;simp(disch:=omega)only[↓RD,RZ];refine⟨w2,by rw[show((w':Nat):Int)-1=(k:Int)-1-((m+1:Nat):Int) by omega],?_,hb.trans (((Grow.new _ _).bel (by omega)).trans hb2)⟩;rw[zcd (by rw[zjR];exact hm),hbg];exact h2
 ·rintro L H1 ⟨w,rfl,ha,hb⟩;have e1:(k:Int)-1-(k:Nat) = -1:=by omega
  rw[e1];unfold zdz uL uB uK uc ub ug;simp(disch:=omega)only[↓RD,RZ];rw[yam (by rw[zjR];exact yaj _)]at ha;exact⟨ha,hb.grow⟩
def zsf{H:Heap}{lo lo':Nat}{sv iv:V}{zaE info:List Nat}{n:Nat}(hs:By lo H sv zaE)(hs8:Ok8 zaE)(hsl:zaE.length<=1099511627776)(hi:By lo' H iv info)(hi8:Ok8 info)(hil:info.length<=1099511000000)(hn:n<=8160) :
  Ok (sem T zbe [sv,iv,.int .i64 (n:Nat)]) H λr H'=>∃v,r = .tup [v,.int .i64 0]/\By H.next H' v ((hkdf kc zaE info ((n+31)/32)).1.take n)/\Grow H H'/\(0<n->∃id,v = .sl id 0 n (.opn 1)/\H'.get id=some ⟨zad,((hkdf kc zaE info ((n+31)/32)).1.take n).map by8,some 1⟩/\H.next<=id/\id<H'.next):=by
 refine znG ?_;unfold zjH uL uB uR uK uc ub ug;simp(disch:=omega)only[↓RD,RZ,eq_self,seval];refine zax (Q:=λr H'=>∃w,r = .ex 1 [w]/\Ab H.next H' w (hkdf kc zaE info ((n+31)/32)).1/\Grow H H') ?_ ?_
 ·refine zaK (λj L H'=>∃w l,L=[w,l,.int .u8 ((j+1)%256:Nat)]/\Ab H.next H' w (hkdf kc zaE info j).1/\By 0 H' l (hkdf kc zaE info j).2/\Grow H H') ((n+31)/32) ?_ ?_ ?_
  ·exact⟨.nils,.nils,rfl,Ab.nil,Lc.nil,Grow.refl _⟩
  ·rintro j L H1 hj ⟨w,l,rfl,aw,al,s1⟩;have hwl:=aw.by.vlen;have h1:=zgf kc zaE info j;have h2:=zlg kc zaE info j;rw[h1]at hwl;have hjn:((32*j:Nat):Int)<((n:Nat):Int):=by omega
   have hj1:(j+1)%256=j+1:=yap (by omega);have hlc:=al.cells1;have hlo:=al.okc;have hic:=hi.cells1;have hio:=hi.okc;have s2:=Grow.new H1 ⟨zad,[.int .u8 (j+1:Nat)],none⟩;have b2:By 0 (H1.new ⟨zad,[.int .u8 (j+1:Nat)],none⟩) (.sl H1.next 0 1 (.fix 1)) [j+1]:=zlW (l:=[j+1]) (zae _ _) rfl (yaJ _) (by rw[zaf];omega);have n1:=s1.next;rw[hj1];unfold zeA uL uT uB uO uA uK ub ug;simp(disch:=omega)only[↓RD,RZ,eq_self,seval,hwl,hjn,hlc,hlo,hic,hio];have n2e:(H1.new ⟨zad,[.int .u8 (j+1:Nat)],none⟩).next=H1.next+1:=zaf _ _;generalize hb:V.sl H1.next 0 1 (.fix 1)=bv at *;generalize H1.new _=H2 at *;have s3:=Grow.new H2 ⟨zaw,[l,iv,bv],none⟩;have l3:Lc 1 0 (H2.new ⟨zaw,[l,iv,bv],none⟩) (.sl H2.next 0 3 (.fix 3)) [l,iv,bv] 3:=ziV (zae _ _) rfl (by rw[zaf];omega);have p3:Pts 0 (H2.new ⟨zaw,[l,iv,bv],none⟩) [l,iv,bv] [(hkdf kc zaE info j).2,info,[j+1]]:=
    Pts.cons ((al.ext s2).ext s3) h2.2 (Pts.cons ((((hi.ext s1).ext s2).ext s3).low (yaJ _)) hi8 (Pts.cons (b2.ext s3) (λx hx=>by simp only[yaD,yaX,or_false]at hx;omega) Pts.nil))
   have n2:=s2.next;rw[n2e]at l3;generalize hv3:V.sl (H1.next+1) 0 3 (.fix 3)=v3 at *;generalize H2.new _=H3 at *;have ef:[(hkdf kc zaE info j).2,info,[j+1]].flatten=(hkdf kc zaE info j).2++info++[j+1]:=by simp
   have hl2:(hkdf kc zaE info j).2.length<=32:=by
    cases j with
    | zero=>simp[hkdf]
    | succ j=>exact Nat.le_of_eq (zdL _ _ _)
   have n3:=s3.next;have s13:Grow H H3:=s1.trans (s2.trans s3);refine zam (zkC (hs.ext s13) hs8 hsl l3 p3 (by simp) (by rw[ef];simp only[yah,yaw,ybz];omega)) ?_;rintro _ H4 ⟨rfl,s4⟩;rw[ef];have eh:(hkdf kc zaE info (j+1)).2=hmac kc zaE ((hkdf kc zaE info j).2++info++[j+1]):=rfl;have eh1:(hkdf kc zaE info (j+1)).1=(hkdf kc zaE info j).1++hmac kc zaE ((hkdf kc zaE info j).2++info++[j+1]):=rfl;rw[<-eh];rw[<-eh]at eh1;have hhl:(hkdf kc zaE info (j+1)).2.length=32:=zdL _ _ _;have h28:=(zlg kc zaE info (j+1)).2;generalize (hkdf kc zaE info (j+1)).2=tg at *;have hml2:(tg.map by8).length=32:=by rw[yai,hhl]
   have hsp2:=sp32 hhl;have b5:By 0 ((H4.new ⟨zah,[(),(),(),(),(),(),(),(),(),(),(),(),(),(),(),(),(),(),(),(),(),(),(),(),(),(),(),(),(),(),(),()],none⟩).set H4.next (some ⟨zah,tg.map by8,none⟩)) (.sl H4.next 0 32 (.fix 32)) tg:=zlW (zaj _ _ _) hhl (yaJ _) (by rw[zak,zaf];omega);have s5:Grow H4 ((H4.new ⟨zah,[(),(),(),(),(),(),(),(),(),(),(),(),(),(),(),(),(),(),(),(),(),(),(),(),(),(),(),(),(),(),(),()],none⟩).set H4.next (some ⟨zah,tg.map by8,none⟩)):=(Grow.new _ _).set (yaj _) _;have n4:=s4.next;simp(disch:=omega)only[↓RD,RZ,eq_self,seval,zb9,zaB,hml2,hsp2,zoI];generalize hv5:V.sl H4.next 0 32 (.fix 32)=v5 at *;have hd5:∀i,w.pid=some i->v5.pid≠some i:=λi h=>by
    rw[<-hv5];have:=(aw.by.own i h).2;simp only[V.pid,ne_eq,yab];omega
   generalize (H4.new _).set _ _=H5 at *;have s15:Grow H1 H5:=s2.trans (s3.trans (s4.trans s5));have n5:=s5.next;refine zuH (aw.keep (s15.keep _)) (by omega) b5.ac (by rw[h1,hhl];omega) λw' H6 aw6 b6 s6=>?_;have ew:IntKind.u8.wrap (((j+1:Nat):Int)+1)=(((j+1+1)%256:Nat):Int):=by rw[wrap_u8];rfl
   simp(disch:=omega)only[↓RD,RZ,eq_self,seval,ew];refine⟨w',v5,rfl,?_,?_,⟨by have:=b6.next;omega,λi hi=>by rw[b6.same i hi,s15.same i (by omega),s1.same i hi]⟩⟩
   ·rw[eh1];exact aw6
   ·exact b5.stepF s6 λi hi hF=>hd5 i (znM.1 hF) hi
  ·rintro L H1 ⟨w,l,rfl,aw,al,s1⟩;have hwl:=aw.by.vlen;rw[zgf]at hwl;have hjn:((n:Nat):Int)<=((32*((n+31)/32):Nat):Int):=by omega
   unfold zeA uL uT uB uO uA uK ub ug;simp(disch:=omega)only[↓RD,RZ,eq_self,seval,hwl,hjn];exact⟨w,rfl,aw,s1⟩
 ·rintro _ H1 ⟨w,rfl,aw,s1⟩;have hwl:=zgf kc zaE info ((n+31)/32);obtain⟨va,-,ha,-,hva,pa⟩:=zbE aw.by (x:=0) (y:=((n:Nat):Int)) (by omega) (by omega) (by rw[hwl];omega);have ha2:∀{k':IntKind},zav .sl 1 w none (some (.int k' ((n:Nat):Int))) none=some va:=ha rfl;have e0:(0:Int).toNat=0:=rfl;rw[e0,yaH,yav,ycc]at hva;have n1:=s1.next;simp(disch:=omega)only[↓RD,RZ,eq_self,seval,ha2];have hln:((hkdf kc zaE info ((n+31)/32)).1.take n).length=n:=by rw[yan,hwl];omega
  refine zqH hva.ac (by rw[yai,ybc]) (by rw[hln];omega) (by rw[hln];omega) λv' H2 o2 t2 f2=>?_;have a2:Ab H1.next H2 v' ((hkdf kc zaE info ((n+31)/32)).1.take n):=.app (.opn o2 f2);have b2:Grow H1 H2:=⟨t2.next,λi hi=>t2.same i hi (by simp)⟩;simp(disch:=omega)only[↓RD,RZ,eq_self,seval];refine⟨v',rfl,a2.by.low (by omega),s1.trans b2,λh0=>?_⟩;rcases o2 with⟨rfl,-,h⟩|⟨id,rfl,hg,-⟩
  ·rw[hln]at h;omega
  ·have:=f2 id rfl;exact⟨id,by rw[hln],hg,by omega,by omega⟩
def zqg{H:Heap}{lo lo':Nat}{sv iv:V}{zaE info:List Nat}{n:Nat}(hs:By lo H sv zaE)(hs8:Ok8 zaE)(hsl:zaE.length<=1099511627776)(hi:By lo' H iv info)(hi8:Ok8 info)(hil:info.length<=1099511000000)(hn:n<=8160) :
  Ok (sem T zbe [sv,iv,.int .i64 (n:Nat)]) H λr H'=>∃v,r = .tup [v,.int .i64 0]/\By H.next H' v ((hkdf kc zaE info ((n+31)/32)).1.take n)/\Grow H H':=by
 refine zax (zsf hs hs8 hsl hi hi8 hil hn) ?_;rintro r H' ⟨v,e,h,g,_⟩;exact⟨v,e,h,g⟩
/-! Products with three,boxes,computed. -/
def tchk(n:Nat):Bool:=match Cp.cs 3 zbk [by8 n,.int .u8 3]with
 | some (.int .u8 k)=>k==((t3 n:Nat):Int)
 | _=>false
theorem ztJ:(List.range 256).all tchk=true:=by kernel_rfl
def times_eq{n:Nat}(h:n<256):sem T zbk [by8 n,.int .u8 3]=M.pure (by8 (t3 n)):=by
 have h1:=yaI.1 ztJ n (yaW.2 h);unfold tchk at h1;split at h1
 ·rename_i b hb;rw[zos hb];simp only[beq_iff_eq]at h1;rw[h1];rfl
 ·cases h1
def bchk(n:Nat):Bool:=match Cp.cs 3 zbj [by8 n]with
 | some (.int .u8 k)=>k==((bx n:Nat):Int)
 | _=>false
theorem box_all:(List.range 256).all bchk=true:=by kernel_rfl
def box_eq{n:Nat}(h:n<256):sem T zbj [by8 n]=M.pure (by8 (bx n)):=by
 have h1:=yaI.1 box_all n (yaW.2 h);unfold bchk at h1;split at h1
 ·rename_i b hb;rw[zos hb];simp only[beq_iff_eq]at h1;rw[h1];rfl
 ·cases h1
def bg{l:List Nat}{i:Nat}(h:i<l.length):(l.map by8)[i]?=some (by8 (l.getD i 0)):=by
 rw[yaT,yag h,yao,yag h];rfl
def bga{l:List Nat}{r:List V}{i:Nat}(h:i<l.length):(l.map by8++r)[i]?=some (by8 (l.getD i 0)):=by
 rw[ybO (by rw[yai];exact h),bg h]
def bset{l:List Nat}{r:List V}{i x:Nat}(h:i<l.length):splice (l.map by8++r) i [by8 x]=(l.set i x).map by8++r:=by
 rw[zkF _ _ _ (by rw[yah,yai];omega),ycx _ _ (by rw[yai];exact h),<-ydh]
def zmP{a b:Nat}(ha:a<256)(hb:b<256):Ax.bin .xor (by8 a) (by8 b)=some (by8 (a ^^^ b)):=by
 unfold by8;rw[ztz (by omega) (by omega) (by omega) (by omega)];rfl
def zrn{n id off m:Nat}(h:m<n):Ax.iaddr (some n) 1 (.ptr id off) (by8 m)=some (.ptr id (off+m)):=by
 unfold by8;rw[zrY (by omega) (by omega)];simp
def tabC:Bool->List V
 | false=>.int .u32 0 :: .int .i32 0 :: .int .u32 0::List.replicate 256 (.int .u8 0)
 | true=>.int .u32 1 :: .int .i32 0 :: .int .u32 0::sbox.map by8
theorem zuX{H:Heap}{b k ty:Nat}{x0 x1 x2:V}{r:List V} (hb:H.get b=some ⟨zaY,[.ptr k 0],none⟩) (hk:H.get k=some ⟨ty,x0::x1::x2::((zin 0).map by8++r),none⟩) (hbk:b≠k) (hbl:b<H.next) (hkl:k<H.next) :
  Ok (sem T zbw [.ptr b 0]) H λ_ H'=>H'.get k=some ⟨ty,x0::x1::x2::(sbox.map by8++r),none⟩/\Step H H' [k] [k]:=by
 refine zfF ?_;unfold zdF uM uS uT uNF uI uO uU uA uZ uR uc ub;refine zaQ (zfs (by kernel_rfl) ?_);have ez:(V.agg (List.replicate 255 (V.int .u8 0))).cells=List.replicate 255 (V.int .u8 0):=rfl;have s1:=Grow.new H ⟨zbQ,List.replicate 255 (.int .u8 0),none⟩;have gp:(H.new ⟨zbQ,List.replicate 255 (.int .u8 0),none⟩).get H.next=some ⟨zbQ,List.replicate 255 (.int .u8 0),none⟩:=zae _ _;have n1:(H.new ⟨zbQ,List.replicate 255 (.int .u8 0),none⟩).next=H.next+1:=zaf _ _;have gb1:=(s1.same b hbl).trans hb;have gk1:=(s1.same k hkl).trans hk;show Ok _ (H.new ⟨zbQ,List.replicate 255 (.int .u8 0),none⟩) _;generalize hp:H.next=p at *;generalize H.new _=H1 at *;have hpl:=pwl_len;have hp8:=pwl_lt;simp(disch:=omega)only[↓RD,RZ,eq_self,seval];refine zax (Q:=λx H'=>x = .ex 0 []/\H'.get p=some ⟨zbQ,pwl.map by8,none⟩/\At1 p H1 H') ?_ ?_
 ·refine zaK (λj L H'=>∃x,L=[x,.int .i64 (j:Nat)]/\(j<255->x=by8 (pwl.getD j 0))/\H'.get p=some ⟨zbQ,(pwl.take j).map by8++List.replicate (255-j) (.int .u8 0),none⟩/\At1 p H1 H') 255 ?_ ?_ ?_
  ·exact⟨_,rfl,λ_=>rfl,gp,At1.refl _ _⟩
  ·rintro j L H2 hj ⟨x,rfl,hx,g2,s2⟩;have hx:=hx hj;subst hx;have hlt:((pwl.take j).map by8).length=j:=by rw[yai,yan];omega
   have h8:=hp8.getD j;have et:=times_eq h8;have e:=zbm (z:=.int .u8 0) (x:=by8 (pwl.getD j 0)) hlt hj;have hll:((pwl.take j).map by8++List.replicate (255-j) (V.int .u8 0)).length=255:=by rw[yah,hlt,yaL];omega
   unfold zb6 uB uI uA uK uc ub ug;simp(disch:=omega)only[↓RD,RZ,eq_self,seval,g2,e,et,ze3,zbL,hll];refine⟨by omega,_,rfl,λh=>?_,?_,s2.trans (At1.set p _ _)⟩
   ·rw[pwl_step (by omega)]
   ·rw[zcd (by omega)];simp
  ·rintro L H2 ⟨x,rfl,hx,g2,s2⟩;unfold zb6 uB uI uA uK uc ub ug;simp(disch:=omega)only[↓RD,RZ,eq_self,seval];refine⟨?_,s2⟩;rw[g2,yam (by omega)];simp
 ·rintro _ H2 ⟨rfl,gp2,s2⟩;have n2:=s2.next;have gb2:=(s2.same b (by omega) (by omega)).trans gb1;have gk2:=(s2.same k (by omega) (by omega)).trans gk1;have hpm:(pwl.map by8).length=255:=by rw[yai,hpl]
  have l255:ldc (some 255) (pwl.map by8) 0=some (.agg (pwl.map by8)):=by rw[zdJ (by omega),yaH,yam (by omega)]
  simp(disch:=omega)only[↓RD,RZ,eq_self,seval,gp2,l255];refine zax (Q:=λx H'=>x = .ex 2 []/\H'.get k=some ⟨ty,x0::x1::x2::((zin 255).map by8++r),none⟩/\At1 k H2 H') ?_ ?_
  ·refine zaK (λj L H'=>L=[.int .i64 (j:Nat)]/\H'.get k=some ⟨ty,x0::x1::x2::((zin j).map by8++r),none⟩/\At1 k H2 H') 255 ?_ ?_ ?_
   ·exact⟨rfl,gk2,At1.refl _ _⟩
   ·rintro j L H3 hj ⟨rfl,g3,s3⟩;have gb3:=(s3.same b (by omega) hbk).trans gb2;have gp3:=(s3.same p (by omega) (by omega)).trans gp2;have e1:=bg (l:=pwl) (i:=j) (by omega);have e2:=bg (l:=pwl) (i:=(255-j)%255) (by rw[hpl];exact ybf _ (by decide));have e3:(255:Int)-(j:Nat)=((255-j:Nat):Int):=by omega
    have e4:((255-j:Nat):Int)%255=(((255-j)%255:Nat):Int):=by omega
    have eb:=box_eq (hp8.getD ((255-j)%255));have h8:=hp8.getD j;have e5:3+pwl.getD j 0=pwl.getD j 0+1+1+1:=by omega
    have e6:=bset (l:=zin j) (r:=r) (i:=pwl.getD j 0) (x:=bx (pwl.getD ((255-j)%255) 0)) (by rw[zim];exact h8);have hlm:((zin j).map by8++r).length=256+r.length:=by rw[yah,yai,zim]
    have hmod:=ybf (255-j) (show 0<255 by decide);have ia:=zrn (id:=k) (off:=3) (n:=256) h8;unfold zb5 uL uM uT uNF uB uI uIM uU uA uZ uK uc ug;simp(disch:=omega)only[↓RD,RZ,eq_self,seval,e1,gb3,e3,e4,gp3,e2,eb,ia,e5,g3,zg2,e6,ze3,zbL,hlm];exact⟨by omega,rfl,rfl,s3.trans (At1.set k _ _)⟩
   ·rintro L H3 ⟨rfl,g3,s3⟩;unfold zb5 uL uM uT uNF uB uI uIM uU uA uZ uK uc ug;simp(disch:=omega)only[↓RD,RZ,eq_self,seval];exact⟨g3,s3⟩
  ·rintro _ H3 ⟨rfl,g3,s3⟩;have gb3:=(s3.same b (by omega) hbk).trans gb2;have eb:=box_eq (n:=0) (by omega);have n3:=s3.next;have e6:=bset (l:=zin 255) (r:=r) (i:=0) (x:=bx 0) (by rw[zim];omega);rw[zvl]at e6;have hlm:((zin 255).map by8++r).length=256+r.length:=by rw[yah,yai,zim]
   have eb0:sem T zbj [.int .u8 0]=M.pure (by8 (bx 0)):=eb;simp(disch:=omega)only[↓RD,RZ,eq_self,seval,gb3,eb0,g3,zg2,e6,ze3,zbL,hlm];refine⟨by omega,⟨by rw[zak];omega,λi hi hF=>?_,λi hi=>.inl hi⟩⟩;simp only[ya0]at hF;rw[zag _ _ hF,s3.same i (by omega) hF,s2.same i (by omega) (by omega),s1.same i (by omega)]
def zuW{H:Heap}{k ty:Nat}{d:Bool}{r:List V} (hk:H.get k=some ⟨ty,tabC d++r,none⟩) (hkl:k<H.next) :
  Ok (sem T zaS [.ptr k 0]) H λx H'=>x = .ptr k 3/\H'.get k=some ⟨ty,tabC true++r,none⟩/\Step H H' [k] [k]:=by
 refine zg5 ?_;unfold zen uM uNF uO uA uR;simp(disch:=omega)only[↓RD,RZ,eq_self,seval];have s1:=Grow.new H ⟨zaY,[.ptr k 0],none⟩;have gb:(H.new ⟨zaY,[.ptr k 0],none⟩).get H.next = _:=zae _ _;have gk:=(s1.same k hkl).trans hk;have nb:H.next<(H.new ⟨zaY,[.ptr k 0],none⟩).next:=by rw[zaf];omega
 have hne:H.next≠k:=by omega
 have n1:=s1.next;generalize hgb:H.next=b at *;generalize H.new _=H1 at *;refine zam (P:=λx H'=>H'.get b=some ⟨zaY,[.ptr k 0],none⟩/\H'.get k=some ⟨ty,tabC true++r,none⟩/\Step H1 H' [k] [k]) ?_ ?_
 ·cases d with
  | true=>
   refine zax (zpf gk rfl) ?_;rintro _ _ ⟨rfl,rfl⟩;exact⟨gb,gk,Step.refl _ _⟩
  | false=>
   refine zax (zpe (P:=λH'=>H'.get b=some ⟨zaY,[.ptr k 0],none⟩/\H'.get k=some ⟨ty,tabC true++r,none⟩/\Step H1 H' [k] [k]) gk rfl rfl ?_) ?_
   ·have e0:List.replicate 256 (V.int .u8 0)=(zin 0).map by8:=by unfold zin;rw[ycG];rfl
    have e1:splice (tabC false++r) (0+1) [.int .i32 1] = .int .u32 0 :: .int .i32 1 :: .int .u32 0::((zin 0).map by8++r):=by
     rw[<-e0];rfl
    refine zax (zuX (k:=k) (ty:=ty) (x0:=.int .u32 0) (x1:=.int .i32 1) (x2:=.int .u32 0) (r:=r) (by rw[zag _ _ hne];exact gb) (by rw[zaj,e1]) hne (by rw[zak];exact nb) (by rw[zak];omega)) ?_;rintro _ H2 ⟨g2,s2⟩;have n2:=s2.next;rw[zak]at n2;have hb2:H2.get b=some ⟨zaY,[.ptr k 0],none⟩:=by rw[s2.same b (by rw[zak];exact nb) (by simpa using hne),zag _ _ hne];exact gb
    refine⟨_,g2,rfl,rfl,?_,?_,?_⟩
    ·rw[zag _ _ hne,zag _ _ hne,hb2]
    ·rw[zaj];rfl
    ·exact((Step.set (H:=H1) _ (by simp:k∈[k])).trans s2).trans ((Step.set (H:=H2) _ (by simp:k∈[k])).trans (Step.set _ (by simp)))
   ·rintro _ H2 ⟨_,h2⟩;exact h2
 ·rintro x H2 ⟨g1,g2,s2⟩;simp(disch:=omega)only[↓RD,RZ,eq_self,seval,g1];exact⟨g2,⟨yaA (by omega) s2.next,λi hi hF=>by rw[s2.same i (by omega) hF,s1.same i (by omega)],λi hi=>.inl hi⟩⟩
def zsP{H:Heap}{k ty:Nat}{r:List V} (hk:H.get k=some ⟨ty,tabC true++r,none⟩) (hkl:k<H.next) :
  Ok (sem T zaS [.ptr k 0]) H λx H'=>x = .ptr k 3/\Grow H H':=by
 refine zax (zuW hk hkl) ?_;rintro _ H' ⟨rfl,g,s⟩;refine⟨rfl,⟨s.next,λi hi=>?_⟩⟩;by_cases e:i=k
 ·subst e;rw[g,hk]
 ·exact s.same i hi (by simpa using e)
def zno{n:Nat}(h:n<256):sem T zaR [by8 n]=M.pure (by8 (xt n)):=by
 refine ziS λH=>?_;refine zmk ?_;unfold f_block_twice by8 xt uB uR ub uq;by_cases e:128<=n
 ·have e1:n*2%256<256:=ybf _ (by decide);rw[if_pos e];simp(disch:=omega)only[↓RD,RZ,eq_self,seval]
 ·rw[if_neg e,<-yap (show n*2<256 by omega)];simp(disch:=omega)only[↓RD,RZ,eq_self,seval]
def Aes(H:Heap)(k:Nat) (ws:List (List Nat)):Prop:=∃id,H.get k=some ⟨zcc,tabC true++[.sl id 0 ws.length (.opn 4)],none⟩/\H.get id=some ⟨zaz,ws.flatten.map by8,some 4⟩/\k<H.next/\id<H.next/\∀w∈ws,Word w
def AesB(lo:Nat)(H:Heap)(k:Nat) (ws:List (List Nat)):Prop:=lo<=k/\∃id,(H.get k=some ⟨zcc,tabC true++[.sl id 0 ws.length (.opn 4)],none⟩/\H.get id=some ⟨zaz,ws.flatten.map by8,some 4⟩/\k<H.next/\id<H.next/\∀w∈ws,Word w)/\lo<=id
def AesB.aes{lo:Nat}{H:Heap}{k:Nat} {ws:List (List Nat)} (h:AesB lo H k ws):Aes H k ws:=by
 obtain⟨_,id,h,_⟩:=h;exact⟨id,h⟩
def AesB.keep{lo:Nat}{H H':Heap}{k:Nat} {ws:List (List Nat)} (h:AesB lo H k ws) (g:Keep lo H H'):AesB lo H' k ws:=by
 obtain⟨l,id,⟨h1,h2,h3,h4,h5⟩,m⟩:=h;exact⟨l,id,⟨by rw[g.same k l h3];exact h1,by rw[g.same id m h4];exact h2,yaq h3 g.next,yaq h4 g.next,h5⟩,m⟩
def AesB.low{lo lo':Nat}{H:Heap}{k:Nat} {ws:List (List Nat)} (h:AesB lo H k ws) (hl:lo'<=lo):AesB lo' H k ws:=by
 obtain⟨l,id,h,m⟩:=h;exact⟨yaA hl l,id,h,yaA hl m⟩
def Aes.grow{H H':Heap}{k:Nat} {ws:List (List Nat)} (h:Aes H k ws) (g:Grow H H'):Aes H' k ws:=by
 obtain⟨id,h1,h2,h3,h4,h5⟩:=h;exact⟨id,by rw[g.same k h3];exact h1,by rw[g.same id h4];exact h2,yaq h3 g.next,yaq h4 g.next,h5⟩
def zpr(wv:V):(tabC true++[wv])[259]?=some wv:=by
 rw[ybq (by show(tabC true).length<=259;unfold tabC;simp only[yaw,yai,zhI];omega)];have:(tabC true).length=259:=by unfold tabC;simp only[yaw,yai,zhI]
 rw[this];rfl
def flat4:∀(ws:List (List Nat)),(∀w∈ws,Word w)->ws.flatten.length=4*ws.length:=by
 intro ws
 induction ws with
 | nil=>intro _;rfl
 | cons w ws ih=>
  intro h;rw[ybk,yah,ih (λw' h'=>h w' (yaY _ h')),(h w (ya1 ..)).1,yaw];omega
def flat4_at:∀(ws:List (List Nat)),(∀w∈ws,Word w)->∀j m:Nat,m<4->ws.flatten.getD (j*4+m) 0=(ws.getD j []).getD m 0:=by
 intro ws
 induction ws with
 | nil=>intro _ j m _;simp
 | cons w ws ih=>
  intro h j m hm;have hw:=(h w (ya1 ..)).1;cases j with
  | zero=>
   rw[ybk,ybw,ya6,yao,ybO (by omega)];simp
  | succ j=>
   rw[ybk,yao,ybq (by omega),hw,show(j+1)*4+m-4=j*4+m by omega,<-yao,ih (λw' h'=>h w' (yaY _ h')) j m hm];rfl
def zoH {ws:List (List Nat)} (hw:∀w∈ws,Word w) {j m:Nat} (hj:j<ws.length) (hm:m<4):(ws.flatten.map by8)[j*4+m]?=some (by8 ((ws.getD j []).getD m 0)):=by
 rw[bg (by rw[flat4 ws hw];omega),flat4_at ws hw j m hm]
def ztB {ws:List (List Nat)} (hw:∀w∈ws,Word w) (j m:Nat):(ws.getD j []).getD m 0<256:=by
 refine Ok8.getD ?_ _;rw[yao];cases e:ws[j]? with
 | none=>exact Ok8.nil
 | some w=>exact(hw w (ybh e)).2
def zgK{x:List Nat}(h:x.length=16):(x.map by8).length=16:=by rw[yai,h]
def ld16{l:List Nat}(hl:l.length=16):ldc (some 16) (l.map by8) 0=some (.agg (l.map by8)):=by
 rw[zdJ (by rw[yai];omega),yaH,yam (by rw[yai];omega)]
def sp16{l:List Nat}(hl:l.length=16){L:List V}(hL:L.length=16):splice L 0 (l.map by8)=l.map by8:=by
 unfold splice;rw[ya4,ya2,yai,hl,yaS (by omega),yaN]
def ztG{x y:List Nat}{i:Nat}(hx:i<x.length):(y.take i++x.drop i).map by8=(y.take i).map by8++by8 (x.getD i 0)::(x.drop (i+1)).map by8:=by
 rw[yaM hx,yao,yag hx,yaP,ya5];rfl
def zqj{x y:List Nat}{i:Nat}(hy:i<y.length):(y.take i).map by8++by8 (y.getD i 0)::(x.drop (i+1)).map by8=(y.take (i+1)++x.drop (i+1)).map by8:=by
 rw[zcd hy,yaP,yaP];simp
def zcD (ws:List (List Nat)) (r:Nat) (x:List Nat):(addk ws r x).length=16:=by simp[addk]
def zge(x:List Nat):(movd x).length=16:=by simp[movd]
def zkp(x:List Nat):(mixd x).length=16:=by simp[mixd]
def zsb {ws:List (List Nat)} (hw:∀w∈ws,Word w) {r:Nat} {x:List Nat} (h:Ok8 x):Ok8 (addk ws r x):=Ok8.rmap λi _=>zbS (h.getD i) (ztB hw _ _)
def zmZ(x:List Nat):Ok8 (movd x):=Ok8.rmap λi _=>zsx _
def mixd_8{x:List Nat}(h:Ok8 x):Ok8 (mixd x):=Ok8.rmap λi _=>zbS (zbS (zbS (zbS (zky (h.getD _)) (zky (h.getD _))) (h.getD _)) (h.getD _)) (h.getD _)
def add_ok{H:Heap}{k r:Nat} {ws:List (List Nat)} {x:List Nat} (hA:Aes H k ws) (hx:x.length=16) (h8:Ok8 x) (hr:4*r+3<ws.length) (hwl:ws.length<=1000) :
  Ok (sem T zbX [.ptr k 0,.agg (x.map by8),.int .i64 (r:Nat)]) H λres H'=>res = .agg ((addk ws r x).map by8)/\Grow H H':=by
 refine zjU ?_;unfold zf4 uS uT uO uR uc;refine zaQ (zfs (zb9 _) ?_);rw[zaB];have s1:=Grow.new H ⟨zab,x.map by8,none⟩;have g1:(H.new ⟨zab,x.map by8,none⟩).get H.next=some ⟨zab,x.map by8,none⟩:=zae _ _;have n1:(H.new ⟨zab,x.map by8,none⟩).next=H.next+1:=zaf _ _;generalize ha:H.next=a at *;generalize H.new _=H1 at *;have s2:=Grow.new H1 ⟨zab,[(),(),(),(),(),(),(),(),(),(),(),(),(),(),(),()],none⟩;have g2:(H1.new ⟨zab,[(),(),(),(),(),(),(),(),(),(),(),(),(),(),(),()],none⟩).get H1.next=some ⟨zab,[(),(),(),(),(),(),(),(),(),(),(),(),(),(),(),()],none⟩:=zae _ _;have n2:(H1.new ⟨zab,[(),(),(),(),(),(),(),(),(),(),(),(),(),(),(),()],none⟩).next=H1.next+1:=zaf _ _;have ga2:=(s2.same a (by omega)).trans g1;have hA2:=(hA.grow s1).grow s2;simp(disch:=omega)only[↓RD,RZ,eq_self,seval];generalize hb:H1.next=b at *;generalize H1.new _=H2 at *;obtain⟨id,k1,k2,k3,k4,hw⟩:=hA2;have hkk:k<a/\id<a:=by
  obtain⟨id',k1',k2',k3',k4',hw'⟩:=hA;have e1:=(s2.same k (by omega)).trans ((s1.same k (by omega)).trans k1');rw[k1]at e1;injection e1 with e1
  injection e1 with _ e1 _
  have e2:=List.append_cancel_left e1;injection e2 with e2
  injection e2 with e2
  omega
 refine zax (Q:=λz H'=>z = .ex 0 []/\H'.get a=some ⟨zab,(addk ws r x).map by8,none⟩/\At1 a H2 H') ?_ ?_
 ·refine zaK (λi L H'=>L=[.int .i64 (i:Nat)]/\H'.get a=some ⟨zab,((addk ws r x).take i++x.drop i).map by8,none⟩/\At1 a H2 H') 16 ?_ ?_ ?_
  ·exact⟨rfl,by simpa using ga2,At1.refl _ _⟩
  ·rintro i L H3 hi ⟨rfl,g3,s3⟩;have gk3:=(s3.same k (by omega) (by omega)).trans k1;have gi3:=(s3.same id (by omega) (by omega)).trans k2;have hal:=zcD ws r x;have hA':(((addk ws r x).take i).map by8).length=i:=by rw[yai,yan];omega
   rw[ztG (by omega)]at g3;have m1:=znL (b:=by8 (x.getD i 0)) (C:=(x.drop (i+1)).map by8) hA';have m2:=znK (b:=by8 (x.getD i 0)) (y:=by8 ((addk ws r x).getD i 0)) (C:=(x.drop (i+1)).map by8) hA';have ml:(((addk ws r x).take i).map by8++by8 (x.getD i 0)::(x.drop (i+1)).map by8).length=16:=by rw[yah,hA',yaw,yai,yat];omega
   have ek:=zpr (.sl id 0 ws.length (.opn 4));have e1:(4:Int)*(r:Nat)=((4*r:Nat):Int):=by omega
   have e2:((i:Nat):Int)/4=((i/4:Nat):Int):=by omega
   have e3:((4*r:Nat):Int)+((i/4:Nat):Int)=((4*r+i/4:Nat):Int):=by omega
   have e4:((i:Nat):Int)%4=((i%4:Nat):Int):=by omega
   have hm4:=ybf i (show 0<4 by decide);have wb:=zoH hw (j:=4*r+i/4) (m:=i%4) (by omega) hm4;have ex:=zmP (h8.getD i) (ztB hw (4*r+i/4) (i%4));have ea:x.getD i 0 ^^^ (ws.getD (4*r+i/4) []).getD (i%4) 0=(addk ws r x).getD i 0:=by unfold addk;rw[zcU hi]
   rw[ea]at ex;unfold zde uT uNFM uB uI uIM uK uc ug;simp(disch:=omega)only[↓RD,RZ,eq_self,seval,g3,m1,gk3,ek,e1,e2,e3,e4,gi3,wb,ex,m2,ml,ze3,zbL];refine⟨by omega,rfl,?_,s3.trans (At1.set a _ _)⟩;rw[zqj (by omega)]
  ·rintro L H3 ⟨rfl,g3,s3⟩;unfold zde uT uNFM uB uI uIM uK uc ug;simp(disch:=omega)only[↓RD,RZ,eq_self,seval];refine⟨?_,s3⟩;rw[g3,yam (by rw[zcD];omega),yaS (by omega),yaN]
 ·rintro _ H3 ⟨rfl,g3,s3⟩;have n3:=s3.next;have gb3:=(s3.same b (by omega) (by omega)).trans g2;have hal:=zcD ws r x;have l1:=ld16 hal;have l2:=sp16 hal (L:=[(),(),(),(),(),(),(),(),(),(),(),(),(),(),(),()]) rfl;have l3:=zgK hal;simp(disch:=omega)only[↓RD,RZ,eq_self,seval,g3,l1,gb3,zb9,zaB,l2,l3];exact⟨by rw[zak];omega,λi hi=>by rw[zag _ _ (by omega),s3.same i (by omega) (by omega),s2.same i (by omega),s1.same i (by omega)]⟩
def tab_at{wv:V}{n:Nat}(h:n<256):(tabC true++[wv])[3+n]?=some (by8 (sb n)):=by
 have e:tabC true++[wv] = .int .u32 1 :: .int .i32 0 :: .int .u32 0::(sbox.map by8++[wv]):=rfl;rw[e,show 3+n=n+1+1+1 by omega];rw[ybo,ybo,ybo,bga (by rw[zhI];exact h)];rfl
def moved_ok{H:Heap}{k:Nat} {ws:List (List Nat)} {x:List Nat} (hA:Aes H k ws) (hx:x.length=16) (h8:Ok8 x) :
  Ok (sem T zb8 [.ptr k 0,.agg (x.map by8)]) H λres H'=>res = .agg ((movd x).map by8)/\Grow H H':=by
 refine zhQ ?_;unfold zeZ uS uT uNF uO uA uR uc;refine zaQ (zfs (zb9 _) ?_);rw[zaB];have s1:=Grow.new H ⟨zab,x.map by8,none⟩;have g1:(H.new ⟨zab,x.map by8,none⟩).get H.next=some ⟨zab,x.map by8,none⟩:=zae _ _;have n1:(H.new ⟨zab,x.map by8,none⟩).next=H.next+1:=zaf _ _;generalize ha:H.next=a at *;generalize H.new _=H1 at *;have s2:=Grow.new H1 ⟨zab,[(),(),(),(),(),(),(),(),(),(),(),(),(),(),(),()],none⟩;have g2:(H1.new ⟨zab,[(),(),(),(),(),(),(),(),(),(),(),(),(),(),(),()],none⟩).get H1.next=some ⟨zab,[(),(),(),(),(),(),(),(),(),(),(),(),(),(),(),()],none⟩:=zae _ _;have n2:(H1.new ⟨zab,[(),(),(),(),(),(),(),(),(),(),(),(),(),(),(),()],none⟩).next=H1.next+1:=zaf _ _;have ga2:=(s2.same a (by omega)).trans g1;have hA2:=(hA.grow s1).grow s2;simp(disch:=omega)only[↓RD,RZ];generalize hb:H1.next=b at *;generalize H1.new _=H2 at *;obtain⟨id,k1,k2,k3,k4,hw⟩:=hA2;refine zam (zsP k1 k3) ?_;rintro _ H3 ⟨rfl,s3⟩;have n3:=s3.next;have gk3:=(s3.same k k3).trans k1;have ga3:=(s3.same a (by omega)).trans ga2;have gb3:=(s3.same b (by omega)).trans g2;have s4:=Grow.new H3 ⟨zab,[(),(),(),(),(),(),(),(),(),(),(),(),(),(),(),()],none⟩;have g4:(H3.new ⟨zab,[(),(),(),(),(),(),(),(),(),(),(),(),(),(),(),()],none⟩).get H3.next=some ⟨zab,List.replicate 16 (.int .u8 0),none⟩:=zae _ _;have n4:(H3.new ⟨zab,[(),(),(),(),(),(),(),(),(),(),(),(),(),(),(),()],none⟩).next=H3.next+1:=zaf _ _;have gk4:=(s4.same k (by omega)).trans gk3;have ga4:=(s4.same a (by omega)).trans ga3;have gb4:=(s4.same b (by omega)).trans gb3;simp(disch:=omega)only[↓RD,RZ];generalize hc:H3.next=c at *;generalize H3.new _=H4 at *;have hml:=zge x;refine zax (Q:=λz H'=>z = .ex 0 []/\H'.get c=some ⟨zab,(movd x).map by8,none⟩/\At1 c H4 H') ?_ ?_
 ·refine zaK (λi L H'=>L=[.int .i64 (i:Nat)]/\H'.get c=some ⟨zab,((movd x).take i).map by8++List.replicate (16-i) (.int .u8 0),none⟩/\At1 c H4 H') 16 ?_ ?_ ?_
  ·exact⟨rfl,by simpa using g4,At1.refl _ _⟩
  ·rintro i L H5 hi ⟨rfl,g5,s5⟩;have gk5:=(s5.same k (by omega) (by omega)).trans gk4;have ga5:=(s5.same a (by omega) (by omega)).trans ga4;have hl0:(((movd x).take i).map by8).length=i:=by rw[yai,yan];omega
   have x0:=zbm (z:=.int .u8 0) (x:=by8 ((movd x).getD i 0)) hl0 hi;have ml:(((movd x).take i).map by8++List.replicate (16-i) (V.int .u8 0)).length=16:=by rw[yah,hl0,yaL];omega
   have e1:((i:Nat):Int)%4=((i%4:Nat):Int):=by omega
   have e2:(4:Int)*((i%4:Nat):Int)=((4*(i%4):Nat):Int):=by omega
   have e3:((i:Nat):Int)+((4*(i%4):Nat):Int)=((i+4*(i%4):Nat):Int):=by omega
   have e4:((i+4*(i%4):Nat):Int)%16=(((i+4*(i%4))%16:Nat):Int):=by omega
   have hm:=ybf (i+4*(i%4)) (show 0<16 by decide);have hm4:=ybf i (show 0<4 by decide);have eg:=bg (l:=x) (i:=(i+4*(i%4))%16) (by omega);have hb8:=h8.getD ((i+4*(i%4))%16);have ia:=zrn (id:=k) (off:=3) (n:=256) hb8;have et:=tab_at (wv:=.sl id 0 ws.length (.opn 4)) hb8;have em:sb (x.getD ((i+4*(i%4))%16) 0)=(movd x).getD i 0:=by unfold movd;rw[zcU hi]
   rw[em]at et;unfold zcI uT uN uB uI uIM uK uc ug;simp(disch:=omega)only[↓RD,RZ,e1,e2,e3,e4,ga5,eg,ia,gk5,et,g5,x0,ml,ze3,zbL];refine⟨by omega,rfl,?_,s5.trans (At1.set c _ _)⟩;rw[zcd (by omega)];simp
  ·rintro L H5 ⟨rfl,g5,s5⟩;unfold zcI uT uN uB uI uIM uK uc ug;simp(disch:=omega)only[↓RD,RZ];refine⟨?_,s5⟩;rw[g5,yam (by omega)];simp
 ·rintro _ H5 ⟨rfl,g5,s5⟩;have n5:=s5.next;have gb5:=(s5.same b (by omega) (by omega)).trans gb4;have l1:=ld16 hml;have l2:=sp16 hml (L:=[(),(),(),(),(),(),(),(),(),(),(),(),(),(),(),()]) rfl;have l3:=zgK hml;simp(disch:=omega)only[↓RD,RZ,eq_self,seval,g5,l1,gb5,zb9,zaB,l2,l3];exact⟨by rw[zak];omega,λi hi=>by rw[zag _ _ (by omega),s5.same i (by omega) (by omega),s4.same i (by omega),s3.same i (by omega),s2.same i (by omega),s1.same i (by omega)]⟩
def mixed_ok{H:Heap}{x:List Nat}(hx:x.length=16)(h8:Ok8 x) :
  Ok (sem T zdk [.agg (x.map by8)]) H λres H'=>res = .agg ((mixd x).map by8)/\Grow H H':=by
 refine zml ?_;unfold ziz uS uT uO uR uc;refine zaQ (zfs (zb9 _) ?_);rw[zaB];have s1:=Grow.new H ⟨zab,x.map by8,none⟩;have g1:(H.new ⟨zab,x.map by8,none⟩).get H.next=some ⟨zab,x.map by8,none⟩:=zae _ _;have n1:(H.new ⟨zab,x.map by8,none⟩).next=H.next+1:=zaf _ _;generalize ha:H.next=a at *;generalize H.new _=H1 at *;refine zaQ (zfs (by rfl) ?_);have s2:=Grow.new H1 ⟨zab,[(),(),(),(),(),(),(),(),(),(),(),(),(),(),(),()],none⟩;have g2:(H1.new ⟨zab,[(),(),(),(),(),(),(),(),(),(),(),(),(),(),(),()],none⟩).get H1.next=some ⟨zab,[(),(),(),(),(),(),(),(),(),(),(),(),(),(),(),()],none⟩:=zae _ _;have n2:(H1.new ⟨zab,[(),(),(),(),(),(),(),(),(),(),(),(),(),(),(),()],none⟩).next=H1.next+1:=zaf _ _;have ga2:=(s2.same a (by omega)).trans g1;rw[zaB];generalize hb:H1.next=b at *;generalize H1.new _=H2 at *;refine zaQ (zfs (by rfl) ?_);have s4:=Grow.new H2 ⟨zab,[(),(),(),(),(),(),(),(),(),(),(),(),(),(),(),()],none⟩;have g4:(H2.new ⟨zab,[(),(),(),(),(),(),(),(),(),(),(),(),(),(),(),()],none⟩).get H2.next=some ⟨zab,List.replicate 16 (.int .u8 0),none⟩:=zae _ _;have n4:(H2.new ⟨zab,[(),(),(),(),(),(),(),(),(),(),(),(),(),(),(),()],none⟩).next=H2.next+1:=zaf _ _;have ga4:=(s4.same a (by omega)).trans ga2;have gb4:=(s4.same b (by omega)).trans g2;rw[zaB];generalize hc:H2.next=c at *;generalize H2.new _=H4 at *;have hml:=zkp x;simp(disch:=omega)only[↓RD,RZ];refine zax (Q:=λz H'=>z = .ex 0 []/\H'.get c=some ⟨zab,(mixd x).map by8,none⟩/\At1 c H4 H') ?_ ?_
 ·refine zaK (λi L H'=>L=[.int .i64 (i:Nat)]/\H'.get c=some ⟨zab,((mixd x).take i).map by8++List.replicate (16-i) (.int .u8 0),none⟩/\At1 c H4 H') 16 ?_ ?_ ?_
  ·exact⟨rfl,by simpa using g4,At1.refl _ _⟩
  ·rintro i L H5 hi ⟨rfl,g5,s5⟩;have ga5:=(s5.same a (by omega) (by omega)).trans ga4;have hl0:(((mixd x).take i).map by8).length=i:=by rw[yai,yan];omega
   have x0:=zbm (z:=.int .u8 0) (x:=by8 ((mixd x).getD i 0)) hl0 hi;have ml:(((mixd x).take i).map by8++List.replicate (16-i) (V.int .u8 0)).length=16:=by rw[yah,hl0,yaL];omega
   have e1:((i:Nat):Int)%4=((i%4:Nat):Int):=by omega
   have e2:((i:Nat):Int)-((i%4:Nat):Int)=((i-i%4:Nat):Int):=by omega
   have f1:(((i:Nat):Int)+1)%4=(((i+1)%4:Nat):Int):=by omega
   have f2:(((i:Nat):Int)+2)%4=(((i+2)%4:Nat):Int):=by omega
   have f3:(((i:Nat):Int)+3)%4=(((i+3)%4:Nat):Int):=by omega
   have k1:((i-i%4:Nat):Int)+(((i+1)%4:Nat):Int)=((i-i%4+(i+1)%4:Nat):Int):=rfl;have k2:((i-i%4:Nat):Int)+(((i+2)%4:Nat):Int)=((i-i%4+(i+2)%4:Nat):Int):=rfl;have k3:((i-i%4:Nat):Int)+(((i+3)%4:Nat):Int)=((i-i%4+(i+3)%4:Nat):Int):=rfl;have m0:i-i%4<=12:=by omega
   have m1:=ybf (i+1) (show 0<4 by decide);have m2:=ybf (i+2) (show 0<4 by decide);have m3:=ybf (i+3) (show 0<4 by decide);have b0:=bg (l:=x) (i:=i) (by omega);have b1:=bg (l:=x) (i:=i-i%4+(i+1)%4) (by omega);have b2:=bg (l:=x) (i:=i-i%4+(i+2)%4) (by omega);have b3:=bg (l:=x) (i:=i-i%4+(i+3)%4) (by omega);have q0:=h8.getD i;have q1:=h8.getD (i-i%4+(i+1)%4);have q2:=h8.getD (i-i%4+(i+2)%4);have q3:=h8.getD (i-i%4+(i+3)%4);have w0:=zno q0;have w1:=zno q1;have x1:=zmP (zky q0) (zky q1);have x2:=zmP (zbS (zky q0) (zky q1)) q1;have x3:=zmP (zbS (zbS (zky q0) (zky q1)) q1) q2;have x4:=zmP (zbS (zbS (zbS (zky q0) (zky q1)) q1) q2) q3;have em:xt (x.getD i 0) ^^^ xt (x.getD (i-i%4+(i+1)%4) 0) ^^^ x.getD (i-i%4+(i+1)%4) 0 ^^^ x.getD (i-i%4+(i+2)%4) 0 ^^^ x.getD (i-i%4+(i+3)%4) 0=(mixd x).getD i 0:=by unfold mixd;rw[zcU hi]
   rw[em]at x4;unfold zd5 uM uT uB uI uIM uU uA uZ uK uc ug;simp(disch:=omega)only[↓RD,RZ,e1,e2,f1,f2,f3,k1,k2,k3,ga5,b0,b1,b2,b3,w0,w1,x1,x2,x3,x4,g5,x0,ml,ze3,zbL];refine⟨by omega,rfl,?_,s5.trans (At1.set c _ _)⟩;rw[zcd (by omega)];simp
  ·rintro L H5 ⟨rfl,g5,s5⟩;unfold zd5 uM uT uB uI uIM uU uA uZ uK uc ug;simp(disch:=omega)only[↓RD,RZ];refine⟨?_,s5⟩;rw[g5,yam (by omega)];simp
 ·rintro _ H5 ⟨rfl,g5,s5⟩;have n5:=s5.next;have gb5:=(s5.same b (by omega) (by omega)).trans gb4;have l1:=ld16 hml;have l2:=sp16 hml (L:=[(),(),(),(),(),(),(),(),(),(),(),(),(),(),(),()]) rfl;have l3:=zgK hml;simp(disch:=omega)only[↓RD,RZ,eq_self,seval,g5,l1,gb5,zb9,zaB,l2,l3];exact⟨by rw[zak];omega,λi hi=>by rw[zag _ _ (by omega),s5.same i (by omega) (by omega),s4.same i (by omega),s2.same i (by omega),s1.same i (by omega)]⟩
def arnd_len {ws:List (List Nat)} {x:List Nat} (n:Nat):(arnd ws x n).length=16:=by
 cases n with
 | zero=>exact zcD _ _ _
 | succ n=>exact zcD _ _ _
def arnd_8 {ws:List (List Nat)} (hw:∀w∈ws,Word w) {x:List Nat} (h:Ok8 x) (n:Nat):Ok8 (arnd ws x n):=by
 cases n with
 | zero=>exact zsb hw h
 | succ n=>exact zsb hw (mixd_8 (zmZ _))
def bst (ws:List (List Nat)) (x:List Nat) (i:Nat):List Nat:=if i<ws.length/4-1 then arnd ws x i else aes ws x
def Block_ok{H:Heap}{k:Nat} {ws:List (List Nat)} {x:List Nat} (hA:Aes H k ws) (hx:x.length=16) (h8:Ok8 x) (hwl:ws.length<=1000) (hw4:ws.length%4=0) (hw8:8<=ws.length) :
  Ok (sem T zbx [.ptr k 0,.agg (x.map by8)]) H λres H'=>res = .agg ((aes ws x).map by8)/\Grow H H':=by
 have hw:∀w∈ws,Word w:=by obtain⟨_,_,_,_,_,hw⟩:=hA;exact hw
 refine zhR ?_;unfold ze0 uL uS uT uNFM uB uO uA uR uc;refine zaQ (zfs (zb9 _) ?_);rw[zaB];have s1:=Grow.new H ⟨zab,x.map by8,none⟩;have g1:(H.new ⟨zab,x.map by8,none⟩).get H.next=some ⟨zab,x.map by8,none⟩:=zae _ _;have n1:(H.new ⟨zab,x.map by8,none⟩).next=H.next+1:=zaf _ _;generalize ha:H.next=a at *;generalize H.new _=H1 at *;refine zaQ (zfs (by rfl) ?_);have s2:=Grow.new H1 ⟨zab,[(),(),(),(),(),(),(),(),(),(),(),(),(),(),(),()],none⟩;have g2:(H1.new ⟨zab,[(),(),(),(),(),(),(),(),(),(),(),(),(),(),(),()],none⟩).get H1.next=some ⟨zab,[(),(),(),(),(),(),(),(),(),(),(),(),(),(),(),()],none⟩:=zae _ _;have n2:(H1.new ⟨zab,[(),(),(),(),(),(),(),(),(),(),(),(),(),(),(),()],none⟩).next=H1.next+1:=zaf _ _;have ga2:=(s2.same a (by omega)).trans g1;have hA2:=(hA.grow s1).grow s2;rw[zaB];generalize hb:H1.next=b at *;generalize H1.new _=H2 at *;obtain⟨id,k1,k2,k3,k4,-⟩:=id hA2;have ek:=zpr (.sl id 0 ws.length (.opn 4));have e1:((ws.length:Nat):Int)/4=((ws.length/4:Nat):Int):=by omega
 have e2:((ws.length/4:Nat):Int)-1=((ws.length/4-1:Nat):Int):=by omega
 have l1:=ld16 hx;simp(disch:=omega)only[↓RD,RZ,k1,ek,e1,e2,ga2,l1];have hlast:ws.length/4-1+1=ws.length/4:=by omega
 have hAg:∀H',Grow H H'->Aes H' k ws:=λH' g=>hA.grow g;have ad:=add_ok (r:=0) hA2 hx h8 (by omega) hwl;refine zam ad ?_;rintro _ H3 ⟨rfl,s3⟩;have n3:=s3.next;have ga3:=(s3.same a (by omega)).trans ga2;have gb3:=(s3.same b (by omega)).trans g2;have l2:=sp16 (zcD ws 0 x) (L:=x.map by8) (zgK hx);have l3:=zgK (zcD ws 0 x);simp(disch:=omega)only[↓RD,RZ,eq_self,seval,ga3,zb9,zaB,l2,l3,zgK hx];have gH3:Grow H (H3.set a (some ⟨zab,(addk ws 0 x).map by8,none⟩)):=(((s1.trans s2).trans s3)).set (by omega) _;have gb4:(H3.set a (some ⟨zab,(addk ws 0 x).map by8,none⟩)).get b = _:=(zag _ _ (by omega)).trans gb3;have ga4:(H3.set a (some ⟨zab,(addk ws 0 x).map by8,none⟩)).get a = _:=zaj _ _ _;have n4:H3.next=(H3.set a (some ⟨zab,(addk ws 0 x).map by8,none⟩)).next:=rfl;generalize H3.set a _=H4 at *;have gA:∀H',At1 a H4 H'->Grow H H':=λH' g=>⟨yaA gH3.next g.next,λi hi=>by rw[g.same i (by omega) (by omega),gH3.same i hi]⟩;have bl:∀i,(bst ws x i).length=16:=λi=>by unfold bst;split;exact arnd_len _;exact zcD _ _ _
 have b8:∀i,Ok8 (bst ws x i):=λi=>by unfold bst;split;exact arnd_8 hw h8 _;exact zsb hw (zmZ _)
 refine zax (Q:=λz H'=>z = .ex 0 []/\H'.get a=some ⟨zab,(aes ws x).map by8,none⟩/\At1 a H4 H') ?_ ?_
 ·refine zaK (λi L H'=>L=[.int .i64 ((i+1:Nat):Int)]/\H'.get a=some ⟨zab,(bst ws x i).map by8,none⟩/\At1 a H4 H') (ws.length/4-1) ?_ ?_ ?_
  ·refine⟨rfl,?_,At1.refl _ _⟩;unfold bst;rw[if_pos (by omega)];exact ga4
  ·rintro i L H5 hi ⟨rfl,ga5,s5⟩;have n5:=s5.next;have e5:((i+1:Nat):Int)+1=((i+1+1:Nat):Int):=rfl;have l1:=ld16 (bl i);unfold zcJ uS uT uB uA uK uc ug;simp(disch:=omega)only[↓RD,RZ,ga5,l1];refine zam (moved_ok (hAg _ (gA _ s5)) (bl i) (b8 i)) ?_;rintro _ H6 ⟨rfl,s6⟩;have n6:=s6.next;have ga6:=(s6.same a (by omega)).trans ga5;have l2:=sp16 (zge (bst ws x i)) (L:=(bst ws x i).map by8) (zgK (bl i));have l3:=zgK (zge (bst ws x i));have l4:=zgK (bl i);have l5:=ld16 (zge (bst ws x i));simp(disch:=omega)only[↓RD,RZ,eq_self,seval,ga6,zb9,zaB,l2,l3,l4];have s7:At1 a H4 (H6.set a (some ⟨zab,(movd (bst ws x i)).map by8,none⟩)):=(s5.trans (s6.at1 a)).trans (At1.set a _ _);have ga7:(H6.set a (some ⟨zab,(movd (bst ws x i)).map by8,none⟩)).get a = _:=zaj _ _ _;generalize H6.set a _=H7 at *;have n7:=s7.next;refine zax (Q:=λz H'=>z = .nrm []/\H'.get a=some ⟨zab,(if i+1<ws.length/4-1 then mixd (movd (bst ws x i)) else movd (bst ws x i)).map by8,none⟩/\At1 a H4 H') ?_ ?_
   ·refine zdu (λh=>?_) (λh=>?_)
    ·simp(disch:=omega)only[↓RD,RZ,ga7,l5];refine zam (mixed_ok (zge _) (zmZ _)) ?_;rintro _ H8 ⟨rfl,s8⟩;have n8:=s8.next;have ga8:=(s8.same a (by omega)).trans ga7;have m2:=sp16 (zkp (movd (bst ws x i))) (L:=(movd (bst ws x i)).map by8) l3;have m3:=zgK (zkp (movd (bst ws x i)));simp(disch:=omega)only[↓RD,RZ,eq_self,seval,ga8,zb9,zaB,m2,m3,l3];exact⟨by rw[if_pos (by omega)],(s7.trans (s8.at1 a)).trans (At1.set a _ _)⟩
    ·simp(disch:=omega)only[↓RD,RZ];rw[if_neg (by omega)];exact⟨ga7,s7⟩
   ·rintro _ H8 ⟨rfl,ga8,s8⟩;have n8:=s8.next;generalize hy:(if i+1<ws.length/4-1 then mixd (movd (bst ws x i)) else movd (bst ws x i))=y at *;have yl:y.length=16:=by rw[<-hy];split;exact zkp _;exact zge _
    have y8:Ok8 y:=by rw[<-hy];split;exact mixd_8 (zmZ _);exact zmZ _
    have m1:=ld16 yl;simp(disch:=omega)only[↓RD,RZ,ga8,m1];refine zam (add_ok (r:=i+1) (hAg _ (gA _ s8)) yl y8 (by omega) hwl) ?_;rintro _ H9 ⟨rfl,s9⟩;have n9:=s9.next;have ga9:=(s9.same a (by omega)).trans ga8;have m2:=sp16 (zcD ws (i+1) y) (L:=y.map by8) (zgK yl);have m3:=zgK (zcD ws (i+1) y);have m4:=zgK yl;simp(disch:=omega)only[↓RD,RZ,eq_self,seval,ga9,zb9,zaB,m2,m3,m4,e5];refine⟨?_,(s8.trans (s9.at1 a)).trans (At1.set a _ _)⟩
    ·congr 3;rw[<-hy];unfold bst;rw[if_pos hi];by_cases h:i+1<ws.length/4-1
     ·rw[if_pos h,if_pos h];rfl
     ·rw[if_neg h,if_neg h];unfold aes;rw[show ws.length/4-2=i by omega,show ws.length/4-1=i+1 by omega]
  ·rintro L H5 ⟨rfl,ga5,s5⟩;unfold zcJ uS uT uB uA uK uc ug;simp(disch:=omega)only[↓RD,RZ];refine⟨?_,s5⟩;rw[ga5];unfold bst;rw[if_neg (by omega)]
 ·rintro _ H5 ⟨rfl,ga5,s5⟩;have n5:=s5.next;have al:=zcD ws (ws.length/4-1) (movd (arnd ws x (ws.length/4-2)));have l1:=ld16 (l:=aes ws x) al;have l2:=sp16 (l:=aes ws x) al (L:=[(),(),(),(),(),(),(),(),(),(),(),(),(),(),(),()]) rfl;have l3:=zgK (x:=aes ws x) al;have gb6:=(s5.same b (by omega) (by omega)).trans gb4;simp(disch:=omega)only[↓RD,RZ,eq_self,seval,ga5,l1,gb6,zb9,zaB,l2,l3];exact(gA _ s5).set (by omega) _
def zeL(x:Nat):1<=zcp x/\zcp x<=8:=by
 unfold zcp
 repeat' split
 all_goals omega
def zla{x:Nat}(h:x<18446744073709551616):x<256 ^ zcp x:=by
 unfold zcp
 repeat' split
 all_goals omega
def zmX{x:Nat}(h:0<x):256 ^ (zcp x-1)<=x:=by
 unfold zcp
 repeat' split
 all_goals omega
def num_snoc(x n:Nat):num x (n+1)=num (x/256) n++[x%256]:=by
 unfold num;rw[List.range_succ,yaP];congr 1
 ·refine ycC λi hi=>?_;rw[yaW]at hi;rw[ydb,<-Nat.pow_succ'];congr 3;omega
 ·simp
def be_num(n:Nat):∀x:Nat,x<256 ^ n->be (num x n)=x:=by
 induction n with
 | zero=>intro x h;simp at h;subst h;rfl
 | succ n ih=>
  intro x h;rw[num_snoc,zrl,ih]
  ·omega
  ·rw[ybB]at h;omega
def num_top{x n:Nat}(h:256 ^ n<=x) (hx:x<256 ^ (n+1)):(num x (n+1)).getD 0 0≠0:=by
 unfold num;rw[zcU (by omega)];have h1:x/256 ^ n<256:=by
  rw[Nat.div_lt_iff_lt_mul (Nat.pow_pos (by decide))];rw[ybB]at hx;omega
 have h2:1<=x/256 ^ n:=by
  rw[Nat.le_div_iff_mul_le (Nat.pow_pos (by decide))];omega
 show x/256 ^ (n+1-1-0)%256≠0;rw[show n+1-1-0=n by omega];omega
def psz(x:Nat):Nat:=if x<8 then 0 else x-7
def pnum(x:Nat)(b:List Nat):Nat:=if x<8 then x else be b
def zkS(x:Nat)(b:List Nat):Bool:=if x<8 then true else (b.getD 0 0 != 0)&&decide (8<=be b)
inductive PH
 | err (e:Nat)
 | ok (kid ctr n:Nat)
def parse(b:List Nat):PH:=
 if b.length=0 then .err 3
 else
  let k:=b.getD 0 0/16
  let c:=b.getD 0 0%16
  let at':=1+psz k
  let en:=at'+psz c
  if b.length<en then .err 3
  else
   let x:=(b.take at').drop 1
   let y:=(b.take en).drop at'
   if zkS k x&&zkS c y then .ok (pnum k x) (pnum c y) en else .err 2
def zjp(x:Nat):(fld x).1<16/\psz (fld x).1=(fld x).2.length:=by
 unfold fld psz;split
 ·refine⟨by dsimp only;omega,?_⟩;dsimp only
  first|rfl|(rw[if_pos (by omega)];rfl)
 ·have:=zeL x;refine⟨by dsimp only;omega,?_⟩;dsimp only;rw[if_neg (by omega),zc9];omega
def zkq{x:Nat}(h:x<18446744073709551616):pnum (fld x).1 (fld x).2=x/\zkS (fld x).1 (fld x).2=true:=by
 unfold fld;split
 ·rename_i hx;dsimp only;unfold pnum zkS;rw[if_pos hx,if_pos hx];exact⟨rfl,rfl⟩
 ·have h1:=zeL x;have h2:=be_num (zcp x) x (zla h);have h3:(num x (zcp x)).getD 0 0≠0:=by
   have a:=zmX (x:=x) (by omega);have b:=zla h;obtain⟨n,hn⟩:∃n,zcp x=n+1:=⟨zcp x-1,by omega⟩;rw[hn]at a b ⊢;exact num_top (by simpa using a) b
  dsimp only;unfold pnum zkS;rw[if_neg (by omega),if_neg (by omega),h2];refine⟨rfl,?_⟩;simp only[yal,bne_iff_ne,ne_eq,decide_eq_true_eq];exact⟨h3,by omega⟩
def zu7(kid ctr:Nat):(hdr kid ctr).length=1+(fld kid).2.length+(fld ctr).2.length:=by
 unfold hdr;simp only[yaw,yah];omega
def hdr_8(kid ctr:Nat):Ok8 (hdr kid ctr):=by
 unfold hdr;intro x hx;have h1:=(zjp kid).1;have h2:=(zjp ctr).1;have h3:∀x:Nat,Ok8 (fld x).2:=λx=>by
  unfold fld;split
  ·exact Ok8.nil
  ·exact zjy _ _
 rcases yaD.1 hx with rfl|hx
 ·omega
 ·exact(h3 kid).app (h3 ctr) x hx
def zu6(kid ctr:Nat):(hdr kid ctr).length<=17:=by
 have h:∀x:Nat,(fld x).2.length<=8:=λx=>by
  unfold fld;split
  ·simp
  ·dsimp only;rw[zc9];exact(zeL x).2
 rw[zu7];have:=h kid;have:=h ctr;omega
def zux{kid ctr:Nat}(h1:kid<18446744073709551616)(h2:ctr<18446744073709551616)(r:List Nat):parse (hdr kid ctr++r) = .ok kid ctr (hdr kid ctr).length:=by
 have k1:=zjp kid;have k2:=zjp ctr;have b0:(hdr kid ctr++r).getD 0 0=(fld kid).1*16+(fld ctr).1:=rfl;have hl:=zu7 kid ctr;have e1:(hdr kid ctr++r).getD 0 0/16=(fld kid).1:=by rw[b0];omega
 have e2:(hdr kid ctr++r).getD 0 0%16=(fld ctr).1:=by rw[b0];omega
 unfold parse;rw[if_neg (by rw[yah,hl];omega)];dsimp only;rw[e1,e2,k1.2,k2.2,if_neg (by rw[yah,hl];omega)];have hh:hdr kid ctr++r=((fld kid).1*16+(fld ctr).1)::((fld kid).2++((fld ctr).2++r)):=by unfold hdr;simp
 have t1:((hdr kid ctr++r).take (1+(fld kid).2.length)).drop 1=(fld kid).2:=by
  rw[show 1+(fld kid).2.length=(fld kid).2.length+1 by omega,hh];rw[ybr,List.drop_one,List.tail_cons,List.take_left]
 have t2:((hdr kid ctr++r).take (1+(fld kid).2.length+(fld ctr).2.length)).drop (1+(fld kid).2.length)=(fld ctr).2:=by
  rw[show 1+(fld kid).2.length+(fld ctr).2.length=((fld kid).2.length+(fld ctr).2.length)+1 by omega,show 1+(fld kid).2.length=(fld kid).2.length+1 by omega,hh];rw[ybr,List.drop_succ_cons,<-ybb,yb6 (by rw[yah]),yc4]
 rw[t1,t2,(zkq h1).1,(zkq h1).2,(zkq h2).1,(zkq h2).2,hl];rfl
structure Ky where
 kid:Nat
 t:Nat
 ws:List (List Nat)
 auth:List Nat
 salt:List Nat
def sKey:List Nat:=[83,70,114,97,109,101,32,49,46,48,32,83,101,99,114,101,116,32,107,101,121,32]
def sSalt:List Nat:=[83,70,114,97,109,101,32,49,46,48,32,83,101,99,114,101,116,32,115,97,108,116,32]
def szs:Nat->Option (Nat×Nat)
 | 1=>some (16,10)
 | 2=>some (16,8)
 | 3=>some (16,4)
 | 16=>some (32,10)
 | _=>none
def zaE(base:List Nat):List Nat:=hmac kc [] base
def keyb(id kid n:Nat)(base:List Nat):List Nat:=((hkdf kc (zaE base) (sKey++(num kid 8++num id 2)) 2).1).take (n+32)
def saltb(id kid:Nat)(base:List Nat):List Nat:=((hkdf kc (zaE base) (sSalt++(num kid 8++num id 2)) 1).1).take 12
def drv(id kid n t:Nat)(base:List Nat):Ky:=
 ⟨kid,t,kw ((keyb id kid n base).take n) (n/4) (4*(n/4+7)),(keyb id kid n base).drop n,saltb id kid base⟩
def zbM(salt:List Nat)(c:Nat):List Nat:=(List.range 12).map λi=>(num c 12).getD i 0 ^^^ salt.getD i 0
def first(n:List Nat):List Nat:=n++List.replicate 4 0
def tagm(k:Ky)(n head m b:List Nat):List Nat:=num (head.length+m.length) 8++num b.length 8++num k.t 8++n++head++m++b
def ziL(k:Ky)(n head m b:List Nat):List Nat:=(hmac kc k.auth (tagm k n head m b)).take k.t
def zc8(k:Ky)(c:Nat)(m p:List Nat):List Nat:=
 hdr k.kid c++ctr k.ws (first (zbM k.salt c)) p++ziL k (zbM k.salt c) (hdr k.kid c) m (ctr k.ws (first (zbM k.salt c)) p)
inductive PO
 | err (e:Nat)
 | ok (p:List Nat) (c:Nat)
def openB(k:Ky)(b m:List Nat):PO:=
 match parse b with
 | .err e=>.err e
 | .ok kid c n=>
  if kid≠k.kid then .err 10
  else if b.length<n+k.t then .err 3
  else if 1000<b.length-n-k.t then .err 4
  else
   if ziL k (zbM k.salt c) (b.take n) m ((b.drop n).take (b.length-n-k.t))=b.drop (b.length-k.t) then .ok (ctr k.ws (first (zbM k.salt c)) ((b.drop n).take (b.length-n-k.t))) c
   else .err 8
def znR {ws:List (List Nat)} {f b:List Nat} {i:Nat} (h:i<b.length):(ctr ws f b).getD i 0=b.getD i 0 ^^^ znN ws f i:=by
 unfold ctr;rw[zcU h]
def zon{a b:List Nat}(h:a.length=b.length)(g:∀i,i<a.length->a.getD i 0=b.getD i 0):a=b:=by
 refine ycY h λi h1 h2=>?_;have:=g i h1;rw[yao,yao,yag h1,yag h2]at this;exact this
def zvv (ws:List (List Nat)) (f b:List Nat):ctr ws f (ctr ws f b)=b:=by
 refine zon (by rw[zeG,zeG]) λi hi=>?_;rw[zeG,zeG]at hi;rw[znR (by rw[zeG];exact hi),znR hi,Nat.xor_assoc,yde,Nat.xor_zero]
def zsR (ws:List (List Nat)) (f:List Nat) (hw:∀w∈ws,Word w) (i:Nat):znN ws f i<256:=by
 unfold znN;refine Ok8.getD ?_ _;unfold aes addk;refine Ok8.rmap λj hj=>zbS (Ok8.getD (by unfold movd;exact Ok8.rmap λ_ _=>zsx _) j) (Ok8.getD ?_ _);rw[yao];cases e:ws[4*(ws.length/4-1)+j/4]? with
 | none=>exact Ok8.nil
 | some w=>exact(hw w (ybh e)).2
def ctr_8 {ws:List (List Nat)} {f b:List Nat} (hw:∀w∈ws,Word w) (h:Ok8 b):Ok8 (ctr ws f b):=Ok8.rmap λi _=>zbS (h.getD i) (zsR _ _ hw i)
def zoP{k:Ky}(ht:k.t<=32)(n head m b:List Nat):(ziL k n head m b).length=k.t:=by
 unfold ziL;rw[yan,zdL];omega
def zql(k:Ky)(n head m b:List Nat):Ok8 (ziL k n head m b):=Ok8.take (zlf _ _ _) _
def znw{k:Ky}(ht:k.t<=32)(c:Nat)(m p:List Nat):(zc8 k c m p).length=(hdr k.kid c).length+p.length+k.t:=by
 unfold zc8;rw[yah,yah,zeG,zoP ht]
def seal_8{k:Ky}(hw:∀w∈k.ws,Word w){c:Nat}{m p:List Nat}(h:Ok8 p):Ok8 (zc8 k c m p):=((hdr_8 _ _).app (ctr_8 hw h)).app (zql _ _ _ _ _)
def zuA{k:Ky}(ht:k.t<=32)(h1:k.kid<18446744073709551616){c:Nat}(h2:c<18446744073709551616){m p:List Nat}(hp:p.length<=1000):openB k (zc8 k c m p) m = .ok p c:=by
 have hl:=znw ht c m p;have h0:parse (zc8 k c m p) = .ok k.kid c (hdr k.kid c).length:=by
  unfold zc8;rw[ybb];exact zux h1 h2 _
 unfold openB;rw[h0];dsimp only;rw[if_neg (λh=>h rfl),if_neg (by omega),if_neg (by omega)];have e1:(zc8 k c m p).take (hdr k.kid c).length=hdr k.kid c:=by
  unfold zc8;rw[ybb,List.take_left]
 have e2:((zc8 k c m p).drop (hdr k.kid c).length).take ((zc8 k c m p).length-(hdr k.kid c).length-k.t)=ctr k.ws (first (zbM k.salt c)) p:=by
  rw[hl];unfold zc8;rw[ybb,yc4,yb6 (by rw[zeG];omega)]
 have e3:(zc8 k c m p).drop ((zc8 k c m p).length-k.t)=ziL k (zbM k.salt c) (hdr k.kid c) m (ctr k.ws (first (zbM k.salt c)) p):=by
  rw[hl];unfold zc8;rw[List.drop_left' (by rw[yah,zeG];omega)]
 rw[e1,e2,e3,if_pos rfl,zvv]
def zvR{l:List Nat}(h8:Ok8 l){i:Nat}(hi:i<l.length)(h:i<8):(be (l.take i)*256%18446744073709551616) ||| l.getD i 0=be (l.take (i+1)):=by
 have h1:=zgk h8 (show i<=7 by omega);rw[zcd hi,zrl,yap (by omega),or256 _ _ (getD_lt h8 i)]
def zu8{lo:Nat}{H:Heap}{v:V}{l:List Nat}(hv:By lo H v l)(h8:Ok8 l)(hl:l.length<=8):Ok (sem T zcz [v]) H λr H'=>r = .int .u64 (be l:Nat)/\H'=H:=by
 refine zmd ?_;unfold zir uL uR uc uq ug;simp(disch:=omega)only[↓RD,RZ,eq_self,seval,hv.vlen];refine zaK (λi L H'=>L=[.int .u64 (be (l.take i):Nat),.int .i64 (i:Nat)]/\H'=H) l.length ?_ ?_ ?_
 ·exact⟨rfl,rfl⟩
 ·rintro i _ H' hi ⟨rfl,rfl⟩;obtain⟨p,hp,hld,-⟩:=zki hv (i:=(i:Nat)) (by omega) (by omega);have e1:=zvR h8 hi (by omega);have b1:=zgk h8 (show i<=8 by omega);have b2:=getD_lt h8 i;simp only[yav]at hld;have e2:be (l.take i)*256%18446744073709551616<18446744073709551616:=ybf _ (by decide);unfold zdZ uL uB uIM uK uc uq ug;simp(disch:=omega)only[↓RD,RZ,eq_self,seval,hp,hld,yav,e1];rfl
 ·rintro _ H' ⟨rfl,rfl⟩;unfold zdZ uL uB uIM uK uc uq ug;simp(disch:=omega)only[↓RD,RZ,eq_self,seval,ya7]
def nxt8(v:Nat)(i:Nat):Nat:=v/256 ^ (7-i)%256
def nxtS(x:List Nat)(v w i:Nat):List Nat:=(List.range 16).map λj=>if j<8 then (if j<i then nxt8 v j else x.getD j 0) else (if j-8<i then nxt8 w (j-8) else x.getD j 0)
def zeg(x:List Nat)(v w i:Nat):(nxtS x v w i).length=16:=by simp[nxtS]
def zuO{x:List Nat}(h:x.length=16)(v w:Nat):nxtS x v w 0=x:=by
 refine zon (by rw[zeg,h]) λi hi=>?_;rw[zeg]at hi;unfold nxtS;rw[zcU hi];split<;>rfl
def nxtS_all(x:List Nat)(v w:Nat):nxtS x v w 8=(List.range 8).map (nxt8 v)++(List.range 8).map (nxt8 w):=rfl
def zuP(x:List Nat)(v w:Nat){i:Nat}(h:i<8):((nxtS x v w i).set i (nxt8 v i)).set (8+i) (nxt8 w i)=nxtS x v w (i+1):=by
 refine zon (by simp[zeg]) λj hj=>?_;simp only[ybS,zeg]at hj;rw[yao,List.getElem?_set,List.getElem?_set];unfold nxtS;rw[zcU hj];simp only[ybS,yai,List.length_range];by_cases e:8+i=j
 ·subst e;rw[if_pos rfl,if_pos hj,if_neg (by omega),if_pos (by omega),show 8+i-8=i by omega];rfl
 ·rw[if_neg e];by_cases e2:i=j
  ·subst e2;rw[if_pos rfl,if_pos hj,if_pos h,if_pos (by omega)];rfl
  ·rw[if_neg e2,yaT,ybC hj];show(if j<8 then _ else _) = _;by_cases k:j<8
   ·rw[if_pos k,if_pos k];by_cases k2:j<i
    ·rw[if_pos k2,if_pos (by omega)]
    ·rw[if_neg k2,if_neg (by omega)]
   ·rw[if_neg k,if_neg k];by_cases k2:j-8<i
    ·rw[if_pos k2,if_pos (by omega)]
    ·rw[if_neg k2,if_neg (by omega)]
def zrO{l:List Nat}{i y:Nat}(h:i<l.length):splice (l.map by8) i [by8 y]=(l.set i y).map by8:=by
 rw[zkF _ _ _ (by rw[yai];exact h),ydh]
def cint8(n:Nat):IntKind.u8.wrap (n:Int)=((n%256:Nat):Int):=by rw[wrap_u8];rfl
def Next_ok{H:Heap}{x:List Nat}{n:Nat}(hx:x.length=16)(h8:Ok8 x)(hn:n<18446744073709551616) :
  Ok (sem T zcA [.agg (x.map by8),.int .u64 (n:Nat)]) H λres H'=>res = .agg ((zdS x n).map by8)/\Grow H H':=by
 refine zme ?_;unfold zis uL uS uT uB uO uA uR uK uc uq ug;refine zaQ (zfs (zb9 _) ?_);rw[zaB];have s1:=Grow.new H ⟨zab,x.map by8,none⟩;have g1:(H.new ⟨zab,x.map by8,none⟩).get H.next=some ⟨zab,x.map by8,none⟩:=zae _ _;have n1:(H.new ⟨zab,x.map by8,none⟩).next=H.next+1:=zaf _ _;generalize ha:H.next=a at *;generalize H.new _=H1 at *;refine zaQ (zfs (by rfl) ?_);have s2:=Grow.new H1 ⟨zab,[(),(),(),(),(),(),(),(),(),(),(),(),(),(),(),()],none⟩;have g2:(H1.new ⟨zab,[(),(),(),(),(),(),(),(),(),(),(),(),(),(),(),()],none⟩).get H1.next=some ⟨zab,[(),(),(),(),(),(),(),(),(),(),(),(),(),(),(),()],none⟩:=zae _ _;have n2:(H1.new ⟨zab,[(),(),(),(),(),(),(),(),(),(),(),(),(),(),(),()],none⟩).next=H1.next+1:=zaf _ _;have ga2:=(s2.same a (by omega)).trans g1;rw[zaB];generalize hb:H1.next=b at *;generalize H1.new _=H2 at *;have c1:By 0 H2 (.sl a 0 8 (.fix 16)) (x.take 8):=by
  refine⟨?_,λi hi=>?_,show(8:Nat)<=_ by decide⟩
  ·simp only[rcells,ga2,Option.bind_some];rw[if_pos (by rw[yai];omega),yaH,yb5,yan,ya8 (by omega)]
  ·simp only[V.pid,yab]at hi;omega
 have c2:By 0 H2 (.sl a 8 8 (.fix 8)) (x.drop 8):=by
  refine⟨?_,λi hi=>?_,show(8:Nat)<=_ by decide⟩
  ·simp only[rcells,ga2,Option.bind_some];rw[if_pos (by rw[yai];omega),ycH,yat,yam (by rw[yat,yai];omega),show x.length-8=8 by omega]
  ·simp only[V.pid,yab]at hi;omega
 have d1:=@zjx _ _ _ _ (zu8 c1 (h8.take 8) (by rw[yan];omega));have d2:=@zjx _ _ _ _ (zu8 c2 (h8.drop 8) (by rw[yat];omega));have v1:zav (.arr 16) 1 (.ptr a 0) none (some (.int .i64 8)) none=some (.sl a 0 8 (.fix 16)):=rfl;have v2:zav (.arr 16) 1 (.ptr a 0) (some (.int .i64 8)) none none=some (.sl a 8 8 (.fix 8)):=rfl;have l1:be (x.take 8)<18446744073709551616:=zgk h8 (n:=8) (by omega);have l2:be (x.drop 8)<18446744073709551616:=by
  have:=be_lt _ (h8.drop 8);rw[yat,hx]at this;exact this
 simp(disch:=omega)only[↓RD,RZ,eq_self,seval,v1,v2,d1,d2];have eW:IntKind.u64.wrap ((be (x.drop 8):Nat)+(n:Nat):Int)=(((be (x.drop 8)+n)%18446744073709551616:Nat):Int):=by rw[wrap_u64];rfl
 rw[eW];refine zax (Q:=λr H'=>r = .nrm [.int .u64 ((be (x.take 8)+(if 18446744073709551616<=be (x.drop 8)+n then 1 else 0))%18446744073709551616:Nat)]/\H'=H2) ?_ ?_
 ·refine zdu (λh=>?_) (λh=>?_)
  ·have hh:18446744073709551616<=be (x.drop 8)+n:=by omega
   have ew:IntKind.u64.wrap ((be (x.take 8):Nat)+1:Int)=(((be (x.take 8)+1)%18446744073709551616:Nat):Int):=by rw[wrap_u64];rfl
   rw[if_pos hh];simp(disch:=omega)only[↓RD,RZ,eq_self,seval,ew]
  ·have hh:¬18446744073709551616<=be (x.drop 8)+n:=by omega
   rw[if_neg hh,ybI,yap l1];simp(disch:=omega)only[↓RD,RZ,eq_self,seval]
 rintro _ H2 ⟨rfl,rfl⟩;generalize hV:(be (x.take 8)+(if 18446744073709551616<=be (x.drop 8)+n then 1 else 0))%18446744073709551616=v;have v8:v<18446744073709551616:=by rw[<-hV];exact ybf _ (by decide)
 generalize hW:(be (x.drop 8)+n)%18446744073709551616=w at *;have w8:w<18446744073709551616:=by rw[<-hW];exact ybf _ (by decide)
 simp(disch:=omega)only[↓RD,RZ,eq_self,seval,eW];refine zax (Q:=λz H'=>z = .ex 0 []/\H'.get a=some ⟨zab,(zdS x n).map by8,none⟩/\At1 a H2 H') ?_ ?_
 ·refine zaK (λi L H'=>L=[.int .i64 (i:Nat)]/\H'.get a=some ⟨zab,(nxtS x v w i).map by8,none⟩/\At1 a H2 H') 8 ?_ ?_ ?_
  ·exact⟨rfl,by rw[zuO hx];exact ga2,At1.refl _ _⟩
  ·rintro i _ H3 hi ⟨rfl,g3,s3⟩;have e1:(8:Int)*((i:Nat):Int)=((8*i:Nat):Int):=rfl;have e2:(56:Int)-((8*i:Nat):Int)=((8*(7-i):Nat):Int):=by omega
   have e3:∀u,shr u (8*(7-i))=u/256 ^ (7-i):=λu=>by rw[ziN,yaf,Nat.pow_mul]
   have e4:∀u:Nat,IntKind.u8.wrap ((u/256 ^ (7-i):Nat):Int)=((nxt8 u i:Nat):Int):=λu=>cint8 _;have e5:(8:Int)+((i:Nat):Int)=((8+i:Nat):Int):=rfl;have m1:=zrO (l:=nxtS x v w i) (i:=i) (y:=nxt8 v i) (by rw[zeg];omega);have m2:=zrO (l:=(nxtS x v w i).set i (nxt8 v i)) (i:=8+i) (y:=nxt8 w i) (by rw[ybS,zeg];omega);have k1:((nxtS x v w i).map by8).length=16:=by rw[yai,zeg]
   have k2:(((nxtS x v w i).set i (nxt8 v i)).map by8).length=16:=by rw[yai,ybS,zeg]
   rw[zuP _ _ _ hi]at m2;unfold zd0 uL uT uB uI uK uc ug;replace m1:splice ((nxtS x v w i).map by8) i [.int .u8 (nxt8 v i:Nat)] = _:=m1;replace m2:splice (((nxtS x v w i).set i (nxt8 v i)).map by8) (8+i) [.int .u8 (nxt8 w i:Nat)] = _:=m2;simp(disch:=omega)only[↓RD,RZ,eq_self,seval,e1,e2,e3,e4,e5,g3,m1,m2,k1,k2];exact⟨by omega,by omega,rfl,s3.trans ((At1.set a _ _).trans (At1.set a _ _))⟩
  ·rintro _ H3 ⟨rfl,g3,s3⟩;unfold zd0 uL uT uB uI uK uc ug;simp(disch:=omega)only[↓RD,RZ,eq_self,seval];refine⟨?_,s3⟩;rw[g3,nxtS_all];unfold zdS;rw[hV,hW];rfl
 ·rintro _ H3 ⟨rfl,g3,s3⟩;have n3:=s3.next;have gb3:=(s3.same b (by omega) (by omega)).trans g2;have hl:(zdS x n).length=16:=by simp[zdS]
  have l1:=ld16 hl;have l2:=sp16 hl (L:=[(),(),(),(),(),(),(),(),(),(),(),(),(),(),(),()]) rfl;have l3:=zgK hl;simp(disch:=omega)only[↓RD,RZ,eq_self,seval,g3,l1,gb3,zb9,zaB,l2,l3];exact⟨by rw[zak];omega,λi hi=>by rw[zag _ _ (by omega),s3.same i (by omega) (by omega),s2.same i (by omega),s1.same i (by omega)]⟩
def zuR(x:List Nat)(n:Nat):(zdS x n).length=16:=by simp[zdS]
def nextb_8(x:List Nat)(n:Nat):Ok8 (zdS x n):=(Ok8.rmap λi _=>ybf _ (by decide)).app (Ok8.rmap λi _=>ybf _ (by decide))
def zrr (ws:List (List Nat)) (x:List Nat):(aes ws x).length=16:=zcD _ _ _
def aes_8 {ws:List (List Nat)} (hw:∀w∈ws,Word w) (x:List Nat):Ok8 (aes ws x):=zsb hw (zmZ _)
def zfG{α:Type}{c:V}{x y:M α}{H:Heap}{Q:α->Heap->Prop}:@OkI α c H ⟨x⟩ ⟨y⟩ ⟨Q⟩=Ok (M.ite c x y) H Q:=rfl
def zp7{H:Heap}{k n:Nat} {ws:List (List Nat)} {f:List Nat} {F:V->M Res} {Q:Res->Heap->Prop} (hA:Aes H k ws) (hf:f.length=16) (f8:Ok8 f) (hwl:ws.length<=1000) (hw4:ws.length%4=0) (hw8:8<=ws.length) (hn:n<18446744073709551616)
  (h:∀H',Grow H H'->Ok (F (.agg ((aes ws (zdS f n)).map by8))) H' Q):Ok ((sem T zcA [.agg (f.map by8),.int .u64 (n:Nat)]).bind λt43=>(sem T zbx [.ptr k 0,t43]).bind F) H Q:=by
 refine zam (Next_ok hf f8 hn) ?_;rintro _ H1 ⟨rfl,s1⟩;refine zam (Block_ok (hA.grow s1) (zuR _ _) (nextb_8 _ _) hwl hw4 hw8) ?_;rintro _ H2 ⟨rfl,s2⟩;exact h _ (s1.trans s2)
def Fx(o:Option Nat)(lo:Nat)(H:Heap)(v:V)(l:List Nat):Prop:=∃id,v = .sl id 0 l.length (.fix l.length)/\H.get id=some ⟨zad,l.map by8,o⟩/\lo<=id/\id<H.next
def Fx.low{o:Option Nat}{lo lo':Nat}{H:Heap}{v:V}{l:List Nat}(h:Fx o lo H v l)(hl:lo'<=lo):Fx o lo' H v l:=by
 obtain⟨id,h1,h2,h3,h4⟩:=h;exact⟨id,h1,h2,yaA hl h3,h4⟩
def Fx.by{o:Option Nat}{lo:Nat}{H:Heap}{v:V}{l:List Nat}(h:Fx o lo H v l):By lo H v l:=by
 obtain⟨id,rfl,h2,h3,h4⟩:=h;refine⟨?_,λi hi=>by injection hi with hi;subst hi;exact⟨h3,h4⟩,yaj _⟩;simp only[rcells,h2,Option.bind_some];rw[if_pos (by rw[yai];omega),yaH,yam (by rw[yai];omega)]
def Crypt_x{lo:Nat}{H:Heap}{k:Nat} {ws:List (List Nat)} {bv:V} {f l:List Nat} (hA:Aes H k ws) (hf:f.length=16) (f8:Ok8 f) (hv:By lo H bv l) (h8:Ok8 l) (hwl:ws.length<=1000) (hw4:ws.length%4=0) (hw8:8<=ws.length) (hl:l.length<=1099511627776) :
  Ok (sem T zcV [.ptr k 0,.agg (f.map by8),.int .i64 0,bv]) H λres H'=>∃r,res = .tup [r,.int .i64 0]/\Fx none H.next H' r (ctr ws f l)/\Grow H H':=by
 have hw:∀w∈ws,Word w:=by obtain⟨_,_,_,_,_,hw⟩:=hA;exact hw
 have cl:=zeG ws f l;refine zkZ ?_;unfold zgQ uL uB uG uH uO uR uc;refine zaQ (zfs (zb9 _) ?_);rw[zaB];have s1:=Grow.new H ⟨zab,f.map by8,none⟩;have g1:(H.new ⟨zab,f.map by8,none⟩).get H.next=some ⟨zab,f.map by8,none⟩:=zae _ _;have n1:(H.new ⟨zab,f.map by8,none⟩).next=H.next+1:=zaf _ _;generalize ha:H.next=a at *;generalize H.new _=H1 at *;simp(disch:=omega)only[↓RD,RZ,hv.vlen];refine⟨⟨by omega,by omega,by omega,by omega⟩,?_⟩;rw[zeros1,yav];have s2:=Grow.new H1 ⟨zad,List.replicate l.length (.int .u8 0),none⟩;have g2:(H1.new ⟨zad,List.replicate l.length (.int .u8 0),none⟩).get H1.next=some ⟨zad,List.replicate l.length (.int .u8 0),none⟩:=zae _ _;have n2:(H1.new ⟨zad,List.replicate l.length (.int .u8 0),none⟩).next=H1.next+1:=zaf _ _;have ga2:=(s2.same a (by omega)).trans g1;generalize hb:H1.next=b at *;generalize H1.new _=H2 at *;generalize hc:b+1=c at *;have s3:=Grow.new H2 ⟨zab,[(),(),(),(),(),(),(),(),(),(),(),(),(),(),(),()],none⟩;have g3:(H2.new ⟨zab,[(),(),(),(),(),(),(),(),(),(),(),(),(),(),(),()],none⟩).get H2.next=some ⟨zab,(List.replicate 16 0).map by8,none⟩:=zae _ _;have n3:(H2.new ⟨zab,[(),(),(),(),(),(),(),(),(),(),(),(),(),(),(),()],none⟩).next=H2.next+1:=zaf _ _;have ga3:=(s3.same a (by omega)).trans ga2;have gb3:=(s3.same b (by omega)).trans g2;rw[n2]at g3 n3;generalize H2.new _=H3 at *;have s03:Grow H H3:=(s1.trans s2).trans s3;have hv3:=hv.ext s03;refine zax (Q:=λz H'=>z = .ex 0 []/\H'.get b=some ⟨zad,(ctr ws f l).map by8,none⟩/\Grow H H'/\c<H'.next) ?_ ?_
 ·refine zaK (λi L H'=>L=[.int .i64 (i:Nat)]/\H'.get a=some ⟨zab,f.map by8,none⟩/\H'.get b=some ⟨zad,((ctr ws f l).take i).map by8++List.replicate (l.length-i) (.int .u8 0),none⟩/\H'.get c=some ⟨zab,(if i=0 then List.replicate 16 0 else aes ws (zdS f ((i-1)/16))).map by8,none⟩/\Grow H H'/\c<H'.next) l.length ?_ ?_ ?_
  ·exact⟨rfl,ga3,by simpa using gb3,g3,s03,by omega⟩
  ·rintro i _ H4 hi ⟨rfl,ga4,gb4,gc4,s4,n4⟩;have hv4:=hv.ext s4;generalize hy:(if i=0 then List.replicate 16 0 else aes ws (zdS f ((i-1)/16)))=y at *;have yl:y.length=16:=by rw[<-hy];split;exact yaL ..;exact zrr _ _
   have e1:(((i:Nat):Int)%16==0)=decide (i%16=0):=by
    by_cases h:i%16=0
    ·rw[decide_eq_true h,show((i:Nat):Int)%16=0 by omega];rfl
    ·rw[decide_eq_false h];have:¬((i:Nat):Int)%16=0:=by omega
     simpa using this
   have e2:(((i:Nat):Int)==0)=decide (i=0):=by
    by_cases h:i=0
    ·rw[decide_eq_true h,h];rfl
    ·rw[decide_eq_false h];have:¬((i:Nat):Int)=0:=by omega
     simpa using this
   have l1:=ld16 hf;unfold zdA uL uS uT uB uI uIM uG uH uA uK uc ug;simp(disch:=omega)only[↓RD,RZ,e1,e2,ycw];rw[zb1];refine zax (α:=Res) (Q:=λr H'=>r = .nrm []/\∃H5,Grow H H5/\c<H5.next/\H5.get a=H4.get a/\H5.get b=H4.get b/\H5.get c=some ⟨zab,(aes ws (zdS f (i/16))).map by8,none⟩/\H'=H5.set b (some ⟨zad,((ctr ws f l).take (i+1)).map by8++List.replicate (l.length-(i+1)) (.int .u8 0),none⟩)) ?_ ?_
   ·have rest:∀H5,Grow H H5->c<H5.next->H5.get a=H4.get a->H5.get b=H4.get b->H5.get c=some ⟨zab,(aes ws (zdS f (i/16))).map by8,none⟩ ->
      Ok ((M.lift (Ax.iaddr none 1 bv (.int .i64 (i:Nat)))).bind λt49=>
       (mload none t49).bind λt50=>
       (M.lift (Ax.bin .add (.int .i64 0) (.int .i64 (i:Nat)))).bind λt53=>
       (M.lift (Ax.bin .rem t53 (V.int .i64 16))).bind λt54=>
       (M.lift (Ax.iaddr (some 16) 1 (.ptr c 0) t54)).bind λt55=>
       (mload none t55).bind λt56=>
       (M.lift (Ax.bin .xor t50 t56)).bind λt57=>
       (M.lift (Ax.iaddr none 1 (.sl b 0 l.length (.fix l.length)) (.int .i64 (i:Nat)))).bind λt58=>
       (mstore 1 t58 t57).bind λ_=>
       M.pure (Res.nrm [])) H5 λr H'=>r=Res.nrm []/\H'=H5.set b (some ⟨zad,((ctr ws f l).take (i+1)).map by8++List.replicate (l.length-(i+1)) (.int .u8 0),none⟩):=by
     intro H5 g5 m5 a5 b5 c5;have hv5:=hv.ext g5;obtain⟨p,hp,hld,-⟩:=zki hv5 (i:=(i:Nat)) (by omega) (by omega);simp only[yav]at hld;rw[gb4]at b5;have q1:=getD_lt h8 i;have hk:=aes_8 hw (zdS f (i/16));have hkl:=zrr ws (zdS f (i/16));have q2:=bg (l:=aes ws (zdS f (i/16))) (i:=i%16) (by omega);have q3:=zmP q1 (hk.getD (i%16));have q4:l.getD i 0 ^^^ (aes ws (zdS f (i/16))).getD (i%16) 0=(ctr ws f l).getD i 0:=(znR hi).symm;rw[q4]at q3;have hl0:(((ctr ws f l).take i).map by8).length=i:=by rw[yai,yan];omega
     have x0:=zbm (z:=.int .u8 0) (x:=by8 ((ctr ws f l).getD i 0)) hl0 hi;have ml:(((ctr ws f l).take i).map by8++List.replicate (l.length-i) (V.int .u8 0)).length=l.length:=by rw[yah,hl0,yaL];omega
     have ei:((i:Nat):Int)%16=((i%16:Nat):Int):=by omega
     have em:=ybf i (show 0<16 by decide);have et:((ctr ws f l).take i).map by8++[by8 ((ctr ws f l).getD i 0)]=((ctr ws f l).take (i+1)).map by8:=by rw[zcd (by omega)];simp
     rw[et]at x0;replace q3:Ax.bin .xor (.int .u8 (l.getD i 0:Nat)) (by8 ((aes ws (zdS f (i/16))).getD (i%16) 0)) = _:=q3;simp(disch:=omega)only[↓RD,RZ,hp,hld,ycw,ei,c5,q2,q3,b5,x0,ml,ze3,zbL];omega
    have ln:=zrr ws (zdS f (i/16));have l2:=ld16 ln;have l3:=sp16 ln (L:=y.map by8) (by rw[yai,yl]);have l4:=zgK ln;have e4:((i:Nat):Int)/16=((i/16:Nat):Int):=by omega
    have l5:(y.map by8).length=16:=by rw[yai,yl]
    by_cases h0:i=0
    ·have e3:decide (i=0)=true:=decide_eq_true h0;simp(disch:=omega)only[↓RD,RZ,e1,e2,e3,ycw,ga4,l1,e4];rw[zb1];refine zp7 (hA.grow s4) hf f8 hwl hw4 hw8 (by omega) λH5 s5=>?_;have n5:=s5.next;have ga5:=s5.same a (by omega);have gb5:=s5.same b (by omega);have gc5:=(s5.same c (by omega)).trans gc4;simp(disch:=first|omega|(simp only[RY]<;>omega)|decide)only[↓RD,RZ,eq_self,Int.reduceToNat,Int.reduceAdd,Nat.reduceAdd,Nat.reduceSub,Nat.reduceMul,Nat.reduceLeDiff,gc5,zb9,zaB,l3,l4,l5];rw[zb1];refine zax (rest (H5.set c (some ⟨zab,(aes ws (zdS f (i/16))).map by8,none⟩)) ((s4.trans s5).set (by omega) _) (by rw[zak];omega) (by rw[zag _ _ (by omega)];exact ga5) (by rw[zag _ _ (by omega)];exact gb5) (zaj _ _ _)) ?_;rintro _ _ ⟨rfl,rfl⟩;exact⟨rfl,_,(s4.trans s5).set (by omega) _,by rw[zak];omega,by rw[zag _ _ (by omega)];exact ga5,by rw[zag _ _ (by omega)];exact gb5,zaj _ _ _,rfl⟩
    ·have e3:decide (i=0)=false:=decide_eq_false h0;simp(disch:=omega)only[↓RD,RZ,e1,e2,e3,ycw];rw[zfG];refine zdu (λh=>?_) (λh=>?_)
     ·simp(disch:=omega)only[↓RD,RZ,ga4,l1,e4,ycw];rw[zb1];refine zp7 (hA.grow s4) hf f8 hwl hw4 hw8 (by omega) λH5 s5=>?_;have n5:=s5.next;have ga5:=s5.same a (by omega);have gb5:=s5.same b (by omega);have gc5:=(s5.same c (by omega)).trans gc4;simp(disch:=first|omega|(simp only[RY]<;>omega)|decide)only[↓RD,RZ,eq_self,Int.reduceToNat,Int.reduceAdd,Nat.reduceAdd,Nat.reduceSub,Nat.reduceMul,Nat.reduceLeDiff,gc5,zb9,zaB,l3,l4,l5];rw[zb1];refine zax (rest (H5.set c (some ⟨zab,(aes ws (zdS f (i/16))).map by8,none⟩)) ((s4.trans s5).set (by omega) _) (by rw[zak];omega) (by rw[zag _ _ (by omega)];exact ga5) (by rw[zag _ _ (by omega)];exact gb5) (zaj _ _ _)) ?_;rintro _ _ ⟨rfl,rfl⟩;exact⟨rfl,_,(s4.trans s5).set (by omega) _,by rw[zak];omega,by rw[zag _ _ (by omega)];exact ga5,by rw[zag _ _ (by omega)];exact gb5,zaj _ _ _,rfl⟩
     ·have ey:y=aes ws (zdS f (i/16)):=by rw[<-hy,if_neg h0,show(i-1)/16=i/16 by omega]
      rw[ey]at gc4;simp(disch:=omega)only[↓RD,RZ];rw[zb1];refine zax (rest H4 s4 n4 rfl rfl gc4) ?_;rintro _ _ ⟨rfl,rfl⟩;exact⟨rfl,_,s4,n4,rfl,rfl,gc4,rfl⟩
   ·rintro _ _ ⟨rfl,H5,s5,n5,ga5,gb5,gc5,rfl⟩;simp(disch:=omega)only[↓RD,RZ];refine⟨rfl,ga5.trans ga4,?_,s5.set (by omega) _,n5⟩;rw[gc5,if_neg (by omega),show i+1-1=i by omega]
  ·rintro _ H4 ⟨rfl,ga4,gb4,gc4,s4,n4⟩;unfold zdA uL uS uT uB uI uIM uG uH uA uK uc ug;simp(disch:=omega)only[↓RD,RZ];refine⟨?_,s4,n4⟩;rw[gb4,yam (by omega)];simp
 ·rintro _ H4 ⟨rfl,gb4,s4,n4⟩;simp(disch:=omega)only[↓RD,RZ];refine⟨_,rfl,⟨b,?_,gb4,by omega,by omega⟩,s4⟩;rw[cl]
def App.same{ty e lo n:Nat}{H H':Heap}{v:V}{cells:List V}(h:App ty e lo H v cells n)(hn:H.next<=H'.next)(hs:∀i,v.pid=some i->H'.get i=H.get i):App ty e lo H' v cells n:=by
 cases h with
 | opn h ho=>exact .opn (h.to hs) λi hi=>⟨(ho i hi).1,yaq (ho i hi).2 hn⟩
 | lit h h0 h1=>exact .lit (by rw[hs _ rfl,h]) h0 (yaq h1 hn)
def Kst(H:Heap)(k:Nat)(w:V) (ws:List (List Nat)):Prop:=H.get k=some ⟨zcc,tabC true++[w],none⟩/\App zaz 4 (k+1) H w (ws.flatten.map by8) ws.length/\k<H.next
def ztM(wv x:V):splice (tabC true++[wv]) 259 [x]=tabC true++[x]:=by
 have e:(tabC true).length=259:=by unfold tabC;simp only[yaw,yai,zhI]
 unfold splice;rw[ybD (by omega),yam (by omega),yaS (by rw[yah,e];exact yaj _),yaN]
def len260(wv:V):(tabC true++[wv]).length=260:=by
 have e:(tabC true).length=259:=by unfold tabC;simp only[yaw,yai,zhI]
 rw[yah,e];rfl
def _root_.Go.Ax.Lc.same{e lo n:Nat}{H H':Heap}{v:V}{cells:List V}(h:Lc e lo H v cells n)(hn:H.next<=H'.next)(hs:∀i,v.pid=some i->H'.get i=H.get i):Lc e lo H' v cells n:=
 ⟨by rw[zfC hs];exact h.rc,λi hi=>⟨(h.own i hi).1,yaq (h.own i hi).2 hn⟩,h.cap⟩
def Kst.expl{H:Heap}{k:Nat}{w:V} {ws:List (List Nat)} (h:Kst H k w ws) (h0:0<ws.length):∃id,w = .sl id 0 ws.length (.opn 4)/\H.get id=some ⟨zaz,ws.flatten.map by8,some 4⟩/\k<id/\id<H.next:=by
 obtain⟨h1,h2,h3⟩:=h;cases hn:ws.length with
 | zero=>omega
 | succ n=>
  rw[hn]at h2;generalize ws.flatten.map by8=cs at *;cases h2 with
  | opn h ho=>
   rcases h with⟨_,_,h⟩|⟨id,rfl,hg,hl⟩
   ·omega
   ·exact⟨id,rfl,hg,(ho id rfl).1,(ho id rfl).2⟩
def kpush{H:Heap}{k:Nat}{w:V} {ws:List (List Nat)} {a b c d:Nat} {F:V->M Res} {Q:Res->Heap->Prop} (hk:Kst H k w ws) (hl:ws.length<=1000)
  (h:∀w' H',Kst H' k w' (ws++[[a,b,c,d]])->Bel k H H'->Ok (F .undef) H' Q) :
  Ok ((mappend zaz 4 4 w (.sl H.next 0 1 (.fix 1))).bind λt45=>
   (M.lift (Ax.nilck (.ptr k 0))).bind λt46=>
   (M.lift (Ax.faddr 259 t46)).bind λt47=>
   (mstore 1 t47 t45).bind F) (H.new ⟨zaz,[by8 a,by8 b,by8 c,by8 d],none⟩) Q:=by
 obtain⟨h1,h2,h3⟩:=hk;have s1:=Grow.new H ⟨zaz,[by8 a,by8 b,by8 c,by8 d],none⟩;have n1:(H.new ⟨zaz,[by8 a,by8 b,by8 c,by8 d],none⟩).next=H.next+1:=zaf _ _;have g1:=(s1.same k h3).trans h1;have ac:acells 4 (H.new ⟨zaz,[by8 a,by8 b,by8 c,by8 d],none⟩) (.sl H.next 0 1 (.fix 1))=some ([by8 a,by8 b,by8 c,by8 d],1):=zep rfl;have h2':App zaz 4 (k+1) (H.new ⟨zaz,[by8 a,by8 b,by8 c,by8 d],none⟩) w (ws.flatten.map by8) ws.length:=App.keep h2 (s1.keep _);generalize hid:H.next=id at *;generalize H.new _=H1 at *;refine zqI h2' (by omega) ac rfl (by omega) (by omega) λw' H2 a2 st=>?_;have n2:=st.next;have hpw:∀i,i∈w.pid.toList->k+1<=i:=λi hi=>(h2'.lc.own i (by simpa [znM]using hi)).1;have b2:Bel (k+1) H1 H2:=⟨st.next,λi hi=>by
  by_cases hin:i<H1.next
  ·exact st.same i hin λe=>by have:=hpw i e;omega
  ·omega⟩
 have g2:H2.get k = _:=(b2.same k (by omega)).trans g1;have sp:=ztM w w';have ln:=len260 w;simp(disch:=omega)only[↓RD,RZ,eq_self,seval,g2,sp,ln,a2.lc.cells1,a2.lc.okc];refine h w' _ ⟨zaj _ _ _,?_,by rw[zak];omega⟩ ⟨by rw[zak];omega,λi hi=>?_⟩
 ·have:(ws++[[a,b,c,d]]).flatten.map by8=ws.flatten.map by8++[by8 a,by8 b,by8 c,by8 d]:=by simp
  rw[this,yah];refine App.same a2 (by rw[zak];exact yaj _) λi hi=>zag _ _ ?_;have:=(a2.lc.own i hi).1;omega
 ·rw[zag _ _ (by omega),b2.same i (by omega),s1.same i (by omega)]
def s2a_ok{lo:Nat}{H:Heap}{v:V}{l:List Nat}(hv:By lo H v l)(hl:4<=l.length):∃p,op1 (.s2a 4) v=some p/\LdR (some 4) H p (.agg ((l.take 4).map by8)):=by
 have hlen:=hv.len;rw[yai,ybc]at hlen;rcases hv.cases with⟨_,_,hn⟩|⟨id,off,cap,b,rfl,hb,hle,hc⟩|⟨cs,rfl,hle,hc⟩
 ·omega
 ·refine⟨.ptr id off,by simp only[op1];rw[if_pos ⟨hl,by decide⟩],?_⟩;have h1:=(pl_ptr (H:=H) (off:=off) (m:=4) hb (by omega)).all;have e:(b.cells.drop off).take 4=(l.take 4).map by8:=by
   rw[yb5,hc,ybE,ybc,ya8 hl]
  rw[e,yai,yan,ya8 hl]at h1;exact h1
 ·refine⟨.rp cs 0,by simp only[op1];rw[if_pos ⟨hl,by decide⟩],?_⟩;have h1:=(pl_rp (H:=H) (cs:=cs) (off:=0) (m:=4) (by omega)).all;have e:(cs.drop 0).take 4=(l.take 4).map by8:=by
   rw[yb5,hc,ybE,yaH,ybc,ya8 hl]
  rw[e,yai,yan,ya8 hl]at h1;exact h1
def four{l:List Nat}(h:l.length=4):∃a b c d,l=[a,b,c,d]:=by
 match l,h with
 | [a,b,c,d],_=>exact⟨a,b,c,d,rfl⟩
def xw(s p:List Nat):List Nat:=(List.range 4).map λj=>s.getD j 0 ^^^ p.getD j 0
def zru(s p:List Nat):(xw s p).length=4:=by simp[xw]
def zu0(b:List Nat)(n i:Nat):kw b n (i+1)=kw b n i++[if i<n then (b.drop (4*i)).take 4 else xw (zmn n i ((kw b n i).getD (i-1) [])) ((kw b n i).getD (i-n) [])]:=rfl
def New_1_ok{H:Heap}{k q id i j:Nat} {ws:List (List Nat)} {s:List Nat} {u2 u3 u8:V} (hw:∀w∈ws,Word w) (hs:Word s) (hgk:H.get k=some ⟨zcc,tabC true++[.sl id 0 ws.length (.opn 4)],none⟩) (hgi:H.get id=some ⟨zaz,ws.flatten.map by8,some 4⟩)
  (hq:H.get q=some ⟨zaz,s.map by8,none⟩) (hqk:q≠k) (hqi:q≠id) (hkl:k<H.next) (hil:id<H.next) (hj:j<=i) (hi:i<=ws.length) (hj0:0<j) (hwl:ws.length<=1000) :
  Ok (M.iter (zdN (sem T) (.ptr k 0) (.int .i64 (i:Nat)) (.int .i64 (j:Nat)) (.ptr q 0) u2 u3 u8) [.int .i64 0]) H λz H'=>z = .ex 5 []/\H'.get q=some ⟨zaz,(xw s (ws.getD (i-j) [])).map by8,none⟩/\At1 q H H':=by
 refine zaK (λm L H'=>L=[.int .i64 (m:Nat)]/\H'.get q=some ⟨zaz,((xw s (ws.getD (i-j) [])).take m++s.drop m).map by8,none⟩/\At1 q H H') 4 ?_ ?_ ?_
 ·exact⟨rfl,by simpa using hq,At1.refl _ _⟩
 ·rintro m _ H3 hm ⟨rfl,g3,s3⟩;have sl:=hs.1;have gk3:=(s3.same k hkl (by omega)).trans hgk;have gi3:=(s3.same id hil (by omega)).trans hgi;have hA':(((xw s (ws.getD (i-j) [])).take m).map by8).length=m:=by rw[yai,yan,zru];omega
  rw[ztG (by omega)]at g3;have m1:=znL (b:=by8 (s.getD m 0)) (C:=(s.drop (m+1)).map by8) hA';have m2:=znK (b:=by8 (s.getD m 0)) (y:=by8 ((xw s (ws.getD (i-j) [])).getD m 0)) (C:=(s.drop (m+1)).map by8) hA';have ml:(((xw s (ws.getD (i-j) [])).take m).map by8++by8 (s.getD m 0)::(s.drop (m+1)).map by8).length=4:=by rw[yah,hA',yaw,yai,yat];omega
  have ek:=zpr (.sl id 0 ws.length (.opn 4));have e1:((i:Nat):Int)-((j:Nat):Int)=((i-j:Nat):Int):=by omega
  have wb:=zoH hw (j:=i-j) (m:=m) (by omega) hm;have ex:=zmP (hs.2.getD m) (ztB hw (i-j) m);have ea:s.getD m 0 ^^^ (ws.getD (i-j) []).getD m 0=(xw s (ws.getD (i-j) [])).getD m 0:=by unfold xw;rw[zcU hm]
  rw[ea]at ex;unfold zdN uT uNFM uB uI uIM uK uc ug;simp(disch:=omega)only[↓RD,RZ,g3,m1,gk3,ek,e1,gi3,wb,ex,m2,ml,ze3,zbL];refine⟨by omega,rfl,?_,s3.trans (At1.set q _ _)⟩;rw[zqj (by rw[zru];omega)]
 ·rintro _ H3 ⟨rfl,g3,s3⟩;have sl:=hs.1;unfold zdN uT uNFM uB uI uIM uK uc ug;simp(disch:=omega)only[↓RD,RZ];refine⟨?_,s3⟩;rw[g3,yam (by rw[zru];omega),yaS (by omega),yaN]
def New_rest{lo:Nat}{H:Heap}{k n:Nat}{v:V}{l:List Nat}(hv:By lo H v l)(h8:Ok8 l)(hn:n=4\/n=8)(hl:l.length=4*n)(hvk:∀i,v.pid=some i->i<k) (hk:H.get k=some ⟨zcc,tabC true++[.nils],none⟩) (hkl:k<H.next) :
  Ok (M.blk 0 (M.iter (zc4 (sem T) (.int .i64 (n:Nat)) (.ptr k 0) v .nilp (.int .i64 0)) [.int .i64 0]) λ_=>
   M.blk 2 (M.iter (zc3 (sem T) (.ptr k 3) (.int .i64 (n:Nat)) (.ptr k 0) .nilp (.int .i64 0)) [.int .u8 1,.int .i64 (n:Nat)]) λ_=>
   M.pure (.ret [.ptr k 0,.int .i64 0])) H λr H'=>r = .ret [.ptr k 0,.int .i64 0]/\AesB k H' k (kw l n (4*(n+7)))/\Bel k H H':=by
 have hn0:0<n:=by omega
 have hwd:∀i,∀w∈kw l n i,Word w:=λi=>zuZ hn0 h8 hl i;simp(disch:=omega)only[↓RD,RZ];refine zax (Q:=λz H'=>z = .ex 0 []/\∃w,Kst H' k w (kw l n n)/\Bel k H H') ?_ ?_
 ·refine zaK (λi L H'=>L=[.int .i64 (i:Nat)]/\∃w,Kst H' k w (kw l n i)/\Bel k H H') n ?_ ?_ ?_
  ·exact⟨rfl,.nils,⟨hk,App.nil,hkl⟩,Bel.refl _ _⟩
  ·rintro i _ H1 hi ⟨rfl,w,hw,b1⟩;have hv1:By lo H1 v l:=hv.same b1.next λj hj=>b1.same j (hvk j hj);obtain⟨v',-,-,hs,hv',-⟩:=zbE hv1 (x:=((4*i:Nat):Int)) (y:=(l.length:Nat)) (by omega) (by omega) (by omega);have hs:=hs rfl (k:=.i64);rw[yav,yav,yam (by rw[yat];omega)]at hv';obtain⟨p,hp,hld⟩:=s2a_ok hv' (by rw[yat];omega);obtain⟨a,b,c,d,e4⟩:=four (l:=(l.drop (4*i)).take 4) (by rw[yan,yat];omega);rw[e4]at hld;replace hld:LdR (some 4) H1 p (.agg [by8 a,by8 b,by8 c,by8 d]):=hld;have e1:(4:Int)*((i:Nat):Int)=((4*i:Nat):Int):=rfl;have ek:=zpr w;have g1:=hw.1;unfold zc4 uL uS uT uNFM uNF uB uK uc ub ug;simp(disch:=first|omega|(simp only[RY]<;>omega)|decide)only[↓RD,RZ,eq_self,Int.reduceToNat,Int.reduceAdd,Nat.reduceAdd,Nat.reduceSub,Nat.reduceMul,Nat.reduceLeDiff,g1,ek,e1,hs,hp,hld];rw[zb1];refine kpush hw (by rw[zhV];omega) λw' H2 hw' b2=>?_;simp(disch:=omega)only[↓RD,RZ];refine⟨rfl,w',?_,b1.trans b2⟩;rw[zu0,if_pos hi,e4];exact hw'
  ·rintro _ H1 ⟨rfl,w,hw,b1⟩;unfold zc4 uL uS uT uNFM uNF uB uK uc ub ug;simp(disch:=omega)only[↓RD,RZ];exact⟨w,hw,b1⟩
 ·rintro _ H1 ⟨rfl,w,hw,b1⟩;simp(disch:=omega)only[↓RD,RZ];refine zax (Q:=λz H'=>z = .ex 2 []/\∃w,Kst H' k w (kw l n (4*(n+7)))/\Bel k H H') ?_ ?_
  ·refine zaK (λj L H'=>L=[by8 (rcon ((n+j-1)/n)),.int .i64 ((n+j:Nat):Int)]/\∃w,Kst H' k w (kw l n (n+j))/\Bel k H H') (4*(n+7)-n) ?_ ?_ ?_
   ·refine⟨?_,w,hw,b1⟩;rw[ybI,ybY (by omega)];rfl
   ·rintro j _ H2 hj ⟨rfl,w2,hw2,b2⟩;obtain⟨i,hi⟩:∃i,n+j=i:=⟨_,rfl⟩;rw[show n+(j+1)=i+1 by omega];rw[hi]at hw2 ⊢;have e1:(((n:Nat):Int)+6+1)*4=((4*(n+7):Nat):Int):=by omega
    have e1':(4:Int)*(((n:Nat):Int)+6+1)=((4*(n+7):Nat):Int):=by omega
    have e2:((i:Nat):Int)-1=((i-1:Nat):Int):=by omega
    have hwl:=zhV l n i;obtain⟨id,hwe,gi2,hid,hid2⟩:=hw2.expl (by omega);rw[hwl]at hwe;subst hwe;have ek:=zpr (.sl id 0 i (.opn 4));have g2:=hw2.1;have hil:i<4*(n+7):=by omega
    obtain⟨sw,hsw⟩:∃sw,(kw l n i).getD (i-1) []=sw:=⟨_,rfl⟩;have hsm:(kw l n i)[i-1]?=some sw:=by rw[<-hsw,yao,yag (by omega)];rfl
    have hsW:Word sw:=hwd i sw (ybh hsm);obtain⟨a,b,c,d,e4⟩:=four hsW.1;have hld:ldc (some 4) ((kw l n i).flatten.map by8) (4*(i-1))=some (.agg [by8 a,by8 b,by8 c,by8 d]):=by
     rw[List.map_flatten];have:=ldc_flat (es:=(kw l n i).map (List.map by8)) (k:=4) (i:=i-1) (x:=sw.map by8) (λx hx=>by
      obtain⟨y,hy,rfl⟩:=ybp.1 hx;rw[yai];exact(hwd i y hy).1) (by rw[yaT,hsm];rfl)
     rw[ydf,this,e4];rfl
    have hld':=hld;rw[ydf]at hld';unfold zc3 uL uS uT uNFM uNF uN uB uI uIM uG uH uO uA uK uc ug;simp(disch:=first|omega|(simp only[RY]<;>omega)|decide)only[↓RD,RZ,eq_self,Int.reduceToNat,Int.reduceAdd,Nat.reduceAdd,Nat.reduceSub,Nat.reduceMul,Nat.reduceLeDiff,e1,e1',e2,g2,ek,gi2,hld,hld'];have s3:At1 H2.next H2 ((H2.new ⟨zaz,[(),(),(),()],none⟩).set H2.next (some ⟨zaz,[by8 a,by8 b,by8 c,by8 d],none⟩)):=((Grow.new _ _).at1 _).trans (At1.set _ _ _);have gq3:((H2.new ⟨zaz,[(),(),(),()],none⟩).set H2.next (some ⟨zaz,[by8 a,by8 b,by8 c,by8 d],none⟩)).get H2.next = _:=zaj _ _ _;have n3:((H2.new ⟨zaz,[(),(),(),()],none⟩).set H2.next (some ⟨zaz,[by8 a,by8 b,by8 c,by8 d],none⟩)).next=H2.next+1:=rfl;generalize hq:H2.next=q at *;generalize Heap.set _ q _=H3 at *;have gk3:=(s3.same k (by omega) (by omega)).trans g2;have gi3:=(s3.same id (by omega) (by omega)).trans gi2;have eb:(((i:Nat):Int)%((n:Nat):Int)==0)=decide (i%n=0):=by
     by_cases h:i%n=0
     ·rw[decide_eq_true h,show((i:Nat):Int)%((n:Nat):Int)=((i%n:Nat):Int) from rfl,h];rfl
     ·rw[decide_eq_false h,show((i:Nat):Int)%((n:Nat):Int)=((i%n:Nat):Int) from rfl];have:¬((i%n:Nat):Int)=0:=by omega
      simpa using this
    have eb4:(((i:Nat):Int)%((n:Nat):Int)==4)=decide (i%n=4):=by
     by_cases h:i%n=4
     ·rw[decide_eq_true h,show((i:Nat):Int)%((n:Nat):Int)=((i%n:Nat):Int) from rfl,h];rfl
     ·rw[decide_eq_false h,show((i:Nat):Int)%((n:Nat):Int)=((i%n:Nat):Int) from rfl];have:¬((i%n:Nat):Int)=4:=by omega
      simpa using this
    have tb:∀m,m<256->(tabC true++[V.sl id 0 i (.opn 4)])[3+m]?=some (by8 (sb m)):=λm h=>tab_at h;have ia:∀m,m<256->Ax.iaddr (some 256) 1 (.ptr k 3) (by8 m)=some (.ptr k (3+m)):=λm h=>zrn h;have s8:Ok8 [a,b,c,d]:=e4 ▸ hsW.2;have a8:a<256:=s8 a (by simp);have b8:b<256:=s8 b (by simp);have c8:c<256:=s8 c (by simp);have d8:d<256:=s8 d (by simp);have tw:=zno (zqC ((i-1)/n));have xr:=zmP (zsx b) (zqC ((i-1)/n));rw[eb,zfG];refine zax (Q:=λr H'=>r = .nrm [by8 (rcon (i/n))]/\H'.get q=some ⟨zaz,(zmn n i sw).map by8,none⟩/\At1 q H3 H') ?_ ?_
    ·refine zdu (λh=>?_) (λh=>?_)
     ·simp(disch:=first|omega|(simp only[RY]<;>omega)|decide)only[↓RD,RZ,eq_self,Int.reduceToNat,Int.reduceAdd,Nat.reduceAdd,Nat.reduceSub,Nat.reduceMul,Nat.reduceLeDiff,gq3,gk3,tb _ a8,tb _ b8,tb _ c8,tb _ d8,ia _ a8,ia _ b8,ia _ c8,ia _ d8,xr,tw,ze3,zbL,zaB];have er:(i-1)/n+1=i/n:=by rcases hn with rfl|rfl<;>omega
      have er':i/n-1=(i-1)/n:=by rcases hn with rfl|rfl<;>omega
      refine⟨by rw[<-er];rfl,?_,At1.set q _ _⟩;unfold zmn;rw[if_pos h,e4,er'];rfl
     ·have er:(i-1)/n=i/n:=by rcases hn with rfl|rfl<;>omega
      have e8:[a,b,c,d].map by8=[by8 a,by8 b,by8 c,by8 d]:=rfl;rcases hn with hn4|hn8
      ·have e6:decide ((6:Int)<((n:Nat):Int))=false:=by rw[hn4];rfl
       simp(disch:=omega)only[↓RD,RZ,e6];refine⟨by rw[er],?_,At1.refl _ _⟩;unfold zmn;rw[if_neg h,if_neg (λhh=>by have:=hh.1;omega),e4,e8];exact gq3
      ·have e6:decide ((6:Int)<((n:Nat):Int))=true:=by rw[hn8];rfl
       simp(disch:=omega)only[↓RD,RZ,e6,eb4];rw[zfG];refine zdu (λh4=>?_) (λh4=>?_)
       ·simp(disch:=first|omega|(simp only[RY]<;>omega)|decide)only[↓RD,RZ,eq_self,Int.reduceToNat,Int.reduceAdd,Nat.reduceAdd,Nat.reduceSub,Nat.reduceMul,Nat.reduceLeDiff,gq3,gk3,tb _ a8,tb _ b8,tb _ c8,tb _ d8,ia _ a8,ia _ b8,ia _ c8,ia _ d8,ze3,zbL,zaB];refine⟨by rw[er],?_,At1.set q _ _⟩;unfold zmn;rw[if_neg h,if_pos ⟨by omega,h4⟩,e4];rfl
       ·simp(disch:=omega)only[↓RD,RZ];refine⟨by rw[er],?_,At1.refl _ _⟩;unfold zmn;rw[if_neg h,if_neg (λhh=>h4 hh.2),e4,e8];exact gq3
    ·rintro _ H4 ⟨rfl,gq4,s4⟩;have n4:=s4.next;simp(disch:=omega)only[↓RD,RZ];have s24:=s3.trans s4;have gk4:=(s24.same k (by omega) (by omega)).trans g2;have gi4:=(s24.same id (by omega) (by omega)).trans gi2;have hkw:(kw l n i).length=i:=zhV _ _ _;refine zax (New_1_ok (k:=k) (q:=q) (id:=id) (i:=i) (j:=n) (hwd i) (zm5 hsW) (by rw[hkw];exact gk4) gi4 gq4 (by omega) (by omega) (by omega) (by omega) (by omega) (by omega) (by omega) (by omega)) ?_;rintro _ H5 ⟨rfl,gq5,s5⟩;have n5:=s5.next;have s25:=s24.trans s5;have gk5:=(s25.same k (by omega) (by omega)).trans g2;obtain⟨x0,x1,x2,x3,ex⟩:=four (zru (zmn n i sw) ((kw l n i).getD (i-n) []));rw[ex]at gq5;have lq:ldc (some 4) ([x0,x1,x2,x3].map by8) 0=some (.agg [by8 x0,by8 x1,by8 x2,by8 x3]):=rfl;have hK5:Kst H5 k (.sl id 0 i (.opn 4)) (kw l n i):=⟨gk5,App.same hw2.2.1 (by omega) λm hm=>by
      simp only[V.pid,yab]at hm;exact s25.same m (by omega) (by omega),by omega⟩
     simp(disch:=first|omega|(simp only[RY]<;>omega)|decide)only[↓RD,RZ,eq_self,Int.reduceToNat,Int.reduceAdd,Nat.reduceAdd,Nat.reduceSub,Nat.reduceMul,Nat.reduceLeDiff,gk5,ek,gq5,lq];rw[zb1];refine kpush hK5 (by rw[zhV];omega) λw' H6 hw6 b6=>?_;simp(disch:=omega)only[↓RD,RZ];refine⟨?_,w',?_,b2.trans (Bel.trans ⟨by omega,λm hm=>s25.same m (by omega) (by omega)⟩ b6)⟩
     ·rw[show i+1-1=i by omega];rfl
     ·rw[zu0,if_neg (by omega),hsw,ex];exact hw6
   ·rintro _ H2 ⟨rfl,w2,hw2,b2⟩;have e1:(4:Int)*(((n:Nat):Int)+6+1)=((4*(n+7):Nat):Int):=by omega
    unfold zc3 uL uS uT uNFM uNF uN uB uI uIM uG uH uO uA uK uc ug;simp(disch:=omega)only[↓RD,RZ,e1];exact⟨w2,by rw[show 4*(n+7)=n+(4*(n+7)-n) by omega];exact hw2,b2⟩
  ·rintro _ H2 ⟨rfl,w2,hw2,b2⟩;obtain⟨id,rfl,g1,h1,h2⟩:=hw2.expl (by rw[zhV];omega);simp(disch:=omega)only[↓RD,RZ];exact⟨⟨yaj _,id,⟨hw2.1,g1,hw2.2.2,h2,hwd _⟩,by omega⟩,b2⟩
def KNew_x{lo:Nat}{H:Heap}{v:V}{l:List Nat}{n:Nat}(hv:By lo H v l)(h8:Ok8 l)(hn:n=4\/n=8)(hl:l.length=4*n) :
  Ok (sem T zek [v]) H λr H'=>∃k,r = .tup [.ptr k 0,.int .i64 0]/\AesB H.next H' k (kw l n (4*(n+7)))/\Grow H H'/\H.next<=k:=by
 refine zpj ?_;unfold zlG uL uNF uB uG uH uO uA uR uc ub;have hpl:∀i,v.pid=some i->i<H.next:=λi hi=>(hv.own i hi).2;have fin:∀H1,H1.get H.next=some ⟨zcc,tabC false++[.nils],none⟩->H1.next=H.next+1->Grow H H1->Ok ((sem T zaS [.ptr H.next 0]).bind λt25=>
   (M.lift (Ax.vlen v)).bind λt27=>
   (M.lift (Ax.bin .quo t27 (V.int .i64 4))).bind λt28=>
   M.blk 0 (
    M.iter (zc4 (sem T) t28 (.ptr H.next 0) v V.nilp (V.int .i64 0)) [(V.int .i64 0)]) λ_=>
   M.blk 2 (
    M.iter (zc3 (sem T) t25 t28 (.ptr H.next 0) V.nilp (V.int .i64 0)) [(V.int .u8 1),t28]) λ_=>
   M.pure (.ret [.ptr H.next 0,(V.int .i64 0)])) H1 λr H'=>∃L,r = .ret L/\∃k,zdD L = .tup [.ptr k 0,.int .i64 0]/\AesB H.next H' k (kw l n (4*(n+7)))/\Grow H H'/\H.next<=k:=by
  intro H1 g1 n1 s1;refine zam (zuW g1 (by omega)) ?_;rintro _ H2 ⟨rfl,g2,s2⟩;have n2:=s2.next;have b2:Bel H.next H1 H2:=⟨s2.next,λi hi=>s2.same i (by omega) (by simp;omega)⟩;have hv2:By lo H2 v l:=(hv.ext s1).same n2 λj hj=>b2.same j (hpl j hj);have e1:((l.length:Nat):Int)/4=((n:Nat):Int):=by omega
  refine zrL hv2.vlen ?_;refine zrL (v:=.int .i64 (n:Nat)) (by rw[zul (by omega) (by omega) (by omega),e1]) ?_;refine zax (New_rest hv2 h8 hn hl hpl g2 (by omega)) ?_;rintro _ H3 ⟨rfl,hA,b3⟩;exact⟨_,rfl,_,rfl,hA,(s1.bel' (yaj _) (b2.trans b3)),yaj _⟩
 rcases hn with hn4|hn8
 ·have hvl:Ax.vlen v=some (.int .i64 16):=by rw[hv.vlen,hl,hn4];rfl
  simp(disch:=omega)only[↓RD,RZ,hvl];rw[zb1];exact fin _ (by rw[zae];rfl) (zaf _ _) (Grow.new _ _)
 ·have hvl:Ax.vlen v=some (.int .i64 32):=by rw[hv.vlen,hl,hn8];rfl
  simp(disch:=omega)only[↓RD,RZ,hvl];rw[zb1];exact fin _ (by rw[zae];rfl) (zaf _ _) (Grow.new _ _)
def num_cons(x n:Nat):num x (n+1)=(x/256 ^ n%256)::num x n:=by
 unfold num;rw[ydc,ya5,ycS];congr 1;refine ycC λi hi=>?_;rw[yaW]at hi;show x/256 ^ (n+1-1-(i+1))%256 = _;rw[show n+1-1-(i+1)=n-1-i by omega]
def zr1{H:Heap}{x:Nat}(hx:x<18446744073709551616):Ok (sem T zcg [.int .u64 (x:Nat)]) H λr H'=>∃v,r = .tup [.int .u8 ((fld x).1:Nat),v]/\By H.next H' v (fld x).2/\Grow H H':=by
 refine zk0 ?_;unfold zgR uL uB uR uc ub uq ug;have np:=zeL x;by_cases h8:x<8
 ·have e:fld x=(x,[]):=by unfold fld;rw[if_pos h8]
  have c8:IntKind.u8.wrap ((x:Nat):Int)=((x:Nat):Int):=by rw[wrap_u8];omega
  simp(disch:=omega)only[↓RD,RZ,eq_self,seval,c8,e];exact⟨_,rfl,Lc.nil,Grow.refl _⟩
 ·have e:fld x=(8+zcp x-1,num x (zcp x)):=by unfold fld;rw[if_neg h8]
  simp(disch:=omega)only[↓RD,RZ,eq_self,seval];refine zaK (λk L H'=>∃b,L=[.int .u64 (x/256 ^ k:Nat),b]/\By H.next H' b (num x k)/\Grow H H') (zcp x) ?_ ?_ ?_
  ·exact⟨.nils,by simp,Lc.nil,Grow.refl _⟩
  ·rintro k _ H1 hk ⟨b,rfl,hb,s1⟩;have n1:=s1.next;have hpos:0<x/256 ^ k:=by
    refine Nat.div_pos (yaA (yb2 (by decide) (show k<=zcp x-1 by omega)) (zmX (by omega))) (Nat.pow_pos (by decide))
   have hlt:x/256 ^ k<18446744073709551616:=Nat.lt_of_le_of_lt (Nat.div_le_self _ _) hx;have e1':x/256 ^ k/256=x/256 ^ (k+1):=by rw[ydb,ybB]
   have e1:shr (x/256 ^ k) 8=x/256 ^ (k+1):=by rw[ziN,yaf];exact e1'
   have e8:=cint8 (x/256 ^ k);unfold zdB uL uB uK ub uq ug;simp(disch:=omega)only[↓RD,RZ,eq_self,seval,e8];have s2:=Grow.new H1 ⟨zad,[.int .u8 (x/256 ^ k%256:Nat)],none⟩;have g2:(H1.new ⟨zad,[.int .u8 (x/256 ^ k%256:Nat)],none⟩).get H1.next = _:=zae _ _;have n2:(H1.new ⟨zad,[.int .u8 (x/256 ^ k%256:Nat)],none⟩).next=H1.next+1:=zaf _ _;have hb2:=hb.ext s2;refine zhM (lo:=H1.next) (l:=[x/256 ^ k%256]) (m:=num x k) (.full g2 rfl (yaj _) (by omega)) (by omega) hb2.ac (by rw[zc9];simp;omega) λw H3 hw b3=>?_;simp(disch:=omega)only[↓RD,RZ,eq_self,seval,e1,e1'];exact⟨w,rfl,by rw[num_cons];exact hw.by.low (by omega),s1.trans (s2.bel' (yaj _) b3)⟩
  ·rintro _ H1 ⟨b,rfl,hb,s1⟩;have hz:x/256 ^ zcp x=0:=ybY (zla hx);have c8:IntKind.u8.wrap (((zcp x:Nat):Int)-1)=((zcp x-1:Nat):Int):=by rw[wrap_u8];omega
   have o8:8 ||| (zcp x-1)=8+zcp x-1:=by
    have:∀n,n<8->8 ||| n=8+n:=by decide
    rw[this _ (by omega)];omega
   have hvl:=hb.vlen;rw[zc9]at hvl;rw[hz];unfold zdB uL uB uK ub uq ug;simp(disch:=omega)only[↓RD,RZ,eq_self,seval,hvl,c8,o8,e];exact⟨_,rfl,hb,s1⟩
def Bytes_ok{H:Heap}{kid ctr:Nat}(h1:kid<18446744073709551616)(h2:ctr<18446744073709551616):Ok (sem T zcY [.int .u64 (kid:Nat),.int .u64 (ctr:Nat)]) H λr H'=>By H.next H' r (hdr kid ctr)/\Grow H H':=by
 refine zk2 ?_;unfold zgT uE uB uA uR ub uq;refine zam (zr1 h1) ?_;rintro _ H1 ⟨a,rfl,ha,s1⟩;simp(disch:=omega)only[↓RD,RZ,eq_self,seval];refine zam (zr1 h2) ?_;rintro _ H2 ⟨b,rfl,hb,s2⟩;have n1:=s1.next;have n2:=s2.next;have k1:=(zjp kid).1;have k2:=(zjp ctr).1;have m1:∀x:Nat,(fld x).2.length<=8:=λx=>by
  unfold fld;split
  ·simp
  ·dsimp only;rw[zc9];exact(zeL x).2
 have e1:(fld kid).1*16%256 ||| (fld ctr).1=(fld kid).1*16+(fld ctr).1:=by
  rw[yap (by omega),show(16:Nat)=2 ^ 4 from rfl,zrK _ _ 4 k2]
 have e2:shl (fld kid).1 4%256 ||| (fld ctr).1=(fld kid).1*16+(fld ctr).1:=by rw[ztU,yak];exact e1
 simp(disch:=omega)only[↓RD,RZ,eq_self,seval,e1,e2];have s3:=Grow.new H2 ⟨zad,[.int .u8 ((fld kid).1*16+(fld ctr).1:Nat)],none⟩;have g3:(H2.new ⟨zad,[.int .u8 ((fld kid).1*16+(fld ctr).1:Nat)],none⟩).get H2.next = _:=zae _ _;have n3:(H2.new ⟨zad,[.int .u8 ((fld kid).1*16+(fld ctr).1:Nat)],none⟩).next=H2.next+1:=zaf _ _;have ha3:=((ha.ext s2).ext s3);have hb3:=hb.ext s3;have l1:=m1 kid;have l2:=m1 ctr;refine zhM (lo:=H2.next) (l:=[(fld kid).1*16+(fld ctr).1]) (m:=(fld kid).2) (.full g3 rfl (yaj _) (by omega)) (by omega) ha3.ac (by simp;omega) λw H4 hw b4=>?_;have hb4:By H1.next H4 b (fld ctr).2:=hb3.same b4.next λi hi=>b4.same i (hb.own i hi).2;have n4:=b4.next;refine zhM (m:=(fld ctr).2) hw (by omega) hb4.ac (by simp;omega) λw' H5 hw' b5=>?_;simp(disch:=omega)only[↓RD,RZ,eq_self,seval];refine⟨?_,(s1.trans s2).trans (s3.bel' (yaj _) (b4.trans b5))⟩;have:=hw'.by.low (show H.next<=H2.next by omega);have e:hdr kid ctr=[(fld kid).1*16+(fld ctr).1]++(fld kid).2++(fld ctr).2:=by unfold hdr;simp
 rw[e];exact this
def and8:∀x,x<16->x &&& 8=if x<8 then 0 else 8:=by decide
def and7:∀x,x<16->x &&& 7=if x<8 then x else x-8:=by decide
def size_eq{x:Nat}(hx:x<16):sem T zcB [.int .u8 (x:Nat)]=M.pure (.int .i64 (psz x:Nat)):=by
 refine ziS λH=>?_;refine zmg ?_;unfold ziu psz uL uB uR uc ub;have a8:=and8 x hx;have a7:=and7 x hx;by_cases h:x<8
 ·rw[if_pos h]at a8 a7 ⊢;simp(disch:=first|omega|(simp only[RY]<;>omega)|decide)only[↓RD,RZ,eq_self,Int.reduceToNat,Int.reduceAdd,Nat.reduceAdd,Nat.reduceSub,Nat.reduceMul,Nat.reduceLeDiff,a8,a7];rfl
 ·rw[if_neg h]at a8 a7 ⊢;have e:(((x-8:Nat):Int))+1=((x-7:Nat):Int):=by omega
  simp(disch:=first|omega|(simp only[RY]<;>omega)|decide)only[↓RD,RZ,eq_self,Int.reduceToNat,Int.reduceAdd,Nat.reduceAdd,Nat.reduceSub,Nat.reduceMul,Nat.reduceLeDiff,a8,a7,e]
def zk7{lo:Nat}{H:Heap}{v:V}{l:List Nat}{x:Nat}(hx:x<16)(hv:By lo H v l)(h8:Ok8 l)(hl:l.length=psz x):Ok (sem T zbW [.int .u8 (x:Nat),v]) H λr H'=>r = .tup [.int .u64 (pnum x l:Nat),.bool (zkS x l)]/\H'=H:=by
 refine zjT ?_;unfold zf3 uL uB uIM uG uH uR uc ub uq ug;have a8:=and8 x hx;by_cases h:x<8
 ·rw[if_pos h]at a8;have c:IntKind.u64.wrap ((x:Nat):Int)=((x:Nat):Int):=by rw[wrap_u64];omega
  simp(disch:=omega)only[↓RD,RZ,eq_self,seval,a8,c];unfold pnum zkS;rw[if_pos h,if_pos h]
 ·rw[if_neg h]at a8;unfold psz at hl;rw[if_neg h]at hl;simp(disch:=omega)only[↓RD,RZ,eq_self,seval,a8,hv.vlen];refine zaK (λi L H'=>L=[.int .u64 (be (l.take i):Nat),.int .i64 (i:Nat)]/\H'=H) l.length ?_ ?_ ?_
  ·exact⟨rfl,rfl⟩
  ·rintro i _ H' hi ⟨rfl,rfl⟩;obtain⟨p,hp,hld,-⟩:=zki hv (i:=(i:Nat)) (by omega) (by omega);have e1:=zvR h8 hi (by omega);have b1:=zgk h8 (show i<=8 by omega);have b2:=getD_lt h8 i;simp only[yav]at hld;have e2:be (l.take i)*256%18446744073709551616<18446744073709551616:=ybf _ (by decide);unfold zdd uL uB uIM uK uc uq ug;simp(disch:=omega)only[↓RD,RZ,eq_self,seval,hp,hld,yav,e1];rfl
  ·rintro _ H' ⟨rfl,rfl⟩;obtain⟨p,hp,hld,-⟩:=zki hv (i:=0) (by omega) (by omega);simp only[ycz]at hld;unfold zdd uL uB uIM uK uc uq ug;simp(disch:=omega)only[↓RD,RZ,eq_self,seval,ya7,hp,hld];have eb:(((l.getD 0 0:Nat):Int)==0)=decide (l.getD 0 0=0):=by
    by_cases h:l.getD 0 0=0
    ·rw[h];rfl
    ·rw[decide_eq_false h];have:¬((l.getD 0 0:Nat):Int)=0:=by omega
     simpa using this
   have ef:zkS x l=((l.getD 0 0 != 0)&&decide (8<=be l)):=by unfold zkS;rw[if_neg h]
   have ep:pnum x l=be l:=by unfold pnum;rw[if_neg h]
   rw[ef,ep,eb];by_cases h0:l.getD 0 0=0
   ·rw[decide_eq_true h0,h0];simp(disch:=omega)only[↓RD,RZ,eq_self,seval];rw[ya7];rfl
   ·rw[decide_eq_false h0];have e0:(l.getD 0 0 != 0)=true:=by simpa using h0
    rw[e0];have eg:decide ((8:Int)<=((be l:Nat):Int))=decide (8<=be l):=by
     by_cases h:8<=be l
     ·rw[decide_eq_true h,decide_eq_true (by omega)]
     ·rw[decide_eq_false h,decide_eq_false (by omega)]
    simp(disch:=omega)only[↓RD,RZ,eq_self,seval,eg];rw[ya7];rfl
def phv:PH->V
 | .err e=>.tup [.int .u64 0,.int .u64 0,.int .i64 0,.int .i64 (e:Nat)]
 | .ok kid ctr n=>.tup [.int .u64 (kid:Nat),.int .u64 (ctr:Nat),.int .i64 (n:Nat),.int .i64 0]
def ztu{lo:Nat}{H:Heap}{v:V}{l:List Nat}(hv:By lo H v l)(h8:Ok8 l)(hl:l.length<=1125899906842624):Ok (sem T zcX [v]) H λr H'=>r=phv (parse l)/\H'=H:=by
 refine zk1 ?_;unfold zgS uL uE uB uIM uG uH uA uR uc ub uq;have ez:(((l.length:Nat):Int)==0)=decide (l.length=0):=by
  by_cases h:l.length=0
  ·rw[h];rfl
  ·rw[decide_eq_false h];have:¬((l.length:Nat):Int)=0:=by omega
   simpa using this
 simp(disch:=omega)only[↓RD,RZ,eq_self,seval,hv.vlen,ez];rw[zfG];refine zdu (λh=>?_) (λh=>?_)
 ·simp(disch:=omega)only[↓RD,RZ,eq_self,seval];unfold parse;rw[if_pos h];rfl
 ·obtain⟨p,hp,hld,-⟩:=zki hv (i:=0) (by omega) (by omega);simp only[ycz]at hld;have g8:=getD_lt h8 0;unfold parse;rw[if_neg h];generalize l.getD 0 0=x at *;have a15:x &&& 15=x%16:=yay x 4;have e4:shr x 4=x/16:=by rw[ziN,yaf]
  have x1:=size_eq (x:=x/16) (by omega);have x2:=size_eq (x:=x%16) (by omega);have p1:psz (x/16)<=8:=by unfold psz;split<;>omega
  have p2:psz (x%16)<=8:=by unfold psz;split<;>omega
  have e1:(1:Int)+((psz (x/16):Nat):Int)=((1+psz (x/16):Nat):Int):=by omega
  have e2:((1+psz (x/16):Nat):Int)+((psz (x%16):Nat):Int)=((1+psz (x/16)+psz (x%16):Nat):Int):=by omega
  simp(disch:=omega)only[↓RD,RZ,eq_self,seval,hp,hld,e4,a15,x1,x2,e1,e2,hv.vlen];rw[zfG];refine zdu (λh1=>?_) (λh1=>?_)
  ·simp(disch:=omega)only[↓RD,RZ,eq_self,seval];rw[if_pos (by omega)];rfl
  ·rw[if_neg (by omega)];obtain⟨va,ha,-,-,hva,-⟩:=zbE hv (x:=1) (y:=((1+psz (x/16):Nat):Int)) (by omega) (by omega) (by omega);obtain⟨vb,hb,-,-,hvb,-⟩:=zbE hv (x:=((1+psz (x/16):Nat):Int)) (y:=((1+psz (x/16)+psz (x%16):Nat):Int)) (by omega) (by omega) (by omega);simp only[yav,Int.toNat_one]at hva hvb;rw[<-ybP]at hva hvb;have la:((l.take (1+psz (x/16))).drop 1).length=psz (x/16):=by rw[yat,yan];omega
   have lb:((l.take (1+psz (x/16)+psz (x%16))).drop (1+psz (x/16))).length=psz (x%16):=by rw[yat,yan];omega
   have k1:=@zjx _ _ _ _ (zk7 (by omega) hva ((h8.take _).drop _) la);have k2:=@zjx _ _ _ _ (zk7 (by omega) hvb ((h8.take _).drop _) lb);simp(disch:=omega)only[↓RD,RZ,eq_self,seval,ha,hb,k1,k2];generalize (l.take (1+psz (x/16))).drop 1=ya at *;generalize (l.take (1+psz (x/16)+psz (x%16))).drop (1+psz (x/16))=yb at *;cases q1:zkS (x/16) ya with
   | false=>
    simp(disch:=omega)only[↓RD,RZ,eq_self,seval,ya9];rw[q1];rfl
   | true=>
    cases q2:zkS (x%16) yb with
    | false=>
     simp(disch:=omega)only[↓RD,RZ,eq_self,seval,ybj,ya9];rw[q1,q2];rfl
    | true=>
     simp(disch:=omega)only[↓RD,RZ,eq_self,seval,ybj,ya9];rw[q1,q2];rfl
def beqn(n m:Nat):(((n:Nat):Int)==((m:Nat):Int))=decide (n=m):=by
 by_cases h:n=m
 ·rw[h,decide_eq_true rfl];simp
 ·rw[decide_eq_false h];have:¬((n:Nat):Int)=((m:Nat):Int):=by omega
  simpa using this
def beqz(n:Nat):(((n:Nat):Int)==0)=decide (n=0):=beqn n 0
def zty{a b:Nat}(h:a ^^^ b=0):a=b:=by
 have h1:(a ^^^ b) ^^^ b=b:=by rw[h,Nat.zero_xor]
 rw[Nat.xor_assoc,yde,Nat.xor_zero]at h1;exact h1
def or_zero8{a b:Nat}(h:a ||| b=0):a=0/\b=0:=by
 have:=Nat.left_le_or (n:=a) (m:=b);have:=Nat.right_le_or (n:=a) (m:=b);omega
def or_lt8{a b:Nat}(ha:a<256)(hb:b<256):a ||| b<256:=ycM (n:=8) ha hb
def Same_ok{lo lo':Nat}{H:Heap}{u v:V}{a b:List Nat}(hu:By lo H u a)(hv:By lo' H v b)(ha:Ok8 a)(hb:Ok8 b)(hal:a.length<=1125899906842624):Ok (sem T zfc [u,v]) H λr H'=>r = .bool (decide (a=b))/\H'=H:=by
 refine zqJ ?_;unfold zm8 uL uB uR uc ub ug;simp(disch:=omega)only[↓RD,RZ,hu.vlen,hv.vlen,beqn];by_cases hl:a.length=b.length
 ·have e:decide (a.length=b.length)=true:=decide_eq_true hl;simp(disch:=omega)only[↓RD,RZ,e,hu.vlen];refine zaK (λi L H'=>∃x,L=[.int .u8 (x:Nat),.int .i64 (i:Nat)]/\H'=H/\x<256/\(x=0<->a.take i=b.take i)) a.length ?_ ?_ ?_
  ·exact⟨0,rfl,rfl,by decide,by simp⟩
  ·rintro i _ H' hi ⟨x,rfl,rfl,hx,hxe⟩;obtain⟨p,hp,hld,-⟩:=zki hu (i:=(i:Nat)) (by omega) (by omega);obtain⟨q,hq,hlq,-⟩:=zki hv (i:=(i:Nat)) (by omega) (by omega);simp only[yav]at hld hlq;have h1:=ha.getD i;have h2:=hb.getD i;have ex:=zmP h1 h2;replace ex:Ax.bin .xor (.int .u8 (a.getD i 0:Nat)) (.int .u8 (b.getD i 0:Nat))=some (.int .u8 (a.getD i 0 ^^^ b.getD i 0:Nat)):=ex;have hxl:=zbS h1 h2;unfold zf1 uB uIM uK uc ug;simp(disch:=omega)only[↓RD,RZ,hp,hq,hld,hlq,ex];refine⟨_,rfl,or_lt8 hx hxl,?_⟩;rw[zcd hi,zcd (by omega)];constructor
   ·intro h;obtain⟨h3,h4⟩:=or_zero8 h;rw[hxe.1 h3,zty h4]
   ·intro h;have:=List.append_inj h (by rw[yan,yan];omega);rw[hxe.2 this.1,Nat.zero_or];have h5:a.getD i 0=b.getD i 0:=by simpa using this.2
    rw[h5,yde]
  ·rintro _ H' ⟨x,rfl,rfl,hx,hxe⟩;unfold zf1 uB uIM uK uc ug;simp(disch:=omega)only[↓RD,RZ,beqz];rw[ya7,hl,ya7]at hxe;simp only[hxe]
 ·have e:decide (a.length=b.length)=false:=decide_eq_false hl;have e2:decide (a=b)=false:=decide_eq_false λh=>hl (by rw[h]);simp(disch:=omega)only[↓RD,RZ,e];rw[e2]
def by_sl{lo id n:Nat}{H:Heap}{cap:Cap}{ty:TypeId}{l:List Nat}{o:Option Nat} (h:H.get id=some ⟨ty,l.map by8,o⟩) (hl:l.length=n) (h0:lo<=id) (h1:id<H.next) (hc:V.capOk 1 (.sl id 0 n cap)):By lo H (.sl id 0 n cap) l:=by
 refine⟨?_,λi hi=>by simp only[V.pid,yab]at hi;omega,hc⟩;simp only[rcells,h,Option.bind_some];rw[if_pos (by rw[yai];omega),yaH,yam (by rw[yai];omega),hl]
def Ab.blk{lo:Nat}{H:Heap}{v:V}{l:List Nat}(h:Ab lo H v l)(h0:0<l.length):∃id cap o,v = .sl id 0 l.length cap/\H.get id=some ⟨zad,l.map by8,o⟩/\lo<=id/\id<H.next/\V.capOk 1 (.sl id 0 l.length cap):=by
 have hc:=Ab.by h |>.cap;have h':Apf zad 1 lo H v (l.map by8) l.length:=h;generalize hn:l.length=n at *;generalize hcs:l.map by8=cs at *;have hcl:cs.length=n:=by rw[<-hcs,yai,hn]
 clear h;cases h' with
 | app h=>
  cases h with
  | opn h ho=>
   rcases h with⟨_,_,h⟩|⟨id,rfl,hg,hl⟩
   ·omega
   ·exact⟨id,_,_,rfl,hg,(ho id rfl).1,(ho id rfl).2,hc⟩
  | lit h g0 g1=>omega
 | full h hl g0 g1=>exact⟨_,_,_,rfl,h,g0,g1,hc⟩
def zot{lo id off len:Nat}{H:Heap}{cap:Cap}{ty:TypeId}{v:V}{cs:List V}{o:Option Nat}{p:List Nat} (hg:H.get id=some ⟨ty,cs,o⟩) (hv:By lo H v p) (h1:off+len<=cs.length) (h2:p.length<=len) :
  mcopy 1 (.sl id off len cap) v H=some (.int .i64 (p.length:Nat),H.set id (some ⟨ty,splice cs off (p.map by8),o⟩)):=by
 unfold mcopy;rw[hv.ac];simp only[Option.bind_some,hg];rw[if_pos (by omega),ya8 h2,ybc,yam (by rw[yai];exact yaj _)]
def Join_x{lo:Nat}{H:Heap}{v:V}{vs:List V} {ps:List (List Nat)} (hv:Lc 1 lo H v vs vs.length) (hp:Pts 0 H vs ps) (hn:2<=vs.length) (hvn:vs.length<=1000) (hlen:ps.flatten.length<=1099511627776) :
  Ok (sem T zdM [v,.nils]) H λr H'=>Fx (some 1) H.next H' r ps.flatten/\Grow H H':=by
 refine znI ?_;unfold zjJ uL uB uIM uR uK uc ub ug;have hpl:=hp.1;have c0:(((vs.length:Nat):Int)==0)=false:=by rw[beqz];exact decide_eq_false (by omega)
 have c1:(((vs.length:Nat):Int)==1)=false:=by rw[show(1:Int)=((1:Nat):Int) from rfl,beqn];exact decide_eq_false (by omega)
 have vn:Ax.vlen .nils=some (.int .i64 0):=rfl;simp(disch:=omega)only[↓RD,RZ,hv.vlen,c0,c1,vn];refine zax (α:=Res) (Q:=λz H'=>z = .ex 0 [.int .i64 (ps.flatten.length:Nat)]/\H'=H) ?_ ?_
 ·refine zaK (λi L H'=>L=[.int .i64 ((ps.take i).flatten.length:Nat),.int .i64 (i:Nat)]/\H'=H) vs.length ?_ ?_ ?_
  ·exact⟨rfl,rfl⟩
  ·rintro i _ H' hi ⟨rfl,rfl⟩;have hx:vs[i]?=some vs[i]:=yag hi;have hy:ps[i]?=some ps[i]:=yag (by omega);obtain⟨hb,hb8⟩:=hp.2 i _ _ hx hy;obtain⟨q,hq,hld⟩:=zvq hv hi hx;have hf:=zf0 hy;have hl1:=zdq ps (i+1);rw[hf,yah]at hl1;unfold zeC uL uB uIM uK uc ug;have ea:(((ps.take i).flatten.length:Nat):Int)+((ps[i].length:Nat):Int)=(((ps.take (i+1)).flatten.length:Nat):Int):=by rw[hf,yah];omega
   simp(disch:=omega)only[↓RD,RZ,hq,hld,hb.vlen,ea];rfl
  ·rintro _ H' ⟨rfl,rfl⟩;unfold zeC uL uB uIM uK uc ug;simp(disch:=omega)only[↓RD,RZ];rw[yam (by omega)]
 ·rintro _ H' ⟨rfl,rfl⟩;have hx0:vs[0]?=some vs[0]:=yag (by omega);have hy0:ps[0]?=some ps[0]:=yag (by omega);obtain⟨hb0,-⟩:=hp.2 0 _ _ hx0 hy0;have hf0:=zf0 hy0;rw[ya4,ycn,ya2]at hf0;have hl0:=zdq ps 1;rw[hf0]at hl0;generalize hn':ps.flatten.length=n at *;simp(disch:=omega)only[↓RD,RZ];have hmk:mmknz zad (.int .i64 (n:Nat)) H'=some (.sl H'.next 0 n (.opn 1),H'.new ⟨zad,List.replicate n .any,some 1⟩):=by
   simp only[mmknz];rw[if_pos (by omega),yav]
  rw[zb1];refine zaQ ⟨_,_,hmk,?_⟩;have s1:=Grow.new H' ⟨zad,List.replicate n .any,some 1⟩;have g1:(H'.new ⟨zad,List.replicate n .any,some 1⟩).get H'.next = _:=zae _ _;have n1:(H'.new ⟨zad,List.replicate n .any,some 1⟩).next=H'.next+1:=zaf _ _;have hv1:=hv.ext s1;have hp1:=hp.grow s1;have hb1:=hb0.ext s1;generalize hb:H'.next=b at *;generalize H'.new _=H1 at *;have hvb:∀i,v.pid=some i->i<b:=λi hi=>by have:=(hv.own i hi).2;omega
  have vsl:zav .sl 1 (.sl b 0 n (.opn 1)) none (some (.int .i64 (n:Nat))) (some (.int .i64 (n:Nat)))=some (.sl b 0 n (.fix n)):=by
   simp only[zav,zbR,vint,yas,Option.bind_some,yaB,yaQ];rw[if_neg (by simp),if_pos (by omega)];simp
  obtain⟨q,hq,hld⟩:=zvq hv1 (i:=0) (by omega) hx0;replace hq:∀{k:IntKind},Ax.iaddr none 1 v (.int k 0)=some q:=hq;simp(disch:=omega)only[↓RD,RZ,vsl,hq,hld];have cp:=zot (off:=0) (len:=n) (cap:=.fix n) g1 hb1 (by simp) (by omega);rw[zb1];refine zaQ ⟨_,_,cp,?_⟩;obtain⟨w,-,-,hw,hwc,hwp⟩:=hv1.slice (x:=1) (y:=(vs.length:Nat)) (by omega) (by omega) (by omega);have hw:=hw rfl (k:=.i64);have e1:(1:Int).toNat=1:=rfl;rw[e1,yav,ybc,ybc,yam (by rw[yat];omega)]at hwc;have hwb:w.pid≠some b:=by rw[hwp];exact λe=>by have:=hvb _ e;omega
  simp(disch:=omega)only[↓RD,RZ,hw,hwc.vlen];have sp0:∀(p:List Nat),p.length<=n->splice (List.replicate n V.any) 0 (p.map by8)=p.map by8++List.replicate (n-p.length) .any:=λp hp=>by
   unfold splice;rw[ya4,ya2,yai,ya6,yb8]
  have spj:∀(p q:List Nat),p.length+q.length<=n->splice (p.map by8++List.replicate (n-p.length) V.any) p.length (q.map by8)=(p++q).map by8++List.replicate (n-(p++q).length) .any:=λp q h=>by
   unfold splice;rw[yb6 (by rw[yai]),yai,ycZ,yai,yaS (by rw[yai];omega),ya2,yb8,yaP,yah,show n-p.length-(p.length+q.length-p.length)=n-(p.length+q.length) by omega]
  refine zax (α:=Res) (Q:=λz H'=>z = .ex 2 []/\H'.get b=some ⟨zad,ps.flatten.map by8,some 1⟩/\At1 b H1 H') ?_ ?_
  ·refine zaK (λj L H'=>L=[.int .i64 ((ps.take (j+1)).flatten.length:Nat),.int .i64 (j:Nat)]/\H'.get b=some ⟨zad,(ps.take (j+1)).flatten.map by8++List.replicate (n-(ps.take (j+1)).flatten.length) .any,some 1⟩/\At1 b H1 H') (vs.length-1) ?_ ?_ ?_
   ·refine⟨by rw[ya6,hf0];rfl,?_,At1.set b _ _⟩;rw[zaj,ya6,hf0,sp0 _ hl0]
   ·rintro j _ H2 hj ⟨rfl,g2,s2⟩;have hx:vs[j+1]?=some vs[j+1]:=yag (by omega);have hy:ps[j+1]?=some ps[j+1]:=yag (by omega);obtain⟨hbj,-⟩:=hp1.2 (j+1) _ _ hx hy;obtain⟨hbj0,-⟩:=hp.2 (j+1) _ _ hx hy;have hbj2:=hbj.at1 s2 (λe=>by have:=(hbj0.own _ e).2;omega);have hwc2:=hwc.at1 s2 hwb;have hwl:(vs.drop 1).length=vs.length-1:=yat ..;rw[<-hwl]at hwc2;have hwx:(vs.drop 1)[j]?=some vs[j+1]:=by rw[yaU,ycR];exact hx
    obtain⟨q2,hq2,hld2⟩:=zvq hwc2 (i:=j) (by omega) hwx;have hf:=zf0 hy;have hl1:=zdq ps (j+1+1);rw[hf,yah]at hl1;rw[hf];generalize (ps.take (j+1)).flatten=P at *;have vs1:zav .sl 1 (.sl b 0 n (.fix n)) (some (.int .i64 (P.length:Nat))) none none=some (.sl b P.length (n-P.length) (.fix (n-P.length))):=by
     simp only[zav,zbR,vint,yas,Option.bind_some,yaB,yaQ];rw[if_neg (by simp),if_pos (by omega)];simp
    have cl:(P.map by8++List.replicate (n-P.length) V.any).length=n:=by rw[yah,yai,yaL];omega
    have nl:By 0 H2 .nils []:=Lc.nil;have cp1:=zot (off:=P.length) (len:=n-P.length) (cap:=.fix (n-P.length)) g2 nl (by omega) (yaJ _);have sp1:splice (P.map by8++List.replicate (n-P.length) V.any) P.length (([]:List Nat).map by8)=P.map by8++List.replicate (n-P.length) V.any:=by
     rw[spj P [] (by simp;omega),yaN]
    rw[sp1]at cp1;have s3:=At1.set b H2 (some ⟨zad,P.map by8++List.replicate (n-P.length) V.any,some 1⟩);have g3:(H2.set b (some ⟨zad,P.map by8++List.replicate (n-P.length) V.any,some 1⟩)).get b = _:=zaj _ _ _;have hbj3:=hbj2.at1 s3 (λe=>by have:=(hbj0.own _ e).2;omega);have cp2:=zot (off:=P.length) (len:=n-P.length) (cap:=.fix (n-P.length)) g3 hbj3 (by omega) (by omega);rw[spj _ _ (by omega)]at cp2;have ea:((P.length:Nat):Int)+((0:Nat):Int)=((P.length:Nat):Int):=by omega
    unfold zeB uL uB uIM uK uc ug;simp(disch:=omega)only[↓RD,RZ,hq2,hld2,vs1];rw[zb1];refine zaQ ⟨_,_,cp1,?_⟩;have ez:(([]:List Nat).length:Nat)=0:=rfl;simp(disch:=omega)only[↓RD,RZ,ez,ea,vs1,yb1,Int.add_zero];rw[zb1];refine zaQ ⟨_,_,cp2,?_⟩;simp(disch:=omega)only[↓RD,RZ];exact⟨by rw[yah];rfl,(s2.trans s3).trans (At1.set b _ _)⟩
   ·rintro _ H2 ⟨rfl,g2,s2⟩;unfold zeB uL uB uIM uK uc ug;simp(disch:=omega)only[↓RD,RZ];refine⟨?_,s2⟩;rw[g2,show vs.length-1+1=vs.length by omega,yam (by omega),hn',ycs];simp
  ·rintro _ H2 ⟨rfl,g2,s2⟩;have n2:=s2.next;simp(disch:=omega)only[↓RD,RZ];exact⟨⟨b,by rw[hn'],g2,by omega,by omega⟩,⟨by omega,λi hi=>by rw[s2.same i (by omega) (by omega),s1.same i (by omega)]⟩⟩
structure KyG (K:Ky):Prop where
 kid:K.kid<18446744073709551616
 t:K.t<=32
 ws:∀w∈K.ws,Word w
 wl:K.ws.length<=1000
 w4:K.ws.length%4=0
 w8:8<=K.ws.length
 auth:K.auth.length=32
 auth8:Ok8 K.auth
 salt:K.salt.length=12
 salt8:Ok8 K.salt
structure KeyM (H:Heap) (k:Nat) (K:Ky):Prop where
 good:KyG K
 mem:∃a av sv,H.get k=some ⟨zdG,[.int .u64 (K.kid:Nat),.int .i64 (K.t:Nat),.ptr a 0,av,sv],none⟩/\Aes H a K.ws/\By 0 H av K.auth/\By 0 H sv K.salt
 low:k<H.next
def KeyM.grow{H H':Heap}{k:Nat}{K:Ky}(h:KeyM H k K)(g:Grow H H'):KeyM H' k K:=by
 obtain⟨a,av,sv,h1,h2,h3,h4⟩:=h.mem;exact⟨h.good,⟨a,av,sv,by rw[g.same k h.low];exact h1,h2.grow g,h3.ext g,h4.ext g⟩,yaq h.low g.next⟩
def zfH(s:List Nat)(c:Nat):(zbM s c).length=12:=by simp[zbM]
def zqN{s:List Nat}(h:Ok8 s)(c:Nat):Ok8 (zbM s c):=Ok8.rmap λi _=>zbS ((zjy c 12).getD i) (h.getD i)
def zvi(s:List Nat)(c:Nat):(first (zbM s c)).length=16:=by unfold first;rw[yah,zfH];rfl
def first_8{s:List Nat}(h:Ok8 s)(c:Nat):Ok8 (first (zbM s c)):=(zqN h c).app (Ok8.rep 4)
def zrN{H:Heap}{k c:Nat}{K:Ky}(hk:KeyM H k K)(hc:c<18446744073709551616):Ok (sem T zbn [.ptr k 0,.int .u64 (c:Nat)]) H λr H'=>By H.next H' r (zbM K.salt c)/\Grow H H':=by
 refine zg3 ?_;unfold zel uL uA uR uc;refine zam (zeK c 12 hc (by decide)) ?_;rintro r H1 ⟨hr,s1⟩;have nl:=zfH K.salt c;have hk1:=hk.grow s1;have kl:=hk.low;have m12:=zc9 c 12;obtain⟨id,cap,o,hrv,g1,i0,i1,hcap⟩:=hr.blk (by rw[m12];decide);rw[m12]at hrv hcap;subst hrv;have vn:Ax.vlen (.sl id 0 12 cap)=some (.int .i64 12):=rfl;obtain⟨a,av,sv,k1,-,-,ks⟩:=hk1.mem;obtain⟨a',av',sv',k1',-,-,ks'⟩:=hk.mem;have hpid:∀i,sv.pid=some i->i<H.next:=by
  have e:=(s1.same k kl).symm.trans k1;rw[k1']at e;simp only[yab,Blk.mk.injEq,ycu,true_and,and_true]at e;obtain⟨-,rfl,-⟩:_/\sv'=sv/\True:=⟨trivial,by simp_all,trivial⟩;exact λi hi=>(ks'.own i hi).2
 have n1:=s1.next;simp(disch:=omega)only[↓RD,RZ,eq_self,seval,vn];refine zax (α:=Res) (Q:=λz H'=>z = .ex 0 []/\H'.get id=some ⟨zad,(zbM K.salt c).map by8,o⟩/\At1 id H1 H') ?_ ?_
 ·refine zaK (λi L H'=>L=[.int .i64 (i:Nat)]/\H'.get id=some ⟨zad,((zbM K.salt c).take i++(num c 12).drop i).map by8,o⟩/\At1 id H1 H') 12 ?_ ?_ ?_
  ·exact⟨rfl,by simpa using g1,At1.refl _ _⟩
  ·rintro i _ H2 hi ⟨rfl,g2,s2⟩;have gk2:=(s2.same k (by omega) (by omega)).trans k1;have ks2:=ks.at1 s2 (λe=>by have:=hpid _ e;omega);obtain⟨p,hp,hld,-⟩:=zki ks2 (i:=(i:Nat)) (by omega) (by have:=hk.good.salt;omega);simp only[yav]at hld;have hA:(((zbM K.salt c).take i).map by8).length=i:=by rw[yai,yan];omega
   rw[ztG (by omega)]at g2;have m1:=znL (b:=by8 ((num c 12).getD i 0)) (C:=((num c 12).drop (i+1)).map by8) hA;have m2:=znK (b:=by8 ((num c 12).getD i 0)) (y:=by8 ((zbM K.salt c).getD i 0)) (C:=((num c 12).drop (i+1)).map by8) hA;have ml:(((zbM K.salt c).take i).map by8++by8 ((num c 12).getD i 0)::((num c 12).drop (i+1)).map by8).length=12:=by rw[yah,hA,yaw,yai,yat];omega
   have ex:=zmP ((zjy c 12).getD i) (hk.good.salt8.getD i);have ea:(num c 12).getD i 0 ^^^ K.salt.getD i 0=(zbM K.salt c).getD i 0:=by unfold zbM;rw[zcU hi]
   rw[ea]at ex;replace ex:Ax.bin .xor (by8 ((num c 12).getD i 0)) (.int .u8 (K.salt.getD i 0:Nat)) = _:=ex;unfold zct uT uNFM uB uI uIM uK uc ug;simp(disch:=omega)only[↓RD,RZ,eq_self,seval,g2,m1,gk2,hp,hld,ex,m2,ml,ze3,zbL];refine⟨by omega,rfl,?_,s2.trans (At1.set id _ _)⟩;rw[zqj (by omega)]
  ·rintro _ H2 ⟨rfl,g2,s2⟩;unfold zct uT uNFM uB uI uIM uK uc ug;simp(disch:=omega)only[↓RD,RZ,eq_self,seval];refine⟨?_,s2⟩;rw[g2,yam (by omega),yaS (by omega),yaN]
 ·rintro _ H2 ⟨rfl,g2,s2⟩;have n2:=s2.next;simp(disch:=omega)only[↓RD,RZ,eq_self,seval];exact⟨by_sl g2 nl i0 (by omega) hcap,⟨by omega,λi hi=>by rw[s2.same i (by omega) (by omega),s1.same i hi]⟩⟩
def zvw{lo lo':Nat}{H:Heap}{k c:Nat}{K:Ky}{nv bv:V}{l:List Nat}(hk:KeyM H k K) (hn:By lo H nv (zbM K.salt c)) (hb:By lo' H bv l) (h8:Ok8 l) (hl:l.length<=1099511627776) :
  Ok (sem T za1 [.ptr k 0,nv,bv]) H λr H'=>Fx none H.next H' r (ctr K.ws (first (zbM K.salt c)) l)/\Grow H H':=by
 refine zg4 ?_;unfold zem uL uS uNFM uE uO uA uR uc;refine zaQ (zfs (by rfl) ?_);rw[zaB];have s1:=Grow.new H ⟨zab,[(),(),(),(),(),(),(),(),(),(),(),(),(),(),(),()],none⟩;have g1:(H.new ⟨zab,[(),(),(),(),(),(),(),(),(),(),(),(),(),(),(),()],none⟩).get H.next=some ⟨zab,List.replicate 16 (.int .u8 0),none⟩:=zae _ _;have n1:(H.new ⟨zab,[(),(),(),(),(),(),(),(),(),(),(),(),(),(),(),()],none⟩).next=H.next+1:=zaf _ _;have hk1:=hk.grow s1;have hn1:=hn.ext s1;have hb1:=hb.ext s1;have kl:=hk.low;generalize ha:H.next=a at *;generalize H.new _=H1 at *;have nl:=zfH K.salt c;have cp:=zot (off:=0) (len:=16) (cap:=.fix 16) g1 hn1 (by rw[yaL];decide) (by omega);have sp:splice (List.replicate 16 (V.int .u8 0)) 0 ((zbM K.salt c).map by8)=(first (zbM K.salt c)).map by8:=by
  unfold splice first
  rw[ya4,ya2,yai,nl,yaP,yb8];rfl
 rw[sp]at cp;have vs:=zoI (n:=16) (id:=a);simp(disch:=omega)only[↓RD,RZ,eq_self,seval,vs];rw[zb1];refine zaQ ⟨_,_,cp,?_⟩;have fl:=zvi K.salt c;have f8:=first_8 hk.good.salt8 c;have s2:=At1.set a H1 (some ⟨zab,(first (zbM K.salt c)).map by8,none⟩);have g2:(H1.set a (some ⟨zab,(first (zbM K.salt c)).map by8,none⟩)).get a = _:=zaj _ _ _;have s02:Grow H (H1.set a (some ⟨zab,(first (zbM K.salt c)).map by8,none⟩)):=s1.set (by omega) _;have hk2:=hk.grow s02;have hb2:=hb.ext s02;generalize Heap.set _ a _=H2 at *;obtain⟨aa,av,sv,k1,kA,-,-⟩:=hk2.mem;have l1:=ld16 fl;simp(disch:=omega)only[↓RD,RZ,eq_self,seval,k1,g2,l1];have hg:=hk.good;refine zam (Crypt_x kA fl f8 hb2 h8 hg.wl hg.w4 hg.w8 hl) ?_;rintro _ H3 ⟨r,rfl,hr,s3⟩;have n2:=s02.next;simp(disch:=omega)only[↓RD,RZ,eq_self,seval];exact⟨hr.low (by omega),s02.trans s3⟩
def crypt_ok{lo lo':Nat}{H:Heap}{k c:Nat}{K:Ky}{nv bv:V}{l:List Nat}(hk:KeyM H k K) (hn:By lo H nv (zbM K.salt c)) (hb:By lo' H bv l) (h8:Ok8 l) (hl:l.length<=1099511627776) :
  Ok (sem T za1 [.ptr k 0,nv,bv]) H λr H'=>By H.next H' r (ctr K.ws (first (zbM K.salt c)) l)/\Grow H H':=
 zax (zvw hk hn hb h8 hl) λ_ _ h=>⟨h.1.by,h.2⟩
def zoO{lo1 lo2 lo3 lo4:Nat}{H:Heap}{k:Nat}{K:Ky}{nv hv mv bv:V}{n h m b:List Nat}(hk:KeyM H k K)(hn:By lo1 H nv n)(n8:Ok8 n)(hh:By lo2 H hv h)(h8:Ok8 h)(hm:By lo3 H mv m)(m8:Ok8 m)(hb:By lo4 H bv b)(b8:Ok8 b)
  (hl:n.length+h.length+m.length+b.length<=549755813888) :
  Ok (sem T zba [.ptr k 0,nv,hv,mv,bv]) H λr H'=>By H.next H' r (ziL K n h m b)/\Grow H H':=by
 refine zgm ?_;unfold zdY uL uM uT uNFM uNF uB uO uU uA uZ uR uc;have e1:((h.length:Nat):Int)+((m.length:Nat):Int)=((h.length+m.length:Nat):Int):=by omega
 have w1:IntKind.u64.wrap ((h.length+m.length:Nat):Int)=((h.length+m.length:Nat):Int):=by rw[wrap_u64];omega
 have w2:IntKind.u64.wrap ((b.length:Nat):Int)=((b.length:Nat):Int):=by rw[wrap_u64];omega
 have w3:IntKind.u64.wrap ((K.t:Nat):Int)=((K.t:Nat):Int):=by rw[wrap_u64];have:=hk.good.t;omega
 have kl:=hk.low;simp(disch:=omega)only[↓RD,RZ,eq_self,seval,hh.vlen,hm.vlen,hb.vlen,e1,w1,w2];refine zam (zeK (h.length+m.length) 8 (by omega) (by decide)) ?_;rintro x1 H1 ⟨hx1,s1⟩;have n1:=s1.next;simp(disch:=omega)only[↓RD,RZ,eq_self,seval,hh.vlen,hm.vlen,hb.vlen,w2];refine zam (zeK b.length 8 (by omega) (by decide)) ?_;rintro x2 H2 ⟨hx2,s2⟩;have n2:=s2.next;have hx1':Ab H.next H2 x1 (num (h.length+m.length) 8):=hx1.keep (s2.keep _);refine zhM hx1' (by omega) hx2.by.ac (by rw[zc9,zc9];decide) λx3 H3 hx3 b3=>?_;have n3:=b3.next;have s3:Grow H H3:=(s1.trans s2).bel' (by omega) b3;have hk3:=hk.grow s3;have hk3l:=hk3.low;obtain⟨aa,av,sv,k1,kA,kv,ks⟩:=hk3.mem;simp(disch:=omega)only[↓RD,RZ,eq_self,seval,k1,w3];refine zam (zeK K.t 8 (by have:=hk.good.t;omega) (by decide)) ?_;rintro x4 H4 ⟨hx4,s4⟩;have n4:=s4.next;have gk4:=s4.same k hk3l;have hx3':=hx3.by.ext s4;have s04:=s3.trans s4;have hn4:=hn.ext s04;have hh4:=hh.ext s04;have hm4:=hm.ext s04;have hb4:=hb.ext s04;have hv4:=kv.ext s4;simp(disch:=omega)only[↓RD,RZ,eq_self,seval,gk4,hx3'.cells1,hx3'.okc,hx4.by.cells1,hx4.by.okc,hn4.cells1,hn4.okc,hh4.cells1,hh4.okc,hm4.cells1,hm4.okc,hb4.cells1,hb4.okc];have s5:=Grow.new H4 ⟨zaw,[x3,x4,nv,hv,mv,bv],none⟩;have g5:(H4.new ⟨zaw,[x3,x4,nv,hv,mv,bv],none⟩).get H4.next = _:=zae _ _;have n5:(H4.new ⟨zaw,[x3,x4,nv,hv,mv,bv],none⟩).next=H4.next+1:=zaf _ _;have hlv:Lc 1 0 (H4.new ⟨zaw,[x3,x4,nv,hv,mv,bv],none⟩) (.sl H4.next 0 6 (.fix 6)) [x3,x4,nv,hv,mv,bv] 6:=ziV g5 rfl (by omega);have hps:Pts 0 H4 [x3,x4,nv,hv,mv,bv] [num (h.length+m.length) 8++num b.length 8,num K.t 8,n,h,m,b]:=
  .cons (hx3'.low (yaJ _)) ((zjy _ _).app (zjy _ _)) (.cons (hx4.by.low (yaJ _)) (zjy _ _) (.cons (hn4.low (yaJ _)) n8 (.cons (hh4.low (yaJ _)) h8 (.cons (hm4.low (yaJ _)) m8 (.cons (hb4.low (yaJ _)) b8 .nil)))))
 have efl:[num (h.length+m.length) 8++num b.length 8,num K.t 8,n,h,m,b].flatten=tagm K n h m b:=by
  unfold tagm;simp
 have lfl:(tagm K n h m b).length<=1099511627776:=by
  unfold tagm;simp only[yah,zc9];omega
 refine zam (zkC (hv4.ext s5) hk.good.auth8 (by rw[hk.good.auth];decide) hlv (hps.grow s5) (show 6<=1000 by decide) (by rw[efl];exact lfl)) ?_;rintro _ H6 ⟨rfl,s6⟩;rw[efl];have n6:=s6.next;have hl32:=zdL kc K.auth (tagm K n h m b);have sp:=sp32 hl32;have l32:(((hmac kc K.auth (tagm K n h m b))).map by8).length=32:=by rw[yai,hl32]
 have s06:=(s04.trans s5).trans s6;have hk6:=hk.grow s06;have kl6:=hk6.low;obtain⟨aa,av,sv,k6,-,-,-⟩:=hk6.mem;have ht:=hk.good.t;have vsl:∀id,zav (.arr 32) 1 (.ptr id 0) none (some (.int .i64 (K.t:Nat))) none=some (.sl id 0 K.t (.fix 32)):=λid=>by
  simp only[zav,zbR,vint,yas,Option.bind_some,yaB,yaQ];rw[if_neg (by simp),if_pos ⟨by simp,by omega,by omega,by omega⟩];simp
 simp(disch:=omega)only[↓RD,RZ,eq_self,seval,zb9,zaB,sp,l32,k6,vsl];refine⟨⟨?_,λi hi=>?_,?_⟩,⟨by rw[zak,zaf];omega,λi hi=>by rw[zag _ _ (by omega),zaA _ _ (by omega),s06.same i hi]⟩⟩
 ·simp only[rcells,zaj,Option.bind_some];rw[if_pos (by rw[l32];omega),yaH,ybc];unfold ziL;rw[yb5,yan,hl32,ya8 ht]
 ·simp only[V.pid,yab]at hi;rw[zak,zaf];omega
 ·show K.t<=32;exact ht
def sizes_ok{H:Heap}(id:Int)(h0:-9223372036854775808<=id):Ok (sem T zdi [.int .i64 id]) H λr H'=>r=(match szs id.toNat with|some (n,t)=>if 0<=id then V.tup [.int .i64 (n:Nat),.int .i64 (t:Nat),.bool true] else .tup [.int .i64 0,.int .i64 0,.bool false]|none=>.tup [.int .i64 0,.int .i64 0,.bool false])/\H'=H:=by
 refine zmc ?_;unfold ziq uB uR uK uc;by_cases h1:id=1
 ·subst h1;simp(disch:=omega)only[↓RD,RZ];rfl
 by_cases h2:id=2
 ·subst h2;simp(disch:=omega)only[↓RD,RZ];rfl
 by_cases h3:id=3
 ·subst h3;simp(disch:=omega)only[↓RD,RZ];rfl
 by_cases h4:id=16
 ·subst h4;simp(disch:=omega)only[↓RD,RZ];rfl
 have e1:(id==1)=false:=by simpa using h1
 have e2:(id==2)=false:=by simpa using h2
 have e3:(id==3)=false:=by simpa using h3
 have e4:(id==16)=false:=by simpa using h4
 simp(disch:=omega)only[↓RD,RZ,e1,e2,e3,e4];unfold szs;split
 ·rename_i n t heq;split at heq
  ·rw[if_neg (by omega)]
  ·rw[if_neg (by omega)]
  ·rw[if_neg (by omega)]
  ·rw[if_neg (by omega)]
  ·cases heq
 ·rfl
def Seal_x{lo1 lo2:Nat}{H:Heap}{k c:Nat}{K:Ky}{mv pv:V}{m p:List Nat}(hk:KeyM H k K)(hc:c<18446744073709551616)(hm:By lo1 H mv m)(m8:Ok8 m)(hp:By lo2 H pv p)(p8:Ok8 p)(hml:m.length<=274877906944)(hpl:p.length<=1099511627776) :
  Ok (sem T za8 [.ptr k 0,.int .u64 (c:Nat),mv,pv]) H λr H'=>Grow H H'/\if 1000<p.length then r = .tup [.nils,.int .i64 4] else ∃v,r = .tup [v,.int .i64 0]/\Fx (some 1) H.next H' v (zc8 K c m p):=by
 refine zhN ?_;unfold zeV uL uNFM uB uA uR uc;have hg:=hk.good;have kl:=hk.low;simp(disch:=omega)only[↓RD,RZ,hp.vlen];rw[zfG];refine zdu (λh=>?_) (λh=>?_)
 ·simp(disch:=omega)only[↓RD,RZ];rw[if_pos (by omega)];exact⟨Grow.refl _,trivial⟩
 ·obtain⟨aa,av,sv,k1,kA,kv,ks⟩:=id hk.mem;simp(disch:=omega)only[↓RD,RZ,k1];refine zam (Bytes_ok hg.kid hc) ?_;rintro hv H1 ⟨hh,s1⟩;refine zam (zrN (hk.grow s1) hc) ?_;rintro nv H2 ⟨hn,s2⟩;have s02:=s1.trans s2;refine zam (crypt_ok (hk.grow s02) hn (hp.ext s02) p8 hpl) ?_;rintro bv H3 ⟨hb,s3⟩;have s03:=s02.trans s3;have cl:=zeG K.ws (first (zbM K.salt c)) p;have hx:=zu6 K.kid c;have nl:=zfH K.salt c;refine zam (zoO (hk.grow s03) (hn.ext s3) (zqN hg.salt8 c) ((hh.ext s2).ext s3) (hdr_8 _ _) (hm.ext s03) m8 hb (ctr_8 hg.ws p8) (by rw[cl];omega)) ?_;rintro tv H4 ⟨ht,s4⟩;have s04:=s03.trans s4;have hh4:=((hh.ext s2).ext s3).ext s4;have hb4:=hb.ext s4;have n1:=s1.next;have n2:=s2.next;have n3:=s3.next;have n4:=s4.next;simp(disch:=omega)only[↓RD,RZ,hh4.cells1,hh4.okc,hb4.cells1,hb4.okc,ht.cells1,ht.okc];have s5:=Grow.new H4 ⟨zaw,[hv,bv,tv],none⟩;have g5:(H4.new ⟨zaw,[hv,bv,tv],none⟩).get H4.next = _:=zae _ _;have n5:(H4.new ⟨zaw,[hv,bv,tv],none⟩).next=H4.next+1:=zaf _ _;have hlv:Lc 1 0 (H4.new ⟨zaw,[hv,bv,tv],none⟩) (.sl H4.next 0 3 (.fix 3)) [hv,bv,tv] [hv,bv,tv].length:=ziV g5 rfl (by omega);have hps:Pts 0 H4 [hv,bv,tv] [hdr K.kid c,ctr K.ws (first (zbM K.salt c)) p,ziL K (zbM K.salt c) (hdr K.kid c) m (ctr K.ws (first (zbM K.salt c)) p)]:=
   .cons (hh4.low (yaJ _)) (hdr_8 _ _) (.cons (hb4.low (yaJ _)) (ctr_8 hg.ws p8) (.cons (ht.low (yaJ _)) (zql _ _ _ _ _) .nil))
  have efl:[hdr K.kid c,ctr K.ws (first (zbM K.salt c)) p,ziL K (zbM K.salt c) (hdr K.kid c) m (ctr K.ws (first (zbM K.salt c)) p)].flatten=zc8 K c m p:=by
   unfold zc8;simp
  refine zam (Join_x hlv (hps.grow s5) (show 2<=3 by decide) (show 3<=1000 by decide) (by rw[efl,znw hg.t];have:=hg.t;omega)) ?_;rintro v H6 ⟨hv6,s6⟩;rw[efl]at hv6;simp(disch:=omega)only[↓RD,RZ];rw[if_neg (by omega)];exact⟨(s04.trans s5).trans s6,_,rfl,hv6.low (by omega)⟩
def parse_n{b:List Nat}{kid c n:Nat}(h:parse b = .ok kid c n)(h8:Ok8 b):n<=b.length/\n<=17/\kid<18446744073709551616/\c<18446744073709551616:=by
 unfold parse at h;split at h
 ·cases h
 ·dsimp only at h;split at h
  ·cases h
  ·split at h
   ·rename_i h2 h3;injection h with e1 e2 e3
    have g:=getD_lt h8 0;have q:∀x,psz x<=x-7/\(x<16->psz x<=8):=λx=>by unfold psz;split<;>omega
    have r:∀(x:Nat) (l:List Nat),x<16->Ok8 l->l.length<=8->pnum x l<18446744073709551616:=λx l hx hl h8=>by
     unfold pnum;split
     ·omega
     ·have:=be_lt l hl;have h3:256 ^ l.length<=256 ^ 8:=yb2 (by decide) h8;omega
    have q1:=(q (b.getD 0 0/16)).2 (by omega);have q2:=(q (b.getD 0 0%16)).2 (by omega);refine⟨by omega,by omega,?_,?_⟩
    ·rw[<-e1];refine r _ _ (by omega) ((h8.take _).drop _) ?_;rw[yat,yan];omega
    ·rw[<-e2];refine r _ _ (by omega) ((h8.take _).drop _) ?_;rw[yat,yan];omega
   ·cases h
def pox(H0 H:Heap)(r:V):PO->Prop
 | .err e=>r = .tup [.nils,.int .u64 0,.int .i64 (e:Nat)]
 | .ok p c=>∃v,r = .tup [v,.int .u64 (c:Nat),.int .i64 0]/\Fx none H0.next H v p
def Open_x{lo1 lo2:Nat}{H:Heap}{k:Nat}{K:Ky}{bv mv:V}{b m:List Nat}(hk:KeyM H k K)(hb:By lo1 H bv b)(b8:Ok8 b)(hm:By lo2 H mv m)(m8:Ok8 m)(hml:m.length<=274877906944)(hbl:b.length<=1099511627776) :
  Ok (sem T za9 [.ptr k 0,bv,mv]) H λr H'=>Grow H H'/\pox H H' r (openB K b m):=by
 refine zhO ?_;unfold zeW uL uNFM uE uB uA uR uK uc uq ug;have hg:=hk.good;have kl:=hk.low;have ht:=hg.t;obtain⟨aa,av,sv,k1,kA,kv,ks⟩:=id hk.mem;refine zam (ztu hb b8 (by omega)) ?_;rintro _ H ⟨rfl,rfl⟩;unfold openB;cases hp:parse b with
 | err e=>
  have e0:(((e:Nat):Int)==0)=false:=by
   have:e≠0:=by
    unfold parse at hp;split at hp
    ·injection hp with hp;omega
    ·dsimp only at hp;split at hp
     ·injection hp with hp;omega
     ·split at hp
      ·cases hp
      ·injection hp with hp;omega
   rw[beqz];exact decide_eq_false this
  simp(disch:=omega)only[↓RD,RZ,phv,k1,hb.vlen,e0,ya9];exact⟨Grow.refl _,rfl⟩
 | ok kid c n=>
  obtain⟨n1,n2,n3,n4⟩:=parse_n hp b8;dsimp only;simp(disch:=omega)only[↓RD,RZ,phv,k1,hb.vlen,beqn];by_cases hkid:kid=K.kid
  ·have ed:decide (kid=K.kid)=true:=decide_eq_true hkid;rw[if_neg (λh=>h hkid)];simp(disch:=omega)only[↓RD,RZ,ed,ybj];rw[zfG];refine zdu (λh1=>?_) (λh1=>?_)
   ·simp(disch:=omega)only[↓RD,RZ];rw[if_pos (by omega)];exact⟨Grow.refl _,rfl⟩
   ·rw[if_neg (by omega)];obtain⟨z,hz⟩:∃z,b.length-n-K.t=z:=⟨_,rfl⟩;have ez:((b.length:Nat):Int)-((n:Nat):Int)-((K.t:Nat):Int)=((z:Nat):Int):=by omega
    have eb:b.length-K.t=n+z:=by omega
    rw[hz,eb];simp(disch:=omega)only[↓RD,RZ,ez];rw[zfG];refine zdu (λh2=>?_) (λh2=>?_)
    ·simp(disch:=omega)only[↓RD,RZ];rw[if_pos (by omega)];exact⟨Grow.refl _,rfl⟩
    ·rw[if_neg (by omega)];obtain⟨va,-,ha,-,hva,hpa⟩:=zbE hb (x:=0) (y:=(n:Nat)) (by omega) (by omega) (by omega);obtain⟨vc,hc,-,-,hvc,hpc⟩:=zbE hb (x:=(n:Nat)) (y:=((n+z:Nat):Int)) (by omega) (by omega) (by omega);obtain⟨vt,-,-,hx,hvt,hpt⟩:=zbE hb (x:=((n+z:Nat):Int)) (y:=(b.length:Nat)) (by omega) (by omega) (by omega);have ha:=ha rfl (k':=.i64);have hx:=hx rfl (k:=.i64);simp only[yav,ycz,yaH,ycc]at hva hvc hvt;rw[show n+z-n=z by omega]at hvc;rw[yam (by rw[yat];omega)]at hvt;have eq:((n:Nat):Int)+((z:Nat):Int)=((n+z:Nat):Int):=rfl;have eq':((n:Nat):Int)+(((b.length:Nat):Int)-((n:Nat):Int)-((K.t:Nat):Int))=((n+z:Nat):Int):=by omega
     simp(disch:=omega)only[↓RD,RZ,ha,hc,eq,eq'];refine zam (zrN hk n4) ?_;rintro nv H1 ⟨hn,s1⟩;have nl:=zfH K.salt c;have lc:((b.drop n).take z).length=z:=by rw[yan,yat];omega
     have la:(b.take n).length=n:=by rw[yan];omega
     have c8:Ok8 ((b.drop n).take z):=(b8.drop n).take z;simp(disch:=omega)only[↓RD,RZ,hx,eq,eq'];refine zam (zoO (hk.grow s1) hn (zqN hg.salt8 c) (hva.ext s1) (b8.take n) (hm.ext s1) m8 (hvc.ext s1) c8 (by omega)) ?_;rintro tv H2 ⟨htv,s2⟩;have s02:=s1.trans s2;have kS:=@zjx _ _ _ _ (Same_ok htv (hvt.ext s02) (zql _ _ _ _ _) (b8.drop _) (by rw[zoP ht];omega));simp(disch:=omega)only[↓RD,RZ,kS];by_cases htg:ziL K (zbM K.salt c) (b.take n) m ((b.drop n).take z)=b.drop (n+z)
     ·rw[if_pos htg];have e:decide (ziL K (zbM K.salt c) (b.take n) m ((b.drop n).take z)=b.drop (n+z))=true:=decide_eq_true htg;simp(disch:=omega)only[↓RD,RZ,e,ybj];refine zam (zvw (hk.grow s02) (hn.ext s2) (hvc.ext s02) c8 (by omega)) ?_;rintro pv H3 ⟨hpv,s3⟩;have q1:=s1.next;have q2:=s2.next;simp(disch:=omega)only[↓RD,RZ];exact⟨s02.trans s3,_,rfl,hpv.low (by omega)⟩
     ·rw[if_neg htg];have e:decide (ziL K (zbM K.salt c) (b.take n) m ((b.drop n).take z)=b.drop (n+z))=false:=decide_eq_false htg;simp(disch:=omega)only[↓RD,RZ,e,ya9];exact⟨s02,rfl⟩
  ·have ed:decide (kid=K.kid)=false:=decide_eq_false hkid;rw[if_pos hkid];simp(disch:=omega)only[↓RD,RZ,ed,ya9];exact⟨Grow.refl _,rfl⟩
def szs_n{id n t:Nat} (h:szs id=some (n,t)):(n=16\/n=32)/\t<=10/\id<=16:=by
 unfold szs at h;split at h<;>simp at h<;>omega
def zrR(id kid n:Nat)(base:List Nat)(hn:n<=32):(keyb id kid n base).length=n+32:=by
 unfold keyb;rw[yan,zgf];omega
def zua(id kid:Nat)(base:List Nat):(saltb id kid base).length=12:=by
 unfold saltb;rw[yan,zgf];rfl
def keyb_8(id kid n:Nat)(base:List Nat):Ok8 (keyb id kid n base):=Ok8.take (zlg _ _ _ _).1 _
def saltb_8(id kid:Nat)(base:List Nat):Ok8 (saltb id kid base):=Ok8.take (zlg _ _ _ _).1 _
def zr6{id kid n t:Nat}{base:List Nat} (h:szs id=some (n,t)) (hk:kid<18446744073709551616):KyG (drv id kid n t base):=by
 obtain⟨h1,h2,h3⟩:=szs_n h;have kl:=zrR id kid n base (by omega);have k8:=keyb_8 id kid n base;unfold drv;refine⟨hk,by dsimp only;omega,?_,?_,?_,?_,?_,k8.drop _,zua _ _ _,saltb_8 _ _ _⟩
 ·exact zuZ (by omega) (k8.take _) (by rw[yan];omega) _
 ·dsimp only;rw[zhV];omega
 ·dsimp only;rw[zhV];omega
 ·dsimp only;rw[zhV];omega
 ·dsimp only;rw[yat,kl];omega
def zmT{lo n:Nat}{H:Heap}{y:V}{l m:List Nat}{F:V->M Res}{Q:Res->Heap->Prop}(hl:l.length=n)(h0:0<n)(hy:By lo H y m)(hm:n+m.length<=1099511627776) (k:∀x' H',Ab H.next H' x' (l++m)->Grow H H'->Ok (F x') H' Q) :
  Ok ((mremark zad (.sl H.next 0 n (.fix n))).bind λt=>(mappend zad 1 1 t y).bind F) (H.new ⟨zad,l.map by8,none⟩) Q:=by
 have s1:=Grow.new H ⟨zad,l.map by8,none⟩;have g1:(H.new ⟨zad,l.map by8,none⟩).get H.next = _:=zae _ _;have n1:(H.new ⟨zad,l.map by8,none⟩).next=H.next+1:=zaf _ _;have hy1:=hy.ext s1;generalize H.new _=H1 at *;refine zaQ ⟨.sl H.next 0 n (.fix n),H1,?_,?_⟩
 ·simp only[mremark,g1,Option.bind_some];rw[if_neg (by omega)]
 ·subst hl;refine zhM (lo:=H.next) (l:=l) (m:=m) (.full g1 (by simp) (yaj _) (by omega)) (by omega) hy1.ac (by omega) λx' H2 h2 b2=>?_;exact k x' H2 h2 (s1.bel' (yaj _) b2)
structure KeyB (lo:Nat) (H:Heap) (k:Nat) (K:Ky):Prop where
 good:KyG K
 mem:∃a av sv,H.get k=some ⟨zdG,[.int .u64 (K.kid:Nat),.int .i64 (K.t:Nat),.ptr a 0,av,sv],none⟩/\AesB lo H a K.ws/\By lo H av K.auth/\By lo H sv K.salt
 low:k<H.next
 lo:lo<=k
def KeyB.m{lo:Nat}{H:Heap}{k:Nat}{K:Ky}(h:KeyB lo H k K):KeyM H k K:=by
 obtain⟨a,av,sv,h1,h2,h3,h4⟩:=h.mem;exact⟨h.good,⟨a,av,sv,h1,h2.aes,h3.low (yaJ _),h4.low (yaJ _)⟩,h.low⟩
def KeyB.keep{lo:Nat}{H H':Heap}{k:Nat}{K:Ky}(h:KeyB lo H k K)(g:Keep lo H H'):KeyB lo H' k K:=by
 obtain⟨a,av,sv,h1,h2,h3,h4⟩:=h.mem;exact⟨h.good,⟨a,av,sv,by rw[g.same k h.lo h.low];exact h1,h2.keep g,h3.keep g,h4.keep g⟩,yaq h.low g.next,h.lo⟩
def Derive_x{lo:Nat}{H:Heap}{kid:Nat}{id:Int}{bv:V}{base:List Nat}(h0:-9223372036854775808<=id)(hk:kid<18446744073709551616)(hb:By lo H bv base)(b8:Ok8 base)(hbl:base.length<=1099511627776) :
  Ok (sem T zbJ [.int .i64 id,.int .u64 (kid:Nat),bv]) H λr H'=>Grow H H'/\((id<0\/szs id.toNat=none)/\r = .tup [.nilp,.int .i64 1]\/∃n t k,0<=id/\szs id.toNat=some (n,t)/\r = .tup [.ptr k 0,.int .i64 0]/\KeyB H.next H' k (drv id.toNat kid n t base)):=by
 refine zkY ?_;unfold zgP uL uT uE uB uO uA uR uc ub uq;refine zam (sizes_ok id h0) ?_;rintro _ H ⟨rfl,rfl⟩;cases hs:szs id.toNat with
 | none=>
  simp(disch:=omega)only[↓RD,RZ,eq_self,seval];exact⟨Grow.refl _,.inl (.inr trivial)⟩
 | some q=>
  obtain⟨n,t⟩:=q;dsimp only;by_cases hi:0<=id
  ·rw[if_pos hi];obtain⟨hn,ht,hid⟩:=szs_n hs;obtain⟨i,hii⟩:∃i:Nat,id=(i:Nat):=⟨id.toNat,by omega⟩;subst hii;rw[yav]at *;have w0:IntKind.u64.wrap ((i:Nat):Int)=((i:Nat):Int):=by rw[wrap_u64];omega
   simp(disch:=omega)only[↓RD,RZ,eq_self,seval];refine zam (znl (Lc.nil:By 0 H .nils []) Ok8.nil (by decide) hb b8 hbl) ?_;rintro _ H1 ⟨rfl,s1⟩;have n1:=s1.next;have sl:(zaE base).length=32:=zdL _ _ _;have s8:Ok8 (zaE base):=zlf _ _ _;have eS:hmac kc [] base=zaE base:=rfl;rw[eS];have sp:=sp32 sl;have l32:((zaE base).map by8).length=32:=by rw[yai,sl]
   simp(disch:=omega)only[↓RD,RZ,eq_self,seval,zb9,zaB,sp,l32];have s2:Grow H ((H1.new ⟨zah,[(),(),(),(),(),(),(),(),(),(),(),(),(),(),(),(),(),(),(),(),(),(),(),(),(),(),(),(),(),(),(),()],none⟩).set H1.next (some ⟨zah,(zaE base).map by8,none⟩)):=(s1.trans (Grow.new _ _)).set (by omega) _;have g2:((H1.new ⟨zah,[(),(),(),(),(),(),(),(),(),(),(),(),(),(),(),(),(),(),(),(),(),(),(),(),(),(),(),(),(),(),(),()],none⟩).set H1.next (some ⟨zah,(zaE base).map by8,none⟩)).get H1.next = _:=zaj _ _ _;have n2:((H1.new ⟨zah,[(),(),(),(),(),(),(),(),(),(),(),(),(),(),(),(),(),(),(),(),(),(),(),(),(),(),(),(),(),(),(),()],none⟩).set H1.next (some ⟨zah,(zaE base).map by8,none⟩)).next=H1.next+1:=rfl;generalize hq:H1.next=q at *;generalize Heap.set _ q _=H2 at *;refine zam (zeK kid 8 hk (by decide)) ?_;rintro x1 H3 ⟨hx1,s3⟩;have n3:=s3.next;simp(disch:=omega)only[↓RD,RZ,eq_self,seval,w0];refine zam (zeK i 2 (by omega) (by decide)) ?_;rintro x2 H4 ⟨hx2,s4⟩;have n4:=s4.next;refine zhM (hx1.keep (s4.keep _)) (by omega) hx2.by.ac (by rw[zc9,zc9];decide) λx3 H5 hx3 b5=>?_;have n5:=b5.next;have s25:Grow H2 H5:=(s3.trans s4).bel' (yaj _) b5;have g5:=(s25.same q (by omega)).trans g2;have vs:=zoI (n:=32) (id:=q);have ad:((n:Nat):Int)+32=((n+32:Nat):Int):=rfl;have hx3b:=hx3.by;have il:(num kid 8++num i 2).length=10:=by rw[yah,zc9,zc9]
   have i8:Ok8 (num kid 8++num i 2):=(zjy _ _).app (zjy _ _);simp(disch:=omega)only[↓RD,RZ,eq_self,seval,vs,ad];rw[zb1];refine zmT (l:=sKey) rfl (by decide) hx3b (by omega) λx6 H6 hx6 s6=>?_;have n6:=s6.next;have g6:=(s6.same q (by omega)).trans g5;have skl:(sKey++(num kid 8++num i 2)).length=32:=by rw[yah,il];rfl
   have sk8:Ok8 (sKey++(num kid 8++num i 2)):=(all8 rfl).app i8;refine zam (zqg (zlW (lo:=0) g6 sl (by omega) (by omega)) s8 (by omega) hx6.by sk8 (by omega) (show n+32<=8160 by omega)) ?_;rintro _ H7 ⟨key,rfl,hkey,s7⟩;have n7:=s7.next;have ek:((hkdf kc (zaE base) (sKey++(num kid 8++num i 2)) ((n+32+31)/32)).1.take (n+32))=keyb i kid n base:=by
    unfold keyb;rw[show(n+32+31)/32=2 by omega]
   rw[ek]at hkey;have kl:=zrR i kid n base (by omega);have k8:=keyb_8 i kid n base;have g7:=(s7.same q (by omega)).trans g6;have hx7:=(hx3b.ext s6).ext s7;simp(disch:=omega)only[↓RD,RZ,eq_self,seval,vs];rw[zb1];refine zmT (l:=sSalt) rfl (by decide) hx7 (by omega) λx8 H8 hx8 s8'=>?_;have n8:=s8'.next;have g8:=(s8'.same q (by omega)).trans g7;have ssl:(sSalt++(num kid 8++num i 2)).length=33:=by rw[yah,il];rfl
   have ss8:Ok8 (sSalt++(num kid 8++num i 2)):=(all8 rfl).app i8;refine zam (zqg (zlW (lo:=0) g8 sl (by omega) (by omega)) s8 (by omega) hx8.by ss8 (by omega) (show 12<=8160 by omega)) ?_;rintro _ H9 ⟨salt,rfl,hsalt,s9⟩;have n9:=s9.next;have hkey9:=(hkey.ext s8').ext s9;obtain⟨va,-,ha,-,hva,-⟩:=zbE hkey9 (x:=0) (y:=(n:Nat)) (by omega) (by omega) (by omega);obtain⟨vb,-,-,hvb',hvb,-⟩:=zbE hkey9 (x:=(n:Nat)) (y:=((keyb i kid n base).length:Nat)) (by omega) (by omega) (by omega);have ha:=ha rfl (k':=.i64);have hvb':=hvb' rfl (k:=.i64);simp only[yav,ycz,yaH,ycc]at hva hvb;rw[yam (by rw[yat];omega)]at hvb;simp(disch:=omega)only[↓RD,RZ,eq_self,seval,ha];refine zam (KNew_x (n:=n/4) hva (k8.take n) (by omega) (by rw[yan];omega)) ?_;rintro _ H10 ⟨k,rfl,hA,s10,hkk⟩;have n10:=s10.next;have hvb10:=hvb.ext s10;have hs10:=hsalt.ext s10;simp(disch:=omega)only[↓RD,RZ,eq_self,seval,hvb',hvb10.cells1,hvb10.okc,hs10.cells1,hs10.okc];have s010:Grow H H10:=((((((s2.trans s25).trans s6).trans s7).trans s8').trans s9).trans s10);have s11:=Grow.new H10 ⟨zdG,[.int .u64 (kid:Nat),.int .i64 (t:Nat),.ptr k 0,vb,salt],none⟩;exact⟨s010.trans s11,.inr ⟨n,t,H10.next,by omega,rfl,rfl,⟨zr6 hs hk,⟨k,vb,salt,zae _ _,(hA.keep (s11.keep _)).low (by omega),(hvb10.ext s11).low (by omega),(hs10.ext s11).low (by omega)⟩,by rw[zaf];omega,by omega⟩⟩⟩
  ·rw[if_neg hi];simp(disch:=omega)only[↓RD,RZ,eq_self,seval];exact⟨Grow.refl _,.inl (.inl (by omega))⟩
end Go.Ax.SU
/- Su27 -/
namespace Go.Ax.SU
open Go.Ax
end Go.Ax.SU
namespace Go.Ax
open SU
end Go.Ax
/- Re1 -/
namespace Go.Ax.SU
open Go.Ax
def copy8{β:Type}{lo:Nat}{H:Heap}{y:V}{l:List Nat}{f:V->M β}{Q:β->Heap->Prop}(hy:By lo H y l)(hl:l.length<=140737488355328)
  (k:∀x' H',Ab H.next H' x' l->Grow H H'->Ok (f x') H' Q):Ok ((mappend zad 1 1 (.sl H.next 0 0 (.fix 0)) y).bind f) (H.new ⟨zad,[],none⟩) Q:=
 okb_copy hy.ac (λi hi=>(hy.own i hi).2) (by rw[yai];omega) (by omega) (by omega) λx' H' h g=>k x' H' (.app h) g
/-! Numbers of keys. -/
def kidOk(e st sl:Int):Prop:=(0<=e/\e<=65535)/\(0<=st/\st<=31)/\0<=sl/\sl<8
instance (e st sl:Int):Decidable (kidOk e st sl):=by unfold kidOk;infer_instance
def eq_nils{lo:Nat}{H:Heap}{v:V}{l:List Nat}(h:By lo H v l):(v = .nils/\l=[])\/Ax.eqr .sl false v .nils=some (.bool false):=by
 rcases Lc.cases h with⟨rfl,h1,h2⟩|⟨id,off,cap,b',rfl,hb,hle,hc⟩|⟨cs,rfl,_⟩
 ·exact .inl ⟨rfl,yaz h2⟩
 ·exact .inr rfl
 ·exact .inr rfl
def clone_ok{lo:Nat}{H:Heap}{v:V}{l:List Nat}(hv:By lo H v l)(hl:l.length<=140737488355328):Ok (sem T zbZ [v]) H λr H'=>By H.next H' r l/\Grow H H':=by
 refine zmj ?_;unfold ziy uL uR ub;rcases eq_nils hv with⟨rfl,rfl⟩|e
 ·have e:Ax.eqr .sl false .nils .nils=some (.bool true):=rfl;simp(disch:=omega)only[↓RD,RZ,e];exact⟨Lc.nil,Grow.refl _⟩
 ·simp(disch:=omega)only[↓RD,RZ,e];rw[zb1];refine copy8 hv hl λx0 H0' hx0 s0=>?_;simp(disch:=omega)only[↓RD,RZ];exact⟨hx0.by,s0⟩
end Go.Ax.SU
/- Ax43 -/
namespace Go.Ax
structure Rsu where
 u:Nat
def Heap.pluc(H:Heap)(G:Rsu):Heap:=H
structure Dcl (H:Heap) (G:Rsu):Prop where
 cl:∀i,H.next<=i->H.get i=none
 lo:G.u<=H.next
section
variable {G:Rsu} {H H':Heap}
def Dcl.get(h:Dcl H G){id:Nat}{b:Blk}(hb:H.get id=some b):(H.pluc G).get id=some b:=hb
def Dcl.lt(h:Dcl H G){id:Nat}{b:Blk}(hb:H.get id=some b):id<H.next:=by
 by_cases hl:id<H.next
 ·exact hl
 ·rw[h.cl id (by omega)]at hb;cases hb
def Dcl.set(h:Dcl H G){id:Nat}{b:Blk}(hb:H.get id=some b)(o:Option Blk):(H.pluc G).set id o=(H.set id o).pluc G/\Dcl (H.set id o) G:=by
 have hl:=h.lt hb;refine⟨rfl,⟨λi hi=>?_,h.lo⟩⟩;have hi:H.next<=i:=hi;rw[zag _ _ (by omega)];exact h.cl i hi
def Dcl.new(h:Dcl H G)(b:Blk):(H.pluc G).new b=(H.new b).pluc G/\Dcl (H.new b) G:=by
 refine⟨rfl,⟨λi hi=>?_,by rw[zaf];have:=h.lo;omega⟩⟩;rw[zaf]at hi;rw[zaA _ _ (by omega)];exact h.cl i (by omega)
def CfR(G:Rsu){α:Type}(x y:M α):Prop:=∀H a H',Dcl H G->x H=some (a,H')->y (H.pluc G)=some (a,H'.pluc G)/\Dcl H' G
abbrev CfM(G:Rsu){α:Type}(x:M α):Prop:=CfR G x x
section
variable {α β:Type}
def zbs(v:α):CfM G (M.pure v):=by
 intro H a H' hd h;simp only[M.pure,yab,yae]at h ⊢;obtain⟨rfl,rfl⟩:=h;exact⟨⟨rfl,rfl⟩,hd⟩
def zbK{y:M α}:CfR G M.fail y:=by intro H a H' hd h;cases h
def zd9(o:Option α):CfM G (M.lift o):=by
 intro H a H' hd h;cases o with
 | none=>cases h
 | some v=>exact zbs v H a H' hd h
def za7{x x':M α}{f g:α->M β}(h:CfR G x x') (k:∀v,CfR G (f v) (g v)):CfR G (x.bind f) (x'.bind g):=by
 intro H a H' hd e;obtain⟨v,H1,h1,h2⟩:=bind_some e;obtain⟨e1,d1⟩:=h H v H1 hd h1;obtain⟨e2,d2⟩:=k v H1 a H' d1 h2;exact⟨by rw[bind_ok e1];exact e2,d2⟩
def cf_ite(c:V){x x' y y':M α}(h:CfR G x y)(k:CfR G x' y'):CfR G (M.ite c x x') (M.ite c y y'):=by
 cases c<;>first|exact zbK|skip
 rename_i b;cases b
 ·exact k
 ·exact h
def zcL{H:Heap}{a v:α}{H':Heap}(hd:Dcl H G) (h:(v,H)=(a,H')):(some (v,H.pluc G):Option (α×Heap))=some (a,H'.pluc G)/\Dcl H' G:=by
 injection h with h1 h2
 subst h1 h2;exact⟨rfl,hd⟩
def zjP{H:Heap}{a v:α}{H':Heap}{id:Nat}{b:Blk}{o:Option Blk}(hd:Dcl H G)(hb:H.get id=some b) (h:(v,H.set id o)=(a,H')):(some (v,(H.pluc G).set id o):Option (α×Heap))=some (a,H'.pluc G)/\Dcl H' G:=by
 injection h with h1 h2
 subst h1 h2;obtain⟨e,d⟩:=hd.set hb o;exact⟨by rw[e],d⟩
def zjQ{H:Heap}{a v:α}{H':Heap}{b:Blk}(hd:Dcl H G) (h:(v,H.new b)=(a,H')):(some (v,(H.pluc G).new b):Option (α×Heap))=some (a,H'.pluc G)/\Dcl H' G:=by
 injection h with h1 h2
 subst h1 h2;obtain⟨e,d⟩:=hd.new b;exact⟨by rw[e],d⟩
def cf_snew{H:Heap}{a v:α}{H':Heap}{id:Nat}{b c:Blk}{o:Option Blk}(hd:Dcl H G)(hb:H.get id=some b) (h:(v,(H.set id o).new c)=(a,H')):(some (v,((H.pluc G).set id o).new c):Option (α×Heap))=some (a,H'.pluc G)/\Dcl H' G:=by
 injection h with h1 h2
 subst h1 h2;obtain⟨e,d⟩:=hd.set hb o;obtain⟨e',d'⟩:=d.new c;exact⟨by rw[e,e'],d'⟩
def zdh{p:Prop}[Decidable p] {X Y:Option (α×Heap)} {X' Y':Option (α×Heap)} {a:α} {H':Heap} {R:Prop} (h1:X=some (a,H')->X'=some (a,H'.pluc G)/\R) (h2:Y=some (a,H')->Y'=some (a,H'.pluc G)/\R) (h:(if p then X else Y)=some (a,H')):(if p then X' else Y')=some (a,H'.pluc G)/\R:=by
 by_cases hp:p
 ·rw[if_pos hp]at h ⊢;exact h1 h
 ·rw[if_neg hp]at h ⊢;exact h2 h
def zaD{a:α}{H':Heap}{X:Prop} (h:(none:Option (α×Heap))=some (a,H')):X:=by cases h
def ze2{H:Heap}{id:Nat} {k k':Blk->Option (α×Heap)} {a:α} {H':Heap} (hd:Dcl H G) (h:(H.get id).bind k=some (a,H')) (hk:∀b,H.get id=some b->k b=some (a,H')->k' b=some (a,H'.pluc G)/\Dcl H' G):((H.pluc G).get id).bind k'=some (a,H'.pluc G)/\Dcl H' G:=by
 rw[yaa]at h;obtain⟨b,hb,h⟩:=h;rw[hd.get hb];exact hk b hb h
def zlT{γ:Type}{o:Option γ}{k k':γ->α×Heap}{a:α}{H':Heap}{R:Prop} (h:o.map k=some (a,H')) (hk:∀b,some (k b)=some (a,H')->some (k' b)=some (a,H'.pluc G)/\R):o.map k'=some (a,H'.pluc G)/\R:=by
 cases o with
 | none=>cases h
 | some b=>exact hk b h
end
def zaP{γ:Type}{x y:γ}(h:some x=some y):x=y:=Option.some.inj h
def zrk(n:Option Nat)(p:V):CfM G (mload n p):=by
 intro H a H' hd h;cases p<;>first|exact zaD h|skip
 ·exact ze2 hd h λb hb h=>zlT h λv h=>zcL hd (zaP h)
 ·exact zlT h λv h=>zcL hd (zaP h)
def cf_store(n:Nat)(p x:V):CfM G (mstore n p x):=by
 intro H a H' hd h;cases p<;>first|exact zaD h|skip
 exact ze2 hd h λb hb h=>zdh (λh=>zjP hd hb (zaP h)) zaD h
def cf_box(ty:TypeId)(x:V):CfM G (mbox ty x):=by
 intro H a H' hd h;exact zdh (λh=>zjQ hd (zaP h)) zaD h
def cf_slit(ty:TypeId)(l:Nat)(z:List V) (ps:List (Nat×Nat×V)):CfM G (mslit ty l z ps):=by
 intro H a H' hd h;exact zlT h λcs h=>zjQ hd (zaP h)
def zqD(hd:Dcl H G){e:Nat}{v:V}{q:List V×Nat}(h:rcells e H v=some q):rcells e (H.pluc G) v=some q:=h
def zrs(hd:Dcl H G){e:Nat}{v:V}{q:List V×Nat}(h:acells e H v=some q):acells e (H.pluc G) v=some q:=h
def cf_ac{α:Type}{H:Heap}{e:Nat}{v:V} {k k':List V×Nat->Option (α×Heap)} {a:α} {H':Heap} (hd:Dcl H G) (h:(acells e H v).bind k=some (a,H')) (hk:∀q,k q=some (a,H')->k' q=some (a,H'.pluc G)/\Dcl H' G):(acells e (H.pluc G) v).bind k'=some (a,H'.pluc G)/\Dcl H' G:=by
 rw[yaa]at h;obtain⟨q,hq,h⟩:=h;rw[zrs hd hq];exact hk q h
def cf_rc{α:Type}{H:Heap}{e:Nat}{v:V} {k k':List V×Nat->Option (α×Heap)} {a:α} {H':Heap} (hd:Dcl H G) (h:(rcells e H v).bind k=some (a,H')) (hk:∀q,k q=some (a,H')->k' q=some (a,H'.pluc G)/\Dcl H' G):(rcells e (H.pluc G) v).bind k'=some (a,H'.pluc G)/\Dcl H' G:=by
 rw[yaa]at h;obtain⟨q,hq,h⟩:=h;rw[zqD hd hq];exact hk q h
def znh(ty e b:Nat)(q:List V×Nat)(x:V):CfM G (mappendq ty e b q x):=by
 intro H a H' hd h;cases x<;>first|exact zaD h|skip
 ·exact zdh (λh=>zcL hd (zaP h)) (zdh (λh=>zjQ hd (zaP h)) zaD) h
 ·rename_i id off len cap;refine ze2 hd h λb hb h=>zdh (λh=>?_) zaD h;cases cap with
  | fix c=>exact zdh (zdh (λh=>zjP hd hb (zaP h)) zaD) (zdh (λh=>zjQ hd (zaP h)) zaD) h
  | opn ee=>exact zdh (zdh (λh=>zcL hd (zaP h)) (zdh (λh=>cf_snew hd hb (zaP h)) zaD)) (zdh (λh=>zcL hd (zaP h)) (zdh (λh=>zjP hd hb (zaP h)) zaD)) h
 ·exact zdh (λh=>zcL hd (zaP h)) zaD h
def zvI(ty e b:Nat)(x y:V):CfM G (mappend ty e b x y):=by
 intro H a H' hd h;exact cf_ac hd h λq h=>znh ty e b q x H a H' hd h
def ztf(ty b:Nat)(z:List V)(x y:V):CfM G (mappendz ty b z x y):=by
 intro H a H' hd h;cases y<;>first|exact zaD h|skip
 exact zdh (λh=>znh _ _ _ _ _ H a H' hd h) zaD h
def cf_copy(e:Nat)(x y:V):CfM G (mcopy e x y):=by
 intro H a H' hd h;refine cf_ac hd h λq h=>?_;cases x<;>first|exact zaD h|skip
 ·exact zcL hd (zaP h)
 ·exact ze2 hd h λb hb h=>zdh (λh=>zjP hd hb (zaP h)) zaD h
def cf_tostr(x:V):CfM G (mtostr x):=by
 intro H a H' hd h;exact cf_rc hd h λq h=>zlT h λv h=>zcL hd (zaP h)
def zng(ty:TypeId)(x:V):CfM G (mtobytes ty x):=by
 intro H a H' hd h;cases x<;>first|exact zaD h|skip
 exact zdh (λh=>zjQ hd (zaP h)) zaD h
def zvC(ty:TypeId)(x:V):CfM G (mremark ty x):=by
 intro H a H' hd h;cases x<;>first|exact zaD h|skip
 ·exact zng ty (.str _) H a H' hd h
 ·exact ze2 hd h λb hb h=>zdh zaD (λh=>zcL hd (zaP h)) h
def ztc(ty b:Nat)(z:List V)(l c:V):CfM G (mmkslice ty b z l c):=by
 intro H a H' hd h;unfold mmkslice at h ⊢;split at h
 ·exact zdh (λh=>zjQ hd (zaP h)) zaD h
 ·exact zaD h
def cf_mknz(ty:TypeId)(x:V):CfM G (mmknz ty x):=by
 intro H a H' hd h;unfold mmknz at h ⊢;split at h
 ·exact zdh (λh=>zjQ hd (zaP h)) zaD h
 ·exact zaD h
def zvB(e:Nat)(x lo hi:V):CfM G (mslice2 e x lo hi):=by
 intro H a H' hd h;unfold mslice2 at h ⊢;split at h
 ·exact ze2 hd h λb hb h=>zdh (λh=>zcL hd (zaP h)) zaD h
 ·exact zaD h
def cf_clear(z:List V)(x:V):CfM G (mclear z x):=by
 intro H a H' hd h;cases x<;>first|exact zaD h|skip
 exact zdh (λh=>zcL hd (zaP h)) (λh=>ze2 hd h λb hb h=>zdh (λh=>zjP hd hb (zaP h)) zaD h) h
def cf_mkmap(ty:TypeId):CfM G (mmkmap ty):=by
 intro H a H' hd h;exact zjQ hd (zaP h)
def zvF(mk:MK)(z:V)(ok:Bool)(x k:V):CfM G (mlookup mk z ok x k):=by
 intro H a H' hd h;cases x<;>first|exact zaD h|skip
 exact ze2 hd h λb hb h=>zdh (λh=>zlT h λv h=>zcL hd (zaP h)) zaD h
def zvD(mk:MK)(x k v:V):CfM G (mmapset mk x k v):=by
 intro H a H' hd h;cases x<;>first|exact zaD h|skip
 exact ze2 hd h λb hb h=>zdh (λh=>zlT h λv h=>zjP hd hb (zaP h)) zaD h
def zvE(x:V):CfM G (mmaplen x):=by
 intro H a H' hd h;cases x<;>first|exact zaD h|skip
 rename_i id;have h':(H.get id).bind (λb=>some (V.int .i64 ((b.cells.length/2:Nat):Int),H))=some (a,H'):=by rw[<-h];simp only[mmaplen];cases H.get id<;>rfl
 have:=ze2 (k':=λb=>some (V.int .i64 ((b.cells.length/2:Nat):Int),H.pluc G)) hd h' λb hb h=>zcL hd (zaP h);rw[<-this.1];exact⟨by simp only[mmaplen];cases (H.pluc G).get id<;>rfl,this.2⟩
def cf_aload(k:IntKind)(p:V):CfM G (matoload k p):=by
 intro H a H' hd h;unfold matoload at h ⊢;rw[yaa]at h;obtain⟨⟨v,H1⟩,h1,h⟩:=h;obtain⟨e1,d1⟩:=zrk none p H v H1 hd h1;rw[e1];dsimp only[Option.bind_some]at h ⊢;cases v<;>first|exact zaD h|skip
 exact zdh (λh=>zcL d1 (zaP h)) zaD h
def cf_aadd(k:IntKind)(p y:V):CfM G (matoadd k p y):=by
 intro H a H' hd h;unfold matoadd at h ⊢;split at h
 ·refine ze2 hd h λb hb h=>?_;split at h
  ·rename_i hc;exact zdh (λh=>zjP hd hb (zaP h)) zaD h
  ·exact zaD h
 ·exact zaD h
def ztd(p:Bool)(o:Nat)(x n:V):CfM G (mmapdrop p o x n):=by
 intro H a H' hd h;unfold mmapdrop at h ⊢;split at h
 ·refine ze2 hd h λb hb h=>?_;split at h
  ·rename_i hc;exact ze2 hd h λb hb h=>zlT h λv h=>zjP hd hb (zaP h)
  ·exact zaD h
 ·exact zaD h
section
variable {g:Sem'}
def zay{A:Fr}{x:Arg}{k:V->M V} (h:∀v,CfM G (k v)):CfM G (with1 A x k):=by
 unfold with1;cases x.ev A with
 | none=>exact zbK
 | some v=>exact h v
def zkt{A:Fr}{xs:List Arg}{k:List V->M V} (h:∀v,CfM G (k v)):CfM G (withs A xs k):=by
 unfold withs;cases evs A xs with
 | none=>exact zbK
 | some v=>exact h v
def cf_run (hg:∀f args,CfM G (g f args)) (A:Fr) (ins:I):CfM G (ins.run g A):=by
 cases ins<;>unfold I.run<;>dsimp only
 case mkmap=>exact cf_mkmap _
 case build zero parts=>cases zaF A parts with|none=>exact zbK|some ps=>exact zd9 _
 case slit=>rename_i ps;cases zaF A ps with|none=>exact zbK|some ps=>exact cf_slit _ _ _ _
 case call f args=>exact zkt λv=>hg f v
 case mkfn f caps=>exact zkt λv=>zbs _
 case callv x args=>exact zay λv=>zkt λvs=>by cases v<;>first|exact zbK|exact hg _ _
 case slice ck esz x lo hi mx=>
  refine zay λv=>?_;split
  ·exact zd9 _
  ·exact zbK
 case minmax=>exact zay λv=>zkt λvs=>zd9 _
 all_goals first
  | exact zay λv=>zbs _
  | exact zay λv=>zd9 _
  | exact zay λv=>zay λw=>zd9 _
  | exact zay λv=>zay λw=>zay λu=>zd9 _
  | exact zay λv=>cf_box _ _
  | exact zay λv=>zrk _ _
  | exact zay λv=>cf_tostr _
  | exact zay λv=>zng _ _
  | exact zay λv=>zvC _ _
  | exact zay λv=>cf_mknz _ _
  | exact zay λv=>cf_clear _ _
  | exact zay λv=>zvE _
  | exact zay λv=>cf_aload _ _
  | exact zay λv=>zay λw=>cf_store _ _ _
  | exact zay λv=>zay λw=>zvI _ _ _ _ _
  | exact zay λv=>zay λw=>ztf _ _ _ _ _
  | exact zay λv=>zay λw=>cf_copy _ _ _
  | exact zay λv=>zay λw=>ztc _ _ _ _ _
  | exact zay λv=>zay λw=>zvF _ _ _ _ _
  | exact zay λv=>zay λw=>cf_aadd _ _ _
  | exact zay λv=>zay λw=>ztd _ _ _ _
  | exact zay λv=>zay λw=>zay λu=>zvB _ _ _ _
  | exact zay λv=>zay λw=>zay λu=>zvD _ _ _ _
def zte{A:Fr} {gd:Option (Nat×Bool)} {x:M V} (h:CfM G x):CfM G (guarded A gd x):=by
 unfold guarded;cases gd with
 | none=>exact h
 | some p=>
  dsimp only;cases A.get p.1 with
  | none=>exact zbK
  | some v=>
   cases v with
   | bool b=>
    dsimp only;by_cases hb:b=p.2
    ·rw[if_pos hb];exact h
    ·rw[if_neg hb];exact zbs _
   | tup vs=>cases vs with|nil=>exact zbs _|cons _ _=>exact zbK
   | _=>exact zbK
def ztg (hg:∀f args,CfM G (g f args)) (A:Fr) (o:AO):CfM G (o.run g A):=zte (cf_run hg A o.ins)
def cf_ops (hg:∀f args,CfM G (g f args)):∀(l:List AO) (A:Fr),CfM G (zdR g l A)
 | [],A=>zbs A
 | o::l,A=>za7 (ztg hg A o) λv=>cf_ops hg l _
def zvA(v:V)(h h':Heap):CfR G (M.unch v h h') (M.unch v (h.pluc G) (h'.pluc G)):=by
 intro H a H' hd e;unfold M.unch at e ⊢;split at e
 ·rename_i hp;rw[if_pos]
  ·exact zcL hd (zaP e)
  ·intro id hid;exact hp id hid
 ·exact zaD e
def zoA (un:List (Nat×Nat)) (j:Nat) (h h':Heap):∀rs,CfR G (za3 un j h h' rs) (za3 un j (h.pluc G) (h'.pluc G) rs)
 | []=>zbs ()
 | (i,a)::rs=>by
  unfold za3;by_cases hc:un.contains (i,j)=true
  ·rw[if_pos hc,if_pos hc];exact za7 (zvA a h h') λ_=>zoA un j h h' rs
  ·rw[if_neg hc,if_neg hc];exact zoA un j h h' rs
def zoB (un:List (Nat×Nat)) (i:Nat) (a:V):∀js,CfR G (za6 un i a js) (za6 un i a (js.map λq=>(q.1,q.2.1.pluc G,q.2.2.pluc G)))
 | []=>zbs ()
 | (j,h,h')::js=>by
  show CfR G (za6 un i a ((j,h,h')::js)) (za6 un i a ((j,h.pluc G,h'.pluc G)::js.map λq=>(q.1,q.2.1.pluc G,q.2.2.pluc G)));unfold za6;by_cases hc:un.contains (i,j)=true
  ·rw[if_pos hc,if_pos hc];exact za7 (zvA a h h') λ_=>zoB un i a js
  ·rw[if_neg hc,if_neg hc];exact zoB un i a js
def zvG{α:Type}{f f':Heap->M α} (h:∀H,Dcl H G->CfR G (f H) (f' (H.pluc G))):CfR G (M.getH.bind f) (M.getH.bind f'):=by
 intro H a H' hd e;exact h H hd H a H' hd e
def cf_draw (hg:∀f args,CfM G (g f args)) (un:List (Nat×Nat)):∀(l:List AO) (p:Nat) (rs:List (Nat×V)) (js:List (Nat×Heap×Heap)) (A:Fr),CfR G (zaC g un p rs js l A) (zaC g un p rs (js.map λq=>(q.1,q.2.1.pluc G,q.2.2.pluc G)) l A):=by
 intro l
 induction l with
 | nil=>intro p rs js A;exact zbs A
 | cons o l ih=>
  intro p rs js A;unfold zaC;cases hk:o.ins.kind with
  | read x=>
   dsimp only;unfold zaC.with1';cases x.ev A with
   | none=>exact za7 (ztg hg A o) λv=>za7 (zoB un p _ js) λ_=>ih _ _ _ _
   | some a=>exact za7 (ztg hg A o) λv=>za7 (zoB un p _ js) λ_=>ih _ _ _ _
  | act=>exact zvG λh hd=>za7 (ztg hg A o) λv=>zvG λh' hd'=>za7 (zoA un p h h' rs) λ_=>ih _ _ ((p,h,h')::js) _
  | pure=>exact za7 (ztg hg A o) λv=>ih _ _ _ _
  | new=>exact za7 (ztg hg A o) λv=>ih _ _ _ _
def cf_iter{body:List V->M Res} (h:∀L,CfM G (body L)) (L:List V):CfM G (M.iter body L):=by
 intro H a H' hd e;obtain⟨n,hn⟩:=zeO e;have key:∀(n:Nat) (L:List V),CfM G (iterN body n L):=by
  intro n
  induction n with
  | zero=>intro L;exact zbK
  | succ n ih=>
   intro L;show CfM G (M.join (body L) (iterN body n));refine za7 (h L) λr=>?_;cases r with
   | nrm L'=>exact ih L'
   | ex id L'=>exact zbs _
   | ret L'=>exact zbs _
 obtain⟨e1,d1⟩:=key n L H a H' hd hn;exact⟨zfJ e1,d1⟩
def zju(A:Fr):∀rv,CfM G (results A rv)
 | []=>zbs _
 | .tmp t::rs=>za7 (zd9 _) λv=>za7 (zju A rs) λvs=>zbs _
 | .cell t n::rs=>za7 (zd9 _) λa=>za7 (zrk n a) λv=>za7 (zju A rs) λvs=>zbs _
def cf_exec (hg:∀f args,CfM G (g f args)) (rv:List RV):∀(c:C) (cx:List (Nat×List Nat)) (J:List Nat) (A:Fr),CfM G (exec g rv c cx J A):=by
 intro c
 induction c with
 | done=>intro cx J A;exact za7 (zd9 _) λL=>zbs _
 | bad=>intro cx J A;exact zbK
 | ops l k ih=>intro cx J A;exact za7 (cf_ops hg l A) λA'=>ih _ _ _
 | draw l un k ih=>intro cx J A;exact za7 (cf_draw hg un l 0 [] [] A) λA'=>ih _ _ _
 | cond x a b iha ihb=>
  intro cx J A;simp only[exec];cases x.ev A with
  | none=>exact zbK
  | some c=>exact cf_ite c (iha _ _ _) (ihb _ _ _)
 | condJ x a b J' W k iha ihb ihk=>
  intro cx J A;simp only[exec];cases x.ev A with
  | none=>exact zbK
  | some c=>
   refine za7 (cf_ite c (iha _ _ _) (ihb _ _ _)) λr=>?_;cases r with
   | nrm L=>exact ihk _ _ _
   | ex id L=>exact zbs _
   | ret L=>exact zbs _
 | blk id a J' W k iha ihk=>
  intro cx J A;simp only[exec,M.blk];refine za7 (iha _ _ _) λr=>?_;cases r with
  | nrm L=>exact ihk _ _ _
  | ex i L=>
   dsimp only;by_cases e:i=id
   ·simp only[if_pos e];exact ihk _ _ _
   ·simp only[if_neg e];exact zbs _
  | ret L=>exact zbs _
 | loop a K W iha=>
  intro cx J A;exact za7 (zd9 _) λL=>cf_iter (λL=>iha _ _ _) L
 | exit id=>
  intro cx J A;simp only[exec];cases zhA cx id with
  | none=>exact zbK
  | some J=>exact za7 (zd9 _) λL=>zbs _
 | ret=>intro cx J A;exact za7 (zju A rv) λL=>zbs _
def cf_fn (hg:∀f args,CfM G (g f args)) (f:Fn') (args:List V):CfM G (f.run g args):=za7 (cf_exec hg _ _ _ _ _) λr=>by
 cases r with
 | ret L=>exact zbs _
 | nrm L=>exact zbK
 | ex id L=>exact zbK
end
def zvH{T:FuncId->Option Fn'}:∀(n:Nat) (f:FuncId) (args:List V),CfM G (deep T n f args)
 | 0,f,args=>zbK
 | n+1,f,args=>by
  unfold deep;cases T f with
  | none=>exact zbK
  | some ir=>
   dsimp only;split
   ·exact cf_fn (zvH n) ir args
   ·exact zbK
def cf_sem{T:FuncId->Option Fn'}(f:FuncId)(args:List V):CfM G (sem T f args):=by
 intro H a H' hd e;unfold sem at e;split at e
 ·obtain⟨e1,d1⟩:=zvH _ f args H a H' hd e;exact⟨zkL e1,d1⟩
 ·cases e
end
def Heap.Cl(H:Heap):Prop:=∀i,H.next<=i->H.get i=none
def cl_new{H:Heap}(h:H.Cl)(b:Blk):(H.new b).Cl:=λi hi=>by
 rw[zaf]at hi;rw[zaA _ _ (by omega)];exact h i (by omega)
def cl_set{H:Heap}(h:H.Cl){id:Nat}(hl:id<H.next)(o:Option Blk):(H.set id o).Cl:=λi hi=>by
 have hi:H.next<=i:=hi;rw[zag _ _ (by omega)];exact h i hi
def zsJ{T:FuncId->Option Fn'}{f:FuncId}{args:List V}{H:Heap}{Q:V->Heap->Prop}(hc:H.Cl) (h:Ok (sem T f args) H Q):Ok (sem T f args) H λv H'=>Q v H'/\H'.Cl:=by
 obtain⟨v,H',h1,h2⟩:=h;exact⟨v,H',h1,h2,(cf_sem (G:=⟨0⟩) f args H v H' ⟨hc,yaJ _⟩ h1).2.cl⟩
mutual
def V.still:V->Bool
 | .ptr _ _=>false
 | .mp _=>false
 | .sl _ _ _ _=>false
 | .rs cells _=>V.stills cells
 | .rp cells _=>V.stills cells
 | .fn _ caps=>V.stills caps
 | .agg cells=>V.stills cells
 | .tup vs=>V.stills vs
 | .lit (.int _ _)=>false
 | _=>true
def V.stills:List V->Bool
 | []=>true
 | x::xs=>x.still&&V.stills xs
end
def Arg.still:Arg->Bool
 | .s _=>true
 | .c v=>v.still
def zgL:Option Arg->Bool
 | none=>true
 | some x=>x.still
def I.still:I->Bool
 | .mkmap _=>true
 | .maplen x | .aload _ x | .mv x | .box _ x | .load _ x | .nilck x | .un _ x | .cint _ x | .tostr x | .tobytes _ x | .faddr _ x | .field _ _ x | .ext _ x | .len x | .slen x | .op1 _ x | .mknz _ x | .remark _ x=>x.still
 | .clear z x=>V.stills z&&x.still
 | .pick c a b | .slice2 _ c a b | .mapset _ c a b=>c.still&&(a.still&&b.still)
 | .build z ps | .slit _ _ z ps=>V.stills z&&ps.all λp=>p.2.2.still
 | .store _ p x | .aadd _ p x | .mdrop _ _ p x=>p.still&&x.still
 | .lookup _ z _ p x=>z.still&&(p.still&&x.still)
 | .bin _ x y | .eq _ _ x y | .iaddr _ _ x y | .index _ _ _ x y | .sindex x y | .append _ _ _ x y | .copy _ x y=>x.still&&y.still
 | .appendz _ _ z x y | .mkslice _ _ z x y=>V.stills z&&(x.still&&y.still)
 | .slice _ _ x lo hi mx=>x.still&&(zgL lo&&(zgL hi&&zgL mx))
 | .minmax _ x xs=>x.still&&xs.all Arg.still
 | .call _ xs | .mkfn _ xs=>xs.all Arg.still
 | .callv x xs=>x.still&&xs.all Arg.still
def AO.still(o:AO):Bool:=o.ins.still
def C.still:C->Bool
 | .done | .bad | .exit _ | .ret=>true
 | .ops l k=>l.all AO.still&&k.still
 | .draw l _ k=>l.all AO.still&&k.still
 | .cond x a b=>x.still&&(a.still&&b.still)
 | .condJ x a b _ _ k=>x.still&&(a.still&&(b.still&&k.still))
 | .blk _ a _ _ k=>a.still&&k.still
 | .loop a _ _=>a.still
end Go.Ax
/- Ax50 -/
namespace Go.Ax.Y
structure Nm where
 f:Nat->Nat
 w:Nat->V
 s:Nat->Nat
def okw(v:V):V:=if v.one=true then v else .any
def zuC(v:V):(okw v).one=true:=by
 unfold okw;by_cases h:v.one=true
 ·rw[if_pos h];exact h
 ·rw[if_neg h];rfl
def zuB{v:V}(h:v.one=true):v.cells=[v]:=by cases v<;>first|rfl|cases h
def one_okc{v:V}(h:v.one=true):v.okc=true:=by cases v<;>first|rfl|exact h|cases h
def sy(d:Nm):Value->V
 | .int .u8 n=>.int .u8 (d.s n.toNat:Nat)
 | .int .i64 n=>okw (d.w n.toNat)
 | x=>.lit x
mutual
def sh(d:Nm):V->V
 | .ptr id off=>.ptr (d.f id) off
 | .mp id=>.mp (d.f id)
 | .sl id off len cap=>.sl (d.f id) off len cap
 | .rs cells len=>.rs (shL d cells) len
 | .rp cells off=>.rp (shL d cells) off
 | .fn f caps=>.fn f (shL d caps)
 | .agg cells=>.agg (shL d cells)
 | .tup vs=>.tup (shL d vs)
 | .bool b=>.bool b
 | .int k n=>.int k n
 | .str s=>.str s
 | .nilp=>.nilp
 | .nils=>.nils
 | .lit x=>sy d x
 | .any=>.any
def shL(d:Nm):List V->List V
 | []=>[]
 | x::xs=>sh d x::shL d xs
end
section
variable {d:Nm}
def sy_cells(x:Value):(sy d x).cells=[sy d x]:=by
 unfold sy;split
 ·rfl
 ·exact zuB (zuC _)
 ·rfl
def sy_okc{x:Value} (h:V.okc (.lit x)=true):(sy d x).okc=true:=by
 unfold sy;split
 ·rfl
 ·exact one_okc (zuC _)
 ·exact h
def shL_map(l:List V):shL d l=l.map (sh d):=by
 induction l with
 | nil=>rfl
 | cons x xs ih=>rw[ya5,<-ih];rfl
def shL_len(l:List V):(shL d l).length=l.length:=by rw[shL_map,yai]
def zqs(l:List V)(i:Nat):(shL d l)[i]?=l[i]?.map (sh d):=by rw[shL_map,yaT]
def shL_drop(l:List V)(i:Nat):(shL d l).drop i=shL d (l.drop i):=by rw[shL_map,shL_map,ycH]
def shL_take(l:List V)(i:Nat):(shL d l).take i=shL d (l.take i):=by rw[shL_map,shL_map,yb5]
def shL_app(l m:List V):shL d (l++m)=shL d l++shL d m:=by rw[shL_map,shL_map,shL_map,yaP]
def zhH(v:V):(sh d v).cells=shL d v.cells:=by
 cases v<;>try (simp[sh,shL,V.cells];done)
 exact sy_cells _
def zt1{v:V}(h:v.okc=true):(sh d v).okc=true:=by
 cases v<;>first|rfl|exact sy_okc h|cases h
def zdQ(xs:List V)(o:Nat)(ys:List V):splice (shL d xs) o (shL d ys)=shL d (splice xs o ys):=by
 unfold splice;rw[shL_take,shL_len,shL_drop,<-shL_app,<-shL_app]
def sh_ldc'(n:Option Nat)(cs:List V)(o:Nat):ldc n (shL d cs) o=(ldc n cs o).map (sh d):=by
 cases n with
 | none=>exact zqs cs o
 | some n=>
  simp only[ldc];rw[shL_len];by_cases h:o+n<=cs.length
  ·rw[if_pos h,if_pos h,shL_drop,shL_take];simp[sh]
  ·rw[if_neg h,if_neg h];rfl
def zrz{n:Option Nat}{cs:List V}{o:Nat}{r:V}(h:ldc n cs o=some r):ldc n (shL d cs) o=some (sh d r):=by rw[sh_ldc',h];rfl
def get_of{l:List V}{i:Nat}{r:V} (h:l[i]?=some r):(shL d l)[i]?=some (sh d r):=by rw[zqs,h];rfl
def zt6{op:BinOp}{k:IntKind}{a b:Int}{r:V}(h:zcy op k a b=some r):sh d r=r:=by
 cases op<;>simp only[zcy]at h<;>first|(cases h;done)|(injection h with h;subst h;rfl)|(split at h<;>first|(cases h;done)|(injection h with h;subst h;rfl))
def ztY{op:BinOp}{a b:ByteArray}{r:V}(h:zrw op a b=some r):sh d r=r:=by
 cases op<;>simp only[zrw]at h<;>first|(cases h;done)|(injection h with h;subst h;rfl)|(split at h<;>first|(cases h;done)|(injection h with h;subst h;rfl))
def map_flt{k:FloatKind}{o:Option Nat}{r:V} (h:(o.map λn=>V.lit (.float k n))=some r):sh d r=r:=by
 cases o with
 | none=>cases h
 | some n=>injection h with h;subst h;rfl
def zt7{op:BinOp}{k:FloatKind}{a b:Nat}{r:V}(h:zrZ op k a b=some r):sh d r=r:=by
 cases op<;>simp only[zrZ]at h<;>first|(cases h;done)|exact map_flt h|(injection h with h;subst h;rfl)
def sh_bin{op:BinOp}{x y r:V}(h:bin op x y=some r):bin op (sh d x) (sh d y)=some (sh d r):=by
 have key:sh d x=x/\sh d y=y/\sh d r=r:=by
  unfold bin at h;split at h
  ·refine⟨rfl,rfl,?_⟩;split at h
   ·split at h
    ·cases h
    ·injection h with h;subst h;rfl
   ·split at h
    ·cases h
    ·injection h with h;subst h;rfl
   ·split at h
    ·exact zt6 h
    ·cases h
  ·exact⟨rfl,rfl,ztY h⟩
  ·refine⟨rfl,rfl,?_⟩;split at h
   ·exact zt7 h
   ·cases h
  ·cases h
 rw[key.1,key.2.1,key.2.2,h]
def sh_un{op:UnOp}{x r:V}(h:un op x=some r):un op (sh d x)=some (sh d r):=by
 unfold un at h;split at h<;>first|(cases h;done)|(injection h with h;subst h;rfl)
def sh_cint{k:IntKind}{x r:V}(h:cint k x=some r):cint k (sh d x)=some (sh d r):=by
 have key:sh d x=x/\sh d r=r:=by
  unfold cint at h;split at h
  ·injection h with h;subst h;exact⟨rfl,rfl⟩
  ·split at h
   ·split at h
    ·injection h with h;subst h;exact⟨rfl,rfl⟩
    ·cases h
   ·cases h
  ·cases h
 rw[key.1,key.2,h]
def sh_op1{o:U1}{x r:V}(h:op1 o x=some r):op1 o (sh d x)=some (sh d r):=by
 unfold op1 at h;split at h
 ·injection h with h;subst h;rfl
 ·injection h with h;subst h;rfl
 ·injection h with h;subst h;rfl
 ·split at h
  ·rename_i hc;injection h with h;subst h
   simp only[sh,op1,if_pos hc]
  ·cases h
 ·split at h
  ·rename_i hc;injection h with h;subst h
   simp only[sh,op1,if_pos hc]
  ·cases h
 ·cases h
def sh_pick{c a b r:V}(h:pick c a b=some r):pick (sh d c) (sh d a) (sh d b)=some (sh d r):=by
 unfold pick at h;split at h
 ·rename_i t;injection h with h;subst h
  cases t<;>rfl
 ·cases h
def sh_nilck{x r:V}(h:nilck x=some r):nilck (sh d x)=some (sh d r):=by
 unfold nilck at h;split at h<;>first|(cases h;done)|(injection h with h;subst h;rfl)
def sh_faddr{o:Nat}{x r:V}(h:faddr o x=some r):faddr o (sh d x)=some (sh d r):=by
 unfold faddr at h;split at h<;>first|(cases h;done)|(injection h with h;subst h;rfl)
def sh_iaddr{al:Option Nat}{e:Nat}{x i r:V}(h:iaddr al e x i=some r):iaddr al e (sh d x) (sh d i)=some (sh d r):=by
 unfold iaddr at h;split at h
 ·split at h<;>first|(cases h;done)|skip
  all_goals
   split at h
   ·rename_i hc;injection h with h;subst h
    simp only[sh,iaddr,if_pos hc]
   ·cases h
 ·cases h
def sh_index{l e:Nat}{n:Option Nat}{x i r:V}(h:index l e n x i=some r):index l e n (sh d x) (sh d i)=some (sh d r):=by
 unfold index at h;split at h
 ·split at h
  ·rename_i hc;simp only[sh,index,if_pos hc];exact zrz h
  ·cases h
 ·cases h
def ztZ{x i r:V}(h:sindex x i=some r):sindex (sh d x) (sh d i)=some (sh d r):=by
 unfold sindex at h;split at h
 ·split at h
  ·rename_i hc;simp only[sh,sindex,if_pos hc];rw[h];obtain⟨b,_,rfl⟩:=yac.1 h;rfl
  ·cases h
 ·cases h
def sh_field{o:Nat}{n:Option Nat}{x r:V}(h:field o n x=some r):field o n (sh d x)=some (sh d r):=by
 unfold field at h;split at h
 ·exact zrz h
 ·cases h
def sh_ext{i:Nat}{x r:V}(h:ext i x=some r):ext i (sh d x)=some (sh d r):=by
 unfold ext at h;split at h
 ·exact get_of h
 ·cases h
def sh_slen{x r:V}(h:slen x=some r):slen (sh d x)=some (sh d r):=by
 unfold slen at h;split at h<;>first|(cases h;done)|(injection h with h;subst h;rfl)
def sh_vlen{x r:V}(h:vlen x=some r):vlen (sh d x)=some (sh d r):=by
 unfold vlen at h;split at h<;>first|(cases h;done)|(injection h with h;subst h;rfl)
def shP(d:Nm) (ps:List (Nat×Nat×V)):List (Nat×Nat×V):=ps.map λp=>(p.1,p.2.1,sh d p.2.2)
def zqr:∀{ps:List (Nat×Nat×V)} {cs r:List V},fill cs ps=some r->fill (shL d cs) (shP d ps)=some (shL d r)
 | [],cs,r,h=>by injection h with h;subst h;rfl
 | (o,s,v)::ps,cs,r,h=>by
  simp only[fill]at h;show fill (shL d cs) ((o,s,sh d v)::shP d ps) = _;simp only[fill];split at h
  ·rename_i hc;rw[if_pos (by rw[zhH,shL_len,shL_len];exact⟨hc.1,hc.2.1,zt1 hc.2.2⟩),zhH,zdQ];exact zqr h
  ·cases h
def zkk(z:List V)(n:Nat):zeros (shL d z) n=shL d (zeros z n):=by
 induction n with
 | zero=>rfl
 | succ n ih=>simp only[zeros];rw[ih,shL_app]
def zoY:∀{xs ys:List V} {b:Bool},zfu xs ys=some b->zfu (shL d xs) (shL d ys)=some b
 | [],[],b,h=>h
 | [],y::ys,b,h=>by simp[zfu]at h
 | x::xs,[],b,h=>by cases x<;>simp[zfu]at h
 | x::xs,y::ys,b,h=>by
  cases x<;>cases y<;>simp only[zfu]at h<;>first|(cases h;done)|skip
  simp only[shL,sh,zfu];split at h
  ·rename_i hk;rw[if_pos hk];cases he:zfu xs ys with
   | none=>rw[he]at h;cases h
   | some c=>rw[he]at h;rw[zoY he];exact h
  ·cases h
def zhG:∀{ks:List FK} {xs ys:List V} {b:Bool},zaG ks xs ys=some b->zaG ks (shL d xs) (shL d ys)=some b
 | [],[],[],b,h=>h
 | [],[],y::ys,b,h=>by simp[zaG]at h
 | [],x::xs,ys,b,h=>by cases ys<;>simp[zaG]at h
 | k::ks,[],ys,b,h=>by cases k<;>cases ys<;>simp[zaG]at h
 | k::ks,x::xs,[],b,h=>by cases k<;>cases x<;>simp[zaG]at h
 | k::ks,x::xs,y::ys,b,h=>by
  cases k<;>cases x<;>cases y<;>simp only[zaG]at h<;>first|(cases h;done)|skip
  ·simp only[shL,sh,zaG];cases he:zaG ks xs ys with
   | none=>rw[he]at h;cases h
   | some c=>rw[he]at h;rw[zhG he];exact h
  ·simp only[shL,sh,zaG];split at h
   ·rename_i hk;rw[if_pos hk];cases he:zaG ks xs ys with
    | none=>rw[he]at h;cases h
    | some c=>rw[he]at h;rw[zhG he];exact h
   ·cases h
def sh_eqv{k:EK}{x y:V}{b:Bool}(h:eqv k x y=some b):eqv k (sh d x) (sh d y)=some b:=by
 unfold eqv at h;split at h<;>first|(cases h;done)|(exact h)|skip
 ·split at h
  ·rename_i hc;simp only[sh,eqv];rw[if_pos (by rw[shL_len,shL_len];exact hc)];exact zoY h
  ·cases h
 ·exact zhG h
def sh_eqr{k:EK}{neg:Bool}{x y r:V}(h:eqr k neg x y=some r):eqr k neg (sh d x) (sh d y)=some (sh d r):=by
 unfold eqr at h ⊢;cases he:eqv k x y with
 | none=>rw[he]at h;cases h
 | some b=>rw[he]at h;rw[sh_eqv he];injection h with h;subst h;rfl
def sh_vint{v:V}{n:Int}(h:vint v=some n):vint (sh d v)=some n:=by
 unfold vint at h;split at h
 ·exact h
 ·cases h
def zkK{o:Option V}{r:Option Int}(h:zbR o=some r):zbR (o.map (sh d))=some r:=by
 cases o with
 | none=>exact h
 | some v=>
  simp only[yas,zbR]at h ⊢;cases hv:vint v with
  | none=>rw[hv]at h;cases h
  | some n=>rw[hv]at h;rw[sh_vint hv];exact h
def sh_min2{mx:Bool}{x y r:V}(h:min2 mx x y=some r):min2 mx (sh d x) (sh d y)=some (sh d r):=by
 unfold min2 at h;split at h
 ·injection h with h;subst h;rfl
 ·cases h
def zoV{mx:Bool}:∀{l:List V} {v r:V},minmax mx v l=some r->minmax mx (sh d v) (shL d l)=some (sh d r)
 | [],v,r,h=>by injection h with h;subst h;rfl
 | x::xs,v,r,h=>by
  simp only[shL,minmax]at h ⊢;cases hm:min2 mx v x with
  | none=>rw[hm]at h;cases h
  | some w=>rw[hm]at h;rw[sh_min2 hm];exact zoV h
def sh_build{z:List V} {ps:List (Nat×Nat×V)} {r:V} (h:build z ps=some r):build (shL d z) (shP d ps)=some (sh d r):=by
 unfold build at h ⊢;cases hf:fill z ps with
 | none=>rw[hf]at h;cases h
 | some cs=>rw[hf]at h;rw[zqr hf];injection h with h;subst h;rfl
def ztW{ck:CK}{e:Nat}{x:V}{lo hi mx:Option V}{r:V}(h:zav ck e x lo hi mx=some r):zav ck e (sh d x) (lo.map (sh d)) (hi.map (sh d)) (mx.map (sh d))=some (sh d r):=by
 unfold zav at h ⊢;cases h1:zbR lo with
 | none=>rw[h1]at h;cases h
 | some lo'=>
 cases h2:zbR hi with
 | none=>rw[h1,h2]at h;cases h
 | some hi'=>
 cases h3:zbR mx with
 | none=>rw[h1,h2,h3]at h;cases h
 | some mx'=>
 rw[zkK h1,zkK h2,zkK h3];rw[h1,h2,h3]at h;simp only[Option.bind_some]at h ⊢;split at h
 ·cases h
 rename_i hm;rw[if_neg hm];split at h<;>first|(cases h;done)|skip
 all_goals simp only[sh]
 ·split at h
  ·rename_i hc;injection h with h;subst h
   rw[if_pos hc];rfl
  ·cases h
 ·split at h
  ·rename_i hc;injection h with h;subst h
   rw[if_pos hc];rfl
  ·cases h
 ·split at h
  ·rename_i hc;injection h with h;subst h
   rw[if_pos hc,shL_drop];rfl
  ·cases h
 ·split at h
  ·rename_i hc;injection h with h;subst h
   rw[if_pos hc];rfl
  ·cases h
 ·cases mx' with
  | none=>
   simp only at h ⊢;split at h
   ·rename_i hc;injection h with h;subst h
    rw[if_pos hc];rfl
   ·cases h
  | some m=>
   simp only at h ⊢;split at h
   ·rename_i hc;injection h with h;subst h
    rw[if_pos hc];rfl
   ·cases h
 ·split at h
  ·rename_i hc;injection h with h;subst h
   rw[if_pos hc];rfl
  ·cases h
def zt5{mk:MK}{a b:V}{r:Bool}(h:keq mk a b=some r):keq mk (sh d a) (sh d b)=some r:=by
 unfold keq at h;split at h
 ·exact h
 ·exact zhG h
 ·cases h
def sh_kok{mk:MK}{a:V}(h:kok mk a=true):kok mk (sh d a)=true:=by
 unfold kok at h;split at h
 ·rfl
 ·simp only[sh,kok,shL_len];exact h
 ·cases h
def zt3{mk:MK}{k:V}:∀{l:List V} {r:Option V},mget mk k l=some r->mget mk (sh d k) (shL d l)=some (r.map (sh d))
 | [],r,h=>by injection h with h;subst h;rfl
 | [x],r,h=>by cases h
 | k'::v'::l,r,h=>by
  simp only[shL,mget]at h ⊢;cases hk:keq mk k k' with
  | none=>rw[hk]at h;cases h
  | some b=>
   rw[hk]at h;rw[zt5 hk];cases b with
   | true=>injection h with h;subst h;rfl
   | false=>exact zt3 h
def zt2{mk:MK}{k v:V}:∀{l r:List V},mset mk k v l=some r->mset mk (sh d k) (sh d v) (shL d l)=some (shL d r)
 | [],r,h=>by injection h with h;subst h;rfl
 | [x],r,h=>by cases h
 | k'::v'::l,r,h=>by
  simp only[shL,mset]at h ⊢;cases hk:keq mk k k' with
  | none=>rw[hk]at h;cases h
  | some b=>
   rw[hk]at h;rw[zt5 hk];cases b with
   | true=>injection h with h;subst h;rfl
   | false=>
    simp only[Option.bind_some,yaK,if_false]at h ⊢;cases hm:mset mk k v l with
    | none=>rw[hm]at h;cases h
    | some r'=>rw[hm]at h;rw[zt2 hm];injection h with h;subst h;rfl
def zoW{mk:MK}{k:V}:∀{l:List V},zlc mk k l=true->zlc mk (sh d k) (shL d l)=true
 | [],_=>rfl
 | [x],h=>by cases h
 | k'::v'::r,h=>by
  simp only[shL,zlc,yal]at h ⊢;refine⟨?_,zoW h.2⟩;have h1:=h.1;cases hk:keq mk k' k with
  | none=>rw[hk]at h1;cases h1
  | some b=>rw[hk]at h1;rw[zt5 hk];exact h1
def sh_mkeep{p:Bool}{n:Int}{k:V}{r:Bool}(h:zqQ p n k=some r):zqQ p n (sh d k)=some r:=by
 unfold zqQ at h;split at h
 ·exact h
 ·exact h
 ·cases h
def zt4{p:Bool}{n:Int}:∀{l r:List V},mfil p n l=some r->mfil p n (shL d l)=some (shL d r)
 | [],r,h=>by injection h with h;subst h;rfl
 | [x],r,h=>by cases h
 | k::v::l,r,h=>by
  simp only[shL,mfil]at h ⊢;split at h
  ·rename_i hm;rw[if_pos (zoW hm)];cases hk:zqQ p n k with
   | none=>rw[hk]at h;cases h
   | some b=>
    rw[hk]at h;rw[sh_mkeep hk];simp only[Option.bind_some]at h ⊢;cases hf:mfil p n l with
    | none=>rw[hf]at h;cases h
    | some r'=>
     rw[hf]at h;rw[zt4 hf];injection h with h
     subst h;cases b<;>rfl
  ·cases h
def zoU:∀{l:List V} {r:List UInt8},zfA l=some r->zfA (shL d l)=some r
 | [],r,h=>h
 | x::xs,r,h=>by
  unfold zfA at h;split at h
  ·cases h;rename_i e;cases e
  ·rename_i n xs' e;injection e with e1 e2
   subst e1 e2;simp only[shL,sh,zfA];cases hv:zfA xs with
   | none=>rw[hv]at h;cases h
   | some l=>rw[hv]at h;rw[zoU hv];exact h
  ·cases h
def zkJ(s:ByteArray):shL d (strCells s)=strCells s:=by
 unfold strCells;rw[shL_map,ycS];rfl
end
mutual
theorem zns{d:Nm}:∀v:V,v.still=true->sh d v=v
 | .ptr _ _,h=>by cases h
 | .mp _,h=>by cases h
 | .sl _ _ _ _,h=>by cases h
 | .rs cells _,h=>by simp only[V.still]at h;simp only[sh,zce cells h]
 | .rp cells _,h=>by simp only[V.still]at h;simp only[sh,zce cells h]
 | .fn _ caps,h=>by simp only[V.still]at h;simp only[sh,zce caps h]
 | .agg cells,h=>by simp only[V.still]at h;simp only[sh,zce cells h]
 | .tup vs,h=>by simp only[V.still]at h;simp only[sh,zce vs h]
 | .bool _,_=>rfl
 | .int _ _,_=>rfl
 | .str _,_=>rfl
 | .nilp,_=>rfl
 | .nils,_=>rfl
 | .lit x,h=>by
  show sy d x = .lit x;unfold sy;split
  ·cases h
  ·cases h
  ·rfl
 | .any,_=>rfl
theorem zce{d:Nm}:∀l:List V,V.stills l=true->shL d l=l
 | [],_=>rfl
 | x::xs,h=>by
  simp only[V.stills,yal]at h;simp only[shL,zns x h.1,zce xs h.2]
end
def shB(d:Nm)(b:Blk):Blk:=⟨b.ty,shL d b.cells,b.opn⟩
def shB_c(d:Nm)(b:Blk):(shB d b).cells=shL d b.cells:=rfl
def Emd(d:Nm)(h K:Heap):Prop:=∀i b,h.get i=some b->K.get (d.f i)=some (shB d b)
inductive Stp (d:Nm) (h K:Heap):Heap->Heap->Prop where
 | same:Stp d h K h K
 | set {id:Nat} {b:Blk} (o:Option Blk) (hb:h.get id=some b):Stp d h K (h.set id o) (K.set (d.f id) (o.map (shB d)))
 | new (b:Blk):Stp d h K (h.new b) (K.new (shB d b))
 | snew {id:Nat} {b:Blk} (c:Blk) (hb:h.get id=some b):Stp d h K ((h.set id none).new c) ((K.set (d.f id) none).new (shB d c))
def OpR(d:Nm)(x y:M V):Prop:=∀h K a h',Emd d h K->x h=some (a,h')->(h'.next=h.next\/d.f h.next=K.next)->∃K',y K=some (sh d a,K')/\Stp d h K h' K'
section
variable {d:Nm}
def Stp.seti{h K:Heap}{id:Nat}{b:Blk}(hb:h.get id=some b){cs cs':List V}(e:cs'=shL d cs):Stp d h K (h.set id (some ⟨b.ty,cs,b.opn⟩)) (K.set (d.f id) (some ⟨b.ty,cs',b.opn⟩)):=by
 subst e;exact Stp.set (some ⟨b.ty,cs,b.opn⟩) hb
def Stp.newi{h K:Heap}{ty:TypeId}{o:Option Nat}{cs cs':List V}(e:cs'=shL d cs):Stp d h K (h.new ⟨ty,cs,o⟩) (K.new ⟨ty,cs',o⟩):=by
 subst e;exact Stp.new ⟨ty,cs,o⟩
def gb{α β:Type}{o:Option α}{k:α->Option β}{r:β}(h:o.bind k=some r):∃b,o=some b/\k b=some r:=by
 cases o with
 | none=>cases h
 | some b=>exact⟨b,rfl,h⟩
def gm{α β:Type}{o:Option α}{k:α->β}{r:β}(h:o.map k=some r):∃b,o=some b/\k b=r:=by
 cases o with
 | none=>cases h
 | some b=>injection h with h;exact⟨b,rfl,h⟩
def nn{h:Heap}{b:Blk}{P:Prop} (hn:(h.new b).next=h.next\/P):P:=hn.resolve_left (by rw[zaf];omega)
def nn'{h:Heap}{i:Nat}{o:Option Blk}{b:Blk}{P:Prop} (hn:((h.set i o).new b).next=h.next\/P):P:=hn.resolve_left (by rw[zaf,zak];omega)
def zc6{o o':Option V} (hl:∀r,o=some r->o'=some (sh d r)):OpR d (M.lift o) (M.lift o'):=by
 intro h K a h' hE hx hn;cases o with
 | none=>cases hx
 | some r=>cases hx;rw[hl _ rfl];exact⟨K,rfl,.same⟩
def zuj(n:Option Nat)(p:V):OpR d (mload n p) (mload n (sh d p)):=by
 intro h K a h' hE hx hn;cases p<;>try (cases hx;done)
 ·rename_i id off;simp only[mload,sh]at hx ⊢;obtain⟨b,hb,hx⟩:=gb hx;obtain⟨v,hv,hx⟩:=gm hx;cases hx;rw[hE _ _ hb,Option.bind_some,shB_c,zrz hv];exact⟨K,rfl,.same⟩
 ·rename_i cells off;simp only[mload,sh]at hx ⊢;obtain⟨v,hv,hx⟩:=gm hx;cases hx;rw[zrz hv];exact⟨K,rfl,.same⟩
def r_store(n:Nat)(p x:V):OpR d (mstore n p x) (mstore n (sh d p) (sh d x)):=by
 intro h K a h' hE hx hn;cases p<;>try (cases hx;done)
 rename_i id off;simp only[mstore,sh]at hx ⊢;obtain⟨b,hb,hx⟩:=gb hx;rw[hE _ _ hb,Option.bind_some];split at hx
 ·rename_i hc;cases hx;rw[if_pos ⟨by rw[zhH,shL_len];exact hc.1,by rw[shB_c,shL_len];exact hc.2.1,zt1 hc.2.2⟩];exact⟨_,rfl,Stp.seti hb (by rw[shB_c,zhH,zdQ])⟩
 ·cases hx
def r_box(ty:TypeId)(x:V):OpR d (mbox ty x) (mbox ty (sh d x)):=by
 intro h K a h' hE hx hn;unfold mbox at hx ⊢;split at hx
 ·rename_i hc;cases hx;have e:=nn hn;rw[if_pos (zt1 hc)];simp only[sh];rw[e];exact⟨_,rfl,Stp.newi (zhH x)⟩
 ·cases hx
def r_slit(ty:TypeId)(l:Nat)(z:List V) (ps:List (Nat×Nat×V)):OpR d (mslit ty l z ps) (mslit ty l (shL d z) (shP d ps)):=by
 intro h K a h' hE hx hn;unfold mslit at hx ⊢;obtain⟨cs,hf,hx⟩:=gm hx;cases hx;have e:=nn hn;rw[zkk,zqr hf];simp only[sh];rw[e];exact⟨_,rfl,Stp.newi rfl⟩
def zlL{e:Nat}{h K:Heap}{v:V}{q:List V×Nat}(hE:Emd d h K)(hx:rcells e h v=some q):rcells e K (sh d v)=some (shL d q.1,q.2):=by
 cases v<;>try (cases hx;done)
 ·cases hx;rfl
 ·rename_i id off len cap;simp only[rcells,sh]at hx ⊢;obtain⟨b,hb,hx⟩:=gb hx;rw[hE _ _ hb,Option.bind_some,shB_c,shL_len];split at hx
  ·rename_i hc;cases hx;rw[if_pos hc,shL_drop,shL_take]
  ·cases hx
 ·simp only[rcells,sh]at hx ⊢;rw[shL_len];split at hx
  ·rename_i hc;cases hx;rw[if_pos hc,shL_take]
  ·cases hx
def zp4{e:Nat}{h K:Heap}{v:V}{q:List V×Nat}(hE:Emd d h K)(hx:acells e h v=some q):acells e K (sh d v)=some (shL d q.1,q.2):=by
 cases v with
 | str s=>
  simp only[acells,sh]at hx ⊢;split at hx
  ·rename_i hc;cases hx;rw[if_pos hc,zkJ]
  ·cases hx
 | nils=>cases hx;rfl
 | sl id off len cap=>exact zlL (v:=.sl id off len cap) hE hx
 | rs cells len=>exact zlL (v:=.rs cells len) hE hx
 | _=>cases hx
def zpa(ty e b:Nat)(q:List V×Nat)(x:V):OpR d (mappendq ty e b q x) (mappendq ty e b (shL d q.1,q.2) (sh d x)):=by
 intro h K a h' hE hx hn;cases x<;>try (cases hx;done)
 ·simp only[mappendq,sh]at hx ⊢;split at hx
  ·rename_i hc;cases hx;rw[if_pos hc];exact⟨K,rfl,.same⟩
  ·rename_i hc;rw[if_neg hc];split at hx
   ·rename_i hc;cases hx;have e:=nn hn;rw[if_pos hc];simp only[sh];rw[e];exact⟨_,rfl,Stp.newi rfl⟩
   ·cases hx
 ·rename_i id off len cap;simp only[mappendq,sh]at hx ⊢;obtain⟨bb,hb,hx⟩:=gb hx;rw[hE _ _ hb,Option.bind_some];have el:(shB d bb).cells.length=bb.cells.length:=by rw[shB_c,shL_len]
  rw[el];split at hx
  case isFalse=>cases hx
  rename_i hc;rw[if_pos (show _/\(shB d bb).ty=ty from hc)];cases cap with
  | fix c=>
   dsimp only at hx ⊢;split at hx
   ·rename_i h1;rw[if_pos h1];split at hx
    ·rename_i h2;cases hx;rw[if_pos h2];exact⟨_,rfl,Stp.seti hb (by rw[shB_c,zdQ])⟩
    ·cases hx
   ·rename_i h1;rw[if_neg h1];split at hx
    ·rename_i h2;cases hx;have e:=nn hn;rw[if_pos h2];simp only[sh];rw[e];exact⟨_,rfl,Stp.newi (by rw[shB_c,shL_drop,shL_take,<-shL_app])⟩
    ·cases hx
  | opn ee=>
   dsimp only at hx ⊢;have eo:(shB d bb).opn=bb.opn:=rfl;rw[eo];split at hx
   ·rename_i h1;rw[if_pos h1];split at hx
    ·rename_i h2;cases hx;rw[if_pos h2];exact⟨K,rfl,.same⟩
    ·rename_i h2;rw[if_neg h2];split at hx
     ·rename_i h3;cases hx;have e:=nn' hn;rw[if_pos h3];simp only[sh];rw[e,shB_c,shL_drop,<-shL_app];exact⟨_,rfl,Stp.snew ⟨ty,bb.cells.drop off++q.1,some _⟩ hb⟩
     ·cases hx
   ·rename_i h1;rw[if_neg h1];split at hx
    ·rename_i h2;cases hx;rw[if_pos h2];exact⟨K,rfl,.same⟩
    ·rename_i h2;rw[if_neg h2];split at hx
     ·rename_i h3;cases hx;rw[if_pos h3];exact⟨_,rfl,Stp.seti hb (by rw[shB_c,zdQ])⟩
     ·cases hx
 ·simp only[mappendq,sh]at hx ⊢;split at hx
  ·rename_i hc;cases hx;rw[if_pos hc];exact⟨K,rfl,.same⟩
  ·cases hx
def r_append(ty e b:Nat)(x y:V):OpR d (mappend ty e b x y) (mappend ty e b (sh d x) (sh d y)):=by
 intro h K a h' hE hx hn;unfold mappend at hx ⊢;obtain⟨q,hq,hx⟩:=gb hx;rw[zp4 hE hq,Option.bind_some];exact zpa ty e b q x h K a h' hE hx hn
def zuk(ty b:Nat)(z:List V)(x y:V):OpR d (mappendz ty b z x y) (mappendz ty b (shL d z) (sh d x) (sh d y)):=by
 intro h K a h' hE hx hn;cases y<;>try (cases hx;done)
 simp only[mappendz,sh]at hx ⊢;split at hx
 ·rename_i hc;rw[if_pos hc,shL_len,zkk];exact zpa _ _ _ _ _ h K a h' hE hx hn
 ·cases hx
def r_copy(e:Nat)(x y:V):OpR d (mcopy e x y) (mcopy e (sh d x) (sh d y)):=by
 intro h K a h' hE hx hn;unfold mcopy at hx ⊢;obtain⟨q,hq,hx⟩:=gb hx;rw[zp4 hE hq,Option.bind_some];cases x<;>try (cases hx;done)
 ·cases hx;exact⟨K,rfl,.same⟩
 ·rename_i id off len cap;simp only[sh]at hx ⊢;obtain⟨b,hb,hx⟩:=gb hx;rw[hE _ _ hb,Option.bind_some];split at hx
  ·rename_i hc;cases hx;rw[if_pos (by rw[shB_c,shL_len];exact hc)];exact⟨_,rfl,Stp.seti hb (by rw[shB_c,shL_take,zdQ])⟩
  ·cases hx
def r_tostr(x:V):OpR d (mtostr x) (mtostr (sh d x)):=by
 intro h K a h' hE hx hn;unfold mtostr at hx ⊢;obtain⟨q,hq,hx⟩:=gb hx;obtain⟨l,hl,hx⟩:=gm hx;cases hx;rw[zlL hE hq,Option.bind_some,zoU hl];exact⟨K,rfl,.same⟩
def zo9(ty:TypeId)(x:V):OpR d (mtobytes ty x) (mtobytes ty (sh d x)):=by
 intro h K a h' hE hx hn;cases x<;>try (cases hx;done)
 simp only[mtobytes,sh]at hx ⊢;split at hx
 ·rename_i hc;cases hx;have e:=nn hn;rw[if_pos hc];simp only[sh];rw[e];exact⟨_,rfl,Stp.newi (zkJ _).symm⟩
 ·cases hx
def r_remark(ty:TypeId)(x:V):OpR d (mremark ty x) (mremark ty (sh d x)):=by
 intro h K a h' hE hx hn;cases x<;>try (cases hx;done)
 ·exact zo9 ty (.str _) h K a h' hE hx hn
 ·simp only[mremark,sh]at hx ⊢;obtain⟨b,hb,hx⟩:=gb hx;rw[hE _ _ hb,Option.bind_some];split at hx
  ·cases hx
  ·rename_i hc;cases hx;rw[if_neg hc];exact⟨K,rfl,.same⟩
def zuh(ty b:Nat)(z:List V)(l c:V):OpR d (mmkslice ty b z l c) (mmkslice ty b (shL d z) (sh d l) (sh d c)):=by
 intro h K a h' hE hx hn;unfold mmkslice at hx;split at hx
 ·rename_i l c;split at hx
  ·rename_i hc;cases hx;have e:=nn hn;simp only[mmkslice,sh];rw[if_pos hc,e];exact⟨_,rfl,Stp.newi (zkk _ _)⟩
  ·cases hx
 ·cases hx
def r_mknz(ty:TypeId)(x:V):OpR d (mmknz ty x) (mmknz ty (sh d x)):=by
 intro h K a h' hE hx hn;unfold mmknz at hx;split at hx
 ·rename_i n;split at hx
  ·rename_i hc;cases hx;have e:=nn hn;simp only[mmknz,sh];rw[if_pos hc,e];refine⟨_,rfl,Stp.newi ?_⟩;rw[shL_map,ycG];rfl
  ·cases hx
 ·cases hx
def r_slice2(e:Nat)(x lo hi:V):OpR d (mslice2 e x lo hi) (mslice2 e (sh d x) (sh d lo) (sh d hi)):=by
 intro h K a h' hE hx hn;unfold mslice2 at hx;split at hx
 ·obtain⟨b,hb,hx⟩:=gb hx;split at hx
  ·rename_i hc;cases hx;simp only[mslice2,sh];rw[hE _ _ hb,Option.bind_some,if_pos ⟨hc.1,hc.2.1,hc.2.2.1,hc.2.2.2.1,by rw[shB_c,shL_len];exact hc.2.2.2.2⟩];exact⟨K,rfl,.same⟩
  ·cases hx
 ·cases hx
def r_clear(z:List V)(x:V):OpR d (mclear z x) (mclear (shL d z) (sh d x)):=by
 intro h K a h' hE hx hn;cases x<;>try (cases hx;done)
 rename_i id off len cap;simp only[mclear,sh]at hx ⊢;split at hx
 ·rename_i hc;cases hx;rw[if_pos hc];exact⟨K,rfl,.same⟩
 ·rename_i hc;rw[if_neg hc];obtain⟨b,hb,hx⟩:=gb hx;rw[hE _ _ hb,Option.bind_some];split at hx
  ·rename_i hc;cases hx;rw[if_pos (by rw[shB_c,shL_len,shL_len];exact hc)];exact⟨_,rfl,Stp.seti hb (by rw[shB_c,zkk,zdQ])⟩
  ·cases hx
def r_mkmap(ty:TypeId):OpR d (mmkmap ty) (mmkmap ty):=by
 intro h K a h' hE hx hn;cases hx;have e:=nn hn;simp only[mmkmap,sh];rw[e];exact⟨_,rfl,Stp.newi rfl⟩
def r_lookup(mk:MK)(z:V)(ok:Bool)(x k:V):OpR d (mlookup mk z ok x k) (mlookup mk (sh d z) ok (sh d x) (sh d k)):=by
 intro h K a h' hE hx hn;cases x<;>try (cases hx;done)
 simp only[mlookup,sh]at hx ⊢;obtain⟨b,hb,hx⟩:=gb hx;rw[hE _ _ hb,Option.bind_some];split at hx
 ·rename_i hc;rw[if_pos (sh_kok hc)];obtain⟨r,hr,hx⟩:=gm hx;cases hx;rw[shB_c,zt3 hr];refine⟨K,?_,.same⟩;cases r<;>cases ok<;>rfl
 ·cases hx
def r_mapset(mk:MK)(x k v:V):OpR d (mmapset mk x k v) (mmapset mk (sh d x) (sh d k) (sh d v)):=by
 intro h K a h' hE hx hn;cases x<;>try (cases hx;done)
 simp only[mmapset,sh]at hx ⊢;obtain⟨b,hb,hx⟩:=gb hx;rw[hE _ _ hb,Option.bind_some];split at hx
 ·rename_i hc;rw[if_pos (sh_kok hc)];obtain⟨cs,hr,hx⟩:=gm hx;cases hx;rw[shB_c,zt2 hr];exact⟨_,rfl,Stp.seti hb rfl⟩
 ·cases hx
def r_maplen(x:V):OpR d (mmaplen x) (mmaplen (sh d x)):=by
 intro h K a h' hE hx hn;cases x<;>try (cases hx;done)
 simp only[mmaplen,sh]at hx ⊢;obtain⟨b,hb,hx⟩:=gm hx;cases hx;rw[hE _ _ hb,yas,shB_c,shL_len];exact⟨K,rfl,.same⟩
def r_aload(k:IntKind)(p:V):OpR d (matoload k p) (matoload k (sh d p)):=by
 intro h K a h' hE hx hn;unfold matoload at hx ⊢;obtain⟨⟨v,h1⟩,hl,hx⟩:=gb hx;have e1:h1=h:=by
  cases p<;>try (cases hl;done)
  ·obtain⟨b,hb,hl⟩:=gb hl;obtain⟨u,hu,hl⟩:=gm hl;cases hl;rfl
  ·obtain⟨u,hu,hl⟩:=gm hl;cases hl;rfl
 subst e1;obtain⟨K1,e2,s⟩:=zuj none p h1 K v h1 hE hl (.inl rfl);have e3:K1=K:=by
  cases p<;>try (cases hl;done)
  ·obtain⟨b,hb,e2⟩:=gb e2;obtain⟨u,hu,e2⟩:=gm e2;cases e2;rfl
  ·obtain⟨u,hu,e2⟩:=gm e2;cases e2;rfl
 subst e3;rw[e2];simp only[Option.bind_some]at hx ⊢;cases v<;>try (cases hx;done)
 simp only[sh]at hx ⊢;split at hx
 ·rename_i hc;cases hx;rw[if_pos hc];exact⟨K1,rfl,.same⟩
 ·cases hx
def r_aadd(k:IntKind)(p y:V):OpR d (matoadd k p y) (matoadd k (sh d p) (sh d y)):=by
 intro h K a h' hE hx hn;unfold matoadd at hx;split at hx
 ·rename_i id off k2 j;obtain⟨b,hb,hx⟩:=gb hx;simp only[matoadd,sh];rw[hE _ _ hb,Option.bind_some,shB_c];split at hx
  ·rename_i k' n hc;rw[get_of hc];simp only[sh];split at hx
   ·rename_i hk;cases hx;rw[if_pos hk];refine⟨_,rfl,Stp.seti hb ?_⟩;exact zdQ b.cells off [.int k (k.wrap (n+j))]
   ·cases hx
  ·cases hx
 ·cases hx
def zui(p:Bool)(o:Nat)(x n:V):OpR d (mmapdrop p o x n) (mmapdrop p o (sh d x) (sh d n)):=by
 intro h K a h' hE hx hn;unfold mmapdrop at hx;split at hx
 ·rename_i id off n;obtain⟨b0,hb0,hx⟩:=gb hx;simp only[mmapdrop,sh];rw[hE _ _ hb0,Option.bind_some,shB_c];split at hx
  ·rename_i i hi;rw[get_of hi];simp only[sh];obtain⟨b,hb,hx⟩:=gb hx;obtain⟨cs,hcs,hx⟩:=gm hx;cases hx;rw[hE _ _ hb,Option.bind_some,shB_c,zt4 hcs];exact⟨_,rfl,Stp.seti hb rfl⟩
  ·cases hx
 ·cases hx
end
section
variable {d:Nm} {h K h' K':Heap}
def Stp.nx(t:Stp d h K h' K'):(h'.next=h.next/\K'.next=K.next)\/(h'.next=h.next+1/\K'.next=K.next+1):=by
 cases t with
 | same=>exact .inl ⟨rfl,rfl⟩
 | set o hb=>exact .inl ⟨rfl,rfl⟩
 | new b=>exact .inr ⟨zaf _ _,zaf _ _⟩
 | snew c hb=>exact .inr ⟨zaf _ _,zaf _ _⟩
def zkl{H:Heap}{id j:Nat}{o:Option Blk}{b:Blk} (hj:(H.set id o).get j=some b):(j=id/\o=some b)\/(j≠id/\H.get j=some b):=by
 by_cases e:j=id
 ·subst e;rw[zaj]at hj;exact .inl ⟨rfl,hj⟩
 ·rw[zag _ _ e]at hj;exact .inr ⟨e,hj⟩
def zko{H:Heap}{j:Nat}{c b:Blk} (hj:(H.new c).get j=some b):(j=H.next/\c=b)\/(j≠H.next/\H.get j=some b):=by
 by_cases e:j=H.next
 ·subst e;rw[zae]at hj;injection hj with hj;exact .inl ⟨rfl,hj⟩
 ·rw[zaA _ _ e]at hj;exact .inr ⟨e,hj⟩
def Stp.kn (t : Stp d h K h' K') : ∀ j b, h'.get j = some b -> (∃ b', h.get j = some b') \/ (j = h.next /\ h'.next = h.next + 1):= by
  intro j b hj
  cases t with
  | same=> exact .inl ⟨b, hj⟩
  | set o hb=> rcases zkl hj with ⟨rfl, _⟩ | ⟨_, e⟩ <;> exact .inl ⟨_, by assumption⟩
  | new c => rcases zko hj with ⟨rfl, _⟩ | ⟨_, e⟩
             · exact .inr ⟨rfl, zaf _ _⟩
             · exact .inl ⟨_, e⟩
  | snew c hb => rcases zko hj with ⟨rfl, _⟩ | ⟨_, e⟩
                 · exact .inr ⟨rfl, zaf _ _⟩
                 · rcases zkl e with ⟨rfl, _⟩ | ⟨_, e⟩ <;> exact .inl ⟨_, by assumption⟩
def Stp.fr(t:Stp d h K h' K'):∀i,i<K.next->(∀j b,h.get j=some b->d.f j≠i)->K'.get i=K.get i:=by
 intro i hi hf;cases t with
 | same=>rfl
 | set o hb=>exact zag _ _ λe=>hf _ _ hb e.symm
 | new c=>exact zaA _ _ (by omega)
 | snew c hb=>
  rw[zaA _ _ (by rw[zak];omega)];exact zag _ _ λe=>hf _ _ hb e.symm
def Stp.emd(t:Stp d h K h' K')(hE:Emd d h K)(inj:∀i j b b',h.get i=some b->h.get j=some b'->d.f i=d.f j->i=j)(lt:∀i b,h.get i=some b->i<h.next/\d.f i<K.next)(hn:h'.next=h.next\/d.f h.next=K.next):Emd d h' K':=by
 intro i b hi;cases t with
 | same=>exact hE i b hi
 | set o hb=>
  rcases zkl hi with⟨rfl,rfl⟩|⟨e,hi⟩
  ·rw[zaj];rfl
  ·rw[zag _ _ λk=>e (inj _ _ _ _ hi hb k)];exact hE i b hi
 | new c=>
  have en:=nn hn;rcases zko hi with⟨rfl,rfl⟩|⟨e,hi⟩
  ·rw[en,zae]
  ·rw[zaA _ _ (by have:=(lt _ _ hi).2;omega)];exact hE i b hi
 | @snew id b1 c hb=>
  have en:=nn' hn;rcases zko hi with⟨rfl,rfl⟩|⟨e,hi⟩
  ·have:d.f (h.set id none).next=(K.set (d.f id) none).next:=en;rw[this,zae]
  ·rcases zkl hi with⟨rfl,e1⟩|⟨e,hi⟩
   ·cases e1
   ·rw[zaA _ _ (by have:=(lt _ _ hi).2;rw[zak];omega),zag _ _ λk=>e (inj _ _ _ _ hi hb k)];exact hE i b hi
def Stp.cl(t:Stp d h K h' K')(hc:K.Cl)(lt:∀i b,h.get i=some b->d.f i<K.next):K'.Cl:=by
 cases t with
 | same=>exact hc
 | set o hb=>exact cl_set hc (lt _ _ hb) _
 | new c=>exact cl_new hc _
 | snew c hb=>exact cl_new (cl_set hc (lt _ _ hb) _) _
def Stp.dr(t:Stp d h K h' K')(lt:∀i b,h.get i=some b->i<h.next/\d.f i<K.next){i:Nat}{b:Blk}(hi:h.get i=some b)(hi':h'.get i=none):K'.get (d.f i)=none:=by
 cases t with
 | same=>rw[hi]at hi';cases hi'
 | set o hb=>
  by_cases e:i = ‹Nat›
  ·subst e;rw[zaj]at hi' ⊢;rw[hi'];rfl
  ·rw[zag _ _ e,hi]at hi';cases hi'
 | new c=>rw[zaA _ _ (by have:=(lt _ _ hi).1;omega),hi]at hi';cases hi'
 | snew c hb=>
  rw[zaA _ _ (by have:=(lt _ _ hi).1;rw[zak];omega)]at hi';rw[zaA _ _ (by have:=(lt _ _ hi).2;rw[zak];omega)];by_cases e:i = ‹Nat›
  ·subst e;exact zaj _ _ _
  ·rw[zag _ _ e,hi]at hi';cases hi'
end
structure Sg where
 e:Nm
 nf:Nat->Prop
 nw:Nat->Prop
def Ag(g:Sg)(d:Nm):Prop:=d.s=g.e.s/\(∀i,g.nf i->d.f i=g.e.f i)/\∀i,g.nw i->d.w i=g.e.w i
def Ag.self(g:Sg):Ag g g.e:=⟨rfl,λ_ _=>rfl,λ_ _=>rfl⟩
structure Tb where
 R:Nat
 B:Nat
 rb:R<=B
 s:Nat->Nat
 t:Nat->Nat
 Pf:Nat->Nat->Heap->Nat->Prop
 Pw:Nat->Nat->Heap->V->Prop
structure Sf (g:Sg) (h K:Heap) (lo:Nat) (Hc:Heap):Prop where
 le:Hc.next<=K.next
 sm:∀i,lo<=i->i<Hc.next->K.get i=Hc.get i
 ap:∀i,lo<=i->i<Hc.next->∀j b,h.get j=some b->g.e.f j≠i
structure St (tb:Tb) (g:Sg) (h K:Heap):Prop where
 s:g.e.s=tb.s
 kn:∀i b,h.get i=some b->g.nf i/\tb.R<=i
 nb:∀i,g.nf i->i<h.next
 nwb:∀i,g.nw i->i<tb.R
 lo:tb.R<=h.next
 inj:∀i j,g.nf i->g.nf j->g.e.f i=g.e.f j->i=j
 lt:∀i,g.nf i->g.e.f i<K.next
 em:∀d,Ag g d->Emd d h K
 dr:∀i,g.nf i->tb.R<=i->h.get i=none->K.get (g.e.f i)=none
 cl:K.Cl
 seq:∀i,tb.B<=i->g.nf i->g.nf (i+1)->g.e.f (i+1)=g.e.f i+1
 top:∀i,tb.B<=i->g.nf i->i+1=h.next->K.next=g.e.f i+1
 mono:∀i j,tb.B<=i->i<j->g.nf i->g.nf j->g.e.f i<g.e.f j
 mf:∀m,m<tb.R->g.nf m->tb.t m<h.next/\∃lo Hc,tb.Pf m lo Hc (g.e.f m)/\Sf g h K lo Hc/\∀i,tb.R<=i->i<tb.t m->g.nf i->g.e.f i<lo
 mw:∀m,g.nw m->tb.t m<h.next/\∃lo Hc,tb.Pw m lo Hc (g.e.w m)/\Sf g h K lo Hc
structure Ex (n:Nat) (g g':Sg):Prop where
 s:g'.e.s=g.e.s
 f:∀i,g.nf i->g'.nf i/\g'.e.f i=g.e.f i
 w:∀i,g.nw i->g'.nw i/\g'.e.w i=g.e.w i
 new:∀i,g'.nf i->¬g.nf i->n<=g'.e.f i
def Ex.refl(n:Nat)(g:Sg):Ex n g g:=⟨rfl,λ_ h=>⟨h,rfl⟩,λ_ h=>⟨h,rfl⟩,λ_ h k=>absurd h k⟩
def Ag.mono{n:Nat}{g g':Sg}{d:Nm}(x:Ex n g g')(a:Ag g' d):Ag g d:=
 ⟨a.1.trans x.s,λi hi=>(a.2.1 i (x.f i hi).1).trans (x.f i hi).2,λi hi=>(a.2.2 i (x.w i hi).1).trans (x.w i hi).2⟩
structure Frm (g:Sg) (h K:Heap) (g':Sg) (h' K':Heap):Prop where
 ex:Ex K.next g g'
 le:K.next<=K'.next
 hle:h.next<=h'.next
 fr:∀i,i<K.next->(∀j b,h.get j=some b->g.e.f j≠i)->K'.get i=K.get i
 kn:∀j b,h'.get j=some b->(∃b',h.get j=some b')\/K.next<=g'.e.f j
def Frm.refl(g:Sg)(h K:Heap):Frm g h K g h K:=⟨Ex.refl _ _,yaj _,yaj _,λ_ _ _=>rfl,λj b hj=>.inl ⟨b,hj⟩⟩
def Frm.trans{tb:Tb}{g g1 g2:Sg}{h h1 h2 K K1 K2:Heap}(s:St tb g h K)(s1:St tb g1 h1 K1)(a:Frm g h K g1 h1 K1)(b:Frm g1 h1 K1 g2 h2 K2):Frm g h K g2 h2 K2:=by
 refine⟨⟨b.ex.s.trans a.ex.s,λi hi=>?_,λi hi=>?_,λi hi hn=>?_⟩,yaA a.le b.le,yaA a.hle b.hle,λi hi hf=>?_,λj c hj=>?_⟩
 ·have h1:=a.ex.f i hi;have h2:=b.ex.f i h1.1;exact⟨h2.1,h2.2.trans h1.2⟩
 ·have h1:=a.ex.w i hi;have h2:=b.ex.w i h1.1;exact⟨h2.1,h2.2.trans h1.2⟩
 ·by_cases h1:g1.nf i
  ·rw[(b.ex.f i h1).2];exact a.ex.new i h1 hn
  ·exact yaA a.le (b.ex.new i hi h1)
 ·rw[b.fr i (yaq hi a.le),a.fr i hi hf];intro j c hj e;rcases a.kn j c hj with⟨b',hb'⟩|hk
  ·exact hf j b' hb' (by rw[<-e,(a.ex.f j (s.kn j b' hb').1).2])
  ·omega
 ·rcases b.kn j c hj with⟨b',hb'⟩|hk
  ·rcases a.kn j b' hb' with h3|h3
   ·exact .inl h3
   ·refine .inr ?_;rw[(b.ex.f j (s1.kn j b' hb').1).2];exact h3
  ·exact .inr (yaA a.le hk)
def Sf.step{tb:Tb}{g g':Sg}{h h' K K':Heap}(s:St tb g h K)(a:Frm g h K g' h' K'){lo:Nat}{Hc:Heap}(x:Sf g h K lo Hc):Sf g' h' K' lo Hc:=by
 refine⟨yaA x.le a.le,λi h1 h2=>?_,λi h1 h2 j b hj e=>?_⟩
 ·rw[a.fr i (yaq h2 x.le) (x.ap i h1 h2),x.sm i h1 h2]
 ·rcases a.kn j b hj with⟨b',hb'⟩|hk
  ·rw[(a.ex.f j (s.kn j b' hb').1).2]at e;exact x.ap i h1 h2 j b' hb' e
  ·have:=x.le;omega
abbrev Rl{α β:Type}(g:Sg)(f:Nm->α->β)(a:α)(b:β):Prop:=∀d,Ag g d->b=f d a
def Rl.mono{α β:Type}{n:Nat}{g g':Sg}{f:Nm->α->β}{a:α}{b:β}(x:Ex n g g')(r:Rl g f a b):Rl g' f a b:=λd hd=>r d (hd.mono x)
def S(tb:Tb)(g:Sg)(h K:Heap){α β:Type}(f:Nm->α->β)(x:M α)(y:M β):Prop:=
 ∀a h',x h=some (a,h')->∃g' b K',y K=some (b,K')/\St tb g' h' K'/\Frm g h K g' h' K'/\Rl g' f a b
section
variable {tb:Tb} {g:Sg} {h K:Heap} {α β γ δ:Type}
def zcu{f:Nm->α->β}{a:α}{b:β}(s:St tb g h K)(r:Rl g f a b):S tb g h K f (M.pure a) (M.pure b):=by
 intro c h' e;cases e;exact⟨g,b,K,rfl,s,Frm.refl _ _ _,r⟩
def zcv{f:Nm->α->β}{y:M β}:S tb g h K f M.fail y:=by intro c h' e;cases e
def zo4{f:Nm->α->β}{o:Option α}{o':Option β}(s:St tb g h K)(r:∀a,o=some a->∃b,o'=some b/\Rl g f a b):S tb g h K f (M.lift o) (M.lift o'):=by
 cases o with
 | none=>exact zcv
 | some a=>
  obtain⟨b,rfl,q⟩:=r a rfl;exact zcu s q
def zcN{f:Nm->α->β}{k:Nm->γ->δ}{x:M α}{y:M β}{u:α->M γ}{v:β->M δ}(s:St tb g h K)(hx:S tb g h K f x y) (hk:∀g' h' K' a b,St tb g' h' K'->Frm g h K g' h' K'->Rl g' f a b->S tb g' h' K' k (u a) (v b)):S tb g h K k (x.bind u) (y.bind v):=by
 intro c h2 e;obtain⟨a,h1,e1,e2⟩:=bind_some e;obtain⟨g1,b,K1,y1,s1,f1,r1⟩:=hx a h1 e1;obtain⟨g2,w,K2,y2,s2,f2,r2⟩:=hk g1 h1 K1 a b s1 f1 r1 c h2 e2;exact⟨g2,w,K2,by rw[bind_ok y1];exact y2,s2,Frm.trans s s1 f1 f2,r2⟩
def s_ite{f:Nm->α->β}{c c':V}{x x':M α}{y y':M β}(hc:Rl g sh c c')(a:S tb g h K f x y)(b:S tb g h K f x' y'):S tb g h K f (M.ite c x x') (M.ite c' y y'):=by
 have:=hc g.e (Ag.self g);subst this;cases c<;>first|exact zcv|skip
 rename_i t;cases t
 ·exact b
 ·exact a
def s_op{x y:M V}(s:St tb g h K)(hx:∀d,Ag g d->OpR d x y):S tb g h K sh x y:=by
 intro a h' e
 let e2:Nm:=⟨λi=>if i=h.next then K.next else g.e.f i,g.e.w,g.e.s⟩
 have f2:∀i,g.nf i->e2.f i=g.e.f i:=λi hi=>by
  show(if i=h.next then K.next else g.e.f i) = _;rw[if_neg (by have:=s.nb i hi;omega)]
 have fn:e2.f h.next=K.next:=if_pos rfl;have a2:Ag g e2:=⟨rfl,f2,λ_ _=>rfl⟩;obtain⟨K',ey,st⟩:=hx e2 a2 h K a h' (s.em e2 a2) e (.inr fn);have lt:∀d,Ag g d->∀i b,h.get i=some b->i<h.next/\d.f i<K.next:=λd hd i b hi=>by
  have:=(s.kn i b hi).1;exact⟨s.nb i this,by rw[hd.2.1 i this];exact s.lt i this⟩
 have inj:∀d,Ag g d->∀i j b b',h.get i=some b->h.get j=some b'->d.f i=d.f j->i=j:=λd hd i j b b' hi hj e=>by
  have h1:=(s.kn i b hi).1;have h2:=(s.kn j b' hj).1;rw[hd.2.1 i h1,hd.2.1 j h2]at e;exact s.inj i j h1 h2 e
 have cl':=st.cl s.cl λi b hi=>(lt e2 a2 i b hi).2;have fr':∀i,i<K.next->(∀j b,h.get j=some b->g.e.f j≠i)->K'.get i=K.get i:=λi hi hf=>st.fr i hi λj b hj=>by
  rw[f2 j (s.kn j b hj).1];exact hf j b hj
 have dr':∀i,g.nf i->tb.R<=i->h'.get i=none->K'.get (g.e.f i)=none:=λi hi hR hn=>by
  cases hg:h.get i with
  | some b=>have:=st.dr (lt e2 a2) hg hn;rw[f2 i hi]at this;exact this
  | none=>
   rw[fr' _ (s.lt i hi) λj b hj ej=>?_,s.dr i hi hR hg];have:=s.inj j i (s.kn j b hj).1 hi ej;subst this;rw[hj]at hg;cases hg
 rcases st.nx with⟨n1,n2⟩|⟨n1,n2⟩
 ·have fm:Frm g h K g h' K':=⟨Ex.refl _ _,by omega,by omega,fr',λj b hj=>(st.kn j b hj).elim .inl λk=>by omega⟩;have key:∀d,Ag g d->sh e2 a=sh d a/\Emd d h' K':=λd hd=>by
   obtain⟨Kd,ed,sd⟩:=hx d hd h K a h' (s.em d hd) e (.inl n1);rw[ey]at ed;injection ed with ed
   injection ed with h1 h2
   subst h2;exact⟨h1,sd.emd (s.em d hd) (inj d hd) (lt d hd) (.inl n1)⟩
  refine⟨g,sh e2 a,K',ey,⟨s.s,λi b hi=>?_,λi hi=>by have:=s.nb i hi;omega,s.nwb,by have:=s.lo;omega,s.inj,λi hi=>by have:=s.lt i hi;omega,λd hd=>(key d hd).2,dr',cl',s.seq,λi hR hi e=>by have:=s.top i hR hi (by omega);omega,s.mono,λm hm hf=>?_,λm hw=>?_⟩,fm,λd hd=>(key d hd).1⟩
  ·rcases st.kn i b hi with⟨b',hb'⟩|⟨_,k⟩
   ·exact s.kn i b' hb'
   ·omega
  ·obtain⟨h1,lo,Hc,h2,h3,h4⟩:=s.mf m hm hf;exact⟨by omega,lo,Hc,h2,h3.step s fm,h4⟩
  ·obtain⟨h1,lo,Hc,h2,h3⟩:=s.mw m hw;exact⟨by omega,lo,Hc,h2,h3.step s fm⟩
 ·let g':Sg:=⟨e2,λi=>g.nf i\/i=h.next,g.nw⟩
  have ex:Ex K.next g g':=⟨rfl,λi hi=>⟨.inl hi,f2 i hi⟩,λi hi=>⟨hi,rfl⟩,λi hi hn=>by
   rcases hi with hi|rfl
   ·exact absurd hi hn
   ·exact Nat.le_of_eq fn.symm⟩
  have fm:Frm g h K g' h' K':=⟨ex,by omega,by omega,fr',λj b hj=>(st.kn j b hj).elim .inl λk=>.inr (by
   show K.next<=e2.f j;rw[k.1,fn];exact yaj _)⟩
  have key:∀d,Ag g' d->sh e2 a=sh d a/\Emd d h' K':=λd hd=>by
   have hd0:=hd.mono ex;have hn:d.f h.next=K.next:=(hd.2.1 h.next (.inr rfl)).trans fn;obtain⟨Kd,ed,sd⟩:=hx d hd0 h K a h' (s.em d hd0) e (.inr hn);rw[ey]at ed;injection ed with ed
   injection ed with h1 h2
   subst h2;exact⟨h1,sd.emd (s.em d hd0) (inj d hd0) (lt d hd0) (.inr hn)⟩
  have ltn:∀i,g.nf i->e2.f i<K.next:=λi hi=>by rw[f2 i hi];exact s.lt i hi
  refine⟨g',sh e2 a,K',ey,⟨s.s,λi b hi=>?_,λi hi=>?_,s.nwb,by have:=s.lo;omega,λi j hi hj eq=>?_,λi hi=>?_,λd hd=>(key d hd).2,λi hi hR hn=>?_,cl',λi hR hi hj=>?_,λi hR hi e=>?_,λi j hR hl hi hj=>?_,λm hm hf=>?_,λm hw=>?_⟩,fm,λd hd=>(key d hd).1⟩
  ·rcases st.kn i b hi with⟨b',hb'⟩|⟨k,_⟩
   ·have:=s.kn i b' hb';exact⟨.inl this.1,this.2⟩
   ·exact⟨.inr k,by rw[k];exact s.lo⟩
  ·rcases hi with hi|rfl
   ·have:=s.nb i hi;omega
   ·omega
  ·have eq:e2.f i=e2.f j:=eq;rcases hi with hi|rfl<;>rcases hj with hj|rfl
   ·rw[f2 i hi,f2 j hj]at eq;exact s.inj i j hi hj eq
   ·have:=ltn i hi;omega
   ·have:=ltn j hj;omega
   ·rfl
  ·show e2.f i<K'.next;rcases hi with hi|rfl
   ·have:=ltn i hi;omega
   ·omega
  ·show K'.get (e2.f i)=none;rcases hi with hi|rfl
   ·rw[f2 i hi];exact dr' i hi hR hn
   ·exfalso;cases st with
    | same=>omega
    | set o hb=>rw[zak]at n1;omega
    | new b=>rw[zae]at hn;cases hn
    | snew c hb=>
     have:=zae (h.set ‹Nat› none) c;rw[zak]at this;rw[this]at hn;cases hn
  ·show e2.f (i+1)=e2.f i+1;have h1:g.nf i:=by
    rcases hi with hi|rfl
    ·exact hi
    ·rcases hj with hj|hj
     ·have:=s.nb _ hj;omega
     ·omega
   rw[f2 i h1];rcases hj with hj|hj
   ·rw[f2 _ hj];exact s.seq i hR h1 hj
   ·rw[hj,fn];exact s.top i hR h1 hj
  ·show K'.next=e2.f i+1;have:i=h.next:=by omega
   subst this;rw[fn];exact n2
  ·show e2.f i<e2.f j;have h1:g.nf i:=by
    rcases hi with hi|rfl
    ·exact hi
    ·rcases hj with hj|hj
     ·have:=s.nb _ hj;omega
     ·omega
   rcases hj with hj|rfl
   ·rw[f2 i h1,f2 j hj];exact s.mono i j hR hl h1 hj
   ·rw[fn];exact ltn i h1
  ·rcases hf with hf|rfl
   ·obtain⟨h1,lo,Hc,h2,h3,h4⟩:=s.mf m hm hf;refine⟨by omega,lo,Hc,by show tb.Pf m lo Hc (e2.f m);rw[f2 m hf];exact h2,h3.step s fm,λi hR hl hi=>?_⟩;show e2.f i<lo;rcases hi with hi|rfl
    ·rw[f2 i hi];exact h4 i hR hl hi
    ·omega
   ·have:=s.lo;omega
  ·obtain⟨h1,lo,Hc,h2,h3⟩:=s.mw m hw;exact⟨by omega,lo,Hc,h2,h3.step s fm⟩
end
def ngR (p:Option Nat×Option (Nat×Bool)) (o:AO):Bool:=match o.gd,o.ins.kind with
 | some (q,w),.read (.s t)=>(match p with
  | (some t',some (q',w'))=>Nat.beq t t'&&(Nat.beq q q'&&(w==w'))
  | _=>false)
 | some _,.read _=>false
 | _,_=>true
def ngL:Option Nat×Option (Nat×Bool)->List AO->Bool
 | _,[]=>true
 | p,o::l=>ngR p o&&ngL (o.dst,o.gd) l
def ng:C->Bool
 | .done | .bad | .exit _ | .ret=>true
 | .ops _ k=>ng k
 | .draw l un k=>(un.isEmpty||ngL (none,none) l)&&ng k
 | .cond _ a b=>ng a&&ng b
 | .condJ _ a b _ _ k=>ng a&&(ng b&&ng k)
 | .blk _ a _ _ k=>ng a&&ng k
 | .loop a _ _=>ng a
def shF(d:Nm)(A:Fr):Fr:=A.map λp=>(p.1,sh d p.2)
section
variable {d:Nm}
def zqt(A:Fr)(t:Nat):Fr.get (shF d A) t=(Fr.get A t).map (sh d):=by
 induction A with
 | nil=>rfl
 | cons p A ih=>
  obtain⟨k,v⟩:=p;show(if k=t then some (sh d v) else Fr.get (shF d A) t)=(if k=t then some v else Fr.get A t).map (sh d);split
  ·rfl
  ·exact ih
def shF_put(A:Fr)(o:Option Nat)(v:V):(shF d A).put o (sh d v)=shF d (A.put o v):=by cases o<;>rfl
def shF_drop(W:List Nat)(A:Fr):(shF d A).drop W=shF d (A.drop W):=by
 induction A with
 | nil=>rfl
 | cons p A ih=>
  obtain⟨k,v⟩:=p;show(if W.contains k then Fr.drop W (shF d A) else (k,sh d v)::Fr.drop W (shF d A))=shF d (if W.contains k then Fr.drop W A else (k,v)::Fr.drop W A);split
  ·exact ih
  ·rw[ih];rfl
def sh_getD(L:List V)(i:Nat):(shL d L).getD i .undef=sh d (L.getD i .undef):=by
 rw[yao,yao,zqs];cases L[i]?<;>rfl
def zoZ(L:List V):∀(J:List Nat) (i:Nat),zqd (shL d L) i J=shF d (zqd L i J)
 | [],i=>rfl
 | t::ts,i=>by
  simp only[zqd];rw[sh_getD,zoZ L ts (i+1)];rfl
def shF_join(A:Fr)(J W:List Nat)(L:List V):(shF d A).join J W (shL d L)=shF d (A.join J W L):=by
 unfold Fr.join;rw[zoZ,shF_drop];unfold shF;rw[yaP]
def ev_sh{A:Fr}{x:Arg}(h:x.still=true):x.ev (shF d A)=(x.ev A).map (sh d):=by
 cases x with
 | s t=>exact zqt A t
 | c v=>show some v=some (sh d v);rw[zns v h]
def evs_sh{A:Fr}:∀{xs:List Arg},xs.all Arg.still=true->evs (shF d A) xs=(evs A xs).map (shL d)
 | [],_=>rfl
 | x::xs,h=>by
  simp only[yba,yal]at h;simp only[evs];rw[ev_sh h.1,evs_sh h.2];cases x.ev A with
  | none=>rfl
  | some v=>simp only[yas,Option.bind_some,yc2];rfl
def zna{A:Fr}:∀{ps:List (Nat×Nat×Arg)},ps.all (λp=>p.2.2.still)=true->zaF (shF d A) ps=(zaF A ps).map (shP d)
 | [],_=>rfl
 | (o,s,x)::ps,h=>by
  simp only[yba,yal]at h;simp only[zaF];rw[ev_sh h.1,zna h.2];cases x.ev A with
  | none=>rfl
  | some v=>simp only[yas,Option.bind_some,yc2];rfl
def evOpt_sh{A:Fr}{o:Option Arg}(h:zgL o=true):zbA (shF d A) o=(zbA A o).map (Option.map (sh d)):=by
 cases o with
 | none=>rfl
 | some x=>
  simp only[zbA];rw[ev_sh h];cases x.ev A<;>rfl
def zsv(l:List V):∀i,params i (shL d l)=shF d (params i l):=by
 induction l with
 | nil=>intro i;rfl
 | cons v vs ih=>intro i;simp only[shL,params];rw[ih];rfl
def ztX(L:List V):zdD (shL d L)=sh d (zdD L):=by
 rcases L with _|⟨a,_|⟨b,L⟩⟩<;>rfl
def zoX(A:Fr):∀J:List Nat,zaV (shF d A) J=(zaV A J).map (shL d)
 | []=>rfl
 | t::ts=>by
  simp only[zaV];rw[zqt,zoX A ts];cases Fr.get A t with
  | none=>rfl
  | some v=>simp only[yas,Option.bind_some,yc2];rfl
end
def of_map{α β γ δ:Type}{g:Sg}{f:Nm->α->β}{k:Nm->γ->δ}{o:γ->Option α}{o':δ->Option β} (he:∀d A,o' (k d A)=(o A).map (f d)) {A:γ} {A':δ} (hA:Rl g k A A') {v:α} (hv:o A=some v):∃v',o' A'=some v'/\Rl g f v v':=by
 refine⟨f g.e v,?_,λd hd=>?_⟩
 ·rw[hA g.e (Ag.self g),he,hv];rfl
 ·have h1:o' A'=some (f g.e v):=by rw[hA g.e (Ag.self g),he,hv];rfl
  rw[hA d hd,he,hv]at h1;injection h1 with h1
  exact h1.symm
section
variable {g:Sg} {A A':Fr}
def ev_r{x:Arg}(hs:x.still=true)(hA:Rl g shF A A'){v:V}(hv:x.ev A=some v):∃v',x.ev A'=some v'/\Rl g sh v v':=of_map (f:=sh) (k:=shF) (o:=λA=>x.ev A) (o':=λA=>x.ev A) (λd A=>ev_sh hs) hA hv
def evs_r{x:List Arg}(hs:x.all Arg.still=true)(hA:Rl g shF A A'){v:List V}(hv:evs A x=some v):∃v',evs A' x=some v'/\Rl g shL v v':=of_map (f:=shL) (k:=shF) (o:=λA=>evs A x) (o':=λA=>evs A x) (λd A=>evs_sh hs) hA hv
def zp0 {x:List (Nat×Nat×Arg)} (hs:x.all (λp=>p.2.2.still)=true) (hA:Rl g shF A A') {v:List (Nat×Nat×V)} (hv:zaF A x=some v):∃v',zaF A' x=some v'/\Rl g shP v v':=of_map (f:=shP) (k:=shF) (o:=λA=>zaF A x) (o':=λA=>zaF A x) (λd A=>zna hs) hA hv
def zrd{x:Option Arg}(hs:zgL x=true)(hA:Rl g shF A A'){v:Option V}(hv:zbA A x=some v):∃v',zbA A' x=some v'/\Rl g (λd o=>o.map (sh d)) v v':=of_map (f:=λd (o:Option V)=>o.map (sh d)) (k:=shF) (o:=λA=>zbA A x) (o':=λA=>zbA A x) (λd A=>evOpt_sh hs) hA hv
def get_r{t:Nat}(hA:Rl g shF A A'){v:V}(hv:Fr.get A t=some v):∃v',Fr.get A' t=some v'/\Rl g sh v v':=of_map (f:=sh) (k:=shF) (o:=λA=>Fr.get A t) (o':=λA=>Fr.get A t) (λd A=>zqt A t) hA hv
def znS{J:List Nat}(hA:Rl g shF A A'){v:List V}(hv:zaV A J=some v):∃v',zaV A' J=some v'/\Rl g shL v v':=of_map (f:=shL) (k:=shF) (o:=λA=>zaV A J) (o':=λA=>zaV A J) (λd A=>zoX A J) hA hv
end
section
variable {tb:Tb} {g:Sg} {h K:Heap} {G G':Sem'} {A A':Fr}
def zau{x:Arg}{k k':V->M V}(hA:Rl g shF A A')(hs:x.still=true) (hk:∀v v',Rl g sh v v'->S tb g h K sh (k v) (k' v')):S tb g h K sh (with1 A x k) (with1 A' x k'):=by
 unfold with1;cases hv:x.ev A with
 | none=>exact zcv
 | some v=>
  obtain⟨v',e,r⟩:=ev_r hs hA hv;rw[e];exact hk v v' r
def znx{xs:List Arg}{k k':List V->M V}(hA:Rl g shF A A')(hs:xs.all Arg.still=true) (hk:∀v v',Rl g shL v v'->S tb g h K sh (k v) (k' v')):S tb g h K sh (withs A xs k) (withs A' xs k'):=by
 unfold withs;cases hv:evs A xs with
 | none=>exact zcv
 | some v=>
  obtain⟨v',e,r⟩:=evs_r hs hA hv;rw[e];exact hk v v' r
def zoG(tb:Tb)(G G':Sem'):Prop:=∀f args args' g h K,St tb g h K->Rl g shL args args'->S tb g h K sh (G f args) (G' f args')
def s_callv(hg:zoG tb G G')(s:St tb g h K){x x':V}{args args':List V}(rx:Rl g sh x x')(ra:Rl g shL args args'):S tb g h K sh (callv G x args) (callv G' x' args'):=by
 cases x<;>first|exact zcv|skip
 rename_i f caps;have:=rx g.e (Ag.self g);subst this;show S tb g h K sh (G f (args++caps)) (G' f (args'++shL g.e caps));refine hg _ _ _ _ _ _ s λd hd=>?_;have:=rx d hd;simp only[sh,V.fn.injEq,true_and]at this;rw[shL_app,<-ra d hd,this]
def s_run(hg:zoG tb G G')(s:St tb g h K)(hA:Rl g shF A A')(i:I)(hs:i.still=true):S tb g h K sh (i.run G A) (i.run G' A'):=by
 cases i<;>simp only[I.still,yal]at hs<;>simp only[I.run]
 case build z ps=>
  cases hv:zaF A ps with
  | none=>exact zcv
  | some l=>
   obtain⟨l',e,r⟩:=zp0 hs.2 hA hv;rw[e];exact s_op s λd hd=>by rw[r d hd];exact zc6 λv hv=>by have:=sh_build (d:=d) hv;rw[zce z hs.1]at this;exact this
 case slit ty l z ps=>
  cases hv:zaF A ps with
  | none=>exact zcv
  | some q=>
   obtain⟨q',e,r⟩:=zp0 hs.2 hA hv;rw[e];exact s_op s λd hd=>by rw[r d hd];have:=r_slit (d:=d) ty l z q;rw[zce z hs.1]at this;exact this
 case slice ck e x lo hi mx=>
  refine zau hA hs.1 λv v' r=>?_;cases h1:zbA A lo with
  | none=>exact zcv
  | some lo1=>
  cases h2:zbA A hi with
  | none=>exact zcv
  | some hi1=>
  cases h3:zbA A mx with
  | none=>exact zcv
  | some mx1=>
  obtain⟨lo2,e1,r1⟩:=zrd hs.2.1 hA h1;obtain⟨hi2,e2,r2⟩:=zrd hs.2.2.1 hA h2;obtain⟨mx2,e3,r3⟩:=zrd hs.2.2.2 hA h3;rw[e1,e2,e3];exact s_op s λd hd=>by rw[r d hd,r1 d hd,r2 d hd,r3 d hd];exact zc6 λu hu=>ztW hu
 case minmax mx x xs=>exact zau hA hs.1 λv v' r=>znx hA hs.2 λl l' rl=>s_op s λd hd=>by rw[r d hd,rl d hd];exact zc6 λu hu=>zoV hu
 case call f xs=>exact znx hA hs λl l' rl=>hg f l l' g h K s rl
 case callv x xs=>exact zau hA hs.1 λv v' r=>znx hA hs.2 λl l' rl=>s_callv hg s r rl
 case mkfn f xs=>exact znx hA hs λl l' rl=>zcu s λd hd=>by rw[rl d hd];rfl
 case mkmap ty=>exact s_op s λd hd=>r_mkmap ty
 case clear z x=>exact zau hA hs.2 λv v' r=>s_op s λd hd=>by rw[r d hd];have:=r_clear (d:=d) z v;rw[zce z hs.1]at this;exact this
 case appendz ty b z x y=>exact zau hA hs.2.1 λv v' r=>zau hA hs.2.2 λw w' q=>s_op s λd hd=>by rw[r d hd,q d hd];have:=zuk (d:=d) ty b z v w;rw[zce z hs.1]at this;exact this
 case mkslice ty b z x y=>exact zau hA hs.2.1 λv v' r=>zau hA hs.2.2 λw w' q=>s_op s λd hd=>by rw[r d hd,q d hd];have:=zuh (d:=d) ty b z v w;rw[zce z hs.1]at this;exact this
 case lookup mk z ok x k=>exact zau hA hs.2.1 λv v' r=>zau hA hs.2.2 λw w' q=>s_op s λd hd=>by rw[r d hd,q d hd];have:=r_lookup (d:=d) mk z ok v w;rw[zns z hs.1]at this;exact this
 case mv x=>exact zau hA hs λv v' r=>zcu s r
 case pick c a b=>exact zau hA hs.1 λu u' p=>zau hA hs.2.1 λv v' r=>zau hA hs.2.2 λw w' q=>s_op s λd hd=>by rw[p d hd,r d hd,q d hd];exact zc6 λ_ hu=>sh_pick hu
 case slice2 e c a b=>exact zau hA hs.1 λu u' p=>zau hA hs.2.1 λv v' r=>zau hA hs.2.2 λw w' q=>s_op s λd hd=>by rw[p d hd,r d hd,q d hd];exact r_slice2 e u v w
 case mapset mk c a b=>exact zau hA hs.1 λu u' p=>zau hA hs.2.1 λv v' r=>zau hA hs.2.2 λw w' q=>s_op s λd hd=>by rw[p d hd,r d hd,q d hd];exact r_mapset mk u v w
 case box ty x=>exact zau hA hs λv v' r=>s_op s λd hd=>by rw[r d hd];exact r_box ty v
 case load n x=>exact zau hA hs λv v' r=>s_op s λd hd=>by rw[r d hd];exact zuj n v
 case store n p x=>exact zau hA hs.1 λv v' r=>zau hA hs.2 λw w' q=>s_op s λd hd=>by rw[r d hd,q d hd];exact r_store n v w
 case nilck x=>exact zau hA hs λv v' r=>s_op s λd hd=>by rw[r d hd];exact zc6 λ_ hu=>sh_nilck hu
 case bin op x y=>exact zau hA hs.1 λv v' r=>zau hA hs.2 λw w' q=>s_op s λd hd=>by rw[r d hd,q d hd];exact zc6 λ_ hu=>sh_bin hu
 case eq k n x y=>exact zau hA hs.1 λv v' r=>zau hA hs.2 λw w' q=>s_op s λd hd=>by rw[r d hd,q d hd];exact zc6 λ_ hu=>sh_eqr hu
 case un op x=>exact zau hA hs λv v' r=>s_op s λd hd=>by rw[r d hd];exact zc6 λ_ hu=>sh_un hu
 case cint k x=>exact zau hA hs λv v' r=>s_op s λd hd=>by rw[r d hd];exact zc6 λ_ hu=>sh_cint hu
 case tostr x=>exact zau hA hs λv v' r=>s_op s λd hd=>by rw[r d hd];exact r_tostr v
 case tobytes ty x=>exact zau hA hs λv v' r=>s_op s λd hd=>by rw[r d hd];exact zo9 ty v
 case faddr o x=>exact zau hA hs λv v' r=>s_op s λd hd=>by rw[r d hd];exact zc6 λ_ hu=>sh_faddr hu
 case iaddr al e x y=>exact zau hA hs.1 λv v' r=>zau hA hs.2 λw w' q=>s_op s λd hd=>by rw[r d hd,q d hd];exact zc6 λ_ hu=>sh_iaddr hu
 case index l e n x y=>exact zau hA hs.1 λv v' r=>zau hA hs.2 λw w' q=>s_op s λd hd=>by rw[r d hd,q d hd];exact zc6 λ_ hu=>sh_index hu
 case sindex x y=>exact zau hA hs.1 λv v' r=>zau hA hs.2 λw w' q=>s_op s λd hd=>by rw[r d hd,q d hd];exact zc6 λ_ hu=>ztZ hu
 case field o n x=>exact zau hA hs λv v' r=>s_op s λd hd=>by rw[r d hd];exact zc6 λ_ hu=>sh_field hu
 case ext i x=>exact zau hA hs λv v' r=>s_op s λd hd=>by rw[r d hd];exact zc6 λ_ hu=>sh_ext hu
 case len x=>exact zau hA hs λv v' r=>s_op s λd hd=>by rw[r d hd];exact zc6 λ_ hu=>sh_vlen hu
 case slen x=>exact zau hA hs λv v' r=>s_op s λd hd=>by rw[r d hd];exact zc6 λ_ hu=>sh_slen hu
 case append ty e b x y=>exact zau hA hs.1 λv v' r=>zau hA hs.2 λw w' q=>s_op s λd hd=>by rw[r d hd,q d hd];exact r_append ty e b v w
 case copy e x y=>exact zau hA hs.1 λv v' r=>zau hA hs.2 λw w' q=>s_op s λd hd=>by rw[r d hd,q d hd];exact r_copy e v w
 case op1 k x=>exact zau hA hs λv v' r=>s_op s λd hd=>by rw[r d hd];exact zc6 λ_ hu=>sh_op1 hu
 case mknz ty x=>exact zau hA hs λv v' r=>s_op s λd hd=>by rw[r d hd];exact r_mknz ty v
 case remark ty x=>exact zau hA hs λv v' r=>s_op s λd hd=>by rw[r d hd];exact r_remark ty v
 case maplen x=>exact zau hA hs λv v' r=>s_op s λd hd=>by rw[r d hd];exact r_maplen v
 case aload k x=>exact zau hA hs λv v' r=>s_op s λd hd=>by rw[r d hd];exact r_aload k v
 case aadd k x y=>exact zau hA hs.1 λv v' r=>zau hA hs.2 λw w' q=>s_op s λd hd=>by rw[r d hd,q d hd];exact r_aadd k v w
 case mdrop p o x y=>exact zau hA hs.1 λv v' r=>zau hA hs.2 λw w' q=>s_op s λd hd=>by rw[r d hd,q d hd];exact zui p o v w
def zub {gd:Option (Nat×Bool)} {x y:M V} (s:St tb g h K) (hA:Rl g shF A A') (hx:S tb g h K sh x y):S tb g h K sh (guarded A gd x) (guarded A' gd y):=by
 unfold guarded;cases gd with
 | none=>exact hx
 | some p=>
  dsimp only;cases hv:Fr.get A p.1 with
  | none=>exact zcv
  | some v=>
   obtain⟨v',e,r⟩:=get_r hA hv;rw[e];have:=r g.e (Ag.self g);subst this;cases v with
   | bool b=>
    simp only[sh];by_cases hb:b=p.2
    ·rw[if_pos hb,if_pos hb];exact hx
    ·rw[if_neg hb,if_neg hb];exact zcu s λd hd=>rfl
   | tup vs=>cases vs with|nil=>exact zcu s λd hd=>rfl|cons _ _=>exact zcv
   | _=>exact zcv
def s_ao(hg:zoG tb G G')(s:St tb g h K)(hA:Rl g shF A A')(o:AO)(hs:o.still=true):S tb g h K sh (o.run G A) (o.run G' A'):=zub s hA (s_run hg s hA o.ins hs)
def zkO{o:Option Nat}{v v':V}(hA:Rl g shF A A')(r:Rl g sh v v'):Rl g shF (A.put o v) (A'.put o v'):=λd hd=>by rw[hA d hd,r d hd,shF_put]
def znE{J W:List Nat}{L L':List V}(hA:Rl g shF A A')(r:Rl g shL L L'):Rl g shF (A.join J W L) (A'.join J W L'):=λd hd=>by rw[hA d hd,r d hd,shF_join]
end
section
variable {tb:Tb} {G G':Sem'}
def s_ops(hg:zoG tb G G'):∀(l:List AO) (g:Sg) (h K:Heap) (A A':Fr),St tb g h K->Rl g shF A A'->l.all AO.still=true->S tb g h K shF (zdR G l A) (zdR G' l A')
 | [],g,h,K,A,A',s,hA,_=>zcu s hA
 | o::l,g,h,K,A,A',s,hA,hs=>by
  simp only[yba,yal]at hs;exact zcN s (s_ao hg s hA o hs.1) λg' h' K' v v' s' f' r=>s_ops hg l _ _ _ _ _ s' (zkO (hA.mono f'.ex) r) hs.2
def Sol(tb:Tb):V->Prop
 | .lit _=>False
 | v=>∀id,v.pid=some id->tb.R<=id
def zt0{d:Nm}{v:V}(hs:Sol tb v):(sh d v).pid=v.pid.map d.f:=by cases v<;>first|rfl|exact hs.elim
def Sol.le{v:V}(hs:Sol tb v){id:Nat}(h:v.pid=some id):tb.R<=id:=by cases v<;>first|exact hs _ h|exact hs.elim
def named{g:Sg}{v v':V}(hs:Sol tb v)(r:Rl g sh v v'){id:Nat}(h:v.pid=some id):g.nf id:=by
 apply yc5;intro hn
 let d:Nm:=⟨λi=>if i=id then g.e.f id+1 else g.e.f i,g.e.w,g.e.s⟩
 have hd:Ag g d:=⟨rfl,λi hi=>if_neg λe=>hn (by rw[<-e];exact hi),λ_ _=>rfl⟩;have h1:=(congrArg V.pid (r d hd)).symm.trans (congrArg V.pid (r g.e (Ag.self g)));rw[zt0 hs,zt0 hs,h]at h1;simp only[yas,yab]at h1;have h2:d.f id=g.e.f id+1:=if_pos rfl;omega
structure Sn (tb:Tb) (g:Sg) (h1 h2 K1 K2:Heap):Prop where
 f:∀id,g.nf id->tb.R<=id->h2.get id=h1.get id->K2.get (g.e.f id)=K1.get (g.e.f id)
 c1:K1.Cl
 c2:K2.Cl
 le:K1.next<=K2.next
def Sn.step{n:Nat}{g g':Sg}{h1 h2 K1 K2:Heap}(s:Sn tb g h1 h2 K1 K2)(x:Ex n g g')(hn:K2.next<=n):Sn tb g' h1 h2 K1 K2:=by
 refine⟨λid hi hR e=>?_,s.c1,s.c2,s.le⟩;by_cases ho:g.nf id
 ·rw[(x.f id ho).2];exact s.f id ho hR e
 ·have:=x.new id hi ho;have:=s.le;rw[s.c1 _ (by omega),s.c2 _ (by omega)]
def Sn.of{g g2:Sg}{h1 h2 K1 K2:Heap}(s1:St tb g h1 K1)(s2:St tb g2 h2 K2)(fm:Frm g h1 K1 g2 h2 K2):Sn tb g2 h1 h2 K1 K2:=by
 refine⟨λid hi hR e=>?_,s1.cl,s2.cl,fm.le⟩;cases hb:h2.get id with
 | some b=>
  rw[s2.em g2.e (Ag.self g2) id b hb];rw[hb]at e;exact(s1.em g2.e ((Ag.self g2).mono fm.ex) id b e.symm).symm
 | none=>
  rw[s2.dr id hi hR hb];rw[hb]at e;by_cases ho:g.nf id
  ·rw[(fm.ex.f id ho).2,s1.dr id ho hR e.symm]
  ·exact(s1.cl _ (fm.ex.new id hi ho)).symm
def RsR(tb:Tb)(g:Sg):List (Nat×V)->List (Nat×V)->Prop
 | [],[]=>True
 | (i,a)::l,(j,b)::m=>i=j/\(Rl g sh a b/\Sol tb a)/\RsR tb g l m
 | _,_=>False
def RsR.mono{n:Nat}{g g':Sg}(x:Ex n g g'):∀{l m:List (Nat×V)},RsR tb g l m->RsR tb g' l m
 | [],[],_=>trivial
 | (i,a)::l,(j,b)::m,r=>⟨r.1,⟨r.2.1.1.mono x,r.2.1.2⟩,RsR.mono x r.2.2⟩
 | [],_ :: _,r=>r.elim
 | _ :: _,[],r=>r.elim
def JsR(tb:Tb)(g:Sg)(K:Heap):List (Nat×Heap×Heap)->List (Nat×Heap×Heap)->Prop
 | [],[]=>True
 | (i,h1,h2)::l,(j,K1,K2)::m=>i=j/\(Sn tb g h1 h2 K1 K2/\K2.next<=K.next)/\JsR tb g K l m
 | _,_=>False
def JsR.step{g g':Sg}{K K':Heap}(x:Ex K.next g g')(hK:K.next<=K'.next):∀{l m:List (Nat×Heap×Heap)},JsR tb g K l m->JsR tb g' K' l m
 | [],[],_=>trivial
 | (i,h1,h2)::l,(j,K1,K2)::m,r=>⟨r.1,⟨r.2.1.1.step x r.2.1.2,yaA r.2.1.2 hK⟩,JsR.step x hK r.2.2⟩
 | [],_ :: _,r=>r.elim
 | _ :: _,[],r=>r.elim
abbrev un1:Nm->Unit->Unit:=λ_ u=>u
def s_unch{g:Sg}{h K h1 h2 K1 K2:Heap}(s:St tb g h K){a a':V}(r:Rl g sh a a')(hs:Sol tb a)(sn:Sn tb g h1 h2 K1 K2):S tb g h K un1 (M.unch a h1 h2) (M.unch a' K1 K2):=by
 intro u h' e;unfold M.unch at e ⊢;split at e
 ·rename_i hp;cases e;refine⟨g,(),K,?_,s,Frm.refl _ _ _,λ_ _=>rfl⟩;rw[if_pos];intro id hid;have e1:=r g.e (Ag.self g);subst e1;rw[zt0 hs]at hid;cases hv:a.pid with
  | none=>rw[hv]at hid;cases hid
  | some j=>
   rw[hv]at hid;have hid:g.e.f j=id:=Option.some.inj hid;subst hid;exact sn.f j (named hs r hv) (hs.le hv) (hp j hv)
 ·cases e
def zqv {un:List (Nat×Nat)} {j:Nat} {h1 h2 K1 K2:Heap}:∀{rs rs':List (Nat×V)} {g:Sg} {h K:Heap},St tb g h K->RsR tb g rs rs'->Sn tb g h1 h2 K1 K2->K2.next<=K.next->S tb g h K un1 (za3 un j h1 h2 rs) (za3 un j K1 K2 rs')
 | [],[],g,h,K,s,_,_,_=>zcu s λ_ _=>rfl
 | (i,a)::l,(i',b)::m,g,h,K,s,r,sn,hn=>by
  obtain⟨rfl,⟨r1,r2⟩,r3⟩:=r;unfold za3;by_cases hc:un.contains (i,j)=true
  ·rw[if_pos hc,if_pos hc];exact zcN s (s_unch s r1 r2 sn) λg' h' K' _ _ s' f' _=>zqv s' (r3.mono f'.ex) (sn.step f'.ex hn) (yaA hn f'.le)
  ·rw[if_neg hc,if_neg hc];exact zqv s r3 sn hn
 | [],_ :: _,_,_,_,_,r,_,_=>r.elim
 | _ :: _,[],_,_,_,_,r,_,_=>r.elim
def zuc {un:List (Nat×Nat)} {i:Nat} {a a':V}:∀{js js':List (Nat×Heap×Heap)} {g:Sg} {h K:Heap},St tb g h K->Rl g sh a a'->Sol tb a->JsR tb g K js js'->S tb g h K un1 (za6 un i a js) (za6 un i a' js')
 | [],[],g,h,K,s,_,_,_=>zcu s λ_ _=>rfl
 | (j,h1,h2)::l,(j',K1,K2)::m,g,h,K,s,r,hs,rj=>by
  obtain⟨rfl,⟨sn,hn⟩,r3⟩:=rj;unfold za6;by_cases hc:un.contains (i,j)=true
  ·rw[if_pos hc,if_pos hc];exact zcN s (s_unch s r hs sn) λg' h' K' _ _ s' f' _=>zuc s' (r.mono f'.ex) hs (r3.step f'.ex f'.le)
  ·rw[if_neg hc,if_neg hc];exact zuc s r hs r3
 | [],_ :: _,_,_,_,_,_,_,r=>r.elim
 | _ :: _,[],_,_,_,_,_,_,r=>r.elim
def zrB{α β:Type}{f:Nm->α->β}{g:Sg}{h K:Heap}{k:Heap->M α}{k':Heap->M β} (hk:S tb g h K f (k h) (k' K)):S tb g h K f (M.getH.bind k) (M.getH.bind k'):=hk
def reads_nil(j:Nat)(h1 h2:Heap):∀rs,za3 [] j h1 h2 rs=M.pure ()
 | []=>rfl
 | (i,a)::l=>by unfold za3;exact reads_nil j h1 h2 l
def zsd(i:Nat)(a:V):∀js,za6 [] i a js=M.pure ()
 | []=>rfl
 | (j,h1,h2)::l=>by unfold za6;exact zsd i a l
def zmV{α β:Type}(a:α)(k:α->M β):(M.pure a).bind k=k a:=rfl
def zrx{g:Sg}{h K:Heap}{A:Fr}{o:AO}{x:Arg}(hk:o.ins.kind = .read x)(hgd:o.gd=none)(s:St tb g h K){v:V}{h':Heap} (e:o.run G A h=some (v,h')):∃a,x.ev A=some a/\Sol tb a:=by
 obtain⟨dst,gd,ins⟩:=o;cases hgd;have e:ins.run G A h=some (v,h'):=e;have hk:ins.kind = .read x:=hk;cases ins<;>simp only[I.kind]at hk<;>first|(cases hk;done)|skip
 ·cases hk;simp only[I.run,with1]at e;cases hx:x.ev A with
  | none=>rw[hx]at e;cases e
  | some a=>
   rw[hx]at e;refine⟨a,rfl,?_⟩;cases a<;>try (cases e;done)
   ·rename_i id off;obtain⟨b,hb,e⟩:=gb e;intro j hj;injection hj with hj
    subst hj;exact(s.kn _ b hb).2
   ·intro j hj;cases hj
 ·cases hk;simp only[I.run,with1]at e;cases hx:x.ev A with
  | none=>rw[hx]at e;cases e
  | some a=>
   rw[hx]at e;refine⟨a,rfl,?_⟩;obtain⟨q,hq,e⟩:=gb e;cases a<;>try (cases hq;done)
   ·intro j hj;cases hj
   ·rename_i id off len cap;obtain⟨b,hb,hq⟩:=gb hq;intro j hj;injection hj with hj
    subst hj;exact(s.kn _ b hb).2
   ·intro j hj;cases hj
 all_goals (rw[zg7]at hk;exact hk.elim)
def s_draw0(hg:zoG tb G G'):∀(l:List AO) (p:Nat) (rs rs':List (Nat×V)) (js js':List (Nat×Heap×Heap)) (g:Sg) (h K:Heap) (A A':Fr),St tb g h K->Rl g shF A A'->l.all AO.still=true->S tb g h K shF (zaC G [] p rs js l A) (zaC G' [] p rs' js' l A'):=by
 intro l
 induction l with
 | nil=>intro p rs rs' js js' g h K A A' s hA _;exact zcu s hA
 | cons o l ih=>
  intro p rs rs' js js' g h K A A' s hA hs;simp only[yba,yal]at hs;unfold zaC;have key:∀(q q':List (Nat×V)) (u u':List (Nat×Heap×Heap)),S tb g h K shF ((o.run G A).bind λv=>zaC G [] (p+1) q u l (A.put o.dst v)) ((o.run G' A').bind λv=>zaC G' [] (p+1) q' u' l (A'.put o.dst v)):=λq q' u u'=>
   zcN s (s_ao hg s hA o hs.1) λg' h' K' v v' s' f' r=>ih _ _ _ _ _ _ _ _ _ _ s' (zkO (hA.mono f'.ex) r) hs.2
  cases hkk:o.ins.kind with
  | read x=>
   dsimp only;unfold zaC.with1';simp only[zsd,zmV];cases x.ev A<;>cases x.ev A'<;>exact key _ _ _ _
  | act=>
   dsimp only;simp only[reads_nil,zmV];exact zrB (zcN s (s_ao hg s hA o hs.1) λg' h' K' v v' s' f' r=>zrB (ih _ _ _ _ _ _ _ _ _ _ s' (zkO (hA.mono f'.ex) r) hs.2))
  | pure=>exact key _ _ _ _
  | new=>exact key _ _ _ _
def Nt(A:Fr)(q:Nat)(w:Bool):Prop:=A.get q=some (.tup [])\/∃b,A.get q=some (.bool b)/\b≠w
def sol_rd{g:Sg}{h K:Heap}{A:Fr}{o:AO}{x:Arg}(hk:o.ins.kind = .read x)(s:St tb g h K){v:V}{h':Heap} (e:o.run G A h=some (v,h')):(∃a,x.ev A=some a/\Sol tb a)\/∃q w,o.gd=some (q,w)/\Nt A q w:=by
 obtain⟨dst,gd,ins⟩:=o;cases gd with
 | none=>exact .inl (zrx hk rfl s e)
 | some p=>
  obtain⟨q,w⟩:=p;have e:guarded A (some (q,w)) (ins.run G A) h=some (v,h'):=e;unfold guarded at e;dsimp only at e;cases hq:A.get q with
  | none=>rw[hq]at e;cases e
  | some a=>
   rw[hq]at e;cases a<;>first|(cases e;done)|skip
   ·rename_i b;dsimp only at e;by_cases hbw:b=w
    ·rw[if_pos hbw]at e;exact .inl (zrx (o:=⟨dst,none,ins⟩) hk rfl s e)
    ·exact .inr ⟨q,w,rfl,.inr ⟨b,hq,hbw⟩⟩
   ·rename_i l;cases l with
    | nil=>exact .inr ⟨q,w,rfl,.inl hq⟩
    | cons x l=>cases e
def Inv(tb:Tb)(A:Fr) (p:Option Nat×Option (Nat×Bool)):Prop:=∀t q w,p=(some t,some (q,w))->Nt A q w->∃a,A.get t=some a/\Sol tb a
def znQ{h h':Heap}{A:Fr}{o:AO}{v:V} (e:o.run G A h=some (v,h')):Inv tb (A.put o.dst v) (o.dst,o.gd):=by
 obtain⟨dst,gd,ins⟩:=o;rintro t q w hp hn;injection hp with h1 h2
 have h1:dst=some t:=h1;have h2:gd=some (q,w):=h2;subst h1 h2;have hg:∀k,Fr.get (A.put (some t) v) k=if t=k then some v else A.get k:=λk=>rfl
 have hn:Nt (A.put (some t) v) q w:=hn;refine⟨v,(hg t).trans (if_pos rfl),?_⟩;unfold Nt at hn;rw[hg]at hn;by_cases htq:t=q
 ·rw[if_pos htq]at hn;rcases hn with hn|⟨b,hn,_⟩<;>(injection hn with hn;subst hn;intro id hi;cases hi)
 ·rw[if_neg htq]at hn;have e:guarded A (some (q,w)) (ins.run G A) h=some (v,h'):=e;unfold guarded at e;dsimp only at e;have hv:v = .undef:=by
   rcases hn with hn|⟨b,hn,hb⟩
   ·rw[hn]at e;injection e with e;injection e with e _;exact e.symm
   ·rw[hn]at e;dsimp only at e;rw[if_neg hb]at e;injection e with e;injection e with e _;exact e.symm
  subst hv;intro id hi;cases hi
def znB{α β γ δ:Type}{g:Sg}{h K:Heap}{f:Nm->α->β}{k:Nm->γ->δ}{x:M α}{y:M β}{u:α->M γ}{v:β->M δ}(s:St tb g h K)(hx:S tb g h K f x y) (hk:∀g' h' K' a b,x h=some (a,h')->St tb g' h' K'->Frm g h K g' h' K'->Rl g' f a b->S tb g' h' K' k (u a) (v b)):S tb g h K k (x.bind u) (y.bind v):=by
 intro c h2 e;obtain⟨a,h1,e1,e2⟩:=bind_some e;obtain⟨g1,b,K1,y1,s1,f1,r1⟩:=hx a h1 e1;obtain⟨g2,w,K2,y2,s2,f2,r2⟩:=hk g1 h1 K1 a b e1 s1 f1 r1 c h2 e2;exact⟨g2,w,K2,by rw[bind_ok y1];exact y2,s2,Frm.trans s s1 f1 f2,r2⟩
def s_draw(hg:zoG tb G G') (un:List (Nat×Nat)):∀(l:List AO) (p:Nat) (pv:Option Nat×Option (Nat×Bool)) (rs rs':List (Nat×V)) (js js':List (Nat×Heap×Heap)) (g:Sg) (h K:Heap) (A A':Fr),St tb g h K->Rl g shF A A'->Inv tb A pv->RsR tb g rs rs'->JsR tb g K js js'->l.all AO.still=true->ngL pv l=true->S tb g h K shF (zaC G un p rs js l A) (zaC G' un p rs' js' l A'):=by
 intro l
 induction l with
 | nil=>intro p pv rs rs' js js' g h K A A' s hA _ _ _ _ _;exact zcu s hA
 | cons o l ih=>
  intro p pv rs rs' js js' g h K A A' s hA hi hr hj hs hn;simp only[yba,yal]at hs;simp only[ngL,yal]at hn;unfold zaC;cases hkk:o.ins.kind with
  | read x=>
   dsimp only;have hst:x.still=true:=by
    have h1:=hs.1;unfold AO.still at h1;cases hi:o.ins<;>rw[hi]at h1 hkk<;>first|(simp only[I.kind,zg7]at hkk;done)|(simp only[I.kind]at hkk;cases hkk;done)|(simp only[I.kind]at hkk;cases hkk;exact h1)
   have sol:∀{v h1},o.run G A h=some (v,h1)->∃a,x.ev A=some a/\Sol tb a:=λ{v h1} e=>by
    rcases sol_rd hkk s e with h0|⟨q,w,hg',hnt⟩
    ·exact h0
    ·have h0:=hn.1;unfold ngR at h0;rw[hg',hkk]at h0;cases x with
     | c v=>cases h0
     | s t=>
      obtain⟨p1,p2⟩:=pv;rcases p1 with _|t'<;>rcases p2 with _|⟨q',w'⟩<;>first|(cases h0;done)|skip
      simp only[yal,beq_iff_eq]at h0;obtain⟨h1,h2,h3⟩:=h0;have h1:=yaF h1;have h2:=yaF h2;subst h1 h2 h3;exact hi _ _ _ rfl hnt
   unfold zaC.with1';cases hx:x.ev A with
   | none=>
    dsimp only;intro c h2 e;obtain⟨v,h1,e1,e2⟩:=bind_some e;obtain⟨a,ha,_⟩:=sol e1;rw[hx]at ha;cases ha
   | some a=>
    obtain⟨a',ea,ra⟩:=ev_r hst hA hx;rw[ea];dsimp only;by_cases hsol:Sol tb a
    ·exact znB s (s_ao hg s hA o hs.1) λg' h' K' v v' e0 s' f' r=>
      zcN s' (zuc s' (ra.mono f'.ex) hsol (hj.step f'.ex f'.le)) λg2 h2 K2 _ _ s2 f2 _=>
       ih _ _ _ _ _ _ _ _ _ _ _ s2 (zkO ((hA.mono f'.ex).mono f2.ex) (r.mono f2.ex)) (znQ e0) ⟨rfl,⟨(ra.mono f'.ex).mono f2.ex,hsol⟩,(hr.mono f'.ex).mono f2.ex⟩ ((hj.step f'.ex f'.le).step f2.ex f2.le) hs.2 hn.2
    ·intro c h2 e;obtain⟨v,h1,e1,e2⟩:=bind_some e;obtain⟨b,hb,hsb⟩:=sol e1;rw[hx]at hb;injection hb with hb
     subst hb;exact absurd hsb hsol
  | act=>
   dsimp only;exact zrB (znB s (s_ao hg s hA o hs.1) λg' h' K' v v' e0 s' f' r=>zrB (
    have sn:=Sn.of s s' f'
    zcN s' (zqv s' (hr.mono f'.ex) sn (yaj _)) λg2 h2 K2 _ _ s2 f2 _=>
     ih _ _ _ _ _ _ _ _ _ _ _ s2 (zkO ((hA.mono f'.ex).mono f2.ex) (r.mono f2.ex)) (znQ e0) ((hr.mono f'.ex).mono f2.ex) ⟨rfl,⟨sn.step f2.ex (yaj _),f2.le⟩,(hj.step f'.ex f'.le).step f2.ex f2.le⟩ hs.2 hn.2))
  | pure=>exact znB s (s_ao hg s hA o hs.1) λg' h' K' v v' e0 s' f' r=>ih _ _ _ _ _ _ _ _ _ _ _ s' (zkO (hA.mono f'.ex) r) (znQ e0) (hr.mono f'.ex) (hj.step f'.ex f'.le) hs.2 hn.2
  | new=>exact znB s (s_ao hg s hA o hs.1) λg' h' K' v v' e0 s' f' r=>ih _ _ _ _ _ _ _ _ _ _ _ s' (zkO (hA.mono f'.ex) r) (znQ e0) (hr.mono f'.ex) (hj.step f'.ex f'.le) hs.2 hn.2
def znv(d:Nm):Res->Res
 | .nrm L=>.nrm (shL d L)
 | .ex id L=>.ex id (shL d L)
 | .ret L=>.ret (shL d L)
def zkP{g:Sg}{r r':Res}(h:Rl g znv r r'):(∃L L',r = .nrm L/\r' = .nrm L'/\Rl g shL L L')\/(∃i L L',r = .ex i L/\r' = .ex i L'/\Rl g shL L L')\/∃L L',r = .ret L/\r' = .ret L'/\Rl g shL L L':=by
 have h0:=h g.e (Ag.self g);cases r with
 | nrm L=>exact .inl ⟨L,_,rfl,h0,λd hd=>by have:=h0.symm.trans (h d hd);injection this⟩
 | ex i L=>exact .inr (.inl ⟨i,L,_,rfl,h0,λd hd=>by have:=h0.symm.trans (h d hd);injection this⟩)
 | ret L=>exact .inr (.inr ⟨L,_,rfl,h0,λd hd=>by have:=h0.symm.trans (h d hd);injection this⟩)
def rl_nrm{g:Sg}{L L':List V}(r:Rl g shL L L'):Rl g znv (.nrm L) (.nrm L'):=λd hd=>by rw[r d hd];rfl
def rl_ex{g:Sg}{i:Nat}{L L':List V}(r:Rl g shL L L'):Rl g znv (.ex i L) (.ex i L'):=λd hd=>by rw[r d hd];rfl
def zue{g:Sg}{L L':List V}(r:Rl g shL L L'):Rl g znv (.ret L) (.ret L'):=λd hd=>by rw[r d hd];rfl
def s_join{g:Sg}{h K:Heap}{x y:M Res}{k k':List V->M Res}(s:St tb g h K)(hx:S tb g h K znv x y) (hk:∀g' h' K' L L',St tb g' h' K'->Frm g h K g' h' K'->Rl g' shL L L'->S tb g' h' K' znv (k L) (k' L')):S tb g h K znv (M.join x k) (M.join y k'):=by
 refine zcN s hx λg' h' K' r r' s' f' hr=>?_;rcases zkP hr with⟨L,L',rfl,rfl,q⟩|⟨i,L,L',rfl,rfl,q⟩|⟨L,L',rfl,rfl,q⟩
 ·exact hk _ _ _ _ _ s' f' q
 ·exact zcu s' (rl_ex q)
 ·exact zcu s' (zue q)
def zkM:∀(rv:List RV) (g:Sg) (h K:Heap) (A A':Fr),St tb g h K->Rl g shF A A'->S tb g h K shL (results A rv) (results A' rv)
 | [],g,h,K,A,A',s,hA=>zcu s λ_ _=>rfl
 | .tmp t::rs,g,h,K,A,A',s,hA=>
  zcN s (zo4 s λa ha=>get_r hA ha) λg1 h1 K1 v v' s1 f1 r1=>
   zcN s1 (zkM rs _ _ _ _ _ s1 (hA.mono f1.ex)) λg2 h2 K2 w w' s2 f2 r2=>zcu s2 λd hd=>by rw[r2 d hd,(r1.mono f2.ex) d hd];rfl
 | .cell t n::rs,g,h,K,A,A',s,hA=>
  zcN s (zo4 s λa ha=>get_r hA ha) λg0 h0 K0 u u' s0 f0 r0=>
   zcN s0 (s_op s0 λd hd=>by rw[r0 d hd];exact zuj n u) λg1 h1 K1 v v' s1 f1 r1=>
    zcN s1 (zkM rs _ _ _ _ _ s1 ((hA.mono f0.ex).mono f1.ex)) λg2 h2 K2 w w' s2 f2 r2=>zcu s2 λd hd=>by rw[r2 d hd,(r1.mono f2.ex) d hd];rfl
def s_exec(hg:zoG tb G G')(rv:List RV):∀(c:C) (cx:List (Nat×List Nat)) (J:List Nat) (g:Sg) (h K:Heap) (A A':Fr),St tb g h K->Rl g shF A A'->c.still=true->ng c=true->S tb g h K znv (exec G rv c cx J A) (exec G' rv c cx J A'):=by
 intro c
 induction c with
 | done=>intro cx J g h K A A' s hA _ _;exact zcN s (zo4 s λa ha=>znS hA ha) λg1 h1 K1 L L' s1 f1 r1=>zcu s1 (rl_nrm r1)
 | bad=>intro cx J g h K A A' s hA _ _;exact zcv
 | ops l k ih=>
  intro cx J g h K A A' s hA hs hn;simp only[C.still,yal]at hs;exact zcN s (s_ops hg l _ _ _ _ _ s hA hs.1) λg1 h1 K1 B B' s1 f1 r1=>ih _ _ _ _ _ _ _ s1 r1 hs.2 hn
 | draw l un k ih=>
  intro cx J g h K A A' s hA hs hn;simp only[C.still,yal]at hs;simp only[ng,yal,ybA]at hn;refine zcN s ?_ λg1 h1 K1 B B' s1 f1 r1=>ih _ _ _ _ _ _ _ s1 r1 hs.2 hn.2;rcases hn.1 with hu|hu
  ·have:un=[]:=List.isEmpty_iff.1 hu;subst this;exact s_draw0 hg l 0 [] [] [] [] g h K A A' s hA hs.1
  ·exact s_draw hg un l 0 (none,none) [] [] [] [] g h K A A' s hA (λt q w hp=>by cases hp) trivial trivial hs.1 hu
 | cond x a b iha ihb=>
  intro cx J g h K A A' s hA hs hn;simp only[C.still,yal]at hs;simp only[ng,yal]at hn;simp only[exec];cases hv:x.ev A with
  | none=>exact zcv
  | some c=>
   obtain⟨c',e,r⟩:=ev_r hs.1 hA hv;rw[e];exact s_ite r (iha _ _ _ _ _ _ _ s hA hs.2.1 hn.1) (ihb _ _ _ _ _ _ _ s hA hs.2.2 hn.2)
 | condJ x a b J' W k iha ihb ihk=>
  intro cx J g h K A A' s hA hs hn;simp only[C.still,yal]at hs;simp only[ng,yal]at hn;simp only[exec];cases hv:x.ev A with
  | none=>exact zcv
  | some c=>
   obtain⟨c',e,r⟩:=ev_r hs.1 hA hv;rw[e];exact s_join s (s_ite r (iha _ _ _ _ _ _ _ s hA hs.2.1 hn.1) (ihb _ _ _ _ _ _ _ s hA hs.2.2.1 hn.2.1)) λg1 h1 K1 L L' s1 f1 r1=>ihk _ _ _ _ _ _ _ s1 (znE (hA.mono f1.ex) r1) hs.2.2.2 hn.2.2
 | blk id a J' W k iha ihk=>
  intro cx J g h K A A' s hA hs hn;simp only[C.still,yal]at hs;simp only[ng,yal]at hn;simp only[exec,M.blk];refine zcN s (iha _ _ _ _ _ _ _ s hA hs.1 hn.1) λg1 h1 K1 r r' s1 f1 hr=>?_;rcases zkP hr with⟨L,L',rfl,rfl,q⟩|⟨i,L,L',rfl,rfl,q⟩|⟨L,L',rfl,rfl,q⟩
  ·exact ihk _ _ _ _ _ _ _ s1 (znE (hA.mono f1.ex) q) hs.2 hn.2
  ·by_cases e:i=id
   ·simp only[if_pos e];exact ihk _ _ _ _ _ _ _ s1 (znE (hA.mono f1.ex) q) hs.2 hn.2
   ·simp only[if_neg e];exact zcu s1 (rl_ex q)
  ·exact zcu s1 (zue q)
 | loop a K0 W iha=>
  intro cx J g h K A A' s hA hs hn
  -- what the frame is goes along with what is carried: the loop's own frame is the same in each round
  intro r0 h2 e;obtain⟨L,h1,e1,e2⟩:=bind_some e;obtain⟨g1,L',K1,y1,s1,f1,r1⟩:=zo4 (K:=K) s (λa ha=>znS hA ha) L h1 e1;have hA1:=hA.mono f1.ex;obtain⟨n,hn'⟩:=zeO e2;have key:∀(n:Nat) (L L':List V) (g:Sg) (h K:Heap),St tb g h K->Rl g shF A A'->Rl g shL L L'->S tb g h K znv (iterN (λL=>exec G rv a cx K0 (A.join K0 W L)) n L) (iterN (λL=>exec G' rv a cx K0 (A'.join K0 W L)) n L'):=by
   intro n
   induction n with
   | zero=>intros;exact zcv
   | succ n ih=>intro L L' g h K s hA r;exact s_join s (iha _ _ _ _ _ _ _ s (znE hA r) hs hn) λg' h' K' L L' s' f' q=>ih _ _ _ _ _ s' (hA.mono f'.ex) q
  obtain⟨g',b,K',e3,s3,f3,r3⟩:=key n L L' g1 h1 K1 s1 hA1 r1 r0 h2 hn';refine⟨g',b,K',?_,s3,Frm.trans s s1 f1 f3,r3⟩;show((M.lift (zaV A' K0)).bind λL=>M.iter (λL=>exec G' rv a cx K0 (A'.join K0 W L)) L) K = _;rw[bind_ok y1];exact zfJ e3
 | exit id=>
  intro cx J g h K A A' s hA _ _;simp only[exec];cases zhA cx id with
  | none=>exact zcv
  | some J=>exact zcN s (zo4 s λa ha=>znS hA ha) λg1 h1 K1 L L' s1 f1 r1=>zcu s1 (rl_ex r1)
 | ret=>intro cx J g h K A A' s hA _ _;exact zcN s (zkM rv _ _ _ _ _ s hA) λg1 h1 K1 L L' s1 f1 r1=>zcu s1 (zue r1)
def s_fn(hg:zoG tb G G')(f:Fn')(hs:f.body.still=true)(hn:ng f.body=true)(args args':List V)(g:Sg)(h K:Heap)(s:St tb g h K)(r:Rl g shL args args'):S tb g h K sh (f.run G args) (f.run G' args'):=by
 unfold Fn'.run;refine zcN s (s_exec hg _ _ _ _ _ _ _ _ _ s (λd hd=>by rw[r d hd,zsv]) hs hn) λg1 h1 K1 r r' s1 f1 hr=>?_;rcases zkP hr with⟨L,L',rfl,rfl,q⟩|⟨i,L,L',rfl,rfl,q⟩|⟨L,L',rfl,rfl,q⟩
 ·exact zcv
 ·exact zcv
 ·exact zcu s1 λd hd=>by rw[q d hd,ztX]
end
end Go.Ax.Y
/- Ax47 -/
namespace Go.Ax
def zas{α β:Type}{o:Option α}{f:α->Option β}{b:β}(h:o.bind f=some b):∃a,o=some a/\f a=some b:=by
 cases o with
 | none=>cases h
 | some a=>exact⟨a,rfl,h⟩
def zaT{α β:Type}{o:Option α}{f:α->β}{b:β}(h:o.map f=some b):∃a,o=some a/\f a=b:=by
 cases o with
 | none=>cases h
 | some a=>exact⟨a,rfl,by injection h⟩
def zhS{x:Value}{v:V}(h:V.ofValue x=some v):v.still=true:=by
 unfold V.ofValue at h;split at h<;>first|(injection h with h;subst h;rfl)|cases h
def ze7:∀{l:List Value} {vs:List V},V.ofCells l=some vs->V.stills vs=true
 | [],_,h=>by injection h with h;subst h;rfl
 | x::xs,_,h=>by
  obtain⟨v,h1,h⟩:=zas h;obtain⟨vs,h2,h⟩:=zaT h;subst h;simp only[V.stills,zhS h1,ze7 h2,yaE]
def zhT{x:Value}{v:V}(h:V.ofConst x=some v):v.still=true:=by
 unfold V.ofConst at h;split at h
 ·obtain⟨vs,h1,h⟩:=zaT h;subst h;exact ze7 h1
 ·exact zhS h
def zac{x:Operand}{a:Arg}(h:zan x=some a):a.still=true:=by
 unfold zan at h;split at h
 ·injection h with h;subst h;rfl
 ·obtain⟨v,h1,h⟩:=zaT h;subst h;exact zhT h1
 ·injection h with h;subst h;rfl
 ·cases h
def zb0:∀{l:List Operand} {vs:List Arg},zbr l=some vs->vs.all Arg.still=true
 | [],_,h=>by injection h with h;subst h;rfl
 | x::xs,_,h=>by
  obtain⟨v,h1,h⟩:=zas h;obtain⟨vs,h2,h⟩:=zaT h;subst h;simp only[yba,zac h1,zb0 h2,yaE]
def zfl{x:Option Operand}{a:Option Arg}(h:zfm x=some a):zgL a=true:=by
 unfold zfm at h;split at h
 ·injection h with h;subst h;rfl
 ·obtain⟨v,h1,h⟩:=zaT h;subst h;exact zac h1
def zca{P:Program}{t:TypeId}{z:List V}(h:zeroOf P t=some z):V.stills z=true:=by
 obtain⟨v,h1,h⟩:=zas h;exact ze7 h
def zsh{P:Program}{t:TypeId}{z:V}(h:zvOf P t=some z):z.still=true:=by
 obtain⟨v,h1,h⟩:=zas h;exact zhT h
def zfv{P:Program}{fs:Array Field}:∀{l:List (Nat×Operand)} {ps:List (Nat×Nat×Arg)},zdO P fs l=some ps->(ps.all λp=>p.2.2.still)=true
 | [],_,h=>by injection h with h;subst h;rfl
 | (i,x)::xs,_,h=>by
  obtain⟨f,h1,h⟩:=zas h;obtain⟨s,h2,h⟩:=zas h;obtain⟨a,h3,h⟩:=zas h;obtain⟨vs,h4,h⟩:=zaT h;subst h;simp only[yba,zac h3,zfv h4,yaE]
def zd7{s:Nat}:∀{l:List (Nat×Operand)} {ps:List (Nat×Nat×Arg)},zd8 s l=some ps->(ps.all λp=>p.2.2.still)=true
 | [],_,h=>by injection h with h;subst h;rfl
 | (i,x)::xs,_,h=>by
  obtain⟨a,h3,h⟩:=zas h;obtain⟨vs,h4,h⟩:=zaT h;subst h;simp only[yba,zac h3,zd7 h4,yaE]
def if_s{c:Prop}[Decidable c]{α:Type}{x:Option α}{y:α} (h:(if c then x else none)=some y):x=some y:=by
 by_cases hc:c
 ·rw[if_pos hc]at h;exact h
 ·rw[if_neg hc]at h;cases h
def zmN{P:Program}{e:TypeId}{i:TypeInfo}{u:TypeId}{x y:Operand}{o:I}(h:zks P e i u x y=some o):o.still=true:=by
 unfold zks at h;split at h
 ·obtain⟨z,h1,h⟩:=zas h;obtain⟨a,h3,h⟩:=zas (if_s h);obtain⟨b,h4,h⟩:=zaT h;subst h;simp only[I.still,zca h1,zac h3,zac h4,yaE]
 ·cases h
def zjt{P:Program}{b:Builtin}{es:List Operand}{ts:List TypeId}{o:I}(h:zfo P b es ts=some o):o.still=true:=by
 unfold zfo at h;split at h
 ·split at h
  ·obtain⟨a,h3,h⟩:=zaT h;subst h;exact zac h3
  ·obtain⟨a,h3,h⟩:=zaT h;subst h;exact zac h3
  ·injection h with h;subst h;rfl
  ·obtain⟨a,h3,h⟩:=zaT h;subst h;exact zac h3
  ·cases h
 ·obtain⟨e,h1,h⟩:=zas h;obtain⟨i,h2,h⟩:=zas h;obtain⟨z,h5,h⟩:=zas h;split at h
  ·obtain⟨a,h3,h⟩:=zas h;obtain⟨b,h4,h⟩:=zaT h;subst h;simp only[I.still,zac h3,zac h4,yaE]
  ·exact zmN h
 ·obtain⟨e,h1,h⟩:=zas h;obtain⟨i,h2,h⟩:=zas h;obtain⟨a,h3,h⟩:=zas h;obtain⟨b,h4,h⟩:=zaT h;subst h;simp only[I.still,zac h3,zac h4,yaE]
 ·obtain⟨e,h1,h⟩:=zas h;obtain⟨z,h2,h⟩:=zas h;obtain⟨a,h3,h⟩:=zaT (if_s h);subst h;simp only[I.still,zca h2,zac h3,yaE]
 ·obtain⟨a,h3,h⟩:=zas h;obtain⟨b,h4,h⟩:=zaT h;subst h;simp only[I.still,zac h3,zb0 h4,yaE]
 ·obtain⟨a,h3,h⟩:=zas h;obtain⟨b,h4,h⟩:=zaT h;subst h;simp only[I.still,zac h3,zb0 h4,yaE]
 ·cases h
def zjM{P:Program}{n:Bool}{t:TypeId}{x y:Arg}{o:I}(hx:x.still=true)(hy:y.still=true)(h:znf P n t x y=some o):o.still=true:=by
 have key:(x.still&&y.still)=true:=by rw[hx,hy];rfl
 unfold znf at h;split at h
 ·injection h with h;subst h;exact key
 ·injection h with h;subst h;exact key
 ·injection h with h;subst h;exact key
 ·split at h
  ·have h:=if_s h;injection h with h;subst h;exact key
  ·cases h
 ·split at h
  ·injection h with h;subst h;exact key
  ·obtain⟨a,h3,h⟩:=zaT h;subst h;exact key
 ·cases h
def zox{P:Program}{op:BinOp}{t:TypeId}{x y:Arg}{o:I}(hx:x.still=true)(hy:y.still=true)(h:zlR P op t x y=some o):o.still=true:=by
 have key:(x.still&&y.still)=true:=by rw[hx,hy];rfl
 unfold zlR at h;split at h
 ·injection h with h;subst h;exact key
 ·injection h with h;subst h;exact key
 ·injection h with h;subst h;exact key
 ·split at h
  ·exact zjM hx hy h
  ·exact zjM hx hy h
  ·cases h
 ·cases h
def zow{k:Xk}{es:List Arg}{o:I}(ha:es.all Arg.still=true)(h:zf8 k es=some o):o.still=true:=by
 unfold zf8 at h;split at h<;>first
  | cases h;done
  | (injection h with h;subst h;simp only[yba,List.all_nil,yaE]at ha;exact ha)
def zmM{P:Program}{f:FuncId}{es:List Arg}{o:I}(ha:es.all Arg.still=true)(h:zkr P f es=some o):o.still=true:=by
 unfold zkr at h;split at h
 ·split at h
  ·obtain⟨k,h1,h⟩:=zas (if_s h);exact zow ha h
  ·injection h with h;subst h;exact ha
 ·cases h
def zjL{P:Program}{o:Op}{i:I}(h:zne P o=some i):i.still=true:=by
 unfold zne at h;split at h
 case h_1=>obtain⟨a,h3,h⟩:=zaT h;subst h;exact zac h3
 case h_2=>obtain⟨a,h3,h⟩:=zaT h;subst h;exact zac h3
 case h_3=>
  obtain⟨a,h1,h⟩:=zas h;obtain⟨b,h2,h⟩:=zas h;obtain⟨c,h3,h⟩:=zaT h;subst h;simp only[I.still,zac h1,zac h2,zac h3,yaE]
 case h_4=>obtain⟨a,h3,h⟩:=zaT h;subst h;exact zca h3
 case h_5=>obtain⟨a,h3,h⟩:=zaT h;subst h;exact zac h3
 case h_6=>
  obtain⟨z,h1,h⟩:=zas h;split at h
  ·obtain⟨a,h3,h⟩:=zaT (if_s h);subst h;simp only[I.still,zca h1,zfv h3,yaE]
  ·obtain⟨s,h2,h⟩:=zas h;obtain⟨a,h3,h⟩:=zaT h;subst h;simp only[I.still,zca h1,zd7 h3,yaE]
  ·cases h
 case h_7=>
  obtain⟨e,h1,h⟩:=zas h;obtain⟨s,h2,h⟩:=zas h;obtain⟨z,h4,h⟩:=zas h;obtain⟨a,h3,h⟩:=zaT (if_s h);subst h;simp only[I.still,zca h4,zd7 h3,yaE]
 case h_8=>
  obtain⟨n,h1,h⟩:=zas h;obtain⟨a,h3,h⟩:=zaT h;subst h;exact zac h3
 case h_9=>
  obtain⟨n,h1,h⟩:=zas h;obtain⟨b,h2,h⟩:=zas h;obtain⟨a,h3,h⟩:=zaT h;subst h;simp only[I.still,zac h2,zac h3,yaE]
 case h_10=>obtain⟨a,h3,h⟩:=zaT h;subst h;exact zac h3
 case h_11=>
  obtain⟨a,h1,h⟩:=zas h;obtain⟨b,h2,h⟩:=zas h;exact zox (zac h1) (zac h2) h
 case h_12=>obtain⟨a,h3,h⟩:=zaT h;subst h;exact zac h3
 case h_13=>
  split at h
  ·obtain⟨a,h3,h⟩:=zaT h;subst h;exact zac h3
  ·obtain⟨a,h3,h⟩:=zaT h;subst h;exact zac h3
  ·split at h
   ·obtain⟨a,h3,h⟩:=zaT h;subst h;exact zac h3
   ·cases h
  ·split at h
   ·obtain⟨a,h3,h⟩:=zaT h;subst h;exact zac h3
   ·cases h
  ·split at h
   ·split at h
    ·obtain⟨a,h3,h⟩:=zaT h;subst h;exact zac h3
    ·obtain⟨a,h3,h⟩:=zaT h;subst h;exact zac h3
   ·cases h
  ·cases h
 case h_14=>
  split at h
  ·obtain⟨f,h1,h⟩:=zas h;obtain⟨n,h2,h⟩:=zas h;obtain⟨a,h3,h⟩:=zaT (if_s h);subst h;exact zac h3
  ·cases h
 case h_15=>
  split at h
  ·obtain⟨n,h2,h⟩:=zas h;obtain⟨a,h1,h⟩:=zas h;obtain⟨b,h3,h⟩:=zaT h;subst h;simp only[I.still,zac h1,zac h3,yaE]
  ·obtain⟨n,h2,h⟩:=zas h;obtain⟨a,h1,h⟩:=zas h;obtain⟨b,h3,h⟩:=zaT h;subst h;simp only[I.still,zac h1,zac h3,yaE]
  ·cases h
 case h_16=>
  split at h
  ·obtain⟨n,h2,h⟩:=zas h;obtain⟨l,h4,h⟩:=zas h;obtain⟨a,h1,h⟩:=zas h;obtain⟨b,h3,h⟩:=zaT h;subst h;simp only[I.still,zac h1,zac h3,yaE]
  ·obtain⟨a,h1,h⟩:=zas h;obtain⟨b,h3,h⟩:=zaT h;subst h;simp only[I.still,zac h1,zac h3,yaE]
  ·cases h
 case h_17=>
  split at h
  ·obtain⟨f,h1,h⟩:=zas h;obtain⟨n,h2,h⟩:=zas h;obtain⟨a,h3,h⟩:=zaT h;subst h;exact zac h3
  ·cases h
 case h_18=>obtain⟨a,h3,h⟩:=zaT h;subst h;exact zac h3
 case h_19=>
  split at h
  ·obtain⟨a,h3,h⟩:=zaT h;subst h;exact zac h3
  ·cases h
 case h_20=>
  obtain⟨a,h1,h⟩:=zas h;obtain⟨b,h2,h⟩:=zas h;obtain⟨c,h3,h⟩:=zas h;obtain⟨d,h4,h⟩:=zas h;have e1:=zac h1;have e2:=zfl h2;have e3:=zfl h3;have e4:=zfl h4;have key:(a.still&&(zgL b&&(zgL c&&zgL d)))=true:=by rw[e1,e2,e3,e4];rfl
  split at h
  ·obtain⟨s,h5,h⟩:=zas h;split at h
   ·have h:=if_s h;injection h with h;subst h
    simp only[zgL]at e2 e3;simp only[I.still,e1,e2,e3,yaE]
   ·injection h with h;subst h;exact key
  ·obtain⟨s,h5,h⟩:=zaT h;subst h;exact key
  ·injection h with h;subst h;exact key
  ·cases h
 case h_21=>
  obtain⟨e,h1,h⟩:=zas h;obtain⟨i,h2,h⟩:=zas h;obtain⟨z,h5,h⟩:=zas h;obtain⟨a,h3,h⟩:=zas (if_s h);obtain⟨b,h4,h⟩:=zaT h;subst h;simp only[I.still,zca h5,zac h3,zac h4,yaE]
 case h_22=>
  obtain⟨a,h3,h⟩:=zaT (if_s h);subst h;exact zb0 h3
 case h_23=>
  split at h
  ·injection h with h;subst h;rfl
  ·cases h
 case h_24=>
  obtain⟨q,h1,h⟩:=zas h;obtain⟨z,h2,h⟩:=zas h;obtain⟨a,h3,h⟩:=zas h;obtain⟨b,h4,h⟩:=zaT h;subst h;simp only[I.still,zsh h2,zac h3,zac h4,yaE]
 case h_25=>
  obtain⟨q,h1,h⟩:=zas h;obtain⟨a,h2,h⟩:=zas h;obtain⟨b,h3,h⟩:=zas h;obtain⟨c,h4,h⟩:=zaT h;subst h;simp only[I.still,zac h2,zac h3,zac h4,yaE]
 case h_26=>
  obtain⟨q,h1,h⟩:=zas h;obtain⟨a,h2,h⟩:=zas h;obtain⟨b,h3,h⟩:=zas h;obtain⟨c,h4,h⟩:=zaT h;subst h;simp only[I.still,zac h2,zac h3,zac h4,yaE]
 case h_27=>
  obtain⟨a,h2,h⟩:=zas h;exact zmM (zb0 h2) h
 case h_28=>
  obtain⟨a,h2,h⟩:=zas h;obtain⟨b,h3,h⟩:=zaT h;subst h;simp only[I.still,zac h2,zb0 h3,yaE]
 case h_29=>exact zjt h
 case h_30=>cases h
def zjO{P:Program}{ops:Array Oper}{o:Oper}{a:AO}(h:zgY P ops o=some a):a.still=true:=by
 obtain⟨i,h1,h⟩:=zas h;split at h
 ·injection h with h;subst h;exact zjL h1
 ·obtain⟨s,h2,h⟩:=zaT h;subst h;exact zjL h1
def ziF{P:Program}{ops:Array Oper}:∀{l:List Oper} {es:List AO},zeH P ops l=some es->es.all AO.still=true
 | [],_,h=>by injection h with h;subst h;rfl
 | x::xs,_,h=>by
  obtain⟨a,h3,h⟩:=zas h;obtain⟨vs,h4,h⟩:=zaT h;subst h;simp only[yba,zjO h3,ziF h4,yaE]
def ziG{P:Program}{ops:Array Oper}:∀{l:List Nat} {es:List (Nat×AO)},zf9 P ops l=some es->(es.map (·.2)).all AO.still=true
 | [],_,h=>by injection h with h;subst h;rfl
 | x::xs,_,h=>by
  obtain⟨o,h1,h⟩:=zas h;obtain⟨a,h3,h⟩:=zas h;obtain⟨vs,h4,h⟩:=zaT h;subst h;simp only[ya5,yba,zjO h3,ziG h4,yaE]
def zmL{P:Program}{ops:Array Oper}{ord:List Nat} {r:List AO×List (Nat×Nat)} (h:zfn P ops ord=some r):r.1.all AO.still=true:=by
 unfold zfn at h;obtain⟨l,h1,h⟩:=zas h;have h:=if_s h;injection h with h;subst h
 exact ziG h1
def ztb{P:Program}:∀{c:Code} {k:C} {h:List (List Nat)} {r:C×List (List Nat)},k.still=true->comp P c k h=some r->r.1.still=true:=by
 intro c
 induction c with
 | skip=>intro k h r hk e;injection e with e;subst e;exact hk
 | region _ ops d=>
  intro k h r hk e;unfold comp at e;split at e
  ·injection e with e;subst e;rfl
  ·split at e
   ·obtain⟨l,h1,e⟩:=zaT e;subst e;simp only[C.still,ziF h1,hk,yaE]
   ·split at e
    ·obtain⟨l,h1,e⟩:=zaT (if_s e);subst e;simp only[C.still,zmL h1,hk,yaE]
    ·cases e
 | seq a b iha ihb=>
  intro k h r hk e;unfold comp at e;obtain⟨s,h1,e⟩:=zas e;exact iha (ihb hk h1) e
 | cond x a b iha ihb=>
  intro k h r hk e;unfold comp at e;obtain⟨x',hx,e⟩:=zas e;split at e
  ·obtain⟨s,h1,e⟩:=zas e;obtain⟨t,h2,e⟩:=zaT e;subst e;have e1:=iha rfl h1;have e2:=ihb hk h2;simp only[C.still,zac hx,e1,e2,yaE]
  ·split at e
   ·obtain⟨s,h1,e⟩:=zas e;obtain⟨t,h2,e⟩:=zaT e;subst e;have e1:=iha hk h1;have e2:=ihb rfl h2;simp only[C.still,zac hx,e1,e2,yaE]
   ·split at e
    ·obtain⟨s,h1,e⟩:=zas e;obtain⟨t,h2,e⟩:=zaT e;subst e;have e1:=iha rfl h1;have e2:=ihb rfl h2;simp only[C.still,zac hx,e1,e2,hk,yaE]
    ·cases e
 | block id a iha=>
  intro k h r hk e;unfold comp at e;split at e
  ·obtain⟨s,h1,e⟩:=zaT e;subst e;have e1:=iha rfl h1;simp only[C.still,e1,hk,yaE]
  ·cases e
 | loop a iha=>
  intro k h r hk e;unfold comp at e;split at e
  ·obtain⟨s,h1,e⟩:=zaT e;subst e;have e1:=iha (k:=.done) rfl h1;exact e1
  ·cases e
 | exit id=>intro k h r hk e;injection e with e;subst e;rfl
 | ret=>intro k h r hk e;injection e with e;subst e;rfl
 | _=>intros;rename_i e;cases e
def zp8{P:Program}{fn:Func} {h:List (List Nat)} {ir:Fn'} (e:zlQ P fn h=some ir):ir.body.still=true:=by
 unfold zlQ at e;obtain⟨b,h1,e⟩:=zas e;obtain⟨r,h2,e⟩:=zas e;obtain⟨rv,h3,e⟩:=zas e;have e:=if_s e;injection e with e;subst e
 exact ztb (k:=.ret) rfl h2
def zou{P:Program}{fn:Func} {h:List (List Nat)} {ir:Fn'} (e:zov P fn h=some ir):ir.body.still=true:=by
 unfold zov at e;split at e
 ·injection e with e;subst e;rfl
 ·split at e
  ·injection e with e;subst e;rfl
  ·exact zp8 e
def zoQ{P:Program} {h:FuncId->List (List Nat)} {f:FuncId} {ir:Fn'} (e:zmQ P h f=some ir):ir.body.still=true:=by
 obtain⟨fn,h1,e⟩:=zas e;exact zou e
end Go.Ax
/- Ax54 -/
namespace Go.Ax.Y
def news:Heap->List (Option Blk)->Heap
 | h,[]=>h
 | h,some b::l=>news (h.new b) l
 | h,none::l=>news ⟨h.get,h.next+1⟩ l
abbrev Orc:Type:=FuncId->List V->Heap->Option (V×List (Option Blk))
def codeO(T:FuncId->Option Fn')(G:Sem')(f:FuncId)(args:List V):M V:=match T f with
 | some ir=>if args.length<=ir.ntmps then ir.run G args else M.fail
 | none=>M.fail
def zvt(T:FuncId->Option Fn')(sel:FuncId->List V->Bool)(O:Orc):Nat->Sem'
 | 0=>λ_ _=>M.fail
 | n+1=>λf args h=>match (if sel f args=true then O f args h else none) with
  | some r=>some (r.1,news h r.2)
  | none=>codeO T (zvt T sel O n) f args h
def OrS(tb:Tb)(T:FuncId->Option Fn')(sel:FuncId->List V->Bool)(O:Orc):Prop:=
 ∀f args args' g h K v nb,sel f args=true->O f args h=some (v,nb)->St tb g h K->Rl g shL args args' ->
  ∃g' b K',sem T f args' K=some (b,K')/\St tb g' (news h nb) K'/\Frm g h K g' (news h nb) K'/\Rl g' sh v b
def s_deep{tb:Tb}{T0 T:FuncId->Option Fn'}{sel:FuncId->List V->Bool}{O:Orc}(hT:∀f ir,T0 f=some ir->T f=some ir/\ir.body.still=true/\ng ir.body=true)(hO:OrS tb T sel O):∀n,zoG tb (zvt T0 sel O n) (sem T)
 | 0=>λf args args' g h K s r=>zcv
 | n+1=>λf args args' g h K s r=>by
  intro a h' e;unfold zvt at e;cases ho:(if sel f args=true then O f args h else none) with
  | some q=>
   rw[ho]at e;by_cases hs:sel f args=true
   ·rw[if_pos hs]at ho;obtain⟨v,nb⟩:=q;cases e;exact hO f args args' g h K v nb hs ho s r
   ·rw[if_neg hs]at ho;cases ho
  | none=>
   rw[ho]at e;dsimp only at e;unfold codeO at e;cases hf:T0 f with
   | none=>rw[hf]at e;cases e
   | some ir=>
    rw[hf]at e;dsimp only at e;obtain⟨k1,k2,k3⟩:=hT f ir hf;by_cases hc:args.length<=ir.ntmps
    ·rw[if_pos hc]at e;obtain⟨g',b,K',e1,s1,f1,r1⟩:=s_fn (s_deep hT hO n) ir k2 k3 args args' g h K s r a h' e;refine⟨g',b,K',zo1 k1 ?_ e1,s1,f1,r1⟩;rw[r g.e (Ag.self g),shL_len];exact hc
    ·rw[if_neg hc]at e;cases e
/-! The same,to compute with. -/
def zuS:Cc.Heap->List (Option Blk)->Cc.Heap
 | h,[]=>h
 | h,some b::l=>zuS (h.new b) l
 | h,none::l=>zuS ⟨h.t,h.next+1⟩ l
def zl3:∀(l:List (Option Blk)) (h:Cc.Heap),(zuS h l).abs=news h.abs l
 | [],h=>rfl
 | some b::l,h=>by show(zuS (h.new b) l).abs=news (h.abs.new b) l;rw[zl3 l,Cc.abs_new]
 | none::l,h=>zl3 l ⟨h.t,h.next+1⟩
def codeC(T:FuncId->Option Fn')(G:Cc.Sem')(f:FuncId)(args:List V):Cc.M V:=match T f with
 | some ir=>match Nat.ble args.length ir.ntmps with
  | true=>Cc.fin (Cc.execK G ir.rv ir.body [] [] (params 0 args))
  | false=>Cc.M.fail
 | none=>Cc.M.fail
abbrev OrcC:Type:=FuncId->List V->Cc.Heap->Option (V×List (Option Blk))
def cdq(T:FuncId->Option Fn')(sel:FuncId->List V->Bool)(O:OrcC):Nat->Cc.Sem'
 | 0=>λ_ _=>Cc.M.fail
 | n+1=>λf args=>match sel f args with
  | true=>λh=>match O f args h with|some r=>some (r.1,zuS h r.2)|none=>codeC T (cdq T sel O n) f args h
  | false=>codeC T (cdq T sel O n) f args
def sim_code{T:FuncId->Option Fn'}{G:Cc.Sem'}{G':Sem'}(hG:Cc.Sims G G')(f:FuncId)(args:List V):Cc.Sim (codeC T G f args) (codeO T G' f args):=by
 unfold codeC codeO;cases hf:T f with
 | none=>exact Cc.sim_fail
 | some ir=>
  dsimp only;cases hc:Nat.ble args.length ir.ntmps with
  | false=>exact Cc.sim_fail
  | true=>
   rw[if_pos (yau hc),zrD];exact Cc.sim_fin (Cc.sim_exec hG _ _ _ _ _)
def zry{T:FuncId->Option Fn'}{sel:FuncId->List V->Bool}{O:Orc}{OC:OrcC}(hO:∀f a c,OC f a c=O f a c.abs):∀n,Cc.Sims (cdq T sel OC n) (zvt T sel O n)
 | 0=>λ_ _=>Cc.sim_fail
 | n+1=>λf args=>by
  have hk:=sim_code (T:=T) (zry (T:=T) (sel:=sel) (O:=O) hO n) f args;intro c v c' e;unfold cdq at e;unfold zvt;cases hs:sel f args with
  | true=>
   rw[hs]at e;dsimp only at e;rw[if_pos rfl];rw[hO]at e;cases hO:O f args c.abs with
   | none=>rw[hO]at e;exact hk c v c' e
   | some r=>
    rw[hO]at e;cases e;dsimp only;rw[zl3]
  | false=>
   rw[hs]at e;rw[if_neg (by decide)];exact hk c v c' e
def run_okq{tb:Tb}{T0 T:FuncId->Option Fn'}{sel:FuncId->List V->Bool}{O:Orc}{OC:OrcC}(hC:∀f a c,OC f a c=O f a c.abs)(hT:∀f ir,T0 f=some ir->T f=some ir/\ir.body.still=true/\ng ir.body=true)(hO:OrS tb T sel O){m:Nat}{f:FuncId}{args args':List V}{c:Cc.Heap}{v:V}{c':Cc.Heap} (h:cdq T0 sel OC m f args c=some (v,c')) {g:Sg} {K:Heap} (s:St tb g c.abs K) (r:Rl g shL args args') :
  ∃g' b K',sem T f args' K=some (b,K')/\St tb g' c'.abs K'/\Frm g c.abs K g' c'.abs K'/\Rl g' sh v b:=
 s_deep hT hO m f args args' g c.abs K s r v c'.abs (zry hC m f args c v c' h)
end Go.Ax.Y
/- Ax55 -/
namespace Go.Ax.Y
variable {tb:Tb} {g:Sg} {h K K':Heap}
def fr_dum(gr:Grow K K'):Frm g h K g ⟨h.get,h.next+1⟩ K':=
 ⟨Ex.refl _ _,gr.next,ybH _,λi hi _=>gr.same i hi,λj b hj=>.inl ⟨b,hj⟩⟩
def St.dum(s:St tb g h K)(gr:Grow K K')(hc:K'.Cl):St tb g (news h [none]) K':=by
 have fm:=fr_dum (g:=g) (h:=h) gr;refine⟨s.s,s.kn,λi hi=>ybu (s.nb i hi),s.nwb,ycN s.lo,s.inj,λi hi=>yaq (s.lt i hi) gr.next,λd hd i b hi=>?_,λi hi hR hn=>?_,hc,s.seq,λi hR hi e=>?_,s.mono,λm hm hf=>?_,λm hw=>?_⟩
 ·rw[gr.same _ (by rw[hd.2.1 i (s.kn i b hi).1];exact s.lt i (s.kn i b hi).1)];exact s.em d hd i b hi
 ·rw[gr.same _ (s.lt i hi)];exact s.dr i hi hR hn
 ·have:=s.nb i hi;have e:i+1=h.next+1:=e;omega
 ·obtain⟨h1,lo,Hc,h2,h3,h4⟩:=s.mf m hm hf;exact⟨ybu h1,lo,Hc,h2,h3.step s fm,h4⟩
 ·obtain⟨h1,lo,Hc,h2,h3⟩:=s.mw m hw;exact⟨ybu h1,lo,Hc,h2,h3.step s fm⟩
def St.blk(s:St tb g h K)(gr:Grow K K')(hc:K'.Cl){id:Nat}(h1:K.next<=id)(h2:id<K'.next){b:Blk} (hb:∀d,Ag g d->K'.get id=some (shB d b)) :
  ∃g',St tb g' (news h [none,some b,none]) K'/\Frm g h K g' (news h [none,some b,none]) K'/\g'.nf (h.next+1)/\g'.e.f (h.next+1)=id:=by
 let e2:Nm:=⟨λi=>if i=h.next+1 then id else g.e.f i,g.e.w,g.e.s⟩
 let g':Sg:=⟨e2,λi=>g.nf i\/i=h.next+1,g.nw⟩
 have fn:e2.f (h.next+1)=id:=if_pos rfl;have f2:∀i,g.nf i->e2.f i=g.e.f i:=λi hi=>if_neg (by have:=s.nb i hi;omega);have hget:∀j,(news h [none,some b,none]).get j=if j=h.next+1 then some b else h.get j:=λj=>rfl
 have hnx:(news h [none,some b,none]).next=h.next+1+1+1:=rfl;have kn':∀j c,(news h [none,some b,none]).get j=some c->(j=h.next+1/\c=b)\/(j≠h.next+1/\h.get j=some c):=λj c hj=>by
  rw[hget]at hj;by_cases e:j=h.next+1
  ·rw[if_pos e]at hj;injection hj with hj;exact .inl ⟨e,hj.symm⟩
  ·rw[if_neg e]at hj;exact .inr ⟨e,hj⟩
 have ex:Ex K.next g g':=⟨rfl,λi hi=>⟨.inl hi,f2 i hi⟩,λi hi=>⟨hi,rfl⟩,λi hi hn=>by
  rcases hi with hi|rfl
  ·exact absurd hi hn
  ·show K.next<=e2.f (h.next+1);rw[fn];exact h1⟩
 have fm:Frm g h K g' (news h [none,some b,none]) K':=⟨ex,gr.next,by rw[hnx];omega,λi hi _=>gr.same i hi,λj c hj=>by
  rcases kn' j c hj with⟨rfl,_⟩|⟨_,hj⟩
  ·refine .inr ?_;show K.next<=e2.f (h.next+1);rw[fn];exact h1
  ·exact .inl ⟨c,hj⟩⟩
 have lt':∀i,g.nf i->g.e.f i<K.next:=s.lt;refine⟨g',⟨s.s,λi c hi=>?_,λi hi=>?_,s.nwb,by rw[hnx];have:=s.lo;omega,λi j hi hj eq=>?_,λi hi=>?_,λd hd i c hi=>?_,λi hi hR hn=>?_,hc,λi hR hi hj=>?_,λi hR hi e=>?_,λi j hR hl hi hj=>?_,λm hm hf=>?_,λm hw=>?_⟩,fm,.inr rfl,fn⟩
 ·rcases kn' i c hi with⟨rfl,_⟩|⟨_,hi⟩
  ·exact⟨.inr rfl,by have:=s.lo;omega⟩
  ·exact⟨.inl (s.kn i c hi).1,(s.kn i c hi).2⟩
 ·rw[hnx];rcases hi with hi|rfl
  ·have:=s.nb i hi;omega
  ·omega
 ·have eq:e2.f i=e2.f j:=eq;rcases hi with hi|rfl<;>rcases hj with hj|rfl
  ·rw[f2 i hi,f2 j hj]at eq;exact s.inj i j hi hj eq
  ·rw[f2 i hi,fn]at eq;have:=lt' i hi;omega
  ·rw[f2 j hj,fn]at eq;have:=lt' j hj;omega
  ·rfl
 ·show e2.f i<K'.next;rcases hi with hi|rfl
  ·rw[f2 i hi];exact yaq (lt' i hi) gr.next
  ·rw[fn];exact h2
 ·have hd0:=hd.mono ex;rcases kn' i c hi with⟨rfl,rfl⟩|⟨_,hi⟩
  ·have:d.f (h.next+1)=id:=(hd.2.1 (h.next+1) (.inr rfl)).trans fn;rw[this];exact hb d hd0
  ·rw[gr.same _ (by rw[hd0.2.1 i (s.kn i c hi).1];exact lt' i (s.kn i c hi).1)];exact s.em d hd0 i c hi
 ·show K'.get (e2.f i)=none;rcases hi with hi|rfl
  ·rw[f2 i hi,gr.same _ (lt' i hi)];refine s.dr i hi hR ?_;rw[hget,if_neg (by have:=s.nb i hi;omega)]at hn;exact hn
  ·rw[hget,if_pos rfl]at hn;cases hn
 ·show e2.f (i+1)=e2.f i+1;rcases hi with hi|rfl
  ·rcases hj with hj|hj
   ·rw[f2 i hi,f2 _ hj];exact s.seq i hR hi hj
   ·have:=s.nb i hi;omega
  ·rcases hj with hj|hj
   ·have:=s.nb _ hj;omega
   ·omega
 ·rw[hnx]at e;rcases hi with hi|rfl
  ·have:=s.nb i hi;omega
  ·omega
 ·show e2.f i<e2.f j;rcases hi with hi|rfl
  ·rw[f2 i hi];rcases hj with hj|rfl
   ·rw[f2 j hj];exact s.mono i j hR hl hi hj
   ·rw[fn];have:=lt' i hi;omega
  ·rcases hj with hj|rfl
   ·have:=s.nb j hj;omega
   ·omega
 ·rcases hf with hf|rfl
  ·obtain⟨q1,lo,Hc,q2,q3,q4⟩:=s.mf m hm hf;refine⟨by rw[hnx];omega,lo,Hc,by show tb.Pf m lo Hc (e2.f m);rw[f2 m hf];exact q2,q3.step s fm,λi hR hl hi=>?_⟩;show e2.f i<lo;rcases hi with hi|rfl
   ·rw[f2 i hi];exact q4 i hR hl hi
   ·omega
  ·have:=s.lo;omega
 ·obtain⟨q1,lo,Hc,q2,q3⟩:=s.mw m hw;exact⟨by rw[hnx];omega,lo,Hc,q2,q3.step s fm⟩
def St.key(s:St tb g h K)(gr:Grow K K')(hc:K'.Cl){id m:Nat}(hm:m<tb.R)(ht:tb.t m=h.next)(h1:K.next<=id)(h2:id<K'.next)(hP:tb.Pf m K.next K' id) :
  ∃g',St tb g' (news h [none]) K'/\Frm g h K g' (news h [none]) K'/\g'.nf m/\g'.e.f m=id:=by
 have hnm:¬g.nf m:=λhf=>by have:=(s.mf m hm hf).1;omega
 let e2:Nm:=⟨λi=>if i=m then id else g.e.f i,g.e.w,g.e.s⟩
 let g':Sg:=⟨e2,λi=>g.nf i\/i=m,g.nw⟩
 have fn:e2.f m=id:=if_pos rfl;have f2:∀i,g.nf i->e2.f i=g.e.f i:=λi hi=>if_neg (by rintro rfl;exact hnm hi);have nR:∀i,tb.R<=i->i≠m:=λi hi=>by omega
 have nf':∀i,tb.R<=i->g'.nf i->g.nf i:=λi hR hi=>hi.resolve_right (nR i hR);have ex:Ex K.next g g':=⟨rfl,λi hi=>⟨.inl hi,f2 i hi⟩,λi hi=>⟨hi,rfl⟩,λi hi hn=>by
  rcases hi with hi|rfl
  ·exact absurd hi hn
  ·show K.next<=e2.f i;rw[fn];exact h1⟩
 have fm:Frm g h K g' (news h [none]) K':=⟨ex,gr.next,ybH _,λi hi _=>gr.same i hi,λj c hj=>.inl ⟨c,hj⟩⟩;have lt':∀i,g.nf i->g.e.f i<K.next:=s.lt;refine⟨g',⟨s.s,λi c hi=>⟨.inl (s.kn i c hi).1,(s.kn i c hi).2⟩,λi hi=>?_,s.nwb,ycN s.lo,λi j hi hj eq=>?_,λi hi=>?_,λd hd i c hi=>?_,λi hi hR hn=>?_,hc,λi hB hi hj=>?_,λi hB hi e=>?_,λi j hB hl hi hj=>?_,λn hn hf=>?_,λn hw=>?_⟩,fm,.inr rfl,fn⟩
 ·show i<h.next+1;rcases hi with hi|rfl
  ·have:=s.nb i hi;omega
  ·have:=s.lo;omega
 ·have eq:e2.f i=e2.f j:=eq;rcases hi with hi|rfl<;>rcases hj with hj|rfl
  ·rw[f2 i hi,f2 j hj]at eq;exact s.inj i j hi hj eq
  ·rw[f2 i hi,fn]at eq;have:=lt' i hi;omega
  ·rw[f2 j hj,fn]at eq;have:=lt' j hj;omega
  ·rfl
 ·show e2.f i<K'.next;rcases hi with hi|rfl
  ·rw[f2 i hi];exact yaq (lt' i hi) gr.next
  ·rw[fn];exact h2
 ·have hd0:=hd.mono ex;rw[gr.same _ (by rw[hd0.2.1 i (s.kn i c hi).1];exact lt' i (s.kn i c hi).1)];exact s.em d hd0 i c hi
 ·show K'.get (e2.f i)=none;have hi:=nf' i hR hi;rw[f2 i hi,gr.same _ (lt' i hi)];exact s.dr i hi hR hn
 ·show e2.f (i+1)=e2.f i+1;have hR:=yaA tb.rb hB;have hi:=nf' i hR hi;have hj:=nf' (i+1) (by omega) hj;rw[f2 i hi,f2 _ hj];exact s.seq i hB hi hj
 ·have:=s.nb i (nf' i (yaA tb.rb hB) hi);have e:i+1=h.next+1:=e;omega
 ·show e2.f i<e2.f j;have hR:=yaA tb.rb hB;have hi:=nf' i hR hi;have hj:=nf' j (by omega) hj;rw[f2 i hi,f2 j hj];exact s.mono i j hB hl hi hj
 ·rcases hf with hf|rfl
  ·obtain⟨q1,lo,Hc,q2,q3,q4⟩:=s.mf n hn hf;refine⟨ybu q1,lo,Hc,by show tb.Pf n lo Hc (e2.f n);rw[f2 n hf];exact q2,q3.step s fm,λi hR hl hi=>?_⟩;show e2.f i<lo;have hi:=nf' i hR hi;rw[f2 i hi];exact q4 i hR hl hi
  ·refine⟨by rw[ht];exact yaR _,K.next,K',by show tb.Pf n K.next K' (e2.f n);rw[fn];exact hP,⟨yaj _,λ_ _ _=>rfl,λi q1 q2 j c hj e=>?_⟩,λi hR hl hi=>?_⟩
   ·have hj':=(s.kn j c hj).1;have e:e2.f j=i:=e;rw[f2 j hj']at e;have:=lt' j hj';omega
   ·show e2.f i<K.next;have hi:=nf' i hR hi;rw[f2 i hi];exact lt' i hi
 ·obtain⟨q1,lo,Hc,q2,q3⟩:=s.mw n hw;exact⟨ybu q1,lo,Hc,q2,q3.step s fm⟩
def St.val(s:St tb g h K)(gr:Grow K K')(hc:K'.Cl){m:Nat}{v:V}(hm:m<tb.R)(ht:tb.t m=h.next)(hP:tb.Pw m K.next K' v) :
  ∃g',St tb g' (news h [none]) K'/\Frm g h K g' (news h [none]) K'/\g'.nw m/\g'.e.w m=v:=by
 have hnm:¬g.nw m:=λhf=>by have:=(s.mw m hf).1;omega
 let e2:Nm:=⟨g.e.f,λi=>if i=m then v else g.e.w i,g.e.s⟩
 let g':Sg:=⟨e2,g.nf,λi=>g.nw i\/i=m⟩
 have fn:e2.w m=v:=if_pos rfl;have w2:∀i,g.nw i->e2.w i=g.e.w i:=λi hi=>if_neg (by rintro rfl;exact hnm hi);have ex:Ex K.next g g':=⟨rfl,λi hi=>⟨hi,rfl⟩,λi hi=>⟨.inl hi,w2 i hi⟩,λi hi hn=>absurd hi hn⟩;have fm:Frm g h K g' (news h [none]) K':=⟨ex,gr.next,ybH _,λi hi _=>gr.same i hi,λj c hj=>.inl ⟨c,hj⟩⟩;have lt':∀i,g.nf i->g.e.f i<K.next:=s.lt;refine⟨g',⟨s.s,s.kn,λi hi=>ybu (s.nb i hi),λi hi=>?_,ycN s.lo,s.inj,λi hi=>yaq (lt' i hi) gr.next,λd hd i c hi=>?_,λi hi hR hn=>?_,hc,s.seq,λi hR hi e=>?_,s.mono,λn hn hf=>?_,λn hw=>?_⟩,fm,.inr rfl,fn⟩
 ·rcases hi with hi|rfl
  ·exact s.nwb i hi
  ·exact hm
 ·have hd0:=hd.mono ex;rw[gr.same _ (by rw[hd0.2.1 i (s.kn i c hi).1];exact lt' i (s.kn i c hi).1)];exact s.em d hd0 i c hi
 ·show K'.get (g.e.f i)=none;rw[gr.same _ (lt' i hi)];exact s.dr i hi hR hn
 ·have:=s.nb i hi;have e:i+1=h.next+1:=e;omega
 ·obtain⟨q1,lo,Hc,q2,q3,q4⟩:=s.mf n hn hf;exact⟨ybu q1,lo,Hc,q2,q3.step s fm,q4⟩
 ·rcases hw with hw|rfl
  ·obtain⟨q1,lo,Hc,q2,q3⟩:=s.mw n hw;exact⟨ybu q1,lo,Hc,by show tb.Pw n lo Hc (e2.w n);rw[w2 n hw];exact q2,q3.step s fm⟩
  ·refine⟨by rw[ht];exact yaR _,K.next,K',by show tb.Pw n K.next K' (e2.w n);rw[fn];exact hP,⟨yaj _,λ_ _ _=>rfl,λi q1 q2 j c hj e=>?_⟩⟩;have e:g.e.f j=i:=e;have:=lt' j (s.kn j c hj).1;omega
def wnamed{m:Int}{v':V} (r:Rl g sh (.lit (.int .i64 m)) v'):g.nw m.toNat:=by
 apply yc5;intro hn
 let d (x:V):Nm:=⟨g.e.f,λi=>if i=m.toNat then x else g.e.w i,g.e.s⟩
 have hd:∀x,Ag g (d x):=λx=>⟨rfl,λi hi=>rfl,λi hi=>if_neg (by rintro rfl;exact hn hi)⟩;have h1:=r (d .nils) (hd _);have h2:=r (d .nilp) (hd _);have e:∀x,sh (d x) (.lit (.int .i64 m))=okw x:=λx=>congrArg okw (if_pos rfl);rw[e]at h1 h2;rw[h1]at h2;cases h2
def fnamed{m o:Nat}{v':V} (r:Rl g sh (.ptr m o) v'):g.nf m/\v' = .ptr (g.e.f m) o:=
 ⟨named (tb:=⟨0,0,yaj 0,λ_=>0,λ_=>0,λ_ _ _ _=>True,λ_ _ _ _=>True⟩) (v:=.ptr m o) (λ_ _=>yaJ _) r rfl,r g.e (Ag.self g)⟩
end Go.Ax.Y
