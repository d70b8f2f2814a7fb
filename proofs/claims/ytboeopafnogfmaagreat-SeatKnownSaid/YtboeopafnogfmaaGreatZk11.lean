/-
  Texts of mine, put together by program (wip/slim.py), for law_seatKnown: part 11.
-/
import Derived.Test.YtboeopafnogfmaaGreatZk10
noncomputable section
set_option linter.unusedVariables false
set_option linter.unusedSimpArgs false
set_option linter.defProp false
set_option maxRecDepth 100000
/- Su12 -/
namespace Go.Ax.SU
open Go.Ax
theorem Str.low{H:Heap}{s:Nat}{m F:List Nat}(h:Str H s m F):∀i∈F,i<H.next:=by
 obtain⟨c,bv,Fb,rfl,k,_⟩:=h;exact k.low
theorem Str.to{H H':Heap}{s:Nat}{m F:List Nat}(h:Str H s m F)(hn:H.next≤H'.next)(hs:∀i∈F,H'.get i=H.get i):Str H' s m F:=by
 obtain⟨c,bv,Fb,rfl,k,h8⟩:=h;exact⟨c,bv,Fb,rfl,k.to hn hs,h8⟩
theorem Str.grow{H H':Heap}{s:Nat}{m F:List Nat}(h:Str H s m F)(g:Grow H H'):Str H' s m F:=h.to g.next λi hi=>g.same i (h.low i hi)
theorem New_ok{H:Heap}:Ok (sem T zdO []) H λr H'=>∃s F,r = .ptr s 0∧Str H' s [] F∧(∀i∈F,H.next≤i)∧Grow H H':=by
 refine zpb ?_;unfold zlv uL uO uq;simp(disch:=omega)only[↓RD,RZ,eq_self,seval];have gc:((H.new ⟨zay,conC false,none⟩).new ⟨zao,h0.map w32++[.nils,.int .u64 ((0:Nat):Int),.ptr H.next 0],none⟩).get H.next=some ⟨zay,conC false,none⟩:=by
  rw[zaM _ _ (by rw[zaf]; omega),zag]
 have gs:((H.new ⟨zay,conC false,none⟩).new ⟨zao,h0.map w32++[.nils,.int .u64 ((0:Nat):Int),.ptr H.next 0],none⟩).get (H.next+1)=some ⟨zao,h0.map w32++[.nils,.int .u64 ((0:Nat):Int),.ptr H.next 0],none⟩:=by
  rw[zqD _ _ (by rw[zaf])]
 have nx:((H.new ⟨zay,conC false,none⟩).new ⟨zao,h0.map w32++[.nils,.int .u64 ((0:Nat):Int),.ptr H.next 0],none⟩).next=H.next+2:=by rw[zaf,zaf]
 refine⟨H.next+1,[H.next+1,H.next],rfl,⟨H.next,.nils,[],rfl,⟨gs,⟨false,gc⟩,.nil,rfl,by omega,by simp,by simp,?_,?_⟩,Ok8.nil⟩,λi hi=>?_,(Grow.new _ _).trans (Grow.new _ _)⟩
 ·show H.next+1 < _;exact Nat.lt_of_lt_of_eq (by omega) nx.symm
 ·show H.next < _;exact Nat.lt_of_lt_of_eq (by omega) nx.symm
 ·simp only[List.mem_cons,List.not_mem_nil,or_false]at hi;omega
theorem Copy_ok{H:Heap}{s:Nat}{m F:List Nat}(k:Str H s m F):Ok (sem T zca [.ptr s 0]) H λr H'=>∃t c Fb,r = .ptr t 0∧Str H' t m (t::c::Fb)∧c∈F∧H.next≤t∧(∀i∈Fb,H.next≤i)∧Grow H H':=by
 obtain⟨c,bv,Fb,rfl,k,hm8⟩:=k;refine zh2 ?_;unfold zeJ uS uT uF uNFM uN uO uq;have gs:=k.gs;have ql:=stl k.hl bv (.int .u64 (m.length:Nat)) (.ptr c 0);have hld:ldc (some 11) ((hs kc m).map w32++[bv,.int .u64 (m.length:Nat),.ptr c 0]) 0=some (.agg ((hs kc m).map w32++[bv,.int .u64 (m.length:Nat),.ptr c 0])):=by
  rw[zeN (by omega),List.drop_zero,List.take_of_length_le (by omega)]
 have hok:V.okc (.agg ((hs kc m).map w32++[bv,.int .u64 (m.length:Nat),.ptr c 0]))=true:=by
  have o:=k.bf.okc;simp only[V.okc,List.all_append,List.all_map,Bool.and_eq_true]
  skip
 have hsp:∀L:List V,L.length=11→splice L 0 ((hs kc m).map w32++[bv,.int .u64 (m.length:Nat),.ptr c 0])=(hs kc m).map w32++[bv,.int .u64 (m.length:Nat),.ptr c 0]:=λL hL=>by
  unfold splice;rw[List.take_zero,List.nil_append,ql,List.drop_of_length_le (by omega),List.append_nil]
 have i8:=st8 k.hl;have hsl:=k.sl;have hcl:=k.cl;have hsp2:=sp8 k.hl;have h1:∀i,i<H.next→((H.new ⟨zao,[.int .u32 0,.int .u32 0,.int .u32 0,.int .u32 0,.int .u32 0,.int .u32 0,.int .u32 0,.int .u32 0,.nils,.int .u64 0,.nilp],none⟩).set H.next (some ⟨zao,(hs kc m).map w32++[bv,.int .u64 (m.length:Nat),.ptr c 0],none⟩)).get i=H.get i:=λi hi=>by rw[zaj _ _ (by omega),zaM _ _ (by omega)]
 have g1:((H.new ⟨zao,[.int .u32 0,.int .u32 0,.int .u32 0,.int .u32 0,.int .u32 0,.int .u32 0,.int .u32 0,.int .u32 0,.nils,.int .u64 0,.nilp],none⟩).set H.next (some ⟨zao,(hs kc m).map w32++[bv,.int .u64 (m.length:Nat),.ptr c 0],none⟩)).get H.next = _:=zai _ _ _;have n1:((H.new ⟨zao,[.int .u32 0,.int .u32 0,.int .u32 0,.int .u32 0,.int .u32 0,.int .u32 0,.int .u32 0,.int .u32 0,.nils,.int .u64 0,.nilp],none⟩).set H.next (some ⟨zao,(hs kc m).map w32++[bv,.int .u64 (m.length:Nat),.ptr c 0],none⟩)).next=H.next+1:=by rw[zan,zaf]
 simp(disch:=first|omega|(simp only[RY]<;>omega)|decide)only[↓RD,RZ,eq_self,seval,gs,hld,hok,hsp,ql,i8];clear gs;generalize hnx:H.next=t at *;generalize (H.new _).set _ _=H1 at *;have b1:=k.bf.to (H':=H1) (by omega) λi hi=>h1 i (hnx ▸ k.bf.low i hi);refine zvB .nil b1.by.ac (by have:=zsc m; rw[List.length_nil]; omega) λx' H2 F2 b2 s2=>?_;have gt2:=(s2.same t (by omega) (by simp)).trans g1;have c2:=b2.cells1;have o2:=b2.okc;have q2:=stl k.hl bv (.int .u64 (m.length:Nat)) (.ptr c 0);have n2:=s2.next;have f2:∀i∈F2,t<i:=λi hi=>by
  rcases s2.own i hi with h|h
  ·cases h
  ·omega
 simp(disch:=first|omega|(simp only[RY]<;>omega)|decide)only[↓RD,RZ,eq_self,seval,gt2,hsp2,q2,c2,o2];obtain⟨d,hd⟩:=k.gc;have gc2:H2.get c=some ⟨zay,conC d,none⟩:=by rw[s2.same c (by omega) (by simp),h1 c hcl]; exact hd
 refine⟨t,c,F2,rfl,⟨c,x',F2,rfl,⟨zai _ _ _,⟨d,by rw[zaj _ _ (by omega)]; exact gc2⟩,?_,k.hl,by omega,λe=>by have:=f2 t e; omega,λe=>by have:=f2 c e; omega,by rw[zan]; omega,by rw[zan]; omega⟩,hm8⟩,by simp,Nat.le_refl _,λi hi=>by have:=f2 i hi; omega,⟨by rw[zan]; omega,λi hi=>?_⟩⟩
 ·rw[List.nil_append]at b2;exact b2.to (by rw[zan]; exact Nat.le_refl _) λi hi=>zaj _ _ (by have:=f2 i hi; omega)
 ·rw[zaj _ _ (by omega),s2.same i (by omega) (by simp),h1 i (by omega)]
end Go.Ax.SU
/- Su13 -/
namespace Go.Ax.SU
open Go.Ax
theorem w_cint8(x:UInt32):Ax.cint .u8 (w32 x)=some (by8 (x.toNat%256)):=by
 unfold w32 by8;rw[zsP,wrap_u8];rfl
theorem s24(x:UInt32):Ax.bin .shr (w32 x) (.int .u64 24)=some (w32 (zkM x 24)):=zux x (by omega)
theorem s16(x:UInt32):Ax.bin .shr (w32 x) (.int .u64 16)=some (w32 (zkM x 16)):=zux x (by omega)
theorem s8(x:UInt32):Ax.bin .shr (w32 x) (.int .u64 8)=some (w32 (zkM x 8)):=zux x (by omega)
theorem n24(x:UInt32):(zkM x 24).toNat=x.toNat/16777216:=by rw[zjQ,Nat.shiftRight_eq_div_pow]
theorem n16(x:UInt32):(zkM x 16).toNat=x.toNat/65536:=by rw[zjQ,Nat.shiftRight_eq_div_pow]
theorem n8(x:UInt32):(zkM x 8).toNat=x.toNat/256:=by rw[zjQ,Nat.shiftRight_eq_div_pow]
theorem zgL(n:Nat):(by8 n).okc=true:=rfl
theorem zcr(n:Nat):(by8 n).cells=[by8 n]:=rfl
theorem zs7(a b:List UInt32):zcT (a++b)=zcT a++zcT b:=by unfold zcT; rw[List.map_append,List.flatten_append]
theorem take_w{h:List UInt32}{k:Nat}(hk:k<h.length):h.take (k+1)=h.take k++[h.getD k 0]:=by
 rw[List.take_add_one,List.getElem?_eq_getElem hk,List.getD_eq_getElem?_getD,List.getElem?_eq_getElem hk]; rfl
theorem out_ok{H:Heap}{o r:Nat}{h:List UInt32}(hh:h.length=8) (ho:H.get o=some ⟨zak,List.replicate 32 (.int .u8 0),none⟩) :
  Ok (M.iter (zcd (sem T) (.agg (h.map w32)) (.ptr o 0) (.ptr r 0)) [.int .i64 0]) H λx H'=>x = .ex 4 []∧H'.get o=some ⟨zak,(zcT h).map by8,none⟩∧At1 o H H':=by
 refine zaV (λk L H'=>L=[.int .i64 (k:Nat)]∧H'.get o=some ⟨zak,(zcT (h.take k)).map by8++List.replicate (32-4*k) (.int .u8 0),none⟩∧At1 o H H') 8 ?_ ?_ ?_
 ·exact⟨rfl,by simpa [zcT]using ho,At1.refl _ _⟩
 ·rintro k L H1 hk ⟨rfl,g1,s1⟩;have hl0:((zcT (h.take k)).map by8).length=4*k:=by rw[List.length_map,zkI,List.length_take]; omega
  have gk:=wg (ws:=h) (i:=k) (by omega);have e4:(4:Int)*(k:Int)=((4*k:Nat):Int):=by omega
  have e5:((4*k:Nat):Int)+1=((4*k+1:Nat):Int):=by omega
  have e6:((4*k:Nat):Int)+2=((4*k+2:Nat):Int):=by omega
  have e7:((4*k:Nat):Int)+3=((4*k+3:Nat):Int):=by omega
  have hlen:∀(l:List V) (n:Nat),l.length=n→n≤32→(l++List.replicate (32-n) (V.int .u8 0)).length=32:=λl n h1 h2=>by rw[List.length_append,h1,List.length_replicate]; omega
  have x0:=zbP (z:=.int .u8 0) (x:=by8 ((h.getD k 0).toNat/16777216%256)) hl0 (show 4*k<32 by omega);have hl1:((zcT (h.take k)).map by8++[by8 ((h.getD k 0).toNat/16777216%256)]).length=4*k+1:=by rw[List.length_append,hl0]; rfl
  have x1:=zbP (z:=.int .u8 0) (x:=by8 ((h.getD k 0).toNat/65536%256)) hl1 (show 4*k+1<32 by omega);have hl2:((zcT (h.take k)).map by8++[by8 ((h.getD k 0).toNat/16777216%256)]++[by8 ((h.getD k 0).toNat/65536%256)]).length=4*k+2:=by rw[List.length_append,hl1]; rfl
  have x2:=zbP (z:=.int .u8 0) (x:=by8 ((h.getD k 0).toNat/256%256)) hl2 (show 4*k+2<32 by omega);have hl3:((zcT (h.take k)).map by8++[by8 ((h.getD k 0).toNat/16777216%256)]++[by8 ((h.getD k 0).toNat/65536%256)]++[by8 ((h.getD k 0).toNat/256%256)]).length=4*k+3:=by rw[List.length_append,hl2]; rfl
  have x3:=zbP (z:=.int .u8 0) (x:=by8 ((h.getD k 0).toNat%256)) hl3 (show 4*k+3<32 by omega);have m0:=hlen _ _ hl0 (by omega);have m1:=hlen _ _ hl1 (by omega);have m2:=hlen _ _ hl2 (by omega);have m3:=hlen _ _ hl3 (by omega);unfold zcd uL uT uB uI uc uq ug;simp(disch:=omega)only[↓RD,RZ,gk,e4,e5,e6,e7,s24,s16,s8,w_cint8,n24,n16,n8,zgL,zcr,g1,x0,x1,x2,x3,m0,m1,m2,m3];refine⟨by omega,by omega,by omega,by omega,rfl,?_,s1.trans ((At1.set o _ _).trans ((At1.set o _ _).trans ((At1.set o _ _).trans (At1.set o _ _))))⟩;rw[take_w (by omega),zs7,show 32-4*(k+1)=32-(4*k+3+1) by omega];simp[zcT]
 ·rintro L H1 ⟨rfl,g1,s1⟩;unfold zcd uL uT uB uI uc uq ug;simp(disch:=omega)only[↓RD,RZ];refine⟨?_,s1⟩;rw[g1,List.take_of_length_le (by omega)];simp
theorem zvw(n:Nat):pad n=(0x80::List.replicate (padz n) 0)++bn 8 (n*8%18446744073709551616):=rfl
theorem Sum_ok{H:Heap}{s:Nat}{m F:List Nat}(k:Str H s m F)(hlen:m.length≤562949953421312) :
  Ok (sem T zbC [.ptr s 0]) H λr H'=>r = .agg ((sha kc m).map by8)∧Step H H' F F:=by
 refine ziS ?_;unfold zfw uS uT uNFM uNF uB uO uc ub uq ug;have s1:=Grow.new H ⟨zak,[.int .u8 0,.int .u8 0,.int .u8 0,.int .u8 0,.int .u8 0,.int .u8 0,.int .u8 0,.int .u8 0,.int .u8 0,.int .u8 0,.int .u8 0,.int .u8 0,.int .u8 0,.int .u8 0,.int .u8 0,.int .u8 0,.int .u8 0,.int .u8 0,.int .u8 0,.int .u8 0,.int .u8 0,.int .u8 0,.int .u8 0,.int .u8 0,.int .u8 0,.int .u8 0,.int .u8 0,.int .u8 0,.int .u8 0,.int .u8 0,.int .u8 0,.int .u8 0],none⟩;have gr:(H.new ⟨zak,[.int .u8 0,.int .u8 0,.int .u8 0,.int .u8 0,.int .u8 0,.int .u8 0,.int .u8 0,.int .u8 0,.int .u8 0,.int .u8 0,.int .u8 0,.int .u8 0,.int .u8 0,.int .u8 0,.int .u8 0,.int .u8 0,.int .u8 0,.int .u8 0,.int .u8 0,.int .u8 0,.int .u8 0,.int .u8 0,.int .u8 0,.int .u8 0,.int .u8 0,.int .u8 0,.int .u8 0,.int .u8 0,.int .u8 0,.int .u8 0,.int .u8 0,.int .u8 0],none⟩).get H.next=some ⟨zak,List.replicate 32 (.int .u8 0),none⟩:=zag _ _;have nr:(H.new ⟨zak,[.int .u8 0,.int .u8 0,.int .u8 0,.int .u8 0,.int .u8 0,.int .u8 0,.int .u8 0,.int .u8 0,.int .u8 0,.int .u8 0,.int .u8 0,.int .u8 0,.int .u8 0,.int .u8 0,.int .u8 0,.int .u8 0,.int .u8 0,.int .u8 0,.int .u8 0,.int .u8 0,.int .u8 0,.int .u8 0,.int .u8 0,.int .u8 0,.int .u8 0,.int .u8 0,.int .u8 0,.int .u8 0,.int .u8 0,.int .u8 0,.int .u8 0,.int .u8 0],none⟩).next=H.next+1:=zaf _ _;have kF:=k.low;have k1:=k.grow s1;simp(disch:=omega)only[↓RD,RZ];generalize hrb:H.next=rb at *;generalize H.new _=H1 at *;refine zae (Copy_ok k1) ?_;rintro _ H2 ⟨t,c,Fb,rfl,k2,hcF,htn,hFb,s2⟩;obtain⟨c',bv,Fb',hF',k2',hm8⟩:=k2;simp only[List.cons.injEq,true_and]at hF';obtain⟨rfl,rfl⟩:=hF';have n2:=s2.next;have gt2:=k2'.gs;have i9:=st9 k2'.hl;have i8:=st8 k2'.hl;have ebl:=k2'.bf.vlen;have tll:=zsc m;have em:((m.length:Nat):Int)*8=((m.length*8:Nat):Int):=by omega
 have hlow2:=k2'.low;simp(disch:=first|omega|(simp only[RY]<;>omega)|decide)only[↓RD,RZ,eq_self,seval,gt2,i9,em];have s3:=Grow.new H2 ⟨zaa,[.int .u8 128],none⟩;have a3:Ab H2.next (H2.new ⟨zaa,[.int .u8 128],none⟩) (.sl H2.next 0 1 (.fix 1)) [0x80]:=.full (zag _ _) rfl (Nat.le_refl _) (by rw[zaf]; omega);have b3:Bel H2.next H2 (H2.new ⟨zaa,[.int .u8 128],none⟩):=s3.bel (Nat.le_refl _);generalize hlo:H2.next=lo at *;generalize H2.new _=H3 at *;have hz:padz m.length<64:=by unfold padz; omega
 refine zam (Q:=λr H'=>∃e,r = .ex 0 [e]∧Ab lo H' e (0x80::List.replicate (padz m.length) 0)∧Bel lo H2 H') ?_ ?_
 ·refine zaV (λj L H'=>∃e,L=[e]∧Ab lo H' e (0x80::List.replicate j 0)∧Bel lo H2 H') (padz m.length) ?_ ?_ ?_
  ·exact⟨_,rfl,a3,b3⟩
  ·rintro j L H4 hj ⟨e,rfl,a4,b4⟩;have hel:=a4.by.vlen;have hl:(0x80::List.replicate j 0).length=j+1:=by simp
   rw[hl]at hel;have gt4:=(b4.same t (hlow2 t (by simp))).trans gt2;have ej:(((tl m).length:Nat):Int)+((j+1:Nat):Int)=(((tl m).length+(j+1):Nat):Int):=rfl;have hne:¬(((((tl m).length+(j+1):Nat):Int))%64=56):=by unfold padz at hj; omega
   have n4:=b4.next;unfold zc3 uL uNFM uB uc ub ug;simp(disch:=omega)only[↓RD,RZ,gt4,i8,ebl,hel,ej,hne];refine okb_ab (m:=[0]) (a4.keep ((Grow.new _ _).keep _)) (by rw[zaf]; omega) (zc5 rfl) (by rw[hl]; simp; omega) λe' H5 a5 b5=>?_;simp(disch:=omega)only[↓RD,RZ];refine⟨e',rfl,?_,b4.trans (((Grow.new _ _).bel (by omega)).trans b5)⟩;rw[List.replicate_succ',←List.cons_append];exact a5
  ·rintro L H4 ⟨e,rfl,a4,b4⟩;have hel:=a4.by.vlen;have hl:(0x80::List.replicate (padz m.length) 0).length=padz m.length+1:=by simp
   rw[hl]at hel;have gt4:=(b4.same t (hlow2 t (by simp))).trans gt2;have ej:(((tl m).length:Nat):Int)+((padz m.length+1:Nat):Int)=(((tl m).length+(padz m.length+1):Nat):Int):=rfl;have hne:((((tl m).length+(padz m.length+1):Nat):Int))%64=56:=by unfold padz; omega
   have n4:=b4.next;unfold zc3 uL uNFM uB uc ub ug;simp(disch:=omega)only[↓RD,RZ,gt4,i8,ebl,hel,ej,hne];exact⟨e,rfl,a4,b4⟩
 ·rintro _ H4 ⟨e4,rfl,a4,b4⟩;have hl4:(0x80::List.replicate (padz m.length) 0).length=padz m.length+1:=by simp
  have hmod:m.length*8%18446744073709551616=m.length*8:=Nat.mod_eq_of_lt (by omega);simp(disch:=omega)only[↓RD,RZ];refine zam (Q:=λr H'=>∃e,r = .ex 2 [e]∧Ab lo H' e (pad m.length)∧Bel lo H2 H') ?_ ?_
  ·refine zaV (λj L H'=>∃w,L=[w,.int .i64 ((7:Int)-(j:Nat))]∧Ab lo H' w ((0x80::List.replicate (padz m.length) 0)++(bn 8 (m.length*8)).take j)∧Bel lo H2 H') 8 ?_ ?_ ?_
   ·exact⟨e4,rfl,by rw[List.take_zero,List.append_nil]; exact a4,b4⟩
   ·rintro j L H5 hj ⟨w,rfl,a5,b5⟩;have e1:(7:Int)-(j:Nat)=((8-1-j:Nat):Int):=by omega
    have e2:(8:Int)*((8-1-j:Nat):Int)=((8*(8-1-j):Nat):Int):=by omega
    have e3:shr (m.length*8) (8*(8-1-j))=m.length*8/256 ^ (8-1-j):=by rw[zjo,Nat.shiftRight_eq_div_pow,Nat.pow_mul]
    have n5:=b5.next;rw[e1];generalize hw:8-1-j=w' at *;unfold zc2 uL uB uc ub ug;have e8:IntKind.u8.wrap ((m.length*8/256 ^ w':Nat):Int)=((m.length*8/256 ^ w'%256:Nat):Int):=by rw[wrap_u8]; rfl
    have hlt:((0x80::List.replicate (padz m.length) 0)++(bn 8 (m.length*8)).take j).length=padz m.length+1+j:=by rw[List.length_append,hl4,List.length_take,bn_len]; omega
    simp(disch:=omega)only[↓RD,RZ,e2,e3,e8];refine okb_ab (m:=[m.length*8/256 ^ w'%256]) (a5.keep ((Grow.new _ _).keep _)) (by rw[zaf]; omega) (zc5 rfl) (by rw[hlt]; simp; omega) λe' H6 a6 b6=>?_;simp(disch:=omega)only[↓RD,RZ];refine⟨e',by rw[show((w':Nat):Int)-1=(7:Int)-((j+1:Nat):Int) by omega],?_,b5.trans (((Grow.new _ _).bel (by omega)).trans b6)⟩;rw[take_snoc (by rw[bn_len]; exact hj),bn_get 8 _ j hj,hw,←List.append_assoc];exact a6
   ·rintro L H5 ⟨w,rfl,a5,b5⟩;have e1:(7:Int)-((8:Nat):Int) = -1:=by omega
    rw[e1];unfold zc2 uL uB uc ub ug;simp(disch:=omega)only[↓RD,RZ];refine⟨w,rfl,?_,b5⟩;rw[List.take_of_length_le (by rw[bn_len]; exact Nat.le_refl _)]at a5;rw[zvw,hmod];exact a5
  ·rintro _ H5 ⟨e5,rfl,a5,b5⟩;have n5:=b5.next;have k5:Str H5 t m (t::c::Fb):=⟨c,bv,Fb,rfl,k2'.to n5 λi hi=>b5.same i (hlow2 i hi),hm8⟩;have hpl:(pad m.length).length≤72:=by rw[zvw,List.length_append,hl4,bn_len]; omega
   have hp8:Ok8 (pad m.length):=by
    rw[zvw];refine Ok8.app (λx hx=>?_) (bn_8 _ _);rcases List.mem_cons.1 hx with rfl|hx
    ·decide
    ·rw[List.eq_of_mem_replicate hx]; decide
   simp(disch:=omega)only[↓RD,RZ];refine zae (zs1 k5 a5.by hp8 (λi hi hF=>by have h1:=(a5.by.own i hi).1; have h2:=hlow2 i hF; omega) (by omega)) ?_;rintro _ H6 ⟨rfl,F6,k6,s6⟩;obtain⟨c6,bv6,Fb6,rfl,k6,-⟩:=k6;have n6:=s6.next;have hrF:rb∉t::c::Fb:=by
    intro h;simp only[List.mem_cons]at h;rcases h with h|h|h
    ·omega
    ·have:=kF c hcF; omega
    ·have:=hFb rb h; omega
   have gr6:H6.get rb=some ⟨zak,List.replicate 32 (.int .u8 0),none⟩:=by
    rw[s6.same rb (by omega) hrF,b5.same rb (by omega),s2.same rb (by omega)]; exact gr
   have hlow6:=k6.low;have gt6:=k6.gs;have f8:=ld8 k6.hl [bv6,.int .u64 ((m++pad m.length).length:Nat),.ptr c6 0];have ht6:=k6.sl;have g7:∀i,i<H6.next→(H6.new ⟨zak,[.int .u8 0,.int .u8 0,.int .u8 0,.int .u8 0,.int .u8 0,.int .u8 0,.int .u8 0,.int .u8 0,.int .u8 0,.int .u8 0,.int .u8 0,.int .u8 0,.int .u8 0,.int .u8 0,.int .u8 0,.int .u8 0,.int .u8 0,.int .u8 0,.int .u8 0,.int .u8 0,.int .u8 0,.int .u8 0,.int .u8 0,.int .u8 0,.int .u8 0,.int .u8 0,.int .u8 0,.int .u8 0,.int .u8 0,.int .u8 0,.int .u8 0,.int .u8 0],none⟩).get i=H6.get i:=λi hi=>zaM _ _ (by omega);have go7:(H6.new ⟨zak,[.int .u8 0,.int .u8 0,.int .u8 0,.int .u8 0,.int .u8 0,.int .u8 0,.int .u8 0,.int .u8 0,.int .u8 0,.int .u8 0,.int .u8 0,.int .u8 0,.int .u8 0,.int .u8 0,.int .u8 0,.int .u8 0,.int .u8 0,.int .u8 0,.int .u8 0,.int .u8 0,.int .u8 0,.int .u8 0,.int .u8 0,.int .u8 0,.int .u8 0,.int .u8 0,.int .u8 0,.int .u8 0,.int .u8 0,.int .u8 0,.int .u8 0,.int .u8 0],none⟩).get H6.next=some ⟨zak,List.replicate 32 (.int .u8 0),none⟩:=zag _ _;have n7:(H6.new ⟨zak,[.int .u8 0,.int .u8 0,.int .u8 0,.int .u8 0,.int .u8 0,.int .u8 0,.int .u8 0,.int .u8 0,.int .u8 0,.int .u8 0,.int .u8 0,.int .u8 0,.int .u8 0,.int .u8 0,.int .u8 0,.int .u8 0,.int .u8 0,.int .u8 0,.int .u8 0,.int .u8 0,.int .u8 0,.int .u8 0,.int .u8 0,.int .u8 0,.int .u8 0,.int .u8 0,.int .u8 0,.int .u8 0,.int .u8 0,.int .u8 0,.int .u8 0,.int .u8 0],none⟩).next=H6.next+1:=zaf _ _;simp(disch:=omega)only[↓RD,RZ,gt6,f8];clear gt6;generalize ho:H6.next=o at *;generalize H6.new _=H7 at *;refine zam (out_ok k6.hl go7) ?_;rintro _ H8 ⟨rfl,go8,s8⟩;have gr8:H8.get rb=some ⟨zak,List.replicate 32 (.int .u8 0),none⟩:=by
    rw[s8.same rb (by omega) (by omega),g7 rb (by omega)]; exact gr6
   have hwl:((zcT (hs kc (m++pad m.length))).map by8).length=32:=by rw[List.length_map,zkI,hs_len]
   have l32:ldc (some 32) ((zcT (hs kc (m++pad m.length))).map by8) 0=some (.agg ((zcT (hs kc (m++pad m.length))).map by8)):=by
    rw[zeN (by omega),List.drop_zero,List.take_of_length_le (by omega)]
   have hok:V.okc (.agg ((zcT (hs kc (m++pad m.length))).map by8))=true:=by
    simp only[V.okc,List.all_map,List.all_eq_true]
    try (intro x _; rfl)
   have hsp:∀L:List V,L.length=32→splice L 0 ((zcT (hs kc (m++pad m.length))).map by8)=(zcT (hs kc (m++pad m.length))).map by8:=λL hL=>by
    unfold splice;rw[List.take_zero,List.nil_append,hwl,List.drop_of_length_le (by omega),List.append_nil]
   have hrl:(List.replicate 32 (V.int .u8 0)).length=32:=rfl;have hne8:o≠rb:=by omega
   simp(disch:=first|omega|(simp only[RY]<;>omega)|decide)only[↓RD,RZ,eq_self,seval,go8,l32,gr8,hok,hwl,hsp,hrl];refine⟨rfl,⟨?_,λi hi hF=>?_,λi hi=>.inl hi⟩⟩
   ·have:=s8.next;rw[zan]; omega
   ·have hi6:i∉t::c::Fb:=by
     intro h;simp only[List.mem_cons]at h;rcases h with h|h|h
     ·omega
     ·exact hF (h ▸ hcF)
     ·have:=hFb i h; omega
    rw[zaj _ _ (by omega),s8.same i (by omega) (by omega),g7 i (by omega),s6.same i (by omega) hi6,b5.same i (by omega),s2.same i (by omega),s1.same i (by omega)]
end Go.Ax.SU
/- Su14 -/
namespace Go.Ax.SU
open Go.Ax
theorem zwG{lo n:Nat}{H:Heap}{v x:V}{vs:List V}(h:Lc 1 lo H v vs n){i:Nat}(hi:i<n) (hx:vs[i]?=some x):∃p,(∀{k:IntKind},Ax.iaddr none 1 v (.int k ((i:Nat):Int))=some p)∧LdR none H p x:=by
 obtain⟨p,hp,hl⟩:=h.at (i:=((i:Nat):Int)) (by omega) (by omega);have hlen:=h.len;have hil:i<vs.length:=by omega
 have e:(vs.drop (((i:Nat):Int).toNat*1)).take 1=[x]:=by
  rw[Int.toNat_natCast,Nat.mul_one,List.drop_eq_getElem_cons hil];rw[List.getElem?_eq_getElem hil]at hx;injection hx with hx
  rw[hx]; rfl
 rw[e]at hl;refine⟨p,hp,λf Q=>?_⟩;rw[hl.ld0 (by simp)];exact zq6
def Pts(lo:Nat)(H:Heap)(vs:List V) (ps:List (List Nat)):Prop:=vs.length=ps.length∧∀(i:Nat) (v:V) (p:List Nat),vs[i]?=some v→ps[i]?=some p→By lo H v p∧Ok8 p
theorem Pts.grow{lo:Nat}{H H':Heap}{vs:List V} {ps:List (List Nat)} (h:Pts lo H vs ps) (g:Grow H H'):Pts lo H' vs ps:=⟨h.1,λi v p hv hp=>⟨(h.2 i v p hv hp).1.ext g,(h.2 i v p hv hp).2⟩⟩
theorem Pts.nil{lo:Nat}{H:Heap}:Pts lo H [] []:=⟨rfl,λi v p h=>by simp at h⟩
theorem Pts.cons{lo:Nat}{H:Heap}{v:V}{p:List Nat}{vs:List V} {ps:List (List Nat)} (h1:By lo H v p) (h2:Ok8 p) (h:Pts lo H vs ps):Pts lo H (v::vs) (p::ps):=by
 refine⟨by simp[h.1],λi v' p' hv hp=>?_⟩;cases i with
 | zero =>
  simp only[List.getElem?_cons_zero,Option.some.injEq]at hv hp;subst hv hp;exact⟨h1,h2⟩
 | succ i=>exact h.2 i v' p' hv hp
theorem zit {ps:List (List Nat)} {k:Nat} {p:List Nat} (h:ps[k]?=some p):(ps.take (k+1)).flatten=(ps.take k).flatten++p:=by
 rw[List.take_add_one,h]; simp
theorem zem (ps:List (List Nat)) (k:Nat):(ps.take k).flatten.length≤ps.flatten.length:=by
 conv=>rhs; rw[←List.take_append_drop k ps,List.flatten_append,List.length_append]
 omega
theorem zkG{lo id n:Nat}{H:Heap}{ty:TypeId}{l:List Nat}{o:Option Nat} (h:H.get id=some ⟨ty,l.map by8,o⟩) (hl:l.length=n) (h0:lo≤id) (h1:id<H.next):By lo H (.sl id 0 n (.fix n)) l:=by
 subst hl;refine⟨?_,λi hi=>by simp only[V.pid,Option.some.injEq]at hi; subst hi; exact⟨h0,h1⟩,Nat.le_refl _⟩;simp only[rcells,h,Option.bind_some];rw[if_pos (by simp),List.drop_zero,List.take_of_length_le (by simp)]
theorem Of_ok{H:Heap}{lo:Nat}{v:V}{vs:List V} {ps:List (List Nat)} (hv:Lc 1 lo H v vs vs.length) (hp:Pts 0 H vs ps) (hvn:vs.length≤1000) (hlen:ps.flatten.length≤281474976710656) :
  Ok (sem T zel [v]) H λr H'=>r = .agg ((sha kc ps.flatten).map by8)∧Grow H H':=by
 refine zqq ?_;unfold znd uL uS uT uO uc;have s1:=Grow.new H ⟨zak,[.int .u8 0,.int .u8 0,.int .u8 0,.int .u8 0,.int .u8 0,.int .u8 0,.int .u8 0,.int .u8 0,.int .u8 0,.int .u8 0,.int .u8 0,.int .u8 0,.int .u8 0,.int .u8 0,.int .u8 0,.int .u8 0,.int .u8 0,.int .u8 0,.int .u8 0,.int .u8 0,.int .u8 0,.int .u8 0,.int .u8 0,.int .u8 0,.int .u8 0,.int .u8 0,.int .u8 0,.int .u8 0,.int .u8 0,.int .u8 0,.int .u8 0,.int .u8 0],none⟩;have gr:(H.new ⟨zak,[.int .u8 0,.int .u8 0,.int .u8 0,.int .u8 0,.int .u8 0,.int .u8 0,.int .u8 0,.int .u8 0,.int .u8 0,.int .u8 0,.int .u8 0,.int .u8 0,.int .u8 0,.int .u8 0,.int .u8 0,.int .u8 0,.int .u8 0,.int .u8 0,.int .u8 0,.int .u8 0,.int .u8 0,.int .u8 0,.int .u8 0,.int .u8 0,.int .u8 0,.int .u8 0,.int .u8 0,.int .u8 0,.int .u8 0,.int .u8 0,.int .u8 0,.int .u8 0],none⟩).get H.next=some ⟨zak,List.replicate 32 (.int .u8 0),none⟩:=zag _ _;have nr:(H.new ⟨zak,[.int .u8 0,.int .u8 0,.int .u8 0,.int .u8 0,.int .u8 0,.int .u8 0,.int .u8 0,.int .u8 0,.int .u8 0,.int .u8 0,.int .u8 0,.int .u8 0,.int .u8 0,.int .u8 0,.int .u8 0,.int .u8 0,.int .u8 0,.int .u8 0,.int .u8 0,.int .u8 0,.int .u8 0,.int .u8 0,.int .u8 0,.int .u8 0,.int .u8 0,.int .u8 0,.int .u8 0,.int .u8 0,.int .u8 0,.int .u8 0,.int .u8 0,.int .u8 0],none⟩).next=H.next+1:=zaf _ _;have hvl:=hv.vlen;simp(disch:=first|omega|(simp only[RY]<;>omega)|decide)only[↓RD,RZ,eq_self,seval];generalize hrb:H.next=rb at *;generalize H.new _=H1 at *;refine zae New_ok ?_;rintro _ H2 ⟨s,F,rfl,k2,hF,s2⟩;have n2:=s2.next;have g2:Grow H H2:=s1.trans s2;simp(disch:=first|omega|(simp only[RY]<;>omega)|decide)only[↓RD,RZ,eq_self,seval,hvl];refine zam (Q:=λr H'=>r = .ex 0 []∧∃F',Str H' s ps.flatten F'∧(∀i∈F',H1.next≤i)∧Grow H1 H') ?_ ?_
 ·refine zaV (λj L H'=>L=[.int .i64 (j:Nat)]∧∃F',Str H' s (ps.take j).flatten F'∧(∀i∈F',H1.next≤i)∧Grow H1 H') vs.length ?_ ?_ ?_
  ·exact⟨rfl,F,by simpa using k2,hF,s2⟩
  ·rintro j L H3 hj ⟨rfl,F',k3,hF3,s3⟩;have g3:Grow H H3:=s1.trans s3;have hx:vs[j]?=some vs[j]:=List.getElem?_eq_getElem hj;have hq:ps[j]?=some (ps[j]'(by rw[←hp.1]; exact hj)):=List.getElem?_eq_getElem _;obtain⟨hby,h8⟩:=hp.2 j _ _ hx hq;obtain⟨p,ip,lp⟩:=zwG (hv.ext g3) hj hx;have hl1:=zem ps (j+1);have hft:=zit hq;rw[hft,List.length_append]at hl1;unfold zhh uB uIM uc ug;simp(disch:=first|omega|(simp only[RY]<;>omega)|decide)only[↓RD,RZ,eq_self,seval,ip,lp];refine zae (zs1 k3 (hby.ext g3) h8 (λi hi hc=>by have h1:=(hby.own i hi).2; have h2:=hF3 i hc; omega) (by omega)) ?_;rintro _ H4 ⟨rfl,F4,k4,s4⟩;rw[←hft]at k4;simp(disch:=first|omega|(simp only[RY]<;>omega)|decide)only[↓RD,RZ,eq_self,seval];refine⟨rfl,F4,k4,λi hi=>?_,⟨Nat.le_trans s3.next s4.next,λi hi=>by rw[s4.same i (by have:=s3.next; omega) (λhc=>by have:=hF3 i hc; omega),s3.same i hi]⟩⟩;rcases s4.own i hi with h|h
   ·exact hF3 i h
   ·have:=s3.next; omega
  ·rintro L H3 ⟨rfl,F',k3,hF3,s3⟩;unfold zhh uB uIM uc ug;simp(disch:=first|omega|(simp only[RY]<;>omega)|decide)only[↓RD,RZ,eq_self,seval];refine⟨F',?_,hF3,s3⟩;rw[hp.1,List.take_length]at k3;exact k3
 ·rintro _ H3 ⟨rfl,F',k3,hF3,s3⟩;have n3:=s3.next;simp(disch:=first|omega|(simp only[RY]<;>omega)|decide)only[↓RD,RZ,eq_self,seval];refine zae (Sum_ok k3 (by omega)) ?_;rintro _ H4 ⟨rfl,s4⟩;have n4:=s4.next;have g4:∀i,i<H1.next→H4.get i=H1.get i:=λi hi=>by rw[s4.same i (by omega) (λhc=>by have:=hF3 i hc; omega),s3.same i hi]
  have gr4:=(g4 rb (by omega)).trans gr;have hwl:((sha kc ps.flatten).map by8).length=32:=by rw[List.length_map,zkN]
  have l32:ldc (some 32) ((sha kc ps.flatten).map by8) 0=some (.agg ((sha kc ps.flatten).map by8)):=by
   rw[zeN (by omega),List.drop_zero,List.take_of_length_le (by omega)]
  have hok:V.okc (.agg ((sha kc ps.flatten).map by8))=true:=by
   simp only[V.okc,List.all_map,List.all_eq_true]
   try (intro x _; rfl)
  have hsp:∀L:List V,L.length=32→splice L 0 ((sha kc ps.flatten).map by8)=(sha kc ps.flatten).map by8:=λL hL=>by
   unfold splice;rw[List.take_zero,List.nil_append,hwl,List.drop_of_length_le (by omega),List.append_nil]
  have hrl:(List.replicate 32 (V.int .u8 0)).length=32:=rfl;simp(disch:=first|omega|(simp only[RY]<;>omega)|decide)only[↓RD,RZ,eq_self,seval,gr4,l32,hok,hwl,hsp,hrl];exact⟨by rw[zan]; omega,λi hi=>by rw[zaj _ _ (by omega),g4 i (by omega),s1.same i (by omega)]⟩
theorem zsw(ks:List UInt32){key:List Nat}(x:Nat):(kpad ks key x).length=64:=by
 unfold kpad zfQ;split
 ·rw[List.length_map,List.length_append,List.length_replicate,zkN]
 ·rw[List.length_map,List.length_append,List.length_replicate]; omega
theorem zpf{A C:List V}{b:V}{k:Nat}(h:A.length=k):(A++b::C)[k]?=some b:=by
 rw[List.getElem?_append_right (by omega),h,Nat.sub_self]; rfl
theorem zpe{A C:List V}{b y:V}{k:Nat}(h:A.length=k):splice (A++b::C) k [y]=A++y::C:=by
 rw[zmo _ _ _ (by rw[List.length_append,List.length_cons]; omega),List.set_append_right _ _ (by omega),h,Nat.sub_self]; rfl
theorem xor_now{l:List Nat}{k:Nat}(f:Nat→Nat)(hk:k<l.length):((l.take k).map f++l.drop k).map by8=((l.take k).map f).map by8++by8 (l.getD k 0)::(l.drop (k+1)).map by8:=by
 rw[List.drop_eq_getElem_cons hk,List.getD_eq_getElem?_getD,List.getElem?_eq_getElem hk,List.map_append,List.map_cons]; rfl
theorem xor_then{l:List Nat}{k:Nat}(f:Nat→Nat)(hk:k<l.length):((l.take k).map f).map by8++by8 (f (l.getD k 0))::(l.drop (k+1)).map by8=((l.take (k+1)).map f++l.drop (k+1)).map by8:=by
 rw[take_snoc hk,List.map_append,List.map_append,List.map_append];simp
theorem pad_ok{lo:Nat}{H:Heap}{v:V}{l:List Nat}{x:Nat}(hv:By lo H v l)(h8:Ok8 l)(hl:l.length≤64)(hx:x<256) :
  Ok (sem T zgs [v,.int .u8 (x:Nat)]) H λr H'=>By H.next H' r ((l++List.replicate (64-l.length) 0).map (· ^^^ x))∧Grow H H':=by
 refine ztB ?_;unfold zqL uL uc ub;refine zaB (zkU (l:=64) (c:=64) ⟨by decide,by decide,by decide,by decide⟩ ?_);have e64:(64:Int).toNat=64:=rfl;rw[e64,zur];have s1:=Grow.new H ⟨zaa,List.replicate 64 (.int .u8 0),none⟩;have g1:(H.new ⟨zaa,List.replicate 64 (.int .u8 0),none⟩).get H.next=some ⟨zaa,List.replicate 64 (.int .u8 0),none⟩:=zag _ _;have n1:(H.new ⟨zaa,List.replicate 64 (.int .u8 0),none⟩).next=H.next+1:=zaf _ _;have hv1:=hv.ext s1;generalize hid:H.next=id at *;generalize H.new _=H1 at *;have hz8:Ok8 (l++List.replicate (64-l.length) 0):=h8.app (Ok8.rep _);have hzl:(l++List.replicate (64-l.length) 0).length=64:=by rw[List.length_append,List.length_replicate]; omega
 have hcp:mcopy 1 (.sl id 0 64 (.fix 64)) v H1=some (.int .i64 (l.length:Nat),H1.set id (some ⟨zaa,(l++List.replicate (64-l.length) 0).map by8,none⟩)):=by
  unfold mcopy;rw[hv1.ac];simp only[Option.bind_some,g1];rw[if_pos (by simp)];have e1:min l.length 64=l.length:=by omega
  have e2:splice (List.replicate 64 (V.int .u8 0)) 0 ((l.map by8).take (l.length*1))=(l++List.replicate (64-l.length) 0).map by8:=by
   unfold splice;rw[List.take_zero,List.nil_append,List.take_of_length_le (by simp),List.length_map,Nat.zero_add,List.drop_replicate,List.map_append,List.map_replicate];rfl
  rw[e1,e2]
 generalize hL:l++List.replicate (64-l.length) 0=L at *;refine zaB ⟨_,_,hcp,?_⟩;have g2:(H1.set id (some ⟨zaa,L.map by8,none⟩)).get id = _:=zai _ _ _;have n2:(H1.set id (some ⟨zaa,L.map by8,none⟩)).next=H1.next:=zan _ _ _;have s2:∀i,i≠id→(H1.set id (some ⟨zaa,L.map by8,none⟩)).get i=H1.get i:=λi hi=>zaj _ _ hi;generalize H1.set id _=H2 at *;simp(disch:=omega)only[↓RD,RZ,eq_self,seval];refine zam (Q:=λr H'=>r = .ex 0 []∧H'.get id=some ⟨zaa,(L.map (· ^^^ x)).map by8,none⟩∧At1 id H2 H') ?_ ?_
 ·refine zaV (λk L' H'=>L'=[.int .i64 (k:Nat)]∧H'.get id=some ⟨zaa,((L.take k).map (· ^^^ x)++L.drop k).map by8,none⟩∧At1 id H2 H') 64 ?_ ?_ ?_
  ·exact⟨rfl,by simpa using g2,At1.refl _ _⟩
  ·rintro k _ H3 hk ⟨rfl,g3,s3⟩;have hA:(((L.take k).map (· ^^^ x)).map by8).length=k:=by rw[List.length_map,List.length_map,List.length_take]; omega
   rw[xor_now _ (by omega)]at g3;have m1:=zpf (b:=by8 (L.getD k 0)) (C:=(L.drop (k+1)).map by8) hA;have m2:=zpe (b:=by8 (L.getD k 0)) (y:=by8 (L.getD k 0 ^^^ x)) (C:=(L.drop (k+1)).map by8) hA;have ml:(((L.take k).map (· ^^^ x)).map by8++by8 (L.getD k 0)::(L.drop (k+1)).map by8).length=64:=by rw[List.length_append,hA,List.length_cons,List.length_map,List.length_drop]; omega
   have hg:=hz8.getD k;have ex:Ax.bin .xor (by8 (L.getD k 0)) (.int .u8 (x:Nat))=some (by8 (L.getD k 0 ^^^ x)):=by
    unfold by8;rw[zus (by omega) (by omega) (by omega) (by omega)];rfl
   unfold zjE uT uB uI uIM uc ug;simp(disch:=omega)only[↓RD,RZ,eq_self,seval,g3,m1,ex,m2,ml,zgL,zcr];refine⟨by omega,rfl,?_,s3.trans (At1.set id _ _)⟩;have:=xor_then (l:=L) (k:=k) (· ^^^ x) (by omega);rw[←this]
  ·rintro _ H3 ⟨rfl,g3,s3⟩;unfold zjE uT uB uI uIM uc ug;simp(disch:=omega)only[↓RD,RZ,eq_self,seval];refine⟨?_,s3⟩;rw[g3,List.take_of_length_le (by omega),List.drop_of_length_le (by omega),List.append_nil]
 ·rintro _ H3 ⟨rfl,g3,s3⟩;have n3:=s3.next;simp(disch:=omega)only[↓RD,RZ,eq_self,seval];exact⟨zkG g3 (by rw[List.length_map]; exact hzl) (Nat.le_refl _) (by omega),⟨by omega,λi hi=>by rw[s3.same i (by omega) (by omega),s2 i (by omega),s1.same i (by omega)]⟩⟩
end Go.Ax.SU
/- Su15 -/
namespace Go.Ax.SU
open Go.Ax
theorem zcR(l:List Nat):V.okc (.agg (l.map by8))=true:=by
 simp only[V.okc,List.all_map,List.all_eq_true]
 try (intro x _; rfl)
theorem zaz(cs:List V):V.cells (.agg cs)=cs:=rfl
theorem sp32{l:List Nat}(hl:l.length=32):splice [.int .u8 0,.int .u8 0,.int .u8 0,.int .u8 0,.int .u8 0,.int .u8 0,.int .u8 0,.int .u8 0,.int .u8 0,.int .u8 0,.int .u8 0,.int .u8 0,.int .u8 0,.int .u8 0,.int .u8 0,.int .u8 0,.int .u8 0,.int .u8 0,.int .u8 0,.int .u8 0,.int .u8 0,.int .u8 0,.int .u8 0,.int .u8 0,.int .u8 0,.int .u8 0,.int .u8 0,.int .u8 0,.int .u8 0,.int .u8 0,.int .u8 0,.int .u8 0] 0 (l.map by8)=l.map by8:=by
 unfold splice;rw[List.take_zero,List.nil_append,List.length_map,hl]; simp
theorem spr32{l:List Nat}(hl:l.length=32):splice (List.replicate 32 (V.int .u8 0)) 0 (l.map by8)=l.map by8:=sp32 hl
theorem ld32{l:List Nat}(hl:l.length=32):ldc (some 32) (l.map by8) 0=some (.agg (l.map by8)):=by
 rw[zeN (by rw[List.length_map]; omega),List.drop_zero,List.take_of_length_le (by rw[List.length_map]; omega)]
theorem zmf{n id:Nat}:zaA (.arr n) 1 (.ptr id 0) none none none=some (.sl id 0 n (.fix n)):=by
 simp only[zaA,zcv,Option.bind_some,Option.getD_none];rw[if_neg (by simp),if_pos (by simp)];simp
theorem zkX{id n:Nat}{H:Heap}{ty:TypeId}{cs:List V}{o:Option Nat} (h:H.get id=some ⟨ty,cs,o⟩) (hl:cs.length=n) (h1:id<H.next):Lc 1 0 H (.sl id 0 n (.fix n)) cs n:=by
 subst hl;refine⟨?_,λi hi=>by simp only[V.pid,Option.some.injEq]at hi; subst hi; exact⟨Nat.zero_le _,h1⟩,Nat.le_refl _⟩;simp only[rcells,h,Option.bind_some];rw[if_pos (by simp),List.drop_zero,List.take_of_length_le (by simp)]
theorem zou(ks:List UInt32)(key:List Nat):(zfQ ks key).length≤64:=by
 unfold zfQ;split
 ·rw[zkN]; omega
 ·omega
theorem zph(ks:List UInt32){key:List Nat}(h:Ok8 key):Ok8 (zfQ ks key):=by
 unfold zfQ;split
 ·exact zu1 _ _
 ·exact h
theorem kpad_8(ks:List UInt32){key:List Nat}{x:Nat}(h:Ok8 key)(hx:x<256):Ok8 (kpad ks key x):=by
 unfold kpad;intro y hy;obtain⟨z,hz,rfl⟩:=List.mem_map.1 hy;exact zcJ ((zph ks h).app (Ok8.rep _) z hz) hx
theorem zml{H:Heap}{lo lo':Nat}{kv v:V}{key:List Nat}{vs:List V} {ps:List (List Nat)} (hk:By lo H kv key) (hk8:Ok8 key) (hkl:key.length≤1099511627776) (hv:Lc 1 lo' H v vs vs.length) (hp:Pts 0 H vs ps) (hvn:vs.length≤1000) (hlen:ps.flatten.length≤1099511627776) :
  Ok (sem T zgt [kv,v]) H λr H'=>r = .agg ((hmac kc key ps.flatten).map by8)∧Grow H H':=by
 refine zvD ?_;unfold zsG uL uS uT uB uO uc ub ug;have s1:=Grow.new H ⟨zak,[.int .u8 0,.int .u8 0,.int .u8 0,.int .u8 0,.int .u8 0,.int .u8 0,.int .u8 0,.int .u8 0,.int .u8 0,.int .u8 0,.int .u8 0,.int .u8 0,.int .u8 0,.int .u8 0,.int .u8 0,.int .u8 0,.int .u8 0,.int .u8 0,.int .u8 0,.int .u8 0,.int .u8 0,.int .u8 0,.int .u8 0,.int .u8 0,.int .u8 0,.int .u8 0,.int .u8 0,.int .u8 0,.int .u8 0,.int .u8 0,.int .u8 0,.int .u8 0],none⟩;have gr:(H.new ⟨zak,[.int .u8 0,.int .u8 0,.int .u8 0,.int .u8 0,.int .u8 0,.int .u8 0,.int .u8 0,.int .u8 0,.int .u8 0,.int .u8 0,.int .u8 0,.int .u8 0,.int .u8 0,.int .u8 0,.int .u8 0,.int .u8 0,.int .u8 0,.int .u8 0,.int .u8 0,.int .u8 0,.int .u8 0,.int .u8 0,.int .u8 0,.int .u8 0,.int .u8 0,.int .u8 0,.int .u8 0,.int .u8 0,.int .u8 0,.int .u8 0,.int .u8 0,.int .u8 0],none⟩).get H.next=some ⟨zak,List.replicate 32 (.int .u8 0),none⟩:=zag _ _;have nr:(H.new ⟨zak,[.int .u8 0,.int .u8 0,.int .u8 0,.int .u8 0,.int .u8 0,.int .u8 0,.int .u8 0,.int .u8 0,.int .u8 0,.int .u8 0,.int .u8 0,.int .u8 0,.int .u8 0,.int .u8 0,.int .u8 0,.int .u8 0,.int .u8 0,.int .u8 0,.int .u8 0,.int .u8 0,.int .u8 0,.int .u8 0,.int .u8 0,.int .u8 0,.int .u8 0,.int .u8 0,.int .u8 0,.int .u8 0,.int .u8 0,.int .u8 0,.int .u8 0,.int .u8 0],none⟩).next=H.next+1:=zaf _ _;have hkvl:=hk.vlen;have hvl:=hv.vlen;simp(disch:=omega)only[↓RD,RZ,hkvl];generalize hrb:H.next=rb at *;generalize H.new _=H1 at *;have hk1:=hk.ext s1;refine zam (Q:=λr H'=>∃kv',r = .nrm [kv']∧By 0 H' kv' (zfQ kc key)∧Grow H1 H') ?_ ?_
 ·refine zh1 (λh=>?_) λh=>?_
  ·have hc:=hk1.cells1;have ho:=hk1.okc;have s2:=Grow.new H1 ⟨zal,[kv],none⟩;have l2:Lc 1 0 (H1.new ⟨zal,[kv],none⟩) (.sl H1.next 0 1 (.fix 1)) [kv] 1:=zkX (zag _ _) rfl (by rw[zaf]; omega);have p2:Pts 0 (H1.new ⟨zal,[kv],none⟩) [kv] [key]:=Pts.cons ((hk1.ext s2).low (Nat.zero_le _)) hk8 Pts.nil;simp(disch:=first|omega|(simp only[RY]<;>omega)|decide)only[↓RD,RZ,eq_self,Int.reduceToNat,Int.reduceAdd,Nat.reduceAdd,Nat.reduceSub,Nat.reduceMul,Nat.reduceLeDiff,hc,ho];generalize H1.new _=H2 at *;refine zae (Of_ok l2 p2 (by simp) (by simp; omega)) ?_;rintro _ H3 ⟨rfl,s3⟩;have ef:[key].flatten=key:=by simp
   rw[ef];have hsl:=zkN kc key;have hml:((sha kc key).map by8).length=32:=by rw[List.length_map,hsl]
   have hsp:=sp32 hsl;simp(disch:=first|omega|(simp only[RY]<;>omega)|decide)only[↓RD,RZ,eq_self,Int.reduceToNat,Int.reduceAdd,Nat.reduceAdd,Nat.reduceSub,Nat.reduceMul,Nat.reduceLeDiff,zcR,zaz,hml,hsp,zmf];refine⟨_,rfl,?_,s2.trans (s3.trans ((Grow.new _ _).set (Nat.le_refl _) _))⟩;have ek:zfQ kc key=sha kc key:=if_pos (by omega);rw[ek];exact zkG (zai _ _ _) hsl (Nat.zero_le _) (by rw[zan,zaf]; omega)
  ·simp(disch:=omega)only[↓RD,RZ];have ek:zfQ kc key=key:=if_neg (by omega);rw[ek];exact⟨kv,rfl,hk1.low (Nat.zero_le _),Grow.refl _⟩
 ·rintro _ H2 ⟨kv',rfl,hk2,s2⟩;have g2:=s1.trans s2;simp(disch:=omega)only[↓RD,RZ];refine zae New_ok ?_;rintro _ H3 ⟨s,F,rfl,k3,hF,s3⟩;simp(disch:=omega)only[↓RD,RZ];refine zae (pad_ok (x:=54) (hk2.ext s3) (zph kc hk8) (zou _ _) (by omega)) ?_;rintro pv H4 ⟨hpv,s4⟩;have k4:=k3.grow s4;have hF3:∀i∈F,i<H3.next:=k3.low;simp(disch:=omega)only[↓RD,RZ];have hin:(zfQ kc key++List.replicate (64-(zfQ kc key).length) 0).map (· ^^^ 54)=kpad kc key 0x36:=rfl;rw[hin]at hpv;have hinl:=zsw kc (key:=key) 0x36;refine zae (zs1 k4 hpv (kpad_8 kc hk8 (by omega)) (λi hi hc=>by have h1:=(hpv.own i hi).1; have h2:=hF3 i hc; omega) (by rw[hinl]; simp)) ?_;rintro _ H5 ⟨rfl,F5,k5,s5⟩;rw[List.nil_append]at k5;have n3:=s3.next;have n4:=s4.next;have n5:=s5.next;have hF5:∀i∈F5,H2.next≤i:=λi hi=>by
   rcases s5.own i hi with h|h
   ·exact hF i h
   ·omega
  have g5:Grow H2 H5:=⟨by omega,λi hi=>by rw[s5.same i (by omega) (λhc=>by have:=hF i hc; omega),s4.same i (by omega),s3.same i hi]⟩;simp(disch:=omega)only[↓RD,RZ,hvl];refine zam (Q:=λr H'=>r = .ex 0 []∧∃F',Str H' s (kpad kc key 0x36++ps.flatten) F'∧(∀i∈F',H2.next≤i)∧Grow H2 H') ?_ ?_
  ·refine zaV (λj L H'=>L=[.int .i64 (j:Nat)]∧∃F',Str H' s (kpad kc key 0x36++(ps.take j).flatten) F'∧(∀i∈F',H2.next≤i)∧Grow H2 H') vs.length ?_ ?_ ?_
   ·exact⟨rfl,F5,by simpa using k5,hF5,g5⟩
   ·rintro j L H6 hj ⟨rfl,F',k6,hF6,s6⟩;have g6:Grow H H6:=g2.trans s6;have hx:vs[j]?=some vs[j]:=List.getElem?_eq_getElem hj;have hq:ps[j]?=some (ps[j]'(by rw[←hp.1]; exact hj)):=List.getElem?_eq_getElem _;obtain⟨hby,h8⟩:=hp.2 j _ _ hx hq;obtain⟨p,ip,lp⟩:=zwG (hv.ext g6) hj hx;have hl1:=zem ps (j+1);have hft:=zit hq;rw[hft,List.length_append]at hl1;have n2:=g2.next;unfold zk3 uB uIM uc ug;simp(disch:=omega)only[↓RD,RZ,ip,lp];refine zae (zs1 k6 (hby.ext g6) h8 (λi hi hc=>by have h1:=(hby.own i hi).2; have h2:=hF6 i hc; omega) (by rw[List.length_append,hinl]; omega)) ?_;rintro _ H7 ⟨rfl,F7,k7,s7⟩;rw[List.append_assoc,←hft]at k7;have n6:=s6.next;simp(disch:=omega)only[↓RD,RZ];refine⟨rfl,F7,k7,λi hi=>?_,⟨Nat.le_trans s6.next s7.next,λi hi=>by rw[s7.same i (by omega) (λhc=>by have:=hF6 i hc; omega),s6.same i hi]⟩⟩;rcases s7.own i hi with h|h
    ·exact hF6 i h
    ·omega
   ·rintro L H6 ⟨rfl,F',k6,hF6,s6⟩;unfold zk3 uB uIM uc ug;simp(disch:=omega)only[↓RD,RZ];refine⟨F',?_,hF6,s6⟩;rw[hp.1,List.take_length]at k6;exact k6
  ·rintro _ H6 ⟨rfl,F6,k6,hF6,s6⟩;have n6:=s6.next;simp(disch:=omega)only[↓RD,RZ];refine zae (Sum_ok k6 (by rw[List.length_append,hinl]; omega)) ?_;rintro _ H7 ⟨rfl,s7⟩;have n7:=s7.next;have g7:Grow H2 H7:=⟨by omega,λi hi=>by rw[s7.same i (by omega) (λhc=>by have:=hF6 i hc; omega),s6.same i hi]⟩;have hsl:=zkN kc (kpad kc key 0x36++ps.flatten);have hs8:=zu1 kc (kpad kc key 0x36++ps.flatten);have hml:((sha kc (kpad kc key 0x36++ps.flatten)).map by8).length=32:=by rw[List.length_map,hsl]
   have hsp:=sp32 hsl;have hb8:By 0 ((H7.new ⟨zak,[.int .u8 0,.int .u8 0,.int .u8 0,.int .u8 0,.int .u8 0,.int .u8 0,.int .u8 0,.int .u8 0,.int .u8 0,.int .u8 0,.int .u8 0,.int .u8 0,.int .u8 0,.int .u8 0,.int .u8 0,.int .u8 0,.int .u8 0,.int .u8 0,.int .u8 0,.int .u8 0,.int .u8 0,.int .u8 0,.int .u8 0,.int .u8 0,.int .u8 0,.int .u8 0,.int .u8 0,.int .u8 0,.int .u8 0,.int .u8 0,.int .u8 0,.int .u8 0],none⟩).set H7.next (some ⟨zak,(sha kc (kpad kc key 0x36++ps.flatten)).map by8,none⟩)) (.sl H7.next 0 32 (.fix 32)) (sha kc (kpad kc key 0x36++ps.flatten)):=zkG (zai _ _ _) hsl (Nat.zero_le _) (by rw[zan,zaf]; omega);have s8:Grow H7 ((H7.new ⟨zak,[.int .u8 0,.int .u8 0,.int .u8 0,.int .u8 0,.int .u8 0,.int .u8 0,.int .u8 0,.int .u8 0,.int .u8 0,.int .u8 0,.int .u8 0,.int .u8 0,.int .u8 0,.int .u8 0,.int .u8 0,.int .u8 0,.int .u8 0,.int .u8 0,.int .u8 0,.int .u8 0,.int .u8 0,.int .u8 0,.int .u8 0,.int .u8 0,.int .u8 0,.int .u8 0,.int .u8 0,.int .u8 0,.int .u8 0,.int .u8 0,.int .u8 0,.int .u8 0],none⟩).set H7.next (some ⟨zak,(sha kc (kpad kc key 0x36++ps.flatten)).map by8,none⟩)):=(Grow.new _ _).set (Nat.le_refl _) _;simp(disch:=first|omega|(simp only[RY]<;>omega)|decide)only[↓RD,RZ,eq_self,Int.reduceToNat,Int.reduceAdd,Nat.reduceAdd,Nat.reduceSub,Nat.reduceMul,Nat.reduceLeDiff,zcR,zaz,hml,hsp,zmf];generalize (H7.new _).set _ _=H8 at *;refine zae (pad_ok (x:=92) ((hk2.ext g7).ext s8) (zph kc hk8) (zou _ _) (by omega)) ?_;rintro ov H9 ⟨hov,s9⟩;have hout:(zfQ kc key++List.replicate (64-(zfQ kc key).length) 0).map (· ^^^ 92)=kpad kc key 0x5c:=rfl;rw[hout]at hov;have houtl:=zsw kc (key:=key) 0x5c;have hc9:=hov.cells1;have ho9:=hov.okc;have s10:=Grow.new H9 ⟨zal,[ov,.sl H7.next 0 32 (.fix 32)],none⟩;have l10:Lc 1 0 (H9.new ⟨zal,[ov,.sl H7.next 0 32 (.fix 32)],none⟩) (.sl H9.next 0 2 (.fix 2)) [ov,.sl H7.next 0 32 (.fix 32)] 2:=zkX (zag _ _) rfl (by rw[zaf]; omega);have p10:Pts 0 (H9.new ⟨zal,[ov,.sl H7.next 0 32 (.fix 32)],none⟩) [ov,.sl H7.next 0 32 (.fix 32)] [kpad kc key 0x5c,sha kc (kpad kc key 0x36++ps.flatten)] :=
    Pts.cons ((hov.ext s10).low (Nat.zero_le _)) (kpad_8 kc hk8 (by omega)) (Pts.cons ((hb8.ext s9).ext s10) hs8 Pts.nil)
   simp(disch:=first|omega|(simp only[RY]<;>omega)|decide)only[↓RD,RZ,eq_self,Int.reduceToNat,Int.reduceAdd,Nat.reduceAdd,Nat.reduceSub,Nat.reduceMul,Nat.reduceLeDiff,hc9,ho9];generalize H9.new _=H10 at *;refine zae (Of_ok l10 p10 (by simp) (by simp[houtl,hsl])) ?_;rintro _ H11 ⟨rfl,s11⟩;have ef:[kpad kc key 0x5c,sha kc (kpad kc key 0x36++ps.flatten)].flatten=kpad kc key 0x5c++sha kc (kpad kc key 0x36++ps.flatten):=by simp
   rw[ef];have eh:sha kc (kpad kc key 0x5c++sha kc (kpad kc key 0x36++ps.flatten))=hmac kc key ps.flatten:=rfl;rw[eh];have hhl:=zeP kc key ps.flatten;have g11:Grow H1 H11:=s2.trans (g7.trans (s8.trans (s9.trans (s10.trans s11))));have gr11:=(g11.same rb (by omega)).trans gr;have hml2:((hmac kc key ps.flatten).map by8).length=32:=by rw[List.length_map,hhl]
   have hsp2:=spr32 hhl;have l32:=ld32 hhl;have hrl:(List.replicate 32 (V.int .u8 0)).length=32:=rfl;simp(disch:=first|omega|(simp only[RY]<;>omega)|decide)only[↓RD,RZ,eq_self,Int.reduceToNat,Int.reduceAdd,Nat.reduceAdd,Nat.reduceSub,Nat.reduceMul,Nat.reduceLeDiff,gr11,zcR,zaz,hml2,hsp2,l32,hrl];have n11:=g11.next;exact⟨by rw[zan]; omega,λi hi=>by rw[zaj _ _ (by omega),g11.same i (by omega),s1.same i (by omega)]⟩
end Go.Ax.SU
/- Su16 -/
namespace Go.Ax.SU
open Go.Ax
theorem Ab.nil{lo:Nat}{H:Heap}:Ab lo H .nils []:=.app .nil
theorem zoM{H:Heap}{lo lo':Nat}{sv kv:V}{salt key:List Nat}(hs:By lo H sv salt)(hs8:Ok8 salt)(hsl:salt.length≤1099511627776)(hk:By lo' H kv key)(hk8:Ok8 key)(hkl:key.length≤1099511627776) :
  Ok (sem T zdp [sv,kv]) H λr H'=>r = .agg ((hmac kc salt key).map by8)∧Grow H H':=by
 refine znN ?_;unfold zkr uS uT uO;have hc:=hk.cells1;have ho:=hk.okc;have s1:=Grow.new H ⟨zak,[.int .u8 0,.int .u8 0,.int .u8 0,.int .u8 0,.int .u8 0,.int .u8 0,.int .u8 0,.int .u8 0,.int .u8 0,.int .u8 0,.int .u8 0,.int .u8 0,.int .u8 0,.int .u8 0,.int .u8 0,.int .u8 0,.int .u8 0,.int .u8 0,.int .u8 0,.int .u8 0,.int .u8 0,.int .u8 0,.int .u8 0,.int .u8 0,.int .u8 0,.int .u8 0,.int .u8 0,.int .u8 0,.int .u8 0,.int .u8 0,.int .u8 0,.int .u8 0],none⟩;have gr:(H.new ⟨zak,[.int .u8 0,.int .u8 0,.int .u8 0,.int .u8 0,.int .u8 0,.int .u8 0,.int .u8 0,.int .u8 0,.int .u8 0,.int .u8 0,.int .u8 0,.int .u8 0,.int .u8 0,.int .u8 0,.int .u8 0,.int .u8 0,.int .u8 0,.int .u8 0,.int .u8 0,.int .u8 0,.int .u8 0,.int .u8 0,.int .u8 0,.int .u8 0,.int .u8 0,.int .u8 0,.int .u8 0,.int .u8 0,.int .u8 0,.int .u8 0,.int .u8 0,.int .u8 0],none⟩).get H.next=some ⟨zak,List.replicate 32 (.int .u8 0),none⟩:=zag _ _;have nr:(H.new ⟨zak,[.int .u8 0,.int .u8 0,.int .u8 0,.int .u8 0,.int .u8 0,.int .u8 0,.int .u8 0,.int .u8 0,.int .u8 0,.int .u8 0,.int .u8 0,.int .u8 0,.int .u8 0,.int .u8 0,.int .u8 0,.int .u8 0,.int .u8 0,.int .u8 0,.int .u8 0,.int .u8 0,.int .u8 0,.int .u8 0,.int .u8 0,.int .u8 0,.int .u8 0,.int .u8 0,.int .u8 0,.int .u8 0,.int .u8 0,.int .u8 0,.int .u8 0,.int .u8 0],none⟩).next=H.next+1:=zaf _ _;simp(disch:=first|omega|(simp only[RY]<;>omega)|decide)only[↓RD,RZ,eq_self,Int.reduceToNat,Int.reduceAdd,Nat.reduceAdd,Nat.reduceSub,Nat.reduceMul,Nat.reduceLeDiff,hc,ho];generalize hrb:H.next=rb at *;generalize H.new _=H1 at *;have s2:=Grow.new H1 ⟨zal,[kv],none⟩;have l2:Lc 1 0 (H1.new ⟨zal,[kv],none⟩) (.sl H1.next 0 1 (.fix 1)) [kv] 1:=zkX (zag _ _) rfl (by rw[zaf]; omega);have p2:Pts 0 (H1.new ⟨zal,[kv],none⟩) [kv] [key]:=Pts.cons (((hk.ext s1).ext s2).low (Nat.zero_le _)) hk8 Pts.nil;rw[nr]at l2;generalize H1.new _=H2 at *;have ef:[key].flatten=key:=by simp
 refine zae (zml ((hs.ext s1).ext s2) hs8 hsl l2 p2 (by simp) (by rw[ef]; exact hkl)) ?_;rintro _ H3 ⟨rfl,s3⟩;rw[ef];have hhl:=zeP kc salt key;have g3:Grow H1 H3:=s2.trans s3;have gr3:=(g3.same rb (by omega)).trans gr;have hml2:((hmac kc salt key).map by8).length=32:=by rw[List.length_map,hhl]
 have hsp2:=spr32 hhl;have l32:=ld32 hhl;have hrl:(List.replicate 32 (V.int .u8 0)).length=32:=rfl;have n3:=g3.next;simp(disch:=first|omega|(simp only[RY]<;>omega)|decide)only[↓RD,RZ,eq_self,Int.reduceToNat,Int.reduceAdd,Nat.reduceAdd,Nat.reduceSub,Nat.reduceMul,Nat.reduceLeDiff,gr3,zcR,zaz,hml2,hsp2,l32,hrl];exact⟨by rw[zan]; omega,λi hi=>by rw[zaj _ _ (by omega),g3.same i (by omega),s1.same i (by omega)]⟩
theorem zgp{H:Heap}(n k:Nat)(hn:n<18446744073709551616)(hk:k≤16):Ok (sem T zbj [.int .u64 (n:Nat),.int .i64 (k:Nat)]) H λr H'=>Ab H.next H' r (num n k)∧Grow H H':=by
 refine zmG ?_;unfold zi9 uB uc ug;simp(disch:=omega)only[↓RD,RZ];refine zaV (λm L H'=>∃w,L=[w,.int .i64 ((k:Int)-1-(m:Nat))]∧Ab H.next H' w ((bn k n).take m)∧Bel H.next H H') k ?_ ?_ ?_
 ·exact⟨.nils,by simp,Ab.nil,Bel.refl _ _⟩
 ·rintro m L H1 hm ⟨w,rfl,ha,hb⟩;have e1:(k:Int)-1-(m:Nat)=((k-1-m:Nat):Int):=by omega
  have e2:(8:Int)*((k-1-m:Nat):Int)=((8*(k-1-m):Nat):Int):=by omega
  have e3:shr n (8*(k-1-m))=n/256 ^ (k-1-m):=by rw[zjo,Nat.shiftRight_eq_div_pow,Nat.pow_mul]
  have hlo1:=hb.next;have hbg:=bn_get k n m hm;rw[e1];generalize hw:k-1-m=w' at *;have e8:IntKind.u8.wrap ((n/256 ^ w':Nat):Int)=((n/256 ^ w'%256:Nat):Int):=by rw[wrap_u8]; rfl
  unfold zew uL uB uc ub ug;simp(disch:=omega)only[↓RD,RZ,e2,e3,e8];refine okb_ab (m:=[n/256 ^ w'%256]) (ha.keep ((Grow.new _ _).keep _)) (by rw[zaf]; omega) (zc5 rfl) (by rw[List.length_take,bn_len]; simp; omega) λw2 H2 h2 hb2=>?_;simp(disch:=omega)only[↓RD,RZ];refine⟨w2,by rw[show((w':Nat):Int)-1=(k:Int)-1-((m+1:Nat):Int) by omega],?_,hb.trans (((Grow.new _ _).bel (by omega)).trans hb2)⟩;rw[take_snoc (by rw[bn_len]; exact hm),hbg];exact h2
 ·rintro L H1 ⟨w,rfl,ha,hb⟩;have e1:(k:Int)-1-(k:Nat) = -1:=by omega
  rw[e1];unfold zew uL uB uc ub ug;simp(disch:=omega)only[↓RD,RZ];rw[List.take_of_length_le (by rw[bn_len]; exact Nat.le_refl _)]at ha;exact⟨ha,hb.grow⟩
theorem Expand_x{H:Heap}{lo lo':Nat}{sv iv:V}{zaR info:List Nat}{n:Nat}(hs:By lo H sv zaR)(hs8:Ok8 zaR)(hsl:zaR.length≤1099511627776)(hi:By lo' H iv info)(hi8:Ok8 info)(hil:info.length≤1099511000000)(hn:n≤8160) :
  Ok (sem T zcA [sv,iv,.int .i64 (n:Nat)]) H λr H'=>∃v,r = .tup [v,.int .i64 0]∧By H.next H' v ((hkdf kc zaR info ((n+31)/32)).1.take n)∧Grow H H'∧(0<n→∃id,v = .sl id 0 n (.opn 1)∧H'.get id=some ⟨zaa,((hkdf kc zaR info ((n+31)/32)).1.take n).map by8,some 1⟩∧H.next≤id∧id<H'.next):=by
 refine zpa ?_;unfold zlu uL uB uc ub ug;simp(maxSteps:=1000000) (disch:=first|omega|(simp only[RY]<;>omega)|decide)only[↓RD,RZ,eq_self,Int.reduceToNat,Int.reduceAdd,Int.reduceSub,Int.reduceMul,Nat.reduceAdd,Nat.reduceSub,Nat.reduceMul,Nat.reduceDiv,Nat.reduceMod,Nat.reduceBEq,Nat.reduceLeDiff];refine zam (Q:=λr H'=>∃w,r = .ex 1 [w]∧Ab H.next H' w (hkdf kc zaR info ((n+31)/32)).1∧Grow H H') ?_ ?_
 ·refine zaV (λj L H'=>∃w l,L=[w,l,.int .u8 ((j+1)%256:Nat)]∧Ab H.next H' w (hkdf kc zaR info j).1∧By 0 H' l (hkdf kc zaR info j).2∧Grow H H') ((n+31)/32) ?_ ?_ ?_
  ·exact⟨.nils,.nils,rfl,Ab.nil,Lc.nil,Grow.refl _⟩
  ·rintro j L H1 hj ⟨w,l,rfl,aw,al,s1⟩;have hwl:=aw.by.vlen;have h1:=ziJ kc zaR info j;have h2:=zmW kc zaR info j;rw[h1]at hwl;have hjn:((32*j:Nat):Int)<((n:Nat):Int):=by omega
   have hj1:(j+1)%256=j+1:=Nat.mod_eq_of_lt (by omega);have hlc:=al.cells1;have hlo:=al.okc;have hic:=hi.cells1;have hio:=hi.okc;have s2:=Grow.new H1 ⟨zaa,[.int .u8 (j+1:Nat)],none⟩;have b2:By 0 (H1.new ⟨zaa,[.int .u8 (j+1:Nat)],none⟩) (.sl H1.next 0 1 (.fix 1)) [j+1]:=zkG (l:=[j+1]) (zag _ _) rfl (Nat.zero_le _) (by rw[zaf]; omega);have n1:=s1.next;rw[hj1];unfold zge uL uT uB uO ub ug;simp(maxSteps:=1000000) (disch:=first|omega|(simp only[RY]<;>omega)|decide)only[↓RD,RZ,eq_self,Int.reduceToNat,Int.reduceAdd,Int.reduceSub,Int.reduceMul,Nat.reduceAdd,Nat.reduceSub,Nat.reduceMul,Nat.reduceDiv,Nat.reduceMod,Nat.reduceBEq,Nat.reduceLeDiff,hwl,hjn,hlc,hlo,hic,hio];have n2e:(H1.new ⟨zaa,[.int .u8 (j+1:Nat)],none⟩).next=H1.next+1:=zaf _ _;generalize hb:V.sl H1.next 0 1 (.fix 1)=bv at *;generalize H1.new _=H2 at *;have s3:=Grow.new H2 ⟨zal,[l,iv,bv],none⟩;have l3:Lc 1 0 (H2.new ⟨zal,[l,iv,bv],none⟩) (.sl H2.next 0 3 (.fix 3)) [l,iv,bv] 3:=zkX (zag _ _) rfl (by rw[zaf]; omega);have p3:Pts 0 (H2.new ⟨zal,[l,iv,bv],none⟩) [l,iv,bv] [(hkdf kc zaR info j).2,info,[j+1]] :=
    Pts.cons ((al.ext s2).ext s3) h2.2 (Pts.cons ((((hi.ext s1).ext s2).ext s3).low (Nat.zero_le _)) hi8 (Pts.cons (b2.ext s3) (λx hx=>by simp only[List.mem_cons,List.not_mem_nil,or_false]at hx; omega) Pts.nil))
   have n2:=s2.next;rw[n2e]at l3;generalize hv3:V.sl (H1.next+1) 0 3 (.fix 3)=v3 at *;generalize H2.new _=H3 at *;have ef:[(hkdf kc zaR info j).2,info,[j+1]].flatten=(hkdf kc zaR info j).2++info++[j+1]:=by simp
   have hl2:(hkdf kc zaR info j).2.length≤32:=by
    cases j with
    | zero=>simp[hkdf]
    | succ j=>exact Nat.le_of_eq (zeP _ _ _)
   have n3:=s3.next;have s13:Grow H H3:=s1.trans (s2.trans s3);refine zae (zml (hs.ext s13) hs8 hsl l3 p3 (by simp) (by rw[ef]; simp only[List.length_append,List.length_cons,List.length_nil]; omega)) ?_;rintro _ H4 ⟨rfl,s4⟩;rw[ef];have eh:(hkdf kc zaR info (j+1)).2=hmac kc zaR ((hkdf kc zaR info j).2++info++[j+1]):=rfl;have eh1:(hkdf kc zaR info (j+1)).1=(hkdf kc zaR info j).1++hmac kc zaR ((hkdf kc zaR info j).2++info++[j+1]):=rfl;rw[←eh];rw[←eh]at eh1;have hhl:(hkdf kc zaR info (j+1)).2.length=32:=zeP _ _ _;have h28:=(zmW kc zaR info (j+1)).2;generalize (hkdf kc zaR info (j+1)).2=tg at *;have hml2:(tg.map by8).length=32:=by rw[List.length_map,hhl]
   have hsp2:=sp32 hhl;have b5:By 0 ((H4.new ⟨zak,[.int .u8 0,.int .u8 0,.int .u8 0,.int .u8 0,.int .u8 0,.int .u8 0,.int .u8 0,.int .u8 0,.int .u8 0,.int .u8 0,.int .u8 0,.int .u8 0,.int .u8 0,.int .u8 0,.int .u8 0,.int .u8 0,.int .u8 0,.int .u8 0,.int .u8 0,.int .u8 0,.int .u8 0,.int .u8 0,.int .u8 0,.int .u8 0,.int .u8 0,.int .u8 0,.int .u8 0,.int .u8 0,.int .u8 0,.int .u8 0,.int .u8 0,.int .u8 0],none⟩).set H4.next (some ⟨zak,tg.map by8,none⟩)) (.sl H4.next 0 32 (.fix 32)) tg:=zkG (zai _ _ _) hhl (Nat.zero_le _) (by rw[zan,zaf]; omega);have s5:Grow H4 ((H4.new ⟨zak,[.int .u8 0,.int .u8 0,.int .u8 0,.int .u8 0,.int .u8 0,.int .u8 0,.int .u8 0,.int .u8 0,.int .u8 0,.int .u8 0,.int .u8 0,.int .u8 0,.int .u8 0,.int .u8 0,.int .u8 0,.int .u8 0,.int .u8 0,.int .u8 0,.int .u8 0,.int .u8 0,.int .u8 0,.int .u8 0,.int .u8 0,.int .u8 0,.int .u8 0,.int .u8 0,.int .u8 0,.int .u8 0,.int .u8 0,.int .u8 0,.int .u8 0,.int .u8 0],none⟩).set H4.next (some ⟨zak,tg.map by8,none⟩)):=(Grow.new _ _).set (Nat.le_refl _) _;have n4:=s4.next;simp(maxSteps:=1000000) (disch:=first|omega|(simp only[RY]<;>omega)|decide)only[↓RD,RZ,eq_self,Int.reduceToNat,Int.reduceAdd,Int.reduceSub,Int.reduceMul,Nat.reduceAdd,Nat.reduceSub,Nat.reduceMul,Nat.reduceDiv,Nat.reduceMod,Nat.reduceBEq,Nat.reduceLeDiff,zcR,zaz,hml2,hsp2,zmf];generalize hv5:V.sl H4.next 0 32 (.fix 32)=v5 at *;have hd5:∀i,w.pid=some i→v5.pid≠some i:=λi h=>by
    rw[←hv5];have:=(aw.by.own i h).2;simp only[V.pid,ne_eq,Option.some.injEq];omega
   generalize (H4.new _).set _ _=H5 at *;have s15:Grow H1 H5:=s2.trans (s3.trans (s4.trans s5));have n5:=s5.next;refine okb_ab' (aw.keep (s15.keep _)) (by omega) b5.ac (by rw[h1,hhl]; omega) λw' H6 aw6 b6 s6=>?_;have ew:IntKind.u8.wrap (((j+1:Nat):Int)+1)=(((j+1+1)%256:Nat):Int):=by rw[wrap_u8]; rfl
   simp(maxSteps:=1000000) (disch:=first|omega|(simp only[RY]<;>omega)|decide)only[↓RD,RZ,eq_self,Int.reduceToNat,Int.reduceAdd,Int.reduceSub,Int.reduceMul,Nat.reduceAdd,Nat.reduceSub,Nat.reduceMul,Nat.reduceDiv,Nat.reduceMod,Nat.reduceBEq,Nat.reduceLeDiff,ew];refine⟨w',v5,rfl,?_,?_,⟨by have:=b6.next; omega,λi hi=>by rw[b6.same i hi,s15.same i (by omega),s1.same i hi]⟩⟩
   ·rw[eh1]; exact aw6
   ·exact b5.stepF s6 λi hi hF=>hd5 i (zcK.1 hF) hi
  ·rintro L H1 ⟨w,l,rfl,aw,al,s1⟩;have hwl:=aw.by.vlen;rw[ziJ]at hwl;have hjn:((n:Nat):Int)≤((32*((n+31)/32):Nat):Int):=by omega
   unfold zge uL uT uB uO ub ug;simp(maxSteps:=1000000) (disch:=first|omega|(simp only[RY]<;>omega)|decide)only[↓RD,RZ,eq_self,Int.reduceToNat,Int.reduceAdd,Int.reduceSub,Int.reduceMul,Nat.reduceAdd,Nat.reduceSub,Nat.reduceMul,Nat.reduceDiv,Nat.reduceMod,Nat.reduceBEq,Nat.reduceLeDiff,hwl,hjn];exact⟨w,rfl,aw,s1⟩
 ·rintro _ H1 ⟨w,rfl,aw,s1⟩;have hwl:=ziJ kc zaR info ((n+31)/32);obtain⟨va,-,ha,-,hva,pa⟩:=zdd aw.by (x:=0) (y:=((n:Nat):Int)) (by omega) (by omega) (by rw[hwl]; omega);have ha2:∀{k':IntKind},zaA .sl 1 w none (some (.int k' ((n:Nat):Int))) none=some va:=ha rfl;have e0:(0:Int).toNat=0:=rfl;rw[e0,List.drop_zero,Int.toNat_natCast,Nat.sub_zero]at hva;have n1:=s1.next;simp(maxSteps:=1000000) (disch:=first|omega|(simp only[RY]<;>omega)|decide)only[↓RD,RZ,eq_self,Int.reduceToNat,Int.reduceAdd,Int.reduceSub,Int.reduceMul,Nat.reduceAdd,Nat.reduceSub,Nat.reduceMul,Nat.reduceDiv,Nat.reduceMod,Nat.reduceBEq,Nat.reduceLeDiff,ha2];have hln:((hkdf kc zaR info ((n+31)/32)).1.take n).length=n:=by rw[List.length_take,hwl]; omega
  refine zry hva.ac (by rw[List.length_map,Nat.mul_one]) (by rw[hln]; omega) (by rw[hln]; omega) λv' H2 o2 t2 f2=>?_;have a2:Ab H1.next H2 v' ((hkdf kc zaR info ((n+31)/32)).1.take n):=.app (.opn o2 f2);have b2:Grow H1 H2:=⟨t2.next,λi hi=>t2.same i hi (by simp)⟩;simp(maxSteps:=1000000) (disch:=first|omega|(simp only[RY]<;>omega)|decide)only[↓RD,RZ,eq_self,Int.reduceToNat,Int.reduceAdd,Int.reduceSub,Int.reduceMul,Nat.reduceAdd,Nat.reduceSub,Nat.reduceMul,Nat.reduceDiv,Nat.reduceMod,Nat.reduceBEq,Nat.reduceLeDiff];refine⟨v',rfl,a2.by.low (by omega),s1.trans b2,λh0=>?_⟩;rcases o2 with⟨rfl,-,h⟩|⟨id,rfl,hg,-⟩
  ·rw[hln]at h; omega
  ·have:=f2 id rfl;exact⟨id,by rw[hln],hg,by omega,by omega⟩
theorem znB{H:Heap}{lo lo':Nat}{sv iv:V}{zaR info:List Nat}{n:Nat}(hs:By lo H sv zaR)(hs8:Ok8 zaR)(hsl:zaR.length≤1099511627776)(hi:By lo' H iv info)(hi8:Ok8 info)(hil:info.length≤1099511000000)(hn:n≤8160) :
  Ok (sem T zcA [sv,iv,.int .i64 (n:Nat)]) H λr H'=>∃v,r = .tup [v,.int .i64 0]∧By H.next H' v ((hkdf kc zaR info ((n+31)/32)).1.take n)∧Grow H H':=by
 refine zam (Expand_x hs hs8 hsl hi hi8 hil hn) ?_;rintro r H' ⟨v,e,h,g,_⟩;exact⟨v,e,h,g⟩
end Go.Ax.SU
/- Su17 -/
namespace Go.Ax.SU
open Go.Ax
/-! Products with three,boxes,computed. -/
def tchk(n:Nat):Bool:=match Cp.cs 3 zbK [by8 n,.int .u8 3]with
 | some (.int .u8 k)=>k==((t3 n:Nat):Int)
 | _=>false
theorem zuD:(List.range 256).all tchk=true:=by kernel_rfl
theorem times_eq{n:Nat}(h:n<256):sem T zbK [by8 n,.int .u8 3]=M.pure (by8 (t3 n)):=by
 have h1:=List.all_eq_true.1 zuD n (List.mem_range.2 h);unfold tchk at h1;split at h1
 ·rename_i b hb;rw[zpy hb];simp only[beq_iff_eq]at h1;rw[h1]; rfl
 ·cases h1
def bchk(n:Nat):Bool:=match Cp.cs 3 zbJ [by8 n]with
 | some (.int .u8 k)=>k==((bx n:Nat):Int)
 | _=>false
theorem box_all:(List.range 256).all bchk=true:=by kernel_rfl
theorem box_eq{n:Nat}(h:n<256):sem T zbJ [by8 n]=M.pure (by8 (bx n)):=by
 have h1:=List.all_eq_true.1 box_all n (List.mem_range.2 h);unfold bchk at h1;split at h1
 ·rename_i b hb;rw[zpy hb];simp only[beq_iff_eq]at h1;rw[h1]; rfl
 ·cases h1
theorem bg{l:List Nat}{i:Nat}(h:i<l.length):(l.map by8)[i]?=some (by8 (l.getD i 0)):=by
 rw[List.getElem?_map,List.getElem?_eq_getElem h,List.getD_eq_getElem?_getD,List.getElem?_eq_getElem h]; rfl
theorem bga{l:List Nat}{r:List V}{i:Nat}(h:i<l.length):(l.map by8++r)[i]?=some (by8 (l.getD i 0)):=by
 rw[List.getElem?_append_left (by rw[List.length_map]; exact h),bg h]
theorem bset{l:List Nat}{r:List V}{i x:Nat}(h:i<l.length):splice (l.map by8++r) i [by8 x]=(l.set i x).map by8++r:=by
 rw[zmo _ _ _ (by rw[List.length_append,List.length_map]; omega),List.set_append_left _ _ (by rw[List.length_map]; exact h),←List.map_set]
theorem zpN{a b:Nat}(ha:a<256)(hb:b<256):Ax.bin .xor (by8 a) (by8 b)=some (by8 (a ^^^ b)):=by
 unfold by8;rw[zus (by omega) (by omega) (by omega) (by omega)]; rfl
theorem zr2{n id off m:Nat}(h:m<n):Ax.iaddr (some n) 1 (.ptr id off) (by8 m)=some (.ptr id (off+m)):=by
 unfold by8;rw[zsC (by omega) (by omega)]; simp
def tabC:Bool→List V
 | false=>.int .u32 0 :: .int .i32 0 :: .int .u32 0::List.replicate 256 (.int .u8 0)
 | true=>.int .u32 1 :: .int .i32 0 :: .int .u32 0::sbox.map by8
theorem zvY{H:Heap}{b k ty:Nat}{x0 x1 x2:V}{r:List V} (hb:H.get b=some ⟨zbm,[.ptr k 0],none⟩) (hk:H.get k=some ⟨ty,x0::x1::x2::((zkk 0).map by8++r),none⟩) (hbk:b≠k) (hbl:b<H.next) (hkl:k<H.next) :
  Ok (sem T zcb [.ptr b 0]) H λ_ H'=>H'.get k=some ⟨ty,x0::x1::x2::(sbox.map by8++r),none⟩∧Step H H' [k] [k]:=by
 refine zh3 ?_;unfold zeK uM uS uT uNF uI uO uU uc ub;refine zaB (zeG (by kernel_rfl) ?_);have ez:(V.agg (List.replicate 255 (V.int .u8 0))).cells=List.replicate 255 (V.int .u8 0):=rfl;have s1:=Grow.new H ⟨zcu,List.replicate 255 (.int .u8 0),none⟩;have gp:(H.new ⟨zcu,List.replicate 255 (.int .u8 0),none⟩).get H.next=some ⟨zcu,List.replicate 255 (.int .u8 0),none⟩:=zag _ _;have n1:(H.new ⟨zcu,List.replicate 255 (.int .u8 0),none⟩).next=H.next+1:=zaf _ _;have gb1:=(s1.same b hbl).trans hb;have gk1:=(s1.same k hkl).trans hk;show Ok _ (H.new ⟨zcu,List.replicate 255 (.int .u8 0),none⟩) _;generalize hp:H.next=p at *;generalize H.new _=H1 at *;have hpl:=pwl_len;have hp8:=pwl_lt;simp(disch:=omega)only[↓RD,RZ,eq_self,seval];refine zam (Q:=λx H'=>x = .ex 0 []∧H'.get p=some ⟨zcu,pwl.map by8,none⟩∧At1 p H1 H') ?_ ?_
 ·refine zaV (λj L H'=>∃x,L=[x,.int .i64 (j:Nat)]∧(j<255→x=by8 (pwl.getD j 0))∧H'.get p=some ⟨zcu,(pwl.take j).map by8++List.replicate (255-j) (.int .u8 0),none⟩∧At1 p H1 H') 255 ?_ ?_ ?_
  ·exact⟨_,rfl,λ_=>rfl,gp,At1.refl _ _⟩
  ·rintro j L H2 hj ⟨x,rfl,hx,g2,s2⟩;have hx:=hx hj;subst hx;have hlt:((pwl.take j).map by8).length=j:=by rw[List.length_map,List.length_take]; omega
   have h8:=hp8.getD j;have et:=times_eq h8;have e:=zbP (z:=.int .u8 0) (x:=by8 (pwl.getD j 0)) hlt hj;have hll:((pwl.take j).map by8++List.replicate (255-j) (V.int .u8 0)).length=255:=by rw[List.length_append,hlt,List.length_replicate]; omega
   unfold zcN uB uI uc ub ug;simp(disch:=omega)only[↓RD,RZ,eq_self,seval,g2,e,et,zgL,zcr,hll];refine⟨by omega,_,rfl,λh=>?_,?_,s2.trans (At1.set p _ _)⟩
   ·rw[pwl_step (by omega)]
   ·rw[take_snoc (by omega)]; simp
  ·rintro L H2 ⟨x,rfl,hx,g2,s2⟩;unfold zcN uB uI uc ub ug;simp(disch:=omega)only[↓RD,RZ,eq_self,seval];refine⟨?_,s2⟩;rw[g2,List.take_of_length_le (by omega)]; simp
 ·rintro _ H2 ⟨rfl,gp2,s2⟩;have n2:=s2.next;have gb2:=(s2.same b (by omega) (by omega)).trans gb1;have gk2:=(s2.same k (by omega) (by omega)).trans gk1;have hpm:(pwl.map by8).length=255:=by rw[List.length_map,hpl]
  have l255:ldc (some 255) (pwl.map by8) 0=some (.agg (pwl.map by8)):=by rw[zeN (by omega),List.drop_zero,List.take_of_length_le (by omega)]
  simp(disch:=omega)only[↓RD,RZ,eq_self,seval,gp2,l255];refine zam (Q:=λx H'=>x = .ex 2 []∧H'.get k=some ⟨ty,x0::x1::x2::((zkk 255).map by8++r),none⟩∧At1 k H2 H') ?_ ?_
  ·refine zaV (λj L H'=>L=[.int .i64 (j:Nat)]∧H'.get k=some ⟨ty,x0::x1::x2::((zkk j).map by8++r),none⟩∧At1 k H2 H') 255 ?_ ?_ ?_
   ·exact⟨rfl,gk2,At1.refl _ _⟩
   ·rintro j L H3 hj ⟨rfl,g3,s3⟩;have gb3:=(s3.same b (by omega) hbk).trans gb2;have gp3:=(s3.same p (by omega) (by omega)).trans gp2;have e1:=bg (l:=pwl) (i:=j) (by omega);have e2:=bg (l:=pwl) (i:=(255-j)%255) (by rw[hpl]; exact Nat.mod_lt _ (by decide));have e3:(255:Int)-(j:Nat)=((255-j:Nat):Int):=by omega
    have e4:((255-j:Nat):Int)%255=(((255-j)%255:Nat):Int):=by omega
    have eb:=box_eq (hp8.getD ((255-j)%255));have h8:=hp8.getD j;have e5:3+pwl.getD j 0=pwl.getD j 0+1+1+1:=by omega
    have e6:=bset (l:=zkk j) (r:=r) (i:=pwl.getD j 0) (x:=bx (pwl.getD ((255-j)%255) 0)) (by rw[zkj]; exact h8);have hlm:((zkk j).map by8++r).length=256+r.length:=by rw[List.length_append,List.length_map,zkj]
    have hmod:=Nat.mod_lt (255-j) (show 0<255 by decide);have ia:=zr2 (id:=k) (off:=3) (n:=256) h8;unfold zcM uL uM uT uNF uB uI uIM uU uc ug;simp(disch:=omega)only[↓RD,RZ,eq_self,seval,e1,gb3,e3,e4,gp3,e2,eb,ia,e5,g3,zjn,e6,zgL,zcr,hlm];exact⟨by omega,rfl,rfl,s3.trans (At1.set k _ _)⟩
   ·rintro L H3 ⟨rfl,g3,s3⟩;unfold zcM uL uM uT uNF uB uI uIM uU uc ug;simp(disch:=omega)only[↓RD,RZ,eq_self,seval];exact⟨g3,s3⟩
  ·rintro _ H3 ⟨rfl,g3,s3⟩;have gb3:=(s3.same b (by omega) hbk).trans gb2;have eb:=box_eq (n:=0) (by omega);have n3:=s3.next;have e6:=bset (l:=zkk 255) (r:=r) (i:=0) (x:=bx 0) (by rw[zkj]; omega);rw[zwA]at e6;have hlm:((zkk 255).map by8++r).length=256+r.length:=by rw[List.length_append,List.length_map,zkj]
   have eb0:sem T zbJ [.int .u8 0]=M.pure (by8 (bx 0)):=eb;simp(disch:=omega)only[↓RD,RZ,eq_self,seval,gb3,eb0,g3,zjn,e6,zgL,zcr,hlm];refine⟨by omega,⟨by rw[zan]; omega,λi hi hF=>?_,λi hi=>.inl hi⟩⟩;simp only[List.mem_singleton]at hF;rw[zaj _ _ hF,s3.same i (by omega) hF,s2.same i (by omega) (by omega),s1.same i (by omega)]
theorem zvX{H:Heap}{k ty:Nat}{d:Bool}{r:List V} (hk:H.get k=some ⟨ty,tabC d++r,none⟩) (hkl:k<H.next) :
  Ok (sem T zbc [.ptr k 0]) H λx H'=>x = .ptr k 3∧H'.get k=some ⟨ty,tabC true++r,none⟩∧Step H H' [k] [k]:=by
 refine zjw ?_;unfold zf0 uM uNF uO;simp(disch:=omega)only[↓RD,RZ,eq_self,seval];have s1:=Grow.new H ⟨zbm,[.ptr k 0],none⟩;have gb:(H.new ⟨zbm,[.ptr k 0],none⟩).get H.next = _:=zag _ _;have gk:=(s1.same k hkl).trans hk;have nb:H.next<(H.new ⟨zbm,[.ptr k 0],none⟩).next:=by rw[zaf]; omega
 have hne:H.next≠k:=by omega
 have n1:=s1.next;generalize hgb:H.next=b at *;generalize H.new _=H1 at *;refine zae (P:=λx H'=>H'.get b=some ⟨zbm,[.ptr k 0],none⟩∧H'.get k=some ⟨ty,tabC true++r,none⟩∧Step H1 H' [k] [k]) ?_ ?_
 ·cases d with
  | true =>
   refine zam (zql gk rfl) ?_;rintro _ _ ⟨rfl,rfl⟩;exact⟨gb,gk,Step.refl _ _⟩
  | false =>
   refine zam (zqk (P:=λH'=>H'.get b=some ⟨zbm,[.ptr k 0],none⟩∧H'.get k=some ⟨ty,tabC true++r,none⟩∧Step H1 H' [k] [k]) gk rfl rfl ?_) ?_
   ·have e0:List.replicate 256 (V.int .u8 0)=(zkk 0).map by8:=by unfold zkk; rw[List.map_replicate]; rfl
    have e1:splice (tabC false++r) (0+1) [.int .i32 1] = .int .u32 0 :: .int .i32 1 :: .int .u32 0::((zkk 0).map by8++r):=by
     rw[←e0]; rfl
    refine zam (zvY (k:=k) (ty:=ty) (x0:=.int .u32 0) (x1:=.int .i32 1) (x2:=.int .u32 0) (r:=r) (by rw[zaj _ _ hne]; exact gb) (by rw[zai,e1]) hne (by rw[zan]; exact nb) (by rw[zan]; omega)) ?_;rintro _ H2 ⟨g2,s2⟩;have n2:=s2.next;rw[zan]at n2;have hb2:H2.get b=some ⟨zbm,[.ptr k 0],none⟩:=by rw[s2.same b (by rw[zan]; exact nb) (by simpa using hne),zaj _ _ hne]; exact gb
    refine⟨_,g2,rfl,rfl,?_,?_,?_⟩
    ·rw[zaj _ _ hne,zaj _ _ hne,hb2]
    ·rw[zai]; rfl
    ·exact((Step.set (H:=H1) _ (by simp:k∈[k])).trans s2).trans ((Step.set (H:=H2) _ (by simp:k∈[k])).trans (Step.set _ (by simp)))
   ·rintro _ H2 ⟨_,h2⟩;exact h2
 ·rintro x H2 ⟨g1,g2,s2⟩;simp(disch:=omega)only[↓RD,RZ,eq_self,seval,g1];exact⟨g2,⟨Nat.le_trans (by omega) s2.next,λi hi hF=>by rw[s2.same i (by omega) hF,s1.same i (by omega)],λi hi=>.inl hi⟩⟩
theorem ztL{H:Heap}{k ty:Nat}{r:List V} (hk:H.get k=some ⟨ty,tabC true++r,none⟩) (hkl:k<H.next) :
  Ok (sem T zbc [.ptr k 0]) H λx H'=>x = .ptr k 3∧Grow H H':=by
 refine zam (zvX hk hkl) ?_;rintro _ H' ⟨rfl,g,s⟩;refine⟨rfl,⟨s.next,λi hi=>?_⟩⟩;by_cases e:i=k
 ·subst e; rw[g,hk]
 ·exact s.same i hi (by simpa using e)
theorem zoP{n:Nat}(h:n<256):sem T zba [by8 n]=M.pure (by8 (xt n)):=by
 refine zkS λH=>?_;refine znQ ?_;unfold f_block_twice by8 xt uB ub uq;by_cases e:128≤n
 ·have e1:n*2%256<256:=Nat.mod_lt _ (by decide);rw[if_pos e];simp(disch:=omega)only[↓RD,RZ,eq_self,seval]
 ·rw[if_neg e,←Nat.mod_eq_of_lt (show n*2<256 by omega)];simp(disch:=omega)only[↓RD,RZ,eq_self,seval]
end Go.Ax.SU
/- Su18 -/
namespace Go.Ax.SU
open Go.Ax
def Aes(H:Heap)(k:Nat) (ws:List (List Nat)):Prop:=∃id,H.get k=some ⟨zaY,tabC true++[.sl id 0 ws.length (.opn 4)],none⟩∧H.get id=some ⟨zav,ws.flatten.map by8,some 4⟩∧k<H.next∧id<H.next∧∀w∈ws,Word w
def AesB(lo:Nat)(H:Heap)(k:Nat) (ws:List (List Nat)):Prop:=lo≤k∧∃id,(H.get k=some ⟨zaY,tabC true++[.sl id 0 ws.length (.opn 4)],none⟩∧H.get id=some ⟨zav,ws.flatten.map by8,some 4⟩∧k<H.next∧id<H.next∧∀w∈ws,Word w)∧lo≤id
theorem AesB.aes{lo:Nat}{H:Heap}{k:Nat} {ws:List (List Nat)} (h:AesB lo H k ws):Aes H k ws:=by
 obtain⟨_,id,h,_⟩:=h;exact⟨id,h⟩
theorem AesB.keep{lo:Nat}{H H':Heap}{k:Nat} {ws:List (List Nat)} (h:AesB lo H k ws) (g:Keep lo H H'):AesB lo H' k ws:=by
 obtain⟨l,id,⟨h1,h2,h3,h4,h5⟩,m⟩:=h;exact⟨l,id,⟨by rw[g.same k l h3]; exact h1,by rw[g.same id m h4]; exact h2,Nat.lt_of_lt_of_le h3 g.next,Nat.lt_of_lt_of_le h4 g.next,h5⟩,m⟩
theorem AesB.low{lo lo':Nat}{H:Heap}{k:Nat} {ws:List (List Nat)} (h:AesB lo H k ws) (hl:lo'≤lo):AesB lo' H k ws:=by
 obtain⟨l,id,h,m⟩:=h;exact⟨Nat.le_trans hl l,id,h,Nat.le_trans hl m⟩
theorem Aes.grow{H H':Heap}{k:Nat} {ws:List (List Nat)} (h:Aes H k ws) (g:Grow H H'):Aes H' k ws:=by
 obtain⟨id,h1,h2,h3,h4,h5⟩:=h;exact⟨id,by rw[g.same k h3]; exact h1,by rw[g.same id h4]; exact h2,Nat.lt_of_lt_of_le h3 g.next,Nat.lt_of_lt_of_le h4 g.next,h5⟩
theorem zqz(wv:V):(tabC true++[wv])[259]?=some wv:=by
 rw[List.getElem?_append_right (by show(tabC true).length≤259; unfold tabC; simp only[List.length_cons,List.length_map,zjS]; omega)];have:(tabC true).length=259:=by unfold tabC; simp only[List.length_cons,List.length_map,zjS]
 rw[this]; rfl
theorem flat4:∀(ws:List (List Nat)),(∀w∈ws,Word w)→ws.flatten.length=4*ws.length:=by
 intro ws
 induction ws with
 | nil=>intro _; rfl
 | cons w ws ih =>
  intro h;rw[List.flatten_cons,List.length_append,ih (λw' h'=>h w' (List.mem_cons_of_mem _ h')),(h w (List.mem_cons_self ..)).1,List.length_cons];omega
theorem flat4_at:∀(ws:List (List Nat)),(∀w∈ws,Word w)→∀j m:Nat,m<4→ws.flatten.getD (j*4+m) 0=(ws.getD j []).getD m 0:=by
 intro ws
 induction ws with
 | nil=>intro _ j m _; simp
 | cons w ws ih =>
  intro h j m hm;have hw:=(h w (List.mem_cons_self ..)).1;cases j with
  | zero =>
   rw[List.flatten_cons,Nat.zero_mul,Nat.zero_add,List.getD_eq_getElem?_getD,List.getElem?_append_left (by omega)];simp
  | succ j =>
   rw[List.flatten_cons,List.getD_eq_getElem?_getD,List.getElem?_append_right (by omega),hw,show(j+1)*4+m-4=j*4+m by omega,←List.getD_eq_getElem?_getD,ih (λw' h'=>h w' (List.mem_cons_of_mem _ h')) j m hm];rfl
theorem zpR {ws:List (List Nat)} (hw:∀w∈ws,Word w) {j m:Nat} (hj:j<ws.length) (hm:m<4):(ws.flatten.map by8)[j*4+m]?=some (by8 ((ws.getD j []).getD m 0)):=by
 rw[bg (by rw[flat4 ws hw]; omega),flat4_at ws hw j m hm]
theorem zuu {ws:List (List Nat)} (hw:∀w∈ws,Word w) (j m:Nat):(ws.getD j []).getD m 0<256:=by
 refine Ok8.getD ?_ _;rw[List.getD_eq_getElem?_getD];cases e:ws[j]? with
 | none=>exact Ok8.nil
 | some w=>exact(hw w (List.mem_of_getElem? e)).2
theorem zi6{x:List Nat}(h:x.length=16):(x.map by8).length=16:=by rw[List.length_map,h]
theorem ld16{l:List Nat}(hl:l.length=16):ldc (some 16) (l.map by8) 0=some (.agg (l.map by8)):=by
 rw[zeN (by rw[List.length_map]; omega),List.drop_zero,List.take_of_length_le (by rw[List.length_map]; omega)]
theorem sp16{l:List Nat}(hl:l.length=16){L:List V}(hL:L.length=16):splice L 0 (l.map by8)=l.map by8:=by
 unfold splice;rw[List.take_zero,List.nil_append,List.length_map,hl,List.drop_of_length_le (by omega),List.append_nil]
theorem zuA{x y:List Nat}{i:Nat}(hx:i<x.length):(y.take i++x.drop i).map by8=(y.take i).map by8++by8 (x.getD i 0)::(x.drop (i+1)).map by8:=by
 rw[List.drop_eq_getElem_cons hx,List.getD_eq_getElem?_getD,List.getElem?_eq_getElem hx,List.map_append,List.map_cons]; rfl
theorem zre{x y:List Nat}{i:Nat}(hy:i<y.length):(y.take i).map by8++by8 (y.getD i 0)::(x.drop (i+1)).map by8=(y.take (i+1)++x.drop (i+1)).map by8:=by
 rw[take_snoc hy,List.map_append,List.map_append];simp
theorem zds (ws:List (List Nat)) (r:Nat) (x:List Nat):(addk ws r x).length=16:=by simp[addk]
theorem ziI(x:List Nat):(movd x).length=16:=by simp[movd]
theorem zl4(x:List Nat):(mixd x).length=16:=by simp[mixd]
theorem zsY {ws:List (List Nat)} (hw:∀w∈ws,Word w) {r:Nat} {x:List Nat} (h:Ok8 x):Ok8 (addk ws r x):=Ok8.rmap λi _=>zcJ (h.getD i) (zuu hw _ _)
theorem zon(x:List Nat):Ok8 (movd x):=Ok8.rmap λi _=>ztq _
theorem mixd_8{x:List Nat}(h:Ok8 x):Ok8 (mixd x):=Ok8.rmap λi _=>zcJ (zcJ (zcJ (zcJ (zmd (h.getD _)) (zmd (h.getD _))) (h.getD _)) (h.getD _)) (h.getD _)
theorem add_ok{H:Heap}{k r:Nat} {ws:List (List Nat)} {x:List Nat} (hA:Aes H k ws) (hx:x.length=16) (h8:Ok8 x) (hr:4*r+3<ws.length) (hwl:ws.length≤1000) :
  Ok (sem T zcF [.ptr k 0,.agg (x.map by8),.int .i64 (r:Nat)]) H λres H'=>res = .agg ((addk ws r x).map by8)∧Grow H H':=by
 refine zlJ ?_;unfold zix uS uT uO uc;refine zaB (zeG (zcR _) ?_);rw[zaz];have s1:=Grow.new H ⟨zad,x.map by8,none⟩;have g1:(H.new ⟨zad,x.map by8,none⟩).get H.next=some ⟨zad,x.map by8,none⟩:=zag _ _;have n1:(H.new ⟨zad,x.map by8,none⟩).next=H.next+1:=zaf _ _;generalize ha:H.next=a at *;generalize H.new _=H1 at *;have s2:=Grow.new H1 ⟨zad,[.int .u8 0,.int .u8 0,.int .u8 0,.int .u8 0,.int .u8 0,.int .u8 0,.int .u8 0,.int .u8 0,.int .u8 0,.int .u8 0,.int .u8 0,.int .u8 0,.int .u8 0,.int .u8 0,.int .u8 0,.int .u8 0],none⟩;have g2:(H1.new ⟨zad,[.int .u8 0,.int .u8 0,.int .u8 0,.int .u8 0,.int .u8 0,.int .u8 0,.int .u8 0,.int .u8 0,.int .u8 0,.int .u8 0,.int .u8 0,.int .u8 0,.int .u8 0,.int .u8 0,.int .u8 0,.int .u8 0],none⟩).get H1.next=some ⟨zad,[.int .u8 0,.int .u8 0,.int .u8 0,.int .u8 0,.int .u8 0,.int .u8 0,.int .u8 0,.int .u8 0,.int .u8 0,.int .u8 0,.int .u8 0,.int .u8 0,.int .u8 0,.int .u8 0,.int .u8 0,.int .u8 0],none⟩:=zag _ _;have n2:(H1.new ⟨zad,[.int .u8 0,.int .u8 0,.int .u8 0,.int .u8 0,.int .u8 0,.int .u8 0,.int .u8 0,.int .u8 0,.int .u8 0,.int .u8 0,.int .u8 0,.int .u8 0,.int .u8 0,.int .u8 0,.int .u8 0,.int .u8 0],none⟩).next=H1.next+1:=zaf _ _;have ga2:=(s2.same a (by omega)).trans g1;have hA2:=(hA.grow s1).grow s2;simp(disch:=omega)only[↓RD,RZ,eq_self,seval];generalize hb:H1.next=b at *;generalize H1.new _=H2 at *;obtain⟨id,k1,k2,k3,k4,hw⟩:=hA2;have hkk:k<a∧id<a:=by
  obtain⟨id',k1',k2',k3',k4',hw'⟩:=hA;have e1:=(s2.same k (by omega)).trans ((s1.same k (by omega)).trans k1');rw[k1]at e1;injection e1 with e1
  injection e1 with _ e1 _
  have e2:=List.append_cancel_left e1;injection e2 with e2
  injection e2 with e2
  omega
 refine zam (Q:=λz H'=>z = .ex 0 []∧H'.get a=some ⟨zad,(addk ws r x).map by8,none⟩∧At1 a H2 H') ?_ ?_
 ·refine zaV (λi L H'=>L=[.int .i64 (i:Nat)]∧H'.get a=some ⟨zad,((addk ws r x).take i++x.drop i).map by8,none⟩∧At1 a H2 H') 16 ?_ ?_ ?_
  ·exact⟨rfl,by simpa using ga2,At1.refl _ _⟩
  ·rintro i L H3 hi ⟨rfl,g3,s3⟩;have gk3:=(s3.same k (by omega) (by omega)).trans k1;have gi3:=(s3.same id (by omega) (by omega)).trans k2;have hal:=zds ws r x;have hA':(((addk ws r x).take i).map by8).length=i:=by rw[List.length_map,List.length_take]; omega
   rw[zuA (by omega)]at g3;have m1:=zpf (b:=by8 (x.getD i 0)) (C:=(x.drop (i+1)).map by8) hA';have m2:=zpe (b:=by8 (x.getD i 0)) (y:=by8 ((addk ws r x).getD i 0)) (C:=(x.drop (i+1)).map by8) hA';have ml:(((addk ws r x).take i).map by8++by8 (x.getD i 0)::(x.drop (i+1)).map by8).length=16:=by rw[List.length_append,hA',List.length_cons,List.length_map,List.length_drop]; omega
   have ek:=zqz (.sl id 0 ws.length (.opn 4));have e1:(4:Int)*(r:Nat)=((4*r:Nat):Int):=by omega
   have e2:((i:Nat):Int)/4=((i/4:Nat):Int):=by omega
   have e3:((4*r:Nat):Int)+((i/4:Nat):Int)=((4*r+i/4:Nat):Int):=by omega
   have e4:((i:Nat):Int)%4=((i%4:Nat):Int):=by omega
   have hm4:=Nat.mod_lt i (show 0<4 by decide);have wb:=zpR hw (j:=4*r+i/4) (m:=i%4) (by omega) hm4;have ex:=zpN (h8.getD i) (zuu hw (4*r+i/4) (i%4));have ea:x.getD i 0 ^^^ (ws.getD (4*r+i/4) []).getD (i%4) 0=(addk ws r x).getD i 0:=by unfold addk; rw[zef hi]
   rw[ea]at ex;unfold zd5 uT uNFM uB uI uIM uc ug;simp(disch:=omega)only[↓RD,RZ,eq_self,seval,g3,m1,gk3,ek,e1,e2,e3,e4,gi3,wb,ex,m2,ml,zgL,zcr];refine⟨by omega,rfl,?_,s3.trans (At1.set a _ _)⟩;rw[zre (by omega)]
  ·rintro L H3 ⟨rfl,g3,s3⟩;unfold zd5 uT uNFM uB uI uIM uc ug;simp(disch:=omega)only[↓RD,RZ,eq_self,seval];refine⟨?_,s3⟩;rw[g3,List.take_of_length_le (by rw[zds]; omega),List.drop_of_length_le (by omega),List.append_nil]
 ·rintro _ H3 ⟨rfl,g3,s3⟩;have n3:=s3.next;have gb3:=(s3.same b (by omega) (by omega)).trans g2;have hal:=zds ws r x;have l1:=ld16 hal;have l2:=sp16 hal (L:=[.int .u8 0,.int .u8 0,.int .u8 0,.int .u8 0,.int .u8 0,.int .u8 0,.int .u8 0,.int .u8 0,.int .u8 0,.int .u8 0,.int .u8 0,.int .u8 0,.int .u8 0,.int .u8 0,.int .u8 0,.int .u8 0]) rfl;have l3:=zi6 hal;simp(disch:=omega)only[↓RD,RZ,eq_self,seval,g3,l1,gb3,zcR,zaz,l2,l3];exact⟨by rw[zan]; omega,λi hi=>by rw[zaj _ _ (by omega),s3.same i (by omega) (by omega),s2.same i (by omega),s1.same i (by omega)]⟩
end Go.Ax.SU
/- Su19 -/
namespace Go.Ax.SU
open Go.Ax
theorem tab_at{wv:V}{n:Nat}(h:n<256):(tabC true++[wv])[3+n]?=some (by8 (sb n)):=by
 have e:tabC true++[wv] = .int .u32 1 :: .int .i32 0 :: .int .u32 0::(sbox.map by8++[wv]):=rfl;rw[e,show 3+n=n+1+1+1 by omega];rw[List.getElem?_cons_succ,List.getElem?_cons_succ,List.getElem?_cons_succ,bga (by rw[zjS]; exact h)];rfl
theorem moved_ok{H:Heap}{k:Nat} {ws:List (List Nat)} {x:List Nat} (hA:Aes H k ws) (hx:x.length=16) (h8:Ok8 x) :
  Ok (sem T zcQ [.ptr k 0,.agg (x.map by8)]) H λres H'=>res = .agg ((movd x).map by8)∧Grow H H':=by
 refine zjZ ?_;unfold zgG uS uT uNF uO uc;refine zaB (zeG (zcR _) ?_);rw[zaz];have s1:=Grow.new H ⟨zad,x.map by8,none⟩;have g1:(H.new ⟨zad,x.map by8,none⟩).get H.next=some ⟨zad,x.map by8,none⟩:=zag _ _;have n1:(H.new ⟨zad,x.map by8,none⟩).next=H.next+1:=zaf _ _;generalize ha:H.next=a at *;generalize H.new _=H1 at *;have s2:=Grow.new H1 ⟨zad,[.int .u8 0,.int .u8 0,.int .u8 0,.int .u8 0,.int .u8 0,.int .u8 0,.int .u8 0,.int .u8 0,.int .u8 0,.int .u8 0,.int .u8 0,.int .u8 0,.int .u8 0,.int .u8 0,.int .u8 0,.int .u8 0],none⟩;have g2:(H1.new ⟨zad,[.int .u8 0,.int .u8 0,.int .u8 0,.int .u8 0,.int .u8 0,.int .u8 0,.int .u8 0,.int .u8 0,.int .u8 0,.int .u8 0,.int .u8 0,.int .u8 0,.int .u8 0,.int .u8 0,.int .u8 0,.int .u8 0],none⟩).get H1.next=some ⟨zad,[.int .u8 0,.int .u8 0,.int .u8 0,.int .u8 0,.int .u8 0,.int .u8 0,.int .u8 0,.int .u8 0,.int .u8 0,.int .u8 0,.int .u8 0,.int .u8 0,.int .u8 0,.int .u8 0,.int .u8 0,.int .u8 0],none⟩:=zag _ _;have n2:(H1.new ⟨zad,[.int .u8 0,.int .u8 0,.int .u8 0,.int .u8 0,.int .u8 0,.int .u8 0,.int .u8 0,.int .u8 0,.int .u8 0,.int .u8 0,.int .u8 0,.int .u8 0,.int .u8 0,.int .u8 0,.int .u8 0,.int .u8 0],none⟩).next=H1.next+1:=zaf _ _;have ga2:=(s2.same a (by omega)).trans g1;have hA2:=(hA.grow s1).grow s2;simp(disch:=omega)only[↓RD,RZ];generalize hb:H1.next=b at *;generalize H1.new _=H2 at *;obtain⟨id,k1,k2,k3,k4,hw⟩:=hA2;refine zae (ztL k1 k3) ?_;rintro _ H3 ⟨rfl,s3⟩;have n3:=s3.next;have gk3:=(s3.same k k3).trans k1;have ga3:=(s3.same a (by omega)).trans ga2;have gb3:=(s3.same b (by omega)).trans g2;have s4:=Grow.new H3 ⟨zad,[.int .u8 0,.int .u8 0,.int .u8 0,.int .u8 0,.int .u8 0,.int .u8 0,.int .u8 0,.int .u8 0,.int .u8 0,.int .u8 0,.int .u8 0,.int .u8 0,.int .u8 0,.int .u8 0,.int .u8 0,.int .u8 0],none⟩;have g4:(H3.new ⟨zad,[.int .u8 0,.int .u8 0,.int .u8 0,.int .u8 0,.int .u8 0,.int .u8 0,.int .u8 0,.int .u8 0,.int .u8 0,.int .u8 0,.int .u8 0,.int .u8 0,.int .u8 0,.int .u8 0,.int .u8 0,.int .u8 0],none⟩).get H3.next=some ⟨zad,List.replicate 16 (.int .u8 0),none⟩:=zag _ _;have n4:(H3.new ⟨zad,[.int .u8 0,.int .u8 0,.int .u8 0,.int .u8 0,.int .u8 0,.int .u8 0,.int .u8 0,.int .u8 0,.int .u8 0,.int .u8 0,.int .u8 0,.int .u8 0,.int .u8 0,.int .u8 0,.int .u8 0,.int .u8 0],none⟩).next=H3.next+1:=zaf _ _;have gk4:=(s4.same k (by omega)).trans gk3;have ga4:=(s4.same a (by omega)).trans ga3;have gb4:=(s4.same b (by omega)).trans gb3;simp(disch:=omega)only[↓RD,RZ];generalize hc:H3.next=c at *;generalize H3.new _=H4 at *;have hml:=ziI x;refine zam (Q:=λz H'=>z = .ex 0 []∧H'.get c=some ⟨zad,(movd x).map by8,none⟩∧At1 c H4 H') ?_ ?_
 ·refine zaV (λi L H'=>L=[.int .i64 (i:Nat)]∧H'.get c=some ⟨zad,((movd x).take i).map by8++List.replicate (16-i) (.int .u8 0),none⟩∧At1 c H4 H') 16 ?_ ?_ ?_
  ·exact⟨rfl,by simpa using g4,At1.refl _ _⟩
  ·rintro i L H5 hi ⟨rfl,g5,s5⟩;have gk5:=(s5.same k (by omega) (by omega)).trans gk4;have ga5:=(s5.same a (by omega) (by omega)).trans ga4;have hl0:(((movd x).take i).map by8).length=i:=by rw[List.length_map,List.length_take]; omega
   have x0:=zbP (z:=.int .u8 0) (x:=by8 ((movd x).getD i 0)) hl0 hi;have ml:(((movd x).take i).map by8++List.replicate (16-i) (V.int .u8 0)).length=16:=by rw[List.length_append,hl0,List.length_replicate]; omega
   have e1:((i:Nat):Int)%4=((i%4:Nat):Int):=by omega
   have e2:(4:Int)*((i%4:Nat):Int)=((4*(i%4):Nat):Int):=by omega
   have e3:((i:Nat):Int)+((4*(i%4):Nat):Int)=((i+4*(i%4):Nat):Int):=by omega
   have e4:((i+4*(i%4):Nat):Int)%16=(((i+4*(i%4))%16:Nat):Int):=by omega
   have hm:=Nat.mod_lt (i+4*(i%4)) (show 0<16 by decide);have hm4:=Nat.mod_lt i (show 0<4 by decide);have eg:=bg (l:=x) (i:=(i+4*(i%4))%16) (by omega);have hb8:=h8.getD ((i+4*(i%4))%16);have ia:=zr2 (id:=k) (off:=3) (n:=256) hb8;have et:=tab_at (wv:=.sl id 0 ws.length (.opn 4)) hb8;have em:sb (x.getD ((i+4*(i%4))%16) 0)=(movd x).getD i 0:=by unfold movd; rw[zef hi]
   rw[em]at et;unfold zdx uT uN uB uI uIM uc ug;simp(disch:=omega)only[↓RD,RZ,e1,e2,e3,e4,ga5,eg,ia,gk5,et,g5,x0,ml,zgL,zcr];refine⟨by omega,rfl,?_,s5.trans (At1.set c _ _)⟩;rw[take_snoc (by omega)]; simp
  ·rintro L H5 ⟨rfl,g5,s5⟩;unfold zdx uT uN uB uI uIM uc ug;simp(disch:=omega)only[↓RD,RZ];refine⟨?_,s5⟩;rw[g5,List.take_of_length_le (by omega)]; simp
 ·rintro _ H5 ⟨rfl,g5,s5⟩;have n5:=s5.next;have gb5:=(s5.same b (by omega) (by omega)).trans gb4;have l1:=ld16 hml;have l2:=sp16 hml (L:=[.int .u8 0,.int .u8 0,.int .u8 0,.int .u8 0,.int .u8 0,.int .u8 0,.int .u8 0,.int .u8 0,.int .u8 0,.int .u8 0,.int .u8 0,.int .u8 0,.int .u8 0,.int .u8 0,.int .u8 0,.int .u8 0]) rfl;have l3:=zi6 hml;simp(disch:=omega)only[↓RD,RZ,eq_self,seval,g5,l1,gb5,zcR,zaz,l2,l3];exact⟨by rw[zan]; omega,λi hi=>by rw[zaj _ _ (by omega),s5.same i (by omega) (by omega),s4.same i (by omega),s3.same i (by omega),s2.same i (by omega),s1.same i (by omega)]⟩
theorem mixed_ok{H:Heap}{x:List Nat}(hx:x.length=16)(h8:Ok8 x) :
  Ok (sem T zec [.agg (x.map by8)]) H λres H'=>res = .agg ((mixd x).map by8)∧Grow H H':=by
 refine znR ?_;unfold zkv uS uT uO uc;refine zaB (zeG (zcR _) ?_);rw[zaz];have s1:=Grow.new H ⟨zad,x.map by8,none⟩;have g1:(H.new ⟨zad,x.map by8,none⟩).get H.next=some ⟨zad,x.map by8,none⟩:=zag _ _;have n1:(H.new ⟨zad,x.map by8,none⟩).next=H.next+1:=zaf _ _;generalize ha:H.next=a at *;generalize H.new _=H1 at *;refine zaB (zeG (by rfl) ?_);have s2:=Grow.new H1 ⟨zad,[.int .u8 0,.int .u8 0,.int .u8 0,.int .u8 0,.int .u8 0,.int .u8 0,.int .u8 0,.int .u8 0,.int .u8 0,.int .u8 0,.int .u8 0,.int .u8 0,.int .u8 0,.int .u8 0,.int .u8 0,.int .u8 0],none⟩;have g2:(H1.new ⟨zad,[.int .u8 0,.int .u8 0,.int .u8 0,.int .u8 0,.int .u8 0,.int .u8 0,.int .u8 0,.int .u8 0,.int .u8 0,.int .u8 0,.int .u8 0,.int .u8 0,.int .u8 0,.int .u8 0,.int .u8 0,.int .u8 0],none⟩).get H1.next=some ⟨zad,[.int .u8 0,.int .u8 0,.int .u8 0,.int .u8 0,.int .u8 0,.int .u8 0,.int .u8 0,.int .u8 0,.int .u8 0,.int .u8 0,.int .u8 0,.int .u8 0,.int .u8 0,.int .u8 0,.int .u8 0,.int .u8 0],none⟩:=zag _ _;have n2:(H1.new ⟨zad,[.int .u8 0,.int .u8 0,.int .u8 0,.int .u8 0,.int .u8 0,.int .u8 0,.int .u8 0,.int .u8 0,.int .u8 0,.int .u8 0,.int .u8 0,.int .u8 0,.int .u8 0,.int .u8 0,.int .u8 0,.int .u8 0],none⟩).next=H1.next+1:=zaf _ _;have ga2:=(s2.same a (by omega)).trans g1;rw[zaz];generalize hb:H1.next=b at *;generalize H1.new _=H2 at *;refine zaB (zeG (by rfl) ?_);have s4:=Grow.new H2 ⟨zad,[.int .u8 0,.int .u8 0,.int .u8 0,.int .u8 0,.int .u8 0,.int .u8 0,.int .u8 0,.int .u8 0,.int .u8 0,.int .u8 0,.int .u8 0,.int .u8 0,.int .u8 0,.int .u8 0,.int .u8 0,.int .u8 0],none⟩;have g4:(H2.new ⟨zad,[.int .u8 0,.int .u8 0,.int .u8 0,.int .u8 0,.int .u8 0,.int .u8 0,.int .u8 0,.int .u8 0,.int .u8 0,.int .u8 0,.int .u8 0,.int .u8 0,.int .u8 0,.int .u8 0,.int .u8 0,.int .u8 0],none⟩).get H2.next=some ⟨zad,List.replicate 16 (.int .u8 0),none⟩:=zag _ _;have n4:(H2.new ⟨zad,[.int .u8 0,.int .u8 0,.int .u8 0,.int .u8 0,.int .u8 0,.int .u8 0,.int .u8 0,.int .u8 0,.int .u8 0,.int .u8 0,.int .u8 0,.int .u8 0,.int .u8 0,.int .u8 0,.int .u8 0,.int .u8 0],none⟩).next=H2.next+1:=zaf _ _;have ga4:=(s4.same a (by omega)).trans ga2;have gb4:=(s4.same b (by omega)).trans g2;rw[zaz];generalize hc:H2.next=c at *;generalize H2.new _=H4 at *;have hml:=zl4 x;simp(disch:=omega)only[↓RD,RZ];refine zam (Q:=λz H'=>z = .ex 0 []∧H'.get c=some ⟨zad,(mixd x).map by8,none⟩∧At1 c H4 H') ?_ ?_
 ·refine zaV (λi L H'=>L=[.int .i64 (i:Nat)]∧H'.get c=some ⟨zad,((mixd x).take i).map by8++List.replicate (16-i) (.int .u8 0),none⟩∧At1 c H4 H') 16 ?_ ?_ ?_
  ·exact⟨rfl,by simpa using g4,At1.refl _ _⟩
  ·rintro i L H5 hi ⟨rfl,g5,s5⟩;have ga5:=(s5.same a (by omega) (by omega)).trans ga4;have hl0:(((mixd x).take i).map by8).length=i:=by rw[List.length_map,List.length_take]; omega
   have x0:=zbP (z:=.int .u8 0) (x:=by8 ((mixd x).getD i 0)) hl0 hi;have ml:(((mixd x).take i).map by8++List.replicate (16-i) (V.int .u8 0)).length=16:=by rw[List.length_append,hl0,List.length_replicate]; omega
   have e1:((i:Nat):Int)%4=((i%4:Nat):Int):=by omega
   have e2:((i:Nat):Int)-((i%4:Nat):Int)=((i-i%4:Nat):Int):=by omega
   have f1:(((i:Nat):Int)+1)%4=(((i+1)%4:Nat):Int):=by omega
   have f2:(((i:Nat):Int)+2)%4=(((i+2)%4:Nat):Int):=by omega
   have f3:(((i:Nat):Int)+3)%4=(((i+3)%4:Nat):Int):=by omega
   have k1:((i-i%4:Nat):Int)+(((i+1)%4:Nat):Int)=((i-i%4+(i+1)%4:Nat):Int):=rfl;have k2:((i-i%4:Nat):Int)+(((i+2)%4:Nat):Int)=((i-i%4+(i+2)%4:Nat):Int):=rfl;have k3:((i-i%4:Nat):Int)+(((i+3)%4:Nat):Int)=((i-i%4+(i+3)%4:Nat):Int):=rfl;have m0:i-i%4≤12:=by omega
   have m1:=Nat.mod_lt (i+1) (show 0<4 by decide);have m2:=Nat.mod_lt (i+2) (show 0<4 by decide);have m3:=Nat.mod_lt (i+3) (show 0<4 by decide);have b0:=bg (l:=x) (i:=i) (by omega);have b1:=bg (l:=x) (i:=i-i%4+(i+1)%4) (by omega);have b2:=bg (l:=x) (i:=i-i%4+(i+2)%4) (by omega);have b3:=bg (l:=x) (i:=i-i%4+(i+3)%4) (by omega);have q0:=h8.getD i;have q1:=h8.getD (i-i%4+(i+1)%4);have q2:=h8.getD (i-i%4+(i+2)%4);have q3:=h8.getD (i-i%4+(i+3)%4);have w0:=zoP q0;have w1:=zoP q1;have x1:=zpN (zmd q0) (zmd q1);have x2:=zpN (zcJ (zmd q0) (zmd q1)) q1;have x3:=zpN (zcJ (zcJ (zmd q0) (zmd q1)) q1) q2;have x4:=zpN (zcJ (zcJ (zcJ (zmd q0) (zmd q1)) q1) q2) q3;have em:xt (x.getD i 0) ^^^ xt (x.getD (i-i%4+(i+1)%4) 0) ^^^ x.getD (i-i%4+(i+1)%4) 0 ^^^ x.getD (i-i%4+(i+2)%4) 0 ^^^ x.getD (i-i%4+(i+3)%4) 0=(mixd x).getD i 0:=by unfold mixd; rw[zef hi]
   rw[em]at x4;unfold zfy uM uT uB uI uIM uU uc ug;simp(disch:=omega)only[↓RD,RZ,e1,e2,f1,f2,f3,k1,k2,k3,ga5,b0,b1,b2,b3,w0,w1,x1,x2,x3,x4,g5,x0,ml,zgL,zcr];refine⟨by omega,rfl,?_,s5.trans (At1.set c _ _)⟩;rw[take_snoc (by omega)]; simp
  ·rintro L H5 ⟨rfl,g5,s5⟩;unfold zfy uM uT uB uI uIM uU uc ug;simp(disch:=omega)only[↓RD,RZ];refine⟨?_,s5⟩;rw[g5,List.take_of_length_le (by omega)]; simp
 ·rintro _ H5 ⟨rfl,g5,s5⟩;have n5:=s5.next;have gb5:=(s5.same b (by omega) (by omega)).trans gb4;have l1:=ld16 hml;have l2:=sp16 hml (L:=[.int .u8 0,.int .u8 0,.int .u8 0,.int .u8 0,.int .u8 0,.int .u8 0,.int .u8 0,.int .u8 0,.int .u8 0,.int .u8 0,.int .u8 0,.int .u8 0,.int .u8 0,.int .u8 0,.int .u8 0,.int .u8 0]) rfl;have l3:=zi6 hml;simp(disch:=omega)only[↓RD,RZ,eq_self,seval,g5,l1,gb5,zcR,zaz,l2,l3];exact⟨by rw[zan]; omega,λi hi=>by rw[zaj _ _ (by omega),s5.same i (by omega) (by omega),s4.same i (by omega),s2.same i (by omega),s1.same i (by omega)]⟩
theorem arnd_len {ws:List (List Nat)} {x:List Nat} (n:Nat):(arnd ws x n).length=16:=by
 cases n with
 | zero=>exact zds _ _ _
 | succ n=>exact zds _ _ _
theorem arnd_8 {ws:List (List Nat)} (hw:∀w∈ws,Word w) {x:List Nat} (h:Ok8 x) (n:Nat):Ok8 (arnd ws x n):=by
 cases n with
 | zero=>exact zsY hw h
 | succ n=>exact zsY hw (mixd_8 (zon _))
def bst (ws:List (List Nat)) (x:List Nat) (i:Nat):List Nat:=if i<ws.length/4-1 then arnd ws x i else aes ws x
theorem Block_ok{H:Heap}{k:Nat} {ws:List (List Nat)} {x:List Nat} (hA:Aes H k ws) (hx:x.length=16) (h8:Ok8 x) (hwl:ws.length≤1000) (hw4:ws.length%4=0) (hw8:8≤ws.length) :
  Ok (sem T zcc [.ptr k 0,.agg (x.map by8)]) H λres H'=>res = .agg ((aes ws x).map by8)∧Grow H H':=by
 have hw:∀w∈ws,Word w:=by obtain⟨_,_,_,_,_,hw⟩:=hA; exact hw
 refine zj0 ?_;unfold zgH uL uS uT uNFM uB uO uc;refine zaB (zeG (zcR _) ?_);rw[zaz];have s1:=Grow.new H ⟨zad,x.map by8,none⟩;have g1:(H.new ⟨zad,x.map by8,none⟩).get H.next=some ⟨zad,x.map by8,none⟩:=zag _ _;have n1:(H.new ⟨zad,x.map by8,none⟩).next=H.next+1:=zaf _ _;generalize ha:H.next=a at *;generalize H.new _=H1 at *;refine zaB (zeG (by rfl) ?_);have s2:=Grow.new H1 ⟨zad,[.int .u8 0,.int .u8 0,.int .u8 0,.int .u8 0,.int .u8 0,.int .u8 0,.int .u8 0,.int .u8 0,.int .u8 0,.int .u8 0,.int .u8 0,.int .u8 0,.int .u8 0,.int .u8 0,.int .u8 0,.int .u8 0],none⟩;have g2:(H1.new ⟨zad,[.int .u8 0,.int .u8 0,.int .u8 0,.int .u8 0,.int .u8 0,.int .u8 0,.int .u8 0,.int .u8 0,.int .u8 0,.int .u8 0,.int .u8 0,.int .u8 0,.int .u8 0,.int .u8 0,.int .u8 0,.int .u8 0],none⟩).get H1.next=some ⟨zad,[.int .u8 0,.int .u8 0,.int .u8 0,.int .u8 0,.int .u8 0,.int .u8 0,.int .u8 0,.int .u8 0,.int .u8 0,.int .u8 0,.int .u8 0,.int .u8 0,.int .u8 0,.int .u8 0,.int .u8 0,.int .u8 0],none⟩:=zag _ _;have n2:(H1.new ⟨zad,[.int .u8 0,.int .u8 0,.int .u8 0,.int .u8 0,.int .u8 0,.int .u8 0,.int .u8 0,.int .u8 0,.int .u8 0,.int .u8 0,.int .u8 0,.int .u8 0,.int .u8 0,.int .u8 0,.int .u8 0,.int .u8 0],none⟩).next=H1.next+1:=zaf _ _;have ga2:=(s2.same a (by omega)).trans g1;have hA2:=(hA.grow s1).grow s2;rw[zaz];generalize hb:H1.next=b at *;generalize H1.new _=H2 at *;obtain⟨id,k1,k2,k3,k4,-⟩:=id hA2;have ek:=zqz (.sl id 0 ws.length (.opn 4));have e1:((ws.length:Nat):Int)/4=((ws.length/4:Nat):Int):=by omega
 have e2:((ws.length/4:Nat):Int)-1=((ws.length/4-1:Nat):Int):=by omega
 have l1:=ld16 hx;simp(disch:=omega)only[↓RD,RZ,k1,ek,e1,e2,ga2,l1];have hlast:ws.length/4-1+1=ws.length/4:=by omega
 have hAg:∀H',Grow H H'→Aes H' k ws:=λH' g=>hA.grow g;have ad:=add_ok (r:=0) hA2 hx h8 (by omega) hwl;refine zae ad ?_;rintro _ H3 ⟨rfl,s3⟩;have n3:=s3.next;have ga3:=(s3.same a (by omega)).trans ga2;have gb3:=(s3.same b (by omega)).trans g2;have l2:=sp16 (zds ws 0 x) (L:=x.map by8) (zi6 hx);have l3:=zi6 (zds ws 0 x);simp(disch:=omega)only[↓RD,RZ,eq_self,seval,ga3,zcR,zaz,l2,l3,zi6 hx];have gH3:Grow H (H3.set a (some ⟨zad,(addk ws 0 x).map by8,none⟩)):=(((s1.trans s2).trans s3)).set (by omega) _;have gb4:(H3.set a (some ⟨zad,(addk ws 0 x).map by8,none⟩)).get b = _:=(zaj _ _ (by omega)).trans gb3;have ga4:(H3.set a (some ⟨zad,(addk ws 0 x).map by8,none⟩)).get a = _:=zai _ _ _;have n4:H3.next=(H3.set a (some ⟨zad,(addk ws 0 x).map by8,none⟩)).next:=rfl;generalize H3.set a _=H4 at *;have gA:∀H',At1 a H4 H'→Grow H H':=λH' g=>⟨Nat.le_trans gH3.next g.next,λi hi=>by rw[g.same i (by omega) (by omega),gH3.same i hi]⟩;have bl:∀i,(bst ws x i).length=16:=λi=>by unfold bst; split; exact arnd_len _; exact zds _ _ _
 have b8:∀i,Ok8 (bst ws x i):=λi=>by unfold bst; split; exact arnd_8 hw h8 _; exact zsY hw (zon _)
 refine zam (Q:=λz H'=>z = .ex 0 []∧H'.get a=some ⟨zad,(aes ws x).map by8,none⟩∧At1 a H4 H') ?_ ?_
 ·refine zaV (λi L H'=>L=[.int .i64 ((i+1:Nat):Int)]∧H'.get a=some ⟨zad,(bst ws x i).map by8,none⟩∧At1 a H4 H') (ws.length/4-1) ?_ ?_ ?_
  ·refine⟨rfl,?_,At1.refl _ _⟩;unfold bst;rw[if_pos (by omega)];exact ga4
  ·rintro i L H5 hi ⟨rfl,ga5,s5⟩;have n5:=s5.next;have e5:((i+1:Nat):Int)+1=((i+1+1:Nat):Int):=rfl;have l1:=ld16 (bl i);unfold zdy uS uT uB uc ug;simp(disch:=omega)only[↓RD,RZ,ga5,l1];refine zae (moved_ok (hAg _ (gA _ s5)) (bl i) (b8 i)) ?_;rintro _ H6 ⟨rfl,s6⟩;have n6:=s6.next;have ga6:=(s6.same a (by omega)).trans ga5;have l2:=sp16 (ziI (bst ws x i)) (L:=(bst ws x i).map by8) (zi6 (bl i));have l3:=zi6 (ziI (bst ws x i));have l4:=zi6 (bl i);have l5:=ld16 (ziI (bst ws x i));simp(disch:=omega)only[↓RD,RZ,eq_self,seval,ga6,zcR,zaz,l2,l3,l4];have s7:At1 a H4 (H6.set a (some ⟨zad,(movd (bst ws x i)).map by8,none⟩)):=(s5.trans (s6.at1 a)).trans (At1.set a _ _);have ga7:(H6.set a (some ⟨zad,(movd (bst ws x i)).map by8,none⟩)).get a = _:=zai _ _ _;generalize H6.set a _=H7 at *;have n7:=s7.next;refine zam (Q:=λz H'=>z = .nrm []∧H'.get a=some ⟨zad,(if i+1<ws.length/4-1 then mixd (movd (bst ws x i)) else movd (bst ws x i)).map by8,none⟩∧At1 a H4 H') ?_ ?_
   ·refine zh1 (λh=>?_) (λh=>?_)
    ·simp(disch:=omega)only[↓RD,RZ,ga7,l5];refine zae (mixed_ok (ziI _) (zon _)) ?_;rintro _ H8 ⟨rfl,s8⟩;have n8:=s8.next;have ga8:=(s8.same a (by omega)).trans ga7;have m2:=sp16 (zl4 (movd (bst ws x i))) (L:=(movd (bst ws x i)).map by8) l3;have m3:=zi6 (zl4 (movd (bst ws x i)));simp(disch:=omega)only[↓RD,RZ,eq_self,seval,ga8,zcR,zaz,m2,m3,l3];exact⟨by rw[if_pos (by omega)],(s7.trans (s8.at1 a)).trans (At1.set a _ _)⟩
    ·simp(disch:=omega)only[↓RD,RZ];rw[if_neg (by omega)];exact⟨ga7,s7⟩
   ·rintro _ H8 ⟨rfl,ga8,s8⟩;have n8:=s8.next;generalize hy:(if i+1<ws.length/4-1 then mixd (movd (bst ws x i)) else movd (bst ws x i))=y at *;have yl:y.length=16:=by rw[←hy]; split; exact zl4 _; exact ziI _
    have y8:Ok8 y:=by rw[←hy]; split; exact mixd_8 (zon _); exact zon _
    have m1:=ld16 yl;simp(disch:=omega)only[↓RD,RZ,ga8,m1];refine zae (add_ok (r:=i+1) (hAg _ (gA _ s8)) yl y8 (by omega) hwl) ?_;rintro _ H9 ⟨rfl,s9⟩;have n9:=s9.next;have ga9:=(s9.same a (by omega)).trans ga8;have m2:=sp16 (zds ws (i+1) y) (L:=y.map by8) (zi6 yl);have m3:=zi6 (zds ws (i+1) y);have m4:=zi6 yl;simp(disch:=omega)only[↓RD,RZ,eq_self,seval,ga9,zcR,zaz,m2,m3,m4,e5];refine⟨?_,(s8.trans (s9.at1 a)).trans (At1.set a _ _)⟩
    ·congr 3;rw[←hy];unfold bst;rw[if_pos hi];by_cases h:i+1<ws.length/4-1
     ·rw[if_pos h,if_pos h]; rfl
     ·rw[if_neg h,if_neg h];unfold aes;rw[show ws.length/4-2=i by omega,show ws.length/4-1=i+1 by omega]
  ·rintro L H5 ⟨rfl,ga5,s5⟩;unfold zdy uS uT uB uc ug;simp(disch:=omega)only[↓RD,RZ];refine⟨?_,s5⟩;rw[ga5];unfold bst;rw[if_neg (by omega)]
 ·rintro _ H5 ⟨rfl,ga5,s5⟩;have n5:=s5.next;have al:=zds ws (ws.length/4-1) (movd (arnd ws x (ws.length/4-2)));have l1:=ld16 (l:=aes ws x) al;have l2:=sp16 (l:=aes ws x) al (L:=[.int .u8 0,.int .u8 0,.int .u8 0,.int .u8 0,.int .u8 0,.int .u8 0,.int .u8 0,.int .u8 0,.int .u8 0,.int .u8 0,.int .u8 0,.int .u8 0,.int .u8 0,.int .u8 0,.int .u8 0,.int .u8 0]) rfl;have l3:=zi6 (x:=aes ws x) al;have gb6:=(s5.same b (by omega) (by omega)).trans gb4;simp(disch:=omega)only[↓RD,RZ,eq_self,seval,ga5,l1,gb6,zcR,zaz,l2,l3];exact(gA _ s5).set (by omega) _
end Go.Ax.SU
/- Su5 -/
namespace Go.Ax.SU
open Go.Ax
theorem ziH(x:Nat):1≤zdX x∧zdX x≤8:=by
 unfold zdX
 repeat' split
 all_goals omega
theorem zvS{x:Nat}(h:x<18446744073709551616):x<256 ^ zdX x:=by
 unfold zdX
 repeat' split
 all_goals omega
theorem ztH{x:Nat}(h:0<x):256 ^ (zdX x-1)≤x:=by
 unfold zdX
 repeat' split
 all_goals omega
def psz(x:Nat):Nat:=if x<8 then 0 else x-7
inductive PH
 | err (e:Nat)
 | ok (kid ctr n:Nat)
theorem zpp(x:Nat):(fld x).1<16∧psz (fld x).1=(fld x).2.length:=by
 unfold fld psz;split
 ·refine⟨by dsimp only; omega,?_⟩;dsimp only
  first|rfl|(rw[if_pos (by omega)]; rfl)
 ·have:=ziH x;refine⟨by dsimp only; omega,?_⟩;dsimp only;rw[if_neg (by omega),zd0];omega
theorem hdr_len(kid ctr:Nat):(hdr kid ctr).length=1+(fld kid).2.length+(fld ctr).2.length:=by
 unfold hdr; simp only[List.length_cons,List.length_append]; omega
theorem hdr_8(kid ctr:Nat):Ok8 (hdr kid ctr):=by
 unfold hdr;intro x hx;have h1:=(zpp kid).1;have h2:=(zpp ctr).1;have h3:∀x:Nat,Ok8 (fld x).2:=λx=>by
  unfold fld;split
  ·exact Ok8.nil
  ·exact zlh _ _
 rcases List.mem_cons.1 hx with rfl|hx
 ·omega
 ·exact(h3 kid).app (h3 ctr) x hx
theorem zwa(kid ctr:Nat):(hdr kid ctr).length≤17:=by
 have h:∀x:Nat,(fld x).2.length≤8:=λx=>by
  unfold fld;split
  ·simp
  ·dsimp only;rw[zd0]; exact(ziH x).2
 rw[hdr_len];have:=h kid; have:=h ctr;omega
end Go.Ax.SU
/- Su6 -/
namespace Go.Ax.SU
open Go.Ax
structure Ky where
 kid:Nat
 t:Nat
 ws:List (List Nat)
 auth:List Nat
 salt:List Nat
def sKey:List Nat:=[83,70,114,97,109,101,32,49,46,48,32,83,101,99,114,101,116,32,107,101,121,32]
def sSalt:List Nat:=[83,70,114,97,109,101,32,49,46,48,32,83,101,99,114,101,116,32,115,97,108,116,32]
def szs:Nat→Option (Nat×Nat)
 | 1=>some (16,10)
 | 2=>some (16,8)
 | 3=>some (16,4)
 | 16=>some (32,10)
 | _=>none
def zaR(base:List Nat):List Nat:=hmac kc [] base
def keyb(id kid n:Nat)(base:List Nat):List Nat:=((hkdf kc (zaR base) (sKey++(num kid 8++num id 2)) 2).1).take (n+32)
def saltb(id kid:Nat)(base:List Nat):List Nat:=((hkdf kc (zaR base) (sSalt++(num kid 8++num id 2)) 1).1).take 12
def drv(id kid n t:Nat)(base:List Nat):Ky :=
 ⟨kid,t,kw ((keyb id kid n base).take n) (n/4) (4*(n/4+7)),(keyb id kid n base).drop n,saltb id kid base⟩
def zdk(salt:List Nat)(c:Nat):List Nat:=(List.range 12).map λi=>(num c 12).getD i 0 ^^^ salt.getD i 0
def first(n:List Nat):List Nat:=n++List.replicate 4 0
def tagm(k:Ky)(n head m b:List Nat):List Nat:=num (head.length+m.length) 8++num b.length 8++num k.t 8++n++head++m++b
def zpX(k:Ky)(n head m b:List Nat):List Nat:=(hmac kc k.auth (tagm k n head m b)).take k.t
def zjp(k:Ky)(c:Nat)(m p:List Nat):List Nat :=
 hdr k.kid c++ctr k.ws (first (zdk k.salt c)) p++zpX k (zdk k.salt c) (hdr k.kid c) m (ctr k.ws (first (zdk k.salt c)) p)
inductive PO
 | err (e:Nat)
 | ok (p:List Nat) (c:Nat)
theorem getD_ctr {ws:List (List Nat)} {f b:List Nat} {i:Nat} (h:i<b.length):(ctr ws f b).getD i 0=b.getD i 0 ^^^ zpg ws f i:=by
 unfold ctr;rw[zef h]
theorem zsJ{a b:List Nat}(h:a.length=b.length)(g:∀i,i<a.length→a.getD i 0=b.getD i 0):a=b:=by
 refine List.ext_getElem h λi h1 h2=>?_;have:=g i h1;rw[List.getD_eq_getElem?_getD,List.getD_eq_getElem?_getD,List.getElem?_eq_getElem h1,List.getElem?_eq_getElem h2]at this;exact this
theorem ztN (ws:List (List Nat)) (f:List Nat) (hw:∀w∈ws,Word w) (i:Nat):zpg ws f i<256:=by
 unfold zpg;refine Ok8.getD ?_ _;unfold aes addk;refine Ok8.rmap λj hj=>zcJ (Ok8.getD (by unfold movd; exact Ok8.rmap λ_ _=>ztq _) j) (Ok8.getD ?_ _);rw[List.getD_eq_getElem?_getD];cases e:ws[4*(ws.length/4-1)+j/4]? with
 | none=>exact Ok8.nil
 | some w=>exact(hw w (List.mem_of_getElem? e)).2
theorem ctr_8 {ws:List (List Nat)} {f b:List Nat} (hw:∀w∈ws,Word w) (h:Ok8 b):Ok8 (ctr ws f b):=Ok8.rmap λi _=>zcJ (h.getD i) (ztN _ _ hw i)
theorem zuF{k:Ky}(ht:k.t≤32)(n head m b:List Nat):(zpX k n head m b).length=k.t:=by
 unfold zpX;rw[List.length_take,zeP];omega
theorem zuG(k:Ky)(n head m b:List Nat):Ok8 (zpX k n head m b):=Ok8.take (zmV _ _ _) _
theorem zsh{k:Ky}(ht:k.t≤32)(c:Nat)(m p:List Nat):(zjp k c m p).length=(hdr k.kid c).length+p.length+k.t:=by
 unfold zjp;rw[List.length_append,List.length_append,zrW,zuF ht]
theorem seal_8{k:Ky}(hw:∀w∈k.ws,Word w){c:Nat}{m p:List Nat}(h:Ok8 p):Ok8 (zjp k c m p):=((hdr_8 _ _).app (ctr_8 hw h)).app (zuG _ _ _ _ _)
end Go.Ax.SU
/- Su20 -/
namespace Go.Ax.SU
open Go.Ax
theorem be_more{l:List Nat}(h8:Ok8 l){i:Nat}(hi:i<l.length)(h:i<8):(be (l.take i)*256%18446744073709551616) ||| l.getD i 0=be (l.take (i+1)):=by
 have h1:=zle h8 (show i≤7 by omega);rw[take_snoc hi,zw4,Nat.mod_eq_of_lt (by omega),or256 _ _ (getD_lt h8 i)]
theorem zwb{lo:Nat}{H:Heap}{v:V}{l:List Nat}(hv:By lo H v l)(h8:Ok8 l)(hl:l.length≤8):Ok (sem T zdm [v]) H λr H'=>r = .int .u64 (be l:Nat)∧H'=H:=by
 refine znJ ?_;unfold zkn uL uc uq ug;simp(disch:=omega)only[↓RD,RZ,hv.vlen];refine zaV (λi L H'=>L=[.int .u64 (be (l.take i):Nat),.int .i64 (i:Nat)]∧H'=H) l.length ?_ ?_ ?_
 ·exact⟨rfl,rfl⟩
 ·rintro i _ H' hi ⟨rfl,rfl⟩;obtain⟨p,hp,hld,-⟩:=zpK hv (i:=(i:Nat)) (by omega) (by omega);have e1:=be_more h8 hi (by omega);have b1:=zle h8 (show i≤8 by omega);have b2:=getD_lt h8 i;simp only[Int.toNat_natCast]at hld;have e2:be (l.take i)*256%18446744073709551616<18446744073709551616:=Nat.mod_lt _ (by decide);unfold zfq uL uB uIM uc uq ug;simp(disch:=omega)only[↓RD,RZ,eq_self,seval,hp,hld,Int.toNat_natCast,e1];rfl
 ·rintro _ H' ⟨rfl,rfl⟩;unfold zfq uL uB uIM uc uq ug;simp(disch:=omega)only[↓RD,RZ,List.take_length]
def nxt8(v:Nat)(i:Nat):Nat:=v/256 ^ (7-i)%256
def nxtS(x:List Nat)(v w i:Nat):List Nat:=(List.range 16).map λj=>if j<8 then (if j<i then nxt8 v j else x.getD j 0) else (if j-8<i then nxt8 w (j-8) else x.getD j 0)
theorem zfO(x:List Nat)(v w i:Nat):(nxtS x v w i).length=16:=by simp[nxtS]
theorem zvM{x:List Nat}(h:x.length=16)(v w:Nat):nxtS x v w 0=x:=by
 refine zsJ (by rw[zfO,h]) λi hi=>?_;rw[zfO]at hi;unfold nxtS;rw[zef hi];split<;>rfl
theorem nxtS_all(x:List Nat)(v w:Nat):nxtS x v w 8=(List.range 8).map (nxt8 v)++(List.range 8).map (nxt8 w):=rfl
theorem zvN(x:List Nat)(v w:Nat){i:Nat}(h:i<8):((nxtS x v w i).set i (nxt8 v i)).set (8+i) (nxt8 w i)=nxtS x v w (i+1):=by
 refine zsJ (by simp[zfO]) λj hj=>?_;simp only[List.length_set,zfO]at hj;rw[List.getD_eq_getElem?_getD,List.getElem?_set,List.getElem?_set];unfold nxtS;rw[zef hj];simp only[List.length_set,List.length_map,List.length_range];by_cases e:8+i=j
 ·subst e;rw[if_pos rfl,if_pos hj,if_neg (by omega),if_pos (by omega),show 8+i-8=i by omega];rfl
 ·rw[if_neg e];by_cases e2:i=j
  ·subst e2;rw[if_pos rfl,if_pos hj,if_pos h,if_pos (by omega)];rfl
  ·rw[if_neg e2,List.getElem?_map,List.getElem?_range hj];show(if j<8 then _ else _) = _;by_cases k:j<8
   ·rw[if_pos k,if_pos k];by_cases k2:j<i
    ·rw[if_pos k2,if_pos (by omega)]
    ·rw[if_neg k2,if_neg (by omega)]
   ·rw[if_neg k,if_neg k];by_cases k2:j-8<i
    ·rw[if_pos k2,if_pos (by omega)]
    ·rw[if_neg k2,if_neg (by omega)]
theorem zsu{l:List Nat}{i y:Nat}(h:i<l.length):splice (l.map by8) i [by8 y]=(l.set i y).map by8:=by
 rw[zmo _ _ _ (by rw[List.length_map]; exact h),List.map_set]
theorem cint8(n:Nat):IntKind.u8.wrap (n:Int)=((n%256:Nat):Int):=by rw[wrap_u8]; rfl
theorem Next_ok{H:Heap}{x:List Nat}{n:Nat}(hx:x.length=16)(h8:Ok8 x)(hn:n<18446744073709551616) :
  Ok (sem T zdn [.agg (x.map by8),.int .u64 (n:Nat)]) H λres H'=>res = .agg ((ze7 x n).map by8)∧Grow H H':=by
 refine znK ?_;unfold zko uL uS uT uB uO uc uq ug;refine zaB (zeG (zcR _) ?_);rw[zaz];have s1:=Grow.new H ⟨zad,x.map by8,none⟩;have g1:(H.new ⟨zad,x.map by8,none⟩).get H.next=some ⟨zad,x.map by8,none⟩:=zag _ _;have n1:(H.new ⟨zad,x.map by8,none⟩).next=H.next+1:=zaf _ _;generalize ha:H.next=a at *;generalize H.new _=H1 at *;refine zaB (zeG (by rfl) ?_);have s2:=Grow.new H1 ⟨zad,[.int .u8 0,.int .u8 0,.int .u8 0,.int .u8 0,.int .u8 0,.int .u8 0,.int .u8 0,.int .u8 0,.int .u8 0,.int .u8 0,.int .u8 0,.int .u8 0,.int .u8 0,.int .u8 0,.int .u8 0,.int .u8 0],none⟩;have g2:(H1.new ⟨zad,[.int .u8 0,.int .u8 0,.int .u8 0,.int .u8 0,.int .u8 0,.int .u8 0,.int .u8 0,.int .u8 0,.int .u8 0,.int .u8 0,.int .u8 0,.int .u8 0,.int .u8 0,.int .u8 0,.int .u8 0,.int .u8 0],none⟩).get H1.next=some ⟨zad,[.int .u8 0,.int .u8 0,.int .u8 0,.int .u8 0,.int .u8 0,.int .u8 0,.int .u8 0,.int .u8 0,.int .u8 0,.int .u8 0,.int .u8 0,.int .u8 0,.int .u8 0,.int .u8 0,.int .u8 0,.int .u8 0],none⟩:=zag _ _;have n2:(H1.new ⟨zad,[.int .u8 0,.int .u8 0,.int .u8 0,.int .u8 0,.int .u8 0,.int .u8 0,.int .u8 0,.int .u8 0,.int .u8 0,.int .u8 0,.int .u8 0,.int .u8 0,.int .u8 0,.int .u8 0,.int .u8 0,.int .u8 0],none⟩).next=H1.next+1:=zaf _ _;have ga2:=(s2.same a (by omega)).trans g1;rw[zaz];generalize hb:H1.next=b at *;generalize H1.new _=H2 at *;have c1:By 0 H2 (.sl a 0 8 (.fix 16)) (x.take 8):=by
  refine⟨?_,λi hi=>?_,show(8:Nat)≤_ by decide⟩
  ·simp only[rcells,ga2,Option.bind_some];rw[if_pos (by rw[List.length_map]; omega),List.drop_zero,List.map_take,List.length_take,Nat.min_eq_left (by omega)]
  ·simp only[V.pid,Option.some.injEq]at hi; omega
 have c2:By 0 H2 (.sl a 8 8 (.fix 8)) (x.drop 8):=by
  refine⟨?_,λi hi=>?_,show(8:Nat)≤_ by decide⟩
  ·simp only[rcells,ga2,Option.bind_some];rw[if_pos (by rw[List.length_map]; omega),List.map_drop,List.length_drop,List.take_of_length_le (by rw[List.length_drop,List.length_map]; omega),show x.length-8=8 by omega]
  ·simp only[V.pid,Option.some.injEq]at hi; omega
 have d1:=@zmE _ _ _ _ (zwb c1 (h8.take 8) (by rw[List.length_take]; omega));have d2:=@zmE _ _ _ _ (zwb c2 (h8.drop 8) (by rw[List.length_drop]; omega));have v1:zaA (.arr 16) 1 (.ptr a 0) none (some (.int .i64 8)) none=some (.sl a 0 8 (.fix 16)):=rfl;have v2:zaA (.arr 16) 1 (.ptr a 0) (some (.int .i64 8)) none none=some (.sl a 8 8 (.fix 8)):=rfl;have l1:be (x.take 8)<18446744073709551616:=zle h8 (n:=8) (by omega);have l2:be (x.drop 8)<18446744073709551616:=by
  have:=be_lt _ (h8.drop 8);rw[List.length_drop,hx]at this;exact this
 simp(disch:=omega)only[↓RD,RZ,v1,v2,d1,d2];have eW:IntKind.u64.wrap ((be (x.drop 8):Nat)+(n:Nat):Int)=(((be (x.drop 8)+n)%18446744073709551616:Nat):Int):=by rw[wrap_u64]; rfl
 rw[eW];refine zam (Q:=λr H'=>r = .nrm [.int .u64 ((be (x.take 8)+(if 18446744073709551616≤be (x.drop 8)+n then 1 else 0))%18446744073709551616:Nat)]∧H'=H2) ?_ ?_
 ·refine zh1 (λh=>?_) (λh=>?_)
  ·have hh:18446744073709551616≤be (x.drop 8)+n:=by omega
   have ew:IntKind.u64.wrap ((be (x.take 8):Nat)+1:Int)=(((be (x.take 8)+1)%18446744073709551616:Nat):Int):=by rw[wrap_u64]; rfl
   rw[if_pos hh];simp(disch:=omega)only[↓RD,RZ,ew]
  ·have hh:¬18446744073709551616≤be (x.drop 8)+n:=by omega
   rw[if_neg hh,Nat.add_zero,Nat.mod_eq_of_lt l1];simp(disch:=omega)only[↓RD,RZ]
 rintro _ H2 ⟨rfl,rfl⟩;generalize hV:(be (x.take 8)+(if 18446744073709551616≤be (x.drop 8)+n then 1 else 0))%18446744073709551616=v;have v8:v<18446744073709551616:=by rw[←hV]; exact Nat.mod_lt _ (by decide)
 generalize hW:(be (x.drop 8)+n)%18446744073709551616=w at *;have w8:w<18446744073709551616:=by rw[←hW]; exact Nat.mod_lt _ (by decide)
 simp(disch:=omega)only[↓RD,RZ,eW];refine zam (Q:=λz H'=>z = .ex 0 []∧H'.get a=some ⟨zad,(ze7 x n).map by8,none⟩∧At1 a H2 H') ?_ ?_
 ·refine zaV (λi L H'=>L=[.int .i64 (i:Nat)]∧H'.get a=some ⟨zad,(nxtS x v w i).map by8,none⟩∧At1 a H2 H') 8 ?_ ?_ ?_
  ·exact⟨rfl,by rw[zvM hx]; exact ga2,At1.refl _ _⟩
  ·rintro i _ H3 hi ⟨rfl,g3,s3⟩;have e1:(8:Int)*((i:Nat):Int)=((8*i:Nat):Int):=rfl;have e2:(56:Int)-((8*i:Nat):Int)=((8*(7-i):Nat):Int):=by omega
   have e3:∀u,shr u (8*(7-i))=u/256 ^ (7-i):=λu=>by rw[zjo,Nat.shiftRight_eq_div_pow,Nat.pow_mul]
   have e4:∀u:Nat,IntKind.u8.wrap ((u/256 ^ (7-i):Nat):Int)=((nxt8 u i:Nat):Int):=λu=>cint8 _;have e5:(8:Int)+((i:Nat):Int)=((8+i:Nat):Int):=rfl;have m1:=zsu (l:=nxtS x v w i) (i:=i) (y:=nxt8 v i) (by rw[zfO]; omega);have m2:=zsu (l:=(nxtS x v w i).set i (nxt8 v i)) (i:=8+i) (y:=nxt8 w i) (by rw[List.length_set,zfO]; omega);have k1:((nxtS x v w i).map by8).length=16:=by rw[List.length_map,zfO]
   have k2:(((nxtS x v w i).set i (nxt8 v i)).map by8).length=16:=by rw[List.length_map,List.length_set,zfO]
   rw[zvN _ _ _ hi]at m2;unfold zfr uL uT uB uI uc ug;replace m1:splice ((nxtS x v w i).map by8) i [.int .u8 (nxt8 v i:Nat)] = _:=m1;replace m2:splice (((nxtS x v w i).set i (nxt8 v i)).map by8) (8+i) [.int .u8 (nxt8 w i:Nat)] = _:=m2;simp(disch:=omega)only[↓RD,RZ,e1,e2,e3,e4,e5,g3,m1,m2,k1,k2];exact⟨by omega,by omega,rfl,s3.trans ((At1.set a _ _).trans (At1.set a _ _))⟩
  ·rintro _ H3 ⟨rfl,g3,s3⟩;unfold zfr uL uT uB uI uc ug;simp(disch:=omega)only[↓RD,RZ];refine⟨?_,s3⟩;rw[g3,nxtS_all];unfold ze7;rw[hV,hW];rfl
 ·rintro _ H3 ⟨rfl,g3,s3⟩;have n3:=s3.next;have gb3:=(s3.same b (by omega) (by omega)).trans g2;have hl:(ze7 x n).length=16:=by simp[ze7]
  have l1:=ld16 hl;have l2:=sp16 hl (L:=[.int .u8 0,.int .u8 0,.int .u8 0,.int .u8 0,.int .u8 0,.int .u8 0,.int .u8 0,.int .u8 0,.int .u8 0,.int .u8 0,.int .u8 0,.int .u8 0,.int .u8 0,.int .u8 0,.int .u8 0,.int .u8 0]) rfl;have l3:=zi6 hl;simp(disch:=omega)only[↓RD,RZ,eq_self,seval,g3,l1,gb3,zcR,zaz,l2,l3];exact⟨by rw[zan]; omega,λi hi=>by rw[zaj _ _ (by omega),s3.same i (by omega) (by omega),s2.same i (by omega),s1.same i (by omega)]⟩
theorem zvQ(x:List Nat)(n:Nat):(ze7 x n).length=16:=by simp[ze7]
theorem nextb_8(x:List Nat)(n:Nat):Ok8 (ze7 x n):=(Ok8.rmap λi _=>Nat.mod_lt _ (by decide)).app (Ok8.rmap λi _=>Nat.mod_lt _ (by decide))
theorem zr6 (ws:List (List Nat)) (x:List Nat):(aes ws x).length=16:=zds _ _ _
theorem aes_8 {ws:List (List Nat)} (hw:∀w∈ws,Word w) (x:List Nat):Ok8 (aes ws x):=zsY hw (zon _)
theorem zpd{α:Type}{c:V}{x y:M α}{H:Heap}{Q:α→Heap→Prop}:@OkI α c H ⟨x⟩ ⟨y⟩ ⟨Q⟩=Ok (M.ite c x y) H Q:=rfl
theorem zqT{H:Heap}{k n:Nat} {ws:List (List Nat)} {f:List Nat} {F:V→M Res} {Q:Res→Heap→Prop} (hA:Aes H k ws) (hf:f.length=16) (f8:Ok8 f) (hwl:ws.length≤1000) (hw4:ws.length%4=0) (hw8:8≤ws.length) (hn:n<18446744073709551616)
  (h:∀H',Grow H H'→Ok (F (.agg ((aes ws (ze7 f n)).map by8))) H' Q):Ok ((sem T zdn [.agg (f.map by8),.int .u64 (n:Nat)]).bind λt43=>(sem T zcc [.ptr k 0,t43]).bind F) H Q:=by
 refine zae (Next_ok hf f8 hn) ?_;rintro _ H1 ⟨rfl,s1⟩;refine zae (Block_ok (hA.grow s1) (zvQ _ _) (nextb_8 _ _) hwl hw4 hw8) ?_;rintro _ H2 ⟨rfl,s2⟩;exact h _ (s1.trans s2)
def Fx(o:Option Nat)(lo:Nat)(H:Heap)(v:V)(l:List Nat):Prop:=∃id,v = .sl id 0 l.length (.fix l.length)∧H.get id=some ⟨zaa,l.map by8,o⟩∧lo≤id∧id<H.next
theorem Fx.low{o:Option Nat}{lo lo':Nat}{H:Heap}{v:V}{l:List Nat}(h:Fx o lo H v l)(hl:lo'≤lo):Fx o lo' H v l:=by
 obtain⟨id,h1,h2,h3,h4⟩:=h;exact⟨id,h1,h2,Nat.le_trans hl h3,h4⟩
theorem Fx.by{o:Option Nat}{lo:Nat}{H:Heap}{v:V}{l:List Nat}(h:Fx o lo H v l):By lo H v l:=by
 obtain⟨id,rfl,h2,h3,h4⟩:=h;refine⟨?_,λi hi=>by injection hi with hi; subst hi; exact⟨h3,h4⟩,Nat.le_refl _⟩;simp only[rcells,h2,Option.bind_some];rw[if_pos (by rw[List.length_map]; omega),List.drop_zero,List.take_of_length_le (by rw[List.length_map]; omega)]
theorem Crypt_x{lo:Nat}{H:Heap}{k:Nat} {ws:List (List Nat)} {bv:V} {f l:List Nat} (hA:Aes H k ws) (hf:f.length=16) (f8:Ok8 f) (hv:By lo H bv l) (h8:Ok8 l) (hwl:ws.length≤1000) (hw4:ws.length%4=0) (hw8:8≤ws.length) (hl:l.length≤1099511627776) :
  Ok (sem T zdK [.ptr k 0,.agg (f.map by8),.int .i64 0,bv]) H λres H'=>∃r,res = .tup [r,.int .i64 0]∧Fx none H.next H' r (ctr ws f l)∧Grow H H':=by
 have hw:∀w∈ws,Word w:=by obtain⟨_,_,_,_,_,hw⟩:=hA; exact hw
 have cl:=zrW ws f l;refine zmI ?_;unfold zjb uL uB uG uH uO uc;refine zaB (zeG (zcR _) ?_);rw[zaz];have s1:=Grow.new H ⟨zad,f.map by8,none⟩;have g1:(H.new ⟨zad,f.map by8,none⟩).get H.next=some ⟨zad,f.map by8,none⟩:=zag _ _;have n1:(H.new ⟨zad,f.map by8,none⟩).next=H.next+1:=zaf _ _;generalize ha:H.next=a at *;generalize H.new _=H1 at *;simp(maxSteps:=1000000) (disch:=first|omega|(simp only[RY]<;>omega)|decide)only[↓RD,RZ,eq_self,Int.reduceToNat,Int.reduceAdd,Int.reduceSub,Int.reduceMul,Nat.reduceAdd,Nat.reduceSub,Nat.reduceMul,Nat.reduceDiv,Nat.reduceMod,Nat.reduceBEq,Nat.reduceLeDiff,hv.vlen];refine⟨⟨by omega,by omega,by omega,by omega⟩,?_⟩;rw[zur,Int.toNat_natCast];have s2:=Grow.new H1 ⟨zaa,List.replicate l.length (.int .u8 0),none⟩;have g2:(H1.new ⟨zaa,List.replicate l.length (.int .u8 0),none⟩).get H1.next=some ⟨zaa,List.replicate l.length (.int .u8 0),none⟩:=zag _ _;have n2:(H1.new ⟨zaa,List.replicate l.length (.int .u8 0),none⟩).next=H1.next+1:=zaf _ _;have ga2:=(s2.same a (by omega)).trans g1;generalize hb:H1.next=b at *;generalize H1.new _=H2 at *;generalize hc:b+1=c at *;have s3:=Grow.new H2 ⟨zad,[.int .u8 0,.int .u8 0,.int .u8 0,.int .u8 0,.int .u8 0,.int .u8 0,.int .u8 0,.int .u8 0,.int .u8 0,.int .u8 0,.int .u8 0,.int .u8 0,.int .u8 0,.int .u8 0,.int .u8 0,.int .u8 0],none⟩;have g3:(H2.new ⟨zad,[.int .u8 0,.int .u8 0,.int .u8 0,.int .u8 0,.int .u8 0,.int .u8 0,.int .u8 0,.int .u8 0,.int .u8 0,.int .u8 0,.int .u8 0,.int .u8 0,.int .u8 0,.int .u8 0,.int .u8 0,.int .u8 0],none⟩).get H2.next=some ⟨zad,(List.replicate 16 0).map by8,none⟩:=zag _ _;have n3:(H2.new ⟨zad,[.int .u8 0,.int .u8 0,.int .u8 0,.int .u8 0,.int .u8 0,.int .u8 0,.int .u8 0,.int .u8 0,.int .u8 0,.int .u8 0,.int .u8 0,.int .u8 0,.int .u8 0,.int .u8 0,.int .u8 0,.int .u8 0],none⟩).next=H2.next+1:=zaf _ _;have ga3:=(s3.same a (by omega)).trans ga2;have gb3:=(s3.same b (by omega)).trans g2;rw[n2]at g3 n3;generalize H2.new _=H3 at *;have s03:Grow H H3:=(s1.trans s2).trans s3;have hv3:=hv.ext s03;refine zam (Q:=λz H'=>z = .ex 0 []∧H'.get b=some ⟨zaa,(ctr ws f l).map by8,none⟩∧Grow H H'∧c<H'.next) ?_ ?_
 ·refine zaV (λi L H'=>L=[.int .i64 (i:Nat)]∧H'.get a=some ⟨zad,f.map by8,none⟩∧H'.get b=some ⟨zaa,((ctr ws f l).take i).map by8++List.replicate (l.length-i) (.int .u8 0),none⟩∧H'.get c=some ⟨zad,(if i=0 then List.replicate 16 0 else aes ws (ze7 f ((i-1)/16))).map by8,none⟩∧Grow H H'∧c<H'.next) l.length ?_ ?_ ?_
  ·exact⟨rfl,ga3,by simpa using gb3,g3,s03,by omega⟩
  ·rintro i _ H4 hi ⟨rfl,ga4,gb4,gc4,s4,n4⟩;have hv4:=hv.ext s4;generalize hy:(if i=0 then List.replicate 16 0 else aes ws (ze7 f ((i-1)/16)))=y at *;have yl:y.length=16:=by rw[←hy]; split; exact List.length_replicate ..; exact zr6 _ _
   have e1:(((i:Nat):Int)%16==0)=decide (i%16=0):=by
    by_cases h:i%16=0
    ·rw[decide_eq_true h,show((i:Nat):Int)%16=0 by omega]; rfl
    ·rw[decide_eq_false h];have:¬((i:Nat):Int)%16=0:=by omega
     simpa using this
   have e2:(((i:Nat):Int)==0)=decide (i=0):=by
    by_cases h:i=0
    ·rw[decide_eq_true h,h]; rfl
    ·rw[decide_eq_false h];have:¬((i:Nat):Int)=0:=by omega
     simpa using this
   have l1:=ld16 hf;unfold zex uL uS uT uB uI uIM uG uH uc ug;simp(maxSteps:=1000000) (disch:=first|omega|(simp only[RY]<;>omega)|decide)only[↓RD,RZ,eq_self,Int.reduceToNat,Int.reduceAdd,Int.reduceSub,Int.reduceMul,Nat.reduceAdd,Nat.reduceSub,Nat.reduceMul,Nat.reduceDiv,Nat.reduceMod,Nat.reduceBEq,Nat.reduceLeDiff,e1,e2,Int.zero_add];rw[zaT];refine zam (α:=Res) (Q:=λr H'=>r = .nrm []∧∃H5,Grow H H5∧c<H5.next∧H5.get a=H4.get a∧H5.get b=H4.get b∧H5.get c=some ⟨zad,(aes ws (ze7 f (i/16))).map by8,none⟩∧H'=H5.set b (some ⟨zaa,((ctr ws f l).take (i+1)).map by8++List.replicate (l.length-(i+1)) (.int .u8 0),none⟩)) ?_ ?_
   ·have rest:∀H5,Grow H H5→c<H5.next→H5.get a=H4.get a→H5.get b=H4.get b→H5.get c=some ⟨zad,(aes ws (ze7 f (i/16))).map by8,none⟩ →
      Ok ((M.lift (Ax.iaddr none 1 bv (.int .i64 (i:Nat)))).bind λt49 =>
       (mload none t49).bind λt50 =>
       (M.lift (Ax.bin .add (.int .i64 0) (.int .i64 (i:Nat)))).bind λt53 =>
       (M.lift (Ax.bin .rem t53 (V.int .i64 16))).bind λt54 =>
       (M.lift (Ax.iaddr (some 16) 1 (.ptr c 0) t54)).bind λt55 =>
       (mload none t55).bind λt56 =>
       (M.lift (Ax.bin .xor t50 t56)).bind λt57 =>
       (M.lift (Ax.iaddr none 1 (.sl b 0 l.length (.fix l.length)) (.int .i64 (i:Nat)))).bind λt58 =>
       (mstore 1 t58 t57).bind λ_ =>
       M.pure (Res.nrm [])) H5 λr H'=>r=Res.nrm []∧H'=H5.set b (some ⟨zaa,((ctr ws f l).take (i+1)).map by8++List.replicate (l.length-(i+1)) (.int .u8 0),none⟩):=by
     intro H5 g5 m5 a5 b5 c5;have hv5:=hv.ext g5;obtain⟨p,hp,hld,-⟩:=zpK hv5 (i:=(i:Nat)) (by omega) (by omega);simp only[Int.toNat_natCast]at hld;rw[gb4]at b5;have q1:=getD_lt h8 i;have hk:=aes_8 hw (ze7 f (i/16));have hkl:=zr6 ws (ze7 f (i/16));have q2:=bg (l:=aes ws (ze7 f (i/16))) (i:=i%16) (by omega);have q3:=zpN q1 (hk.getD (i%16));have q4:l.getD i 0 ^^^ (aes ws (ze7 f (i/16))).getD (i%16) 0=(ctr ws f l).getD i 0:=(getD_ctr hi).symm;rw[q4]at q3;have hl0:(((ctr ws f l).take i).map by8).length=i:=by rw[List.length_map,List.length_take]; omega
     have x0:=zbP (z:=.int .u8 0) (x:=by8 ((ctr ws f l).getD i 0)) hl0 hi;have ml:(((ctr ws f l).take i).map by8++List.replicate (l.length-i) (V.int .u8 0)).length=l.length:=by rw[List.length_append,hl0,List.length_replicate]; omega
     have ei:((i:Nat):Int)%16=((i%16:Nat):Int):=by omega
     have em:=Nat.mod_lt i (show 0<16 by decide);have et:((ctr ws f l).take i).map by8++[by8 ((ctr ws f l).getD i 0)]=((ctr ws f l).take (i+1)).map by8:=by rw[take_snoc (by omega)]; simp
     rw[et]at x0;replace q3:Ax.bin .xor (.int .u8 (l.getD i 0:Nat)) (by8 ((aes ws (ze7 f (i/16))).getD (i%16) 0)) = _:=q3;simp(maxSteps:=1000000) (disch:=first|omega|(simp only[RY]<;>omega)|decide)only[↓RD,RZ,eq_self,Int.reduceToNat,Int.reduceAdd,Int.reduceSub,Int.reduceMul,Nat.reduceAdd,Nat.reduceSub,Nat.reduceMul,Nat.reduceDiv,Nat.reduceMod,Nat.reduceBEq,Nat.reduceLeDiff,hp,hld,Int.zero_add,ei,c5,q2,q3,b5,x0,ml,zgL,zcr];omega
    have ln:=zr6 ws (ze7 f (i/16));have l2:=ld16 ln;have l3:=sp16 ln (L:=y.map by8) (by rw[List.length_map,yl]);have l4:=zi6 ln;have e4:((i:Nat):Int)/16=((i/16:Nat):Int):=by omega
    have l5:(y.map by8).length=16:=by rw[List.length_map,yl]
    by_cases h0:i=0
    ·have e3:decide (i=0)=true:=decide_eq_true h0;simp(maxSteps:=1000000) (disch:=first|omega|(simp only[RY]<;>omega)|decide)only[↓RD,RZ,eq_self,Int.reduceToNat,Int.reduceAdd,Int.reduceSub,Int.reduceMul,Nat.reduceAdd,Nat.reduceSub,Nat.reduceMul,Nat.reduceDiv,Nat.reduceMod,Nat.reduceBEq,Nat.reduceLeDiff,e1,e2,e3,Int.zero_add,ga4,l1,e4];rw[zaT];refine zqT (hA.grow s4) hf f8 hwl hw4 hw8 (by omega) λH5 s5=>?_;have n5:=s5.next;have ga5:=s5.same a (by omega);have gb5:=s5.same b (by omega);have gc5:=(s5.same c (by omega)).trans gc4;simp(maxSteps:=1000000) (disch:=first|omega|(simp only[RY]<;>omega)|decide)only[↓RD,RZ,eq_self,Int.reduceToNat,Int.reduceAdd,Int.reduceSub,Int.reduceMul,Nat.reduceAdd,Nat.reduceSub,Nat.reduceMul,Nat.reduceDiv,Nat.reduceMod,Nat.reduceBEq,Nat.reduceLeDiff,gc5,zcR,zaz,l3,l4,l5];rw[zaT];refine zam (rest (H5.set c (some ⟨zad,(aes ws (ze7 f (i/16))).map by8,none⟩)) ((s4.trans s5).set (by omega) _) (by rw[zan]; omega) (by rw[zaj _ _ (by omega)]; exact ga5) (by rw[zaj _ _ (by omega)]; exact gb5) (zai _ _ _)) ?_;rintro _ _ ⟨rfl,rfl⟩;exact⟨rfl,_,(s4.trans s5).set (by omega) _,by rw[zan]; omega,by rw[zaj _ _ (by omega)]; exact ga5,by rw[zaj _ _ (by omega)]; exact gb5,zai _ _ _,rfl⟩
    ·have e3:decide (i=0)=false:=decide_eq_false h0;simp(maxSteps:=1000000) (disch:=first|omega|(simp only[RY]<;>omega)|decide)only[↓RD,RZ,eq_self,Int.reduceToNat,Int.reduceAdd,Int.reduceSub,Int.reduceMul,Nat.reduceAdd,Nat.reduceSub,Nat.reduceMul,Nat.reduceDiv,Nat.reduceMod,Nat.reduceBEq,Nat.reduceLeDiff,e1,e2,e3,Int.zero_add];rw[zpd];refine zh1 (λh=>?_) (λh=>?_)
     ·simp(maxSteps:=1000000) (disch:=first|omega|(simp only[RY]<;>omega)|decide)only[↓RD,RZ,eq_self,Int.reduceToNat,Int.reduceAdd,Int.reduceSub,Int.reduceMul,Nat.reduceAdd,Nat.reduceSub,Nat.reduceMul,Nat.reduceDiv,Nat.reduceMod,Nat.reduceBEq,Nat.reduceLeDiff,ga4,l1,e4,Int.zero_add];rw[zaT];refine zqT (hA.grow s4) hf f8 hwl hw4 hw8 (by omega) λH5 s5=>?_;have n5:=s5.next;have ga5:=s5.same a (by omega);have gb5:=s5.same b (by omega);have gc5:=(s5.same c (by omega)).trans gc4;simp(maxSteps:=1000000) (disch:=first|omega|(simp only[RY]<;>omega)|decide)only[↓RD,RZ,eq_self,Int.reduceToNat,Int.reduceAdd,Int.reduceSub,Int.reduceMul,Nat.reduceAdd,Nat.reduceSub,Nat.reduceMul,Nat.reduceDiv,Nat.reduceMod,Nat.reduceBEq,Nat.reduceLeDiff,gc5,zcR,zaz,l3,l4,l5];rw[zaT];refine zam (rest (H5.set c (some ⟨zad,(aes ws (ze7 f (i/16))).map by8,none⟩)) ((s4.trans s5).set (by omega) _) (by rw[zan]; omega) (by rw[zaj _ _ (by omega)]; exact ga5) (by rw[zaj _ _ (by omega)]; exact gb5) (zai _ _ _)) ?_;rintro _ _ ⟨rfl,rfl⟩;exact⟨rfl,_,(s4.trans s5).set (by omega) _,by rw[zan]; omega,by rw[zaj _ _ (by omega)]; exact ga5,by rw[zaj _ _ (by omega)]; exact gb5,zai _ _ _,rfl⟩
     ·have ey:y=aes ws (ze7 f (i/16)):=by rw[←hy,if_neg h0,show(i-1)/16=i/16 by omega]
      rw[ey]at gc4;simp(maxSteps:=1000000) (disch:=first|omega|(simp only[RY]<;>omega)|decide)only[↓RD,RZ,eq_self,Int.reduceToNat,Int.reduceAdd,Int.reduceSub,Int.reduceMul,Nat.reduceAdd,Nat.reduceSub,Nat.reduceMul,Nat.reduceDiv,Nat.reduceMod,Nat.reduceBEq,Nat.reduceLeDiff];rw[zaT];refine zam (rest H4 s4 n4 rfl rfl gc4) ?_;rintro _ _ ⟨rfl,rfl⟩;exact⟨rfl,_,s4,n4,rfl,rfl,gc4,rfl⟩
   ·rintro _ _ ⟨rfl,H5,s5,n5,ga5,gb5,gc5,rfl⟩;simp(maxSteps:=1000000) (disch:=first|omega|(simp only[RY]<;>omega)|decide)only[↓RD,RZ,eq_self,Int.reduceToNat,Int.reduceAdd,Int.reduceSub,Int.reduceMul,Nat.reduceAdd,Nat.reduceSub,Nat.reduceMul,Nat.reduceDiv,Nat.reduceMod,Nat.reduceBEq,Nat.reduceLeDiff];refine⟨rfl,ga5.trans ga4,?_,s5.set (by omega) _,n5⟩;rw[gc5,if_neg (by omega),show i+1-1=i by omega]
  ·rintro _ H4 ⟨rfl,ga4,gb4,gc4,s4,n4⟩;unfold zex uL uS uT uB uI uIM uG uH uc ug;simp(maxSteps:=1000000) (disch:=first|omega|(simp only[RY]<;>omega)|decide)only[↓RD,RZ,eq_self,Int.reduceToNat,Int.reduceAdd,Int.reduceSub,Int.reduceMul,Nat.reduceAdd,Nat.reduceSub,Nat.reduceMul,Nat.reduceDiv,Nat.reduceMod,Nat.reduceBEq,Nat.reduceLeDiff];refine⟨?_,s4,n4⟩;rw[gb4,List.take_of_length_le (by omega)]; simp
 ·rintro _ H4 ⟨rfl,gb4,s4,n4⟩;simp(maxSteps:=1000000) (disch:=first|omega|(simp only[RY]<;>omega)|decide)only[↓RD,RZ,eq_self,Int.reduceToNat,Int.reduceAdd,Int.reduceSub,Int.reduceMul,Nat.reduceAdd,Nat.reduceSub,Nat.reduceMul,Nat.reduceDiv,Nat.reduceMod,Nat.reduceBEq,Nat.reduceLeDiff];refine⟨_,rfl,⟨b,?_,gb4,by omega,by omega⟩,s4⟩;rw[cl]
end Go.Ax.SU
/- Su21 -/
namespace Go.Ax.SU
open Go.Ax
theorem App.same{ty e lo n:Nat}{H H':Heap}{v:V}{cells:List V}(h:App ty e lo H v cells n)(hn:H.next≤H'.next)(hs:∀i,v.pid=some i→H'.get i=H.get i):App ty e lo H' v cells n:=by
 cases h with
 | opn h ho=>exact .opn (h.to hs) λi hi=>⟨(ho i hi).1,Nat.lt_of_lt_of_le (ho i hi).2 hn⟩
 | lit h h0 h1=>exact .lit (by rw[hs _ rfl,h]) h0 (Nat.lt_of_lt_of_le h1 hn)
def Kst(H:Heap)(k:Nat)(w:V) (ws:List (List Nat)):Prop:=H.get k=some ⟨zaY,tabC true++[w],none⟩∧App zav 4 (k+1) H w (ws.flatten.map by8) ws.length∧k<H.next
theorem zuU(wv x:V):splice (tabC true++[wv]) 259 [x]=tabC true++[x]:=by
 have e:(tabC true).length=259:=by unfold tabC; simp only[List.length_cons,List.length_map,zjS]
 unfold splice;rw[List.take_append_of_le_length (by omega),List.take_of_length_le (by omega),List.drop_of_length_le (by rw[List.length_append,e]; exact Nat.le_refl _),List.append_nil]
theorem len260(wv:V):(tabC true++[wv]).length=260:=by
 have e:(tabC true).length=259:=by unfold tabC; simp only[List.length_cons,List.length_map,zjS]
 rw[List.length_append,e]; rfl
theorem _root_.Go.Ax.Lc.same{e lo n:Nat}{H H':Heap}{v:V}{cells:List V}(h:Lc e lo H v cells n)(hn:H.next≤H'.next)(hs:∀i,v.pid=some i→H'.get i=H.get i):Lc e lo H' v cells n :=
 ⟨by rw[ze4 hs]; exact h.rc,λi hi=>⟨(h.own i hi).1,Nat.lt_of_lt_of_le (h.own i hi).2 hn⟩,h.cap⟩
theorem Kst.expl{H:Heap}{k:Nat}{w:V} {ws:List (List Nat)} (h:Kst H k w ws) (h0:0<ws.length):∃id,w = .sl id 0 ws.length (.opn 4)∧H.get id=some ⟨zav,ws.flatten.map by8,some 4⟩∧k<id∧id<H.next:=by
 obtain⟨h1,h2,h3⟩:=h;cases hn:ws.length with
 | zero=>omega
 | succ n =>
  rw[hn]at h2;generalize ws.flatten.map by8=cs at *;cases h2 with
  | opn h ho =>
   rcases h with⟨_,_,h⟩|⟨id,rfl,hg,hl⟩
   ·omega
   ·exact⟨id,rfl,hg,(ho id rfl).1,(ho id rfl).2⟩
theorem kpush{H:Heap}{k:Nat}{w:V} {ws:List (List Nat)} {a b c d:Nat} {F:V→M Res} {Q:Res→Heap→Prop} (hk:Kst H k w ws) (hl:ws.length≤1000)
  (h:∀w' H',Kst H' k w' (ws++[[a,b,c,d]])→Bel k H H'→Ok (F .undef) H' Q) :
  Ok ((mappend zav 4 4 w (.sl H.next 0 1 (.fix 1))).bind λt45 =>
   (M.lift (Ax.nilck (.ptr k 0))).bind λt46 =>
   (M.lift (Ax.faddr 259 t46)).bind λt47 =>
   (mstore 1 t47 t45).bind F) (H.new ⟨zav,[by8 a,by8 b,by8 c,by8 d],none⟩) Q:=by
 obtain⟨h1,h2,h3⟩:=hk;have s1:=Grow.new H ⟨zav,[by8 a,by8 b,by8 c,by8 d],none⟩;have n1:(H.new ⟨zav,[by8 a,by8 b,by8 c,by8 d],none⟩).next=H.next+1:=zaf _ _;have g1:=(s1.same k h3).trans h1;have ac:acells 4 (H.new ⟨zav,[by8 a,by8 b,by8 c,by8 d],none⟩) (.sl H.next 0 1 (.fix 1))=some ([by8 a,by8 b,by8 c,by8 d],1):=zc5 rfl;have h2':App zav 4 (k+1) (H.new ⟨zav,[by8 a,by8 b,by8 c,by8 d],none⟩) w (ws.flatten.map by8) ws.length:=App.keep h2 (s1.keep _);generalize hid:H.next=id at *;generalize H.new _=H1 at *;refine zo7 h2' (by omega) ac rfl (by omega) (by omega) λw' H2 a2 st=>?_;have n2:=st.next;have hpw:∀i,i∈w.pid.toList→k+1≤i:=λi hi=>(h2'.lc.own i (by simpa [zcK]using hi)).1;have b2:Bel (k+1) H1 H2:=⟨st.next,λi hi=>by
  by_cases hin:i<H1.next
  ·exact st.same i hin λe=>by have:=hpw i e; omega
  ·omega⟩
 have g2:H2.get k = _:=(b2.same k (by omega)).trans g1;have sp:=zuU w w';have ln:=len260 w;simp(disch:=omega)only[↓RD,RZ,eq_self,seval,g2,sp,ln,a2.lc.cells1,a2.lc.okc];refine h w' _ ⟨zai _ _ _,?_,by rw[zan]; omega⟩ ⟨by rw[zan]; omega,λi hi=>?_⟩
 ·have:(ws++[[a,b,c,d]]).flatten.map by8=ws.flatten.map by8++[by8 a,by8 b,by8 c,by8 d]:=by simp
  rw[this,List.length_append];refine App.same a2 (by rw[zan]; exact Nat.le_refl _) λi hi=>zaj _ _ ?_;have:=(a2.lc.own i hi).1;omega
 ·rw[zaj _ _ (by omega),b2.same i (by omega),s1.same i (by omega)]
theorem s2a_ok{lo:Nat}{H:Heap}{v:V}{l:List Nat}(hv:By lo H v l)(hl:4≤l.length):∃p,op1 (.s2a 4) v=some p∧LdR (some 4) H p (.agg ((l.take 4).map by8)):=by
 have hlen:=hv.len;rw[List.length_map,Nat.mul_one]at hlen;rcases hv.cases with⟨_,_,hn⟩|⟨id,off,cap,b,rfl,hb,hle,hc⟩|⟨cs,rfl,hle,hc⟩
 ·omega
 ·refine⟨.ptr id off,by simp only[op1]; rw[if_pos ⟨hl,by decide⟩],?_⟩;have h1:=(pl_ptr (H:=H) (off:=off) (m:=4) hb (by omega)).all;have e:(b.cells.drop off).take 4=(l.take 4).map by8:=by
   rw[List.map_take,hc,List.take_take,Nat.mul_one,Nat.min_eq_left hl]
  rw[e,List.length_map,List.length_take,Nat.min_eq_left hl]at h1;exact h1
 ·refine⟨.rp cs 0,by simp only[op1]; rw[if_pos ⟨hl,by decide⟩],?_⟩;have h1:=(pl_rp (H:=H) (cs:=cs) (off:=0) (m:=4) (by omega)).all;have e:(cs.drop 0).take 4=(l.take 4).map by8:=by
   rw[List.map_take,hc,List.take_take,List.drop_zero,Nat.mul_one,Nat.min_eq_left hl]
  rw[e,List.length_map,List.length_take,Nat.min_eq_left hl]at h1;exact h1
theorem four{l:List Nat}(h:l.length=4):∃a b c d,l=[a,b,c,d]:=by
 match l,h with
 | [a,b,c,d],_=>exact⟨a,b,c,d,rfl⟩
def xw(s p:List Nat):List Nat:=(List.range 4).map λj=>s.getD j 0 ^^^ p.getD j 0
theorem zsa(s p:List Nat):(xw s p).length=4:=by simp[xw]
theorem zv2(b:List Nat)(n i:Nat):kw b n (i+1)=kw b n i++[if i<n then (b.drop (4*i)).take 4 else xw (znV n i ((kw b n i).getD (i-1) [])) ((kw b n i).getD (i-n) [])]:=rfl
theorem New_1_ok{H:Heap}{k q id i j:Nat} {ws:List (List Nat)} {s:List Nat} {u2 u3 u8:V} (hw:∀w∈ws,Word w) (hs:Word s) (hgk:H.get k=some ⟨zaY,tabC true++[.sl id 0 ws.length (.opn 4)],none⟩) (hgi:H.get id=some ⟨zav,ws.flatten.map by8,some 4⟩)
  (hq:H.get q=some ⟨zav,s.map by8,none⟩) (hqk:q≠k) (hqi:q≠id) (hkl:k<H.next) (hil:id<H.next) (hj:j≤i) (hi:i≤ws.length) (hj0:0<j) (hwl:ws.length≤1000) :
  Ok (M.iter (zeZ (sem T) (.ptr k 0) (.int .i64 (i:Nat)) (.int .i64 (j:Nat)) (.ptr q 0) u2 u3 u8) [.int .i64 0]) H λz H'=>z = .ex 5 []∧H'.get q=some ⟨zav,(xw s (ws.getD (i-j) [])).map by8,none⟩∧At1 q H H':=by
 refine zaV (λm L H'=>L=[.int .i64 (m:Nat)]∧H'.get q=some ⟨zav,((xw s (ws.getD (i-j) [])).take m++s.drop m).map by8,none⟩∧At1 q H H') 4 ?_ ?_ ?_
 ·exact⟨rfl,by simpa using hq,At1.refl _ _⟩
 ·rintro m _ H3 hm ⟨rfl,g3,s3⟩;have sl:=hs.1;have gk3:=(s3.same k hkl (by omega)).trans hgk;have gi3:=(s3.same id hil (by omega)).trans hgi;have hA':(((xw s (ws.getD (i-j) [])).take m).map by8).length=m:=by rw[List.length_map,List.length_take,zsa]; omega
  rw[zuA (by omega)]at g3;have m1:=zpf (b:=by8 (s.getD m 0)) (C:=(s.drop (m+1)).map by8) hA';have m2:=zpe (b:=by8 (s.getD m 0)) (y:=by8 ((xw s (ws.getD (i-j) [])).getD m 0)) (C:=(s.drop (m+1)).map by8) hA';have ml:(((xw s (ws.getD (i-j) [])).take m).map by8++by8 (s.getD m 0)::(s.drop (m+1)).map by8).length=4:=by rw[List.length_append,hA',List.length_cons,List.length_map,List.length_drop]; omega
  have ek:=zqz (.sl id 0 ws.length (.opn 4));have e1:((i:Nat):Int)-((j:Nat):Int)=((i-j:Nat):Int):=by omega
  have wb:=zpR hw (j:=i-j) (m:=m) (by omega) hm;have ex:=zpN (hs.2.getD m) (zuu hw (i-j) m);have ea:s.getD m 0 ^^^ (ws.getD (i-j) []).getD m 0=(xw s (ws.getD (i-j) [])).getD m 0:=by unfold xw; rw[zef hm]
  rw[ea]at ex;unfold zeZ uT uNFM uB uI uIM uc ug;simp(disch:=omega)only[↓RD,RZ,g3,m1,gk3,ek,e1,gi3,wb,ex,m2,ml,zgL,zcr];refine⟨by omega,rfl,?_,s3.trans (At1.set q _ _)⟩;rw[zre (by rw[zsa]; omega)]
 ·rintro _ H3 ⟨rfl,g3,s3⟩;have sl:=hs.1;unfold zeZ uT uNFM uB uI uIM uc ug;simp(disch:=omega)only[↓RD,RZ];refine⟨?_,s3⟩;rw[g3,List.take_of_length_le (by rw[zsa]; omega),List.drop_of_length_le (by omega),List.append_nil]
theorem New_rest{lo:Nat}{H:Heap}{k n:Nat}{v:V}{l:List Nat}(hv:By lo H v l)(h8:Ok8 l)(hn:n=4∨n=8)(hl:l.length=4*n)(hvk:∀i,v.pid=some i→i<k) (hk:H.get k=some ⟨zaY,tabC true++[.nils],none⟩) (hkl:k<H.next) :
  Ok (M.blk 0 (M.iter (zdU (sem T) (.int .i64 (n:Nat)) (.ptr k 0) v .nilp (.int .i64 0)) [.int .i64 0]) λ_ =>
   M.blk 2 (M.iter (zdT (sem T) (.ptr k 3) (.int .i64 (n:Nat)) (.ptr k 0) .nilp (.int .i64 0)) [.int .u8 1,.int .i64 (n:Nat)]) λ_ =>
   M.pure (.ret [.ptr k 0,.int .i64 0])) H λr H'=>r = .ret [.ptr k 0,.int .i64 0]∧AesB k H' k (kw l n (4*(n+7)))∧Bel k H H':=by
 have hn0:0<n:=by omega
 have hwd:∀i,∀w∈kw l n i,Word w:=λi=>zv1 hn0 h8 hl i;simp(disch:=omega)only[↓RD,RZ];refine zam (Q:=λz H'=>z = .ex 0 []∧∃w,Kst H' k w (kw l n n)∧Bel k H H') ?_ ?_
 ·refine zaV (λi L H'=>L=[.int .i64 (i:Nat)]∧∃w,Kst H' k w (kw l n i)∧Bel k H H') n ?_ ?_ ?_
  ·exact⟨rfl,.nils,⟨hk,App.nil,hkl⟩,Bel.refl _ _⟩
  ·rintro i _ H1 hi ⟨rfl,w,hw,b1⟩;have hv1:By lo H1 v l:=hv.same b1.next λj hj=>b1.same j (hvk j hj);obtain⟨v',-,-,hs,hv',-⟩:=zdd hv1 (x:=((4*i:Nat):Int)) (y:=(l.length:Nat)) (by omega) (by omega) (by omega);have hs:=hs rfl (k:=.i64);rw[Int.toNat_natCast,Int.toNat_natCast,List.take_of_length_le (by rw[List.length_drop]; omega)]at hv';obtain⟨p,hp,hld⟩:=s2a_ok hv' (by rw[List.length_drop]; omega);obtain⟨a,b,c,d,e4⟩:=four (l:=(l.drop (4*i)).take 4) (by rw[List.length_take,List.length_drop]; omega);rw[e4]at hld;replace hld:LdR (some 4) H1 p (.agg [by8 a,by8 b,by8 c,by8 d]):=hld;have e1:(4:Int)*((i:Nat):Int)=((4*i:Nat):Int):=rfl;have ek:=zqz w;have g1:=hw.1;unfold zdU uL uS uT uNFM uNF uB uc ub ug;simp(disch:=first|omega|(simp only[RY]<;>omega)|decide)only[↓RD,RZ,eq_self,Int.reduceToNat,Int.reduceAdd,Nat.reduceAdd,Nat.reduceSub,Nat.reduceMul,Nat.reduceLeDiff,g1,ek,e1,hs,hp,hld];rw[zaT];refine kpush hw (by rw[zj5]; omega) λw' H2 hw' b2=>?_;simp(disch:=omega)only[↓RD,RZ];refine⟨rfl,w',?_,b1.trans b2⟩;rw[zv2,if_pos hi,e4];exact hw'
  ·rintro _ H1 ⟨rfl,w,hw,b1⟩;unfold zdU uL uS uT uNFM uNF uB uc ub ug;simp(disch:=omega)only[↓RD,RZ];exact⟨w,hw,b1⟩
 ·rintro _ H1 ⟨rfl,w,hw,b1⟩;simp(disch:=omega)only[↓RD,RZ];refine zam (Q:=λz H'=>z = .ex 2 []∧∃w,Kst H' k w (kw l n (4*(n+7)))∧Bel k H H') ?_ ?_
  ·refine zaV (λj L H'=>L=[by8 (rcon ((n+j-1)/n)),.int .i64 ((n+j:Nat):Int)]∧∃w,Kst H' k w (kw l n (n+j))∧Bel k H H') (4*(n+7)-n) ?_ ?_ ?_
   ·refine⟨?_,w,hw,b1⟩;rw[Nat.add_zero,Nat.div_eq_of_lt (by omega)]; rfl
   ·rintro j _ H2 hj ⟨rfl,w2,hw2,b2⟩;obtain⟨i,hi⟩:∃i,n+j=i:=⟨_,rfl⟩;rw[show n+(j+1)=i+1 by omega];rw[hi]at hw2 ⊢;have e1:(((n:Nat):Int)+6+1)*4=((4*(n+7):Nat):Int):=by omega
    have e1':(4:Int)*(((n:Nat):Int)+6+1)=((4*(n+7):Nat):Int):=by omega
    have e2:((i:Nat):Int)-1=((i-1:Nat):Int):=by omega
    have hwl:=zj5 l n i;obtain⟨id,hwe,gi2,hid,hid2⟩:=hw2.expl (by omega);rw[hwl]at hwe;subst hwe;have ek:=zqz (.sl id 0 i (.opn 4));have g2:=hw2.1;have hil:i<4*(n+7):=by omega
    obtain⟨sw,hsw⟩:∃sw,(kw l n i).getD (i-1) []=sw:=⟨_,rfl⟩;have hsm:(kw l n i)[i-1]?=some sw:=by rw[←hsw,List.getD_eq_getElem?_getD,List.getElem?_eq_getElem (by omega)]; rfl
    have hsW:Word sw:=hwd i sw (List.mem_of_getElem? hsm);obtain⟨a,b,c,d,e4⟩:=four hsW.1;have hld:ldc (some 4) ((kw l n i).flatten.map by8) (4*(i-1))=some (.agg [by8 a,by8 b,by8 c,by8 d]):=by
     rw[List.map_flatten];have:=ldc_flat (es:=(kw l n i).map (List.map by8)) (k:=4) (i:=i-1) (x:=sw.map by8) (λx hx=>by
      obtain⟨y,hy,rfl⟩:=List.mem_map.1 hx;rw[List.length_map]; exact(hwd i y hy).1) (by rw[List.getElem?_map,hsm]; rfl)
     rw[Nat.mul_comm,this,e4]; rfl
    have hld':=hld;rw[Nat.mul_comm]at hld';unfold zdT uL uS uT uNFM uNF uN uB uI uIM uG uH uO uc ug;simp(disch:=first|omega|(simp only[RY]<;>omega)|decide)only[↓RD,RZ,eq_self,Int.reduceToNat,Int.reduceAdd,Nat.reduceAdd,Nat.reduceSub,Nat.reduceMul,Nat.reduceLeDiff,e1,e1',e2,g2,ek,gi2,hld,hld'];have s3:At1 H2.next H2 ((H2.new ⟨zav,[.int .u8 0,.int .u8 0,.int .u8 0,.int .u8 0],none⟩).set H2.next (some ⟨zav,[by8 a,by8 b,by8 c,by8 d],none⟩)):=((Grow.new _ _).at1 _).trans (At1.set _ _ _);have gq3:((H2.new ⟨zav,[.int .u8 0,.int .u8 0,.int .u8 0,.int .u8 0],none⟩).set H2.next (some ⟨zav,[by8 a,by8 b,by8 c,by8 d],none⟩)).get H2.next = _:=zai _ _ _;have n3:((H2.new ⟨zav,[.int .u8 0,.int .u8 0,.int .u8 0,.int .u8 0],none⟩).set H2.next (some ⟨zav,[by8 a,by8 b,by8 c,by8 d],none⟩)).next=H2.next+1:=rfl;generalize hq:H2.next=q at *;generalize Heap.set _ q _=H3 at *;have gk3:=(s3.same k (by omega) (by omega)).trans g2;have gi3:=(s3.same id (by omega) (by omega)).trans gi2;have eb:(((i:Nat):Int)%((n:Nat):Int)==0)=decide (i%n=0):=by
     by_cases h:i%n=0
     ·rw[decide_eq_true h,show((i:Nat):Int)%((n:Nat):Int)=((i%n:Nat):Int) from rfl,h]; rfl
     ·rw[decide_eq_false h,show((i:Nat):Int)%((n:Nat):Int)=((i%n:Nat):Int) from rfl];have:¬((i%n:Nat):Int)=0:=by omega
      simpa using this
    have eb4:(((i:Nat):Int)%((n:Nat):Int)==4)=decide (i%n=4):=by
     by_cases h:i%n=4
     ·rw[decide_eq_true h,show((i:Nat):Int)%((n:Nat):Int)=((i%n:Nat):Int) from rfl,h]; rfl
     ·rw[decide_eq_false h,show((i:Nat):Int)%((n:Nat):Int)=((i%n:Nat):Int) from rfl];have:¬((i%n:Nat):Int)=4:=by omega
      simpa using this
    have tb:∀m,m<256→(tabC true++[V.sl id 0 i (.opn 4)])[3+m]?=some (by8 (sb m)):=λm h=>tab_at h;have ia:∀m,m<256→Ax.iaddr (some 256) 1 (.ptr k 3) (by8 m)=some (.ptr k (3+m)):=λm h=>zr2 h;have s8:Ok8 [a,b,c,d]:=e4 ▸ hsW.2;have a8:a<256:=s8 a (by simp);have b8:b<256:=s8 b (by simp);have c8:c<256:=s8 c (by simp);have d8:d<256:=s8 d (by simp);have tw:=zoP (zrt ((i-1)/n));have xr:=zpN (ztq b) (zrt ((i-1)/n));rw[eb,zpd];refine zam (Q:=λr H'=>r = .nrm [by8 (rcon (i/n))]∧H'.get q=some ⟨zav,(znV n i sw).map by8,none⟩∧At1 q H3 H') ?_ ?_
    ·refine zh1 (λh=>?_) (λh=>?_)
     ·simp(disch:=first|omega|(simp only[RY]<;>omega)|decide)only[↓RD,RZ,eq_self,Int.reduceToNat,Int.reduceAdd,Nat.reduceAdd,Nat.reduceSub,Nat.reduceMul,Nat.reduceLeDiff,gq3,gk3,tb _ a8,tb _ b8,tb _ c8,tb _ d8,ia _ a8,ia _ b8,ia _ c8,ia _ d8,xr,tw,zgL,zcr,zaz];have er:(i-1)/n+1=i/n:=by rcases hn with rfl|rfl<;>omega
      have er':i/n-1=(i-1)/n:=by rcases hn with rfl|rfl<;>omega
      refine⟨by rw[←er]; rfl,?_,At1.set q _ _⟩;unfold znV;rw[if_pos h,e4,er'];rfl
     ·have er:(i-1)/n=i/n:=by rcases hn with rfl|rfl<;>omega
      have e8:[a,b,c,d].map by8=[by8 a,by8 b,by8 c,by8 d]:=rfl;rcases hn with hn4|hn8
      ·have e6:decide ((6:Int)<((n:Nat):Int))=false:=by rw[hn4]; rfl
       simp(disch:=omega)only[↓RD,RZ,e6];refine⟨by rw[er],?_,At1.refl _ _⟩;unfold znV;rw[if_neg h,if_neg (λhh=>by have:=hh.1; omega),e4,e8];exact gq3
      ·have e6:decide ((6:Int)<((n:Nat):Int))=true:=by rw[hn8]; rfl
       simp(disch:=omega)only[↓RD,RZ,e6,eb4];rw[zpd];refine zh1 (λh4=>?_) (λh4=>?_)
       ·simp(disch:=first|omega|(simp only[RY]<;>omega)|decide)only[↓RD,RZ,eq_self,Int.reduceToNat,Int.reduceAdd,Nat.reduceAdd,Nat.reduceSub,Nat.reduceMul,Nat.reduceLeDiff,gq3,gk3,tb _ a8,tb _ b8,tb _ c8,tb _ d8,ia _ a8,ia _ b8,ia _ c8,ia _ d8,zgL,zcr,zaz];refine⟨by rw[er],?_,At1.set q _ _⟩;unfold znV;rw[if_neg h,if_pos ⟨by omega,h4⟩,e4];rfl
       ·simp(disch:=omega)only[↓RD,RZ];refine⟨by rw[er],?_,At1.refl _ _⟩;unfold znV;rw[if_neg h,if_neg (λhh=>h4 hh.2),e4,e8];exact gq3
    ·rintro _ H4 ⟨rfl,gq4,s4⟩;have n4:=s4.next;simp(disch:=omega)only[↓RD,RZ];have s24:=s3.trans s4;have gk4:=(s24.same k (by omega) (by omega)).trans g2;have gi4:=(s24.same id (by omega) (by omega)).trans gi2;have hkw:(kw l n i).length=i:=zj5 _ _ _;refine zam (New_1_ok (k:=k) (q:=q) (id:=id) (i:=i) (j:=n) (hwd i) (zot hsW) (by rw[hkw]; exact gk4) gi4 gq4 (by omega) (by omega) (by omega) (by omega) (by omega) (by omega) (by omega) (by omega)) ?_;rintro _ H5 ⟨rfl,gq5,s5⟩;have n5:=s5.next;have s25:=s24.trans s5;have gk5:=(s25.same k (by omega) (by omega)).trans g2;obtain⟨x0,x1,x2,x3,ex⟩:=four (zsa (znV n i sw) ((kw l n i).getD (i-n) []));rw[ex]at gq5;have lq:ldc (some 4) ([x0,x1,x2,x3].map by8) 0=some (.agg [by8 x0,by8 x1,by8 x2,by8 x3]):=rfl;have hK5:Kst H5 k (.sl id 0 i (.opn 4)) (kw l n i):=⟨gk5,App.same hw2.2.1 (by omega) λm hm=>by
      simp only[V.pid,Option.some.injEq]at hm;exact s25.same m (by omega) (by omega),by omega⟩
     simp(disch:=first|omega|(simp only[RY]<;>omega)|decide)only[↓RD,RZ,eq_self,Int.reduceToNat,Int.reduceAdd,Nat.reduceAdd,Nat.reduceSub,Nat.reduceMul,Nat.reduceLeDiff,gk5,ek,gq5,lq];rw[zaT];refine kpush hK5 (by rw[zj5]; omega) λw' H6 hw6 b6=>?_;simp(disch:=omega)only[↓RD,RZ];refine⟨?_,w',?_,b2.trans (Bel.trans ⟨by omega,λm hm=>s25.same m (by omega) (by omega)⟩ b6)⟩
     ·rw[show i+1-1=i by omega]; rfl
     ·rw[zv2,if_neg (by omega),hsw,ex];exact hw6
   ·rintro _ H2 ⟨rfl,w2,hw2,b2⟩;have e1:(4:Int)*(((n:Nat):Int)+6+1)=((4*(n+7):Nat):Int):=by omega
    unfold zdT uL uS uT uNFM uNF uN uB uI uIM uG uH uO uc ug;simp(disch:=omega)only[↓RD,RZ,e1];exact⟨w2,by rw[show 4*(n+7)=n+(4*(n+7)-n) by omega]; exact hw2,b2⟩
  ·rintro _ H2 ⟨rfl,w2,hw2,b2⟩;obtain⟨id,rfl,g1,h1,h2⟩:=hw2.expl (by rw[zj5]; omega);simp(disch:=omega)only[↓RD,RZ];exact⟨⟨Nat.le_refl _,id,⟨hw2.1,g1,hw2.2.2,h2,hwd _⟩,by omega⟩,b2⟩
theorem KNew_x{lo:Nat}{H:Heap}{v:V}{l:List Nat}{n:Nat}(hv:By lo H v l)(h8:Ok8 l)(hn:n=4∨n=8)(hl:l.length=4*n) :
  Ok (sem T zfU [v]) H λr H'=>∃k,r = .tup [.ptr k 0,.int .i64 0]∧AesB H.next H' k (kw l n (4*(n+7)))∧Grow H H'∧H.next≤k:=by
 refine zqr ?_;unfold zng uL uNF uB uG uH uO uc ub;have hpl:∀i,v.pid=some i→i<H.next:=λi hi=>(hv.own i hi).2;have fin:∀H1,H1.get H.next=some ⟨zaY,tabC false++[.nils],none⟩→H1.next=H.next+1→Grow H H1→Ok ((sem T zbc [.ptr H.next 0]).bind λt25 =>
   (M.lift (Ax.vlen v)).bind λt27 =>
   (M.lift (Ax.bin .quo t27 (V.int .i64 4))).bind λt28 =>
   M.blk 0 (
    M.iter (zdU (sem T) t28 (.ptr H.next 0) v V.nilp (V.int .i64 0)) [(V.int .i64 0)]) λ_ =>
   M.blk 2 (
    M.iter (zdT (sem T) t25 t28 (.ptr H.next 0) V.nilp (V.int .i64 0)) [(V.int .u8 1),t28]) λ_ =>
   M.pure (.ret [.ptr H.next 0,(V.int .i64 0)])) H1 λr H'=>∃L,r = .ret L∧∃k,zdW L = .tup [.ptr k 0,.int .i64 0]∧AesB H.next H' k (kw l n (4*(n+7)))∧Grow H H'∧H.next≤k:=by
  intro H1 g1 n1 s1;refine zae (zvX g1 (by omega)) ?_;rintro _ H2 ⟨rfl,g2,s2⟩;have n2:=s2.next;have b2:Bel H.next H1 H2:=⟨s2.next,λi hi=>s2.same i (by omega) (by simp; omega)⟩;have hv2:By lo H2 v l:=(hv.ext s1).same n2 λj hj=>b2.same j (hpl j hj);have e1:((l.length:Nat):Int)/4=((n:Nat):Int):=by omega
  refine zbe hv2.vlen ?_;refine zbe (v:=.int .i64 (n:Nat)) (by rw[zvl (by omega) (by omega) (by omega),e1]) ?_;refine zam (New_rest hv2 h8 hn hl hpl g2 (by omega)) ?_;rintro _ H3 ⟨rfl,hA,b3⟩;exact⟨_,rfl,_,rfl,hA,(s1.bel' (Nat.le_refl _) (b2.trans b3)),Nat.le_refl _⟩
 rcases hn with hn4|hn8
 ·have hvl:Ax.vlen v=some (.int .i64 16):=by rw[hv.vlen,hl,hn4]; rfl
  simp(maxSteps:=1000000) (disch:=first|omega|(simp only[RY]<;>omega)|decide)only[↓RD,RZ,eq_self,Int.reduceToNat,Int.reduceAdd,Int.reduceSub,Int.reduceMul,Nat.reduceAdd,Nat.reduceSub,Nat.reduceMul,Nat.reduceDiv,Nat.reduceMod,Nat.reduceBEq,Nat.reduceLeDiff,hvl];rw[zaT];exact fin _ (by rw[zag]; rfl) (zaf _ _) (Grow.new _ _)
 ·have hvl:Ax.vlen v=some (.int .i64 32):=by rw[hv.vlen,hl,hn8]; rfl
  simp(maxSteps:=1000000) (disch:=first|omega|(simp only[RY]<;>omega)|decide)only[↓RD,RZ,eq_self,Int.reduceToNat,Int.reduceAdd,Int.reduceSub,Int.reduceMul,Nat.reduceAdd,Nat.reduceSub,Nat.reduceMul,Nat.reduceDiv,Nat.reduceMod,Nat.reduceBEq,Nat.reduceLeDiff,hvl];rw[zaT];exact fin _ (by rw[zag]; rfl) (zaf _ _) (Grow.new _ _)
end Go.Ax.SU
/- Su22 -/
namespace Go.Ax.SU
open Go.Ax
theorem num_cons(x n:Nat):num x (n+1)=(x/256 ^ n%256)::num x n:=by
 unfold num;rw[List.range_succ_eq_map,List.map_cons,List.map_map];congr 1;refine List.map_congr_left λi hi=>?_;rw[List.mem_range]at hi;show x/256 ^ (n+1-1-(i+1))%256 = _;rw[show n+1-1-(i+1)=n-1-i by omega]
theorem zsF{H:Heap}{x:Nat}(hx:x<18446744073709551616):Ok (sem T zcY [.int .u64 (x:Nat)]) H λr H'=>∃v,r = .tup [.int .u8 ((fld x).1:Nat),v]∧By H.next H' v (fld x).2∧Grow H H':=by
 refine zmK ?_;unfold zjd uL uB uc ub uq ug;have np:=ziH x;by_cases h8:x<8
 ·have e:fld x=(x,[]):=by unfold fld; rw[if_pos h8]
  have c8:IntKind.u8.wrap ((x:Nat):Int)=((x:Nat):Int):=by rw[wrap_u8]; omega
  simp(disch:=omega)only[↓RD,RZ,c8,e];exact⟨_,rfl,Lc.nil,Grow.refl _⟩
 ·have e:fld x=(8+zdX x-1,num x (zdX x)):=by unfold fld; rw[if_neg h8]
  simp(disch:=omega)only[↓RD,RZ];refine zaV (λk L H'=>∃b,L=[.int .u64 (x/256 ^ k:Nat),b]∧By H.next H' b (num x k)∧Grow H H') (zdX x) ?_ ?_ ?_
  ·exact⟨.nils,by simp,Lc.nil,Grow.refl _⟩
  ·rintro k _ H1 hk ⟨b,rfl,hb,s1⟩;have n1:=s1.next;have hpos:0<x/256 ^ k:=by
    refine Nat.div_pos (Nat.le_trans (Nat.pow_le_pow_right (by decide) (show k≤zdX x-1 by omega)) (ztH (by omega))) (Nat.pow_pos (by decide))
   have hlt:x/256 ^ k<18446744073709551616:=Nat.lt_of_le_of_lt (Nat.div_le_self _ _) hx;have e1':x/256 ^ k/256=x/256 ^ (k+1):=by rw[Nat.div_div_eq_div_mul,Nat.pow_succ]
   have e1:shr (x/256 ^ k) 8=x/256 ^ (k+1):=by rw[zjo,Nat.shiftRight_eq_div_pow]; exact e1'
   have e8:=cint8 (x/256 ^ k);unfold zeB uL uB ub uq ug;simp(disch:=omega)only[↓RD,RZ,e8];have s2:=Grow.new H1 ⟨zaa,[.int .u8 (x/256 ^ k%256:Nat)],none⟩;have g2:(H1.new ⟨zaa,[.int .u8 (x/256 ^ k%256:Nat)],none⟩).get H1.next = _:=zag _ _;have n2:(H1.new ⟨zaa,[.int .u8 (x/256 ^ k%256:Nat)],none⟩).next=H1.next+1:=zaf _ _;have hb2:=hb.ext s2;refine okb_ab (lo:=H1.next) (l:=[x/256 ^ k%256]) (m:=num x k) (.full g2 rfl (Nat.le_refl _) (by omega)) (by omega) hb2.ac (by rw[zd0]; simp; omega) λw H3 hw b3=>?_;simp(disch:=omega)only[↓RD,RZ,eq_self,seval,e1,e1'];exact⟨w,rfl,by rw[num_cons]; exact hw.by.low (by omega),s1.trans (s2.bel' (Nat.le_refl _) b3)⟩
  ·rintro _ H1 ⟨b,rfl,hb,s1⟩;have hz:x/256 ^ zdX x=0:=Nat.div_eq_of_lt (zvS hx);have c8:IntKind.u8.wrap (((zdX x:Nat):Int)-1)=((zdX x-1:Nat):Int):=by rw[wrap_u8]; omega
   have o8:8 ||| (zdX x-1)=8+zdX x-1:=by
    have:∀n,n<8→8 ||| n=8+n:=by decide
    rw[this _ (by omega)]; omega
   have hvl:=hb.vlen;rw[zd0]at hvl;rw[hz];unfold zeB uL uB ub uq ug;simp(disch:=omega)only[↓RD,RZ,eq_self,seval,hvl,c8,o8,e];exact⟨_,rfl,hb,s1⟩
theorem Bytes_ok{H:Heap}{kid ctr:Nat}(h1:kid<18446744073709551616)(h2:ctr<18446744073709551616):Ok (sem T zdN [.int .u64 (kid:Nat),.int .u64 (ctr:Nat)]) H λr H'=>By H.next H' r (hdr kid ctr)∧Grow H H':=by
 refine zmL ?_;unfold zje uE uB ub uq;refine zae (zsF h1) ?_;rintro _ H1 ⟨a,rfl,ha,s1⟩;simp(disch:=omega)only[↓RD,RZ];refine zae (zsF h2) ?_;rintro _ H2 ⟨b,rfl,hb,s2⟩;have n1:=s1.next;have n2:=s2.next;have k1:=(zpp kid).1;have k2:=(zpp ctr).1;have m1:∀x:Nat,(fld x).2.length≤8:=λx=>by
  unfold fld;split
  ·simp
  ·dsimp only; rw[zd0]; exact(ziH x).2
 have e1:(fld kid).1*16%256 ||| (fld ctr).1=(fld kid).1*16+(fld ctr).1:=by
  rw[Nat.mod_eq_of_lt (by omega),show(16:Nat)=2 ^ 4 from rfl,zsr _ _ 4 k2]
 have e2:shl (fld kid).1 4%256 ||| (fld ctr).1=(fld kid).1*16+(fld ctr).1:=by rw[zrn,Nat.shiftLeft_eq]; exact e1
 simp(disch:=omega)only[↓RD,RZ,eq_self,seval,e1,e2];have s3:=Grow.new H2 ⟨zaa,[.int .u8 ((fld kid).1*16+(fld ctr).1:Nat)],none⟩;have g3:(H2.new ⟨zaa,[.int .u8 ((fld kid).1*16+(fld ctr).1:Nat)],none⟩).get H2.next = _:=zag _ _;have n3:(H2.new ⟨zaa,[.int .u8 ((fld kid).1*16+(fld ctr).1:Nat)],none⟩).next=H2.next+1:=zaf _ _;have ha3:=((ha.ext s2).ext s3);have hb3:=hb.ext s3;have l1:=m1 kid;have l2:=m1 ctr;refine okb_ab (lo:=H2.next) (l:=[(fld kid).1*16+(fld ctr).1]) (m:=(fld kid).2) (.full g3 rfl (Nat.le_refl _) (by omega)) (by omega) ha3.ac (by simp; omega) λw H4 hw b4=>?_;have hb4:By H1.next H4 b (fld ctr).2:=hb3.same b4.next λi hi=>b4.same i (hb.own i hi).2;have n4:=b4.next;refine okb_ab (m:=(fld ctr).2) hw (by omega) hb4.ac (by simp; omega) λw' H5 hw' b5=>?_;simp(disch:=omega)only[↓RD,RZ];refine⟨?_,(s1.trans s2).trans (s3.bel' (Nat.le_refl _) (b4.trans b5))⟩;have:=hw'.by.low (show H.next≤H2.next by omega);have e:hdr kid ctr=[(fld kid).1*16+(fld ctr).1]++(fld kid).2++(fld ctr).2:=by unfold hdr; simp
 rw[e];exact this
end Go.Ax.SU
/- Su23 -/
namespace Go.Ax.SU
open Go.Ax
theorem beqn(n m:Nat):(((n:Nat):Int)==((m:Nat):Int))=decide (n=m):=by
 by_cases h:n=m
 ·rw[h,decide_eq_true rfl]; simp
 ·rw[decide_eq_false h];have:¬((n:Nat):Int)=((m:Nat):Int):=by omega
  simpa using this
theorem beqz(n:Nat):(((n:Nat):Int)==0)=decide (n=0):=beqn n 0
theorem by_sl{lo id n:Nat}{H:Heap}{cap:Cap}{ty:TypeId}{l:List Nat}{o:Option Nat} (h:H.get id=some ⟨ty,l.map by8,o⟩) (hl:l.length=n) (h0:lo≤id) (h1:id<H.next) (hc:V.capOk 1 (.sl id 0 n cap)):By lo H (.sl id 0 n cap) l:=by
 refine⟨?_,λi hi=>by simp only[V.pid,Option.some.injEq]at hi; omega,hc⟩;simp only[rcells,h,Option.bind_some];rw[if_pos (by rw[List.length_map]; omega),List.drop_zero,List.take_of_length_le (by rw[List.length_map]; omega),hl]
theorem Ab.blk{lo:Nat}{H:Heap}{v:V}{l:List Nat}(h:Ab lo H v l)(h0:0<l.length):∃id cap o,v = .sl id 0 l.length cap∧H.get id=some ⟨zaa,l.map by8,o⟩∧lo≤id∧id<H.next∧V.capOk 1 (.sl id 0 l.length cap):=by
 have hc:=Ab.by h |>.cap;have h':Apf zaa 1 lo H v (l.map by8) l.length:=h;generalize hn:l.length=n at *;generalize hcs:l.map by8=cs at *;have hcl:cs.length=n:=by rw[←hcs,List.length_map,hn]
 clear h;cases h' with
 | app h =>
  cases h with
  | opn h ho =>
   rcases h with⟨_,_,h⟩|⟨id,rfl,hg,hl⟩
   ·omega
   ·exact⟨id,_,_,rfl,hg,(ho id rfl).1,(ho id rfl).2,hc⟩
  | lit h g0 g1=>omega
 | full h hl g0 g1=>exact⟨_,_,_,rfl,h,g0,g1,hc⟩
theorem zpz{lo id off len:Nat}{H:Heap}{cap:Cap}{ty:TypeId}{v:V}{cs:List V}{o:Option Nat}{p:List Nat} (hg:H.get id=some ⟨ty,cs,o⟩) (hv:By lo H v p) (h1:off+len≤cs.length) (h2:p.length≤len) :
  mcopy 1 (.sl id off len cap) v H=some (.int .i64 (p.length:Nat),H.set id (some ⟨ty,splice cs off (p.map by8),o⟩)):=by
 unfold mcopy;rw[hv.ac];simp only[Option.bind_some,hg];rw[if_pos (by omega),Nat.min_eq_left h2,Nat.mul_one,List.take_of_length_le (by rw[List.length_map]; exact Nat.le_refl _)]
theorem Join_x{lo:Nat}{H:Heap}{v:V}{vs:List V} {ps:List (List Nat)} (hv:Lc 1 lo H v vs vs.length) (hp:Pts 0 H vs ps) (hn:2≤vs.length) (hvn:vs.length≤1000) (hlen:ps.flatten.length≤1099511627776) :
  Ok (sem T zeY [v,.nils]) H λr H'=>Fx (some 1) H.next H' r ps.flatten∧Grow H H':=by
 refine zpc ?_;unfold zlw uL uB uIM uc ub ug;have hpl:=hp.1;have c0:(((vs.length:Nat):Int)==0)=false:=by rw[beqz]; exact decide_eq_false (by omega)
 have c1:(((vs.length:Nat):Int)==1)=false:=by rw[show(1:Int)=((1:Nat):Int) from rfl,beqn]; exact decide_eq_false (by omega)
 have vn:Ax.vlen .nils=some (.int .i64 0):=rfl;simp(maxSteps:=1000000) (disch:=first|omega|(simp only[RY]<;>omega)|decide)only[↓RD,RZ,eq_self,Int.reduceToNat,Int.reduceAdd,Int.reduceSub,Int.reduceMul,Nat.reduceAdd,Nat.reduceSub,Nat.reduceMul,Nat.reduceDiv,Nat.reduceMod,Nat.reduceBEq,Nat.reduceLeDiff,hv.vlen,c0,c1,vn];refine zam (α:=Res) (Q:=λz H'=>z = .ex 0 [.int .i64 (ps.flatten.length:Nat)]∧H'=H) ?_ ?_
 ·refine zaV (λi L H'=>L=[.int .i64 ((ps.take i).flatten.length:Nat),.int .i64 (i:Nat)]∧H'=H) vs.length ?_ ?_ ?_
  ·exact⟨rfl,rfl⟩
  ·rintro i _ H' hi ⟨rfl,rfl⟩;have hx:vs[i]?=some vs[i]:=List.getElem?_eq_getElem hi;have hy:ps[i]?=some ps[i]:=List.getElem?_eq_getElem (by omega);obtain⟨hb,hb8⟩:=hp.2 i _ _ hx hy;obtain⟨q,hq,hld⟩:=zwG hv hi hx;have hf:=zit hy;have hl1:=zem ps (i+1);rw[hf,List.length_append]at hl1;unfold zgg uL uB uIM uc ug;have ea:(((ps.take i).flatten.length:Nat):Int)+((ps[i].length:Nat):Int)=(((ps.take (i+1)).flatten.length:Nat):Int):=by rw[hf,List.length_append]; omega
   simp(maxSteps:=1000000) (disch:=first|omega|(simp only[RY]<;>omega)|decide)only[↓RD,RZ,eq_self,Int.reduceToNat,Int.reduceAdd,Int.reduceSub,Int.reduceMul,Nat.reduceAdd,Nat.reduceSub,Nat.reduceMul,Nat.reduceDiv,Nat.reduceMod,Nat.reduceBEq,Nat.reduceLeDiff,hq,hld,hb.vlen,ea];rfl
  ·rintro _ H' ⟨rfl,rfl⟩;unfold zgg uL uB uIM uc ug;simp(maxSteps:=1000000) (disch:=first|omega|(simp only[RY]<;>omega)|decide)only[↓RD,RZ,eq_self,Int.reduceToNat,Int.reduceAdd,Int.reduceSub,Int.reduceMul,Nat.reduceAdd,Nat.reduceSub,Nat.reduceMul,Nat.reduceDiv,Nat.reduceMod,Nat.reduceBEq,Nat.reduceLeDiff];rw[List.take_of_length_le (by omega)]
 ·rintro _ H' ⟨rfl,rfl⟩;have hx0:vs[0]?=some vs[0]:=List.getElem?_eq_getElem (by omega);have hy0:ps[0]?=some ps[0]:=List.getElem?_eq_getElem (by omega);obtain⟨hb0,-⟩:=hp.2 0 _ _ hx0 hy0;have hf0:=zit hy0;rw[List.take_zero,List.flatten_nil,List.nil_append]at hf0;have hl0:=zem ps 1;rw[hf0]at hl0;generalize hn':ps.flatten.length=n at *;simp(maxSteps:=1000000) (disch:=first|omega|(simp only[RY]<;>omega)|decide)only[↓RD,RZ,eq_self,Int.reduceToNat,Int.reduceAdd,Int.reduceSub,Int.reduceMul,Nat.reduceAdd,Nat.reduceSub,Nat.reduceMul,Nat.reduceDiv,Nat.reduceMod,Nat.reduceBEq,Nat.reduceLeDiff];have hmk:mmknz zaa (.int .i64 (n:Nat)) H'=some (.sl H'.next 0 n (.opn 1),H'.new ⟨zaa,List.replicate n .any,some 1⟩):=by
   simp only[mmknz];rw[if_pos (by omega),Int.toNat_natCast]
  rw[zaT];refine zaB ⟨_,_,hmk,?_⟩;have s1:=Grow.new H' ⟨zaa,List.replicate n .any,some 1⟩;have g1:(H'.new ⟨zaa,List.replicate n .any,some 1⟩).get H'.next = _:=zag _ _;have n1:(H'.new ⟨zaa,List.replicate n .any,some 1⟩).next=H'.next+1:=zaf _ _;have hv1:=hv.ext s1;have hp1:=hp.grow s1;have hb1:=hb0.ext s1;generalize hb:H'.next=b at *;generalize H'.new _=H1 at *;have hvb:∀i,v.pid=some i→i<b:=λi hi=>by have:=(hv.own i hi).2; omega
  have vsl:zaA .sl 1 (.sl b 0 n (.opn 1)) none (some (.int .i64 (n:Nat))) (some (.int .i64 (n:Nat)))=some (.sl b 0 n (.fix n)):=by
   simp only[zaA,zcv,vint,Option.map_some,Option.bind_some,Option.getD_some,Option.getD_none];rw[if_neg (by simp),if_pos (by omega)];simp
  obtain⟨q,hq,hld⟩:=zwG hv1 (i:=0) (by omega) hx0;replace hq:∀{k:IntKind},Ax.iaddr none 1 v (.int k 0)=some q:=hq;simp(maxSteps:=1000000) (disch:=first|omega|(simp only[RY]<;>omega)|decide)only[↓RD,RZ,eq_self,Int.reduceToNat,Int.reduceAdd,Int.reduceSub,Int.reduceMul,Nat.reduceAdd,Nat.reduceSub,Nat.reduceMul,Nat.reduceDiv,Nat.reduceMod,Nat.reduceBEq,Nat.reduceLeDiff,vsl,hq,hld];have cp:=zpz (off:=0) (len:=n) (cap:=.fix n) g1 hb1 (by simp) (by omega);rw[zaT];refine zaB ⟨_,_,cp,?_⟩;obtain⟨w,-,-,hw,hwc,hwp⟩:=hv1.slice (x:=1) (y:=(vs.length:Nat)) (by omega) (by omega) (by omega);have hw:=hw rfl (k:=.i64);have e1:(1:Int).toNat=1:=rfl;rw[e1,Int.toNat_natCast,Nat.mul_one,Nat.mul_one,List.take_of_length_le (by rw[List.length_drop]; omega)]at hwc;have hwb:w.pid≠some b:=by rw[hwp]; exact λe=>by have:=hvb _ e; omega
  simp(maxSteps:=1000000) (disch:=first|omega|(simp only[RY]<;>omega)|decide)only[↓RD,RZ,eq_self,Int.reduceToNat,Int.reduceAdd,Int.reduceSub,Int.reduceMul,Nat.reduceAdd,Nat.reduceSub,Nat.reduceMul,Nat.reduceDiv,Nat.reduceMod,Nat.reduceBEq,Nat.reduceLeDiff,hw,hwc.vlen];have sp0:∀(p:List Nat),p.length≤n→splice (List.replicate n V.any) 0 (p.map by8)=p.map by8++List.replicate (n-p.length) .any:=λp hp=>by
   unfold splice;rw[List.take_zero,List.nil_append,List.length_map,Nat.zero_add,List.drop_replicate]
  have spj:∀(p q:List Nat),p.length+q.length≤n→splice (p.map by8++List.replicate (n-p.length) V.any) p.length (q.map by8)=(p++q).map by8++List.replicate (n-(p++q).length) .any:=λp q h=>by
   unfold splice;rw[List.take_left' (by rw[List.length_map]),List.length_map,List.drop_append,List.length_map,List.drop_of_length_le (by rw[List.length_map]; omega),List.nil_append,List.drop_replicate,List.map_append,List.length_append,show n-p.length-(p.length+q.length-p.length)=n-(p.length+q.length) by omega]
  refine zam (α:=Res) (Q:=λz H'=>z = .ex 2 []∧H'.get b=some ⟨zaa,ps.flatten.map by8,some 1⟩∧At1 b H1 H') ?_ ?_
  ·refine zaV (λj L H'=>L=[.int .i64 ((ps.take (j+1)).flatten.length:Nat),.int .i64 (j:Nat)]∧H'.get b=some ⟨zaa,(ps.take (j+1)).flatten.map by8++List.replicate (n-(ps.take (j+1)).flatten.length) .any,some 1⟩∧At1 b H1 H') (vs.length-1) ?_ ?_ ?_
   ·refine⟨by rw[Nat.zero_add,hf0]; rfl,?_,At1.set b _ _⟩;rw[zai,Nat.zero_add,hf0,sp0 _ hl0]
   ·rintro j _ H2 hj ⟨rfl,g2,s2⟩;have hx:vs[j+1]?=some vs[j+1]:=List.getElem?_eq_getElem (by omega);have hy:ps[j+1]?=some ps[j+1]:=List.getElem?_eq_getElem (by omega);obtain⟨hbj,-⟩:=hp1.2 (j+1) _ _ hx hy;obtain⟨hbj0,-⟩:=hp.2 (j+1) _ _ hx hy;have hbj2:=hbj.at1 s2 (λe=>by have:=(hbj0.own _ e).2; omega);have hwc2:=hwc.at1 s2 hwb;have hwl:(vs.drop 1).length=vs.length-1:=List.length_drop ..;rw[←hwl]at hwc2;have hwx:(vs.drop 1)[j]?=some vs[j+1]:=by rw[List.getElem?_drop,Nat.add_comm]; exact hx
    obtain⟨q2,hq2,hld2⟩:=zwG hwc2 (i:=j) (by omega) hwx;have hf:=zit hy;have hl1:=zem ps (j+1+1);rw[hf,List.length_append]at hl1;rw[hf];generalize (ps.take (j+1)).flatten=P at *;have vs1:zaA .sl 1 (.sl b 0 n (.fix n)) (some (.int .i64 (P.length:Nat))) none none=some (.sl b P.length (n-P.length) (.fix (n-P.length))):=by
     simp only[zaA,zcv,vint,Option.map_some,Option.bind_some,Option.getD_some,Option.getD_none];rw[if_neg (by simp),if_pos (by omega)];simp
    have cl:(P.map by8++List.replicate (n-P.length) V.any).length=n:=by rw[List.length_append,List.length_map,List.length_replicate]; omega
    have nl:By 0 H2 .nils []:=Lc.nil;have cp1:=zpz (off:=P.length) (len:=n-P.length) (cap:=.fix (n-P.length)) g2 nl (by omega) (Nat.zero_le _);have sp1:splice (P.map by8++List.replicate (n-P.length) V.any) P.length (([]:List Nat).map by8)=P.map by8++List.replicate (n-P.length) V.any:=by
     rw[spj P [] (by simp; omega),List.append_nil]
    rw[sp1]at cp1;have s3:=At1.set b H2 (some ⟨zaa,P.map by8++List.replicate (n-P.length) V.any,some 1⟩);have g3:(H2.set b (some ⟨zaa,P.map by8++List.replicate (n-P.length) V.any,some 1⟩)).get b = _:=zai _ _ _;have hbj3:=hbj2.at1 s3 (λe=>by have:=(hbj0.own _ e).2; omega);have cp2:=zpz (off:=P.length) (len:=n-P.length) (cap:=.fix (n-P.length)) g3 hbj3 (by omega) (by omega);rw[spj _ _ (by omega)]at cp2;have ea:((P.length:Nat):Int)+((0:Nat):Int)=((P.length:Nat):Int):=by omega
    unfold zgf uL uB uIM uc ug;simp(maxSteps:=1000000) (disch:=first|omega|(simp only[RY]<;>omega)|decide)only[↓RD,RZ,eq_self,Int.reduceToNat,Int.reduceAdd,Int.reduceSub,Int.reduceMul,Nat.reduceAdd,Nat.reduceSub,Nat.reduceMul,Nat.reduceDiv,Nat.reduceMod,Nat.reduceBEq,Nat.reduceLeDiff,hq2,hld2,vs1];rw[zaT];refine zaB ⟨_,_,cp1,?_⟩;have ez:(([]:List Nat).length:Nat)=0:=rfl;simp(maxSteps:=1000000) (disch:=first|omega|(simp only[RY]<;>omega)|decide)only[↓RD,RZ,eq_self,Int.reduceToNat,Int.reduceAdd,Int.reduceSub,Int.reduceMul,Nat.reduceAdd,Nat.reduceSub,Nat.reduceMul,Nat.reduceDiv,Nat.reduceMod,Nat.reduceBEq,Nat.reduceLeDiff,ez,ea,vs1,Int.natCast_zero,Int.add_zero];rw[zaT];refine zaB ⟨_,_,cp2,?_⟩;simp(maxSteps:=1000000) (disch:=first|omega|(simp only[RY]<;>omega)|decide)only[↓RD,RZ,eq_self,Int.reduceToNat,Int.reduceAdd,Int.reduceSub,Int.reduceMul,Nat.reduceAdd,Nat.reduceSub,Nat.reduceMul,Nat.reduceDiv,Nat.reduceMod,Nat.reduceBEq,Nat.reduceLeDiff];exact⟨by rw[List.length_append]; rfl,(s2.trans s3).trans (At1.set b _ _)⟩
   ·rintro _ H2 ⟨rfl,g2,s2⟩;unfold zgf uL uB uIM uc ug;simp(maxSteps:=1000000) (disch:=first|omega|(simp only[RY]<;>omega)|decide)only[↓RD,RZ,eq_self,Int.reduceToNat,Int.reduceAdd,Int.reduceSub,Int.reduceMul,Nat.reduceAdd,Nat.reduceSub,Nat.reduceMul,Nat.reduceDiv,Nat.reduceMod,Nat.reduceBEq,Nat.reduceLeDiff];refine⟨?_,s2⟩;rw[g2,show vs.length-1+1=vs.length by omega,List.take_of_length_le (by omega),hn',Nat.sub_self];simp
  ·rintro _ H2 ⟨rfl,g2,s2⟩;have n2:=s2.next;simp(maxSteps:=1000000) (disch:=first|omega|(simp only[RY]<;>omega)|decide)only[↓RD,RZ,eq_self,Int.reduceToNat,Int.reduceAdd,Int.reduceSub,Int.reduceMul,Nat.reduceAdd,Nat.reduceSub,Nat.reduceMul,Nat.reduceDiv,Nat.reduceMod,Nat.reduceBEq,Nat.reduceLeDiff];exact⟨⟨b,by rw[hn'],g2,by omega,by omega⟩,⟨by omega,λi hi=>by rw[s2.same i (by omega) (by omega),s1.same i (by omega)]⟩⟩
end Go.Ax.SU
/- Su24 -/
namespace Go.Ax.SU
open Go.Ax
structure KyG (K:Ky):Prop where
 kid:K.kid<18446744073709551616
 t:K.t≤32
 ws:∀w∈K.ws,Word w
 wl:K.ws.length≤1000
 w4:K.ws.length%4=0
 w8:8≤K.ws.length
 auth:K.auth.length=32
 auth8:Ok8 K.auth
 salt:K.salt.length=12
 salt8:Ok8 K.salt
structure KeyM (H:Heap) (k:Nat) (K:Ky):Prop where
 good:KyG K
 mem:∃a av sv,H.get k=some ⟨zaU,[.int .u64 (K.kid:Nat),.int .i64 (K.t:Nat),.ptr a 0,av,sv],none⟩∧Aes H a K.ws∧By 0 H av K.auth∧By 0 H sv K.salt
 low:k<H.next
theorem KeyM.grow{H H':Heap}{k:Nat}{K:Ky}(h:KeyM H k K)(g:Grow H H'):KeyM H' k K:=by
 obtain⟨a,av,sv,h1,h2,h3,h4⟩:=h.mem;exact⟨h.good,⟨a,av,sv,by rw[g.same k h.low]; exact h1,h2.grow g,h3.ext g,h4.ext g⟩,Nat.lt_of_lt_of_le h.low g.next⟩
theorem zj3(s:List Nat)(c:Nat):(zdk s c).length=12:=by simp[zdk]
theorem zvO{s:List Nat}(h:Ok8 s)(c:Nat):Ok8 (zdk s c):=Ok8.rmap λi _=>zcJ ((zlh c 12).getD i) (h.getD i)
theorem zwy(s:List Nat)(c:Nat):(first (zdk s c)).length=16:=by unfold first; rw[List.length_append,zj3]; rfl
theorem first_8{s:List Nat}(h:Ok8 s)(c:Nat):Ok8 (first (zdk s c)):=(zvO h c).app (Ok8.rep 4)
theorem nonce_ok{H:Heap}{k c:Nat}{K:Ky}(hk:KeyM H k K)(hc:c<18446744073709551616):Ok (sem T zcw [.ptr k 0,.int .u64 (c:Nat)]) H λr H'=>By H.next H' r (zdk K.salt c)∧Grow H H':=by
 refine zjr ?_;unfold zfV uL uc;refine zae (zgp c 12 hc (by decide)) ?_;rintro r H1 ⟨hr,s1⟩;have nl:=zj3 K.salt c;have hk1:=hk.grow s1;have kl:=hk.low;have m12:=zd0 c 12;obtain⟨id,cap,o,hrv,g1,i0,i1,hcap⟩:=hr.blk (by rw[m12]; decide);rw[m12]at hrv hcap;subst hrv;have vn:Ax.vlen (.sl id 0 12 cap)=some (.int .i64 12):=rfl;obtain⟨a,av,sv,k1,-,-,ks⟩:=hk1.mem;obtain⟨a',av',sv',k1',-,-,ks'⟩:=hk.mem;have hpid:∀i,sv.pid=some i→i<H.next:=by
  have e:=(s1.same k kl).symm.trans k1;rw[k1']at e;simp only[Option.some.injEq,Blk.mk.injEq,List.cons.injEq,true_and,and_true]at e;obtain⟨-,rfl,-⟩:_∧sv'=sv∧True:=⟨trivial,by simp_all,trivial⟩;exact λi hi=>(ks'.own i hi).2
 have n1:=s1.next;simp(disch:=omega)only[↓RD,RZ,eq_self,seval,vn];refine zam (α:=Res) (Q:=λz H'=>z = .ex 0 []∧H'.get id=some ⟨zaa,(zdk K.salt c).map by8,o⟩∧At1 id H1 H') ?_ ?_
 ·refine zaV (λi L H'=>L=[.int .i64 (i:Nat)]∧H'.get id=some ⟨zaa,((zdk K.salt c).take i++(num c 12).drop i).map by8,o⟩∧At1 id H1 H') 12 ?_ ?_ ?_
  ·exact⟨rfl,by simpa using g1,At1.refl _ _⟩
  ·rintro i _ H2 hi ⟨rfl,g2,s2⟩;have gk2:=(s2.same k (by omega) (by omega)).trans k1;have ks2:=ks.at1 s2 (λe=>by have:=hpid _ e; omega);obtain⟨p,hp,hld,-⟩:=zpK ks2 (i:=(i:Nat)) (by omega) (by have:=hk.good.salt; omega);simp only[Int.toNat_natCast]at hld;have hA:(((zdk K.salt c).take i).map by8).length=i:=by rw[List.length_map,List.length_take]; omega
   rw[zuA (by omega)]at g2;have m1:=zpf (b:=by8 ((num c 12).getD i 0)) (C:=((num c 12).drop (i+1)).map by8) hA;have m2:=zpe (b:=by8 ((num c 12).getD i 0)) (y:=by8 ((zdk K.salt c).getD i 0)) (C:=((num c 12).drop (i+1)).map by8) hA;have ml:(((zdk K.salt c).take i).map by8++by8 ((num c 12).getD i 0)::((num c 12).drop (i+1)).map by8).length=12:=by rw[List.length_append,hA,List.length_cons,List.length_map,List.length_drop]; omega
   have ex:=zpN ((zlh c 12).getD i) (hk.good.salt8.getD i);have ea:(num c 12).getD i 0 ^^^ K.salt.getD i 0=(zdk K.salt c).getD i 0:=by unfold zdk; rw[zef hi]
   rw[ea]at ex;replace ex:Ax.bin .xor (by8 ((num c 12).getD i 0)) (.int .u8 (K.salt.getD i 0:Nat)) = _:=ex;unfold zdi uT uNFM uB uI uIM uc ug;simp(disch:=omega)only[↓RD,RZ,eq_self,seval,g2,m1,gk2,hp,hld,ex,m2,ml,zgL,zcr];refine⟨by omega,rfl,?_,s2.trans (At1.set id _ _)⟩;rw[zre (by omega)]
  ·rintro _ H2 ⟨rfl,g2,s2⟩;unfold zdi uT uNFM uB uI uIM uc ug;simp(disch:=omega)only[↓RD,RZ,eq_self,seval];refine⟨?_,s2⟩;rw[g2,List.take_of_length_le (by omega),List.drop_of_length_le (by omega),List.append_nil]
 ·rintro _ H2 ⟨rfl,g2,s2⟩;have n2:=s2.next;simp(disch:=omega)only[↓RD,RZ,eq_self,seval];exact⟨by_sl g2 nl i0 (by omega) hcap,⟨by omega,λi hi=>by rw[s2.same i (by omega) (by omega),s1.same i hi]⟩⟩
theorem crypt_x{lo lo':Nat}{H:Heap}{k c:Nat}{K:Ky}{nv bv:V}{l:List Nat}(hk:KeyM H k K) (hn:By lo H nv (zdk K.salt c)) (hb:By lo' H bv l) (h8:Ok8 l) (hl:l.length≤1099511627776) :
  Ok (sem T zbQ [.ptr k 0,nv,bv]) H λr H'=>Fx none H.next H' r (ctr K.ws (first (zdk K.salt c)) l)∧Grow H H':=by
 refine zjs ?_;unfold zfW uL uS uNFM uE uO uc;refine zaB (zeG (by rfl) ?_);rw[zaz];have s1:=Grow.new H ⟨zad,[.int .u8 0,.int .u8 0,.int .u8 0,.int .u8 0,.int .u8 0,.int .u8 0,.int .u8 0,.int .u8 0,.int .u8 0,.int .u8 0,.int .u8 0,.int .u8 0,.int .u8 0,.int .u8 0,.int .u8 0,.int .u8 0],none⟩;have g1:(H.new ⟨zad,[.int .u8 0,.int .u8 0,.int .u8 0,.int .u8 0,.int .u8 0,.int .u8 0,.int .u8 0,.int .u8 0,.int .u8 0,.int .u8 0,.int .u8 0,.int .u8 0,.int .u8 0,.int .u8 0,.int .u8 0,.int .u8 0],none⟩).get H.next=some ⟨zad,List.replicate 16 (.int .u8 0),none⟩:=zag _ _;have n1:(H.new ⟨zad,[.int .u8 0,.int .u8 0,.int .u8 0,.int .u8 0,.int .u8 0,.int .u8 0,.int .u8 0,.int .u8 0,.int .u8 0,.int .u8 0,.int .u8 0,.int .u8 0,.int .u8 0,.int .u8 0,.int .u8 0,.int .u8 0],none⟩).next=H.next+1:=zaf _ _;have hk1:=hk.grow s1;have hn1:=hn.ext s1;have hb1:=hb.ext s1;have kl:=hk.low;generalize ha:H.next=a at *;generalize H.new _=H1 at *;have nl:=zj3 K.salt c;have cp:=zpz (off:=0) (len:=16) (cap:=.fix 16) g1 hn1 (by rw[List.length_replicate]; decide) (by omega);have sp:splice (List.replicate 16 (V.int .u8 0)) 0 ((zdk K.salt c).map by8)=(first (zdk K.salt c)).map by8:=by
  unfold splice first
  rw[List.take_zero,List.nil_append,List.length_map,nl,List.map_append,List.drop_replicate];rfl
 rw[sp]at cp;have vs:=zmf (n:=16) (id:=a);simp(maxSteps:=1000000) (disch:=first|omega|(simp only[RY]<;>omega)|decide)only[↓RD,RZ,eq_self,Int.reduceToNat,Int.reduceAdd,Int.reduceSub,Int.reduceMul,Nat.reduceAdd,Nat.reduceSub,Nat.reduceMul,Nat.reduceDiv,Nat.reduceMod,Nat.reduceBEq,Nat.reduceLeDiff,vs];rw[zaT];refine zaB ⟨_,_,cp,?_⟩;have fl:=zwy K.salt c;have f8:=first_8 hk.good.salt8 c;have s2:=At1.set a H1 (some ⟨zad,(first (zdk K.salt c)).map by8,none⟩);have g2:(H1.set a (some ⟨zad,(first (zdk K.salt c)).map by8,none⟩)).get a = _:=zai _ _ _;have s02:Grow H (H1.set a (some ⟨zad,(first (zdk K.salt c)).map by8,none⟩)):=s1.set (by omega) _;have hk2:=hk.grow s02;have hb2:=hb.ext s02;generalize Heap.set _ a _=H2 at *;obtain⟨aa,av,sv,k1,kA,-,-⟩:=hk2.mem;have l1:=ld16 fl;simp(maxSteps:=1000000) (disch:=first|omega|(simp only[RY]<;>omega)|decide)only[↓RD,RZ,eq_self,Int.reduceToNat,Int.reduceAdd,Int.reduceSub,Int.reduceMul,Nat.reduceAdd,Nat.reduceSub,Nat.reduceMul,Nat.reduceDiv,Nat.reduceMod,Nat.reduceBEq,Nat.reduceLeDiff,k1,g2,l1];have hg:=hk.good;refine zae (Crypt_x kA fl f8 hb2 h8 hg.wl hg.w4 hg.w8 hl) ?_;rintro _ H3 ⟨r,rfl,hr,s3⟩;have n2:=s02.next;simp(maxSteps:=1000000) (disch:=first|omega|(simp only[RY]<;>omega)|decide)only[↓RD,RZ,eq_self,Int.reduceToNat,Int.reduceAdd,Int.reduceSub,Int.reduceMul,Nat.reduceAdd,Nat.reduceSub,Nat.reduceMul,Nat.reduceDiv,Nat.reduceMod,Nat.reduceBEq,Nat.reduceLeDiff];exact⟨hr.low (by omega),s02.trans s3⟩
theorem crypt_ok{lo lo':Nat}{H:Heap}{k c:Nat}{K:Ky}{nv bv:V}{l:List Nat}(hk:KeyM H k K) (hn:By lo H nv (zdk K.salt c)) (hb:By lo' H bv l) (h8:Ok8 l) (hl:l.length≤1099511627776) :
  Ok (sem T zbQ [.ptr k 0,nv,bv]) H λr H'=>By H.next H' r (ctr K.ws (first (zdk K.salt c)) l)∧Grow H H' :=
 zam (crypt_x hk hn hb h8 hl) λ_ _ h=>⟨h.1.by,h.2⟩
end Go.Ax.SU
/- Su25 -/
namespace Go.Ax.SU
open Go.Ax
theorem zuE{lo1 lo2 lo3 lo4:Nat}{H:Heap}{k:Nat}{K:Ky}{nv hv mv bv:V}{n h m b:List Nat}(hk:KeyM H k K)(hn:By lo1 H nv n)(n8:Ok8 n)(hh:By lo2 H hv h)(h8:Ok8 h)(hm:By lo3 H mv m)(m8:Ok8 m)(hb:By lo4 H bv b)(b8:Ok8 b)
  (hl:n.length+h.length+m.length+b.length≤549755813888) :
  Ok (sem T zcg [.ptr k 0,nv,hv,mv,bv]) H λr H'=>By H.next H' r (zpX K n h m b)∧Grow H H':=by
 refine ziO ?_;unfold zfp uL uM uT uNFM uNF uB uO uU uc;have e1:((h.length:Nat):Int)+((m.length:Nat):Int)=((h.length+m.length:Nat):Int):=by omega
 have w1:IntKind.u64.wrap ((h.length+m.length:Nat):Int)=((h.length+m.length:Nat):Int):=by rw[wrap_u64]; omega
 have w2:IntKind.u64.wrap ((b.length:Nat):Int)=((b.length:Nat):Int):=by rw[wrap_u64]; omega
 have w3:IntKind.u64.wrap ((K.t:Nat):Int)=((K.t:Nat):Int):=by rw[wrap_u64]; have:=hk.good.t; omega
 have kl:=hk.low;simp(disch:=omega)only[↓RD,RZ,eq_self,seval,hh.vlen,hm.vlen,hb.vlen,e1,w1,w2];refine zae (zgp (h.length+m.length) 8 (by omega) (by decide)) ?_;rintro x1 H1 ⟨hx1,s1⟩;have n1:=s1.next;simp(disch:=omega)only[↓RD,RZ,eq_self,seval,hh.vlen,hm.vlen,hb.vlen,w2];refine zae (zgp b.length 8 (by omega) (by decide)) ?_;rintro x2 H2 ⟨hx2,s2⟩;have n2:=s2.next;have hx1':Ab H.next H2 x1 (num (h.length+m.length) 8):=hx1.keep (s2.keep _);refine okb_ab hx1' (by omega) hx2.by.ac (by rw[zd0,zd0]; decide) λx3 H3 hx3 b3=>?_;have n3:=b3.next;have s3:Grow H H3:=(s1.trans s2).bel' (by omega) b3;have hk3:=hk.grow s3;have hk3l:=hk3.low;obtain⟨aa,av,sv,k1,kA,kv,ks⟩:=hk3.mem;simp(disch:=omega)only[↓RD,RZ,eq_self,seval,k1,w3];refine zae (zgp K.t 8 (by have:=hk.good.t; omega) (by decide)) ?_;rintro x4 H4 ⟨hx4,s4⟩;have n4:=s4.next;have gk4:=s4.same k hk3l;have hx3':=hx3.by.ext s4;have s04:=s3.trans s4;have hn4:=hn.ext s04;have hh4:=hh.ext s04;have hm4:=hm.ext s04;have hb4:=hb.ext s04;have hv4:=kv.ext s4;simp(disch:=omega)only[↓RD,RZ,eq_self,seval,gk4,hx3'.cells1,hx3'.okc,hx4.by.cells1,hx4.by.okc,hn4.cells1,hn4.okc,hh4.cells1,hh4.okc,hm4.cells1,hm4.okc,hb4.cells1,hb4.okc];have s5:=Grow.new H4 ⟨zal,[x3,x4,nv,hv,mv,bv],none⟩;have g5:(H4.new ⟨zal,[x3,x4,nv,hv,mv,bv],none⟩).get H4.next = _:=zag _ _;have n5:(H4.new ⟨zal,[x3,x4,nv,hv,mv,bv],none⟩).next=H4.next+1:=zaf _ _;have hlv:Lc 1 0 (H4.new ⟨zal,[x3,x4,nv,hv,mv,bv],none⟩) (.sl H4.next 0 6 (.fix 6)) [x3,x4,nv,hv,mv,bv] 6:=zkX g5 rfl (by omega);have hps:Pts 0 H4 [x3,x4,nv,hv,mv,bv] [num (h.length+m.length) 8++num b.length 8,num K.t 8,n,h,m,b] :=
  .cons (hx3'.low (Nat.zero_le _)) ((zlh _ _).app (zlh _ _)) (.cons (hx4.by.low (Nat.zero_le _)) (zlh _ _) (.cons (hn4.low (Nat.zero_le _)) n8 (.cons (hh4.low (Nat.zero_le _)) h8 (.cons (hm4.low (Nat.zero_le _)) m8 (.cons (hb4.low (Nat.zero_le _)) b8 .nil)))))
 have efl:[num (h.length+m.length) 8++num b.length 8,num K.t 8,n,h,m,b].flatten=tagm K n h m b:=by
  unfold tagm; simp
 have lfl:(tagm K n h m b).length≤1099511627776:=by
  unfold tagm;simp only[List.length_append,zd0];omega
 refine zae (zml (hv4.ext s5) hk.good.auth8 (by rw[hk.good.auth]; decide) hlv (hps.grow s5) (show 6≤1000 by decide) (by rw[efl]; exact lfl)) ?_;rintro _ H6 ⟨rfl,s6⟩;rw[efl];have n6:=s6.next;have hl32:=zeP kc K.auth (tagm K n h m b);have sp:=sp32 hl32;have l32:(((hmac kc K.auth (tagm K n h m b))).map by8).length=32:=by rw[List.length_map,hl32]
 have s06:=(s04.trans s5).trans s6;have hk6:=hk.grow s06;have kl6:=hk6.low;obtain⟨aa,av,sv,k6,-,-,-⟩:=hk6.mem;have ht:=hk.good.t;have vsl:∀id,zaA (.arr 32) 1 (.ptr id 0) none (some (.int .i64 (K.t:Nat))) none=some (.sl id 0 K.t (.fix 32)):=λid=>by
  simp only[zaA,zcv,vint,Option.map_some,Option.bind_some,Option.getD_some,Option.getD_none];rw[if_neg (by simp),if_pos ⟨by simp,by omega,by omega,by omega⟩];simp
 simp(disch:=omega)only[↓RD,RZ,eq_self,seval,zcR,zaz,sp,l32,k6,vsl];refine⟨⟨?_,λi hi=>?_,?_⟩,⟨by rw[zan,zaf]; omega,λi hi=>by rw[zaj _ _ (by omega),zaM _ _ (by omega),s06.same i hi]⟩⟩
 ·simp only[rcells,zai,Option.bind_some];rw[if_pos (by rw[l32]; omega),List.drop_zero,Nat.mul_one];unfold zpX;rw[List.map_take,List.length_take,hl32,Nat.min_eq_left ht]
 ·simp only[V.pid,Option.some.injEq]at hi;rw[zan,zaf];omega
 ·show K.t≤32;exact ht
theorem zsf{H:Heap}(id:Int)(h0:-9223372036854775808≤id):Ok (sem T zcf [.int .i64 id]) H λr H'=>r=(match szs id.toNat with|some (n,t)=>if 0≤id then V.tup [.int .i64 (n:Nat),.int .i64 (t:Nat),.bool true] else .tup [.int .i64 0,.int .i64 0,.bool false]|none=>.tup [.int .i64 0,.int .i64 0,.bool false])∧H'=H:=by
 refine znI ?_;unfold zkm uB uc;by_cases h1:id=1
 ·subst h1; simp(disch:=omega)only[↓RD,RZ]; rfl
 by_cases h2:id=2
 ·subst h2; simp(disch:=omega)only[↓RD,RZ]; rfl
 by_cases h3:id=3
 ·subst h3; simp(disch:=omega)only[↓RD,RZ]; rfl
 by_cases h4:id=16
 ·subst h4; simp(disch:=omega)only[↓RD,RZ]; rfl
 have e1:(id==1)=false:=by simpa using h1
 have e2:(id==2)=false:=by simpa using h2
 have e3:(id==3)=false:=by simpa using h3
 have e4:(id==16)=false:=by simpa using h4
 simp(disch:=omega)only[↓RD,RZ,e1,e2,e3,e4];unfold szs;split
 ·rename_i n t heq;split at heq
  ·rw[if_neg (by omega)]
  ·rw[if_neg (by omega)]
  ·rw[if_neg (by omega)]
  ·rw[if_neg (by omega)]
  ·cases heq
 ·rfl
theorem Seal_x{lo1 lo2:Nat}{H:Heap}{k c:Nat}{K:Ky}{mv pv:V}{m p:List Nat}(hk:KeyM H k K)(hc:c<18446744073709551616)(hm:By lo1 H mv m)(m8:Ok8 m)(hp:By lo2 H pv p)(p8:Ok8 p)(hml:m.length≤274877906944)(hpl:p.length≤1099511627776) :
  Ok (sem T zb9 [.ptr k 0,.int .u64 (c:Nat),mv,pv]) H λr H'=>Grow H H'∧if 1000<p.length then r = .tup [.nils,.int .i64 4] else ∃v,r = .tup [v,.int .i64 0]∧Fx (some 1) H.next H' v (zjp K c m p):=by
 refine zjX ?_;unfold zgD uL uNFM uB uc;have hg:=hk.good;have kl:=hk.low;simp(maxSteps:=1000000) (disch:=first|omega|(simp only[RY]<;>omega)|decide)only[↓RD,RZ,eq_self,Int.reduceToNat,Int.reduceAdd,Int.reduceSub,Int.reduceMul,Nat.reduceAdd,Nat.reduceSub,Nat.reduceMul,Nat.reduceDiv,Nat.reduceMod,Nat.reduceBEq,Nat.reduceLeDiff,hp.vlen];rw[zpd];refine zh1 (λh=>?_) (λh=>?_)
 ·simp(maxSteps:=1000000) (disch:=first|omega|(simp only[RY]<;>omega)|decide)only[↓RD,RZ,eq_self,Int.reduceToNat,Int.reduceAdd,Int.reduceSub,Int.reduceMul,Nat.reduceAdd,Nat.reduceSub,Nat.reduceMul,Nat.reduceDiv,Nat.reduceMod,Nat.reduceBEq,Nat.reduceLeDiff];rw[if_pos (by omega)];exact⟨Grow.refl _,trivial⟩
 ·obtain⟨aa,av,sv,k1,kA,kv,ks⟩:=id hk.mem;simp(maxSteps:=1000000) (disch:=first|omega|(simp only[RY]<;>omega)|decide)only[↓RD,RZ,eq_self,Int.reduceToNat,Int.reduceAdd,Int.reduceSub,Int.reduceMul,Nat.reduceAdd,Nat.reduceSub,Nat.reduceMul,Nat.reduceDiv,Nat.reduceMod,Nat.reduceBEq,Nat.reduceLeDiff,k1];refine zae (Bytes_ok hg.kid hc) ?_;rintro hv H1 ⟨hh,s1⟩;refine zae (nonce_ok (hk.grow s1) hc) ?_;rintro nv H2 ⟨hn,s2⟩;have s02:=s1.trans s2;refine zae (crypt_ok (hk.grow s02) hn (hp.ext s02) p8 hpl) ?_;rintro bv H3 ⟨hb,s3⟩;have s03:=s02.trans s3;have cl:=zrW K.ws (first (zdk K.salt c)) p;have hx:=zwa K.kid c;have nl:=zj3 K.salt c;refine zae (zuE (hk.grow s03) (hn.ext s3) (zvO hg.salt8 c) ((hh.ext s2).ext s3) (hdr_8 _ _) (hm.ext s03) m8 hb (ctr_8 hg.ws p8) (by rw[cl]; omega)) ?_;rintro tv H4 ⟨ht,s4⟩;have s04:=s03.trans s4;have hh4:=((hh.ext s2).ext s3).ext s4;have hb4:=hb.ext s4;have n1:=s1.next;have n2:=s2.next;have n3:=s3.next;have n4:=s4.next;simp(maxSteps:=1000000) (disch:=first|omega|(simp only[RY]<;>omega)|decide)only[↓RD,RZ,eq_self,Int.reduceToNat,Int.reduceAdd,Int.reduceSub,Int.reduceMul,Nat.reduceAdd,Nat.reduceSub,Nat.reduceMul,Nat.reduceDiv,Nat.reduceMod,Nat.reduceBEq,Nat.reduceLeDiff,hh4.cells1,hh4.okc,hb4.cells1,hb4.okc,ht.cells1,ht.okc];have s5:=Grow.new H4 ⟨zal,[hv,bv,tv],none⟩;have g5:(H4.new ⟨zal,[hv,bv,tv],none⟩).get H4.next = _:=zag _ _;have n5:(H4.new ⟨zal,[hv,bv,tv],none⟩).next=H4.next+1:=zaf _ _;have hlv:Lc 1 0 (H4.new ⟨zal,[hv,bv,tv],none⟩) (.sl H4.next 0 3 (.fix 3)) [hv,bv,tv] [hv,bv,tv].length:=zkX g5 rfl (by omega);have hps:Pts 0 H4 [hv,bv,tv] [hdr K.kid c,ctr K.ws (first (zdk K.salt c)) p,zpX K (zdk K.salt c) (hdr K.kid c) m (ctr K.ws (first (zdk K.salt c)) p)] :=
   .cons (hh4.low (Nat.zero_le _)) (hdr_8 _ _) (.cons (hb4.low (Nat.zero_le _)) (ctr_8 hg.ws p8) (.cons (ht.low (Nat.zero_le _)) (zuG _ _ _ _ _) .nil))
  have efl:[hdr K.kid c,ctr K.ws (first (zdk K.salt c)) p,zpX K (zdk K.salt c) (hdr K.kid c) m (ctr K.ws (first (zdk K.salt c)) p)].flatten=zjp K c m p:=by
   unfold zjp; simp
  refine zae (Join_x hlv (hps.grow s5) (show 2≤3 by decide) (show 3≤1000 by decide) (by rw[efl,zsh hg.t]; have:=hg.t; omega)) ?_;rintro v H6 ⟨hv6,s6⟩;rw[efl]at hv6;simp(maxSteps:=1000000) (disch:=first|omega|(simp only[RY]<;>omega)|decide)only[↓RD,RZ,eq_self,Int.reduceToNat,Int.reduceAdd,Int.reduceSub,Int.reduceMul,Nat.reduceAdd,Nat.reduceSub,Nat.reduceMul,Nat.reduceDiv,Nat.reduceMod,Nat.reduceBEq,Nat.reduceLeDiff];rw[if_neg (by omega)];exact⟨(s04.trans s5).trans s6,_,rfl,hv6.low (by omega)⟩
theorem Seal_ok{lo1 lo2:Nat}{H:Heap}{k c:Nat}{K:Ky}{mv pv:V}{m p:List Nat}(hk:KeyM H k K)(hc:c<18446744073709551616)(hm:By lo1 H mv m)(m8:Ok8 m)(hp:By lo2 H pv p)(p8:Ok8 p)(hml:m.length≤274877906944)(hpl:p.length≤1099511627776) :
  Ok (sem T zb9 [.ptr k 0,.int .u64 (c:Nat),mv,pv]) H λr H'=>Grow H H'∧if 1000<p.length then r = .tup [.nils,.int .i64 4] else ∃v,r = .tup [v,.int .i64 0]∧By H.next H' v (zjp K c m p):=by
 refine zam (Seal_x hk hc hm m8 hp p8 hml hpl) ?_;rintro r H' ⟨g,h⟩;refine⟨g,?_⟩;split at h
 ·rename_i hl; rw[if_pos hl]; exact h
 ·rename_i hl;rw[if_neg hl];obtain⟨v,e,h⟩:=h;exact⟨v,e,h.by⟩
end Go.Ax.SU
/- Su26 -/
namespace Go.Ax.SU
open Go.Ax
theorem szs_n{id n t:Nat} (h:szs id=some (n,t)):(n=16∨n=32)∧t≤10∧id≤16:=by
 unfold szs at h;split at h<;>simp at h<;>omega
theorem zsx(id kid n:Nat)(base:List Nat)(hn:n≤32):(keyb id kid n base).length=n+32:=by
 unfold keyb;rw[List.length_take,ziJ];omega
theorem zvg(id kid:Nat)(base:List Nat):(saltb id kid base).length=12:=by
 unfold saltb;rw[List.length_take,ziJ];rfl
theorem keyb_8(id kid n:Nat)(base:List Nat):Ok8 (keyb id kid n base):=Ok8.take (zmW _ _ _ _).1 _
theorem saltb_8(id kid:Nat)(base:List Nat):Ok8 (saltb id kid base):=Ok8.take (zmW _ _ _ _).1 _
theorem drv_good{id kid n t:Nat}{base:List Nat} (h:szs id=some (n,t)) (hk:kid<18446744073709551616):KyG (drv id kid n t base):=by
 obtain⟨h1,h2,h3⟩:=szs_n h;have kl:=zsx id kid n base (by omega);have k8:=keyb_8 id kid n base;unfold drv;refine⟨hk,by dsimp only; omega,?_,?_,?_,?_,?_,k8.drop _,zvg _ _ _,saltb_8 _ _ _⟩
 ·exact zv1 (by omega) (k8.take _) (by rw[List.length_take]; omega) _
 ·dsimp only; rw[zj5]; omega
 ·dsimp only; rw[zj5]; omega
 ·dsimp only; rw[zj5]; omega
 ·dsimp only; rw[List.length_drop,kl]; omega
theorem zoh{lo n:Nat}{H:Heap}{y:V}{l m:List Nat}{F:V→M Res}{Q:Res→Heap→Prop}(hl:l.length=n)(h0:0<n)(hy:By lo H y m)(hm:n+m.length≤1099511627776) (k:∀x' H',Ab H.next H' x' (l++m)→Grow H H'→Ok (F x') H' Q) :
  Ok ((mremark zaa (.sl H.next 0 n (.fix n))).bind λt=>(mappend zaa 1 1 t y).bind F) (H.new ⟨zaa,l.map by8,none⟩) Q:=by
 have s1:=Grow.new H ⟨zaa,l.map by8,none⟩;have g1:(H.new ⟨zaa,l.map by8,none⟩).get H.next = _:=zag _ _;have n1:(H.new ⟨zaa,l.map by8,none⟩).next=H.next+1:=zaf _ _;have hy1:=hy.ext s1;generalize H.new _=H1 at *;refine zaB ⟨.sl H.next 0 n (.fix n),H1,?_,?_⟩
 ·simp only[mremark,g1,Option.bind_some];rw[if_neg (by omega)]
 ·subst hl;refine okb_ab (lo:=H.next) (l:=l) (m:=m) (.full g1 (by simp) (Nat.le_refl _) (by omega)) (by omega) hy1.ac (by omega) λx' H2 h2 b2=>?_;exact k x' H2 h2 (s1.bel' (Nat.le_refl _) b2)
def zlU(lo:Nat)(H:Heap)(k:Nat):Prop:=∀x y a av sv,H.get k=some ⟨zaU,[x,y,.ptr a 0,av,sv],none⟩→∀j,av.pid=some j∨sv.pid=some j→lo≤j
structure KeyB (lo:Nat) (H:Heap) (k:Nat) (K:Ky):Prop where
 good:KyG K
 mem:∃a av sv,H.get k=some ⟨zaU,[.int .u64 (K.kid:Nat),.int .i64 (K.t:Nat),.ptr a 0,av,sv],none⟩∧AesB lo H a K.ws∧By lo H av K.auth∧By lo H sv K.salt
 low:k<H.next
 lo:lo≤k
theorem KeyB.m{lo:Nat}{H:Heap}{k:Nat}{K:Ky}(h:KeyB lo H k K):KeyM H k K:=by
 obtain⟨a,av,sv,h1,h2,h3,h4⟩:=h.mem;exact⟨h.good,⟨a,av,sv,h1,h2.aes,h3.low (Nat.zero_le _),h4.low (Nat.zero_le _)⟩,h.low⟩
theorem KeyB.kl{lo:Nat}{H:Heap}{k:Nat}{K:Ky}(h:KeyB lo H k K):zlU lo H k:=by
 obtain⟨a,av,sv,h1,h2,h3,h4⟩:=h.mem;intro x y a' av' sv' e j hj;rw[h1]at e;simp only[Option.some.injEq,Blk.mk.injEq,List.cons.injEq,true_and,and_true]at e;obtain⟨-,-,-,rfl,rfl⟩:=e;rcases hj with hj|hj
 ·exact(h3.own j hj).1
 ·exact(h4.own j hj).1
theorem KeyB.keep{lo:Nat}{H H':Heap}{k:Nat}{K:Ky}(h:KeyB lo H k K)(g:Keep lo H H'):KeyB lo H' k K:=by
 obtain⟨a,av,sv,h1,h2,h3,h4⟩:=h.mem;exact⟨h.good,⟨a,av,sv,by rw[g.same k h.lo h.low]; exact h1,h2.keep g,h3.keep g,h4.keep g⟩,Nat.lt_of_lt_of_le h.low g.next,h.lo⟩
theorem Derive_x{lo:Nat}{H:Heap}{kid:Nat}{id:Int}{bv:V}{base:List Nat}(h0:-9223372036854775808≤id)(hk:kid<18446744073709551616)(hb:By lo H bv base)(b8:Ok8 base)(hbl:base.length≤1099511627776) :
  Ok (sem T zco [.int .i64 id,.int .u64 (kid:Nat),bv]) H λr H'=>Grow H H'∧((id<0∨szs id.toNat=none)∧r = .tup [.nilp,.int .i64 1]∨∃n t k,0≤id∧szs id.toNat=some (n,t)∧r = .tup [.ptr k 0,.int .i64 0]∧KeyB H.next H' k (drv id.toNat kid n t base)):=by
 refine zmH ?_;unfold zja uL uT uE uB uO uc ub uq;refine zae (zsf id h0) ?_;rintro _ H ⟨rfl,rfl⟩;cases hs:szs id.toNat with
 | none =>
  simp(maxSteps:=1000000) (disch:=first|omega|(simp only[RY]<;>omega)|decide)only[↓RD,RZ,eq_self,Int.reduceToNat,Int.reduceAdd,Int.reduceSub,Int.reduceMul,Nat.reduceAdd,Nat.reduceSub,Nat.reduceMul,Nat.reduceDiv,Nat.reduceMod,Nat.reduceBEq,Nat.reduceLeDiff];exact⟨Grow.refl _,.inl (.inr trivial)⟩
 | some q =>
  obtain⟨n,t⟩:=q;dsimp only;by_cases hi:0≤id
  ·rw[if_pos hi];obtain⟨hn,ht,hid⟩:=szs_n hs;obtain⟨i,hii⟩:∃i:Nat,id=(i:Nat):=⟨id.toNat,by omega⟩;subst hii;rw[Int.toNat_natCast]at *;have w0:IntKind.u64.wrap ((i:Nat):Int)=((i:Nat):Int):=by rw[wrap_u64]; omega
   simp(maxSteps:=1000000) (disch:=first|omega|(simp only[RY]<;>omega)|decide)only[↓RD,RZ,eq_self,Int.reduceToNat,Int.reduceAdd,Int.reduceSub,Int.reduceMul,Nat.reduceAdd,Nat.reduceSub,Nat.reduceMul,Nat.reduceDiv,Nat.reduceMod,Nat.reduceBEq,Nat.reduceLeDiff];refine zae (zoM (Lc.nil:By 0 H .nils []) Ok8.nil (by decide) hb b8 hbl) ?_;rintro _ H1 ⟨rfl,s1⟩;have n1:=s1.next;have sl:(zaR base).length=32:=zeP _ _ _;have s8:Ok8 (zaR base):=zmV _ _ _;have eS:hmac kc [] base=zaR base:=rfl;rw[eS];have sp:=sp32 sl;have l32:((zaR base).map by8).length=32:=by rw[List.length_map,sl]
   simp(maxSteps:=1000000) (disch:=first|omega|(simp only[RY]<;>omega)|decide)only[↓RD,RZ,eq_self,Int.reduceToNat,Int.reduceAdd,Int.reduceSub,Int.reduceMul,Nat.reduceAdd,Nat.reduceSub,Nat.reduceMul,Nat.reduceDiv,Nat.reduceMod,Nat.reduceBEq,Nat.reduceLeDiff,zcR,zaz,sp,l32];have s2:Grow H ((H1.new ⟨zak,[.int .u8 0,.int .u8 0,.int .u8 0,.int .u8 0,.int .u8 0,.int .u8 0,.int .u8 0,.int .u8 0,.int .u8 0,.int .u8 0,.int .u8 0,.int .u8 0,.int .u8 0,.int .u8 0,.int .u8 0,.int .u8 0,.int .u8 0,.int .u8 0,.int .u8 0,.int .u8 0,.int .u8 0,.int .u8 0,.int .u8 0,.int .u8 0,.int .u8 0,.int .u8 0,.int .u8 0,.int .u8 0,.int .u8 0,.int .u8 0,.int .u8 0,.int .u8 0],none⟩).set H1.next (some ⟨zak,(zaR base).map by8,none⟩)):=(s1.trans (Grow.new _ _)).set (by omega) _;have g2:((H1.new ⟨zak,[.int .u8 0,.int .u8 0,.int .u8 0,.int .u8 0,.int .u8 0,.int .u8 0,.int .u8 0,.int .u8 0,.int .u8 0,.int .u8 0,.int .u8 0,.int .u8 0,.int .u8 0,.int .u8 0,.int .u8 0,.int .u8 0,.int .u8 0,.int .u8 0,.int .u8 0,.int .u8 0,.int .u8 0,.int .u8 0,.int .u8 0,.int .u8 0,.int .u8 0,.int .u8 0,.int .u8 0,.int .u8 0,.int .u8 0,.int .u8 0,.int .u8 0,.int .u8 0],none⟩).set H1.next (some ⟨zak,(zaR base).map by8,none⟩)).get H1.next = _:=zai _ _ _;have n2:((H1.new ⟨zak,[.int .u8 0,.int .u8 0,.int .u8 0,.int .u8 0,.int .u8 0,.int .u8 0,.int .u8 0,.int .u8 0,.int .u8 0,.int .u8 0,.int .u8 0,.int .u8 0,.int .u8 0,.int .u8 0,.int .u8 0,.int .u8 0,.int .u8 0,.int .u8 0,.int .u8 0,.int .u8 0,.int .u8 0,.int .u8 0,.int .u8 0,.int .u8 0,.int .u8 0,.int .u8 0,.int .u8 0,.int .u8 0,.int .u8 0,.int .u8 0,.int .u8 0,.int .u8 0],none⟩).set H1.next (some ⟨zak,(zaR base).map by8,none⟩)).next=H1.next+1:=rfl;generalize hq:H1.next=q at *;generalize Heap.set _ q _=H2 at *;refine zae (zgp kid 8 hk (by decide)) ?_;rintro x1 H3 ⟨hx1,s3⟩;have n3:=s3.next;simp(maxSteps:=1000000) (disch:=first|omega|(simp only[RY]<;>omega)|decide)only[↓RD,RZ,eq_self,Int.reduceToNat,Int.reduceAdd,Int.reduceSub,Int.reduceMul,Nat.reduceAdd,Nat.reduceSub,Nat.reduceMul,Nat.reduceDiv,Nat.reduceMod,Nat.reduceBEq,Nat.reduceLeDiff,w0];refine zae (zgp i 2 (by omega) (by decide)) ?_;rintro x2 H4 ⟨hx2,s4⟩;have n4:=s4.next;refine okb_ab (hx1.keep (s4.keep _)) (by omega) hx2.by.ac (by rw[zd0,zd0]; decide) λx3 H5 hx3 b5=>?_;have n5:=b5.next;have s25:Grow H2 H5:=(s3.trans s4).bel' (Nat.le_refl _) b5;have g5:=(s25.same q (by omega)).trans g2;have vs:=zmf (n:=32) (id:=q);have ad:((n:Nat):Int)+32=((n+32:Nat):Int):=rfl;have hx3b:=hx3.by;have il:(num kid 8++num i 2).length=10:=by rw[List.length_append,zd0,zd0]
   have i8:Ok8 (num kid 8++num i 2):=(zlh _ _).app (zlh _ _);simp(maxSteps:=1000000) (disch:=first|omega|(simp only[RY]<;>omega)|decide)only[↓RD,RZ,eq_self,Int.reduceToNat,Int.reduceAdd,Int.reduceSub,Int.reduceMul,Nat.reduceAdd,Nat.reduceSub,Nat.reduceMul,Nat.reduceDiv,Nat.reduceMod,Nat.reduceBEq,Nat.reduceLeDiff,vs,ad];rw[zaT];refine zoh (l:=sKey) rfl (by decide) hx3b (by omega) λx6 H6 hx6 s6=>?_;have n6:=s6.next;have g6:=(s6.same q (by omega)).trans g5;have skl:(sKey++(num kid 8++num i 2)).length=32:=by rw[List.length_append,il]; rfl
   have sk8:Ok8 (sKey++(num kid 8++num i 2)):=(all8 rfl).app i8;refine zae (znB (zkG (lo:=0) g6 sl (by omega) (by omega)) s8 (by omega) hx6.by sk8 (by omega) (show n+32≤8160 by omega)) ?_;rintro _ H7 ⟨key,rfl,hkey,s7⟩;have n7:=s7.next;have ek:((hkdf kc (zaR base) (sKey++(num kid 8++num i 2)) ((n+32+31)/32)).1.take (n+32))=keyb i kid n base:=by
    unfold keyb;rw[show(n+32+31)/32=2 by omega]
   rw[ek]at hkey;have kl:=zsx i kid n base (by omega);have k8:=keyb_8 i kid n base;have g7:=(s7.same q (by omega)).trans g6;have hx7:=(hx3b.ext s6).ext s7;simp(maxSteps:=1000000) (disch:=first|omega|(simp only[RY]<;>omega)|decide)only[↓RD,RZ,eq_self,Int.reduceToNat,Int.reduceAdd,Int.reduceSub,Int.reduceMul,Nat.reduceAdd,Nat.reduceSub,Nat.reduceMul,Nat.reduceDiv,Nat.reduceMod,Nat.reduceBEq,Nat.reduceLeDiff,vs];rw[zaT];refine zoh (l:=sSalt) rfl (by decide) hx7 (by omega) λx8 H8 hx8 s8'=>?_;have n8:=s8'.next;have g8:=(s8'.same q (by omega)).trans g7;have ssl:(sSalt++(num kid 8++num i 2)).length=33:=by rw[List.length_append,il]; rfl
   have ss8:Ok8 (sSalt++(num kid 8++num i 2)):=(all8 rfl).app i8;refine zae (znB (zkG (lo:=0) g8 sl (by omega) (by omega)) s8 (by omega) hx8.by ss8 (by omega) (show 12≤8160 by omega)) ?_;rintro _ H9 ⟨salt,rfl,hsalt,s9⟩;have n9:=s9.next;have hkey9:=(hkey.ext s8').ext s9;obtain⟨va,-,ha,-,hva,-⟩:=zdd hkey9 (x:=0) (y:=(n:Nat)) (by omega) (by omega) (by omega);obtain⟨vb,-,-,hvb',hvb,-⟩:=zdd hkey9 (x:=(n:Nat)) (y:=((keyb i kid n base).length:Nat)) (by omega) (by omega) (by omega);have ha:=ha rfl (k':=.i64);have hvb':=hvb' rfl (k:=.i64);simp only[Int.toNat_natCast,Int.toNat_zero,List.drop_zero,Nat.sub_zero]at hva hvb;rw[List.take_of_length_le (by rw[List.length_drop]; omega)]at hvb;simp(maxSteps:=1000000) (disch:=first|omega|(simp only[RY]<;>omega)|decide)only[↓RD,RZ,eq_self,Int.reduceToNat,Int.reduceAdd,Int.reduceSub,Int.reduceMul,Nat.reduceAdd,Nat.reduceSub,Nat.reduceMul,Nat.reduceDiv,Nat.reduceMod,Nat.reduceBEq,Nat.reduceLeDiff,ha];refine zae (KNew_x (n:=n/4) hva (k8.take n) (by omega) (by rw[List.length_take]; omega)) ?_;rintro _ H10 ⟨k,rfl,hA,s10,hkk⟩;have n10:=s10.next;have hvb10:=hvb.ext s10;have hs10:=hsalt.ext s10;simp(maxSteps:=1000000) (disch:=first|omega|(simp only[RY]<;>omega)|decide)only[↓RD,RZ,eq_self,Int.reduceToNat,Int.reduceAdd,Int.reduceSub,Int.reduceMul,Nat.reduceAdd,Nat.reduceSub,Nat.reduceMul,Nat.reduceDiv,Nat.reduceMod,Nat.reduceBEq,Nat.reduceLeDiff,hvb',hvb10.cells1,hvb10.okc,hs10.cells1,hs10.okc];have s010:Grow H H10:=((((((s2.trans s25).trans s6).trans s7).trans s8').trans s9).trans s10);have s11:=Grow.new H10 ⟨zaU,[.int .u64 (kid:Nat),.int .i64 (t:Nat),.ptr k 0,vb,salt],none⟩;exact⟨s010.trans s11,.inr ⟨n,t,H10.next,by omega,rfl,rfl,⟨drv_good hs hk,⟨k,vb,salt,zag _ _,(hA.keep (s11.keep _)).low (by omega),(hvb10.ext s11).low (by omega),(hs10.ext s11).low (by omega)⟩,by rw[zaf]; omega,by omega⟩⟩⟩
  ·rw[if_neg hi];simp(maxSteps:=1000000) (disch:=first|omega|(simp only[RY]<;>omega)|decide)only[↓RD,RZ,eq_self,Int.reduceToNat,Int.reduceAdd,Int.reduceSub,Int.reduceMul,Nat.reduceAdd,Nat.reduceSub,Nat.reduceMul,Nat.reduceDiv,Nat.reduceMod,Nat.reduceBEq,Nat.reduceLeDiff];exact⟨Grow.refl _,.inl (.inl (by omega))⟩
theorem zxj{lo:Nat}{H:Heap}{kid:Nat}{id:Int}{bv:V}{base:List Nat}(h0:-9223372036854775808≤id)(hk:kid<18446744073709551616)(hb:By lo H bv base)(b8:Ok8 base)(hbl:base.length≤1099511627776) :
  Ok (sem T zco [.int .i64 id,.int .u64 (kid:Nat),bv]) H λr H'=>Grow H H'∧((id<0∨szs id.toNat=none)∧r = .tup [.nilp,.int .i64 1]∨∃n t k,0≤id∧szs id.toNat=some (n,t)∧r = .tup [.ptr k 0,.int .i64 0]∧KeyM H' k (drv id.toNat kid n t base)∧H.next≤k∧zlU H.next H' k):=by
 refine zam (Derive_x h0 hk hb b8 hbl) ?_;rintro r H' ⟨g,h|⟨n,t,k,h1,h2,h3,h4⟩⟩
 ·exact⟨g,.inl h⟩
 ·exact⟨g,.inr ⟨n,t,k,h1,h2,h3,h4.m,h4.lo,h4.kl⟩⟩
end Go.Ax.SU
/- Su27 -/
namespace Go.Ax.SU
open Go.Ax
end Go.Ax.SU
namespace Go.Ax
open SU
end Go.Ax
/- Re1 -/
namespace Go.Ax.SU
open Go.Ax
theorem w_rot'(x:UInt32){k k':IntKind}{n:Nat}{a b:Int} (ha:a=(32-n:Nat)) (hb:b=n):(Ax.bin .shr (w32 x) (.int k' b)).bind (λv=>(Ax.bin .shl (w32 x) (.int k a)).bind λu=>Ax.bin .or v u)=some (w32 (rotr x n)):=by
 subst ha hb;unfold w32;have h1:=x.toNat_lt;rw[zrm (by omega) (by omega),zoY (by omega) (by omega) (by omega)];have h2:shr x.toNat n≤x.toNat:=shr_le _ _;simp only[Option.bind_some,Int.toNat_natCast];rw[zvy (by omega) (by omega) (by omega) (by have:=Nat.mod_lt (shl x.toNat (32-n)) (show 0<4294967296 by decide); omega),zsj];simp only[Int.toNat_natCast,zjo,zrn]
theorem right_eq(x:UInt32)(n:Nat)(h0:0<n)(h1:n<32):sem T za6 [w32 x,.int .u64 (n:Nat)]=M.pure (w32 (rotr x n)):=by
 refine zkS λH=>?_;refine zhB ?_;unfold zen uB uq;have e4:Ax.bin .sub (.int .u64 32) (.int .u64 (n:Nat))=some (.int .u64 ((32-n:Nat):Int)):=by
  rw[zr0,wrap_u64];congr 2;omega
 have e5:=w_rot' x (k:=.u64) (k':=.u64) (n:=n) (a:=((32-n:Nat):Int)) (b:=(n:Nat)) rfl rfl;obtain⟨u,hu,hu2⟩:=Option.bind_eq_some_iff.1 e5;obtain⟨v,hv,hv2⟩:=Option.bind_eq_some_iff.1 hu2;simp(disch:=omega)only[↓RD,RZ,eq_self,seval,hv,e4,hu,hv2]
theorem r7(x:UInt32):sem T za6 [w32 x,.int .u64 7]=M.pure (w32 (rotr x 7)):=right_eq x 7 (by omega) (by omega)
theorem r6(x:UInt32):sem T za6 [w32 x,.int .u64 6]=M.pure (w32 (rotr x 6)):=right_eq x 6 (by omega) (by omega)
theorem r2(x:UInt32):sem T za6 [w32 x,.int .u64 2]=M.pure (w32 (rotr x 2)):=right_eq x 2 (by omega) (by omega)
end Go.Ax.SU
/- Re2 -/
namespace Go.Ax.SU
open Go.Ax
end Go.Ax.SU
/- Re3 -/
namespace Go.Ax.SU
open Go.Ax
end Go.Ax.SU
/- Re4 -/
namespace Go.Ax.SU
open Go.Ax
end Go.Ax.SU
/- Re5 -/
namespace Go.Ax.SU
open Go.Ax
end Go.Ax.SU
/- Re6 -/
namespace Go.Ax.SU
open Go.Ax
end Go.Ax.SU
/- Re7 -/
namespace Go.Ax.SU
open Go.Ax
end Go.Ax.SU
/- Re8 -/
namespace Go.Ax.SU
open Go.Ax
end Go.Ax.SU
/- Re9 -/
namespace Go.Ax.SU
open Go.Ax
end Go.Ax.SU
/- Re10 -/
namespace Go.Ax.SU
open Go.Ax
def Rst(H:Heap)(k:Nat)(R:V)(l:List Nat)(n:Nat):Prop:=H.get k=some ⟨ziN,sbox.map by8++[R],none⟩∧App zad 16 (k+1) H R (l.map by8) n∧k<H.next
end Go.Ax.SU
/- Re11 -/
namespace Go.Ax.SU
open Go.Ax
def RK(H:Heap)(r:V) (ws:List (List Nat)):Prop:=∃R,r = .agg (sbox.map by8++[R])∧Lc 16 0 H R (ws.flatten.map by8) (ws.length/4)∧(∀w∈ws,Word w)∧ws.length%4=0
theorem RK.grow{H H':Heap}{r:V} {ws:List (List Nat)} (h:RK H r ws) (g:Grow H H'):RK H' r ws:=by
 obtain⟨R,h1,h2,h3⟩:=h;exact⟨R,h1,h2.ext g,h3⟩
end Go.Ax.SU
/- Re12 -/
namespace Go.Ax.SU
open Go.Ax
end Go.Ax.SU
/- Re13 -/
namespace Go.Ax.SU
open Go.Ax
end Go.Ax.SU
/- Re14 -/
namespace Go.Ax.SU
open Go.Ax
end Go.Ax.SU
/- Re15 -/
namespace Go.Ax.SU
open Go.Ax
theorem RK.agg{H:Heap}{r:V} {ws:List (List Nat)} (h:RK H r ws):∃R,r = .agg (sbox.map by8++[R])∧V.okc r=true∧r.cells=sbox.map by8++[R]:=by
 obtain⟨R,rfl,h2,h3⟩:=h;exact⟨R,rfl,rfl,rfl⟩
end Go.Ax.SU
/- Re16 -/
namespace Go.Ax.SU
open Go.Ax
end Go.Ax.SU
/- Re17 -/
namespace Go.Ax.SU
open Go.Ax
structure RKs (H:Heap) (R tv sv:V) (K:Ky):Prop where
 good:KyG K
 key:Lc 16 0 H R (K.ws.flatten.map by8) (K.ws.length/4)
 tag:By 0 H tv K.auth
 salt:By 0 H sv K.salt
theorem RKs.grow{H H':Heap}{R tv sv:V}{K:Ky}(h:RKs H R tv sv K)(g:Grow H H'):RKs H' R tv sv K:=⟨h.good,h.key.ext g,h.tag.ext g,h.salt.ext g⟩
end Go.Ax.SU
/- Re18 -/
namespace Go.Ax.SU
open Go.Ax
end Go.Ax.SU
/- Re19 -/
namespace Go.Ax.SU
open Go.Ax
end Go.Ax.SU
/- Re20 -/
namespace Go.Ax.SU
open Go.Ax
end Go.Ax.SU
/- Lk1 -/
namespace Go.Ax.SU
open Go.Ax
structure AtS (S:List Nat) (H H':Heap):Prop where
 next:H.next≤H'.next
 same:∀i,i<H.next→i∉S→H'.get i=H.get i
theorem AtS.refl(S:List Nat)(H:Heap):AtS S H H:=⟨Nat.le_refl _,λ_ _ _=>rfl⟩
theorem AtS.trans{S:List Nat}{H H1 H2:Heap}(h:AtS S H H1)(g:AtS S H1 H2):AtS S H H2:=⟨Nat.le_trans h.next g.next,λi hi hk=>by rw[g.same i (Nat.lt_of_lt_of_le hi h.next) hk,h.same i hi hk]⟩
theorem Grow.atS{H H':Heap}(h:Grow H H')(S:List Nat):AtS S H H':=⟨h.next,λi hi _=>h.same i hi⟩
theorem AtS.set{S:List Nat}(H:Heap){k:Nat}(h:k∈S)(b:Option Blk):AtS S H (H.set k b):=⟨Nat.le_refl _,λi _ hk=>zaj _ _ (λe=>hk (e ▸ h))⟩
theorem AtS.mono{S S':List Nat}{H H':Heap}(h:AtS S H H')(g:∀i∈S,i∈S'):AtS S' H H':=⟨h.next,λi hi hk=>h.same i hi λe=>hk (g i e)⟩
theorem AtS.grow{H H':Heap} (h:AtS [] H H'):Grow H H':=⟨h.next,λi hi=>h.same i hi (by simp)⟩
theorem AtS.new{S:List Nat}{H0 H H':Heap}(g:Grow H0 H)(h:AtS S H H')(hS:∀i∈S,H0.next≤i):Grow H0 H' :=
 ⟨Nat.le_trans g.next h.next,λi hi=>by rw[h.same i (Nat.lt_of_lt_of_le hi g.next) (λe=>by have:=hS i e; omega),g.same i hi]⟩
theorem Lc.atS{e lo n:Nat}{S:List Nat}{H H':Heap}{v:V}{cells:List V}(h:Lc e lo H v cells n)(s:AtS S H H')(hk:∀i,v.pid=some i→i∉S):Lc e lo H' v cells n :=
 ⟨by rw[ze4 λi hi=>s.same i (h.own i hi).2 (hk i hi)]; exact h.rc,λi hi=>⟨(h.own i hi).1,Nat.lt_of_lt_of_le (h.own i hi).2 s.next⟩,h.cap⟩
def Odd(b:Blk):Prop:=b.ty≠zaU∧b.ty≠zaY∧b.ty≠zav∧∀v∈b.cells,∀n,v≠.int .u8 n
theorem By.odd{lo i:Nat}{H:Heap}{v:V}{l:List Nat}{b:Blk}(h:By lo H v l)(hl:0<l.length)(hp:v.pid=some i)(hg:H.get i=some b):¬∀v∈b.cells,∀n,v≠.int .u8 n:=by
 rcases Lc.cases h with⟨rfl,_⟩|⟨id,off,cap,b',rfl,hb,hle,hc⟩|⟨cs,rfl,_⟩
 ·cases hp
 ·simp only[V.pid,Option.some.injEq]at hp;subst hp;rw[hb]at hg;injection hg with hg
  subst hg;intro hno;cases l with
  | nil=>simp at hl
  | cons x l =>
   rw[List.map_cons]at hc;have:by8 x∈b'.cells:=List.mem_of_mem_drop (List.mem_of_mem_take (by rw[←hc]; exact List.mem_cons_self));exact hno _ this _ rfl
 ·cases hp
theorem KeyM.atS{S:List Nat}{H H':Heap}{k:Nat}{K:Ky}(h:KeyM H k K)(s:AtS S H H')(hS:∀i∈S,∃b,H.get i=some b∧Odd b):KeyM H' k K:=by
 obtain⟨a,av,sv,h1,h2,h3,h4⟩:=h.mem;obtain⟨id,g1,g2,l1,l2,hw⟩:=h2;have hne:∀{i b},H.get i=some b→¬Odd b→i∉S:=λhb ho e=>by
  obtain⟨b',hb',ho'⟩:=hS _ e;rw[hb]at hb';injection hb' with hb'
  exact ho (hb' ▸ ho')
 have by':∀{v:V} {l:List Nat},By 0 H v l→0<l.length→By 0 H' v l:=λhv hl=>Lc.atS hv s λi hi e=>by
  obtain⟨b',hb',ho'⟩:=hS _ e;exact By.odd hv hl hi hb' ho'.2.2.2
 refine⟨h.good,⟨a,av,sv,?_,⟨id,?_,?_,Nat.lt_of_lt_of_le l1 s.next,Nat.lt_of_lt_of_le l2 s.next,hw⟩,by' h3 (by rw[h.good.auth]; decide),by' h4 (by rw[h.good.salt]; decide)⟩,Nat.lt_of_lt_of_le h.low s.next⟩
 ·rw[s.same k h.low (hne h1 λo=>o.1 rfl)]; exact h1
 ·rw[s.same a l1 (hne g1 λo=>o.2.1 rfl)]; exact g1
 ·rw[s.same id l2 (hne g2 λo=>o.2.2.1 rfl)]; exact g2
/-! Maps as lists of keys and values. -/
def encM{α:Type}(ek:α→V) (l:List (α×V)):List V:=l.flatMap λp=>[ek p.1,p.2]
def look{α β:Type}[DecidableEq α](a:α):List (α×β)→Option β
 | []=>none
 | (k,v)::l=>if a=k then some v else look a l
def putl{α β:Type}[DecidableEq α](a:α)(b:β):List (α×β)→List (α×β)
 | []=>[(a,b)]
 | (k,v)::l=>if a=k then (a,b)::l else (k,v)::putl a b l
section
variable {α:Type} [DecidableEq α] {ek:α→V} {mk:MK}
end
def ekid(n:Nat):V:=.int .u64 (n:Nat)
def eplc(p:Int×Int):V:=.agg [.int .i64 p.1,.int .i64 p.2]
/-! Numbers of keys. -/
def zfD(e st sl:Int):Prop:=(0≤e∧e≤65535)∧(0≤st∧st≤31)∧0≤sl∧sl<8
instance (e st sl:Int):Decidable (zfD e st sl):=by unfold zfD; infer_instance
def kidN(e st sl:Int):Nat:=(256*e+8*st+sl).toNat
def kidv(e st sl:Int):V:=if zfD e st sl then .tup [.int .u64 (kidN e st sl:Nat),.int .i64 0] else .tup [.int .u64 0,.int .i64 1]
theorem zv3{H:Heap}(e st sl:Int):Ok (sem T zke [.int .i64 e,.int .i64 st,.int .i64 sl]) H λr H'=>r=kidv e st sl∧H'=H:=by
 refine zvE ?_;unfold zsH uL uB uG uH uc uq;by_cases h1:e<0
 ·have b1:decide (e<0)=true:=decide_eq_true h1;have hn:¬zfD e st sl:=by unfold zfD; omega
  simp(disch:=omega)only[↓RD,RZ,b1,kidv,hn]
 have b1:decide (e<0)=false:=decide_eq_false h1;by_cases h2:65535<e
 ·have b2:decide (65535<e)=true:=decide_eq_true h2;have hn:¬zfD e st sl:=by unfold zfD; omega
  simp(disch:=omega)only[↓RD,RZ,b1,b2,kidv,hn]
 have b2:decide (65535<e)=false:=decide_eq_false h2;by_cases h3:st<0
 ·have b3:decide (st<0)=true:=decide_eq_true h3;have hn:¬zfD e st sl:=by unfold zfD; omega
  simp(disch:=omega)only[↓RD,RZ,b1,b2,b3,kidv,hn]
 have b3:decide (st<0)=false:=decide_eq_false h3;by_cases h4:31<st
 ·have b4:decide (31<st)=true:=decide_eq_true h4;have hn:¬zfD e st sl:=by unfold zfD; omega
  simp(disch:=omega)only[↓RD,RZ,b1,b2,b3,b4,kidv,hn]
 have b4:decide (31<st)=false:=decide_eq_false h4;by_cases h5:sl<0
 ·have b5:decide (sl<0)=true:=decide_eq_true h5;have hn:¬zfD e st sl:=by unfold zfD; omega
  simp(disch:=omega)only[↓RD,RZ,b1,b2,b3,b4,b5,kidv,hn]
 have b5:decide (sl<0)=false:=decide_eq_false h5;by_cases h6:8≤sl
 ·have b6:decide (8≤sl)=true:=decide_eq_true h6;have hn:¬zfD e st sl:=by unfold zfD; omega
  simp(disch:=omega)only[↓RD,RZ,b1,b2,b3,b4,b5,b6,kidv,hn]
 have b6:decide (8≤sl)=false:=decide_eq_false h6;have hy:zfD e st sl:=by unfold zfD; omega
 have w1:IntKind.i64.wrap (256*e)=256*e:=wrap_i64 (by omega) (by omega);have w2:IntKind.i64.wrap (8*st)=8*st:=wrap_i64 (by omega) (by omega);have w3:IntKind.i64.wrap (256*e+8*st)=256*e+8*st:=wrap_i64 (by omega) (by omega);have w4:IntKind.i64.wrap (256*e+8*st+sl)=256*e+8*st+sl:=wrap_i64 (by omega) (by omega);have w5:IntKind.u64.wrap (256*e+8*st+sl)=((kidN e st sl:Nat):Int):=by rw[wrap_u64]; unfold kidN; omega
 simp(disch:=omega)only[↓RD,RZ,b1,b2,b3,b4,b5,b6,kidv,hy,w1,w2,w3,w4,w5]
end Go.Ax.SU
/- Lk2 -/
namespace Go.Ax.SU
open Go.Ax
theorem zsX{a m:Nat}(ha:a<18446744073709551616)(hm:0<m):Ax.bin .quo (.int .u64 (a:Nat)) (.int .u64 (m:Nat))=some (.int .u64 (a/m:Nat)):=by
 have h0:¬((m:Nat):Int)=0:=by omega
 have h1:((a:Nat):Int).tdiv ((m:Nat):Int)=((a/m:Nat):Int):=by rw[Int.tdiv_eq_ediv_of_nonneg (by omega)]; rfl
 have h2:a/m≤a:=Nat.div_le_self _ _;simp only[Ax.bin,if_true,zcW,if_neg h0,h1,wrap_u64];generalize a/m=d at h2;rw[Int.emod_eq_of_lt (by omega) (by omega)]
def ztO(a b:Nat):Bool:=decide (a<16777216)&&(decide (b<16777216)&&decide (a/8<b/8))
theorem zrK{H:Heap}{a b:Nat}(ha:a<18446744073709551616)(hb:b<18446744073709551616):Ok (sem T zhe [.int .u64 (a:Nat),.int .u64 (b:Nat)]) H λr H'=>r = .bool (ztO a b)∧H'=H:=by
 refine zrC ?_;unfold zoB uL uB uG uH uq;by_cases h1:a<16777216
 ·have b1:decide ((a:Nat)<16777216)=true:=decide_eq_true h1;by_cases h2:b<16777216
  ·have b2:decide ((b:Nat)<16777216)=true:=decide_eq_true h2;have q1:Ax.bin .quo (.int .u64 (a:Nat)) (.int .u64 8)=some (.int .u64 (a/8:Nat)):=zsX (m:=8) ha (by decide);have q2:Ax.bin .quo (.int .u64 (b:Nat)) (.int .u64 8)=some (.int .u64 (b/8:Nat)):=zsX (m:=8) hb (by decide);have dd:decide (((a/8:Nat):Int)<((b/8:Nat):Int))=decide (a/8<b/8):=decide_eq_decide.2 (by omega);simp(disch:=omega)only[↓RD,RZ,q1,q2,dd,b1,b2,ztO,Bool.true_and]
  ·have b2:decide ((b:Nat)<16777216)=false:=decide_eq_false h2;simp(disch:=omega)only[↓RD,RZ,b1,b2,ztO,Bool.true_and,Bool.false_and]
 ·have b1:decide ((a:Nat)<16777216)=false:=decide_eq_false h1;simp(disch:=omega)only[↓RD,RZ,b1,ztO,Bool.false_and]
end Go.Ax.SU
/- Lk3 -/
namespace Go.Ax.SU
open Go.Ax
def bl(n:Nat):Nat:=if n=0 then 0 else n.log2+1
def wsv(w:WS):V:=.agg [.bool w.1,.int .u64 (w.2.1:Nat),.int .u64 (w.2.2:Nat)]
def wsR(w:WS):Prop:=w.2.1<18446744073709551616∧w.2.2<18446744073709551616
end Go.Ax.SU
/- Lk4 -/
namespace Go.Ax.SU
open Go.Ax
end Go.Ax.SU
/- Re21 -/
namespace Go.Ax.SU
open Go.Ax
def szv(id:Int):V:=match szs id.toNat with|some (n,t)=>if 0≤id then V.tup [.int .i64 (n:Nat),.int .i64 (t:Nat),.bool true] else .tup [.int .i64 0,.int .i64 0,.bool false]|none=>.tup [.int .i64 0,.int .i64 0,.bool false]
theorem zsd{id:Int}(h:id<0∨szs id.toNat=none):szv id = .tup [.int .i64 0,.int .i64 0,.bool false]:=by
 unfold szv;rcases h with h|h
 ·cases szs id.toNat with
  | none=>rfl
  | some q=>dsimp only; rw[if_neg (by omega)]
 ·rw[h]
theorem zlV{id:Int}{n t:Nat}(h0:0≤id) (h:szs id.toNat=some (n,t)):szv id = .tup [.int .i64 (n:Nat),.int .i64 (t:Nat),.bool true]:=by
 unfold szv;rw[h];dsimp only;rw[if_pos h0]
theorem zp2{H:Heap}(id:Int)(h0:-9223372036854775808≤id):Ok (sem T zcf [.int .i64 id]) H λr H'=>r=szv id∧H'=H:=zsf id h0
end Go.Ax.SU
namespace Go.Ax
open SU
end Go.Ax
/- Lk5 -/
namespace Go.Ax.SU
open Go.Ax
abbrev SS:=Option (Ky×Int×Int×Nat)
def sndC(id slot:Int)(kv:V)(e st:Int)(kid c:Nat):List V:=[.int .i64 id,.int .i64 slot,kv,.int .i64 e,.int .i64 st,.int .u64 (kid:Nat),.int .u64 (c:Nat)]
def SndM(lo:Nat)(H:Heap)(s:Nat)(id slot:Int)(x:SS):Prop:=s<H.next ∧
 match x with
 | none=>H.get s=some ⟨zaH,sndC id slot .nilp 0 0 0 0,none⟩
 | some (K,e,st,c)=>c<18446744073709551616∧∃k,H.get s=some ⟨zaH,sndC id slot (.ptr k 0) e st K.kid c,none⟩∧KeyM H k K∧zlU lo H k
theorem zlU.to{lo k:Nat}{H H':Heap}(h:zlU lo H k)(e:H'.get k=H.get k):zlU lo H' k:=λx y a av sv g=>h x y a av sv (e ▸ g)
theorem zlU.zero{k:Nat}{H:Heap}:zlU 0 H k:=λ_ _ _ _ _ _ _ _=>Nat.zero_le _
theorem zlU.low{lo lo' k:Nat}{H:Heap}(h:zlU lo H k)(hl:lo'≤lo):zlU lo' H k:=λx y a av sv g j hj=>Nat.le_trans hl (h x y a av sv g j hj)
theorem KeyM.atL{lo:Nat}{S:List Nat}{H H':Heap}{k:Nat}{K:Ky}(h:KeyM H k K)(hl:zlU lo H k)(s:AtS S H H')(hS:∀i∈S,i<lo∧∃b,H.get i=some b∧b.ty≠zaU∧b.ty≠zaY∧b.ty≠zav):KeyM H' k K∧H'.get k=H.get k:=by
 obtain⟨a,av,sv,h1,h2,h3,h4⟩:=h.mem;obtain⟨id,g1,g2,l1,l2,hw⟩:=h2;have hne:∀{i b},H.get i=some b→(b.ty=zaU∨b.ty=zaY∨b.ty=zav)→i∉S:=λhb ho e=>by
  obtain⟨_,b',hb',o1,o2,o3⟩:=hS _ e;rw[hb]at hb';injection hb' with hb'
  subst hb';rcases ho with o|o|o
  ·exact o1 o
  ·exact o2 o
  ·exact o3 o
 have by':∀{v:V} {l:List Nat},By 0 H v l→(∀j,v.pid=some j→lo≤j)→By 0 H' v l:=λhv hj=>Lc.atS hv s λi hi e=>by
  have:=(hS _ e).1;have:=hj i hi;omega
 have hlo:=hl _ _ _ _ _ h1;have ek:=s.same k h.low (hne h1 (.inl rfl));refine⟨⟨h.good,⟨a,av,sv,ek.trans h1,⟨id,?_,?_,Nat.lt_of_lt_of_le l1 s.next,Nat.lt_of_lt_of_le l2 s.next,hw⟩,by' h3 λj hj=>hlo j (.inl hj),by' h4 λj hj=>hlo j (.inr hj)⟩,Nat.lt_of_lt_of_le h.low s.next⟩,ek⟩
 ·rw[s.same a l1 (hne g1 (.inr (.inl rfl)))]; exact g1
 ·rw[s.same id l2 (hne g2 (.inr (.inr rfl)))]; exact g2
theorem zaI(H:Heap)(k:Nat)(a b:Option Blk):(H.set k a).set k b=H.set k b:=by
 unfold Heap.set;congr 1;funext i;dsimp only;split<;>rfl
theorem zvJ(id slot:Int){kv:V}(e st:Int)(kid c:Nat)(hk:kv = .nilp∨∃k,kv = .ptr k 0):Odd ⟨zaH,sndC id slot kv e st kid c,none⟩:=by
 refine⟨show zaH≠zaU by decide,show zaH≠zaY by decide,show zaH≠zav by decide,λv hv n e=>?_⟩;subst e;unfold sndC at hv;rcases hk with rfl|⟨k,rfl⟩<;>simp at hv
theorem SndM.grow{lo:Nat}{H H':Heap}{s:Nat}{id slot:Int}{x:SS}(h:SndM lo H s id slot x)(g:Grow H H'):SndM lo H' s id slot x:=by
 obtain⟨h0,h1⟩:=h;refine⟨Nat.lt_of_lt_of_le h0 g.next,?_⟩;cases x with
 | none=>exact(g.same s h0).trans h1
 | some q =>
  obtain⟨K,e,st,c⟩:=q;obtain⟨h2,k,h3,h4,h5⟩:=h1;exact⟨h2,k,(g.same s h0).trans h3,h4.grow g,h5.to (g.same k h4.low)⟩
theorem SndM.atS{lo:Nat}{S:List Nat}{H H':Heap}{s:Nat}{id slot:Int}{x:SS}(h:SndM lo H s id slot x)(g:AtS S H H')(hs:s∉S)(hS:∀i∈S,∃b,H.get i=some b∧Odd b):SndM lo H' s id slot x:=by
 obtain⟨h0,h1⟩:=h;refine⟨Nat.lt_of_lt_of_le h0 g.next,?_⟩;cases x with
 | none=>exact(g.same s h0 hs).trans h1
 | some q =>
  obtain⟨K,e,st,c⟩:=q;obtain⟨h2,k,h3,h4,h5⟩:=h1;have hk:k∉S:=λe=>by
   obtain⟨a,av,sv,m1,_⟩:=h4.mem;obtain⟨b,hb,ho⟩:=hS k e;rw[m1]at hb; injection hb with hb; subst hb; exact ho.1 rfl
  exact⟨h2,k,(g.same s h0 hs).trans h3,h4.atS g hS,h5.to (g.same k h4.low hk)⟩
theorem SndM.atL{lo:Nat}{S:List Nat}{H H':Heap}{s:Nat}{id slot:Int}{x:SS}(h:SndM lo H s id slot x)(g:AtS S H H')(hs:s∉S)(hS:∀i∈S,i<lo∧∃b,H.get i=some b∧b.ty≠zaU∧b.ty≠zaY∧b.ty≠zav):SndM lo H' s id slot x:=by
 obtain⟨h0,h1⟩:=h;refine⟨Nat.lt_of_lt_of_le h0 g.next,?_⟩;cases x with
 | none=>exact(g.same s h0 hs).trans h1
 | some q =>
  obtain⟨K,e,st,c⟩:=q;obtain⟨h2,k,h3,h4,h5⟩:=h1;obtain⟨h6,h7⟩:=h4.atL h5 g hS;exact⟨h2,k,(g.same s h0 hs).trans h3,h6,h5.to h7⟩
theorem zlF{H:Heap}(id slot:Int)(h0:-9223372036854775808≤id):Ok (sem T zdc [.int .i64 id,.int .i64 slot]) H λr H'=>Grow H H' ∧
  ((szv id = .tup [.int .i64 0,.int .i64 0,.bool false]∨slot<0∨8≤slot)∧r = .tup [.nilp,.int .i64 1] ∨
   ∃n t s,0≤id∧szs id.toNat=some (n,t)∧0≤slot∧slot<8∧r = .tup [.ptr s 0,.int .i64 0]∧(∀lo,SndM lo H' s id slot none)∧H.next≤s):=by
 refine zkV ?_;unfold zhy uL uE uG uH uO uc uq;refine zae (zp2 id h0) ?_;rintro _ H ⟨rfl,rfl⟩;by_cases hz:id<0∨szs id.toNat=none
 ·rw[zsd hz];simp(disch:=omega)only[↓RD,RZ];exact⟨Grow.refl _,.inl (.inl trivial)⟩
 ·obtain⟨⟨n,t⟩,hs⟩:∃q,szs id.toNat=some q:=by
   cases h:szs id.toNat with
   | none=>exact absurd (.inr h) hz
   | some q=>exact⟨q,rfl⟩
  have h0':0≤id:=by
   rcases Int.lt_or_le id 0 with h|h
   ·exact absurd (.inl h) hz
   ·exact h
  rw[zlV h0' hs];by_cases h1:slot<0
  ·have d1:decide (slot<0)=true:=decide_eq_true h1;simp(disch:=omega)only[↓RD,RZ,d1];exact⟨Grow.refl _,.inl (.inr (.inl h1))⟩
  ·have d1:decide (slot<0)=false:=decide_eq_false h1;by_cases h2:8≤slot
   ·have d2:decide (8≤slot)=true:=decide_eq_true h2;simp(disch:=omega)only[↓RD,RZ,d1,d2];exact⟨Grow.refl _,.inl (.inr (.inr h2))⟩
   ·have d2:decide (8≤slot)=false:=decide_eq_false h2;simp(disch:=omega)only[↓RD,RZ,eq_self,seval,d1,d2];refine⟨Grow.new _ _,.inr ⟨n,t,H.next,h0',hs,by omega,by omega,rfl,λ_=>⟨by rw[zaf]; omega,zag _ _⟩,Nat.le_refl _⟩⟩
def useS(id slot:Int)(n t:Nat)(x:SS)(e st:Int)(base:List Nat):SS×Nat :=
 if ¬zfD e st slot then (x,1) else
 match x with
 | none=>(some (drv id.toNat (kidN e st slot) n t base,e,st,0),0)
 | some (K,e0,st0,c0)=>if ztO K.kid (kidN e st slot)=false then (some (K,e0,st0,c0),9) else (some (drv id.toNat (kidN e st slot) n t base,e,st,0),0)
theorem zv4{e st sl:Int}(h:zfD e st sl):kidN e st sl<16777216:=by unfold zfD at h; unfold kidN; omega
theorem Use_ok{ll lo s n t:Nat}{H:Heap}{id slot:Int}{x:SS}{bv:V}{base:List Nat}(hx:SndM ll H s id slot x)(h0:0≤id) (hsz:szs id.toNat=some (n,t)) (e st:Int) (hb:By lo H bv base) (b8:Ok8 base) (bl:base.length≤1099511627776) (hll:ll≤H.next:=by omega) :
  Ok (sem T zcP [.ptr s 0,.int .i64 e,.int .i64 st,bv]) H λr H'=>r = .int .i64 ((useS id slot n t x e st base).2:Nat)∧SndM ll H' s id slot (useS id slot n t x e st base).1∧AtS [s] H H':=by
 refine zjY ?_;unfold zgF uL uT uNFM uNF uE uB uG uH uc uq;have s0:=hx.1;have key:∀(kv:V) (e0 st0:Int) (kid0 c0:Nat),(kv = .nilp∨∃k,kv = .ptr k 0)→H.get s=some ⟨zaH,sndC id slot kv e0 st0 kid0 c0,none⟩→zfD e st slot →
   Ok (sem T zco [.int .i64 id,.int .u64 (kidN e st slot:Nat),bv]) H λr H1=>∃k,r = .tup [.ptr k 0,.int .i64 0]∧H1.get s=some ⟨zaH,sndC id slot kv e0 st0 kid0 c0,none⟩∧Grow H H1 ∧
    SndM ll (H1.set s (some ⟨zaH,sndC id slot (.ptr k 0) e st (kidN e st slot) 0,none⟩)) s id slot (some (drv id.toNat (kidN e st slot) n t base,e,st,0)):=by
  intro kv e0 st0 kid0 c0 hkv hg hy;have kl:=zv4 hy;refine zam (zxj (by omega) (by omega) hb b8 bl) ?_;rintro r H1 ⟨g,⟨h1|h1,_⟩|⟨n',t',k,h1,h2,rfl,h4,h5,h6⟩⟩
  ·omega
  ·rw[hsz]at h1; cases h1
  ·rw[hsz]at h2;injection h2 with h2
   injection h2 with e1 e2
   subst e1 e2;have g1:=(g.same s s0).trans hg;have:=g.next;refine⟨k,rfl,g1,g,by rw[zan]; omega,by decide,k,zai _ _ _,?_,(h6.low hll).to (zaj _ _ (by omega))⟩;exact h4.atS (AtS.set (S:=[s]) H1 (by simp) _) λi hi=>by
    simp only[List.mem_singleton]at hi;subst hi;exact⟨_,g1,zvJ _ _ _ _ _ _ hkv⟩
 obtain⟨x0,hx1⟩:=hx;have hko:=λH=>@zmE _ _ _ _ (@zv3 H e st slot);by_cases hy:zfD e st slot
 ·have kv:kidv e st slot = .tup [.int .u64 (kidN e st slot:Nat),.int .i64 0]:=by unfold kidv; rw[if_pos hy]
  rw[kv]at hko;have kl:=zv4 hy;cases x with
  | none =>
   have eu:useS id slot n t none e st base=(some (drv id.toNat (kidN e st slot) n t base,e,st,0),0):=by simp[useS,hy]
   have hx1:H.get s=some ⟨zaH,sndC id slot .nilp 0 0 0 0,none⟩:=hx1;rw[eu];have hk:=key _ _ _ _ _ (.inl rfl) hx1 hy;unfold sndC at hx1;simp(disch:=omega)only[↓RD,RZ,hx1,hko];refine zae hk ?_;rintro _ H1 ⟨k,rfl,g1,s1,hs⟩;have a1:AtS [s] H (H1.set s (some ⟨zaH,sndC id slot (.ptr k 0) e st (kidN e st slot) 0,none⟩)):=(Grow.atS s1 _).trans (AtS.set _ (by simp) _);unfold sndC at *;simp(disch:=first|omega|(simp only[RY]<;>omega)|decide)only[↓RD,RZ,eq_self,Int.reduceToNat,Int.reduceAdd,Nat.reduceAdd,Nat.reduceSub,Nat.reduceMul,Nat.reduceLeDiff,g1,zaI];exact⟨rfl,hs,a1⟩
  | some q =>
   obtain⟨K,e0,st0,c0⟩:=q;obtain⟨hc,k0,hx1,hkm,hkl⟩:=hx1;have hlt:=λH=>@zmE _ _ _ _ (@zrK H K.kid (kidN e st slot) hkm.good.kid (by omega));cases hl:ztO K.kid (kidN e st slot) with
   | false =>
    have eu:useS id slot n t (some (K,e0,st0,c0)) e st base=(some (K,e0,st0,c0),9):=by simp[useS,hy,hl]
    rw[hl]at hlt;rw[eu];have hx2:=hx1;unfold sndC at hx1;simp(disch:=omega)only[↓RD,RZ,hx1,hko,hlt];exact⟨rfl,⟨x0,hc,k0,hx2,hkm,hkl⟩,AtS.refl _ _⟩
   | true =>
    have eu:useS id slot n t (some (K,e0,st0,c0)) e st base=(some (drv id.toNat (kidN e st slot) n t base,e,st,0),0):=by simp[useS,hy,hl]
    rw[hl]at hlt;rw[eu];have hk:=key _ _ _ _ _ (.inr ⟨k0,rfl⟩) hx1 hy;unfold sndC at hx1;simp(disch:=omega)only[↓RD,RZ,hx1,hko,hlt];refine zae hk ?_;rintro _ H1 ⟨k,rfl,g1,s1,hs⟩;have a1:AtS [s] H (H1.set s (some ⟨zaH,sndC id slot (.ptr k 0) e st (kidN e st slot) 0,none⟩)):=(Grow.atS s1 _).trans (AtS.set _ (by simp) _);unfold sndC at *;simp(disch:=first|omega|(simp only[RY]<;>omega)|decide)only[↓RD,RZ,eq_self,Int.reduceToNat,Int.reduceAdd,Nat.reduceAdd,Nat.reduceSub,Nat.reduceMul,Nat.reduceLeDiff,g1,zaI];exact⟨rfl,hs,a1⟩
 ·have kv:kidv e st slot = .tup [.int .u64 0,.int .i64 1]:=by unfold kidv; rw[if_neg hy]
  rw[kv]at hko;have eu:useS id slot n t x e st base=(x,1):=by simp[useS,hy]
  rw[eu];cases x with
  | none =>
   have hx1:H.get s=some ⟨zaH,sndC id slot .nilp 0 0 0 0,none⟩:=hx1;have hx2:=hx1;unfold sndC at hx1;simp(disch:=omega)only[↓RD,RZ,hx1,hko];exact⟨rfl,⟨x0,hx2⟩,AtS.refl _ _⟩
  | some q =>
   obtain⟨K,e0,st0,c0⟩:=q;obtain⟨hc,k0,hx1,hkm,hkl⟩:=hx1;have hx2:=hx1;unfold sndC at hx1;simp(disch:=omega)only[↓RD,RZ,hx1,hko];exact⟨rfl,⟨x0,hc,k0,hx2,hkm,hkl⟩,AtS.refl _ _⟩
def sealS(x:SS)(p:List Nat):SS :=
 match x with
 | none=>none
 | some (K,e,st,c)=>if 1000<p.length then some (K,e,st,c) else some (K,e,st,(c+1)%18446744073709551616)
theorem SealS_ok{ll lo1 lo2 s:Nat}{H:Heap}{id slot:Int}{x:SS}{mv pv:V}{m p:List Nat}(hx:SndM ll H s id slot x)(hm:By lo1 H mv m)(m8:Ok8 m)(hp:By lo2 H pv p)(p8:Ok8 p)(hml:m.length≤274877906944)(hpl:p.length≤1099511627776) :
  Ok (sem T zcy [.ptr s 0,mv,pv]) H λr H'=>SndM ll H' s id slot (sealS x p)∧AtS [s] H H' ∧
   match x with
   | none=>r = .tup [.nils,.int .i64 10]
   | some (K,e,st,c)=>if 1000<p.length then r = .tup [.nils,.int .i64 4] else ∃v,r = .tup [v,.int .i64 0]∧By H.next H' v (zjp K c m p):=by
 refine zju ?_;unfold zfY uL uT uNFM uNF uE uB uc uq;obtain⟨x0,hx1⟩:=hx;cases x with
 | none =>
  have hx1:H.get s=some ⟨zaH,sndC id slot .nilp 0 0 0 0,none⟩:=hx1;have hx2:=hx1;unfold sndC at hx1;simp(disch:=omega)only[↓RD,RZ,hx1];exact⟨⟨x0,hx2⟩,AtS.refl _ _⟩
 | some q =>
  obtain⟨K,e0,st0,c0⟩:=q;obtain⟨hc,k0,hx1,hkm,hkl⟩:=hx1;have hx2:=hx1;unfold sndC at hx1;simp(disch:=omega)only[↓RD,RZ,hx1];refine zae (Seal_ok hkm hc hm m8 hp p8 hml hpl) ?_;rintro _ H1 ⟨s1,h1⟩;have g1:=(s1.same s x0).trans hx1;have g2:=(s1.same s x0).trans hx2;have n1:=s1.next;split at h1
  ·rename_i h3;subst h1;simp(disch:=omega)only[↓RD,RZ];refine⟨?_,Grow.atS s1 _,?_⟩
   ·unfold sealS; dsimp only; rw[if_pos h3]; exact⟨by omega,hc,k0,g2,hkm.grow s1,hkl.to (s1.same k0 hkm.low)⟩
   ·rw[if_pos h3]; trivial
  ·rename_i h3;obtain⟨v,rfl,hv⟩:=h1;have w1:IntKind.u64.wrap (((c0:Nat):Int)+1)=(((c0+1)%18446744073709551616:Nat):Int):=by rw[wrap_u64]; omega
   simp(disch:=omega)only[↓RD,RZ,eq_self,seval,g1,w1];have a1:AtS [s] H (H1.set s (some ⟨zaH,sndC id slot (.ptr k0 0) e0 st0 K.kid ((c0+1)%18446744073709551616),none⟩)):=(Grow.atS s1 _).trans (AtS.set _ (by simp) _);refine⟨?_,a1,?_⟩
   ·unfold sealS; dsimp only; rw[if_neg h3];have hks:k0≠s:=λe=>by
     obtain⟨a,av,sv,m1,_⟩:=hkm.mem;rw[e,hx2]at m1;injection m1 with m1
     injection m1 with m1
     exact absurd m1 (show zaH≠zaU by decide)
    refine⟨by rw[zan]; omega,Nat.mod_lt _ (by decide),k0,zai _ _ _,?_,hkl.to ((zaj _ _ hks).trans (s1.same k0 hkm.low))⟩;exact(hkm.grow s1).atS (AtS.set (S:=[s]) H1 (by simp) _) λi hi=>by
     simp only[List.mem_singleton]at hi;subst hi;exact⟨_,g2,zvJ _ _ _ _ _ _ (.inr ⟨k0,rfl⟩)⟩
   ·rw[if_neg h3];exact⟨v,rfl,Lc.atS hv (AtS.set (S:=[s]) H1 (by simp) _) λi hi e=>by
     simp only[List.mem_singleton]at e;subst e;have:=(hv.own i hi).1;omega⟩
end Go.Ax.SU
/- Ax43 -/
namespace Go.Ax
structure Rsu where
 u:Nat
def Heap.pluc(H:Heap)(G:Rsu):Heap:=H
structure Dcl (H:Heap) (G:Rsu):Prop where
 cl:∀i,H.next≤i→H.get i=none
 lo:G.u≤H.next
section
variable {G:Rsu} {H H':Heap}
theorem Dcl.get(h:Dcl H G){id:Nat}{b:Blk}(hb:H.get id=some b):(H.pluc G).get id=some b:=hb
theorem Dcl.lt(h:Dcl H G){id:Nat}{b:Blk}(hb:H.get id=some b):id<H.next:=by
 by_cases hl:id<H.next
 ·exact hl
 ·rw[h.cl id (by omega)]at hb; cases hb
theorem Dcl.set(h:Dcl H G){id:Nat}{b:Blk}(hb:H.get id=some b)(o:Option Blk):(H.pluc G).set id o=(H.set id o).pluc G∧Dcl (H.set id o) G:=by
 have hl:=h.lt hb;refine⟨rfl,⟨λi hi=>?_,h.lo⟩⟩;have hi:H.next≤i:=hi;rw[zaj _ _ (by omega)];exact h.cl i hi
theorem Dcl.new(h:Dcl H G)(b:Blk):(H.pluc G).new b=(H.new b).pluc G∧Dcl (H.new b) G:=by
 refine⟨rfl,⟨λi hi=>?_,by rw[zaf]; have:=h.lo; omega⟩⟩;rw[zaf]at hi;rw[zaM _ _ (by omega)];exact h.cl i (by omega)
def CfR(G:Rsu){α:Type}(x y:M α):Prop:=∀H a H',Dcl H G→x H=some (a,H')→y (H.pluc G)=some (a,H'.pluc G)∧Dcl H' G
abbrev CfM(G:Rsu){α:Type}(x:M α):Prop:=CfR G x x
section
variable {α β:Type}
theorem zb3(v:α):CfM G (M.pure v):=by
 intro H a H' hd h;simp only[M.pure,Option.some.injEq,Prod.mk.injEq]at h ⊢;obtain⟨rfl,rfl⟩:=h;exact⟨⟨rfl,rfl⟩,hd⟩
theorem zcq{y:M α}:CfR G M.fail y:=by intro H a H' hd h; cases h
theorem zfC(o:Option α):CfM G (M.lift o):=by
 intro H a H' hd h;cases o with
 | none=>cases h
 | some v=>exact zb3 v H a H' hd h
theorem zbv{x x':M α}{f g:α→M β}(h:CfR G x x') (k:∀v,CfR G (f v) (g v)):CfR G (x.bind f) (x'.bind g):=by
 intro H a H' hd e;obtain⟨v,H1,h1,h2⟩:=bind_some e;obtain⟨e1,d1⟩:=h H v H1 hd h1;obtain⟨e2,d2⟩:=k v H1 a H' d1 h2;exact⟨by rw[bind_ok e1]; exact e2,d2⟩
theorem cf_ite(c:V){x x' y y':M α}(h:CfR G x y)(k:CfR G x' y'):CfR G (M.ite c x x') (M.ite c y y'):=by
 cases c<;>first|exact zcq|skip
 rename_i b;cases b
 ·exact k
 ·exact h
theorem zdA{H:Heap}{a v:α}{H':Heap}(hd:Dcl H G) (h:(v,H)=(a,H')):(some (v,H.pluc G):Option (α×Heap))=some (a,H'.pluc G)∧Dcl H' G:=by
 injection h with h1 h2
 subst h1 h2;exact⟨rfl,hd⟩
theorem zlC{H:Heap}{a v:α}{H':Heap}{id:Nat}{b:Blk}{o:Option Blk}(hd:Dcl H G)(hb:H.get id=some b) (h:(v,H.set id o)=(a,H')):(some (v,(H.pluc G).set id o):Option (α×Heap))=some (a,H'.pluc G)∧Dcl H' G:=by
 injection h with h1 h2
 subst h1 h2;obtain⟨e,d⟩:=hd.set hb o;exact⟨by rw[e],d⟩
theorem zlD{H:Heap}{a v:α}{H':Heap}{b:Blk}(hd:Dcl H G) (h:(v,H.new b)=(a,H')):(some (v,(H.pluc G).new b):Option (α×Heap))=some (a,H'.pluc G)∧Dcl H' G:=by
 injection h with h1 h2
 subst h1 h2;obtain⟨e,d⟩:=hd.new b;exact⟨by rw[e],d⟩
theorem cf_snew{H:Heap}{a v:α}{H':Heap}{id:Nat}{b c:Blk}{o:Option Blk}(hd:Dcl H G)(hb:H.get id=some b) (h:(v,(H.set id o).new c)=(a,H')):(some (v,((H.pluc G).set id o).new c):Option (α×Heap))=some (a,H'.pluc G)∧Dcl H' G:=by
 injection h with h1 h2
 subst h1 h2;obtain⟨e,d⟩:=hd.set hb o;obtain⟨e',d'⟩:=d.new c;exact⟨by rw[e,e'],d'⟩
theorem zd8{p:Prop}[Decidable p] {X Y:Option (α×Heap)} {X' Y':Option (α×Heap)} {a:α} {H':Heap} {R:Prop} (h1:X=some (a,H')→X'=some (a,H'.pluc G)∧R) (h2:Y=some (a,H')→Y'=some (a,H'.pluc G)∧R) (h:(if p then X else Y)=some (a,H')):(if p then X' else Y')=some (a,H'.pluc G)∧R:=by
 by_cases hp:p
 ·rw[if_pos hp]at h ⊢; exact h1 h
 ·rw[if_neg hp]at h ⊢; exact h2 h
theorem zaP{a:α}{H':Heap}{X:Prop} (h:(none:Option (α×Heap))=some (a,H')):X:=by cases h
theorem zgJ{H:Heap}{id:Nat} {k k':Blk→Option (α×Heap)} {a:α} {H':Heap} (hd:Dcl H G) (h:(H.get id).bind k=some (a,H')) (hk:∀b,H.get id=some b→k b=some (a,H')→k' b=some (a,H'.pluc G)∧Dcl H' G):((H.pluc G).get id).bind k'=some (a,H'.pluc G)∧Dcl H' G:=by
 rw[Option.bind_eq_some_iff]at h;obtain⟨b,hb,h⟩:=h;rw[hd.get hb];exact hk b hb h
theorem znr{γ:Type}{o:Option γ}{k k':γ→α×Heap}{a:α}{H':Heap}{R:Prop} (h:o.map k=some (a,H')) (hk:∀b,some (k b)=some (a,H')→some (k' b)=some (a,H'.pluc G)∧R):o.map k'=some (a,H'.pluc G)∧R:=by
 cases o with
 | none=>cases h
 | some b=>exact hk b h
end
theorem za9{γ:Type}{x y:γ}(h:some x=some y):x=y:=Option.some.inj h
theorem zpH(n:Option Nat)(p:V):CfM G (mload n p):=by
 intro H a H' hd h;cases p<;>first|exact zaP h|skip
 ·exact zgJ hd h λb hb h=>znr h λv h=>zdA hd (za9 h)
 ·exact znr h λv h=>zdA hd (za9 h)
theorem zsR(n:Nat)(p x:V):CfM G (mstore n p x):=by
 intro H a H' hd h;cases p<;>first|exact zaP h|skip
 exact zgJ hd h λb hb h=>zd8 (λh=>zlC hd hb (za9 h)) zaP h
theorem cf_box(ty:TypeId)(x:V):CfM G (mbox ty x):=by
 intro H a H' hd h;exact zd8 (λh=>zlD hd (za9 h)) zaP h
theorem zwQ(ty:TypeId)(l:Nat)(z:List V) (ps:List (Nat×Nat×V)):CfM G (mslit ty l z ps):=by
 intro H a H' hd h;exact znr h λcs h=>zlD hd (za9 h)
theorem zru(hd:Dcl H G){e:Nat}{v:V}{q:List V×Nat}(h:rcells e H v=some q):rcells e (H.pluc G) v=some q:=h
theorem zr8(hd:Dcl H G){e:Nat}{v:V}{q:List V×Nat}(h:acells e H v=some q):acells e (H.pluc G) v=some q:=h
theorem cf_ac{α:Type}{H:Heap}{e:Nat}{v:V} {k k':List V×Nat→Option (α×Heap)} {a:α} {H':Heap} (hd:Dcl H G) (h:(acells e H v).bind k=some (a,H')) (hk:∀q,k q=some (a,H')→k' q=some (a,H'.pluc G)∧Dcl H' G):(acells e (H.pluc G) v).bind k'=some (a,H'.pluc G)∧Dcl H' G:=by
 rw[Option.bind_eq_some_iff]at h;obtain⟨q,hq,h⟩:=h;rw[zr8 hd hq];exact hk q h
theorem cf_rc{α:Type}{H:Heap}{e:Nat}{v:V} {k k':List V×Nat→Option (α×Heap)} {a:α} {H':Heap} (hd:Dcl H G) (h:(rcells e H v).bind k=some (a,H')) (hk:∀q,k q=some (a,H')→k' q=some (a,H'.pluc G)∧Dcl H' G):(rcells e (H.pluc G) v).bind k'=some (a,H'.pluc G)∧Dcl H' G:=by
 rw[Option.bind_eq_some_iff]at h;obtain⟨q,hq,h⟩:=h;rw[zru hd hq];exact hk q h
theorem zlb(ty e b:Nat)(q:List V×Nat)(x:V):CfM G (mappendq ty e b q x):=by
 intro H a H' hd h;cases x<;>first|exact zaP h|skip
 ·exact zd8 (λh=>zdA hd (za9 h)) (zd8 (λh=>zlD hd (za9 h)) zaP) h
 ·rename_i id off len cap;refine zgJ hd h λb hb h=>zd8 (λh=>?_) zaP h;cases cap with
  | fix c=>exact zd8 (zd8 (λh=>zlC hd hb (za9 h)) zaP) (zd8 (λh=>zlD hd (za9 h)) zaP) h
  | opn ee=>exact zd8 (zd8 (λh=>zdA hd (za9 h)) (zd8 (λh=>cf_snew hd hb (za9 h)) zaP)) (zd8 (λh=>zdA hd (za9 h)) (zd8 (λh=>zlC hd hb (za9 h)) zaP)) h
 ·exact zd8 (λh=>zdA hd (za9 h)) zaP h
theorem zns(ty e b:Nat)(x y:V):CfM G (mappend ty e b x y):=by
 intro H a H' hd h;exact cf_ac hd h λq h=>zlb ty e b q x H a H' hd h
theorem zoJ(ty b:Nat)(z:List V)(x y:V):CfM G (mappendz ty b z x y):=by
 intro H a H' hd h;cases y<;>first|exact zaP h|skip
 exact zd8 (λh=>zlb _ _ _ _ _ H a H' hd h) zaP h
theorem zwV(e:Nat)(x y:V):CfM G (mcopy e x y):=by
 intro H a H' hd h;refine cf_ac hd h λq h=>?_;cases x<;>first|exact zaP h|skip
 ·exact zdA hd (za9 h)
 ·exact zgJ hd h λb hb h=>zd8 (λh=>zlC hd hb (za9 h)) zaP h
theorem zsQ(x:V):CfM G (mtostr x):=by
 intro H a H' hd h;exact cf_rc hd h λq h=>znr h λv h=>zdA hd (za9 h)
theorem zk9(ty:TypeId)(x:V):CfM G (mtobytes ty x):=by
 intro H a H' hd h;cases x<;>first|exact zaP h|skip
 exact zd8 (λh=>zlD hd (za9 h)) zaP h
theorem zq0(ty:TypeId)(x:V):CfM G (mremark ty x):=by
 intro H a H' hd h;cases x<;>first|exact zaP h|skip
 ·exact zk9 ty (.str _) H a H' hd h
 ·exact zgJ hd h λb hb h=>zd8 zaP (λh=>zdA hd (za9 h)) h
theorem zoH(ty b:Nat)(z:List V)(l c:V):CfM G (mmkslice ty b z l c):=by
 intro H a H' hd h;unfold mmkslice at h ⊢;split at h
 ·exact zd8 (λh=>zlD hd (za9 h)) zaP h
 ·exact zaP h
theorem zwS(ty:TypeId)(x:V):CfM G (mmknz ty x):=by
 intro H a H' hd h;unfold mmknz at h ⊢;split at h
 ·exact zd8 (λh=>zlD hd (za9 h)) zaP h
 ·exact zaP h
theorem zqZ(e:Nat)(x lo hi:V):CfM G (mslice2 e x lo hi):=by
 intro H a H' hd h;unfold mslice2 at h ⊢;split at h
 ·exact zgJ hd h λb hb h=>zd8 (λh=>zdA hd (za9 h)) zaP h
 ·exact zaP h
theorem zsT(z:List V)(x:V):CfM G (mclear z x):=by
 intro H a H' hd h;cases x<;>first|exact zaP h|skip
 exact zd8 (λh=>zdA hd (za9 h)) (λh=>zgJ hd h λb hb h=>zd8 (λh=>zlC hd hb (za9 h)) zaP h) h
theorem zsS(ty:TypeId):CfM G (mmkmap ty):=by
 intro H a H' hd h;exact zlD hd (za9 h)
theorem zq3(mk:MK)(z:V)(ok:Bool)(x k:V):CfM G (mlookup mk z ok x k):=by
 intro H a H' hd h;cases x<;>first|exact zaP h|skip
 exact zgJ hd h λb hb h=>zd8 (λh=>znr h λv h=>zdA hd (za9 h)) zaP h
theorem zq1(mk:MK)(x k v:V):CfM G (mmapset mk x k v):=by
 intro H a H' hd h;cases x<;>first|exact zaP h|skip
 exact zgJ hd h λb hb h=>zd8 (λh=>znr h λv h=>zlC hd hb (za9 h)) zaP h
theorem zq2(x:V):CfM G (mmaplen x):=by
 intro H a H' hd h;cases x<;>first|exact zaP h|skip
 rename_i id;have h':(H.get id).bind (λb=>some (V.int .i64 ((b.cells.length/2:Nat):Int),H))=some (a,H'):=by rw[←h]; simp only[mmaplen]; cases H.get id<;>rfl
 have:=zgJ (k':=λb=>some (V.int .i64 ((b.cells.length/2:Nat):Int),H.pluc G)) hd h' λb hb h=>zdA hd (za9 h);rw[←this.1];exact⟨by simp only[mmaplen]; cases (H.pluc G).get id<;>rfl,this.2⟩
theorem zsU(k:IntKind)(p:V):CfM G (matoload k p):=by
 intro H a H' hd h;unfold matoload at h ⊢;rw[Option.bind_eq_some_iff]at h;obtain⟨⟨v,H1⟩,h1,h⟩:=h;obtain⟨e1,d1⟩:=zpH none p H v H1 hd h1;rw[e1];dsimp only[Option.bind_some]at h ⊢;cases v<;>first|exact zaP h|skip
 exact zd8 (λh=>zdA d1 (za9 h)) zaP h
theorem zwW(k:IntKind)(p y:V):CfM G (matoadd k p y):=by
 intro H a H' hd h;unfold matoadd at h ⊢;split at h
 ·refine zgJ hd h λb hb h=>?_;split at h
  ·rename_i hc;exact zd8 (λh=>zlC hd hb (za9 h)) zaP h
  ·exact zaP h
 ·exact zaP h
theorem zoI(p:Bool)(o:Nat)(x n:V):CfM G (mmapdrop p o x n):=by
 intro H a H' hd h;unfold mmapdrop at h ⊢;split at h
 ·refine zgJ hd h λb hb h=>?_;split at h
  ·rename_i hc;exact zgJ hd h λb hb h=>znr h λv h=>zlC hd hb (za9 h)
  ·exact zaP h
 ·exact zaP h
section
variable {g:Sem'}
theorem zaF{A:Fr}{x:Arg}{k:V→M V} (h:∀v,CfM G (k v)):CfM G (with1 A x k):=by
 unfold with1;cases x.ev A with
 | none=>exact zcq
 | some v=>exact h v
theorem zl8{A:Fr}{xs:List Arg}{k:List V→M V} (h:∀v,CfM G (k v)):CfM G (withs A xs k):=by
 unfold withs;cases evs A xs with
 | none=>exact zcq
 | some v=>exact h v
theorem cf_run (hg:∀f args,CfM G (g f args)) (A:Fr) (ins:I):CfM G (ins.run g A):=by
 cases ins<;>unfold I.run<;>dsimp only
 case mkmap=>exact zsS _
 case build zero parts=>cases zaW A parts with|none=>exact zcq|some ps=>exact zfC _
 case slit=>rename_i ps; cases zaW A ps with|none=>exact zcq|some ps=>exact zwQ _ _ _ _
 case call f args=>exact zl8 λv=>hg f v
 case mkfn f caps=>exact zl8 λv=>zb3 _
 case callv x args=>exact zaF λv=>zl8 λvs=>by cases v<;>first|exact zcq|exact hg _ _
 case slice ck esz x lo hi mx =>
  refine zaF λv=>?_;split
  ·exact zfC _
  ·exact zcq
 case minmax=>exact zaF λv=>zl8 λvs=>zfC _
 all_goals first
  | exact zaF λv=>zb3 _
  | exact zaF λv=>zfC _
  | exact zaF λv=>zaF λw=>zfC _
  | exact zaF λv=>zaF λw=>zaF λu=>zfC _
  | exact zaF λv=>cf_box _ _
  | exact zaF λv=>zpH _ _
  | exact zaF λv=>zsQ _
  | exact zaF λv=>zk9 _ _
  | exact zaF λv=>zq0 _ _
  | exact zaF λv=>zwS _ _
  | exact zaF λv=>zsT _ _
  | exact zaF λv=>zq2 _
  | exact zaF λv=>zsU _ _
  | exact zaF λv=>zaF λw=>zsR _ _ _
  | exact zaF λv=>zaF λw=>zns _ _ _ _ _
  | exact zaF λv=>zaF λw=>zoJ _ _ _ _ _
  | exact zaF λv=>zaF λw=>zwV _ _ _
  | exact zaF λv=>zaF λw=>zoH _ _ _ _ _
  | exact zaF λv=>zaF λw=>zq3 _ _ _ _ _
  | exact zaF λv=>zaF λw=>zwW _ _ _
  | exact zaF λv=>zaF λw=>zoI _ _ _ _
  | exact zaF λv=>zaF λw=>zaF λu=>zqZ _ _ _ _
  | exact zaF λv=>zaF λw=>zaF λu=>zq1 _ _ _ _
theorem zt9{A:Fr} {gd:Option (Nat×Bool)} {x:M V} (h:CfM G x):CfM G (guarded A gd x):=by
 unfold guarded;cases gd with
 | none=>exact h
 | some p =>
  dsimp only;cases A.get p.1 with
  | none=>exact zcq
  | some v =>
   cases v with
   | bool b =>
    dsimp only;by_cases hb:b=p.2
    ·rw[if_pos hb]; exact h
    ·rw[if_neg hb]; exact zb3 _
   | tup vs=>cases vs with|nil=>exact zb3 _|cons _ _=>exact zcq
   | _=>exact zcq
theorem zua (hg:∀f args,CfM G (g f args)) (A:Fr) (o:AO):CfM G (o.run g A):=zt9 (cf_run hg A o.ins)
theorem cf_ops (hg:∀f args,CfM G (g f args)):∀(l:List AO) (A:Fr),CfM G (zeE g l A)
 | [],A=>zb3 A
 | o::l,A=>zbv (zua hg A o) λv=>cf_ops hg l _
theorem zwP(v:V)(h h':Heap):CfR G (M.unch v h h') (M.unch v (h.pluc G) (h'.pluc G)):=by
 intro H a H' hd e;unfold M.unch at e ⊢;split at e
 ·rename_i hp;rw[if_pos]
  ·exact zdA hd (za9 e)
  ·intro id hid;exact hp id hid
 ·exact zaP e
theorem zpG (un:List (Nat×Nat)) (j:Nat) (h h':Heap):∀rs,CfR G (zbf un j h h' rs) (zbf un j (h.pluc G) (h'.pluc G) rs)
 | []=>zb3 ()
 | (i,a)::rs=>by
  unfold zbf;by_cases hc:un.contains (i,j)=true
  ·rw[if_pos hc,if_pos hc]; exact zbv (zwP a h h') λ_=>zpG un j h h' rs
  ·rw[if_neg hc,if_neg hc]; exact zpG un j h h' rs
theorem zpI (un:List (Nat×Nat)) (i:Nat) (a:V):∀js,CfR G (zbd un i a js) (zbd un i a (js.map λq=>(q.1,q.2.1.pluc G,q.2.2.pluc G)))
 | []=>zb3 ()
 | (j,h,h')::js=>by
  show CfR G (zbd un i a ((j,h,h')::js)) (zbd un i a ((j,h.pluc G,h'.pluc G)::js.map λq=>(q.1,q.2.1.pluc G,q.2.2.pluc G)));unfold zbd;by_cases hc:un.contains (i,j)=true
  ·rw[if_pos hc,if_pos hc]; exact zbv (zwP a h h') λ_=>zpI un i a js
  ·rw[if_neg hc,if_neg hc]; exact zpI un i a js
theorem zwT{α:Type}{f f':Heap→M α} (h:∀H,Dcl H G→CfR G (f H) (f' (H.pluc G))):CfR G (M.getH.bind f) (M.getH.bind f'):=by
 intro H a H' hd e;exact h H hd H a H' hd e
theorem cf_draw (hg:∀f args,CfM G (g f args)) (un:List (Nat×Nat)):∀(l:List AO) (p:Nat) (rs:List (Nat×V)) (js:List (Nat×Heap×Heap)) (A:Fr),CfR G (zaN g un p rs js l A) (zaN g un p rs (js.map λq=>(q.1,q.2.1.pluc G,q.2.2.pluc G)) l A):=by
 intro l
 induction l with
 | nil=>intro p rs js A; exact zb3 A
 | cons o l ih =>
  intro p rs js A;unfold zaN;cases hk:o.ins.kind with
  | read x =>
   dsimp only;unfold zaN.with1';cases x.ev A with
   | none=>exact zbv (zua hg A o) λv=>zbv (zpI un p _ js) λ_=>ih _ _ _ _
   | some a=>exact zbv (zua hg A o) λv=>zbv (zpI un p _ js) λ_=>ih _ _ _ _
  | act=>exact zwT λh hd=>zbv (zua hg A o) λv=>zwT λh' hd'=>zbv (zpG un p h h' rs) λ_=>ih _ _ ((p,h,h')::js) _
  | pure=>exact zbv (zua hg A o) λv=>ih _ _ _ _
  | new=>exact zbv (zua hg A o) λv=>ih _ _ _ _
theorem cf_iter{body:List V→M Res} (h:∀L,CfM G (body L)) (L:List V):CfM G (M.iter body L):=by
 intro H a H' hd e;obtain⟨n,hn⟩:=zee e;have key:∀(n:Nat) (L:List V),CfM G (iterN body n L):=by
  intro n
  induction n with
  | zero=>intro L; exact zcq
  | succ n ih =>
   intro L;show CfM G (M.join (body L) (iterN body n));refine zbv (h L) λr=>?_;cases r with
   | nrm L'=>exact ih L'
   | ex id L'=>exact zb3 _
   | ret L'=>exact zb3 _
 obtain⟨e1,d1⟩:=key n L H a H' hd hn;exact⟨zes e1,d1⟩
theorem zla(A:Fr):∀rv,CfM G (results A rv)
 | []=>zb3 _
 | .tmp t::rs=>zbv (zfC _) λv=>zbv (zla A rs) λvs=>zb3 _
 | .cell t n::rs=>zbv (zfC _) λa=>zbv (zpH n a) λv=>zbv (zla A rs) λvs=>zb3 _
theorem cf_exec (hg:∀f args,CfM G (g f args)) (rv:List RV):∀(c:C) (cx:List (Nat×List Nat)) (J:List Nat) (A:Fr),CfM G (exec g rv c cx J A):=by
 intro c
 induction c with
 | done=>intro cx J A; exact zbv (zfC _) λL=>zb3 _
 | bad=>intro cx J A; exact zcq
 | ops l k ih=>intro cx J A; exact zbv (cf_ops hg l A) λA'=>ih _ _ _
 | draw l un k ih=>intro cx J A; exact zbv (cf_draw hg un l 0 [] [] A) λA'=>ih _ _ _
 | cond x a b iha ihb =>
  intro cx J A;simp only[exec];cases x.ev A with
  | none=>exact zcq
  | some c=>exact cf_ite c (iha _ _ _) (ihb _ _ _)
 | condJ x a b J' W k iha ihb ihk =>
  intro cx J A;simp only[exec];cases x.ev A with
  | none=>exact zcq
  | some c =>
   refine zbv (cf_ite c (iha _ _ _) (ihb _ _ _)) λr=>?_;cases r with
   | nrm L=>exact ihk _ _ _
   | ex id L=>exact zb3 _
   | ret L=>exact zb3 _
 | blk id a J' W k iha ihk =>
  intro cx J A;simp only[exec,M.blk];refine zbv (iha _ _ _) λr=>?_;cases r with
  | nrm L=>exact ihk _ _ _
  | ex i L =>
   dsimp only;by_cases e:i=id
   ·simp only[if_pos e]; exact ihk _ _ _
   ·simp only[if_neg e]; exact zb3 _
  | ret L=>exact zb3 _
 | loop a K W iha =>
  intro cx J A;exact zbv (zfC _) λL=>cf_iter (λL=>iha _ _ _) L
 | exit id =>
  intro cx J A;simp only[exec];cases zi5 cx id with
  | none=>exact zcq
  | some J=>exact zbv (zfC _) λL=>zb3 _
 | ret=>intro cx J A; exact zbv (zla A rv) λL=>zb3 _
theorem cf_fn (hg:∀f args,CfM G (g f args)) (f:Fn') (args:List V):CfM G (f.run g args):=zbv (cf_exec hg _ _ _ _ _) λr=>by
 cases r with
 | ret L=>exact zb3 _
 | nrm L=>exact zcq
 | ex id L=>exact zcq
end
theorem zwU{T:FuncId→Option Fn'}:∀(n:Nat) (f:FuncId) (args:List V),CfM G (deep T n f args)
 | 0,f,args=>zcq
 | n+1,f,args=>by
  unfold deep;cases T f with
  | none=>exact zcq
  | some ir =>
   dsimp only;split
   ·exact cf_fn (zwU n) ir args
   ·exact zcq
theorem zwR{T:FuncId→Option Fn'}(f:FuncId)(args:List V):CfM G (sem T f args):=by
 intro H a H' hd e;unfold sem at e;split at e
 ·obtain⟨e1,d1⟩:=zwU _ f args H a H' hd e;exact⟨zgP e1,d1⟩
 ·cases e
end
def Heap.Cl(H:Heap):Prop:=∀i,H.next≤i→H.get i=none
theorem zdV{H:Heap}(h:H.Cl)(b:Blk):(H.new b).Cl:=λi hi=>by
 rw[zaf]at hi;rw[zaM _ _ (by omega)];exact h i (by omega)
theorem zbZ{H:Heap}(h:H.Cl){id:Nat}(hl:id<H.next)(o:Option Blk):(H.set id o).Cl:=λi hi=>by
 have hi:H.next≤i:=hi;rw[zaj _ _ (by omega)];exact h i hi
theorem zkW{T:FuncId→Option Fn'}{f:FuncId}{args:List V}{H:Heap}{Q:V→Heap→Prop}(hc:H.Cl) (h:Ok (sem T f args) H Q):Ok (sem T f args) H λv H'=>Q v H'∧H'.Cl:=by
 obtain⟨v,H',h1,h2⟩:=h;exact⟨v,H',h1,h2,(zwR (G:=⟨0⟩) f args H v H' ⟨hc,Nat.zero_le _⟩ h1).2.cl⟩
end Go.Ax
/- Ax44 -/
namespace Go.Ax
structure Rn where
 f:Nat→Nat
 g:Nat→Option Nat
 k:Nat
 gf:∀i,g (f i)=some i
 fg:∀i j,g j=some i→f i=j
 suc:∀n,k≤n→f (n+1)=f n+1
mutual
def sh(d:Rn):V→V
 | .ptr id off=>.ptr (d.f id) off
 | .mp id=>.mp (d.f id)
 | .sl id off len cap=>.sl (d.f id) off len cap
 | .rs cells len=>.rs (shL d cells) len
 | .rp cells off=>.rp (shL d cells) off
 | .fn f caps=>.fn f (shL d caps)
 | .agg cells=>.agg (shL d cells)
 | .tup vs=>.tup (shL d vs)
 | .bool b=>.bool b
 | .int k n=>.int k n
 | .str s=>.str s
 | .nilp=>.nilp
 | .nils=>.nils
 | .lit x=>.lit x
 | .any=>.any
def shL(d:Rn):List V→List V
 | []=>[]
 | x::xs=>sh d x::shL d xs
end
section
variable {d:Rn}
theorem ze3(l:List V):shL d l=l.map (sh d):=by
 induction l with
 | nil=>rfl
 | cons x xs ih=>rw[List.map_cons,←ih]; rfl
theorem zb1(l:List V):(shL d l).length=l.length:=by rw[ze3,List.length_map]
theorem zmv(l:List V)(i:Nat):(shL d l)[i]?=l[i]?.map (sh d):=by rw[ze3,List.getElem?_map]
theorem ziE(l:List V)(i:Nat):(shL d l).drop i=shL d (l.drop i):=by rw[ze3,ze3,List.map_drop]
theorem ziD(l:List V)(i:Nat):(shL d l).take i=shL d (l.take i):=by rw[ze3,ze3,List.map_take]
theorem zkO(l m:List V):shL d (l++m)=shL d l++shL d m:=by rw[ze3,ze3,ze3,List.map_append]
theorem zlY(v:V):(sh d v).cells=shL d v.cells:=by cases v<;>simp[sh,shL,V.cells]
theorem zu6(v:V):(sh d v).okc=v.okc:=by cases v<;>simp[sh,V.okc]
theorem ze2(xs:List V)(o:Nat)(ys:List V):splice (shL d xs) o (shL d ys)=shL d (splice xs o ys):=by
 unfold splice;rw[ziD,zb1,ziE,←zkO,←zkO]
theorem zsg(n:Option Nat)(cs:List V)(o:Nat):ldc n (shL d cs) o=(ldc n cs o).map (sh d):=by
 cases n with
 | none=>exact zmv cs o
 | some n =>
  simp only[ldc];rw[zb1];by_cases h:o+n≤cs.length
  ·rw[if_pos h,if_pos h,ziE,ziD]; simp[sh]
  ·rw[if_neg h,if_neg h]; rfl
theorem zvb(op:BinOp)(k:IntKind)(a b:Int):(zcW op k a b).map (sh d)=zcW op k a b:=by
 cases op<;>simp only[zcW]<;>first|rfl|(split<;>rfl)
theorem zu4(op:BinOp)(a b:ByteArray):(zpZ op a b).map (sh d)=zpZ op a b:=by
 cases op<;>simp only[zpZ]<;>first|rfl|(split<;>rfl)
theorem zvc(op:BinOp)(k:FloatKind)(a b:Nat):(zqJ op k a b).map (sh d)=zqJ op k a b:=by
 cases op<;>simp only[zqJ,Option.map_map]<;>rfl
theorem sh_bin(op:BinOp)(x y:V):bin op (sh d x) (sh d y)=(bin op x y).map (sh d):=by
 cases x<;>cases y<;>try (simp[bin,sh]; done)
 ·rename_i k a k' b;simp only[sh];cases op<;>simp only[bin]<;>split<;>first|rfl|exact(zvb _ _ _ _).symm
 ·simp only[sh,bin]; exact(zu4 _ _ _).symm
 ·rename_i x y;simp only[sh];cases x<;>cases y<;>try rfl
  simp only[bin];split
  ·exact(zvc _ _ _ _).symm
  ·rfl
theorem sh_un(op:UnOp)(x:V):un op (sh d x)=(un op x).map (sh d):=by
 cases op<;>cases x<;>rfl
theorem sh_cint(k:IntKind)(x:V):cint k (sh d x)=(cint k x).map (sh d):=by
 cases x<;>try (simp[cint,sh]; done)
 rename_i x;simp only[sh];cases x<;>try rfl
 simp only[cint];split
 ·split<;>rfl
 ·rfl
theorem sh_op1(o:U1)(x:V):op1 o (sh d x)=(op1 o x).map (sh d):=by
 cases o<;>cases x<;>try rfl
 ·rename_i x;simp only[sh];cases x<;>try rfl
  rename_i k b;cases k<;>rfl
 ·rename_i k n;cases k<;>rfl
 ·simp only[sh,op1]; split<;>rfl
 ·simp only[sh,op1]; split<;>rfl
theorem sh_pick(c a b:V):pick (sh d c) (sh d a) (sh d b)=(pick c a b).map (sh d):=by
 cases c<;>simp[pick,sh]
 split<;>rfl
theorem sh_nilck(x:V):nilck (sh d x)=(nilck x).map (sh d):=by cases x<;>simp[nilck,sh]
theorem sh_faddr(o:Nat)(x:V):faddr o (sh d x)=(faddr o x).map (sh d):=by cases x<;>simp[faddr,sh]
theorem sh_iaddr(al:Option Nat)(e:Nat)(x i:V):iaddr al e (sh d x) (sh d i)=(iaddr al e x i).map (sh d):=by
 cases i<;>try (simp[iaddr,sh]; done)
 cases al<;>cases x<;>simp[iaddr,sh]<;>split<;>simp[sh]
theorem sh_index(l e:Nat)(n:Option Nat)(x i:V):index l e n (sh d x) (sh d i)=(index l e n x i).map (sh d):=by
 cases i<;>try (simp[index,sh]; done)
 cases x<;>simp[index,sh]
 split
 ·exact zsg _ _ _
 ·rfl
theorem zu5(x i:V):sindex (sh d x) (sh d i)=(sindex x i).map (sh d):=by
 cases i<;>try (simp[sindex,sh]; done)
 cases x<;>simp[sindex,sh]
 split
 ·rw[Option.map_map]; rfl
 ·rfl
theorem sh_field(o:Nat)(n:Option Nat)(x:V):field o n (sh d x)=(field o n x).map (sh d):=by
 cases x<;>simp[field,sh]
 exact zsg _ _ _
theorem sh_ext(i:Nat)(x:V):ext i (sh d x)=(ext i x).map (sh d):=by
 cases x<;>simp[ext,sh]
 exact zmv _ _
theorem sh_slen(x:V):slen (sh d x)=(slen x).map (sh d):=by cases x<;>simp[slen,sh]
theorem sh_vlen(x:V):vlen (sh d x)=(vlen x).map (sh d):=by cases x<;>simp[vlen,sh]
theorem zvd (ps:List (Nat×Nat×V)):∀cs:List V,fill (shL d cs) (ps.map λp=>(p.1,p.2.1,sh d p.2.2))=(fill cs ps).map (shL d):=by
 induction ps with
 | nil=>intro cs; rfl
 | cons p ps ih =>
  intro cs;obtain⟨o,s,v⟩:=p;simp only[List.map_cons,fill];rw[zlY,zb1,zb1,zu6];split
  ·rw[ze2]; exact ih _
  ·rfl
theorem zlX(z:List V)(n:Nat):zeros (shL d z) n=shL d (zeros z n):=by
 induction n with
 | zero=>rfl
 | succ n ih=>simp only[zeros]; rw[ih,zkO]
theorem zp7:∀xs ys:List V,zjh (shL d xs) (shL d ys)=zjh xs ys
 | [],[]=>rfl
 | [],y::ys=>by simp[shL,zjh]
 | x::xs,[]=>by cases x<;>simp[shL,sh,zjh]
 | x::xs,y::ys=>by
  cases x<;>cases y<;>simp only[shL,sh,zjh]
  rw[zp7 xs ys]
theorem zmu:∀(ks:List FK) (xs ys:List V),za0 ks (shL d xs) (shL d ys)=za0 ks xs ys
 | [],[],[]=>rfl
 | [],[],y::ys=>by simp[shL,za0]
 | [],x::xs,ys=>by cases ys<;>simp[shL,za0]
 | k::ks,[],ys=>by cases k<;>cases ys<;>simp[shL,za0]
 | k::ks,x::xs,[]=>by cases k<;>cases x<;>simp[shL,sh,za0]
 | k::ks,x::xs,y::ys=>by
  cases k<;>cases x<;>cases y<;>simp only[shL,sh,za0]<;>rw[zmu ks xs ys]
theorem sh_eqv(k:EK)(x y:V):eqv k (sh d x) (sh d y)=eqv k x y:=by
 cases k<;>cases x<;>cases y<;>simp only[eqv,sh]
 ·rw[zb1,zb1,zp7]
 ·exact zmu _ _ _
theorem sh_eqr(k:EK)(neg:Bool)(x y:V):eqr k neg (sh d x) (sh d y)=(eqr k neg x y).map (sh d):=by
 unfold eqr;rw[sh_eqv,Option.map_map];rfl
theorem sh_vint(v:V):vint (sh d v)=vint v:=by cases v<;>rfl
theorem zmt(o:Option V):zcv (o.map (sh d))=zcv o:=by
 cases o with
 | none=>rfl
 | some v=>simp only[Option.map_some,zcv,sh_vint]
theorem sh_min2(mx:Bool)(x y:V):min2 mx (sh d x) (sh d y)=(min2 mx x y).map (sh d):=by cases x<;>cases y<;>rfl
theorem zp5(mx:Bool):∀(l:List V) (v:V),minmax mx (sh d v) (shL d l)=(minmax mx v l).map (sh d)
 | [],v=>rfl
 | x::xs,v=>by
  simp only[shL,minmax];rw[sh_min2];cases min2 mx v x with
  | none=>rfl
  | some w=>exact zp5 mx xs w
theorem sh_build(z:List V) (ps:List (Nat×Nat×V)):build (shL d z) (ps.map λp=>(p.1,p.2.1,sh d p.2.2))=(build z ps).map (sh d):=by
 unfold build;rw[zvd,Option.map_map,Option.map_map];congr 1
/-! Memory with other blocks ahead. -/
def shB(d:Rn)(b:Blk):Blk:=⟨b.ty,shL d b.cells,b.opn⟩
def Heap.up(H:Heap)(d:Rn)(R:Nat→Option Blk):Heap:=⟨λj=>match d.g j with|none=>R j|some i=>(H.get i).map (shB d),d.f H.next⟩
variable {R:Nat→Option Blk}
theorem zmh(H:Heap)(i:Nat):(H.up d R).get (d.f i)=(H.get i).map (shB d):=by
 show(match d.g (d.f i) with|none=>R (d.f i)|some i=>(H.get i).map (shB d)) = _;rw[d.gf]
theorem zuz(H:Heap)(i:Nat)(o:Option Blk):(H.up d R).set (d.f i) (o.map (shB d))=(H.set i o).up d R:=by
 show Heap.mk _ _=Heap.mk _ _;congr 1;funext j;show(if j=d.f i then o.map (shB d) else match d.g j with|none=>R j|some i=>(H.get i).map (shB d))=match d.g j with|none=>R j|some k=>(if k=i then o else H.get k).map (shB d)
 by_cases e:j=d.f i
 ·subst e;rw[if_pos rfl,d.gf];dsimp only;rw[if_pos rfl]
 ·rw[if_neg e];cases hg:d.g j with
  | none=>rfl
  | some k =>
   dsimp only;rw[if_neg];intro h;subst h;exact e (d.fg _ _ hg).symm
theorem up_new(H:Heap)(hk:d.k≤H.next)(b:Blk):(H.up d R).new (shB d b)=(H.new b).up d R:=by
 show Heap.mk _ _=Heap.mk _ _;have hn:(H.up d R).next=d.f H.next:=rfl;rw[hn];congr 1
 ·funext j;show(if j=d.f H.next then some (shB d b) else match d.g j with|none=>R j|some i=>(H.get i).map (shB d))=match d.g j with|none=>R j|some k=>(if k=H.next then some b else H.get k).map (shB d)
  by_cases e:j=d.f H.next
  ·subst e;rw[if_pos rfl,d.gf];dsimp only;rw[if_pos rfl];rfl
  ·rw[if_neg e];cases hg:d.g j with
   | none=>rfl
   | some k =>
    dsimp only;rw[if_neg];intro h;subst h;exact e (d.fg _ _ hg).symm
 ·exact(d.suc _ hk).symm
def ShR(d:Rn)(R:Nat→Option Blk){α β:Type}(f:α→β)(x:M α)(y:M β):Prop:=∀H a H',Dcl H ⟨d.k⟩→x H=some (a,H')→y (H.up d R)=some (f a,H'.up d R)∧Dcl H' ⟨d.k⟩
theorem zck{α β:Type}(f:α→β)(a:α):ShR d R f (M.pure a) (M.pure (f a)):=by
 intro H b H' hd h;simp only[M.pure,Option.some.injEq,Prod.mk.injEq]at h;obtain⟨rfl,rfl⟩:=h;exact⟨rfl,hd⟩
theorem zb0{α β:Type}{f:α→β}{y:M β}:ShR d R f M.fail y:=by intro H a H' hd h; cases h
theorem zbO{α β:Type}{f:α→β}{o:Option α}{o':Option β}(h:o'=o.map f):ShR d R f (M.lift o) (M.lift o'):=by
 subst h;intro H a H' hd h;cases o with
 | none=>cases h
 | some v=>exact zck f v H a H' hd h
theorem zbx{α β γ δ:Type}{f:α→β}{g:γ→δ}{x:M α}{y:M β}{k:α→M γ}{l:β→M δ}(h:ShR d R f x y) (hk:∀v,ShR d R g (k v) (l (f v))):ShR d R g (x.bind k) (y.bind l):=by
 intro H a H' hd e;obtain⟨v,H1,h1,h2⟩:=bind_some e;obtain⟨e1,d1⟩:=h H v H1 hd h1;rw[bind_ok e1];exact hk v H1 a H' d1 h2
theorem zrh(n:Option Nat)(p:V):ShR d R (sh d) (mload n p) (mload n (sh d p)):=by
 intro H a H' hd h;refine⟨?_,(zpH n p H a H' hd h).2⟩;cases p<;>try (cases h; done)
 ·rename_i id off;simp only[mload,sh]at h ⊢;rw[zmh];cases hb:H.get id with
  | none=>rw[hb]at h; cases h
  | some b =>
   rw[hb]at h;simp only[Option.bind_some,Option.map_some]at h ⊢;show(ldc n (shL d b.cells) off).map _ = _;rw[zsg];cases hl:ldc n b.cells off with
   | none=>rw[hl]at h; cases h
   | some v=>rw[hl]at h; cases h; rfl
 ·rename_i cells off;simp only[mload,sh]at h ⊢;rw[zsg];cases hl:ldc n cells off with
  | none=>rw[hl]at h; cases h
  | some v=>rw[hl]at h; cases h; rfl
theorem sr_store(n:Nat)(p x:V):ShR d R (sh d) (mstore n p x) (mstore n (sh d p) (sh d x)):=by
 intro H a H' hd h;refine⟨?_,(zsR n p x H a H' hd h).2⟩;cases p<;>try (cases h; done)
 rename_i id off;simp only[mstore,sh]at h ⊢;rw[zmh];cases hb:H.get id with
 | none=>rw[hb]at h; cases h
 | some b =>
  rw[hb]at h;simp only[Option.bind_some,Option.map_some]at h ⊢;have hc':((sh d x).cells.length=n∧off+n≤(shB d b).cells.length∧(sh d x).okc=true)↔(x.cells.length=n∧off+n≤b.cells.length∧x.okc=true):=by
   rw[zlY,zb1,zu6,show(shB d b).cells=shL d b.cells from rfl,zb1]
  by_cases hc:x.cells.length=n∧off+n≤b.cells.length∧x.okc=true
  ·rw[if_pos hc]at h;rw[if_pos (hc'.2 hc)];cases h;have e:=zuz (d:=d) (R:=R) H id (some { b with cells:=splice b.cells off x.cells });rw[←e,zlY,show(shB d b).cells=shL d b.cells from rfl,ze2];rfl
  ·rw[if_neg hc]at h; cases h
theorem sr_box(ty:TypeId)(x:V):ShR d R (sh d) (mbox ty x) (mbox ty (sh d x)):=by
 intro H a H' hd h;refine⟨?_,(cf_box ty x H a H' hd h).2⟩;unfold mbox at h ⊢;rw[zu6];by_cases hc:x.okc=true
 ·rw[if_pos hc]at h ⊢;cases h;rw[zlY];exact congrArg (λq=>some (V.ptr (d.f H.next) 0,q)) (up_new H hd.lo ⟨ty,x.cells,none⟩)
 ·rw[if_neg hc]at h; cases h
end
end Go.Ax
/- Ax45 -/
namespace Go.Ax
section
variable {d:Rn} {R:Nat→Option Blk}
theorem upg{H:Heap}{id:Nat}{γ δ:Type}{k:Blk→Option γ}{k':Blk→Option δ}{a:γ}{r:Option δ} (h:(H.get id).bind k=some a) (hk:∀b,H.get id=some b→k b=some a→k' (shB d b)=r):((H.up d R).get (d.f id)).bind k'=r:=by
 rw[zmh];cases hb:H.get id with
 | none=>rw[hb]at h; cases h
 | some b=>rw[hb]at h; exact hk b hb h
theorem uset(H:Heap)(id:Nat)(ty:TypeId)(cs:List V)(o:Option Nat):(H.up d R).set (d.f id) (some ⟨ty,shL d cs,o⟩)=(H.set id (some ⟨ty,cs,o⟩)).up d R:=zuz H id (some ⟨ty,cs,o⟩)
theorem unew(H:Heap)(hk:d.k≤H.next)(ty:TypeId)(cs:List V)(o:Option Nat):(H.up d R).new ⟨ty,shL d cs,o⟩=(H.new ⟨ty,cs,o⟩).up d R:=up_new H hk ⟨ty,cs,o⟩
theorem zf4(b:Blk):(shB d b).cells=shL d b.cells:=rfl
theorem uif{γ:Type}{p p':Prop}[Decidable p][Decidable p']{x y:Option γ}{δ:Type}{x' y':Option δ}{a:γ}{r:Option δ}(hp:p↔p') (h:(if p then x else y)=some a) (h1:p→x=some a→x'=r) (h2:¬p→y=some a→y'=r):(if p' then x' else y')=r:=by
 by_cases hc:p
 ·rw[if_pos hc]at h; rw[if_pos (hp.1 hc)]; exact h1 hc h
 ·rw[if_neg hc]at h; rw[if_neg λk=>hc (hp.2 k)]; exact h2 hc h
theorem sr_slit(ty:TypeId)(l:Nat)(z:List V) (ps:List (Nat×Nat×V)):ShR d R (sh d) (mslit ty l z ps) (mslit ty l (shL d z) (ps.map λp=>(p.1,p.2.1,sh d p.2.2))):=by
 intro H a H' hd h;refine⟨?_,(zwQ ty l z ps H a H' hd h).2⟩;unfold mslit at h ⊢;rw[zlX,zvd];cases hf:fill (zeros z l) ps with
 | none=>rw[hf]at h; cases h
 | some cs =>
  rw[hf]at h;cases h;show some (V.sl (d.f H.next) 0 l (.fix l),(H.up d R).new ⟨ty,shL d cs,none⟩) = _;rw[unew _ hd.lo];rfl
theorem zmg{e:Nat}{H:Heap}{v:V}{q:List V×Nat}(h:rcells e H v=some q):rcells e (H.up d R) (sh d v)=some (shL d q.1,q.2):=by
 cases v<;>try (cases h; done)
 ·cases h; rfl
 ·rename_i id off len cap;simp only[rcells,sh]at h ⊢;refine upg h λb hb h=>?_;refine uif (by rw[zf4,zb1]) h (λ_ h=>?_) (λ_ h=>by cases h);cases h;rw[zf4,ziE,ziD]
 ·simp only[rcells,sh]at h ⊢;refine uif (by rw[zb1]) h (λ_ h=>?_) (λ_ h=>by cases h);cases h;rw[ziD]
theorem zms(s:ByteArray):shL d (strCells s)=strCells s:=by
 unfold strCells;rw[ze3,List.map_map];rfl
theorem zpS{e:Nat}{H:Heap}{v:V}{q:List V×Nat}(h:acells e H v=some q):acells e (H.up d R) (sh d v)=some (shL d q.1,q.2):=by
 cases v with
 | str s =>
  simp only[acells,sh]at h ⊢;refine uif Iff.rfl h (λ_ h=>?_) (λ_ h=>by cases h);cases h;rw[zms]
 | nils=>cases h; rfl
 | sl id off len cap=>exact zmg (v:=.sl id off len cap) h
 | rs cells len=>exact zmg (R:=R) (H:=H) (v:=.rs cells len) h
 | _=>cases h
theorem zof(ty e b:Nat)(q:List V×Nat)(x:V):ShR d R (sh d) (mappendq ty e b q x) (mappendq ty e b (shL d q.1,q.2) (sh d x)):=by
 intro H a H' hd h;refine⟨?_,(zlb ty e b q x H a H' hd h).2⟩;cases x<;>try (cases h; done)
 ·simp only[mappendq,sh]at h ⊢;refine uif Iff.rfl h (λ_ h=>by cases h; rfl) λ_ h=>?_;refine uif Iff.rfl h (λ_ h=>?_) (λ_ h=>by cases h);cases h;rw[unew _ hd.lo]; rfl
 ·rename_i id off len cap;simp only[mappendq,sh]at h ⊢;refine upg h λbb hb h=>?_;refine uif (by rw[zf4,zb1]; exact Iff.rfl) h (λ_ h=>?_) (λ_ h=>by cases h);cases cap with
  | fix c =>
   dsimp only at h ⊢;refine uif Iff.rfl h (λ_ h=>?_) λ_ h=>?_
   ·refine uif (by rw[zf4,zb1]) h (λ_ h=>?_) (λ_ h=>by cases h);cases h;rw[zf4,ze2];exact congrArg (λq=>some (V.sl (d.f id) off _ _,q)) (uset H id bb.ty _ bb.opn)
   ·refine uif Iff.rfl h (λ_ h=>?_) (λ_ h=>by cases h);cases h;rw[zf4,ziE,ziD,←zkO,unew _ hd.lo]; rfl
  | opn ee =>
   dsimp only at h ⊢;refine uif (by rw[zf4,zb1]; exact Iff.rfl) h (λ_ h=>?_) λ_ h=>?_
   ·refine uif Iff.rfl h (λ_ h=>by cases h; rfl) λ_ h=>?_;refine uif Iff.rfl h (λ_ h=>?_) (λ_ h=>by cases h);cases h;rw[zf4,ziE,←zkO];have e1:(H.up d R).set (d.f id) none=(H.set id none).up d R:=zuz H id none;rw[e1,unew (H.set id none) hd.lo]; rfl
   ·refine uif Iff.rfl h (λ_ h=>by cases h; rfl) λ_ h=>?_;refine uif (by rw[zf4,zb1]; exact Iff.rfl) h (λ_ h=>?_) (λ_ h=>by cases h);cases h;rw[zf4,ze2];exact congrArg (λq=>some (V.sl (d.f id) off _ _,q)) (uset H id bb.ty _ bb.opn)
 ·simp only[mappendq,sh]at h ⊢;refine uif Iff.rfl h (λ_ h=>by cases h; rfl) (λ_ h=>by cases h)
theorem zuT(ty e b:Nat)(x y:V):ShR d R (sh d) (mappend ty e b x y) (mappend ty e b (sh d x) (sh d y)):=by
 intro H a H' hd h;refine⟨?_,(zns ty e b x y H a H' hd h).2⟩;unfold mappend at h ⊢;cases hq:acells e H y with
 | none=>rw[hq]at h; cases h
 | some q =>
  rw[hq]at h;rw[zpS hq];exact(zof ty e b q x H a H' hd h).1
theorem ztc(ty b:Nat)(z:List V)(x y:V):ShR d R (sh d) (mappendz ty b z x y) (mappendz ty b (shL d z) (sh d x) (sh d y)):=by
 intro H a H' hd h;refine⟨?_,(zoJ ty b z x y H a H' hd h).2⟩;cases y<;>try (cases h; done)
 simp only[mappendz,sh]at h ⊢;refine uif Iff.rfl h (λ_ h=>?_) (λ_ h=>by cases h);rw[zb1,zlX];exact(zof _ _ _ _ _ H a H' hd h).1
theorem sr_copy(e:Nat)(x y:V):ShR d R (sh d) (mcopy e x y) (mcopy e (sh d x) (sh d y)):=by
 intro H a H' hd h;refine⟨?_,(zwV e x y H a H' hd h).2⟩;unfold mcopy at h ⊢;cases hq:acells e H y with
 | none=>rw[hq]at h; cases h
 | some q =>
  rw[hq]at h;rw[zpS hq];simp only[Option.bind_some]at h ⊢;cases x<;>try (cases h; done)
  ·cases h; rfl
  ·rename_i id off len cap;simp only[sh]at h ⊢;refine upg h λb hb h=>?_;refine uif (by rw[zf4,zb1]) h (λ_ h=>?_) (λ_ h=>by cases h);cases h;rw[zf4,ziD,ze2];exact congrArg (λq=>some (V.int .i64 _,q)) (uset H id b.ty _ b.opn)
theorem zp4:∀l:List V,zhT (shL d l)=zhT l
 | []=>rfl
 | x::xs=>by
  cases x<;>simp only[shL,sh,zhT]
  rename_i k n;cases k<;>simp only[zhT]
  rw[zp4 xs]
theorem sr_tostr(x:V):ShR d R (sh d) (mtostr x) (mtostr (sh d x)):=by
 intro H a H' hd h;refine⟨?_,(zsQ x H a H' hd h).2⟩;unfold mtostr at h ⊢;cases hq:rcells 1 H x with
 | none=>rw[hq]at h; cases h
 | some q =>
  rw[hq]at h;rw[zmg hq];simp only[Option.bind_some]at h ⊢;rw[zp4];cases hv:zhT q.1 with
  | none=>rw[hv]at h; cases h
  | some l=>rw[hv]at h; cases h; rfl
theorem zoe(ty:TypeId)(x:V):ShR d R (sh d) (mtobytes ty x) (mtobytes ty (sh d x)):=by
 intro H a H' hd h;refine⟨?_,(zk9 ty x H a H' hd h).2⟩;cases x<;>try (cases h; done)
 simp only[mtobytes,sh]at h ⊢;refine uif Iff.rfl h (λ_ h=>?_) (λ_ h=>by cases h);cases h;have e:=unew (d:=d) (R:=R) H hd.lo ty (strCells ‹ByteArray›) (some 1);rw[zms]at e;rw[e]; rfl
theorem zuM(ty:TypeId)(x:V):ShR d R (sh d) (mremark ty x) (mremark ty (sh d x)):=by
 intro H a H' hd h;refine⟨?_,(zq0 ty x H a H' hd h).2⟩;cases x<;>try (cases h; done)
 ·exact(zoe ty (.str _) H a H' hd h).1
 ·simp only[mremark,sh]at h ⊢;refine upg h λb hb h=>?_;refine uif Iff.rfl h (λ_ h=>by cases h) λ_ h=>by cases h; rfl
theorem zs9(ty b:Nat)(z:List V)(l c:V):ShR d R (sh d) (mmkslice ty b z l c) (mmkslice ty b (shL d z) (sh d l) (sh d c)):=by
 intro H a H' hd h;refine⟨?_,(zoH ty b z l c H a H' hd h).2⟩;cases l<;>try (cases h; done)
 rename_i k n;cases k<;>try (cases h; done)
 cases c<;>try (cases h; done)
 rename_i k' n';cases k'<;>try (cases h; done)
 simp only[mmkslice,sh]at h ⊢;refine uif Iff.rfl h (λ_ h=>?_) (λ_ h=>by cases h);cases h;rw[zlX,unew _ hd.lo]; rfl
theorem sr_mknz(ty:TypeId)(x:V):ShR d R (sh d) (mmknz ty x) (mmknz ty (sh d x)):=by
 intro H a H' hd h;refine⟨?_,(zwS ty x H a H' hd h).2⟩;cases x<;>try (cases h; done)
 rename_i k n;cases k<;>try (cases h; done)
 simp only[mmknz,sh]at h ⊢;refine uif Iff.rfl h (λ_ h=>?_) (λ_ h=>by cases h);cases h;have e:=unew (d:=d) (R:=R) H hd.lo ty (List.replicate n.toNat .any) (some 1);have e2:shL d (List.replicate n.toNat V.any)=List.replicate n.toNat .any:=by rw[ze3,List.map_replicate]; rfl
 rw[e2]at e;rw[e]; rfl
theorem zuL(e:Nat)(x lo hi:V):ShR d R (sh d) (mslice2 e x lo hi) (mslice2 e (sh d x) (sh d lo) (sh d hi)):=by
 intro H a H' hd h;refine⟨?_,(zqZ e x lo hi H a H' hd h).2⟩;cases x<;>try (cases h; done)
 rename_i id off len cap;cases cap<;>cases lo<;>try (cases h; done)
 cases hi<;>try (cases h; done)
 simp only[mslice2,sh]at h ⊢;refine upg h λb hb h=>?_;refine uif (by rw[zf4,zb1]; exact Iff.rfl) h (λ_ h=>by cases h; rfl) (λ_ h=>by cases h)
theorem sr_clear(z:List V)(x:V):ShR d R (sh d) (mclear z x) (mclear (shL d z) (sh d x)):=by
 intro H a H' hd h;refine⟨?_,(zsT z x H a H' hd h).2⟩;cases x<;>try (cases h; done)
 rename_i id off len cap;simp only[mclear,sh]at h ⊢;refine uif Iff.rfl h (λ_ h=>by cases h; rfl) λ_ h=>?_;refine upg h λb hb h=>?_;refine uif (by rw[zf4,zb1,zb1]) h (λ_ h=>?_) (λ_ h=>by cases h);cases h;rw[zf4,zlX,ze2];exact congrArg (λq=>some (V.undef,q)) (uset H id b.ty _ b.opn)
theorem zu2(ck:CK)(e:Nat)(x:V)(lo hi mx:Option V):zaA ck e (sh d x) (lo.map (sh d)) (hi.map (sh d)) (mx.map (sh d))=(zaA ck e x lo hi mx).map (sh d):=by
 unfold zaA;rw[zmt,zmt,zmt];cases zcv lo with
 | none=>rfl
 | some lo =>
 cases zcv hi with
 | none=>rfl
 | some hi =>
 cases zcv mx with
 | none=>rfl
 | some mx =>
 simp only[Option.bind_some];split
 ·rfl
 cases ck<;>cases x<;>try rfl
 all_goals simp only[sh]
 ·split<;>rfl
 ·split<;>rfl
 ·rename_i id off len cap;cases cap with
  | fix c=>simp only; split<;>rfl
  | opn ee =>
   cases mx with
   | none=>simp only; split<;>rfl
   | some m=>simp only; split<;>rfl
 ·split
  ·rw[ziE]; rfl
  ·rfl
 ·split<;>rfl
theorem zva(mk:MK)(a b:V):keq mk (sh d a) (sh d b)=keq mk a b:=by
 cases mk<;>cases a<;>cases b<;>simp only[keq,sh]
 exact zmu _ _ _
theorem sh_kok(mk:MK)(a:V):kok mk (sh d a)=kok mk a:=by
 cases mk<;>cases a<;>simp only[kok,sh]
 rw[zb1]
theorem zu8(mk:MK)(k:V):∀l:List V,mget mk (sh d k) (shL d l)=(mget mk k l).map (Option.map (sh d))
 | []=>rfl
 | [x]=>rfl
 | k'::v'::r=>by
  simp only[shL,mget];rw[zva];cases keq mk k k' with
  | none=>rfl
  | some b =>
   cases b with
   | true=>rfl
   | false=>exact zu8 mk k r
theorem zu7(mk:MK)(k v:V):∀l:List V,mset mk (sh d k) (sh d v) (shL d l)=(mset mk k v l).map (shL d)
 | []=>rfl
 | [x]=>rfl
 | k'::v'::r=>by
  simp only[shL,mset];rw[zva];cases keq mk k k' with
  | none=>rfl
  | some b =>
   cases b with
   | true=>rfl
   | false =>
    simp only[Option.bind_some];rw[if_neg (by decide),if_neg (by decide),zu7 mk k v r,Option.map_map,Option.map_map];rfl
theorem sr_mkmap(ty:TypeId):ShR d R (sh d) (mmkmap ty) (mmkmap ty):=by
 intro H a H' hd h;refine⟨?_,(zsS ty H a H' hd h).2⟩;cases h;exact congrArg (λq=>some (V.mp (d.f H.next),q)) (unew H hd.lo ty [] none)
theorem zuP(mk:MK)(z:V)(ok:Bool)(x k:V):ShR d R (sh d) (mlookup mk z ok x k) (mlookup mk (sh d z) ok (sh d x) (sh d k)):=by
 intro H a H' hd h;refine⟨?_,(zq3 mk z ok x k H a H' hd h).2⟩;cases x<;>try (cases h; done)
 simp only[mlookup,sh]at h ⊢;refine upg h λb hb h=>?_;refine uif (by rw[sh_kok]) h (λ_ h=>?_) (λ_ h=>by cases h);rw[zf4,zu8];cases hg:mget mk k b.cells with
 | none=>rw[hg]at h; cases h
 | some r =>
  rw[hg]at h;cases h;cases r<;>cases ok<;>rfl
theorem zuN(mk:MK)(x k v:V):ShR d R (sh d) (mmapset mk x k v) (mmapset mk (sh d x) (sh d k) (sh d v)):=by
 intro H a H' hd h;refine⟨?_,(zq1 mk x k v H a H' hd h).2⟩;cases x<;>try (cases h; done)
 simp only[mmapset,sh]at h ⊢;refine upg h λb hb h=>?_;refine uif (by rw[sh_kok]) h (λ_ h=>?_) (λ_ h=>by cases h);rw[zf4,zu7];cases hg:mset mk k v b.cells with
 | none=>rw[hg]at h; cases h
 | some cs =>
  rw[hg]at h;cases h;exact congrArg (λq=>some (V.undef,q)) (uset H _ b.ty cs b.opn)
theorem zuO(x:V):ShR d R (sh d) (mmaplen x) (mmaplen (sh d x)):=by
 intro H a H' hd h;refine⟨?_,(zq2 x H a H' hd h).2⟩;cases x<;>try (cases h; done)
 simp only[mmaplen,sh]at h ⊢;rw[zmh];rename_i id;cases hb:H.get id with
 | none=>rw[hb]at h; cases h
 | some b =>
  rw[hb]at h;cases h;simp only[Option.map_some];rw[zf4,zb1];rfl
theorem sr_aload(k:IntKind)(p:V):ShR d R (sh d) (matoload k p) (matoload k (sh d p)):=by
 intro H a H' hd h;refine⟨?_,(zsU k p H a H' hd h).2⟩;unfold matoload at h ⊢;cases hl:mload none p H with
 | none=>rw[hl]at h; cases h
 | some r =>
  obtain⟨v,H1⟩:=r;rw[hl]at h;rw[(zrh none p H v H1 hd hl).1];simp only[Option.bind_some]at h ⊢;cases v<;>try (cases h; done)
  simp only[sh]at h ⊢;refine uif Iff.rfl h (λ_ h=>by cases h; rfl) (λ_ h=>by cases h)
theorem sr_aadd(k:IntKind)(p y:V):ShR d R (sh d) (matoadd k p y) (matoadd k (sh d p) (sh d y)):=by
 intro H a H' hd h;refine⟨?_,(zwW k p y H a H' hd h).2⟩;cases p<;>try (cases h; done)
 cases y<;>try (cases h; done)
 rename_i id off k2 j;simp only[matoadd,sh]at h ⊢;refine upg h λb hb h=>?_;rw[zf4,zmv];cases hc:b.cells[off]? with
 | none=>rw[hc]at h; cases h
 | some c =>
  rw[hc]at h;cases c<;>try (cases h; done)
  rename_i kk nn;simp only[Option.map_some,sh]at h ⊢;refine uif Iff.rfl h (λ_ h=>?_) (λ_ h=>by cases h);cases h;have e:splice (shL d b.cells) off [V.int k (k.wrap (nn+j))]=shL d (splice b.cells off [V.int k (k.wrap (nn+j))]):=ze2 (d:=d) b.cells off [V.int k (k.wrap (nn+j))];rw[e];exact congrArg (λq=>some (V.int k _,q)) (uset H id b.ty _ b.opn)
theorem zp6(mk:MK)(k:V):∀l:List V,zlm mk (sh d k) (shL d l)=zlm mk k l
 | []=>rfl
 | [x]=>rfl
 | k'::v'::r=>by
  simp only[shL,zlm];rw[zva,zp6 mk k r]
theorem sh_mkeep(p:Bool)(n:Int)(k:V):ztJ p n (sh d k)=ztJ p n k:=by
 cases k<;>try rfl
 rename_i cs;simp only[sh];rcases cs with _|⟨a,_|⟨b,_|⟨c,cs⟩⟩⟩
 ·rfl
 ·cases a<;>rfl
 ·cases a<;>try rfl
  rename_i k1 n1;cases b<;>try (cases k1<;>rfl)
 ·cases a<;>try rfl
  rename_i k1 n1;cases b<;>try (cases k1<;>rfl)
  rename_i k2 n2;cases k1<;>cases k2<;>rfl
theorem zu9(p:Bool)(n:Int):∀l:List V,mfil p n (shL d l)=(mfil p n l).map (shL d)
 | []=>rfl
 | [x]=>rfl
 | k::v::r=>by
  simp only[shL,mfil];rw[zp6];by_cases h:zlm (znT p) k r=true
  ·rw[if_pos h,if_pos h,sh_mkeep];cases ztJ p n k with
   | none=>rfl
   | some b =>
    simp only[Option.bind_some];rw[zu9 p n r,Option.map_map,Option.map_map];cases b<;>rfl
  ·rw[if_neg h,if_neg h]; rfl
theorem zta(p:Bool)(o:Nat)(x n:V):ShR d R (sh d) (mmapdrop p o x n) (mmapdrop p o (sh d x) (sh d n)):=by
 intro H a H' hd h;refine⟨?_,(zoI p o x n H a H' hd h).2⟩;cases x<;>try (cases h; done)
 cases n<;>try (cases h; done)
 rename_i id off k n;cases k<;>try (cases h; done)
 simp only[mmapdrop,sh]at h ⊢;refine upg h λb0 hb0 h=>?_;rw[zf4,zmv];cases hc:b0.cells[off+o]? with
 | none=>rw[hc]at h; cases h
 | some c =>
  rw[hc]at h;cases c<;>try (cases h; done)
  simp only[Option.map_some,sh]at h ⊢;refine upg h λb hb h=>?_;rw[zf4,zu9];cases hf:mfil p n b.cells with
  | none=>rw[hf]at h; cases h
  | some cs =>
   rw[hf]at h;cases h;exact congrArg (λq=>some (V.undef,q)) (uset H _ b.ty cs b.opn)
end
end Go.Ax
