/-
  Texts of mine, put together by program (wip/slim.py), for law_deskKeys: part 9.
-/
import Derived.Test.YthghlbdejdideaaGreatZk8
noncomputable section
set_option linter.unusedVariables false
set_option linter.unusedSimpArgs false
set_option linter.defProp false
set_option maxRecDepth 100000
/- De9 -/
namespace Go.Ax.SU
open Go.Ax
def tkR:List (V × Ot) → V
 | []=>.tup [.agg [.int .i64 0,.int .i64 0,.nils],.bool false]
 | e :: _=>.tup [.agg (oC e),.bool true]
theorem PM.each1 {lo a:Nat} {H:Heap} {P:Nat → Nat} {L:Nat → V} {q:Nat → List (V × Ot)} (hQ:PM lo H P L q) (ha:a < 64):∀ e ∈ q a,e.1.cells = [e.1] ∧ e.1.okc = true:=fun e he=>⟨(hQ.each a ha e he).1.cells1,(hQ.each a ha e he).1.okc⟩
theorem zBM {lo a:Nat} {H:Heap} {P:Nat → Nat} {L:Nat → V} {q:Nat → List (V × Ot)} (hQ:PM lo H P L q) (ha:a < 64) :
  Ok (sem T zaB [.ptr (P a) 0]) H fun r H'=>r = tkR (q a) ∧ AtS [P a] H H' ∧ ∃ x,PM lo H' P (upd L a x) (upd q a (q a).tail) ∧ x.pid = (L a).pid:=by
 refine zkR ?_;unfold f_post_Post_desk_Out_Take uL uS uT uNFM uNF uB uI uO uc;have hp:=hQ.blk a ha;have hap:=hQ.app a ha;have hlow:=hQ.low a ha;have htop:=hQ.top;have hb:=hQ.each1 ha;refine za8 (zen rfl ?_);rw [za5];have s0:=Grow.new H ⟨tyOu,[.int .i64 0,.int .i64 0,.nils],none⟩;have g0:(H.new ⟨tyOu,[.int .i64 0,.int .i64 0,.nils],none⟩).get H.next = some ⟨tyOu,[.int .i64 0,.int .i64 0,.nils],none⟩:=zak _ _;have n0:(H.new ⟨tyOu,[.int .i64 0,.int .i64 0,.nils],none⟩).next = H.next + 1:=zaO _ _;generalize hpp:P a = p at *;generalize hq:H.next = k at *;generalize H.new _ = H0 at *;refine za8 (zen rfl ?_);rw [za5];have s1:=Grow.new H0 ⟨tyOu,[.int .i64 0,.int .i64 0,.nils],none⟩;have g1:(H0.new ⟨tyOu,[.int .i64 0,.int .i64 0,.nils],none⟩).get H0.next = some ⟨tyOu,[.int .i64 0,.int .i64 0,.nils],none⟩:=zak _ _;have n1:(H0.new ⟨tyOu,[.int .i64 0,.int .i64 0,.nils],none⟩).next = H0.next + 1:=zaO _ _;have g01:=(s1.same k (by omega)).trans g0;have hq1:H0.next = k + 1:=n0;rw [hq1] at g1 n1 ⊢;generalize H0.new _ = H1 at *;have s01:=s0.trans s1;have hp1:=(s01.same p (by omega)).trans hp;have hvl:=(hap.lc.ext s01).vlen;cases hqa:q a with
 | nil =>
  rw [hqa] at hvl;have e0:(((([]:List (V × Ot)).length:Nat):Int) == 0) = true:=rfl;simp (maxSteps:=1000000) (disch:=first | omega | (simp only [RY] <;> omega) | decide) only [↓RD,RZ,eq_self,Int.reduceToNat,Int.reduceAdd,Int.reduceSub,Int.reduceMul,Nat.reduceAdd,Nat.reduceSub,Nat.reduceMul,Nat.reduceDiv,Nat.reduceMod,Nat.reduceBEq,Nat.reduceLeDiff,hp1,hvl,e0,g1,g01];have gr:∀ b,Grow H (H1.set k b):=fun b=>AtS.new (S:=[k]) s01 (AtS.set H1 (by simp) b) (by simp; omega);refine ⟨rfl,(gr _).atS _,L a,?_,rfl⟩;have e1:([]:List (V × Ot)).tail = q a:=by rw [hqa]; rfl
  rw [e1,upd_same,upd_same];exact hQ.grow (gr _)
 | cons e l =>
  rw [hqa] at hvl hb hap;have e0:((((e :: l:List (V × Ot)).length:Nat):Int) == 0) = false:=by simp; omega
  have e0':((e :: l:List (V × Ot)).length == 0) = false:=by simp
  have hlv1:=hap.lc.ext s01;obtain ⟨p0,hp0,hl0⟩:=hlv1.at (i:=0) (by omega) (by simp);rw [zrI rfl] at hl0;have la:=hl0.all;obtain ⟨lv',hs,hsl,hpid,vc',vo'⟩:=hap.tail (c:=oC e) (l:=(l.map oC).flatten) (n:=l.length) (by rw [List.map_cons,List.flatten_cons]) rfl;obtain ⟨ec,eo⟩:=hb e List.mem_cons_self;have hol:(oC e).length = 3:=rfl;rw [hol] at la;simp (maxSteps:=1000000) (disch:=first | omega | (simp only [RY] <;> omega) | decide) only [↓RD,RZ,eq_self,Int.reduceToNat,Int.reduceAdd,Int.reduceSub,Int.reduceMul,Nat.reduceAdd,Nat.reduceSub,Nat.reduceMul,Nat.reduceDiv,Nat.reduceMod,Nat.reduceBEq,Nat.reduceLeDiff,hp1,hvl,e0,e0',hp0];rw [zgl];refine okb_ldr la ?_;refine zlV rfl rfl fun q5 H2 e5 g5 s2 n2=>?_;have hp2:=(s2.same p (by omega)).trans hp1;have g02:=(s2.same k (by omega)).trans g01;have l3:ldc (some 3) (oC e) 0 = some (.agg (oC e)):=rfl;have ok3:(V.agg (oC e)).okc = true:=by simp [oC,V.okc,eo]
  have sp3:splice [.int .i64 0,.int .i64 0,.nils] 0 (oC e) = oC e:=rfl;simp (maxSteps:=1000000) (disch:=first | omega | (simp only [RY] <;> omega) | decide) only [↓RD,RZ,eq_self,Int.reduceToNat,Int.reduceAdd,Int.reduceSub,Int.reduceMul,Nat.reduceAdd,Nat.reduceSub,Nat.reduceMul,Nat.reduceDiv,Nat.reduceMod,Nat.reduceBEq,Nat.reduceLeDiff,hp2,hs,vc',vo',g5,l3,g02,za5,hol,ok3,sp3];have a3:AtS [p] H ((H2.set p (some ⟨tyPo,[.int .i64 32,lv'],none⟩)).set k (some ⟨tyOu,oC e,none⟩)):=((Grow.atS (s01.trans s2) _).trans (AtS.set H2 (by simp) _)).setn' (by omega) _;have hsame:∀ i,i < H.next → i ≠ p → ((H2.set p (some ⟨tyPo,[.int .i64 32,lv'],none⟩)).set k (some ⟨tyOu,oC e,none⟩)).get i = H.get i:=fun i hi hip=>a3.same i hi (by simp; exact hip);refine ⟨rfl,a3,lv',?_,hpid⟩;have hown:=hap.lc.own;have hps:∀ i,lv'.pid = some i → ((H2.set p (some ⟨tyPo,[.int .i64 32,lv'],none⟩)).set k (some ⟨tyOu,oC e,none⟩)).get i = H.get i:=fun i hi=>by
   have:=hown i (hpid ▸ hi);exact hsame i (by omega) (by omega)
  refine hQ.post ha a3.next (fun i hi hip _=>hsame i hi (by rw [← hpp]; exact hip)) (by rw [hpp,zcl _ _ (by omega),zcb]) (hsl.to hps a3.next) ?_ (fun i hi=>.inr (hpid ▸ hi)) fun e' he'=>?_
  ·have:=hQ.le a ha;rw [hqa] at this;simp only [List.tail_cons,List.length_cons] at this ⊢;omega
  ·have hmem:e' ∈ q a:=by rw [hqa]; exact List.mem_cons_of_mem _ he'
   obtain ⟨k1,k2⟩:=hQ.each a ha e' hmem;refine ⟨Lc.atS k1 a3 fun i hi e''=>?_,fun i hi hx=>k2 a i ha hi (hpid ▸ hx),fun b i hb' hi _=>k2 b i hb' hi⟩;have:=(k1.own i hi).1;simp only [List.mem_singleton] at e'';omega
theorem DA.take {K:Kd} {H H':Heap} {L:Nat → V} {D:List V} {rm:Nat → Rm} {q:Nat → List (V × Ot)} {ns:List Nat} {nw:Int} {a:Nat} {x:V} {l:List (V × Ot)} (h:DA K H L D rm q ns nw) (ha:a < 64) (s:AtS [K.P a] H H') (hq:PM K.lo H' K.P (upd L a x) (upd q a l)):DA K H' (upd L a x) D rm (upd q a l) ns nw:=by
 have:=h.pm.top;exact h.post ha ⟨s.next,fun i hi hp=>s.same i (by omega) (by simp; exact hp)⟩ hq
theorem PM.below {lo m:Nat} {H H':Heap} {P:Nat → Nat} {L:Nat → V} {q:Nat → List (V × Ot)} (h:PM lo H P L q) (hm:lo ≤ m) (hL:∀ b i,b < 64 → (L b).pid = some i → i < m) (hE:∀ b,b < 64 → ∀ e ∈ q b,∀ i,e.1.pid = some i → i < m) (hs:∀ i,i < m → H'.get i = H.get i) (hn:H.next ≤ H'.next):PM lo H' P L q :=
 ⟨Nat.le_trans h.top hn,h.low,h.inj,fun a ha=>(hs _ (Nat.lt_of_lt_of_le (h.low a ha) hm)).trans (h.blk a ha),fun a ha=>(h.app a ha).to (fun i hi=>hs i (hL a i ha hi)) hn,h.le,h.sep,fun a ha e he=>⟨⟨by rw [zka fun i hi=>hs i (hE a ha e he i hi)]; exact (h.each a ha e he).1.rc,fun i hi=>⟨((h.each a ha e he).1.own i hi).1,Nat.lt_of_lt_of_le ((h.each a ha e he).1.own i hi).2 hn⟩,(h.each a ha e he).1.cap⟩,(h.each a ha e he).2⟩⟩
theorem DA.below {m:Nat} {K:Kd} {H H':Heap} {L:Nat → V} {D:List V} {rm:Nat → Rm} {q:Nat → List (V × Ot)} {ns:List Nat} {nw:Int} (h:DA K H L D rm q ns nw) (hm:K.lo ≤ m) (hL:∀ b i,b < 64 → (L b).pid = some i → i < m) (hE:∀ b,b < 64 → ∀ e ∈ q b,∀ i,e.1.pid = some i → i < m) (hs:∀ i,i < m → H'.get i = H.get i) (hn:H.next ≤ H'.next):DA K H' L D rm q ns nw:=by
 have h2:=h.dl;have h3:=h.Cl;have h4:=h.cl;obtain ⟨cap,g1⟩:=h.cm.hd;obtain ⟨o,g2⟩:=h.cm.bd;exact { h with blk:=(hs K.d (by omega)).trans h.blk,cm:=⟨⟨cap,(hs K.C (by omega)).trans g1⟩,⟨o,(hs K.cs (by omega)).trans g2⟩,h.cm.len,h.cm.small⟩,pm:=h.pm.below hm hL hE hs hn }
theorem zDY {a n:Nat} {K:Kd} {H:Heap} {L:Nat → V} {rm:Nat → Rm} {Q:Nat → List Ot} {ns:List Nat} {nw:Int} (hh:DW K H L rm Q ns nw) (ha:a < 64) (hn:n ≤ 32) :
  Ok (sem T zbc [.ptr K.d 0,.int .i64 (a:Nat),.int .i64 (n:Nat)]) H fun r H'=>∃ (l:List (V × Ot)) (x:V),Lc 3 H.next H' r ((l.map oC).flatten) l.length ∧ l.map (·.2) = (Q a).take n ∧ (∀ e ∈ l,By K.lo H' e.1 e.2.b) ∧ FrD K.lo L (upd L a x) H H' ∧ DW K H' (upd L a x) rm (upd Q a ((Q a).drop n)) ns nw:=by
 refine zry ?_;unfold f_desk_Desk_taken uc ug;obtain ⟨D,q,h,hQ⟩:=hh;have hia:=fun {k}=>@ia64 K.d a ha k;have hpo:=h.po a ha;have hlow:=h.pm.low a ha;have htop:=h.pm.top;have hle:=h.pm.le a ha;have hb:=h.pm.each1 ha;have hpid:=(h.pm.app a ha).lc.own;simp (maxSteps:=1000000) (disch:=first | omega | (simp only [RY] <;> omega) | decide) only [↓RD,RZ,eq_self,Int.reduceToNat,Int.reduceAdd,Int.reduceSub,Int.reduceMul,Nat.reduceAdd,Nat.reduceSub,Nat.reduceMul,Nat.reduceDiv,Nat.reduceMod,Nat.reduceBEq,Nat.reduceLeDiff];refine zfq (Q:=fun r H'=>∃ w x,r = .ex 0 [w] ∧ AtS [K.P a] H H' ∧ App tyOu 3 H.next H' w ((((q a).take n).map oC).flatten) ((q a).take n).length ∧ DA K H' (upd L a x) D rm (upd q a ((q a).drop n)) ns nw ∧ x.pid = (L a).pid) ?_ ?_
 ·refine zjc (fun j L0 H'=>∃ w x,L0 = [w,.int .i64 (j:Nat)] ∧ AtS [K.P a] H H' ∧ App tyOu 3 H.next H' w ((((q a).take j).map oC).flatten) ((q a).take j).length ∧ DA K H' (upd L a x) D rm (upd q a ((q a).drop j)) ns nw ∧ x.pid = (L a).pid) (min n (q a).length) ?_ ?_ ?_
  ·refine ⟨.nils,L a,rfl,AtS.refl _ _,App.nil,?_,rfl⟩;rw [List.drop_zero,upd_same,upd_same];exact h
  ·rintro j _ H1 hj ⟨w,x,rfl,a1,hw,h1,hp1⟩;have hjn:j < n:=by omega
   have hje:j < (q a).length:=by omega
   have d1:decide (((j:Nat):Int) < ((n:Nat):Int)) = true:=decide_eq_true (by omega);have d1':decide (j < n) = true:=decide_eq_true hjn;have n1:=a1.next;have gd:=h1.blk;unfold f_desk_Desk_taken_0 uL uS uT uNF uE uB uIM uO uc ug;simp (maxSteps:=1000000) (disch:=first | omega | (simp only [RY] <;> omega) | decide) only [↓RD,RZ,eq_self,Int.reduceToNat,Int.reduceAdd,Int.reduceSub,Int.reduceMul,Nat.reduceAdd,Nat.reduceSub,Nat.reduceMul,Nat.reduceDiv,Nat.reduceMod,Nat.reduceBEq,Nat.reduceLeDiff,d1,d1',gd,hia,hpo];refine zaM (zBM h1.pm ha) ?_;rintro r2 H2 ⟨rfl,a2,x2,hq2,hp2⟩;rw [zc9] at hp2;rw [zc9] at hq2;rw [zc9];have ed:(q a).drop j = (q a)[j] :: (q a).drop (j + 1):=List.drop_eq_getElem_cons hje;have eu:upd (upd L a x) a x2 = upd L a x2:=by funext b; unfold upd; split <;> rfl
   have eq':upd (upd q a ((q a).drop j)) a ((q a).drop j).tail = upd q a ((q a).drop (j + 1)):=by
    funext b; unfold upd; split
    ·rw [ed]; rfl
    ·rfl
   rw [eu,eq'] at hq2;have h2:=DA.post (L':=upd L a x2) (q':=upd q a ((q a).drop (j + 1))) h1 ha ⟨a2.next,fun i hi hip=>a2.same i (by omega) (by simp; exact hip)⟩ hq2;rw [ed];unfold tkR;dsimp only;have et:(q a).take (j + 1) = (q a).take j ++ [(q a)[j]]:=by rw [List.take_add_one,List.getElem?_eq_getElem hje]; rfl
   obtain ⟨ec,eo⟩:=hb _ (List.getElem_mem hje);generalize hej:(q a)[j] = e at *;refine zf0 rfl ?_;refine zf0 rfl ?_;have n2:=a2.next;refine zlV rfl rfl fun q3 H3 e3 g3 s3 n3=>?_;have l3:ldc (some 3) (oC e) 0 = some (.agg (oC e)):=rfl;have ok3:(V.agg (oC e)).okc = true:=by simp [oC,V.okc,eo]
   have ef:(if (oC e).length = 3 then some (splice [.int .i64 0,.int .i64 0,.nils] 0 (oC e)) else none) = some (oC e):=rfl;have w1:IntKind.i64.wrap (((j:Nat):Int) + 1) = ((j + 1:Nat):Int):=by rw [wrap_i64 (by omega) (by omega)]; omega
   have a12:=a1.trans a2;have hw2:=hw.atS a2 fun i hi e=>by
    have:=(hw.lc.own i hi).1;simp only [List.mem_singleton] at e;omega
   have s4:=Grow.new H3 ⟨tyOu,oC e,none⟩;have hw4:=hw2.atS (Grow.atS (s3.trans s4) []) (by simp);have hya:=zBL (H:=H3) (ty:=tyOu) (o:=none) (cap:=.fix 1) (n:=1) (e:=3) (id:=H3.next) rfl (cs:=oC e) rfl;have n4:(H3.new ⟨tyOu,oC e,none⟩).next = H3.next + 1:=zaO _ _;have h4:=h2.grow (s3.trans s4);simp (maxSteps:=1000000) (disch:=first | omega | (simp only [RY] <;> omega) | decide) only [↓RD,RZ,eq_self,Int.reduceToNat,Int.reduceAdd,Int.reduceSub,Int.reduceMul,Nat.reduceAdd,Nat.reduceSub,Nat.reduceMul,Nat.reduceDiv,Nat.reduceMod,Nat.reduceBEq,Nat.reduceLeDiff,g3,l3,za5,ok3,ef];rw [zgl];generalize H3.new _ = H4 at *;have hlt:((q a).take j).length ≤ 32:=by rw [List.length_take]; omega
   refine zy5 (bytes:=40) hw4 (by omega) hya rfl (by omega) (by omega) fun w5 H5 hx st5=>?_;simp (maxSteps:=1000000) (disch:=first | omega | (simp only [RY] <;> omega) | decide) only [↓RD,RZ,eq_self,Int.reduceToNat,Int.reduceAdd,Int.reduceSub,Int.reduceMul,Nat.reduceAdd,Nat.reduceSub,Nat.reduceMul,Nat.reduceDiv,Nat.reduceMod,Nat.reduceBEq,Nat.reduceLeDiff,w1];have n5:=st5.next;have hown:=hw.lc.own;have n3':=s3.next;have a45:∀ i,i < H.next → H5.get i = H4.get i:=fun i hi=>st5.same i (by omega) (fun e=>by have:=(hown i (by simpa [zn2] using e)).1; omega);have a5:AtS [K.P a] H H5:=⟨by omega,fun i hi hip=>by
    rw [a45 i hi,s4.same i (by omega),s3.same i (by omega),a12.same i hi hip]⟩
   have hp2':x2.pid = (L a).pid:=hp2.trans hp1;have h5:DA K H5 (upd L a x2) D rm (upd q a ((q a).drop (j + 1))) ns nw:=h4.below (m:=H.next) htop (fun b i hb' hi=>?_) (fun b hb' e' he' i hi=>?_) (fun i hi=>a45 i hi) (by omega)
   ·refine ⟨w5,x2,rfl,a5,?_,h5,hp2'⟩;have e1:((((q a).take (j + 1)).map oC).flatten) = ((((q a).take j).map oC).flatten) ++ oC e:=by rw [et]; simp
    have e2:((q a).take (j + 1)).length = ((q a).take j).length + 1:=by rw [et]; simp
    rw [e1,e2];exact hx
   ·by_cases hba:b = a
    ·subst hba;rw [zc9] at hi;exact (hpid i (hp2' ▸ hi)).2
    ·rw [upd_ne _ _ hba] at hi;exact ((h.pm.app b hb').lc.own i hi).2
   ·have hmem:e' ∈ q b:=by
     by_cases hba:b = a
     ·subst hba;rw [zc9] at he';exact List.mem_of_mem_drop he'
     ·rw [upd_ne _ _ hba] at he';exact he'
    exact ((h.pm.each b hb' e' hmem).1.own i hi).2
  ·rintro _ H1 ⟨w,x,rfl,a1,hw,h1,hp1⟩;have gd:=h1.blk;unfold f_desk_Desk_taken_0 uL uS uT uNF uE uB uIM uO uc ug;by_cases hne:n ≤ (q a).length
   ·have em:min n (q a).length = n:=Nat.min_eq_left hne;rw [em] at hw h1 ⊢;have d1:decide (((n:Nat):Int) < ((n:Nat):Int)) = false:=decide_eq_false (by omega);have d1':decide (n < n) = false:=decide_eq_false (by omega);simp (maxSteps:=1000000) (disch:=first | omega | (simp only [RY] <;> omega) | decide) only [↓RD,RZ,eq_self,Int.reduceToNat,Int.reduceAdd,Int.reduceSub,Int.reduceMul,Nat.reduceAdd,Nat.reduceSub,Nat.reduceMul,Nat.reduceDiv,Nat.reduceMod,Nat.reduceBEq,Nat.reduceLeDiff,d1,d1'];exact ⟨w,x,rfl,a1,hw,h1,hp1⟩
   ·have em:min n (q a).length = (q a).length:=Nat.min_eq_right (by omega);rw [em] at hw h1 ⊢;have d1:decide ((((q a).length:Nat):Int) < ((n:Nat):Int)) = true:=decide_eq_true (by omega);have d1':decide ((q a).length < n) = true:=decide_eq_true (by omega);have ed:(q a).drop (q a).length = []:=List.drop_of_length_le (Nat.le_refl _);have et:(q a).take n = q a:=List.take_of_length_le (by omega);have et':(q a).take (q a).length = q a:=List.take_of_length_le (Nat.le_refl _);have edn:(q a).drop n = []:=List.drop_of_length_le (by omega);rw [ed] at h1;rw [et'] at hw;simp (maxSteps:=1000000) (disch:=first | omega | (simp only [RY] <;> omega) | decide) only [↓RD,RZ,eq_self,Int.reduceToNat,Int.reduceAdd,Int.reduceSub,Int.reduceMul,Nat.reduceAdd,Nat.reduceSub,Nat.reduceMul,Nat.reduceDiv,Nat.reduceMod,Nat.reduceBEq,Nat.reduceLeDiff,d1,d1',gd,hia,hpo];refine zaM (zBM h1.pm ha) ?_;rintro r2 H2 ⟨rfl,a2,x2,hq2,hp2⟩;rw [zc9] at hp2;rw [zc9] at hq2;rw [zc9];have eu:upd (upd L a x) a x2 = upd L a x2:=by funext b; unfold upd; split <;> rfl
    have eq':upd (upd q a []) a ([]:List (V × Ot)).tail = upd q a []:=by
     funext b; unfold upd; split <;> rfl
    rw [eu,eq'] at hq2;have n2:=a2.next;have n1:=a1.next;have h2:=DA.post (L':=upd L a x2) (q':=upd q a []) h1 ha ⟨a2.next,fun i hi hip=>a2.same i (by omega) (by simp; exact hip)⟩ hq2;unfold tkR;dsimp only;refine zf0 rfl ?_;refine zf0 rfl ?_;refine zlV rfl rfl fun q3 H3 e3 g3 s3 n3=>?_;simp (maxSteps:=1000000) (disch:=first | omega | (simp only [RY] <;> omega) | decide) only [↓RD,RZ,eq_self,Int.reduceToNat,Int.reduceAdd,Int.reduceSub,Int.reduceMul,Nat.reduceAdd,Nat.reduceSub,Nat.reduceMul,Nat.reduceDiv,Nat.reduceMod,Nat.reduceBEq,Nat.reduceLeDiff];have hw2:=hw.atS a2 fun i hi e=>by
     have:=(hw.lc.own i hi).1;simp only [List.mem_singleton] at e;omega
    refine ⟨w,x2,rfl,(a1.trans a2).trans (Grow.atS s3 _),?_,?_,hp2.trans hp1⟩
    ·rw [et]; exact hw2.atS (Grow.atS s3 []) (by simp)
    ·rw [edn]; exact h2.grow s3
 ·rintro _ H1 ⟨w,x,rfl,a1,hw,h1,hp1⟩;simp (maxSteps:=1000000) (disch:=first | omega | (simp only [RY] <;> omega) | decide) only [↓RD,RZ,eq_self,Int.reduceToNat,Int.reduceAdd,Int.reduceSub,Int.reduceMul,Nat.reduceAdd,Nat.reduceSub,Nat.reduceMul,Nat.reduceDiv,Nat.reduceMod,Nat.reduceBEq,Nat.reduceLeDiff];refine ⟨(q a).take n,x,hw.lc,by rw [← hQ a,List.map_take],fun e he=>?_,⟨a1.next,fun i hl hi hn'=>a1.same i hi (by simp; omega),fun b i hb' hi=>.inr ?_⟩,D,_,h1,?_⟩
  ·have hmem:=List.mem_of_mem_take he;obtain ⟨k1,k2⟩:=h.pm.each a ha e hmem;refine Lc.atS k1 a1 fun i hi e''=>?_;have:=(k1.own i hi).1;simp only [List.mem_singleton] at e'';omega
  ·by_cases hba:b = a
   ·subst hba;rw [zc9] at hi;exact ⟨b,hb',hp1 ▸ hi⟩
   ·rw [upd_ne _ _ hba] at hi;exact ⟨b,hb',hi⟩
  ·have:=zBQ hQ a ((q a).drop n);rw [List.map_drop,hQ a] at this;exact this
end Go.Ax.SU
/- De10 -/
namespace Go.Ax.SU
open Go.Ax
theorem fields7 {H:Heap} {k:Int} (hk:k = 7 ∨ k = 21):Ok (sem T zaC [.int .i64 k]) H fun r H'=>r = txt [115,101,110,98] ∧ H' = H:=by
 refine zg5 ?_;unfold f_palanquinref16_fields uB uc ug;rcases hk with rfl | rfl
 ·simp (maxSteps:=1000000) (disch:=first | omega | (simp only [RY] <;> omega) | decide) only [↓RD,RZ,eq_self,Int.reduceToNat,Int.reduceAdd,Int.reduceSub,Int.reduceMul,Nat.reduceAdd,Nat.reduceSub,Nat.reduceMul,Nat.reduceDiv,Nat.reduceMod,Nat.reduceBEq,Nat.reduceLeDiff];rfl
 ·simp (maxSteps:=1000000) (disch:=first | omega | (simp only [RY] <;> omega) | decide) only [↓RD,RZ,eq_self,Int.reduceToNat,Int.reduceAdd,Int.reduceSub,Int.reduceMul,Nat.reduceAdd,Nat.reduceSub,Nat.reduceMul,Nat.reduceDiv,Nat.reduceMod,Nat.reduceBEq,Nat.reduceLeDiff];rfl
theorem in_wi {H1:Heap} {x lo hi:Int} {f:V → M Res} {Q:Res → Heap → Prop} (h1:lo ≤ x) (h2:x ≤ hi):@OkB V Res (sem T zah [.int .i64 x,.int .i64 lo,.int .i64 hi]) H1 ⟨f⟩ ⟨Q⟩ ↔ Ok (f (.bool true)) H1 Q:=by
 have:=@zgB _ _ _ _ (@in_ok H1 x lo hi);rw [decide_eq_true h1,decide_eq_true h2] at this;exact this
theorem zuU {H1:Heap} (l:List Nat) (c:Int) (b:Bool) (h:Ok8 l) (hl:l.length ≤ 1000) (hc:c = (c.toNat:Nat)) (e:l.contains c.toNat = b) {f:V → M Res} {Q:Res → Heap → Prop}:@OkB V Res (sem T zag [txt l,.int .u8 c]) H1 ⟨f⟩ ⟨Q⟩ ↔ Ok (f (.bool b)) H1 Q:=by
 have:=@zgB _ _ _ _ (@has_ok H1 l c.toNat h hl);rw [e,← hc] at this;exact this
theorem zGf {lo k s e n:Nat} {b:List Nat} (hk:k = 7 ∨ k = 21) (hs:s < 8) (he:e ≤ 65535) (hn:n < 32) (hb0:b ≠ []) (hb2:b.length ≤ 200) {H:Heap} {bv:V} (hb:By lo H bv b):Ok (sem T zam [.agg (nC ⟨(k:Nat),(0:Nat),(s:Nat),(e:Nat),(n:Nat),(0:Nat),b⟩ bv)]) H fun r H'=>r = .bool true ∧ Grow H H':=by
 refine zhW ?_;unfold f_palanquinref16_Good uL uFM uB uG uH uO uc ub ug;have vc:=hb.cells1;have vo:=hb.okc;refine za8 (zen (by simp [nC,V.okc,vo]) ?_);rw [za5];have s0:=Grow.new H ⟨zac,nC ⟨(k:Nat),(0:Nat),(s:Nat),(e:Nat),(n:Nat),(0:Nat),b⟩ bv,none⟩;have g0:(H.new ⟨zac,nC ⟨(k:Nat),(0:Nat),(s:Nat),(e:Nat),(n:Nat),(0:Nat),b⟩ bv,none⟩).get H.next = some ⟨zac,nC ⟨(k:Nat),(0:Nat),(s:Nat),(e:Nat),(n:Nat),(0:Nat),b⟩ bv,none⟩:=zak _ _;generalize hq:H.next = q at *;generalize H.new _ = H1 at *;unfold nC at g0;dsimp only at g0;have bl:=(hb.ext s0).vlen;have hbl:0 < b.length:=by
  rcases b with _ | ⟨x,l⟩
  ·exact absurd rfl hb0
  ·simp
 have d1:decide ((200:Int) < ((b.length:Nat):Int)) = false:=decide_eq_false (by omega);have d1':decide (200 < b.length) = false:=decide_eq_false (by omega);have d2:decide ((0:Int) < ((b.length:Nat):Int)) = true:=decide_eq_true (by omega);have d2':decide (0 < b.length) = true:=decide_eq_true hbl;have d3:decide (((n:Nat):Int) < 256) = true:=decide_eq_true (by omega);have d3':decide (n < 256) = true:=decide_eq_true (by omega);have d4:decide (((n:Nat):Int) < 32) = true:=decide_eq_true (by omega);have d4':decide (n < 32) = true:=decide_eq_true (by omega);have f1:=@zgB _ _ _ _ (@fields7 H1 ((k:Nat):Int) (by omega));have wi:=fun {x lo hi:Int} {f:V → M Res} {Q:Res → Heap → Prop}=>@in_wi H1 x lo hi f Q;have es:Ax.bin .eql (txt [115,101,110,98]) (.str ⟨#[]⟩) = some (.bool false):=txt_ne (l:=[115,101,110,98]) (all8 rfl) (by decide);have h114:=fun {f Q}=>@zuU H1 [115,101,110,98] 114 false (all8 rfl) (by decide) rfl rfl f Q;have h115:=fun {f Q}=>@zuU H1 [115,101,110,98] 115 true (all8 rfl) (by decide) rfl rfl f Q;have h101:=fun {f Q}=>@zuU H1 [115,101,110,98] 101 true (all8 rfl) (by decide) rfl rfl f Q;have h110:=fun {f Q}=>@zuU H1 [115,101,110,98] 110 true (all8 rfl) (by decide) rfl rfl f Q;have h109:=fun {f Q}=>@zuU H1 [115,101,110,98] 109 false (all8 rfl) (by decide) rfl rfl f Q;have h98:=fun {f Q}=>@zuU H1 [115,101,110,98] 98 true (all8 rfl) (by decide) rfl rfl f Q;have ea:Ax.bin .and (.int .i64 (shr n s:Nat)) (.int .i64 1) = some (.int .i64 (Go.bits .and .i64 (shr n s:Nat) 1)):=by simp [Ax.bin,zhG]
 rcases hk with rfl | rfl
 ·simp (maxSteps:=1000000) (disch:=first | omega | (simp only [RY] <;> omega) | decide) only [↓RD,RZ,eq_self,Int.reduceToNat,Int.reduceAdd,Int.reduceSub,Int.reduceMul,Nat.reduceAdd,Nat.reduceSub,Nat.reduceMul,Nat.reduceDiv,Nat.reduceMod,Nat.reduceBEq,Nat.reduceLeDiff,g0,f1,wi,es,h114,h115,h101,h110,h109,h98,bl,d1,d1',d2,d2',d3,d3',d4,d4',ea];exact s0
 ·simp (maxSteps:=1000000) (disch:=first | omega | (simp only [RY] <;> omega) | decide) only [↓RD,RZ,eq_self,Int.reduceToNat,Int.reduceAdd,Int.reduceSub,Int.reduceMul,Nat.reduceAdd,Nat.reduceSub,Nat.reduceMul,Nat.reduceDiv,Nat.reduceMod,Nat.reduceBEq,Nat.reduceLeDiff,g0,f1,wi,es,h114,h115,h101,h110,h109,h98,bl,d1,d1',d2,d2',d3,d3',d4,d4',ea];exact s0
theorem good_rno {lo:Nat} {H:Heap} {e m:Int} (he:e = 1 ∨ e = 6 ∨ e = 12) (hm:0 ≤ m ∧ m ≤ 9) {bv:V} (hb:By lo H bv []):Ok (sem T zam [.agg (nC (noX e m) bv)]) H fun r H'=>r = .bool true ∧ Grow H H':=by
 refine zhW ?_;unfold f_palanquinref16_Good uL uFM uB uG uH uO uc ub ug;have d9:decide (m ≤ 9) = true:=decide_eq_true (by omega);obtain ⟨hm1,hm2⟩:=hm;have vc:=hb.cells1;have vo:=hb.okc;refine za8 (zen (by simp [nC,V.okc,vo]) ?_);rw [za5];have s0:=Grow.new H ⟨zac,nC (noX e m) bv,none⟩;have g0:(H.new ⟨zac,nC (noX e m) bv,none⟩).get H.next = some ⟨zac,nC (noX e m) bv,none⟩:=zak _ _;generalize hq:H.next = q at *;generalize H.new _ = H1 at *;unfold nC noX at g0;dsimp only at g0;have bl:=(hb.ext s0).vlen;have f1:=@zgB _ _ _ _ (@fields18 H1);have wi:=fun {x lo hi:Int} {f:V → M Res} {Q:Res → Heap → Prop}=>@in_wi H1 x lo hi f Q;have es:Ax.bin .eql (txt [110,109]) (.str ⟨#[]⟩) = some (.bool false):=txt_ne (l:=[110,109]) (all8 rfl) (by decide);have h114:=fun {f Q}=>@zuU H1 [110,109] 114 false (all8 rfl) (by decide) rfl rfl f Q;have h115:=fun {f Q}=>@zuU H1 [110,109] 115 false (all8 rfl) (by decide) rfl rfl f Q;have h101:=fun {f Q}=>@zuU H1 [110,109] 101 false (all8 rfl) (by decide) rfl rfl f Q;have h110:=fun {f Q}=>@zuU H1 [110,109] 110 true (all8 rfl) (by decide) rfl rfl f Q;have h109:=fun {f Q}=>@zuU H1 [110,109] 109 true (all8 rfl) (by decide) rfl rfl f Q;have h98:=fun {f Q}=>@zuU H1 [110,109] 98 false (all8 rfl) (by decide) rfl rfl f Q;rcases he with rfl | rfl | rfl
 ·simp (maxSteps:=1000000) (disch:=first | omega | (simp only [RY] <;> omega) | decide) only [↓RD,RZ,eq_self,Int.reduceToNat,Int.reduceAdd,Int.reduceSub,Int.reduceMul,Nat.reduceAdd,Nat.reduceSub,Nat.reduceMul,Nat.reduceDiv,Nat.reduceMod,Nat.reduceBEq,Nat.reduceLeDiff,g0,f1,wi,es,h114,h115,h101,h110,h109,h98,bl,d9];exact s0
 ·simp (maxSteps:=1000000) (disch:=first | omega | (simp only [RY] <;> omega) | decide) only [↓RD,RZ,eq_self,Int.reduceToNat,Int.reduceAdd,Int.reduceSub,Int.reduceMul,Nat.reduceAdd,Nat.reduceSub,Nat.reduceMul,Nat.reduceDiv,Nat.reduceMod,Nat.reduceBEq,Nat.reduceLeDiff,g0,f1,wi,es,h114,h115,h101,h110,h109,h98,bl,d9];exact s0
 ·simp (maxSteps:=1000000) (disch:=first | omega | (simp only [RY] <;> omega) | decide) only [↓RD,RZ,eq_self,Int.reduceToNat,Int.reduceAdd,Int.reduceSub,Int.reduceMul,Nat.reduceAdd,Nat.reduceSub,Nat.reduceMul,Nat.reduceDiv,Nat.reduceMod,Nat.reduceBEq,Nat.reduceLeDiff,g0,f1,wi,es,h114,h115,h101,h110,h109,h98,bl,d9];exact s0
end Go.Ax.SU
/- Ax21 -/
namespace Go.Ax.Cc
inductive CT where
 | lf (v:V)
 | nd (l r:CT)
def CT.get:Nat → CT → Nat → V
 | 0,.lf v,_=>v
 | 0,.nd _ _,_=>.undef
 | _ + 1,.lf _,_=>.undef
 | d + 1,.nd l r,i=>if i < 2 ^ d then CT.get d l i else CT.get d r (i - 2 ^ d)
def CT.set {α:Type}:Nat → CT → Nat → V → (CT → α) → α
 | 0,.lf _,_,v,k=>k (.lf v)
 | 0,.nd _ _,_,v,k=>k (.lf v)
 | d + 1,.lf _,i,v,k=>if i < 2 ^ d then CT.set d (.lf .undef) i v fun l'=>k (.nd l' (.lf .undef)) else CT.set d (.lf .undef) (i - 2 ^ d) v fun r'=>k (.nd (.lf .undef) r')
 | d + 1,.nd l r,i,v,k=>if i < 2 ^ d then CT.set d l i v fun l'=>k (.nd l' r) else CT.set d r (i - 2 ^ d) v fun r'=>k (.nd l r')
def CT.sets {α:Type} (d:Nat):CT → Nat → List V → (CT → α) → α
 | t,_,[],k=>k t
 | t,i,v :: vs,k=>CT.set d t i v fun t'=>CT.sets d t' (i + 1) vs k
def CT.abs:Nat → CT → List V
 | 0,.lf v=>[v]
 | 0,.nd _ _=>[.undef]
 | d + 1,.lf _=>List.replicate (2 ^ (d + 1)) .undef
 | d + 1,.nd l r=>CT.abs d l ++ CT.abs d r
def CT.mk {α:Type}:Nat → List V → (CT → List V → α) → α
 | 0,[],k=>k (.lf .undef) []
 | 0,v :: vs,k=>k (.lf v) vs
 | d + 1,vs,k=>CT.mk d vs fun l r=>CT.mk d r fun l' r'=>k (.nd l l') r'
def CT.rng (d:Nat) (t:CT):Nat → Nat → List V
 | _,0=>[]
 | i,m + 1=>CT.get d t i :: CT.rng d t (i + 1) m
theorem CT.abs_len:∀ (d:Nat) (t:CT),(CT.abs d t).length = 2 ^ d
 | 0,.lf _=>rfl
 | 0,.nd _ _=>rfl
 | d + 1,.lf _=>by simp [CT.abs]
 | d + 1,.nd l r=>by simp only [CT.abs,List.length_append,CT.abs_len d l,CT.abs_len d r,Nat.pow_succ]; omega
theorem CT.get_abs : ∀ (d : Nat) (t : CT) (i : Nat), i < 2 ^ d → (CT.abs d t)[i]? = some (CT.get d t i)
  | 0, .lf v, i, h => by have : i = 0 := by simpa using h
                         subst this; rfl
  | 0, .nd _ _, i, h => by have : i = 0 := by simpa using h
                           subst this; rfl
  | d + 1, .lf _, i, h => by simp only [CT.abs, CT.get, List.getElem?_replicate]; rw [if_pos h]
  | d + 1, .nd l r, i, h => by
    simp only [CT.abs, CT.get]
    rw [List.getElem?_append, CT.abs_len]
    by_cases hi : i < 2 ^ d
    · rw [if_pos hi, if_pos hi, CT.get_abs d l i hi]
    · rw [if_neg hi, if_neg hi, CT.get_abs d r _ (by rw [Nat.pow_succ] at h; omega)]
theorem CT.rng_abs (d:Nat) (t:CT):∀ (m i:Nat),i + m ≤ 2 ^ d → CT.rng d t i m = ((CT.abs d t).drop i).take m
 | 0,i,_=>by simp [CT.rng]
 | m + 1,i,h=>by
  have hi:i < (CT.abs d t).length:=by rw [CT.abs_len]; omega
  rw [CT.rng,CT.rng_abs d t m (i + 1) (by omega),List.drop_eq_getElem_cons hi,List.take_succ_cons];have:=CT.get_abs d t i (by omega);rw [List.getElem?_eq_getElem hi] at this;injection this with this
  rw [this]
theorem CT.abs_blank (d:Nat):CT.abs d (.lf .undef) = List.replicate (2 ^ d) .undef:=by cases d <;> rfl
theorem CT.set_abs {α:Type}:∀ (d:Nat) (t:CT) (i:Nat) (v:V) (k:CT → α),i < 2 ^ d → ∃ t',CT.set d t i v k = k t' ∧ CT.abs d t' = (CT.abs d t).set i v:=by
 intro d
 induction d with
 | zero =>
  intro t i v k h;have:i = 0:=by simpa using h
  subst this;cases t <;> exact ⟨_,rfl,rfl⟩
 | succ d ih =>
  have key:∀ (l r:CT) (i:Nat) (v:V) (k:CT → α),i < 2 ^ (d + 1) → (∃ t',(if i < 2 ^ d then CT.set d l i v fun l'=>k (.nd l' r) else CT.set d r (i - 2 ^ d) v fun r'=>k (.nd l r')) = k t' ∧ CT.abs (d + 1) t' = (CT.abs d l ++ CT.abs d r).set i v):=by
   intro l r i v k h;by_cases hi:i < 2 ^ d
   ·rw [if_pos hi];obtain ⟨t',h1,h3⟩:=ih l i v (fun l'=>k (.nd l' r)) hi;refine ⟨.nd t' r,h1,?_⟩;simp only [CT.abs,h3];rw [List.set_append_left _ _ (by rw [CT.abs_len]; exact hi)]
   ·rw [if_neg hi];obtain ⟨t',h1,h3⟩:=ih r (i - 2 ^ d) v (fun r'=>k (.nd l r')) (by rw [Nat.pow_succ] at h; omega);refine ⟨.nd l t',h1,?_⟩;simp only [CT.abs,h3];rw [List.set_append_right _ _ (by rw [CT.abs_len]; omega),CT.abs_len]
  intro t i v k h;cases t with
  | nd l r=>exact key l r i v k h
  | lf u =>
   obtain ⟨t',h1,h2⟩:=key (.lf .undef) (.lf .undef) i v k h;refine ⟨t',h1,?_⟩;rw [h2,CT.abs_blank];show _ = (List.replicate (2 ^ (d + 1)) .undef).set i v;rw [List.replicate_append_replicate,Nat.pow_succ];congr 2;omega
theorem zAi (cs:List V) (i:Nat) (v:V) (vs:List V) (h:i + (v :: vs).length ≤ cs.length):splice cs i (v :: vs) = splice (cs.set i v) (i + 1) vs:=by
 simp only [List.length_cons] at h;apply List.ext_getElem?;intro j;rw [zh4 _ _ _ (by simpa using h),zh4 _ _ _ (by rw [List.length_set]; omega)];simp only [List.length_cons];by_cases h1:j = i
 ·subst h1;rw [if_pos (by omega),if_neg (by omega),Nat.sub_self,List.getElem?_cons_zero,List.getElem?_set_self (by omega)]
 ·by_cases h2:i ≤ j ∧ j < i + (vs.length + 1)
  ·rw [if_pos h2,if_pos (by omega),show j - i = (j - (i + 1)) + 1 by omega,List.getElem?_cons_succ]
  ·rw [if_neg h2,if_neg (by omega),List.getElem?_set_ne (by omega)]
theorem CT.sets_abs {α:Type} (d:Nat):∀ (vs:List V) (t:CT) (i:Nat) (k:CT → α),i + vs.length ≤ 2 ^ d → ∃ t',CT.sets d t i vs k = k t' ∧ CT.abs d t' = splice (CT.abs d t) i vs
 | [],t,i,k,h=>⟨t,rfl,by simp [splice]⟩
 | v :: vs,t,i,k,h=>by
  simp only [List.length_cons] at h;obtain ⟨t1,h1,h3⟩:=CT.set_abs d t i v (fun t'=>CT.sets d t' (i + 1) vs k) (by omega);obtain ⟨t2,g1,g3⟩:=CT.sets_abs d vs t1 (i + 1) k (by omega);refine ⟨t2,by rw [CT.sets,h1,g1],?_⟩;rw [g3,h3,zAi _ _ _ _ (by rw [CT.abs_len,List.length_cons]; omega)]
theorem CT.mk_abs {α:Type}:∀ (d:Nat) (vs:List V) (k:CT → List V → α),∃ t,CT.mk d vs k = k t (vs.drop (2 ^ d)) ∧ ∀ j,j < vs.length → j < 2 ^ d → (CT.abs d t)[j]? = vs[j]?
 | 0,[],k=>⟨_,rfl,fun j h=>by simp at h⟩
 | 0,v :: vs,k=>⟨_,rfl,fun j _ h=>(by
  have:j = 0:=by simpa using h
  subst this;rfl)⟩
 | d + 1,vs,k=>by
  obtain ⟨t,h1,h3⟩:=CT.mk_abs d vs (fun l r=>CT.mk d r fun l' r'=>k (.nd l l') r');obtain ⟨t',g1,g3⟩:=CT.mk_abs d (vs.drop (2 ^ d)) (fun l' r'=>k (.nd t l') r');refine ⟨.nd t t',?_,fun j hj hj2=>?_⟩
  ·rw [CT.mk,h1,g1,List.drop_drop,Nat.pow_succ];rw [show 2 ^ d + 2 ^ d = 2 ^ d * 2 by omega]
  ·simp only [CT.abs];rw [List.getElem?_append,CT.abs_len];by_cases h:j < 2 ^ d
   ·rw [if_pos h,h3 j hj h]
   ·rw [if_neg h,g3 _ (by rw [List.length_drop]; omega) (by rw [Nat.pow_succ] at hj2; omega),List.getElem?_drop];congr 1;omega
structure Bk where
 ty:TypeId
 n:Nat
 d:Nat
 t:CT
 opn:Option Nat
def Bk.abs (b:Bk):Blk:=⟨b.ty,(CT.abs b.d b.t).take b.n,b.opn⟩
def dep:Nat → Nat → Nat → Nat
 | 0,d,_=>d
 | f + 1,d,n=>if n ≤ 2 ^ d then d else dep f (d + 1) n
theorem dep_le:∀ (f d n:Nat),n ≤ d + f → n ≤ 2 ^ (dep f d n)
 | 0,d,n,h=>by
  rw [dep];have:d < 2 ^ d:=Nat.lt_two_pow_self;omega
 | f + 1,d,n,h=>by
  rw [dep];split
  ·assumption
  ·exact dep_le f (d + 1) n (by omega)
def ofB {α:Type} (b:Blk) (k:Bk → α):α:=CT.mk (dep b.cells.length 0 b.cells.length) b.cells fun t _=>k ⟨b.ty,b.cells.length,dep b.cells.length 0 b.cells.length,t,b.opn⟩
theorem zF2 {α:Type} (b:Blk) (k:Bk → α):∃ b',ofB b k = k b' ∧ b'.abs = b:=by
 obtain ⟨t,h1,h3⟩:=CT.mk_abs (dep b.cells.length 0 b.cells.length) b.cells (fun t _=>k ⟨b.ty,b.cells.length,dep b.cells.length 0 b.cells.length,t,b.opn⟩);refine ⟨_,h1,?_⟩;have hle:=dep_le b.cells.length 0 b.cells.length (by omega);show (⟨b.ty,(CT.abs (dep b.cells.length 0 b.cells.length) t).take b.cells.length,b.opn⟩:Blk) = b;have:(CT.abs (dep b.cells.length 0 b.cells.length) t).take b.cells.length = b.cells:=by
  apply List.ext_getElem?;intro j;by_cases hj:j < b.cells.length
  ·rw [List.getElem?_take_of_lt hj,h3 j hj (by omega)]
  ·rw [List.getElem?_eq_none (by rw [List.length_take]; omega),List.getElem?_eq_none (by omega)]
 rw [this]
inductive Tr where
 | e
 | n (v:Option Bk) (l r:Tr)
def Tr.get:Tr → Nat → Option Bk
 | .e,_=>none
 | .n v l r,k=>if k = 0 then v else if (k - 1) % 2 = 0 then l.get ((k - 1) / 2) else r.get ((k - 1) / 2)
def Tr.val:Tr → Option Bk
 | .e=>none
 | .n v _ _=>v
def Tr.left:Tr → Tr
 | .e=>.e
 | .n _ l _=>l
def Tr.right:Tr → Tr
 | .e=>.e
 | .n _ _ r=>r
def Tr.put:Nat → Tr → Nat → Option Bk → Tr
 | 0,t,_,_=>t
 | f + 1,t,k,b=>if k = 0 then .n b t.left t.right else if (k - 1) % 2 = 0 then .n t.val (Tr.put f t.left ((k - 1) / 2) b) t.right else .n t.val t.left (Tr.put f t.right ((k - 1) / 2) b)
theorem Tr.get_node (t:Tr) (k:Nat):t.get k = if k = 0 then t.val else if (k - 1) % 2 = 0 then t.left.get ((k - 1) / 2) else t.right.get ((k - 1) / 2):=by
 cases t with
 | e=>simp [Tr.get,Tr.val,Tr.left,Tr.right]
 | n v l r=>simp [Tr.get,Tr.val,Tr.left,Tr.right]
theorem Tr.get_put:∀ (f:Nat) (t:Tr) (k:Nat) (b:Option Bk),k < f → ∀ j,(Tr.put f t k b).get j = if j = k then b else t.get j:=by
 intro f
 induction f with
 | zero=>intro t k b h; omega
 | succ f ih =>
  intro t k b h j;simp only [Tr.put];by_cases hk:k = 0
  ·subst hk;rw [if_pos rfl];simp only [Tr.get];by_cases hj:j = 0
   ·rw [if_pos hj,if_pos hj]
   ·rw [if_neg hj,if_neg hj,Tr.get_node t j,if_neg hj]
  ·rw [if_neg hk];by_cases hp:(k - 1) % 2 = 0
   ·rw [if_pos hp];simp only [Tr.get];rw [Tr.get_node t j];by_cases hj:j = 0
    ·rw [if_pos hj,if_pos hj,if_neg (by omega)]
    ·rw [if_neg hj,if_neg hj];by_cases hq:(j - 1) % 2 = 0
     ·rw [if_pos hq,if_pos hq,ih _ _ _ (by omega)];by_cases e:j = k
      ·subst e; rw [if_pos rfl,if_pos rfl]
      ·rw [if_neg (by omega),if_neg e]
     ·rw [if_neg hq,if_neg hq,if_neg (by rintro rfl; exact hq hp)]
   ·rw [if_neg hp];simp only [Tr.get];rw [Tr.get_node t j];by_cases hj:j = 0
    ·rw [if_pos hj,if_pos hj,if_neg (by omega)]
    ·rw [if_neg hj,if_neg hj];by_cases hq:(j - 1) % 2 = 0
     ·rw [if_pos hq,if_pos hq,if_neg (by rintro rfl; exact hp hq)]
     ·rw [if_neg hq,if_neg hq,ih _ _ _ (by omega)];by_cases e:j = k
      ·subst e; rw [if_pos rfl,if_pos rfl]
      ·rw [if_neg (by omega),if_neg e]
structure Heap where
 t:Tr
 next:Nat
def Heap.getB (H:Heap) (id:Nat):Option Bk:=H.t.get id
def Heap.get (H:Heap) (id:Nat):Option Blk:=(H.t.get id).map Bk.abs
def Heap.setB (H:Heap) (id:Nat) (b:Option Bk):Heap:={ H with t:=Tr.put (id + 1) H.t id b }
def Heap.set (H:Heap) (id:Nat) (b:Option Blk):Heap:=match b with | none=>H.setB id none | some b=>ofB b fun b=>H.setB id (some b)
def Heap.new (H:Heap) (b:Blk):Heap:=ofB b fun b=>{ t:=Tr.put (H.next + 1) H.t H.next (some b),next:=H.next + 1 }
def Heap.abs (H:Heap):Ax.Heap:=⟨H.get,H.next⟩
theorem zjP (H:Heap) (id:Nat):H.abs.get id = H.get id:=rfl
theorem zvo (H:Heap):H.abs.next = H.next:=rfl
theorem zzT (H:Heap) (id:Nat) (b:Option Bk):(H.setB id b).abs = H.abs.set id (b.map Bk.abs):=by
 simp only [Heap.abs,Heap.setB,Ax.Heap.set,Ax.Heap.mk.injEq,and_true];funext i;simp only [Heap.get,Tr.get_put _ _ _ _ (Nat.lt_succ_self id)];by_cases h:i = id
 ·rw [if_pos h,if_pos h]
 ·rw [if_neg h,if_neg h]
theorem zph (H:Heap) (id:Nat) (b:Option Blk):(H.set id b).abs = H.abs.set id b:=by
 cases b with
 | none=>exact zzT H id none
 | some b =>
  obtain ⟨b',h1,h2⟩:=zF2 b (fun b=>H.setB id (some b));simp only [Heap.set];rw [h1,zzT,Option.map_some,h2]
theorem znb (H:Heap) (b:Blk):(H.new b).abs = H.abs.new b:=by
 obtain ⟨b',h1,h2⟩:=zF2 b (fun b=>({ t:=Tr.put (H.next + 1) H.t H.next (some b),next:=H.next + 1 }:Heap));unfold Heap.new;rw [h1];simp only [Heap.abs,Ax.Heap.new,Ax.Heap.mk.injEq,and_true];funext i;simp only [Heap.get,Tr.get_put _ _ _ _ (Nat.lt_succ_self H.next)];by_cases h:i = H.next
 ·subst h;simp only [if_true,Option.map_some,h2]
 ·simp only [h,if_false]
abbrev M (α:Type):Type:=Heap → Option (α × Heap)
abbrev Sem':Type:=FuncId → List V → M V
def zDs {α:Type} (n:Nat) (k:Nat → α):α:=Nat.rec (k 0) (fun m _=>k (Nat.succ m)) n
theorem zGo {α:Type} (n:Nat) (k:Nat → α):zDs n k = k n:=by cases n <;> rfl
def zGn {α:Type} (v:V) (k:V → α):α :=
 match v with
 | .int kk (.ofNat n)=>zDs n fun n=>k (.int kk (.ofNat n))
 | .int kk (.negSucc n)=>zDs n fun n=>k (.int kk (.negSucc n))
 | .lit (.float kk b)=>zDs b fun b=>k (.lit (.float kk b))
 | .bool true=>k (.bool true)
 | .bool false=>k (.bool false)
 | v=>k v
theorem zGm {α:Type} (v:V) (k:V → α):zGn v k = k v:=by
 unfold zGn;split <;> first | rfl | exact zGo ..
namespace M
def pure {α:Type} (a:α):M α:=fun H=>some (a,H)
def fail {α:Type}:M α:=fun _=>none
def bind {α β:Type} (x:M α) (f:α → M β):M β:=fun H=>match x H with | some r=>f r.1 r.2 | none=>none
def lift (o:Option V):M V:=fun H=>match o with | some a=>zGn a fun a=>some (a,H) | none=>none
def getH:M Heap:=fun H=>some (H,H)
def ite {α:Type} (c:V) (x y:M α):M α:=match c with
 | .bool b=>if b then x else y
 | _=>fail
end M
def ldt (n:Option Nat) (b:Bk) (off:Nat):Option V :=
 match n with
 | none=>if off < b.n then (if off < 2 ^ b.d then some (CT.get b.d b.t off) else none) else none
 | some n=>if off + n ≤ b.n then (if off + n ≤ 2 ^ b.d then some (.agg (CT.rng b.d b.t off n)) else none) else none
def mload (n:Option Nat) (p:V):M V:=fun H =>
 match p with
 | .ptr id off=>match H.getB id with | some b=>(match ldt n b off with | some v=>some (v,H) | none=>none) | none=>none
 | .rp cells off=>(ldc n cells off).map fun v=>(v,H)
 | _=>none
def mstore (size:Nat) (p x:V):M V:=fun H =>
 match p with
 | .ptr id off=>match H.getB id with
  | some b=>if x.cells.length = size ∧ off + size ≤ b.n ∧ off + size ≤ 2 ^ b.d ∧ x.okc = true then CT.sets b.d b.t off x.cells fun t=>some (.undef,H.setB id (some { b with t:=t })) else none
  | none=>none
 | _=>none
def mbox (ty:TypeId) (x:V):M V:=fun H=>if x.okc = true then some (.ptr H.next 0,H.new ⟨ty,x.cells,none⟩) else none
def mslit (ty:TypeId) (len:Nat) (zero:List V) (parts:List (Nat × Nat × V)):M V:=fun H =>
 (fill (zeros zero len) parts).map fun cs=>(.sl H.next 0 len (.fix len),H.new ⟨ty,cs,none⟩)
def rcells (esz:Nat) (H:Heap):V → Option (List V × Nat)
 | .nils=>some ([],0)
 | .sl id off len _=>(H.get id).bind fun b=>if off + len * esz ≤ b.cells.length then some ((b.cells.drop off).take (len * esz),len) else none
 | .rs cells len=>if len * esz ≤ cells.length then some (cells.take (len * esz),len) else none
 | _=>none
def acells (esz:Nat) (H:Heap):V → Option (List V × Nat)
 | .str s=>if esz = 1 then some (strCells s,s.size) else none
 | v=>rcells esz H v
def mappendq (ty esz bytes:Nat) (q:List V × Nat) (x:V):M V:=fun H =>
  match x with
  | .nils=>if q.2 = 0 then some (.nils,H) else if q.2 * bytes ≤ 140737488355328 ∧ q.2 ≤ maxLen then some (.sl H.next 0 q.2 (.opn esz),H.new ⟨ty,q.1,some esz⟩) else none
  | .sl id off len cap=>(H.get id).bind fun b =>
   if off + len * esz ≤ b.cells.length ∧ b.ty = ty then
    match cap with
    | .fix c =>
     if len + q.2 ≤ c then
      if off + (len + q.2) * esz ≤ b.cells.length then some (.sl id off (len + q.2) (.fix c),H.set id (some { b with cells:=splice b.cells (off + len * esz) q.1 })) else none
     else if (len + q.2) * bytes ≤ 140737488355328 ∧ len + q.2 ≤ maxLen then
      some (.sl H.next 0 (len + q.2) (.opn esz),H.new ⟨ty,(b.cells.drop off).take (len * esz) ++ q.1,some esz⟩)
     else none
    | .opn e =>
     if e = esz ∧ b.opn = some esz ∧ b.cells.length = off + len * esz then
      if q.2 = 0 then some (.sl id off len (.opn e),H)
      else if (len + q.2) * bytes ≤ 140737488355328 ∧ len + q.2 ≤ maxLen then
       some (.sl H.next 0 (len + q.2) (.opn esz),(H.set id none).new ⟨ty,b.cells.drop off ++ q.1,some esz⟩)
      else none
     else if e = esz ∧ q.2 = 0 then some (.sl id off len (.opn e),H)
     else if e = esz ∧ b.opn = some esz ∧ off + (len + q.2) * esz ≤ b.cells.length then
      some (.sl id off (len + q.2) (.opn e),H.set id (some { b with cells:=splice b.cells (off + len * esz) q.1 }))
     else none
   else none
  | .rs cells len=>if q.2 = 0 then some (.rs cells len,H) else none
  | _=>none
def mappend (ty esz bytes:Nat) (x y:V):M V:=fun H=>(acells esz H y).bind fun q=>mappendq ty esz bytes q x H
def mappendz (ty bytes:Nat) (zero:List V) (x n:V):M V:=fun H =>
 match n with
 | .int _ l =>
  if 0 ≤ IntKind.i64.wrap l ∧ IntKind.i64.wrap l * bytes ≤ 281474976710656 then mappendq ty zero.length bytes (zeros zero (IntKind.i64.wrap l).toNat,(IntKind.i64.wrap l).toNat) x H else none
 | _=>none
def mcopy (esz:Nat) (d s:V):M V:=fun H =>
 (acells esz H s).bind fun q =>
  match d with
  | .nils=>some (.int .i64 0,H)
  | .sl id off len _=>(H.get id).bind fun b =>
   if off + len * esz ≤ b.cells.length then
    some (.int .i64 ((min q.2 len:Nat):Int),H.set id (some { b with cells:=splice b.cells off (q.1.take (min q.2 len * esz)) }))
   else none
  | _=>none
def mslice2 (esz:Nat) (x lo hi:V):M V:=fun H =>
 match x,lo,hi with
 | .sl id off len (.opn e),.int _ l,.int _ h=>(H.get id).bind fun b =>
  if e = esz ∧ b.opn = some esz ∧ 0 ≤ l ∧ l ≤ h ∧ off + h.toNat * esz ≤ b.cells.length then some (.sl id (off + l.toNat * esz) (h.toNat - l.toNat) (.opn e),H) else none
 | _,_,_=>none
def mclear (zero:List V) (x:V):M V:=fun H =>
 match x with
 | .sl id off len _=>if len = 0 then some (.undef,H) else (H.get id).bind fun b =>
  if off + len * zero.length ≤ b.cells.length then some (.undef,H.set id (some { b with cells:=splice b.cells off (zeros zero len) })) else none
 | _=>none
def mmknz (ty:TypeId) (n:V):M V:=fun H =>
 match n with
 | .int .i64 n=>if 0 ≤ n ∧ n ≤ 281474976710656 then some (.sl H.next 0 n.toNat (.opn 1),H.new ⟨ty,List.replicate n.toNat .any,some 1⟩) else none
 | _=>none
def mtostr (x:V):M V:=fun H=>(rcells 1 H x).bind fun q=>(ztV q.1).map fun l=>(.str ⟨l.toArray⟩,H)
def mtobytes (ty:TypeId) (x:V):M V:=fun H =>
 match x with
 | .str s=>if s.size ≤ maxLen then some (.sl H.next 0 s.size (.opn 1),H.new ⟨ty,strCells s,some 1⟩) else none
 | _=>none
def mremark (ty:TypeId) (x:V):M V:=fun H =>
 match x with
 | .str s=>mtobytes ty (.str s) H
 | .sl id off len cap=>(H.get id).bind fun _=>if len = 0 then none else some (.sl id off len cap,H)
 | _=>none
def mmkslice (ty bytes:Nat) (zero:List V) (len cap:V):M V:=fun H =>
 match len,cap with
 | .int .i64 l,.int .i64 c =>
  if 0 ≤ l ∧ l ≤ c ∧ c * bytes ≤ 281474976710656 ∧ c ≤ 281474976710656 then
   some (.sl H.next 0 l.toNat (.fix c.toNat),H.new ⟨ty,zeros zero c.toNat,none⟩)
  else none
 | _,_=>none
def same1:V → V → Bool
 | .bool a,.bool b=>a == b
 | .int k a,.int k' b=>decide (k = k') && decide (a = b)
 | .nilp,.nilp=>true
 | .nils,.nils=>true
 | .ptr a b,.ptr c d=>decide (a = c) && decide (b = d)
 | .mp a,.mp b=>decide (a = b)
 | .sl a b c (.fix d),.sl a' b' c' (.fix d')=>decide (a = a') && decide (b = b') && decide (c = c') && decide (d = d')
 | .sl a b c (.opn d),.sl a' b' c' (.opn d')=>decide (a = a') && decide (b = b') && decide (c = c') && decide (d = d')
 | _,_=>false
def sames:List V → List V → Bool
 | [],[]=>true
 | v :: vs,u :: us=>same1 v u && sames vs us
 | _,_=>false
def zFF:Option Blk → Option Blk → Bool
 | none,none=>true
 | some a,some b=>decide (a.ty = b.ty) && decide (a.opn = b.opn) && sames a.cells b.cells
 | _,_=>false
theorem same1_eq {a b:V} (h:same1 a b = true):a = b:=by
 unfold same1 at h;split at h <;> simp_all
theorem sames_eq:∀ {a b:List V},sames a b = true → a = b:=by
 intro a
 induction a with
 | nil=>intro b h; cases b <;> simp_all [sames]
 | cons v a ih =>
  intro b h;cases b with
  | nil=>simp [sames] at h
  | cons u b =>
   simp only [sames,Bool.and_eq_true] at h;rw [same1_eq h.1,ih h.2]
theorem sameB_eq {a b:Option Blk} (h:zFF a b = true):a = b:=by
 cases a with
 | none=>cases b <;> simp_all [zFF]
 | some a =>
  cases b with
  | none=>simp [zFF] at h
  | some b =>
   obtain ⟨t,c,o⟩:=a;obtain ⟨t',c',o'⟩:=b;simp only [zFF,Bool.and_eq_true,decide_eq_true_eq] at h;obtain ⟨⟨rfl,rfl⟩,h⟩:=h;rw [sames_eq h]
def mmkmap (ty:TypeId):M V:=fun H=>some (.mp H.next,H.new ⟨ty,[],none⟩)
def mlookup (mk:MK) (zero:V) (ok:Bool) (x k:V):M V:=fun H =>
 match x with
 | .mp id=>(H.get id).bind fun b=>if kok mk k = true then (mget mk k b.cells).map fun r=>(if ok then .tup [r.getD zero,.bool r.isSome] else r.getD zero,H) else none
 | _=>none
def mmapset (mk:MK) (x k v:V):M V:=fun H =>
 match x with
 | .mp id=>(H.get id).bind fun b=>if kok mk k = true then (mset mk k v b.cells).map fun cs=>(.undef,H.set id (some { b with cells:=cs })) else none
 | _=>none
def mmapdrop (p:Bool) (o:Nat) (x n:V):M V:=fun H =>
 match x,n with
 | .ptr id off,.int .i64 n=>(H.get id).bind fun b0 =>
  match b0.cells[off + o]? with
  | some (.mp i)=>(H.get i).bind fun b=>(mfil p n b.cells).map fun cs=>(.undef,H.set i (some { b with cells:=cs }))
  | _=>none
 | _,_=>none
def matoload (k:IntKind) (p:V):M V:=fun H=>(mload none p H).bind fun r =>
 match r.1 with
 | .int k' n=>if k' = k then some (.int k n,r.2) else none
 | _=>none
def matoadd (k:IntKind) (p y:V):M V:=fun H =>
 match p,y with
 | .ptr id off,.int _ j=>(H.get id).bind fun b =>
  match b.cells[off]? with
  | some (.int k' n)=>if k' = k then some (.int k (k.wrap (n + j)),H.set id (some { b with cells:=splice b.cells off [.int k (k.wrap (n + j))] })) else none
  | _=>none
 | _,_=>none
def mmaplen (x:V):M V:=fun H =>
 match x with
 | .mp id=>(H.get id).map fun b=>(.int .i64 ((b.cells.length / 2:Nat):Int),H)
 | _=>none
def M.unch (v:V) (h h':Heap):M Unit:=fun H =>
 match v.pid with
 | none=>some ((),H)
 | some id=>if zFF (h'.get id) (h.get id) then some ((),H) else none
def callv (G:Sem') (x:V) (args:List V):M V :=
 match x with
 | .fn f caps=>G f (args ++ caps)
 | _=>M.fail
def with1 {α:Type} (A:Fr) (x:Arg) (k:V → M α):M α:=match x.ev A with | some v=>k v | none=>M.fail
def withs {α:Type} (A:Fr) (xs:List Arg) (k:List V → M α):M α:=match evs A xs with | some v=>k v | none=>M.fail
def I.run (G:Sem') (A:Fr):I → M V
 | .mv x=>with1 A x M.pure
 | .pick c a b=>with1 A c fun c=>with1 A a fun a=>with1 A b fun b=>M.lift (Ax.pick c a b)
 | .box ty x=>with1 A x fun x=>mbox ty x
 | .build zero parts=>match zdP A parts with | some ps=>M.lift (Ax.build zero ps) | none=>M.fail
 | .slit ty l zero parts=>match zdP A parts with | some ps=>mslit ty l zero ps | none=>M.fail
 | .load n x=>with1 A x fun x=>mload n x
 | .store size p x=>with1 A p fun p=>with1 A x fun x=>mstore size p x
 | .nilck x=>with1 A x fun x=>M.lift (Ax.nilck x)
 | .bin op x y=>with1 A x fun x=>with1 A y fun y=>M.lift (Ax.bin op x y)
 | .eq k neg x y=>with1 A x fun x=>with1 A y fun y=>M.lift (eqr k neg x y)
 | .un op x=>with1 A x fun x=>M.lift (Ax.un op x)
 | .cint k x=>with1 A x fun x=>M.lift (Ax.cint k x)
 | .tostr x=>with1 A x fun x=>mtostr x
 | .tobytes ty x=>with1 A x fun x=>mtobytes ty x
 | .faddr o x=>with1 A x fun x=>M.lift (Ax.faddr o x)
 | .iaddr alen esz x i=>with1 A x fun x=>with1 A i fun i=>M.lift (Ax.iaddr alen esz x i)
 | .index l esz n x i=>with1 A x fun x=>with1 A i fun i=>M.lift (Ax.index l esz n x i)
 | .sindex x i=>with1 A x fun x=>with1 A i fun i=>M.lift (Ax.sindex x i)
 | .field off n x=>with1 A x fun x=>M.lift (Ax.field off n x)
 | .ext i x=>with1 A x fun x=>M.lift (Ax.ext i x)
 | .len x=>with1 A x fun x=>M.lift (vlen x)
 | .slen x=>with1 A x fun x=>M.lift (Ax.slen x)
 | .slice ck esz x lo hi mx=>with1 A x fun x =>
  match zhU A lo,zhU A hi,zhU A mx with | some lo,some hi,some mx=>M.lift (zbo ck esz x lo hi mx) | _,_,_=>M.fail
 | .append ty esz bytes x y=>with1 A x fun x=>with1 A y fun y=>mappend ty esz bytes x y
 | .appendz ty bytes zero x y=>with1 A x fun x=>with1 A y fun y=>mappendz ty bytes zero x y
 | .slice2 esz x lo hi=>with1 A x fun x=>with1 A lo fun lo=>with1 A hi fun hi=>mslice2 esz x lo hi
 | .clear zero x=>with1 A x fun x=>mclear zero x
 | .op1 k x=>with1 A x fun x=>M.lift (Ax.op1 k x)
 | .mknz ty x=>with1 A x fun x=>mmknz ty x
 | .remark ty x=>with1 A x fun x=>mremark ty x
 | .copy esz x y=>with1 A x fun x=>with1 A y fun y=>mcopy esz x y
 | .mkslice ty bytes zero l c=>with1 A l fun l=>with1 A c fun c=>mmkslice ty bytes zero l c
 | .minmax mx x xs=>with1 A x fun x=>withs A xs fun xs=>M.lift (Ax.minmax mx x xs)
 | .call f args=>withs A args fun args=>G f args
 | .callv x args=>with1 A x fun x=>withs A args fun args=>callv G x args
 | .mkfn f caps=>withs A caps fun caps=>M.pure (.fn f caps)
 | .mkmap ty=>mmkmap ty
 | .lookup mk zero ok x k=>with1 A x fun x=>with1 A k fun k=>mlookup mk zero ok x k
 | .mapset mk x k v=>with1 A x fun x=>with1 A k fun k=>with1 A v fun v=>mmapset mk x k v
 | .maplen x=>with1 A x fun x=>mmaplen x
 | .aload k x=>with1 A x fun x=>matoload k x
 | .aadd k x y=>with1 A x fun x=>with1 A y fun y=>matoadd k x y
 | .mdrop p o x n=>with1 A x fun x=>with1 A n fun n=>mmapdrop p o x n
def guarded (A:Fr) (gd:Option (Nat × Bool)) (x:M V):M V :=
 match gd with
 | none=>x
 | some (s,want)=>match A.get s with
  | some (.bool b)=>if b = want then x else M.pure .undef
  | some (.tup [])=>M.pure .undef
  | _=>M.fail
def AO.run (G:Sem') (A:Fr) (o:AO):M V:=guarded A o.gd (I.run G A o.ins)
def step {α:Type} (G:Sem') (o:AO) (A:Fr) (k:V → M α):M α :=
 match o.gd,o.ins with
 | none,.mv x=>(match x.ev A with | some v=>k v | none=>M.fail)
 | _,_=>M.bind (AO.run G A o) k
def opsK {α:Type} (G:Sem'):List AO → Fr → (Fr → M α) → M α
 | [],A,k=>k A
 | o :: os,A,k=>step G o A fun v=>opsK G os (A.put o.dst v) k
def actsK {α:Type} (un:List (Nat × Nat)) (i:Nat) (a:V):List (Nat × Heap × Heap) → M α → M α
 | [],k=>k
 | (j,h,h') :: js,k=>if un.contains (i,j) then M.bind (M.unch a h h') fun _=>actsK un i a js k else actsK un i a js k
def readsK {α:Type} (un:List (Nat × Nat)) (j:Nat) (h h':Heap):List (Nat × V) → M α → M α
 | [],k=>k
 | (i,a) :: rs,k=>if un.contains (i,j) then M.bind (M.unch a h h') fun _=>readsK un j h h' rs k else readsK un j h h' rs k
def with1' {α:Type} (A:Fr) (x:Arg) (k:V → M α):M α:=match x.ev A with | some v=>k v | none=>k .undef
def drawK {α:Type} (G:Sem') (un:List (Nat × Nat)):Nat → List (Nat × V) → List (Nat × Heap × Heap) → List AO → Fr → (Fr → M α) → M α
 | _,_,_,[],A,k=>k A
 | p,rs,js,o :: os,A,k =>
  match o.ins.kind with
  | .read x =>
   if un.any (fun q=>q.1 == p) then
    with1' A x fun a=>step G o A fun v=>actsK un p a js (drawK G un (p + 1) ((p,a) :: rs) js os (A.put o.dst v) k)
   else step G o A fun v=>drawK G un (p + 1) rs js os (A.put o.dst v) k
  | .act =>
   if un.any (fun q=>q.2 == p) then
    M.bind M.getH fun h=>step G o A fun v=>M.bind M.getH fun h'=>readsK un p h h' rs (drawK G un (p + 1) rs ((p,h,h') :: js) os (A.put o.dst v) k)
   else step G o A fun v=>drawK G un (p + 1) rs js os (A.put o.dst v) k
  | _=>step G o A fun v=>drawK G un (p + 1) rs js os (A.put o.dst v) k
def M.join (x:M Res) (k:List V → M Res):M Res:=M.bind x fun r =>
 match r with
 | .nrm L=>k L
 | .ex id L=>M.pure (.ex id L)
 | .ret L=>M.pure (.ret L)
def M.blk (id:Nat) (x:M Res) (k:List V → M Res):M Res:=M.bind x fun r =>
 match r with
 | .nrm L=>k L
 | .ex i L=>if i = id then k L else M.pure (.ex i L)
 | .ret L=>M.pure (.ret L)
def iterN (body:List V → M Res):Nat → List V → M Res
 | 0,_=>M.fail
 | n + 1,L=>M.join (body L) (iterN body n)
def M.iter (body:List V → M Res) (L:List V):M Res:=iterN body 1000000000 L
def resK {α:Type} (A:Fr):List RV → (List V → M α) → M α
 | [],k=>k []
 | .tmp t :: rs,k=>match A.get t with | some v=>resK A rs fun vs=>k (v :: vs) | none=>M.fail
 | .cell t n :: rs,k=>match A.get t with | some a=>M.bind (mload n a) fun v=>resK A rs fun vs=>k (v :: vs) | none=>M.fail
def execK (G:Sem') (rv:List RV):C → List (Nat × List Nat) → List Nat → Fr → M Res
 | .done,_,J,A=>match ze7 A J with | some L=>M.pure (.nrm L) | none=>M.fail
 | .bad,_,_,_=>M.fail
 | .ops l k,cx,J,A=>opsK G l A fun A'=>execK G rv k cx J A'
 | .draw l un k,cx,J,A=>drawK G un 0 [] [] l A fun A'=>execK G rv k cx J A'
 | .cond x a b,cx,J,A=>match x.ev A with | some c=>M.ite c (execK G rv a cx J A) (execK G rv b cx J A) | none=>M.fail
 | .condJ x a b J' W k,cx,J,A=>match x.ev A with
  | some c=>M.join (M.ite c (execK G rv a cx J' A) (execK G rv b cx J' A)) fun L=>execK G rv k cx J (A.join J' W L)
  | none=>M.fail
 | .blk id a J' W k,cx,J,A=>M.blk id (execK G rv a ((id,J') :: cx) J' A) fun L=>execK G rv k cx J (A.join J' W L)
 | .loop a K W,cx,_,A=>match ze7 A K with | some L=>M.iter (fun L=>execK G rv a cx K (A.join K W L)) L | none=>M.fail
 | .exit id,cx,_,A=>match zwR cx id with | some J=>(match ze7 A J with | some L=>M.pure (.ex id L) | none=>M.fail) | none=>M.fail
 | .ret,_,_,A=>resK A rv fun L=>M.pure (.ret L)
def fin (x:M Res):M V:=M.bind x fun r =>
 match r with
 | .ret L=>M.pure (znd L)
 | _=>M.fail
/-! It does what the abstract machine does. -/
def Sim {α:Type} (x:M α) (y:Ax.M α):Prop:=∀ c v c',x c = some (v,c') → y c.abs = some (v,c'.abs)
def Sims (g:Sem') (G:Ax.Sem'):Prop:=∀ f args,Sim (g f args) (G f args)
section
variable {α β:Type}
theorem zgI (v:α):Sim (M.pure v) (Ax.M.pure v):=by
 intro c u c' h;simp only [M.pure,Option.some.injEq,Prod.mk.injEq] at h;obtain ⟨rfl,rfl⟩:=h;rfl
theorem zaa {y:Ax.M α}:Sim M.fail y:=by intro c v c' h; cases h
theorem zdR (o:Option V):Sim (M.lift o) (Ax.M.lift o):=by
 intro c u c' h;cases o with
 | none=>cases h
 | some a =>
  simp only [M.lift,zGm,Option.some.injEq,Prod.mk.injEq] at h;obtain ⟨rfl,rfl⟩:=h;rfl
theorem zEX {x:M α} {f:α → M β} {c:Heap} {r:β × Heap} (h:M.bind x f c = some r):∃ v c1,x c = some (v,c1) ∧ f v c1 = some r:=by
 simp only [M.bind] at h;cases hx:x c with
 | none=>rw [hx] at h; cases h
 | some q=>rw [hx] at h; exact ⟨q.1,q.2,rfl,h⟩
theorem zmo {x:M α} {y:Ax.M α} {f:α → M β} {g:α → Ax.M β} (h:Sim x y) (k:∀ v,Sim (f v) (g v)):Sim (M.bind x f) (y.bind g):=by
 intro c v c' e;obtain ⟨u,c1,h1,h2⟩:=zEX e;rw [bind_ok (h c u c1 h1)];exact k u c1 v c' h2
theorem zFx (c:V) {x x':M α} {y y':Ax.M α} (h:Sim x y) (k:Sim x' y'):Sim (M.ite c x x') (Ax.M.ite c y y'):=by
 cases c <;> first | exact zaa | skip
 rename_i b;cases b
 ·exact k
 ·exact h
theorem ldt_eq {n:Option Nat} {b:Bk} {off:Nat} {v:V} (h:ldt n b off = some v):ldc n b.abs.cells off = some v:=by
 cases n with
 | none =>
  simp only [ldt] at h;split at h
  ·rename_i h1;split at h
   ·rename_i h2;injection h with h
    subst h;simp only [ldc,Bk.abs];rw [List.getElem?_take_of_lt h1,CT.get_abs _ _ _ h2]
   ·cases h
  ·cases h
 | some n =>
  simp only [ldt] at h;split at h
  ·rename_i h1;split at h
   ·rename_i h2;injection h with h
    subst h;have hl:off + n ≤ ((CT.abs b.d b.t).take b.n).length:=by rw [List.length_take,CT.abs_len]; omega
    show (if off + n ≤ ((CT.abs b.d b.t).take b.n).length then some (V.agg ((((CT.abs b.d b.t).take b.n).drop off).take n)) else none) = _;rw [if_pos hl,CT.rng_abs _ _ _ _ h2,List.drop_take,List.take_take,Nat.min_eq_left (by omega)]
   ·cases h
  ·cases h
theorem zyI (n:Option Nat) (p:V):Sim (mload n p) (Ax.mload n p):=by
 intro c v c' h;cases p <;> simp only [mload,Ax.mload,Option.bind_eq_some_iff,Option.map_eq_some_iff,Prod.mk.injEq,reduceCtorEq,zjP] at h ⊢
 ·split at h
  ·rename_i b hb;split at h
   ·rename_i u hu;simp only [Option.some.injEq,Prod.mk.injEq] at h;obtain ⟨rfl,rfl⟩:=h;exact ⟨b.abs,by simp only [Heap.get]; rw [show c.t.get _ = some b from hb]; rfl,u,ldt_eq hu,rfl,rfl⟩
   ·cases h
  ·cases h
 ·obtain ⟨u,hu,rfl,rfl⟩:=h; exact ⟨u,hu,rfl,rfl⟩
theorem zFt (n:Nat) (p x:V):Sim (mstore n p x) (Ax.mstore n p x):=by
 intro c v c' h;cases p <;> simp only [mstore,Ax.mstore,Option.bind_eq_some_iff,reduceCtorEq,zjP] at h ⊢
 rename_i id off;split at h
 ·rename_i b hb;split at h
  ·rename_i hc;obtain ⟨h1,h2,h3,h4⟩:=hc;obtain ⟨t',g1,g2⟩:=CT.sets_abs b.d x.cells b.t off (fun t=>some (V.undef,c.setB id (some { b with t:=t }))) (by omega);rw [g1] at h;simp only [Option.some.injEq,Prod.mk.injEq] at h;obtain ⟨rfl,rfl⟩:=h;have hl:(b.abs.cells).length = min b.n (2 ^ b.d):=by simp only [Bk.abs,List.length_take,CT.abs_len]
   refine ⟨b.abs,by simp only [Heap.get]; rw [show c.t.get _ = some b from hb]; rfl,?_⟩;rw [if_pos ⟨h1,by omega,h4⟩,zzT];have e:(({ b with t:=t' }:Bk).abs) = { b.abs with cells:=splice b.abs.cells off x.cells }:=by
    simp only [Bk.abs,g2,Blk.mk.injEq,true_and,and_true];apply List.ext_getElem?;intro j;rw [zh4 _ _ _ (by rw [List.length_take,CT.abs_len]; omega)];by_cases hj:j < b.n
    ·rw [List.getElem?_take_of_lt hj,zh4 _ _ _ (by rw [CT.abs_len]; omega),List.getElem?_take_of_lt hj]
    ·rw [List.getElem?_eq_none (by rw [List.length_take]; omega),if_neg (by omega),List.getElem?_eq_none (by rw [List.length_take]; omega)]
   rw [Option.map_some,e]
  ·cases h
 ·cases h
theorem sim_box (ty:TypeId) (x:V):Sim (mbox ty x) (Ax.mbox ty x):=by
 intro c v c' h;simp only [mbox,Ax.mbox,zvo] at h ⊢;split at h
 ·rename_i hc;rw [if_pos hc];simp only [Option.some.injEq,Prod.mk.injEq] at h ⊢;obtain ⟨rfl,rfl⟩:=h;exact ⟨rfl,(znb ..).symm⟩
 ·cases h
theorem sim_slit (ty:TypeId) (l:Nat) (z:List V) (ps:List (Nat × Nat × V)):Sim (mslit ty l z ps) (Ax.mslit ty l z ps):=by
 intro c v c' h;simp only [mslit,Ax.mslit,Option.map_eq_some_iff,Prod.mk.injEq,zvo] at h ⊢;obtain ⟨cs,hcs,rfl,rfl⟩:=h;exact ⟨cs,hcs,rfl,(znb ..).symm⟩
theorem zxY (e:Nat) (c:Heap) (v:V):Ax.rcells e c.abs v = rcells e c v:=by cases v <;> rfl
theorem zym (e:Nat) (c:Heap) (v:V):Ax.acells e c.abs v = acells e c v:=by cases v <;> first | rfl | exact zxY ..
theorem zvz (ty e b:Nat) (q:List V × Nat) (x:V):Sim (mappendq ty e b q x) (Ax.mappendq ty e b q x):=by
 intro c v c' h;simp only [mappendq,Ax.mappendq] at h ⊢;cases x with
 | nils =>
  dsimp only at h ⊢;split at h
  ·rename_i h0;rw [if_pos h0];simp only [Option.some.injEq,Prod.mk.injEq] at h ⊢;exact ⟨h.1,by rw [h.2]⟩
  ·rename_i h0;rw [if_neg h0];split at h
   ·rename_i h1;rw [if_pos h1];simp only [Option.some.injEq,Prod.mk.injEq] at h ⊢;obtain ⟨rfl,rfl⟩:=h;exact ⟨rfl,(znb ..).symm⟩
   ·cases h
 | rs cells len =>
  dsimp only at h ⊢;split at h
  ·rename_i h0;rw [if_pos h0];simp only [Option.some.injEq,Prod.mk.injEq] at h ⊢;exact ⟨h.1,by rw [h.2]⟩
  ·cases h
 | sl id off len cap =>
  simp only [Option.bind_eq_some_iff,zjP] at h ⊢;obtain ⟨bl,hb,h⟩:=h;refine ⟨bl,hb,?_⟩;split at h
  ·rename_i h0;rw [if_pos h0];cases cap with
   | fix cc =>
    dsimp only at h ⊢;split at h
    ·rename_i h1;rw [if_pos h1];split at h
     ·rename_i h2;rw [if_pos h2];simp only [Option.some.injEq,Prod.mk.injEq] at h ⊢;obtain ⟨rfl,rfl⟩:=h;exact ⟨rfl,(zph ..).symm⟩
     ·cases h
    ·rename_i h1;rw [if_neg h1];split at h
     ·rename_i h2;rw [if_pos h2];simp only [Option.some.injEq,Prod.mk.injEq] at h ⊢;obtain ⟨rfl,rfl⟩:=h;exact ⟨rfl,(znb ..).symm⟩
     ·cases h
   | opn ee =>
    dsimp only at h ⊢;split at h
    ·rename_i h1;rw [if_pos h1];split at h
     ·rename_i h2;rw [if_pos h2];simp only [Option.some.injEq,Prod.mk.injEq] at h ⊢;exact ⟨h.1,by rw [h.2]⟩
     ·rename_i h2;rw [if_neg h2];split at h
      ·rename_i h3;rw [if_pos h3];simp only [Option.some.injEq,Prod.mk.injEq] at h ⊢;obtain ⟨rfl,rfl⟩:=h;exact ⟨rfl,by rw [znb,zph]⟩
      ·cases h
    ·rename_i h1;rw [if_neg h1];split at h
     ·rename_i h2;rw [if_pos h2];simp only [Option.some.injEq,Prod.mk.injEq] at h ⊢;exact ⟨h.1,by rw [h.2]⟩
     ·rename_i h2;rw [if_neg h2];split at h
      ·rename_i h3;rw [if_pos h3];simp only [Option.some.injEq,Prod.mk.injEq] at h ⊢;obtain ⟨rfl,rfl⟩:=h;exact ⟨rfl,(zph ..).symm⟩
      ·cases h
  ·cases h
 | _=>cases h
theorem zD8 (ty e b:Nat) (x y:V):Sim (mappend ty e b x y) (Ax.mappend ty e b x y):=by
 intro c v c' h;simp only [mappend,Ax.mappend,Option.bind_eq_some_iff,zym] at h ⊢;obtain ⟨q,hq,h⟩:=h;exact ⟨q,hq,zvz _ _ _ _ _ _ _ _ h⟩
theorem zB7 (ty b:Nat) (z:List V) (x y:V):Sim (mappendz ty b z x y) (Ax.mappendz ty b z x y):=by
 intro c v c' h;unfold mappendz at h;unfold Ax.mappendz;split at h
 ·dsimp only at h ⊢;split at h
  ·rename_i h0;rw [if_pos h0];exact zvz _ _ _ _ _ _ _ _ h
  ·cases h
 ·cases h
theorem zD3 (e:Nat) (x lo hi:V):Sim (mslice2 e x lo hi) (Ax.mslice2 e x lo hi):=by
 intro c v c' h;unfold mslice2 at h;unfold Ax.mslice2;split at h
 ·simp only [Option.bind_eq_some_iff,zjP] at h ⊢;obtain ⟨bl,hb,h⟩:=h;refine ⟨bl,hb,?_⟩;split at h
  ·rename_i h0;rw [if_pos h0];simp only [Option.some.injEq,Prod.mk.injEq] at h ⊢;exact ⟨h.1,by rw [h.2]⟩
  ·cases h
 ·cases h
theorem zFy (z:List V) (x:V):Sim (mclear z x) (Ax.mclear z x):=by
 intro c v c' h;unfold mclear at h;unfold Ax.mclear;split at h
 ·dsimp only at h ⊢;split at h
  ·rename_i h0;rw [if_pos h0];simp only [Option.some.injEq,Prod.mk.injEq] at h ⊢;exact ⟨h.1,by rw [h.2]⟩
  ·rename_i h0;rw [if_neg h0];simp only [Option.bind_eq_some_iff,zjP] at h ⊢;obtain ⟨bl,hb,h⟩:=h;refine ⟨bl,hb,?_⟩;split at h
   ·rename_i h1;rw [if_pos h1];simp only [Option.some.injEq,Prod.mk.injEq] at h ⊢;obtain ⟨rfl,rfl⟩:=h;exact ⟨rfl,(zph ..).symm⟩
   ·cases h
 ·cases h
theorem sim_mknz (ty:TypeId) (x:V):Sim (mmknz ty x) (Ax.mmknz ty x):=by
 intro c v c' h;unfold mmknz at h;unfold Ax.mmknz;split at h
 ·split at h
  ·rename_i hc;simp only [Option.some.injEq,Prod.mk.injEq] at h;obtain ⟨rfl,rfl⟩:=h;simp only [if_pos hc,znb,zvo]
  ·cases h
 ·cases h
theorem sim_copy (e:Nat) (x y:V):Sim (mcopy e x y) (Ax.mcopy e x y):=by
 intro c v c' h;simp only [mcopy,Ax.mcopy,Option.bind_eq_some_iff,zym] at h ⊢;obtain ⟨q,hq,h⟩:=h;refine ⟨q,hq,?_⟩;cases x with
 | nils =>
  simp only [Option.some.injEq,Prod.mk.injEq] at h ⊢;exact ⟨h.1,by rw [h.2]⟩
 | sl id off len cap =>
  simp only [Option.bind_eq_some_iff,zjP] at h ⊢;obtain ⟨bl,hb,h⟩:=h;refine ⟨bl,hb,?_⟩;split at h
  ·rename_i h0;rw [if_pos h0];simp only [Option.some.injEq,Prod.mk.injEq] at h ⊢;obtain ⟨rfl,rfl⟩:=h;exact ⟨rfl,(zph ..).symm⟩
  ·cases h
 | _=>cases h
theorem zFs (x:V):Sim (mtostr x) (Ax.mtostr x):=by
 intro c v c' h;simp only [mtostr,Ax.mtostr,Option.bind_eq_some_iff,Option.map_eq_some_iff,Prod.mk.injEq,zxY] at h ⊢;obtain ⟨q,hq,l,hl,rfl,rfl⟩:=h;exact ⟨q,hq,l,hl,rfl,rfl⟩
theorem zvy (ty:TypeId) (x:V):Sim (mtobytes ty x) (Ax.mtobytes ty x):=by
 intro c v c' h;unfold mtobytes at h;unfold Ax.mtobytes;split at h
 ·dsimp only at h ⊢;split at h
  ·rename_i h0;rw [if_pos h0];simp only [Option.some.injEq,Prod.mk.injEq] at h ⊢;obtain ⟨rfl,rfl⟩:=h;exact ⟨rfl,(znb _ _).symm⟩
  ·cases h
 ·cases h
theorem zB5 (ty b:Nat) (z:List V) (l k:V):Sim (mmkslice ty b z l k) (Ax.mmkslice ty b z l k):=by
 intro c v c' h;unfold mmkslice at h;unfold Ax.mmkslice;split at h
 ·rename_i a b';dsimp only at h ⊢;split at h
  ·rename_i h0;rw [if_pos h0];simp only [Option.some.injEq,Prod.mk.injEq] at h ⊢;obtain ⟨rfl,rfl⟩:=h;exact ⟨rfl,(znb ..).symm⟩
  ·cases h
 ·cases h
theorem zDb (v:V) (h h':Heap):Sim (M.unch v h h') (Ax.M.unch v h.abs h'.abs):=by
 intro c u c' e;unfold M.unch at e;unfold Ax.M.unch;cases hp:v.pid with
 | none =>
  rw [hp] at e;simp only [Option.some.injEq,Prod.mk.injEq] at e;obtain ⟨_,rfl⟩:=e;rw [if_pos (by intro id h; cases h)]
 | some id =>
  rw [hp] at e;dsimp only at e;split at e
  ·rename_i hs;simp only [Option.some.injEq,Prod.mk.injEq] at e;obtain ⟨_,rfl⟩:=e;rw [if_pos];intro i hi;simp only [Option.some.injEq] at hi;subst hi;exact sameB_eq hs
  ·cases e
theorem zD4 (ty:TypeId) (x:V):Sim (mremark ty x) (Ax.mremark ty x):=by
 intro c v c' h;unfold mremark at h;unfold Ax.mremark;split at h
 ·exact zvy _ _ _ _ _ h
 ·simp only [Option.bind_eq_some_iff,zjP] at h ⊢;obtain ⟨bl,hb,h⟩:=h;refine ⟨bl,hb,?_⟩;split at h
  ·cases h
  ·rename_i h0;rw [if_neg h0];simp only [Option.some.injEq,Prod.mk.injEq] at h ⊢;exact ⟨h.1,by rw [h.2]⟩
 ·cases h
theorem zFw (ty:TypeId):Sim (mmkmap ty) (Ax.mmkmap ty):=by
 intro c v c' h;simp only [mmkmap,Ax.mmkmap,Option.some.injEq,Prod.mk.injEq,zvo] at h ⊢;obtain ⟨rfl,rfl⟩:=h;exact ⟨rfl,(znb ..).symm⟩
theorem zD7 (mk:MK) (z:V) (ok:Bool) (x k:V):Sim (mlookup mk z ok x k) (Ax.mlookup mk z ok x k):=by
 intro c v c' h;cases x <;> simp only [mlookup,Ax.mlookup,Option.bind_eq_some_iff,reduceCtorEq,zjP] at h ⊢
 obtain ⟨b,hb,h⟩:=h;refine ⟨b,hb,?_⟩;split at h
 ·rename_i hc;rw [if_pos hc];simp only [Option.map_eq_some_iff,Prod.mk.injEq] at h ⊢;obtain ⟨u,hu,h1,rfl⟩:=h;exact ⟨u,hu,h1,rfl⟩
 ·cases h
theorem zD5 (mk:MK) (x k u:V):Sim (mmapset mk x k u) (Ax.mmapset mk x k u):=by
 intro c v c' h;cases x <;> simp only [mmapset,Ax.mmapset,Option.bind_eq_some_iff,reduceCtorEq,zjP] at h ⊢
 obtain ⟨b,hb,h⟩:=h;refine ⟨b,hb,?_⟩;split at h
 ·rename_i hc;rw [if_pos hc];simp only [Option.map_eq_some_iff,Prod.mk.injEq] at h ⊢;obtain ⟨cs,hcs,rfl,rfl⟩:=h;exact ⟨cs,hcs,rfl,(zph ..).symm⟩
 ·cases h
theorem zB6 (p:Bool) (o:Nat) (x n:V):Sim (mmapdrop p o x n) (Ax.mmapdrop p o x n):=by
 intro c v c' h;unfold mmapdrop at h;unfold Ax.mmapdrop;split at h
 ·rename_i id off n;simp only [Option.bind_eq_some_iff] at h;obtain ⟨b0,hb0,h⟩:=h;simp only [zjP,hb0,Option.bind_some];split at h
  ·rename_i i hi;simp only [Option.bind_eq_some_iff,Option.map_eq_some_iff,Prod.mk.injEq] at h;obtain ⟨b,hb,cs,hcs,rfl,rfl⟩:=h;rw [hi];simp only [hb,hcs,Option.bind_some,Option.map_some,zph]
  ·cases h
 ·cases h
theorem zD6 (x:V):Sim (mmaplen x) (Ax.mmaplen x):=by
 intro c v c' h;cases x <;> simp only [mmaplen,Ax.mmaplen,Option.map_eq_some_iff,Prod.mk.injEq,reduceCtorEq,zjP] at h ⊢
 obtain ⟨b,hb,rfl,rfl⟩:=h;exact ⟨b,hb,rfl,rfl⟩
theorem zFz (k:IntKind) (x:V):Sim (matoload k x) (Ax.matoload k x):=by
 intro c v c' h;unfold matoload at h;unfold Ax.matoload;simp only [Option.bind_eq_some_iff] at h ⊢;obtain ⟨⟨u,c1⟩,h1,h⟩:=h;refine ⟨_,zyI _ _ _ _ _ h1,?_⟩;cases u <;> simp only [reduceCtorEq] at h
 dsimp only;split at h
 ·rename_i hk;rw [if_pos hk];simp only [Option.some.injEq,Prod.mk.injEq] at h ⊢;exact ⟨h.1,by rw [h.2]⟩
 ·cases h
theorem sim_aadd (k:IntKind) (x y:V):Sim (matoadd k x y) (Ax.matoadd k x y):=by
 intro c v c' h;unfold matoadd at h;unfold Ax.matoadd;split at h
 ·simp only [Option.bind_eq_some_iff,zjP] at h ⊢;obtain ⟨b,hb,h⟩:=h;refine ⟨b,hb,?_⟩;split at h
  ·rename_i k2 n hc;rw [hc];dsimp only;split at h
   ·rename_i hk;rw [if_pos hk];simp only [Option.some.injEq,Prod.mk.injEq] at h ⊢;obtain ⟨rfl,rfl⟩:=h;exact ⟨rfl,(zph ..).symm⟩
   ·cases h
  ·cases h
 ·cases h
theorem zFu {g:Sem'} {G:Ax.Sem'} (hg:Sims g G) (A:Fr) (ins:I):Sim (I.run g A ins) (ins.run G A):=by
 have w1:∀ (x:Arg) {k:V → M V} {k':V → Ax.M V},(∀ v,Sim (k v) (k' v)) → Sim (with1 A x k) (Ax.with1 A x k'):=by
  intro x k k' h;unfold with1 Ax.with1;cases x.ev A with
  | none=>exact zaa
  | some v=>exact h v
 have ws:∀ (x:List Arg) {k:List V → M V} {k':List V → Ax.M V},(∀ v,Sim (k v) (k' v)) → Sim (withs A x k) (Ax.withs A x k'):=by
  intro x k k' h;unfold withs Ax.withs;cases evs A x with
  | none=>exact zaa
  | some v=>exact h v
 cases ins <;> simp only [I.run,Ax.I.run]
 case mv x=>exact w1 x zgI
 case pick c a b=>exact w1 _ fun _=>w1 _ fun _=>w1 _ fun _=>zdR _
 case box=>exact w1 _ fun _=>sim_box _ _
 case build z ps=>cases zdP A ps <;> first | exact zaa | exact zdR _
 case slit z ps=>cases zdP A ps <;> first | exact zaa | exact sim_slit _ _ _ _
 case load=>exact w1 _ fun _=>zyI _ _
 case store=>exact w1 _ fun _=>w1 _ fun _=>zFt _ _ _
 case nilck=>exact w1 _ fun _=>zdR _
 case bin=>exact w1 _ fun _=>w1 _ fun _=>zdR _
 case eq=>exact w1 _ fun _=>w1 _ fun _=>zdR _
 case un=>exact w1 _ fun _=>zdR _
 case cint=>exact w1 _ fun _=>zdR _
 case tostr=>exact w1 _ fun _=>zFs _
 case tobytes=>exact w1 _ fun _=>zvy _ _
 case faddr=>exact w1 _ fun _=>zdR _
 case iaddr=>exact w1 _ fun _=>w1 _ fun _=>zdR _
 case index=>exact w1 _ fun _=>w1 _ fun _=>zdR _
 case sindex=>exact w1 _ fun _=>w1 _ fun _=>zdR _
 case field=>exact w1 _ fun _=>zdR _
 case ext=>exact w1 _ fun _=>zdR _
 case len=>exact w1 _ fun _=>zdR _
 case slen=>exact w1 _ fun _=>zdR _
 case slice ck e x lo hi mx =>
  refine w1 _ fun _=>?_;cases zhU A lo <;> cases zhU A hi <;> cases zhU A mx <;> first | exact zaa | exact zdR _
 case append=>exact w1 _ fun _=>w1 _ fun _=>zD8 _ _ _ _ _
 case appendz=>exact w1 _ fun _=>w1 _ fun _=>zB7 _ _ _ _ _
 case copy=>exact w1 _ fun _=>w1 _ fun _=>sim_copy _ _ _
 case mkslice=>exact w1 _ fun _=>w1 _ fun _=>zB5 _ _ _ _ _
 case slice2=>exact w1 _ fun _=>w1 _ fun _=>w1 _ fun _=>zD3 _ _ _ _
 case clear=>exact w1 _ fun _=>zFy _ _
 case op1=>exact w1 _ fun _=>zdR _
 case mknz=>exact w1 _ fun _=>sim_mknz _ _
 case remark=>exact w1 _ fun _=>zD4 _ _
 case minmax=>exact w1 _ fun _=>ws _ fun _=>zdR _
 case call=>exact ws _ fun _=>hg _ _
 case callv =>
  refine w1 _ fun v=>ws _ fun _=>?_;cases v <;> first | exact zaa | exact hg _ _
 case mkfn=>exact ws _ fun _=>zgI _
 case mkmap=>exact zFw _
 case lookup=>exact w1 _ fun _=>w1 _ fun _=>zD7 _ _ _ _ _
 case mapset=>exact w1 _ fun _=>w1 _ fun _=>w1 _ fun _=>zD5 _ _ _ _
 case mdrop=>exact w1 _ fun _=>w1 _ fun _=>zB6 _ _ _ _
 case maplen=>exact w1 _ fun _=>zD6 _
 case aload=>exact w1 _ fun _=>zFz _ _
 case aadd=>exact w1 _ fun _=>w1 _ fun _=>sim_aadd _ _ _
theorem sim_ao {g:Sem'} {G:Ax.Sem'} (hg:Sims g G) (A:Fr) (o:AO):Sim (AO.run g A o) (o.run G A):=by
 unfold AO.run Ax.AO.run guarded Ax.guarded;cases o.gd with
 | none=>exact zFu hg A o.ins
 | some p =>
  obtain ⟨s,want⟩:=p;dsimp only;cases A.get s with
  | none=>exact zaa
  | some v =>
   cases v with
   | bool b =>
    dsimp only;by_cases hb:b = want
    ·simp only [if_pos hb]; exact zFu hg A o.ins
    ·simp only [if_neg hb]; exact zgI _
   | tup vs =>
    cases vs with
    | nil=>exact zgI _
    | cons _ _=>exact zaa
   | _=>exact zaa
theorem zkY {g:Sem'} {G:Ax.Sem'} (hg:Sims g G) (A:Fr) (o:AO) {k:V → M α} {k':V → Ax.M α} (h:∀ v,Sim (k v) (k' v)):Sim (step g o A k) (Ax.step G o A k'):=by
 have hr:=zmo (sim_ao hg A o) h;obtain ⟨d,gd,ins⟩:=o;cases gd with
 | some _=>exact hr
 | none =>
  cases ins <;> first | exact hr | skip
  rename_i x;show Sim (match x.ev A with | some v=>k v | none=>M.fail) (match x.ev A with | some v=>k' v | none=>Ax.M.fail);cases x.ev A with
  | none=>exact zaa
  | some v=>exact h v
theorem sim_ops {g:Sem'} {G:Ax.Sem'} (hg:Sims g G) {k:Fr → M α} {k':Fr → Ax.M α} (h:∀ A,Sim (k A) (k' A)):∀ (l:List AO) (A:Fr),Sim (opsK g l A k) (Ax.opsK G l A k'):=by
 intro l
 induction l with
 | nil=>intro A; exact h A
 | cons o l ih=>intro A; exact zkY hg A o fun v=>ih _
def absJ (js:List (Nat × Heap × Heap)):List (Nat × Ax.Heap × Ax.Heap):=js.map fun q=>(q.1,q.2.1.abs,q.2.2.abs)
theorem zDe {un:List (Nat × Nat)} {i:Nat} {a:V} {k:M α} {k':Ax.M α} (h:Sim k k'):∀ js,Sim (actsK un i a js k) (Ax.actsK un i a (absJ js) k'):=by
 intro js
 induction js with
 | nil=>exact h
 | cons q js ih =>
  obtain ⟨j,h1,h2⟩:=q;show Sim (if un.contains (i,j) then M.bind (M.unch a h1 h2) fun _=>actsK un i a js k else actsK un i a js k)
   (if un.contains (i,j) then (Ax.M.unch a h1.abs h2.abs).bind fun _=>Ax.actsK un i a (absJ js) k' else Ax.actsK un i a (absJ js) k')
  split
  ·exact zmo (zDb _ _ _) fun _=>ih
  ·exact ih
theorem zFv {un:List (Nat × Nat)} {j:Nat} {h1 h2:Heap} {k:M α} {k':Ax.M α} (h:Sim k k'):∀ rs,Sim (readsK un j h1 h2 rs k) (Ax.readsK un j h1.abs h2.abs rs k'):=by
 intro rs
 induction rs with
 | nil=>exact h
 | cons q rs ih =>
  obtain ⟨i,a⟩:=q;show Sim (if un.contains (i,j) then M.bind (M.unch a h1 h2) fun _=>readsK un j h1 h2 rs k else readsK un j h1 h2 rs k)
   (if un.contains (i,j) then (Ax.M.unch a h1.abs h2.abs).bind fun _=>Ax.readsK un j h1.abs h2.abs rs k' else Ax.readsK un j h1.abs h2.abs rs k')
  split
  ·exact zmo (zDb _ _ _) fun _=>ih
  ·exact ih
theorem zDd {f:Heap → M α} {f':Ax.Heap → Ax.M α} (h:∀ c,Sim (f c) (f' c.abs)):Sim (M.bind M.getH f) (Ax.M.getH.bind f'):=by
 intro c v c' e;exact h c c v c' e
theorem sim_draw {g:Sem'} {G:Ax.Sem'} (hg:Sims g G) {un:List (Nat × Nat)} {k:Fr → M α} {k':Fr → Ax.M α} (h:∀ A,Sim (k A) (k' A)):∀ (l:List AO) (p:Nat) (rs:List (Nat × V)) (js:List (Nat × Heap × Heap)) (A:Fr),
  Sim (drawK g un p rs js l A k) (Ax.drawK G un p rs (absJ js) l A k'):=by
 intro l
 induction l with
 | nil=>intro p rs js A; exact h A
 | cons o l ih =>
  intro p rs js A;unfold drawK Ax.drawK;cases hk:o.ins.kind with
  | read x =>
   dsimp only;split
   ·unfold with1' zcL.with1';cases x.ev A with
    | none=>exact zkY hg A o fun v=>zDe (ih _ _ _ _) js
    | some a=>exact zkY hg A o fun v=>zDe (ih _ _ _ _) js
   ·exact zkY hg A o fun v=>ih _ _ _ _
  | act =>
   dsimp only;split
   ·exact zDd fun h1=>zkY hg A o fun v=>zDd fun h2=>zFv (ih _ _ ((p,h1,h2) :: js) _) rs
   ·exact zkY hg A o fun v=>ih _ _ _ _
  | pure=>exact zkY hg A o fun v=>ih _ _ _ _
  | new=>exact zkY hg A o fun v=>ih _ _ _ _
theorem zDc {x:M Res} {y:Ax.M Res} {k:List V → M Res} {k':List V → Ax.M Res} (h:Sim x y) (hk:∀ L,Sim (k L) (k' L)):Sim (M.join x k) (Ax.M.join y k'):=by
 refine zmo h fun r=>?_;cases r with
 | nrm L=>exact hk L
 | ex id L=>exact zgI _
 | ret L=>exact zgI _
theorem sim_blk {id:Nat} {x:M Res} {y:Ax.M Res} {k:List V → M Res} {k':List V → Ax.M Res} (h:Sim x y) (hk:∀ L,Sim (k L) (k' L)):Sim (M.blk id x k) (Ax.M.blk id y k'):=by
 refine zmo h fun r=>?_;cases r with
 | nrm L=>exact hk L
 | ex i L =>
  dsimp only;by_cases e:i = id
  ·simp only [if_pos e]; exact hk L
  ·simp only [if_neg e]; exact zgI _
 | ret L=>exact zgI _
theorem sim_iter {body:List V → M Res} {b:List V → Ax.M Res} (h:∀ L,Sim (body L) (b L)) (L:List V):Sim (M.iter body L) (Ax.M.iter b L):=by
 have key:∀ (n:Nat) (L:List V),Sim (iterN body n L) (Ax.iterN b n L):=by
  intro n
  induction n with
  | zero=>intro L; exact zaa
  | succ n ih=>intro L; exact zDc (h L) ih
 intro c v c' e;exact zv6 (key _ L c v c' e)
theorem sim_res {A:Fr}:∀ (rv:List RV) {k:List V → M α} {k':List V → Ax.M α},(∀ L,Sim (k L) (k' L)) → Sim (resK A rv k) (Ax.resK A rv k'):=by
 intro rv
 induction rv with
 | nil=>intro k k' h; exact h []
 | cons x rv ih =>
  intro k k' h;cases x with
  | tmp t =>
   simp only [resK,Ax.resK];cases A.get t with
   | none=>exact zaa
   | some v=>exact ih fun vs=>h _
  | cell t n =>
   simp only [resK,Ax.resK];cases A.get t with
   | none=>exact zaa
   | some v=>exact zmo (zyI _ _) fun u=>ih fun vs=>h _
theorem sim_exec {g:Sem'} {G:Ax.Sem'} (hg:Sims g G) (rv:List RV):∀ (c:C) (cx:List (Nat × List Nat)) (J:List Nat) (A:Fr),Sim (execK g rv c cx J A) (Ax.execK G rv c cx J A):=by
 intro c
 induction c with
 | done=>intro cx J A; simp only [execK,Ax.execK]; cases ze7 A J <;> first | exact zaa | exact zgI _
 | bad=>intro cx J A; exact zaa
 | ops l k ih=>intro cx J A; exact sim_ops hg (fun A'=>ih _ _ _) l A
 | draw l un k ih=>intro cx J A; exact sim_draw hg (fun A'=>ih _ _ _) l 0 [] [] A
 | cond x a b iha ihb =>
  intro cx J A;simp only [execK,Ax.execK];cases x.ev A with
  | none=>exact zaa
  | some c=>exact zFx c (iha _ _ _) (ihb _ _ _)
 | condJ x a b J' W k iha ihb ihk =>
  intro cx J A;simp only [execK,Ax.execK];cases x.ev A with
  | none=>exact zaa
  | some c=>exact zDc (zFx c (iha _ _ _) (ihb _ _ _)) fun L=>ihk _ _ _
 | blk id a J' W k iha ihk=>intro cx J A; exact sim_blk (iha _ _ _) fun L=>ihk _ _ _
 | loop a K W iha =>
  intro cx J A;simp only [execK,Ax.execK];cases ze7 A K with
  | none=>exact zaa
  | some L=>exact sim_iter (fun L=>iha _ _ _) L
 | exit id =>
  intro cx J A;simp only [execK,Ax.execK];cases zwR cx id with
  | none=>exact zaa
  | some J=>dsimp only; cases ze7 A J <;> first | exact zaa | exact zgI _
 | ret=>intro cx J A; exact sim_res rv fun L=>zgI _
theorem sim_fin {x:M Res} {y:Ax.M Res} (h:Sim x y):Sim (fin x) (Ax.fin y):=by
 refine zmo h fun r=>?_;cases r with
 | ret L=>exact zgI _
 | _=>exact zaa
end
theorem zae {T:FuncId → Option Fn'} {f:FuncId} {ir:Fn'} (hT:T f = some ir) {args:List V} (hl:args.length ≤ ir.ntmps) {g:Sem'} (hg:Sims g (sem T)) {x:M Res} (hx:execK g ir.rv ir.body [] [] (params 0 args) = x):Sim (fin x) (sem T f args):=by
 intro c v c' h;refine zDf hT hl rfl ?_;exact sim_fin (hx ▸ sim_exec hg ir.rv ir.body [] [] (params 0 args)) c v c' h
theorem zab {α:Type} {p:Prop} [Decidable p] {x x':M α} {y:Ax.M α} (h:p → Sim x y) (k:Sim x' y):Sim (if p then x else x') y:=by
 by_cases hp:p
 ·rw [if_pos hp]; exact h hp
 ·rw [if_neg hp]; exact k
def noF:Fn':=⟨0,[],.bad⟩
end Go.Ax.Cc
/- CiS1 -/
namespace Go.Ax.Cc
open Go.Proofs
def zBi (G:Sem') (t1 t0:V) (L:List V):M Res :=
 (M.lift (Ax.bin .lss (L.getD 0 .undef) (V.int .i64 64))).bind fun t7 =>
 M.ite t7
 (M.blk 1 (
 (M.lift (Ax.nilck t1)).bind fun t12 =>
 (M.lift (Ax.faddr 1470 t12)).bind fun t13 =>
 (G zcG [(V.int .i64 32)]).bind fun t11 =>
 (M.lift (Ax.iaddr (some 64) 1 t13 (L.getD 0 .undef))).bind fun t14 =>
 (mstore 1 t14 t11).bind fun _ =>
 M.pure (.nrm [])) fun _ =>
 (M.lift (Ax.bin .add (L.getD 0 .undef) (V.int .i64 1))).bind fun t15 =>
 M.pure (.nrm [t15]))
 (M.pure (.ex 0 []))
def zyi (G:Sem'):M Res :=
 (G zdz [(V.int .i64 11)]).bind fun t3 =>
 (M.lift (Ax.build [(V.bool false),(V.bool false),(V.bool false),(V.bool false),(V.bool false),(V.bool false),(V.bool false),(V.bool false),(V.int .i64 0),(V.int .i64 0),(V.int .i64 0),(V.int .i64 0),(V.int .i64 0),(V.int .i64 0),(V.int .i64 0),(V.int .i64 0),(V.int .i64 0),(V.bool false),(V.int .i64 0),(V.int .i64 0),(V.int .i64 0),(V.int .i64 0),(V.int .i64 0),(V.int .i64 0),(V.int .i64 0),(V.int .i64 0),(V.int .i64 0),(V.int .i64 0),(V.int .i64 0),(V.int .i64 0),(V.int .i64 0),(V.int .i64 0),(V.int .i64 0),(V.int .i64 0),(V.int .i64 0),(V.int .i64 0),(V.int .i64 0),(V.int .i64 0),(V.bool false),(V.bool false),(V.int .u32 0),(V.int .i64 0),(V.int .i64 0),(V.int .i64 0),V.nils,(V.int .i64 0),V.nils,V.nils,(V.int .u32 0),V.nils,(V.bool false),(V.int .u32 0),(V.int .i64 0),(V.int .i64 0),(V.int .i64 0),V.nils,(V.int .i64 0),V.nils,V.nils,(V.int .u32 0),V.nils,(V.bool false),(V.int .u32 0),(V.int .i64 0),(V.int .i64 0),(V.int .i64 0),V.nils,(V.int .i64 0),V.nils,V.nils,(V.int .u32 0),V.nils,(V.bool false),(V.int .u32 0),(V.int .i64 0),(V.int .i64 0),(V.int .i64 0),V.nils,(V.int .i64 0),V.nils,V.nils,(V.int .u32 0),V.nils,(V.bool false),(V.int .u32 0),(V.int .i64 0),(V.int .i64 0),(V.int .i64 0),V.nils,(V.int .i64 0),V.nils,V.nils,(V.int .u32 0),V.nils,(V.bool false),(V.int .u32 0),(V.int .i64 0),(V.int .i64 0),(V.int .i64 0),V.nils,(V.int .i64 0),V.nils,V.nils,(V.int .u32 0),V.nils,(V.bool false),(V.int .u32 0),(V.int .i64 0),(V.int .i64 0),(V.int .i64 0),V.nils,(V.int .i64 0),V.nils,V.nils,(V.int .u32 0),V.nils,(V.bool false),(V.int .u32 0),(V.int .i64 0),(V.int .i64 0),(V.int .i64 0),V.nils,(V.int .i64 0),V.nils,V.nils,(V.int .u32 0),V.nils,(V.bool false),(V.int .u32 0),(V.int .i64 0),(V.int .i64 0),(V.int .i64 0),V.nils,(V.int .i64 0),V.nils,V.nils,(V.int .u32 0),V.nils,(V.bool false),(V.int .u32 0),(V.int .i64 0),(V.int .i64 0),(V.int .i64 0),V.nils,(V.int .i64 0),V.nils,V.nils,(V.int .u32 0),V.nils,(V.bool false),(V.int .u32 0),(V.int .i64 0),(V.int .i64 0),(V.int .i64 0),V.nils,(V.int .i64 0),V.nils,V.nils,(V.int .u32 0),V.nils,(V.bool false),(V.int .u32 0),(V.int .i64 0),(V.int .i64 0),(V.int .i64 0),V.nils,(V.int .i64 0),V.nils,V.nils,(V.int .u32 0),V.nils,(V.bool false),(V.int .u32 0),(V.int .i64 0),(V.int .i64 0),(V.int .i64 0),V.nils,(V.int .i64 0),V.nils,V.nils,(V.int .u32 0),V.nils,(V.bool false),(V.int .u32 0),(V.int .i64 0),(V.int .i64 0),(V.int .i64 0),V.nils,(V.int .i64 0),V.nils,V.nils,(V.int .u32 0),V.nils,(V.bool false),(V.int .u32 0),(V.int .i64 0),(V.int .i64 0),(V.int .i64 0),V.nils,(V.int .i64 0),V.nils,V.nils,(V.int .u32 0),V.nils,(V.bool false),(V.int .u32 0),(V.int .i64 0),(V.int .i64 0),(V.int .i64 0),V.nils,(V.int .i64 0),V.nils,V.nils,(V.int .u32 0),V.nils,(V.bool false),(V.int .u32 0),(V.int .i64 0),(V.int .i64 0),(V.int .i64 0),V.nils,(V.int .i64 0),V.nils,V.nils,(V.int .u32 0),V.nils,(V.bool false),(V.int .u32 0),(V.int .i64 0),(V.int .i64 0),(V.int .i64 0),V.nils,(V.int .i64 0),V.nils,V.nils,(V.int .u32 0),V.nils,(V.bool false),(V.int .u32 0),(V.int .i64 0),(V.int .i64 0),(V.int .i64 0),V.nils,(V.int .i64 0),V.nils,V.nils,(V.int .u32 0),V.nils,(V.bool false),(V.int .u32 0),(V.int .i64 0),(V.int .i64 0),(V.int .i64 0),V.nils,(V.int .i64 0),V.nils,V.nils,(V.int .u32 0),V.nils,(V.bool false),(V.int .u32 0),(V.int .i64 0),(V.int .i64 0),(V.int .i64 0),V.nils,(V.int .i64 0),V.nils,V.nils,(V.int .u32 0),V.nils,(V.bool false),(V.int .u32 0),(V.int .i64 0),(V.int .i64 0),(V.int .i64 0),V.nils,(V.int .i64 0),V.nils,V.nils,(V.int .u32 0),V.nils,(V.bool false),(V.int .u32 0),(V.int .i64 0),(V.int .i64 0),(V.int .i64 0),V.nils,(V.int .i64 0),V.nils,V.nils,(V.int .u32 0),V.nils,(V.bool false),(V.int .u32 0),(V.int .i64 0),(V.int .i64 0),(V.int .i64 0),V.nils,(V.int .i64 0),V.nils,V.nils,(V.int .u32 0),V.nils,V.nilp,V.nilp,V.nilp,V.nilp,V.nilp,V.nilp,V.nilp,V.nilp,V.nilp,V.nilp,V.nilp,V.nilp,V.nilp,V.nilp,V.nilp,V.nilp,V.nilp,V.nilp,V.nilp,V.nilp,V.nilp,V.nilp,V.nilp,V.nilp,V.nilp,V.nilp,V.nilp,V.nilp,V.nilp,V.nilp,V.nilp,V.nilp,V.nilp,V.nilp,V.nilp,V.nilp,V.nilp,V.nilp,V.nilp,V.nilp,V.nilp,V.nilp,V.nilp,V.nilp,V.nilp,V.nilp,V.nilp,V.nilp,V.nilp,V.nilp,V.nilp,V.nilp,V.nilp,V.nilp,V.nilp,V.nilp,V.nilp,V.nilp,V.nilp,V.nilp,V.nilp,V.nilp,V.nilp,V.nilp,(V.bool false),(V.bool false),(V.bool false),(V.bool false),(V.bool false),(V.bool false),(V.bool false),(V.bool false),(V.int .i64 0),(V.int .i64 0),(V.int .i64 0),(V.int .i64 0),(V.int .i64 0),(V.int .i64 0),(V.int .i64 0),(V.int .i64 0),(V.int .i64 0),(V.bool false),(V.int .i64 0),(V.int .i64 0),(V.int .i64 0),(V.int .i64 0),(V.int .i64 0),(V.int .i64 0),(V.int .i64 0),(V.int .i64 0),(V.int .i64 0),(V.int .i64 0),(V.int .i64 0),(V.int .i64 0),(V.int .i64 0),(V.int .i64 0),(V.int .i64 0),(V.int .i64 0),(V.int .i64 0),(V.int .i64 0),(V.int .i64 0),(V.int .i64 0),(V.bool false),(V.bool false),(V.int .u32 0),(V.int .i64 0),(V.int .i64 0),(V.int .i64 0),V.nils,(V.int .i64 0),V.nils,V.nils,(V.int .u32 0),V.nils,(V.bool false),(V.int .u32 0),(V.int .i64 0),(V.int .i64 0),(V.int .i64 0),V.nils,(V.int .i64 0),V.nils,V.nils,(V.int .u32 0),V.nils,(V.bool false),(V.int .u32 0),(V.int .i64 0),(V.int .i64 0),(V.int .i64 0),V.nils,(V.int .i64 0),V.nils,V.nils,(V.int .u32 0),V.nils,(V.bool false),(V.int .u32 0),(V.int .i64 0),(V.int .i64 0),(V.int .i64 0),V.nils,(V.int .i64 0),V.nils,V.nils,(V.int .u32 0),V.nils,(V.bool false),(V.int .u32 0),(V.int .i64 0),(V.int .i64 0),(V.int .i64 0),V.nils,(V.int .i64 0),V.nils,V.nils,(V.int .u32 0),V.nils,(V.bool false),(V.int .u32 0),(V.int .i64 0),(V.int .i64 0),(V.int .i64 0),V.nils,(V.int .i64 0),V.nils,V.nils,(V.int .u32 0),V.nils,(V.bool false),(V.int .u32 0),(V.int .i64 0),(V.int .i64 0),(V.int .i64 0),V.nils,(V.int .i64 0),V.nils,V.nils,(V.int .u32 0),V.nils,(V.bool false),(V.int .u32 0),(V.int .i64 0),(V.int .i64 0),(V.int .i64 0),V.nils,(V.int .i64 0),V.nils,V.nils,(V.int .u32 0),V.nils,(V.bool false),(V.int .u32 0),(V.int .i64 0),(V.int .i64 0),(V.int .i64 0),V.nils,(V.int .i64 0),V.nils,V.nils,(V.int .u32 0),V.nils,(V.bool false),(V.int .u32 0),(V.int .i64 0),(V.int .i64 0),(V.int .i64 0),V.nils,(V.int .i64 0),V.nils,V.nils,(V.int .u32 0),V.nils,(V.bool false),(V.int .u32 0),(V.int .i64 0),(V.int .i64 0),(V.int .i64 0),V.nils,(V.int .i64 0),V.nils,V.nils,(V.int .u32 0),V.nils,(V.bool false),(V.int .u32 0),(V.int .i64 0),(V.int .i64 0),(V.int .i64 0),V.nils,(V.int .i64 0),V.nils,V.nils,(V.int .u32 0),V.nils,(V.bool false),(V.int .u32 0),(V.int .i64 0),(V.int .i64 0),(V.int .i64 0),V.nils,(V.int .i64 0),V.nils,V.nils,(V.int .u32 0),V.nils,(V.bool false),(V.int .u32 0),(V.int .i64 0),(V.int .i64 0),(V.int .i64 0),V.nils,(V.int .i64 0),V.nils,V.nils,(V.int .u32 0),V.nils,(V.bool false),(V.int .u32 0),(V.int .i64 0),(V.int .i64 0),(V.int .i64 0),V.nils,(V.int .i64 0),V.nils,V.nils,(V.int .u32 0),V.nils,(V.bool false),(V.int .u32 0),(V.int .i64 0),(V.int .i64 0),(V.int .i64 0),V.nils,(V.int .i64 0),V.nils,V.nils,(V.int .u32 0),V.nils,(V.bool false),(V.int .u32 0),(V.int .i64 0),(V.int .i64 0),(V.int .i64 0),V.nils,(V.int .i64 0),V.nils,V.nils,(V.int .u32 0),V.nils,(V.bool false),(V.int .u32 0),(V.int .i64 0),(V.int .i64 0),(V.int .i64 0),V.nils,(V.int .i64 0),V.nils,V.nils,(V.int .u32 0),V.nils,(V.bool false),(V.int .u32 0),(V.int .i64 0),(V.int .i64 0),(V.int .i64 0),V.nils,(V.int .i64 0),V.nils,V.nils,(V.int .u32 0),V.nils,(V.bool false),(V.int .u32 0),(V.int .i64 0),(V.int .i64 0),(V.int .i64 0),V.nils,(V.int .i64 0),V.nils,V.nils,(V.int .u32 0),V.nils,(V.bool false),(V.int .u32 0),(V.int .i64 0),(V.int .i64 0),(V.int .i64 0),V.nils,(V.int .i64 0),V.nils,V.nils,(V.int .u32 0),V.nils,(V.bool false),(V.int .u32 0),(V.int .i64 0),(V.int .i64 0),(V.int .i64 0),V.nils,(V.int .i64 0),V.nils,V.nils,(V.int .u32 0),V.nils,(V.bool false),(V.int .u32 0),(V.int .i64 0),(V.int .i64 0),(V.int .i64 0),V.nils,(V.int .i64 0),V.nils,V.nils,(V.int .u32 0),V.nils,(V.bool false),(V.int .u32 0),(V.int .i64 0),(V.int .i64 0),(V.int .i64 0),V.nils,(V.int .i64 0),V.nils,V.nils,(V.int .u32 0),V.nils,V.nilp,V.nilp,V.nilp,V.nilp,V.nilp,V.nilp,V.nilp,V.nilp,V.nilp,V.nilp,V.nilp,V.nilp,V.nilp,V.nilp,V.nilp,V.nilp,V.nilp,V.nilp,V.nilp,V.nilp,V.nilp,V.nilp,V.nilp,V.nilp,V.nilp,V.nilp,V.nilp,V.nilp,V.nilp,V.nilp,V.nilp,V.nilp,V.nilp,V.nilp,V.nilp,V.nilp,V.nilp,V.nilp,V.nilp,V.nilp,V.nilp,V.nilp,V.nilp,V.nilp,V.nilp,V.nilp,V.nilp,V.nilp,V.nilp,V.nilp,V.nilp,V.nilp,V.nilp,V.nilp,V.nilp,V.nilp,V.nilp,V.nilp,V.nilp,V.nilp,V.nilp,V.nilp,V.nilp,V.nilp,(V.bool false),(V.bool false),(V.bool false),(V.bool false),(V.bool false),(V.bool false),(V.bool false),(V.bool false),(V.int .i64 0),(V.int .i64 0),(V.int .i64 0),(V.int .i64 0),(V.int .i64 0),(V.int .i64 0),(V.int .i64 0),(V.int .i64 0),(V.int .i64 0),(V.bool false),(V.int .i64 0),(V.int .i64 0),(V.int .i64 0),(V.int .i64 0),(V.int .i64 0),(V.int .i64 0),(V.int .i64 0),(V.int .i64 0),(V.int .i64 0),(V.int .i64 0),(V.int .i64 0),(V.int .i64 0),(V.int .i64 0),(V.int .i64 0),(V.int .i64 0),(V.int .i64 0),(V.int .i64 0),(V.int .i64 0),(V.int .i64 0),(V.int .i64 0),(V.bool false),(V.bool false),(V.int .u32 0),(V.int .i64 0),(V.int .i64 0),(V.int .i64 0),V.nils,(V.int .i64 0),V.nils,V.nils,(V.int .u32 0),V.nils,(V.bool false),(V.int .u32 0),(V.int .i64 0),(V.int .i64 0),(V.int .i64 0),V.nils,(V.int .i64 0),V.nils,V.nils,(V.int .u32 0),V.nils,(V.bool false),(V.int .u32 0),(V.int .i64 0),(V.int .i64 0),(V.int .i64 0),V.nils,(V.int .i64 0),V.nils,V.nils,(V.int .u32 0),V.nils,(V.bool false),(V.int .u32 0),(V.int .i64 0),(V.int .i64 0),(V.int .i64 0),V.nils,(V.int .i64 0),V.nils,V.nils,(V.int .u32 0),V.nils,(V.bool false),(V.int .u32 0),(V.int .i64 0),(V.int .i64 0),(V.int .i64 0),V.nils,(V.int .i64 0),V.nils,V.nils,(V.int .u32 0),V.nils,(V.bool false),(V.int .u32 0),(V.int .i64 0),(V.int .i64 0),(V.int .i64 0),V.nils,(V.int .i64 0),V.nils,V.nils,(V.int .u32 0),V.nils,(V.bool false),(V.int .u32 0),(V.int .i64 0),(V.int .i64 0),(V.int .i64 0),V.nils,(V.int .i64 0),V.nils,V.nils,(V.int .u32 0),V.nils,(V.bool false),(V.int .u32 0),(V.int .i64 0),(V.int .i64 0),(V.int .i64 0),V.nils,(V.int .i64 0),V.nils,V.nils,(V.int .u32 0),V.nils,(V.bool false),(V.int .u32 0),(V.int .i64 0),(V.int .i64 0),(V.int .i64 0),V.nils,(V.int .i64 0),V.nils,V.nils,(V.int .u32 0),V.nils,(V.bool false),(V.int .u32 0),(V.int .i64 0),(V.int .i64 0),(V.int .i64 0),V.nils,(V.int .i64 0),V.nils,V.nils,(V.int .u32 0),V.nils,(V.bool false),(V.int .u32 0),(V.int .i64 0),(V.int .i64 0),(V.int .i64 0),V.nils,(V.int .i64 0),V.nils,V.nils,(V.int .u32 0),V.nils,(V.bool false),(V.int .u32 0),(V.int .i64 0),(V.int .i64 0),(V.int .i64 0),V.nils,(V.int .i64 0),V.nils,V.nils,(V.int .u32 0),V.nils,(V.bool false),(V.int .u32 0),(V.int .i64 0),(V.int .i64 0),(V.int .i64 0),V.nils,(V.int .i64 0),V.nils,V.nils,(V.int .u32 0),V.nils,(V.bool false),(V.int .u32 0),(V.int .i64 0),(V.int .i64 0),(V.int .i64 0),V.nils,(V.int .i64 0),V.nils,V.nils,(V.int .u32 0),V.nils,(V.bool false),(V.int .u32 0),(V.int .i64 0),(V.int .i64 0),(V.int .i64 0),V.nils,(V.int .i64 0),V.nils,V.nils,(V.int .u32 0),V.nils,(V.bool false),(V.int .u32 0),(V.int .i64 0),(V.int .i64 0),(V.int .i64 0),V.nils,(V.int .i64 0),V.nils,V.nils,(V.int .u32 0),V.nils,(V.bool false),(V.int .u32 0),(V.int .i64 0),(V.int .i64 0),(V.int .i64 0),V.nils,(V.int .i64 0),V.nils,V.nils,(V.int .u32 0),V.nils,(V.bool false),(V.int .u32 0),(V.int .i64 0),(V.int .i64 0),(V.int .i64 0),V.nils,(V.int .i64 0),V.nils,V.nils,(V.int .u32 0),V.nils,(V.bool false),(V.int .u32 0),(V.int .i64 0),(V.int .i64 0),(V.int .i64 0),V.nils,(V.int .i64 0),V.nils,V.nils,(V.int .u32 0),V.nils,(V.bool false),(V.int .u32 0),(V.int .i64 0),(V.int .i64 0),(V.int .i64 0),V.nils,(V.int .i64 0),V.nils,V.nils,(V.int .u32 0),V.nils,(V.bool false),(V.int .u32 0),(V.int .i64 0),(V.int .i64 0),(V.int .i64 0),V.nils,(V.int .i64 0),V.nils,V.nils,(V.int .u32 0),V.nils,(V.bool false),(V.int .u32 0),(V.int .i64 0),(V.int .i64 0),(V.int .i64 0),V.nils,(V.int .i64 0),V.nils,V.nils,(V.int .u32 0),V.nils,(V.bool false),(V.int .u32 0),(V.int .i64 0),(V.int .i64 0),(V.int .i64 0),V.nils,(V.int .i64 0),V.nils,V.nils,(V.int .u32 0),V.nils,(V.bool false),(V.int .u32 0),(V.int .i64 0),(V.int .i64 0),(V.int .i64 0),V.nils,(V.int .i64 0),V.nils,V.nils,(V.int .u32 0),V.nils,V.nilp,V.nilp,V.nilp,V.nilp,V.nilp,V.nilp,V.nilp,V.nilp,V.nilp,V.nilp,V.nilp,V.nilp,V.nilp,V.nilp,V.nilp,V.nilp,V.nilp,V.nilp,V.nilp,V.nilp,V.nilp,V.nilp,V.nilp,V.nilp,V.nilp,V.nilp,V.nilp,V.nilp,V.nilp,V.nilp,V.nilp,V.nilp,V.nilp,V.nilp,V.nilp,V.nilp,V.nilp,V.nilp,V.nilp,V.nilp,V.nilp,V.nilp,V.nilp,V.nilp,V.nilp,V.nilp,V.nilp,V.nilp,V.nilp,V.nilp,V.nilp,V.nilp,V.nilp,V.nilp,V.nilp,V.nilp,V.nilp,V.nilp,V.nilp,V.nilp,V.nilp,V.nilp,V.nilp,V.nilp,(V.bool false),(V.bool false),(V.bool false),(V.bool false),(V.bool false),(V.bool false),(V.bool false),(V.bool false),(V.int .i64 0),(V.int .i64 0),(V.int .i64 0),(V.int .i64 0),(V.int .i64 0),(V.int .i64 0),(V.int .i64 0),(V.int .i64 0),(V.int .i64 0),(V.bool false),(V.int .i64 0),(V.int .i64 0),(V.int .i64 0),(V.int .i64 0),(V.int .i64 0),(V.int .i64 0),(V.int .i64 0),(V.int .i64 0),(V.int .i64 0),(V.int .i64 0),(V.int .i64 0),(V.int .i64 0),(V.int .i64 0),(V.int .i64 0),(V.int .i64 0),(V.int .i64 0),(V.int .i64 0),(V.int .i64 0),(V.int .i64 0),(V.int .i64 0),(V.bool false),(V.bool false),(V.int .u32 0),(V.int .i64 0),(V.int .i64 0),(V.int .i64 0),V.nils,(V.int .i64 0),V.nils,V.nils,(V.int .u32 0),V.nils,(V.bool false),(V.int .u32 0),(V.int .i64 0),(V.int .i64 0),(V.int .i64 0),V.nils,(V.int .i64 0),V.nils,V.nils,(V.int .u32 0),V.nils,(V.bool false),(V.int .u32 0),(V.int .i64 0),(V.int .i64 0),(V.int .i64 0),V.nils,(V.int .i64 0),V.nils,V.nils,(V.int .u32 0),V.nils,(V.bool false),(V.int .u32 0),(V.int .i64 0),(V.int .i64 0),(V.int .i64 0),V.nils,(V.int .i64 0),V.nils,V.nils,(V.int .u32 0),V.nils,(V.bool false),(V.int .u32 0),(V.int .i64 0),(V.int .i64 0),(V.int .i64 0),V.nils,(V.int .i64 0),V.nils,V.nils,(V.int .u32 0),V.nils,(V.bool false),(V.int .u32 0),(V.int .i64 0),(V.int .i64 0),(V.int .i64 0),V.nils,(V.int .i64 0),V.nils,V.nils,(V.int .u32 0),V.nils,(V.bool false),(V.int .u32 0),(V.int .i64 0),(V.int .i64 0),(V.int .i64 0),V.nils,(V.int .i64 0),V.nils,V.nils,(V.int .u32 0),V.nils,(V.bool false),(V.int .u32 0),(V.int .i64 0),(V.int .i64 0),(V.int .i64 0),V.nils,(V.int .i64 0),V.nils,V.nils,(V.int .u32 0),V.nils,(V.bool false),(V.int .u32 0),(V.int .i64 0),(V.int .i64 0),(V.int .i64 0),V.nils,(V.int .i64 0),V.nils,V.nils,(V.int .u32 0),V.nils,(V.bool false),(V.int .u32 0),(V.int .i64 0),(V.int .i64 0),(V.int .i64 0),V.nils,(V.int .i64 0),V.nils,V.nils,(V.int .u32 0),V.nils,(V.bool false),(V.int .u32 0),(V.int .i64 0),(V.int .i64 0),(V.int .i64 0),V.nils,(V.int .i64 0),V.nils,V.nils,(V.int .u32 0),V.nils,(V.bool false),(V.int .u32 0),(V.int .i64 0),(V.int .i64 0),(V.int .i64 0),V.nils,(V.int .i64 0),V.nils,V.nils,(V.int .u32 0),V.nils,(V.bool false),(V.int .u32 0),(V.int .i64 0),(V.int .i64 0),(V.int .i64 0),V.nils,(V.int .i64 0),V.nils,V.nils,(V.int .u32 0),V.nils,(V.bool false),(V.int .u32 0),(V.int .i64 0),(V.int .i64 0),(V.int .i64 0),V.nils,(V.int .i64 0),V.nils,V.nils,(V.int .u32 0),V.nils,(V.bool false),(V.int .u32 0),(V.int .i64 0),(V.int .i64 0),(V.int .i64 0),V.nils,(V.int .i64 0),V.nils,V.nils,(V.int .u32 0),V.nils,(V.bool false),(V.int .u32 0),(V.int .i64 0),(V.int .i64 0),(V.int .i64 0),V.nils,(V.int .i64 0),V.nils,V.nils,(V.int .u32 0),V.nils,(V.bool false),(V.int .u32 0),(V.int .i64 0),(V.int .i64 0),(V.int .i64 0),V.nils,(V.int .i64 0),V.nils,V.nils,(V.int .u32 0),V.nils,(V.bool false),(V.int .u32 0),(V.int .i64 0),(V.int .i64 0),(V.int .i64 0),V.nils,(V.int .i64 0),V.nils,V.nils,(V.int .u32 0),V.nils,(V.bool false),(V.int .u32 0),(V.int .i64 0),(V.int .i64 0),(V.int .i64 0),V.nils,(V.int .i64 0),V.nils,V.nils,(V.int .u32 0),V.nils,(V.bool false),(V.int .u32 0),(V.int .i64 0),(V.int .i64 0),(V.int .i64 0),V.nils,(V.int .i64 0),V.nils,V.nils,(V.int .u32 0),V.nils,(V.bool false),(V.int .u32 0),(V.int .i64 0),(V.int .i64 0),(V.int .i64 0),V.nils,(V.int .i64 0),V.nils,V.nils,(V.int .u32 0),V.nils,(V.bool false),(V.int .u32 0),(V.int .i64 0),(V.int .i64 0),(V.int .i64 0),V.nils,(V.int .i64 0),V.nils,V.nils,(V.int .u32 0),V.nils,(V.bool false),(V.int .u32 0),(V.int .i64 0),(V.int .i64 0),(V.int .i64 0),V.nils,(V.int .i64 0),V.nils,V.nils,(V.int .u32 0),V.nils,(V.bool false),(V.int .u32 0),(V.int .i64 0),(V.int .i64 0),(V.int .i64 0),V.nils,(V.int .i64 0),V.nils,V.nils,(V.int .u32 0),V.nils,V.nilp,V.nilp,V.nilp,V.nilp,V.nilp,V.nilp,V.nilp,V.nilp,V.nilp,V.nilp,V.nilp,V.nilp,V.nilp,V.nilp,V.nilp,V.nilp,V.nilp,V.nilp,V.nilp,V.nilp,V.nilp,V.nilp,V.nilp,V.nilp,V.nilp,V.nilp,V.nilp,V.nilp,V.nilp,V.nilp,V.nilp,V.nilp,V.nilp,V.nilp,V.nilp,V.nilp,V.nilp,V.nilp,V.nilp,V.nilp,V.nilp,V.nilp,V.nilp,V.nilp,V.nilp,V.nilp,V.nilp,V.nilp,V.nilp,V.nilp,V.nilp,V.nilp,V.nilp,V.nilp,V.nilp,V.nilp,V.nilp,V.nilp,V.nilp,V.nilp,V.nilp,V.nilp,V.nilp,V.nilp,(V.int .i64 0),V.nils,V.nilp,V.nilp,V.nilp,V.nilp,V.nilp,V.nilp,V.nilp,V.nilp,V.nilp,V.nilp,V.nilp,V.nilp,V.nilp,V.nilp,V.nilp,V.nilp,V.nilp,V.nilp,V.nilp,V.nilp,V.nilp,V.nilp,V.nilp,V.nilp,V.nilp,V.nilp,V.nilp,V.nilp,V.nilp,V.nilp,V.nilp,V.nilp,V.nilp,V.nilp,V.nilp,V.nilp,V.nilp,V.nilp,V.nilp,V.nilp,V.nilp,V.nilp,V.nilp,V.nilp,V.nilp,V.nilp,V.nilp,V.nilp,V.nilp,V.nilp,V.nilp,V.nilp,V.nilp,V.nilp,V.nilp,V.nilp,V.nilp,V.nilp,V.nilp,V.nilp,V.nilp,V.nilp,V.nilp,V.nilp,V.nilp] [(1534,1,t3)])).bind fun t4 =>
 (mbox ztW t4).bind fun t5 =>
 M.blk 0 (
 M.iter (zBi G t5 V.nilp) [(V.int .i64 0)]) fun _ =>
 M.pure (.ret [t5])
def zqp:Fn':=(T ze0).getD noF
theorem zB2:T ze0 = some zqp:=by kernel_rfl
theorem zC0 (G:Sem'):execK G zqp.rv zqp.body [] [] (params 0 []) = zyi G:=by kernel_rfl
def ztR (G:Sem'):List V → M V
 | []=>fin (zyi G)
 | _=>M.fail
theorem zEl {g:Sem'} (hg:Sims g (sem T)) (args:List V):Sim (ztR g args) (sem T ze0 args):=by
 unfold ztR;split
 ·exact zae zB2 (Nat.le_of_ble_eq_true (by kernel_rfl)) hg (zC0 g)
 ·exact zaa
def zh1 (G:Sem'):M Res :=
 (G ze0 []).bind fun t9 =>
 (M.lift (eqr .ptr false t9 V.nilp)).bind fun t11 =>
 M.ite t11
 (M.pure (.ret [(V.bool false)]))
 ((mslit zaj 1 [(V.int .u8 0)] [(0,1,(V.int .u8 120))]).bind fun t14 =>
 (mremark zaj t14).bind fun t15 =>
 (M.lift (Ax.build [(V.int .i64 0),(V.int .i64 0),(V.int .i64 0),V.nils] [(0,1,(V.int .i64 1)),(1,1,(V.int .i64 5)),(3,1,t15)])).bind fun t16 =>
 (G zau [t9,t16]).bind fun t17 =>
 (M.lift (Ax.ext 0 t17)).bind fun t18 =>
 (M.lift (Ax.ext 1 t17)).bind fun t19 =>
 (G zdg [t9,(V.int .i64 2)]).bind fun t21 =>
 (M.lift (Ax.build [(V.int .i64 0),(V.int .i64 0),(V.int .i64 0),(V.int .i64 0),(V.int .i64 0),(V.int .i64 0),V.nils] [(0,1,(V.int .i64 1))])).bind fun t24 =>
 (G zaJ [t24]).bind fun t25 =>
 (M.lift (Ax.build [(V.int .i64 0),(V.int .i64 0),(V.int .i64 0),V.nils] [(0,1,(V.int .i64 2)),(1,1,(V.int .i64 5)),(3,1,t25)])).bind fun t26 =>
 (G zau [t9,t26]).bind fun t27 =>
 (M.lift (Ax.ext 0 t27)).bind fun t28 =>
 (M.lift (Ax.ext 1 t27)).bind fun t29 =>
 (G zdF [t9,(V.int .i64 0)]).bind fun t32 =>
 (M.lift (Ax.ext 0 t32)).bind fun t33 =>
 (M.lift (Ax.ext 1 t32)).bind fun t34 =>
 (mbox zaE (V.agg [(V.bool false),(V.bool false),(V.bool false),(V.bool false),(V.bool false),(V.bool false),(V.bool false),(V.bool false),(V.int .i64 0),(V.int .i64 0),(V.int .i64 0),(V.int .i64 0),(V.int .i64 0),(V.int .i64 0),(V.int .i64 0),(V.int .i64 0),(V.int .i64 0),(V.bool false),(V.int .i64 0),(V.int .i64 0),(V.int .i64 0),(V.int .i64 0),(V.int .i64 0),(V.int .i64 0),(V.int .i64 0),(V.int .i64 0),(V.int .i64 0),(V.int .i64 0),(V.int .i64 0),(V.int .i64 0),(V.int .i64 0),(V.int .i64 0),(V.int .i64 0),(V.int .i64 0),(V.int .i64 0),(V.int .i64 0),(V.int .i64 0),(V.int .i64 0),(V.bool false)])).bind fun t7 =>
 (mstore 39 t7 t33).bind fun _ =>
 (M.lift (Ax.bin .eql t19 (V.int .i64 0))).bind fun t36 =>
 (guarded [(0,t36)] (some (0,true)) (M.pure t21)).bind fun t38 =>
 (guarded [(0,t36)] (some (0,true)) (M.lift (Ax.bin .eql t38 (V.int .i64 1)))).bind fun t39 =>
 (M.lift (Ax.pick t36 t39 (V.bool false))).bind fun t40 =>
 (guarded [(0,t40)] (some (0,true)) (M.pure t29)).bind fun t42 =>
 (guarded [(0,t40)] (some (0,true)) (M.lift (Ax.bin .eql t42 (V.int .i64 0)))).bind fun t43 =>
 (M.lift (Ax.pick t40 t43 (V.bool false))).bind fun t44 =>
 (guarded [(0,t44)] (some (0,true)) (M.pure t9)).bind fun t46 =>
 (guarded [(0,t44)] (some (0,true)) (G zdf [t46,(V.int .i64 5)])).bind fun t47 =>
 (guarded [(0,t44)] (some (0,true)) (M.lift (Ax.bin .eql t47 (V.int .i64 1)))).bind fun t48 =>
 (M.lift (Ax.pick t44 t48 (V.bool false))).bind fun t49 =>
 (guarded [(0,t49)] (some (0,true)) (M.pure t34)).bind fun t51 =>
 (M.lift (Ax.pick t49 t51 (V.bool false))).bind fun t52 =>
 (guarded [(0,t52)] (some (0,true)) (M.lift (Ax.faddr 0 t7))).bind fun t54 =>
 (guarded [(0,t52)] (some (0,true)) (M.lift (Ax.faddr 0 t54))).bind fun t55 =>
 (guarded [(0,t52)] (some (0,true)) (M.lift (Ax.iaddr (some 8) 1 t55 (V.int .i64 0)))).bind fun t56 =>
 (guarded [(0,t52)] (some (0,true)) (mload none t56)).bind fun t57 =>
 (M.lift (Ax.pick t52 t57 (V.bool false))).bind fun t58 =>
 (guarded [(0,t58)] (some (0,true)) (M.lift (Ax.faddr 0 t7))).bind fun t60 =>
 (guarded [(0,t58)] (some (0,true)) (M.lift (Ax.faddr 8 t60))).bind fun t61 =>
 (guarded [(0,t58)] (some (0,true)) (M.lift (Ax.iaddr (some 8) 1 t61 (V.int .i64 0)))).bind fun t62 =>
 (guarded [(0,t58)] (some (0,true)) (mload none t62)).bind fun t63 =>
 (guarded [(0,t58)] (some (0,true)) (M.lift (Ax.bin .eql t63 (V.int .i64 5)))).bind fun t64 =>
 (M.lift (Ax.pick t58 t64 (V.bool false))).bind fun t65 =>
 M.pure (.ret [t65]))
def zeW:Fn':=(T zbr).getD noF
theorem zmm:T zbr = some zeW:=by kernel_rfl
theorem zmR (G:Sem'):execK G zeW.rv zeW.body [] [] (params 0 []) = zh1 G:=by kernel_rfl
def zfA (G:Sem'):List V → M V
 | []=>fin (zh1 G)
 | _=>M.fail
theorem znG {g:Sem'} (hg:Sims g (sem T)) (args:List V):Sim (zfA g args) (sem T zbr args):=by
 unfold zfA;split
 ·exact zae zmm (Nat.le_of_ble_eq_true (by kernel_rfl)) hg (zmR g)
 ·exact zaa
def zh0 (G:Sem') (t0 t1 t2:V):M Res :=
 (M.lift (Ax.build [(V.int .i64 0),(V.int .i64 0),(V.int .i64 0),(V.int .i64 0),(V.int .i64 0),(V.int .i64 0),V.nils] [(0,1,(V.int .i64 1)),(1,1,t2)])).bind fun t15 =>
 (G zaJ [t15]).bind fun t16 =>
 (M.lift (Ax.build [(V.int .i64 0),(V.int .i64 0),(V.int .i64 0),V.nils] [(0,1,(V.int .i64 2)),(1,1,t1),(3,1,t16)])).bind fun t17 =>
 (G zau [t0,t17]).bind fun t18 =>
 (M.lift (Ax.build [(V.int .i64 0),(V.int .i64 0),(V.int .i64 0),V.nils] [(0,1,(V.int .i64 5)),(1,1,t1),(2,1,(V.int .i64 32))])).bind fun t22 =>
 (G zau [t0,t22]).bind fun t23 =>
 (M.lift (Ax.ext 0 t23)).bind fun t24 =>
 (M.lift (Ax.ext 1 t23)).bind fun t25 =>
 (M.lift (Ax.bin .neq t25 (V.int .i64 0))).bind fun t27 =>
 (guarded [(0,t27)] (some (0,false)) (M.pure t24)).bind fun t29 =>
 (guarded [(0,t27)] (some (0,false)) (M.lift (vlen t29))).bind fun t30 =>
 (guarded [(0,t27)] (some (0,false)) (M.lift (Ax.bin .eql t30 (V.int .i64 0)))).bind fun t31 =>
 (M.lift (Ax.pick t27 (V.bool true) t31)).bind fun t32 =>
 M.ite t32
 (M.pure (.ret [(V.int .i64 0),(V.bool false)]))
 ((M.lift (vlen t24)).bind fun t36 =>
 (M.lift (Ax.bin .sub t36 (V.int .i64 1))).bind fun t37 =>
 (M.lift (Ax.iaddr none 3 t24 t37)).bind fun t38 =>
 (M.lift (Ax.faddr 2 t38)).bind fun t39 =>
 (mload none t39).bind fun t40 =>
 (G zaR [t40]).bind fun t41 =>
 (M.lift (Ax.ext 0 t41)).bind fun t42 =>
 (M.lift (Ax.ext 1 t41)).bind fun t43 =>
 (mbox zac (V.agg [(V.int .i64 0),(V.int .i64 0),(V.int .i64 0),(V.int .i64 0),(V.int .i64 0),(V.int .i64 0),V.nils])).bind fun t10 =>
 (mstore 7 t10 t42).bind fun _ =>
 (M.lift (Ax.faddr 2 t10)).bind fun t44 =>
 (mload none t44).bind fun t45 =>
 (M.lift (Ax.bin .eql t43 (V.int .i64 0))).bind fun t47 =>
 (guarded [(0,t47)] (some (0,true)) (M.lift (Ax.faddr 0 t10))).bind fun t49 =>
 (guarded [(0,t47)] (some (0,true)) (mload none t49)).bind fun t50 =>
 (guarded [(0,t47)] (some (0,true)) (M.lift (Ax.bin .eql t50 (V.int .i64 17)))).bind fun t51 =>
 (M.lift (Ax.pick t47 t51 (V.bool false))).bind fun t52 =>
 (guarded [(0,t52)] (some (0,true)) (M.lift (Ax.faddr 1 t10))).bind fun t54 =>
 (guarded [(0,t52)] (some (0,true)) (mload none t54)).bind fun t55 =>
 (guarded [(0,t52)] (some (0,true)) (M.pure t2)).bind fun t56 =>
 (guarded [(0,t52)] (some (0,true)) (M.lift (Ax.bin .eql t55 t56))).bind fun t57 =>
 (M.lift (Ax.pick t52 t57 (V.bool false))).bind fun t58 =>
 M.pure (.ret [t45,t58]))
def zeV:Fn':=(T zaY).getD noF
theorem zml:T zaY = some zeV:=by kernel_rfl
theorem zmQ (G:Sem') (t0 t1 t2:V):execK G zeV.rv zeV.body [] [] (params 0 [t0,t1,t2]) = zh0 G t0 t1 t2:=by kernel_rfl
def zfz (G:Sem'):List V → M V
 | [t0,t1,t2]=>fin (zh0 G t0 t1 t2)
 | _=>M.fail
theorem znF {g:Sem'} (hg:Sims g (sem T)) (args:List V):Sim (zfz g args) (sem T zaY args):=by
 unfold zfz;split
 ·exact zae zml (Nat.le_of_ble_eq_true (by kernel_rfl)) hg (zmQ g _ _ _)
 ·exact zaa
def znv (G:Sem') (t0 t1:V):M Res :=
 (mbox zaE (V.agg [(V.bool false),(V.bool false),(V.bool false),(V.bool false),(V.bool false),(V.bool false),(V.bool false),(V.bool false),(V.int .i64 0),(V.int .i64 0),(V.int .i64 0),(V.int .i64 0),(V.int .i64 0),(V.int .i64 0),(V.int .i64 0),(V.int .i64 0),(V.int .i64 0),(V.bool false),(V.int .i64 0),(V.int .i64 0),(V.int .i64 0),(V.int .i64 0),(V.int .i64 0),(V.int .i64 0),(V.int .i64 0),(V.int .i64 0),(V.int .i64 0),(V.int .i64 0),(V.int .i64 0),(V.int .i64 0),(V.int .i64 0),(V.int .i64 0),(V.int .i64 0),(V.int .i64 0),(V.int .i64 0),(V.int .i64 0),(V.int .i64 0),(V.int .i64 0),(V.bool false)])).bind fun t4 =>
 (M.lift (Ax.bin .lss t1 (V.int .i64 0))).bind fun t7 =>
 (guarded [(0,t7)] (some (0,false)) (M.pure t1)).bind fun t9 =>
 (guarded [(0,t7)] (some (0,false)) (M.lift (Ax.bin .geq t9 (V.int .i64 4)))).bind fun t10 =>
 (M.lift (Ax.pick t7 (V.bool true) t10)).bind fun t11 =>
 M.ite t11
 ((M.lift (Ax.build [(V.bool false),(V.bool false),(V.bool false),(V.bool false),(V.bool false),(V.bool false),(V.bool false),(V.bool false),(V.int .i64 0),(V.int .i64 0),(V.int .i64 0),(V.int .i64 0),(V.int .i64 0),(V.int .i64 0),(V.int .i64 0),(V.int .i64 0),(V.int .i64 0),(V.bool false),(V.int .i64 0),(V.int .i64 0),(V.int .i64 0),(V.int .i64 0),(V.int .i64 0),(V.int .i64 0),(V.int .i64 0),(V.int .i64 0),(V.int .i64 0),(V.int .i64 0),(V.int .i64 0),(V.int .i64 0),(V.int .i64 0),(V.int .i64 0),(V.int .i64 0),(V.int .i64 0),(V.int .i64 0),(V.int .i64 0),(V.int .i64 0),(V.int .i64 0),(V.bool false)] [])).bind fun t12 =>
 (mstore 39 t4 t12).bind fun _ =>
 (mload (some 39) t4).bind fun r0 =>
 M.pure (.ret [r0,(V.bool false)]))
 ((M.lift (Ax.nilck t0)).bind fun t15 =>
 (M.lift (Ax.faddr 0 t15)).bind fun t16 =>
 (M.lift (Ax.iaddr (some 4) 367 t16 t1)).bind fun t17 =>
 (M.lift (Ax.faddr 0 t17)).bind fun t18 =>
 (mload (some 39) t18).bind fun t19 =>
 (mstore 39 t4 t19).bind fun _ =>
 (mload (some 39) t4).bind fun r0 =>
 M.pure (.ret [r0,(V.bool true)]))
def zil:Fn':=(T zdF).getD noF
theorem zsJ:T zdF = some zil:=by kernel_rfl
theorem ztD (G:Sem') (t0 t1:V):execK G zil.rv zil.body [] [] (params 0 [t0,t1]) = znv G t0 t1:=by kernel_rfl
def zjM (G:Sem'):List V → M V
 | [t0,t1]=>fin (znv G t0 t1)
 | _=>M.fail
theorem zuP {g:Sem'} (hg:Sims g (sem T)) (args:List V):Sim (zjM g args) (sem T zdF args):=by
 unfold zjM;split
 ·exact zae zsJ (Nat.le_of_ble_eq_true (by kernel_rfl)) hg (ztD g _ _)
 ·exact zaa
def f_desk_Desk_Do (G:Sem') (t0 t1:V):M Res :=
 (mbox zd9 t1).bind fun t3 =>
 (M.lift (Ax.faddr 0 t3)).bind fun t6 =>
 (mload none t6).bind fun t7 =>
 (M.lift (Ax.bin .lss t7 (V.int .i64 1))).bind fun t8 =>
 (guarded [(0,t8)] (some (0,false)) (M.lift (Ax.faddr 0 t3))).bind fun t10 =>
 (guarded [(0,t8)] (some (0,false)) (mload none t10)).bind fun t11 =>
 (guarded [(0,t8)] (some (0,false)) (M.lift (Ax.bin .gtr t11 (V.int .i64 5)))).bind fun t12 =>
 (M.lift (Ax.pick t8 (V.bool true) t12)).bind fun t13 =>
 (guarded [(0,t13)] (some (0,false)) (M.lift (Ax.faddr 0 t3))).bind fun t15 =>
 (guarded [(0,t13)] (some (0,false)) (mload none t15)).bind fun t16 =>
 (guarded [(0,t13)] (some (0,false)) (M.lift (Ax.bin .neq t16 (V.int .i64 3)))).bind fun t17 =>
 (guarded [(0,t13)] (some (0,false)) (M.pure t17)).bind fun t18 =>
 (guarded [(0,t18)] (some (0,true)) (M.lift (Ax.faddr 0 t3))).bind fun t19 =>
 (guarded [(0,t18)] (some (0,true)) (mload none t19)).bind fun t20 =>
 (guarded [(0,t18)] (some (0,true)) (M.lift (Ax.bin .neq t20 (V.int .i64 4)))).bind fun t21 =>
 (guarded [(0,t13)] (some (0,false)) (M.lift (Ax.pick t18 t21 (V.bool false)))).bind fun t22 =>
 (guarded [(0,t13)] (some (0,false)) (M.pure t22)).bind fun t23 =>
 (guarded [(0,t23)] (some (0,true)) (M.lift (Ax.faddr 1 t3))).bind fun t24 =>
 (guarded [(0,t23)] (some (0,true)) (mload none t24)).bind fun t25 =>
 (guarded [(0,t23)] (some (0,true)) (G zcJ [t25])).bind fun t26 =>
 (guarded [(0,t23)] (some (0,true)) (M.lift (Ax.un .not t26))).bind fun t27 =>
 (guarded [(0,t13)] (some (0,false)) (M.lift (Ax.pick t23 t27 (V.bool false)))).bind fun t28 =>
 (M.lift (Ax.pick t13 (V.bool true) t28)).bind fun t29 =>
 M.ite t29
 (M.pure (.ret [V.nils,(V.int .i64 1)]))
 ((M.lift (Ax.faddr 0 t3)).bind fun t30 =>
 (mload none t30).bind fun t31 =>
 M.blk 0 (
 (M.lift (Ax.bin .eql t31 (V.int .i64 1))).bind fun t47 =>
 M.join (M.ite t47
 ((M.lift (Ax.faddr 1 t3)).bind fun t49 =>
 (mload none t49).bind fun t50 =>
 (M.lift (Ax.faddr 3 t3)).bind fun t51 =>
 (mload none t51).bind fun t52 =>
 (G zb2 [t0,t50,t52]).bind fun t53 =>
 M.pure (.nrm []))
 ((M.lift (Ax.bin .eql t31 (V.int .i64 2))).bind fun t55 =>
 M.join (M.ite t55
 ((M.lift (Ax.faddr 1 t3)).bind fun t57 =>
 (mload none t57).bind fun t58 =>
 (M.lift (Ax.faddr 3 t3)).bind fun t59 =>
 (mload none t59).bind fun t60 =>
 (G zbn [t0,t58,t60]).bind fun t61 =>
 M.pure (.nrm []))
 ((M.lift (Ax.bin .eql t31 (V.int .i64 3))).bind fun t63 =>
 M.join (M.ite t63
 ((M.lift (Ax.faddr 2 t3)).bind fun t64 =>
 (mload none t64).bind fun t65 =>
 (M.lift (Ax.bin .lss t65 (V.int .i64 0))).bind fun t66 =>
 (guarded [(0,t66)] (some (0,false)) (M.lift (Ax.faddr 2 t3))).bind fun t68 =>
 (guarded [(0,t66)] (some (0,false)) (mload none t68)).bind fun t69 =>
 (guarded [(0,t66)] (some (0,false)) (M.lift (Ax.bin .gtr t69 (V.int .i64 100000)))).bind fun t70 =>
 (M.lift (Ax.pick t66 (V.bool true) t70)).bind fun t71 =>
 M.ite t71
 (M.pure (.ret [V.nils,(V.int .i64 1)]))
 ((M.lift (Ax.faddr 2 t3)).bind fun t73 =>
 (mload none t73).bind fun t74 =>
 (G zcV [t0,t74]).bind fun t75 =>
 M.pure (.nrm [])))
 ((M.lift (Ax.bin .eql t31 (V.int .i64 4))).bind fun t77 =>
 M.ite t77
 ((M.lift (Ax.faddr 2 t3)).bind fun t78 =>
 (mload none t78).bind fun t79 =>
 (M.lift (Ax.bin .lss t79 (V.int .i64 0))).bind fun t80 =>
 (guarded [(0,t80)] (some (0,false)) (M.lift (Ax.faddr 2 t3))).bind fun t82 =>
 (guarded [(0,t80)] (some (0,false)) (mload none t82)).bind fun t83 =>
 (guarded [(0,t80)] (some (0,false)) (M.lift (Ax.bin .gtr t83 (V.int .i64 4294967295)))).bind fun t84 =>
 (M.lift (Ax.pick t80 (V.bool true) t84)).bind fun t85 =>
 M.ite t85
 (M.pure (.ret [V.nils,(V.int .i64 1)]))
 ((M.lift (Ax.nilck t0)).bind fun t87 =>
 (M.lift (Ax.faddr 1469 t87)).bind fun t88 =>
 (mload none t88).bind fun t89 =>
 (M.lift (vlen t89)).bind fun t90 =>
 (M.lift (Ax.bin .geq t90 (V.int .i64 16))).bind fun t91 =>
 M.ite t91
 (M.pure (.ret [V.nils,(V.int .i64 5)]))
 ((M.lift (Ax.nilck t0)).bind fun t94 =>
 (M.lift (Ax.faddr 1469 t94)).bind fun t95 =>
 (mload none t95).bind fun t96 =>
 (M.lift (Ax.faddr 2 t3)).bind fun t97 =>
 (mload none t97).bind fun t98 =>
 (M.lift (Ax.cint .u32 t98)).bind fun t99 =>
 (mslit zes 1 [(V.int .u32 0)] [(0,1,t99)]).bind fun t100 =>
 (mappend zes 1 4 t96 t100).bind fun t101 =>
 (M.lift (Ax.nilck t0)).bind fun t102 =>
 (M.lift (Ax.faddr 1469 t102)).bind fun t103 =>
 (mstore 1 t103 t101).bind fun _ =>
 M.pure (.nrm []))))
 ((M.lift (Ax.faddr 2 t3)).bind fun t32 =>
 (mload none t32).bind fun t33 =>
 (M.lift (Ax.bin .lss t33 (V.int .i64 0))).bind fun t34 =>
 (guarded [(0,t34)] (some (0,false)) (M.lift (Ax.faddr 2 t3))).bind fun t36 =>
 (guarded [(0,t34)] (some (0,false)) (mload none t36)).bind fun t37 =>
 (guarded [(0,t34)] (some (0,false)) (M.lift (Ax.bin .gtr t37 (V.int .i64 32)))).bind fun t38 =>
 (M.lift (Ax.pick t34 (V.bool true) t38)).bind fun t39 =>
 M.ite t39
 (M.pure (.ret [V.nils,(V.int .i64 1)]))
 ((M.lift (Ax.faddr 1 t3)).bind fun t41 =>
 (mload none t41).bind fun t42 =>
 (M.lift (Ax.faddr 2 t3)).bind fun t43 =>
 (mload none t43).bind fun t44 =>
 (G zbc [t0,t42,t44]).bind fun t45 =>
 M.pure (.ret [t45,(V.int .i64 0)]))))) fun _ =>
 M.pure (.nrm []))) fun _ =>
 M.pure (.nrm []))) fun _ =>
 M.pure (.nrm [])) fun _ =>
 M.pure (.ret [V.nils,(V.int .i64 0)]))
def ir_desk_Desk_Do:Fn':=(T zau).getD noF
theorem tb_desk_Desk_Do:T zau = some ir_desk_Desk_Do:=by kernel_rfl
theorem eq_desk_Desk_Do (G:Sem') (t0 t1:V):execK G ir_desk_Desk_Do.rv ir_desk_Desk_Do.body [] [] (params 0 [t0,t1]) = f_desk_Desk_Do G t0 t1:=by kernel_rfl
def zlK (G:Sem'):List V → M V
 | [t0,t1]=>fin (f_desk_Desk_Do G t0 t1)
 | _=>M.fail
theorem zxt {g:Sem'} (hg:Sims g (sem T)) (args:List V):Sim (zlK g args) (sem T zau args):=by
 unfold zlK;split
 ·exact zae tb_desk_Desk_Do (Nat.le_of_ble_eq_true (by kernel_rfl)) hg (eq_desk_Desk_Do g _ _)
 ·exact zaa
def zma (G:Sem') (t0 t1:V):M Res :=
 (M.lift (Ax.nilck t0)).bind fun t6 =>
 (M.lift (Ax.faddr 1534 t6)).bind fun t7 =>
 (mload none t7).bind fun t8 =>
 (G zdA [t8,t1]).bind fun t10 =>
 M.pure (.ret [t10])
def zhD:Fn':=(T zdg).getD noF
theorem zrj:T zdg = some zhD:=by kernel_rfl
theorem zsm (G:Sem') (t0 t1:V):execK G zhD.rv zhD.body [] [] (params 0 [t0,t1]) = zma G t0 t1:=by kernel_rfl
def ziQ (G:Sem'):List V → M V
 | [t0,t1]=>fin (zma G t0 t1)
 | _=>M.fail
theorem zs4 {g:Sem'} (hg:Sims g (sem T)) (args:List V):Sim (ziQ g args) (sem T zdg args):=by
 unfold ziQ;split
 ·exact zae zrj (Nat.le_of_ble_eq_true (by kernel_rfl)) hg (zsm g _ _)
 ·exact zaa
def zl9 (G:Sem') (t0 t1:V):M Res :=
 (G zcJ [t1]).bind fun t6 =>
 (M.lift (Ax.un .not t6)).bind fun t7 =>
 M.ite t7
 (M.pure (.ret [(V.int .i64 0)]))
 ((M.lift (Ax.nilck t0)).bind fun t10 =>
 (M.lift (Ax.faddr 1470 t10)).bind fun t11 =>
 (M.lift (Ax.iaddr (some 64) 1 t11 t1)).bind fun t12 =>
 (mload none t12).bind fun t13 =>
 (G zbN [t13]).bind fun t14 =>
 M.pure (.ret [t14]))
def zhC:Fn':=(T zdf).getD noF
theorem zri:T zdf = some zhC:=by kernel_rfl
theorem zsl (G:Sem') (t0 t1:V):execK G zhC.rv zhC.body [] [] (params 0 [t0,t1]) = zl9 G t0 t1:=by kernel_rfl
def ziP (G:Sem'):List V → M V
 | [t0,t1]=>fin (zl9 G t0 t1)
 | _=>M.fail
theorem zs3 {g:Sem'} (hg:Sims g (sem T)) (args:List V):Sim (ziP g args) (sem T zdf args):=by
 unfold ziP;split
 ·exact zae zri (Nat.le_of_ble_eq_true (by kernel_rfl)) hg (zsl g _ _)
 ·exact zaa
def f_palanquinref16_Parse (G:Sem') (t0:V):M Res :=
 (mbox zac (V.agg [(V.int .i64 0),(V.int .i64 0),(V.int .i64 0),(V.int .i64 0),(V.int .i64 0),(V.int .i64 0),V.nils])).bind fun t2 =>
 (M.lift (vlen t0)).bind fun t7 =>
 (M.lift (Ax.bin .lss t7 (V.int .i64 11))).bind fun t8 =>
 M.ite t8
 ((M.lift (Ax.build [(V.int .i64 0),(V.int .i64 0),(V.int .i64 0),(V.int .i64 0),(V.int .i64 0),(V.int .i64 0),V.nils] [])).bind fun t9 =>
 (mstore 7 t2 t9).bind fun _ =>
 (mload (some 7) t2).bind fun r0 =>
 M.pure (.ret [r0,(V.int .i64 3)]))
 ((M.lift (Ax.iaddr none 1 t0 (V.int .i64 0))).bind fun t11 =>
 (mload none t11).bind fun t12 =>
 (M.lift (Ax.cint .i64 t12)).bind fun t13 =>
 (M.lift (Ax.iaddr none 1 t0 (V.int .i64 1))).bind fun t15 =>
 (mload none t15).bind fun t16 =>
 (M.lift (Ax.cint .i64 t16)).bind fun t17 =>
 (M.lift (Ax.iaddr none 1 t0 (V.int .i64 2))).bind fun t19 =>
 (mload none t19).bind fun t20 =>
 (M.lift (Ax.cint .i64 t20)).bind fun t21 =>
 M.getH.bind fun h0 =>
 (G zai [t0,(V.int .i64 3)]).bind fun t23 =>
 M.getH.bind fun h0' =>
 (M.unch t19 h0 h0').bind fun _ =>
 (M.unch t15 h0 h0').bind fun _ =>
 (M.unch t11 h0 h0').bind fun _ =>
 M.getH.bind fun h1 =>
 (G zai [t0,(V.int .i64 5)]).bind fun t25 =>
 M.getH.bind fun h1' =>
 (M.unch t19 h1 h1').bind fun _ =>
 (M.unch t15 h1 h1').bind fun _ =>
 (M.unch t11 h1 h1').bind fun _ =>
 M.getH.bind fun h2 =>
 (G zai [t0,(V.int .i64 7)]).bind fun t27 =>
 M.getH.bind fun h2' =>
 (M.unch t19 h2 h2').bind fun _ =>
 (M.unch t15 h2 h2').bind fun _ =>
 (M.unch t11 h2 h2').bind fun _ =>
 (M.lift (Ax.build [(V.int .i64 0),(V.int .i64 0),(V.int .i64 0),(V.int .i64 0),(V.int .i64 0),(V.int .i64 0),V.nils] [(0,1,t13),(1,1,t17),(2,1,t21),(3,1,t23),(4,1,t25),(5,1,t27),(6,1,V.nils)])).bind fun t28 =>
 (mbox zac (V.agg [(V.int .i64 0),(V.int .i64 0),(V.int .i64 0),(V.int .i64 0),(V.int .i64 0),(V.int .i64 0),V.nils])).bind fun t4 =>
 (mstore 7 t4 t28).bind fun _ =>
 (G zai [t0,(V.int .i64 9)]).bind fun t30 =>
 M.blk 0 (
 (M.lift (Ax.bin .gtr t30 (V.int .i64 200))).bind fun t33 =>
 M.ite t33
 ((M.lift (Ax.build [(V.int .i64 0),(V.int .i64 0),(V.int .i64 0),(V.int .i64 0),(V.int .i64 0),(V.int .i64 0),V.nils] [])).bind fun t34 =>
 (mstore 7 t2 t34).bind fun _ =>
 (mload (some 7) t2).bind fun r0 =>
 M.pure (.ret [r0,(V.int .i64 4)]))
 ((M.lift (vlen t0)).bind fun t38 =>
 (M.lift (Ax.bin .sub t38 (V.int .i64 11))).bind fun t39 =>
 (M.lift (Ax.bin .gtr t30 t39)).bind fun t40 =>
 M.ite t40
 ((M.lift (Ax.build [(V.int .i64 0),(V.int .i64 0),(V.int .i64 0),(V.int .i64 0),(V.int .i64 0),(V.int .i64 0),V.nils] [])).bind fun t41 =>
 (mstore 7 t2 t41).bind fun _ =>
 (mload (some 7) t2).bind fun r0 =>
 M.pure (.ret [r0,(V.int .i64 3)]))
 ((M.lift (vlen t0)).bind fun t45 =>
 (M.lift (Ax.bin .sub t45 (V.int .i64 11))).bind fun t46 =>
 (M.lift (Ax.bin .lss t30 t46)).bind fun t47 =>
 M.ite t47
 ((M.lift (Ax.build [(V.int .i64 0),(V.int .i64 0),(V.int .i64 0),(V.int .i64 0),(V.int .i64 0),(V.int .i64 0),V.nils] [])).bind fun t48 =>
 (mstore 7 t2 t48).bind fun _ =>
 (mload (some 7) t2).bind fun r0 =>
 M.pure (.ret [r0,(V.int .i64 2)]))
 (M.pure (.nrm []))))) fun _ =>
 (mslit zaj 0 [(V.int .u8 0)] []).bind fun t49 =>
 (M.lift (zbo .sl 1 t0 (some (V.int .i64 11)) none none)).bind fun t51 =>
 (mappend zaj 1 1 t49 t51).bind fun t52 =>
 (M.lift (Ax.faddr 6 t4)).bind fun t53 =>
 (mstore 1 t53 t52).bind fun _ =>
 (mload (some 7) t4).bind fun t54 =>
 (G zam [t54]).bind fun t55 =>
 (M.lift (Ax.un .not t55)).bind fun t56 =>
 M.ite t56
 ((M.lift (Ax.build [(V.int .i64 0),(V.int .i64 0),(V.int .i64 0),(V.int .i64 0),(V.int .i64 0),(V.int .i64 0),V.nils] [])).bind fun t57 =>
 (mstore 7 t2 t57).bind fun _ =>
 (mload (some 7) t2).bind fun r0 =>
 M.pure (.ret [r0,(V.int .i64 2)]))
 ((mload (some 7) t4).bind fun t58 =>
 (mstore 7 t2 t58).bind fun _ =>
 (mload (some 7) t2).bind fun r0 =>
 M.pure (.ret [r0,(V.int .i64 0)])))
def ir_palanquinref16_Parse:Fn':=(T zaR).getD noF
theorem tb_palanquinref16_Parse:T zaR = some ir_palanquinref16_Parse:=by kernel_rfl
theorem eq_palanquinref16_Parse (G:Sem') (t0:V):execK G ir_palanquinref16_Parse.rv ir_palanquinref16_Parse.body [] [] (params 0 [t0]) = f_palanquinref16_Parse G t0:=by kernel_rfl
def zfx (G:Sem'):List V → M V
 | [t0]=>fin (f_palanquinref16_Parse G t0)
 | _=>M.fail
theorem znD {g:Sem'} (hg:Sims g (sem T)) (args:List V):Sim (zfx g args) (sem T zaR args):=by
 unfold zfx;split
 ·exact zae tb_palanquinref16_Parse (Nat.le_of_ble_eq_true (by kernel_rfl)) hg (eq_palanquinref16_Parse g _)
 ·exact zaa
def f_palanquinlaw27_says (G:Sem') (t0:V):M Res :=
 (mbox zac t0).bind fun t1 =>
 (mload (some 7) t1).bind fun t6 =>
 (G zaS [t6]).bind fun t7 =>
 (M.lift (Ax.ext 0 t7)).bind fun t8 =>
 (M.lift (Ax.ext 1 t7)).bind fun t9 =>
 M.pure (.ret [t8])
def ir_palanquinlaw27_says:Fn':=(T zaJ).getD noF
theorem tb_palanquinlaw27_says:T zaJ = some ir_palanquinlaw27_says:=by kernel_rfl
theorem eq_palanquinlaw27_says (G:Sem') (t0:V):execK G ir_palanquinlaw27_says.rv ir_palanquinlaw27_says.body [] [] (params 0 [t0]) = f_palanquinlaw27_says G t0:=by kernel_rfl
def zfV (G:Sem'):List V → M V
 | [t0]=>fin (f_palanquinlaw27_says G t0)
 | _=>M.fail
theorem znU {g:Sem'} (hg:Sims g (sem T)) (args:List V):Sim (zfV g args) (sem T zaJ args):=by
 unfold zfV;split
 ·exact zae tb_palanquinlaw27_says (Nat.le_of_ble_eq_true (by kernel_rfl)) hg (eq_palanquinlaw27_says g _)
 ·exact zaa
def f_room_Good_0 (G:Sem') (t18 t1:V) (L:List V):M Res :=
 (M.lift (Ax.bin .lss (L.getD 0 .undef) (V.int .i64 8))).bind fun t20 =>
 M.ite t20
 (M.blk 1 (
 (M.lift (Ax.index 8 1 none t18 (L.getD 0 .undef))).bind fun t22 =>
 (M.lift (Ax.un .not t22)).bind fun t24 =>
 (guarded [(0,t24)] (some (0,true)) (M.pure (L.getD 0 .undef))).bind fun t26 =>
 (guarded [(0,t24)] (some (0,true)) (M.lift (Ax.faddr 22 t1))).bind fun t27 =>
 (guarded [(0,t24)] (some (0,true)) (M.lift (Ax.iaddr (some 8) 1 t27 t26))).bind fun t28 =>
 (guarded [(0,t24)] (some (0,true)) (mload none t28)).bind fun t29 =>
 (guarded [(0,t24)] (some (0,true)) (M.lift (Ax.bin .neq t29 (V.int .i64 0)))).bind fun t30 =>
 (guarded [(0,t24)] (some (0,true)) (M.pure t30)).bind fun t31 =>
 (guarded [(0,t31)] (some (0,false)) (M.pure (L.getD 0 .undef))).bind fun t32 =>
 (guarded [(0,t31)] (some (0,false)) (M.lift (Ax.faddr 30 t1))).bind fun t33 =>
 (guarded [(0,t31)] (some (0,false)) (M.lift (Ax.iaddr (some 8) 1 t33 t32))).bind fun t34 =>
 (guarded [(0,t31)] (some (0,false)) (mload none t34)).bind fun t35 =>
 (guarded [(0,t31)] (some (0,false)) (M.lift (Ax.bin .neq t35 (V.int .i64 0)))).bind fun t36 =>
 (guarded [(0,t24)] (some (0,true)) (M.lift (Ax.pick t31 (V.bool true) t36))).bind fun t37 =>
 (M.lift (Ax.pick t24 t37 (V.bool false))).bind fun t38 =>
 (guarded [(0,t38)] (some (0,false)) (M.pure (L.getD 0 .undef))).bind fun t40 =>
 (guarded [(0,t38)] (some (0,false)) (M.lift (Ax.faddr 30 t1))).bind fun t41 =>
 (guarded [(0,t38)] (some (0,false)) (M.lift (Ax.iaddr (some 8) 1 t41 t40))).bind fun t42 =>
 (guarded [(0,t38)] (some (0,false)) (mload none t42)).bind fun t43 =>
 (guarded [(0,t38)] (some (0,false)) (M.lift (Ax.bin .lss t43 (V.int .i64 0)))).bind fun t44 =>
 (M.lift (Ax.pick t38 (V.bool true) t44)).bind fun t45 =>
 (guarded [(0,t45)] (some (0,false)) (M.pure (L.getD 0 .undef))).bind fun t47 =>
 (guarded [(0,t45)] (some (0,false)) (M.lift (Ax.faddr 30 t1))).bind fun t48 =>
 (guarded [(0,t45)] (some (0,false)) (M.lift (Ax.iaddr (some 8) 1 t48 t47))).bind fun t49 =>
 (guarded [(0,t45)] (some (0,false)) (mload none t49)).bind fun t50 =>
 (guarded [(0,t45)] (some (0,false)) (M.lift (Ax.faddr 16 t1))).bind fun t51 =>
 (guarded [(0,t45)] (some (0,false)) (M.lift (Ax.faddr 0 t51))).bind fun t52 =>
 (guarded [(0,t45)] (some (0,false)) (mload none t52)).bind fun t53 =>
 (guarded [(0,t45)] (some (0,false)) (M.lift (Ax.bin .gtr t50 t53))).bind fun t54 =>
 (M.lift (Ax.pick t45 (V.bool true) t54)).bind fun t55 =>
 M.ite t55
 (M.pure (.ret [(V.bool false)]))
 (M.pure (.nrm []))) fun _ =>
 (M.lift (Ax.bin .add (L.getD 0 .undef) (V.int .i64 1))).bind fun t56 =>
 M.pure (.nrm [t56]))
 (M.pure (.ex 0 []))
def f_room_Good (G:Sem') (t0:V):M Res :=
 (mbox zaE t0).bind fun t1 =>
 (M.lift (Ax.faddr 0 t1)).bind fun t6 =>
 (mload (some 16) t6).bind fun t7 =>
 (G zbg [t7]).bind fun t8 =>
 (M.lift (Ax.un .not t8)).bind fun t9 =>
 (guarded [(0,t9)] (some (0,false)) (M.lift (Ax.faddr 16 t1))).bind fun t11 =>
 (guarded [(0,t9)] (some (0,false)) (mload (some 6) t11)).bind fun t12 =>
 (guarded [(0,t9)] (some (0,false)) (G zbH [t12])).bind fun t13 =>
 (guarded [(0,t9)] (some (0,false)) (M.lift (Ax.un .not t13))).bind fun t14 =>
 (M.lift (Ax.pick t9 (V.bool true) t14)).bind fun t15 =>
 M.ite t15
 (M.pure (.ret [(V.bool false)]))
 ((M.lift (Ax.faddr 0 t1)).bind fun t16 =>
 (M.lift (Ax.faddr 0 t16)).bind fun t17 =>
 (mload (some 8) t17).bind fun t18 =>
 M.blk 0 (
 M.iter (f_room_Good_0 G t18 t1) [(V.int .i64 0)]) fun _ =>
 (M.lift (Ax.faddr 0 t1)).bind fun t57 =>
 (mload (some 16) t57).bind fun t58 =>
 (G zbU [t58]).bind fun t59 =>
 (M.lift (Ax.faddr 16 t1)).bind fun t60 =>
 (M.lift (Ax.faddr 1 t60)).bind fun t61 =>
 (mload none t61).bind fun t62 =>
 (M.lift (Ax.un .not t62)).bind fun t63 =>
 (guarded [(0,t63)] (some (0,false)) (M.lift (Ax.faddr 16 t1))).bind fun t65 =>
 (guarded [(0,t63)] (some (0,false)) (M.lift (Ax.faddr 3 t65))).bind fun t66 =>
 (guarded [(0,t63)] (some (0,false)) (mload none t66)).bind fun t67 =>
 (guarded [(0,t63)] (some (0,false)) (M.pure t59)).bind fun t68 =>
 (guarded [(0,t63)] (some (0,false)) (M.lift (Ax.bin .andNot t67 t68))).bind fun t69 =>
 (guarded [(0,t63)] (some (0,false)) (M.lift (Ax.bin .eql t69 (V.int .i64 0)))).bind fun t70 =>
 (M.lift (Ax.pick t63 (V.bool true) t70)).bind fun t71 =>
 (guarded [(0,t71)] (some (0,true)) (M.lift (Ax.faddr 38 t1))).bind fun t73 =>
 (guarded [(0,t71)] (some (0,true)) (mload none t73)).bind fun t74 =>
 (guarded [(0,t71)] (some (0,true)) (M.lift (Ax.un .not t74))).bind fun t75 =>
 (guarded [(0,t71)] (some (0,true)) (M.pure t75)).bind fun t76 =>
 (guarded [(0,t76)] (some (0,false)) (M.pure t59)).bind fun t77 =>
 (guarded [(0,t76)] (some (0,false)) (M.lift (Ax.bin .eql t77 (V.int .i64 0)))).bind fun t78 =>
 (guarded [(0,t71)] (some (0,true)) (M.lift (Ax.pick t76 (V.bool true) t78))).bind fun t79 =>
 (M.lift (Ax.pick t71 t79 (V.bool false))).bind fun t80 =>
 M.pure (.ret [t80]))
def ir_room_Good:Fn':=(T zcm).getD noF
theorem tb_room_Good:T zcm = some ir_room_Good:=by kernel_rfl
theorem eq_room_Good (G:Sem') (t0:V):execK G ir_room_Good.rv ir_room_Good.body [] [] (params 0 [t0]) = f_room_Good G t0:=by kernel_rfl
def zqU (G:Sem'):List V → M V
 | [t0]=>fin (f_room_Good G t0)
 | _=>M.fail
theorem zCn {g:Sem'} (hg:Sims g (sem T)) (args:List V):Sim (zqU g args) (sem T zcm args):=by
 unfold zqU;split
 ·exact zae tb_room_Good (Nat.le_of_ble_eq_true (by kernel_rfl)) hg (eq_room_Good g _)
 ·exact zaa
def znh (G:Sem') (t0:V):M Res :=
 (M.lift (Ax.minmax true t0 [(V.int .i64 0)])).bind fun t4 =>
 (M.lift (Ax.minmax false t4 [(V.int .i64 100)])).bind fun t5 =>
 (mmkslice zfH 8 [(V.int .i64 0)] t5 t5).bind fun t6 =>
 (M.lift (Ax.build [V.nils] [(0,1,t6)])).bind fun t7 =>
 (mbox zk8 t7).bind fun t8 =>
 M.pure (.ret [t8])
def zh7:Fn':=(T zdz).getD noF
theorem zsv:T zdz = some zh7:=by kernel_rfl
theorem ztp (G:Sem') (t0:V):execK G zh7.rv zh7.body [] [] (params 0 [t0]) = znh G t0:=by kernel_rfl
def zjv (G:Sem'):List V → M V
 | [t0]=>fin (znh G t0)
 | _=>M.fail
theorem zuy {g:Sem'} (hg:Sims g (sem T)) (args:List V):Sim (zjv g args) (sem T zdz args):=by
 unfold zjv;split
 ·exact zae zsv (Nat.le_of_ble_eq_true (by kernel_rfl)) hg (ztp g _)
 ·exact zaa
def zkl (G:Sem') (t0:V):M Res :=
 (M.lift (Ax.minmax true t0 [(V.int .i64 1)])).bind fun t4 =>
 (M.lift (Ax.minmax false t4 [(V.int .i64 1000)])).bind fun t5 =>
 (M.lift (Ax.build [(V.int .i64 0),V.nils] [(0,1,t5)])).bind fun t6 =>
 (mbox ziX t6).bind fun t7 =>
 M.pure (.ret [t7])
def zgn:Fn':=(T zcG).getD noF
theorem zpn:T zcG = some zgn:=by kernel_rfl
theorem zpE (G:Sem') (t0:V):execK G zgn.rv zgn.body [] [] (params 0 [t0]) = zkl G t0:=by kernel_rfl
def zgY (G:Sem'):List V → M V
 | [t0]=>fin (zkl G t0)
 | _=>M.fail
theorem zp6 {g:Sem'} (hg:Sims g (sem T)) (args:List V):Sim (zgY g args) (sem T zcG args):=by
 unfold zgY;split
 ·exact zae zpn (Nat.le_of_ble_eq_true (by kernel_rfl)) hg (zpE g _)
 ·exact zaa
def f_desk_addr (G:Sem') (t0:V):M Res :=
 (M.lift (Ax.bin .geq t0 (V.int .i64 0))).bind fun t4 =>
 (guarded [(0,t4)] (some (0,true)) (M.pure t0)).bind fun t6 =>
 (guarded [(0,t4)] (some (0,true)) (M.lift (Ax.bin .leq t6 (V.int .i64 63)))).bind fun t7 =>
 (M.lift (Ax.pick t4 t7 (V.bool false))).bind fun t8 =>
 M.pure (.ret [t8])
def ir_desk_addr:Fn':=(T zcJ).getD noF
theorem tb_desk_addr:T zcJ = some ir_desk_addr:=by kernel_rfl
theorem eq_desk_addr (G:Sem') (t0:V):execK G ir_desk_addr.rv ir_desk_addr.body [] [] (params 0 [t0]) = f_desk_addr G t0:=by kernel_rfl
def zqZ (G:Sem'):List V → M V
 | [t0]=>fin (f_desk_addr G t0)
 | _=>M.fail
theorem zCs {g:Sem'} (hg:Sims g (sem T)) (args:List V):Sim (zqZ g args) (sem T zcJ args):=by
 unfold zqZ;split
 ·exact zae tb_desk_addr (Nat.le_of_ble_eq_true (by kernel_rfl)) hg (eq_desk_addr g _)
 ·exact zaa
def zjU (G:Sem') (t0 t1 t2:V):M Res :=
 (M.lift (vlen t2)).bind fun t12 =>
 (M.lift (Ax.bin .gtr t12 (V.int .i64 1200))).bind fun t13 =>
 M.ite t13
 ((M.lift (Ax.nilck t0)).bind fun t15 =>
 (M.lift (Ax.faddr 1534 t15)).bind fun t16 =>
 (mload none t16).bind fun t17 =>
 (G zax [t17,(V.int .i64 1)]).bind fun t18 =>
 M.pure (.ret []))
 ((G zbb [t0,t1]).bind fun t22 =>
 (M.lift (Ax.ext 0 t22)).bind fun t23 =>
 (M.lift (Ax.ext 1 t22)).bind fun t24 =>
 (M.lift (Ax.ext 2 t22)).bind fun t25 =>
 (M.lift (Ax.un .not t25)).bind fun t27 =>
 M.ite t27
 ((M.lift (Ax.nilck t0)).bind fun t29 =>
 (M.lift (Ax.faddr 1534 t29)).bind fun t30 =>
 (mload none t30).bind fun t31 =>
 (G zax [t31,(V.int .i64 2)]).bind fun t32 =>
 M.pure (.ret []))
 ((G zbd [t0,t23,t1]).bind fun t36 =>
 (G zit [t2]).bind fun t38 =>
 M.ite t38
 ((G zcH [t0,t23,t24,t2]).bind fun t43 =>
 M.pure (.ret []))
 ((G zcT [t23,t24,t2]).bind fun t48 =>
 (M.lift (Ax.ext 0 t48)).bind fun t49 =>
 (M.lift (Ax.ext 1 t48)).bind fun t50 =>
 (mbox zk9 (V.agg [(V.bool false),(V.int .i64 0),(V.int .u16 0),(V.int .u32 0),(V.int .u32 0),V.nils,(V.int .i64 0),V.nils,(V.int .i64 0),V.nils,(V.int .i64 0),(V.int .i64 0),(V.bool false),(V.bool false),(V.int .i64 0),(V.int .u16 0),(V.bool false),(V.int .i64 0),(V.int .i64 0),V.nils,(V.int .i64 0),V.nils,V.nils,(V.bool false),(V.int .u32 0),(V.bool false),(V.bool false),(V.bool false),V.nils,V.nils,V.nils])).bind fun t9 =>
 (mstore 31 t9 t49).bind fun _ =>
 (M.lift (Ax.bin .neq t50 (V.int .i64 0))).bind fun t52 =>
 M.ite t52
 ((M.lift (Ax.nilck t0)).bind fun t54 =>
 (M.lift (Ax.faddr 1534 t54)).bind fun t55 =>
 (mload none t55).bind fun t56 =>
 (G zax [t56,t50]).bind fun t58 =>
 M.pure (.ret []))
 ((mload (some 31) t9).bind fun t62 =>
 (G zdd [t0,t23,t24,t62]).bind fun t63 =>
 M.pure (.ret [])))))
def zfL:Fn':=(T zb2).getD noF
theorem znP:T zb2 = some zfL:=by kernel_rfl
theorem zoL (G:Sem') (t0 t1 t2:V):execK G zfL.rv zfL.body [] [] (params 0 [t0,t1,t2]) = zjU G t0 t1 t2:=by kernel_rfl
def zgw (G:Sem'):List V → M V
 | [t0,t1,t2]=>fin (zjU G t0 t1 t2)
 | _=>M.fail
theorem zpw {g:Sem'} (hg:Sims g (sem T)) (args:List V):Sim (zgw g args) (sem T zb2 args):=by
 unfold zgw;split
 ·exact zae znP (Nat.le_of_ble_eq_true (by kernel_rfl)) hg (zoL g _ _ _)
 ·exact zaa
def f_desk_Desk_note (G:Sem') (t0 t1 t2:V):M Res :=
 (G zcw [t2]).bind fun t13 =>
 (M.lift (Ax.ext 0 t13)).bind fun t14 =>
 (M.lift (Ax.ext 1 t13)).bind fun t15 =>
 (mbox zaf (V.agg [(V.int .i64 0),(V.int .i64 0),(V.int .i64 0),(V.int .i64 0),(V.int .i64 0),(V.int .i64 0),V.nils])).bind fun t6 =>
 (mstore 7 t6 t14).bind fun _ =>
 (M.lift (Ax.bin .eql t15 (V.int .i64 0))).bind fun t17 =>
 (guarded [(0,t17)] (some (0,true)) (M.lift (Ax.faddr 0 t6))).bind fun t19 =>
 (guarded [(0,t17)] (some (0,true)) (mload none t19)).bind fun t20 =>
 (guarded [(0,t17)] (some (0,true)) (M.lift (Ax.bin .gtr t20 (V.int .i64 9)))).bind fun t21 =>
 (M.lift (Ax.pick t17 t21 (V.bool false))).bind fun t22 =>
 M.join (M.ite t22
 (M.pure (.nrm [(V.int .i64 1)]))
 (M.pure (.nrm [t15]))) fun L0 =>
 (M.lift (Ax.bin .neq (L0.getD 0 .undef) (V.int .i64 0))).bind fun t24 =>
 M.ite t24
 ((G zbz [t0,t1,(L0.getD 0 .undef),(V.int .i64 0)]).bind fun t28 =>
 M.pure (.ret []))
 ((G zbb [t0,t1]).bind fun t32 =>
 (M.lift (Ax.ext 0 t32)).bind fun t33 =>
 (M.lift (Ax.ext 1 t32)).bind fun t34 =>
 (M.lift (Ax.ext 2 t32)).bind fun t35 =>
 M.join (M.ite t35
 ((G zbd [t0,t33,t1]).bind fun t40 =>
 M.pure (.nrm []))
 (M.pure (.nrm []))) fun _ =>
 M.blk 0 (
 (M.lift (Ax.faddr 0 t6)).bind fun t47 =>
 (mload none t47).bind fun t48 =>
 (M.lift (Ax.bin .eql t48 (V.int .i64 1))).bind fun t49 =>
 (guarded [(0,t49)] (some (0,true)) (M.pure t35)).bind fun t51 =>
 (M.lift (Ax.pick t49 t51 (V.bool false))).bind fun t52 =>
 M.join (M.ite t52
 (M.pure (.nrm [(V.int .i64 7)]))
 ((M.lift (Ax.faddr 0 t6)).bind fun t54 =>
 (mload none t54).bind fun t55 =>
 (M.lift (Ax.bin .eql t55 (V.int .i64 1))).bind fun t56 =>
 M.join (M.ite t56
 ((mload (some 7) t6).bind fun t59 =>
 (G zcX [t0,t1,t59]).bind fun t60 =>
 M.pure (.nrm [t60]))
 ((M.lift (Ax.un .not t35)).bind fun t63 =>
 M.join (M.ite t63
 (M.pure (.nrm [(V.int .i64 6)]))
 ((mload (some 7) t6).bind fun t44 =>
 (G zby [t0,t33,t34,t44]).bind fun t45 =>
 M.pure (.nrm [t45]))) fun L2 =>
 M.pure (.nrm [(L2.getD 0 .undef)]))) fun L3 =>
 M.pure (.nrm [(L3.getD 0 .undef)]))) fun L4 =>
 M.pure (.nrm [(L4.getD 0 .undef)])) fun L5 =>
 (M.lift (Ax.bin .neq (L5.getD 0 .undef) (V.int .i64 0))).bind fun t65 =>
 M.join (M.ite t65
 ((M.lift (Ax.faddr 0 t6)).bind fun t69 =>
 (mload none t69).bind fun t70 =>
 (G zbz [t0,t1,(L5.getD 0 .undef),t70]).bind fun t71 =>
 M.pure (.nrm []))
 (M.pure (.nrm []))) fun _ =>
 M.pure (.ret []))
def ir_desk_Desk_note:Fn':=(T zbn).getD noF
theorem tb_desk_Desk_note:T zbn = some ir_desk_Desk_note:=by kernel_rfl
theorem eq_desk_Desk_note (G:Sem') (t0 t1 t2:V):execK G ir_desk_Desk_note.rv ir_desk_Desk_note.body [] [] (params 0 [t0,t1,t2]) = f_desk_Desk_note G t0 t1 t2:=by kernel_rfl
def zjI (G:Sem'):List V → M V
 | [t0,t1,t2]=>fin (f_desk_Desk_note G t0 t1 t2)
 | _=>M.fail
theorem zuL {g:Sem'} (hg:Sims g (sem T)) (args:List V):Sim (zjI g args) (sem T zbn args):=by
 unfold zjI;split
 ·exact zae tb_desk_Desk_note (Nat.le_of_ble_eq_true (by kernel_rfl)) hg (eq_desk_Desk_note g _ _ _)
 ·exact zaa
end Go.Ax.Cc
/- CiS2 -/
namespace Go.Ax.Cc
open Go.Proofs
def zr0 (G:Sem') (t0:V) (L:List V):M Res :=
 (M.lift (Ax.bin .lss (L.getD 0 .undef) (V.int .i64 4))).bind fun t16 =>
 M.ite t16
 (M.blk 1 (
 (M.lift (Ax.nilck t0)).bind fun t20 =>
 (M.lift (Ax.faddr 0 t20)).bind fun t21 =>
 (M.lift (Ax.iaddr (some 4) 367 t21 (L.getD 0 .undef))).bind fun t22 =>
 (M.lift (Ax.nilck t22)).bind fun t24 =>
 (M.lift (Ax.faddr 0 t24)).bind fun t25 =>
 (mload (some 39) t25).bind fun t26 =>
 (mbox zaE (V.agg [(V.bool false),(V.bool false),(V.bool false),(V.bool false),(V.bool false),(V.bool false),(V.bool false),(V.bool false),(V.int .i64 0),(V.int .i64 0),(V.int .i64 0),(V.int .i64 0),(V.int .i64 0),(V.int .i64 0),(V.int .i64 0),(V.int .i64 0),(V.int .i64 0),(V.bool false),(V.int .i64 0),(V.int .i64 0),(V.int .i64 0),(V.int .i64 0),(V.int .i64 0),(V.int .i64 0),(V.int .i64 0),(V.int .i64 0),(V.int .i64 0),(V.int .i64 0),(V.int .i64 0),(V.int .i64 0),(V.int .i64 0),(V.int .i64 0),(V.int .i64 0),(V.int .i64 0),(V.int .i64 0),(V.int .i64 0),(V.int .i64 0),(V.int .i64 0),(V.bool false)])).bind fun t6 =>
 (mstore 39 t6 t26).bind fun _ =>
 (M.lift (Ax.nilck t22)).bind fun t30 =>
 (M.lift (Ax.faddr 0 t30)).bind fun t31 =>
 (mload (some 39) t31).bind fun t32 =>
 (M.lift (Ax.nilck t0)).bind fun t34 =>
 (M.lift (Ax.faddr 1468 t34)).bind fun t35 =>
 (mload none t35).bind fun t36 =>
 (G zhd [t32,t36]).bind fun t37 =>
 (M.lift (Ax.ext 0 t37)).bind fun t38 =>
 (M.lift (Ax.nilck t22)).bind fun t40 =>
 (M.lift (Ax.faddr 0 t40)).bind fun t41 =>
 (mstore 39 t41 t38).bind fun _ =>
 (M.lift (Ax.ext 1 t37)).bind fun t39 =>
 (mload (some 39) t6).bind fun t44 =>
 (G zbP [t0,t22,t44]).bind fun t45 =>
 M.pure (.nrm [])) fun _ =>
 (M.lift (Ax.bin .add (L.getD 0 .undef) (V.int .i64 1))).bind fun t46 =>
 M.pure (.nrm [t46]))
 (M.pure (.ex 0 []))
def znq (G:Sem') (t0 t1:V):M Res :=
 (M.lift (Ax.nilck t0)).bind fun t8 =>
 (M.lift (Ax.faddr 1468 t8)).bind fun t9 =>
 (mload none t9).bind fun t10 =>
 (M.lift (Ax.bin .add t10 t1)).bind fun t12 =>
 (M.lift (Ax.nilck t0)).bind fun t13 =>
 (M.lift (Ax.faddr 1468 t13)).bind fun t14 =>
 (mstore 1 t14 t12).bind fun _ =>
 M.blk 0 (
 M.iter (zr0 G t0) [(V.int .i64 0)]) fun _ =>
 M.pure (.ret [])
def zig:Fn':=(T zcV).getD noF
theorem zsE:T zcV = some zig:=by kernel_rfl
theorem zty (G:Sem') (t0 t1:V):execK G zig.rv zig.body [] [] (params 0 [t0,t1]) = znq G t0 t1:=by kernel_rfl
def zjE (G:Sem'):List V → M V
 | [t0,t1]=>fin (znq G t0 t1)
 | _=>M.fail
theorem zuH {g:Sem'} (hg:Sims g (sem T)) (args:List V):Sim (zjE g args) (sem T zcV args):=by
 unfold zjE;split
 ·exact zae zsE (Nat.le_of_ble_eq_true (by kernel_rfl)) hg (zty g _ _)
 ·exact zaa
def f_desk_Desk_taken_0 (G:Sem') (t10 t0 t1 t6:V) (L:List V):M Res :=
 (M.lift (Ax.bin .lss (L.getD 1 .undef) t10)).bind fun t12 =>
 M.ite t12
 (M.blk 1 (
 (M.lift (Ax.nilck t0)).bind fun t16 =>
 (M.lift (Ax.faddr 1470 t16)).bind fun t17 =>
 (M.lift (Ax.iaddr (some 64) 1 t17 t1)).bind fun t18 =>
 (mload none t18).bind fun t19 =>
 (G zaB [t19]).bind fun t20 =>
 (M.lift (Ax.ext 0 t20)).bind fun t21 =>
 (M.lift (Ax.ext 1 t20)).bind fun t22 =>
 (mbox zbF (V.agg [(V.int .i64 0),(V.int .i64 0),V.nils])).bind fun t8 =>
 (mstore 3 t8 t21).bind fun _ =>
 (M.lift (Ax.un .not t22)).bind fun t24 =>
 M.ite t24
 (M.pure (.ex 0 [(L.getD 0 .undef)]))
 ((mload (some 3) t8).bind fun t26 =>
 (mslit zbF 1 [(V.int .i64 0),(V.int .i64 0),V.nils] [(0,3,t26)]).bind fun t27 =>
 (mappend zbF 3 40 (L.getD 0 .undef) t27).bind fun t28 =>
 M.pure (.nrm [t28]))) fun L0 =>
 (M.lift (Ax.bin .add (L.getD 1 .undef) (V.int .i64 1))).bind fun t29 =>
 M.pure (.nrm [(L0.getD 0 .undef),t29]))
 (M.pure (.ex 0 [(L.getD 0 .undef)]))
def f_desk_Desk_taken (G:Sem') (t0 t1 t2:V):M Res :=
 M.blk 0 (
 M.iter (f_desk_Desk_taken_0 G t2 t0 t1 V.nils) [V.nils,(V.int .i64 0)]) fun L1 =>
 M.pure (.ret [(L1.getD 0 .undef)])
def ir_desk_Desk_taken:Fn':=(T zbc).getD noF
theorem tb_desk_Desk_taken:T zbc = some ir_desk_Desk_taken:=by kernel_rfl
theorem eq_desk_Desk_taken (G:Sem') (t0 t1 t2:V):execK G ir_desk_Desk_taken.rv ir_desk_Desk_taken.body [] [] (params 0 [t0,t1,t2]) = f_desk_Desk_taken G t0 t1 t2:=by kernel_rfl
def ziJ (G:Sem'):List V → M V
 | [t0,t1,t2]=>fin (f_desk_Desk_taken G t0 t1 t2)
 | _=>M.fail
theorem zsX {g:Sem'} (hg:Sims g (sem T)) (args:List V):Sim (ziJ g args) (sem T zbc args):=by
 unfold ziJ;split
 ·exact zae tb_desk_Desk_taken (Nat.le_of_ble_eq_true (by kernel_rfl)) hg (eq_desk_Desk_taken g _ _ _)
 ·exact zaa
def zni (G:Sem') (t0 t1:V):M Res :=
 (M.lift (Ax.bin .lss t1 (V.int .i64 0))).bind fun t6 =>
 (guarded [(0,t6)] (some (0,false)) (M.pure t1)).bind fun t8 =>
 (guarded [(0,t6)] (some (0,false)) (M.pure t0)).bind fun t9 =>
 (guarded [(0,t6)] (some (0,false)) (M.lift (Ax.nilck t9))).bind fun t10 =>
 (guarded [(0,t6)] (some (0,false)) (M.lift (Ax.faddr 0 t10))).bind fun t11 =>
 (guarded [(0,t6)] (some (0,false)) (mload none t11)).bind fun t12 =>
 (guarded [(0,t6)] (some (0,false)) (M.lift (vlen t12))).bind fun t13 =>
 (guarded [(0,t6)] (some (0,false)) (M.lift (Ax.bin .geq t8 t13))).bind fun t14 =>
 (M.lift (Ax.pick t6 (V.bool true) t14)).bind fun t15 =>
 M.ite t15
 (M.pure (.ret [(V.int .i64 0)]))
 ((M.lift (Ax.nilck t0)).bind fun t17 =>
 (M.lift (Ax.faddr 0 t17)).bind fun t18 =>
 (mload none t18).bind fun t19 =>
 (M.lift (Ax.iaddr none 1 t19 t1)).bind fun t21 =>
 (G zbM [t21]).bind fun t22 =>
 M.pure (.ret [t22]))
def zh8:Fn':=(T zdA).getD noF
theorem zsw:T zdA = some zh8:=by kernel_rfl
theorem ztq (G:Sem') (t0 t1:V):execK G zh8.rv zh8.body [] [] (params 0 [t0,t1]) = zni G t0 t1:=by kernel_rfl
def zjw (G:Sem'):List V → M V
 | [t0,t1]=>fin (zni G t0 t1)
 | _=>M.fail
theorem zuz {g:Sem'} (hg:Sims g (sem T)) (args:List V):Sim (zjw g args) (sem T zdA args):=by
 unfold zjw;split
 ·exact zae zsw (Nat.le_of_ble_eq_true (by kernel_rfl)) hg (ztq g _ _)
 ·exact zaa
def zhm (G:Sem') (t0:V):M Res :=
 (M.lift (Ax.nilck t0)).bind fun t4 =>
 (M.lift (Ax.faddr 1 t4)).bind fun t5 =>
 (mload none t5).bind fun t6 =>
 (M.lift (vlen t6)).bind fun t7 =>
 M.pure (.ret [t7])
def zeh:Fn':=(T zbN).getD noF
theorem zlc:T zbN = some zeh:=by kernel_rfl
theorem zlB (G:Sem') (t0:V):execK G zeh.rv zeh.body [] [] (params 0 [t0]) = zhm G t0:=by kernel_rfl
def zeG (G:Sem'):List V → M V
 | [t0]=>fin (zhm G t0)
 | _=>M.fail
theorem zlS {g:Sem'} (hg:Sims g (sem T)) (args:List V):Sim (zeG g args) (sem T zbN args):=by
 unfold zeG;split
 ·exact zae zlc (Nat.le_of_ble_eq_true (by kernel_rfl)) hg (zlB g _)
 ·exact zaa
def f_palanquinref16_two (G:Sem') (t0 t1:V):M Res :=
 (M.lift (Ax.iaddr none 1 t0 t1)).bind fun t7 =>
 (mload none t7).bind fun t8 =>
 (M.lift (Ax.cint .i64 t8)).bind fun t9 =>
 (M.lift (Ax.bin .shl t9 (V.int .u64 8))).bind fun t10 =>
 (M.lift (Ax.bin .add t1 (V.int .i64 1))).bind fun t13 =>
 (M.lift (Ax.iaddr none 1 t0 t13)).bind fun t14 =>
 (mload none t14).bind fun t15 =>
 (M.lift (Ax.cint .i64 t15)).bind fun t16 =>
 (M.lift (Ax.bin .or t10 t16)).bind fun t17 =>
 M.pure (.ret [t17])
def ir_palanquinref16_two:Fn':=(T zai).getD noF
theorem tb_palanquinref16_two:T zai = some ir_palanquinref16_two:=by kernel_rfl
theorem eq_palanquinref16_two (G:Sem') (t0 t1:V):execK G ir_palanquinref16_two.rv ir_palanquinref16_two.body [] [] (params 0 [t0,t1]) = f_palanquinref16_two G t0 t1:=by kernel_rfl
def zgt (G:Sem'):List V → M V
 | [t0,t1]=>fin (f_palanquinref16_two G t0 t1)
 | _=>M.fail
theorem zpt {g:Sem'} (hg:Sims g (sem T)) (args:List V):Sim (zgt g args) (sem T zai args):=by
 unfold zgt;split
 ·exact zae tb_palanquinref16_two (Nat.le_of_ble_eq_true (by kernel_rfl)) hg (eq_palanquinref16_two g _ _)
 ·exact zaa
def f_palanquinref16_Good (G:Sem') (t0:V):M Res :=
 (mbox zac t0).bind fun t1 =>
 (M.lift (Ax.faddr 0 t1)).bind fun t5 =>
 (mload none t5).bind fun t6 =>
 (G zaC [t6]).bind fun t7 =>
 (M.lift (Ax.bin .eql t7 (V.str ⟨#[]⟩))).bind fun t9 =>
 (guarded [(0,t9)] (some (0,false)) (M.lift (Ax.faddr 1 t1))).bind fun t11 =>
 (guarded [(0,t9)] (some (0,false)) (mload none t11)).bind fun t12 =>
 (guarded [(0,t9)] (some (0,false)) (G zah [t12,(V.int .i64 0),(V.int .i64 3)])).bind fun t13 =>
 (guarded [(0,t9)] (some (0,false)) (M.lift (Ax.un .not t13))).bind fun t14 =>
 (M.lift (Ax.pick t9 (V.bool true) t14)).bind fun t15 =>
 (guarded [(0,t15)] (some (0,false)) (M.lift (Ax.faddr 2 t1))).bind fun t17 =>
 (guarded [(0,t15)] (some (0,false)) (mload none t17)).bind fun t18 =>
 (guarded [(0,t15)] (some (0,false)) (G zah [t18,(V.int .i64 0),(V.int .i64 7)])).bind fun t19 =>
 (guarded [(0,t15)] (some (0,false)) (M.lift (Ax.un .not t19))).bind fun t20 =>
 (M.lift (Ax.pick t15 (V.bool true) t20)).bind fun t21 =>
 (guarded [(0,t21)] (some (0,false)) (M.lift (Ax.faddr 3 t1))).bind fun t23 =>
 (guarded [(0,t21)] (some (0,false)) (mload none t23)).bind fun t24 =>
 (guarded [(0,t21)] (some (0,false)) (G zah [t24,(V.int .i64 0),(V.int .i64 65535)])).bind fun t25 =>
 (guarded [(0,t21)] (some (0,false)) (M.lift (Ax.un .not t25))).bind fun t26 =>
 (M.lift (Ax.pick t21 (V.bool true) t26)).bind fun t27 =>
 (guarded [(0,t27)] (some (0,false)) (M.lift (Ax.faddr 4 t1))).bind fun t29 =>
 (guarded [(0,t27)] (some (0,false)) (mload none t29)).bind fun t30 =>
 (guarded [(0,t27)] (some (0,false)) (G zah [t30,(V.int .i64 0),(V.int .i64 65535)])).bind fun t31 =>
 (guarded [(0,t27)] (some (0,false)) (M.lift (Ax.un .not t31))).bind fun t32 =>
 (M.lift (Ax.pick t27 (V.bool true) t32)).bind fun t33 =>
 (guarded [(0,t33)] (some (0,false)) (M.lift (Ax.faddr 5 t1))).bind fun t35 =>
 (guarded [(0,t33)] (some (0,false)) (mload none t35)).bind fun t36 =>
 (guarded [(0,t33)] (some (0,false)) (G zah [t36,(V.int .i64 0),(V.int .i64 65535)])).bind fun t37 =>
 (guarded [(0,t33)] (some (0,false)) (M.lift (Ax.un .not t37))).bind fun t38 =>
 (M.lift (Ax.pick t33 (V.bool true) t38)).bind fun t39 =>
 (guarded [(0,t39)] (some (0,false)) (M.lift (Ax.faddr 6 t1))).bind fun t41 =>
 (guarded [(0,t39)] (some (0,false)) (mload none t41)).bind fun t42 =>
 (guarded [(0,t39)] (some (0,false)) (M.lift (vlen t42))).bind fun t43 =>
 (guarded [(0,t39)] (some (0,false)) (M.lift (Ax.bin .gtr t43 (V.int .i64 200)))).bind fun t44 =>
 (M.lift (Ax.pick t39 (V.bool true) t44)).bind fun t45 =>
 M.ite t45
 (M.pure (.ret [(V.bool false)]))
 ((G zag [t7,(V.int .u8 114)]).bind fun t47 =>
 (M.lift (Ax.un .not t47)).bind fun t48 =>
 (guarded [(0,t48)] (some (0,true)) (M.lift (Ax.faddr 1 t1))).bind fun t50 =>
 (guarded [(0,t48)] (some (0,true)) (mload none t50)).bind fun t51 =>
 (guarded [(0,t48)] (some (0,true)) (M.lift (Ax.bin .neq t51 (V.int .i64 0)))).bind fun t52 =>
 (M.lift (Ax.pick t48 t52 (V.bool false))).bind fun t53 =>
 (guarded [(0,t53)] (some (0,false)) (M.pure t7)).bind fun t55 =>
 (guarded [(0,t53)] (some (0,false)) (G zag [t55,(V.int .u8 115)])).bind fun t56 =>
 (guarded [(0,t53)] (some (0,false)) (M.lift (Ax.un .not t56))).bind fun t57 =>
 (guarded [(0,t53)] (some (0,false)) (M.pure t57)).bind fun t58 =>
 (guarded [(0,t58)] (some (0,true)) (M.lift (Ax.faddr 2 t1))).bind fun t59 =>
 (guarded [(0,t58)] (some (0,true)) (mload none t59)).bind fun t60 =>
 (guarded [(0,t58)] (some (0,true)) (M.lift (Ax.bin .neq t60 (V.int .i64 0)))).bind fun t61 =>
 (guarded [(0,t53)] (some (0,false)) (M.lift (Ax.pick t58 t61 (V.bool false)))).bind fun t62 =>
 (M.lift (Ax.pick t53 (V.bool true) t62)).bind fun t63 =>
 (guarded [(0,t63)] (some (0,false)) (M.pure t7)).bind fun t65 =>
 (guarded [(0,t63)] (some (0,false)) (G zag [t65,(V.int .u8 101)])).bind fun t66 =>
 (guarded [(0,t63)] (some (0,false)) (M.lift (Ax.un .not t66))).bind fun t67 =>
 (guarded [(0,t63)] (some (0,false)) (M.pure t67)).bind fun t68 =>
 (guarded [(0,t68)] (some (0,true)) (M.lift (Ax.faddr 3 t1))).bind fun t69 =>
 (guarded [(0,t68)] (some (0,true)) (mload none t69)).bind fun t70 =>
 (guarded [(0,t68)] (some (0,true)) (M.lift (Ax.bin .neq t70 (V.int .i64 0)))).bind fun t71 =>
 (guarded [(0,t63)] (some (0,false)) (M.lift (Ax.pick t68 t71 (V.bool false)))).bind fun t72 =>
 (M.lift (Ax.pick t63 (V.bool true) t72)).bind fun t73 =>
 (guarded [(0,t73)] (some (0,false)) (M.pure t7)).bind fun t75 =>
 (guarded [(0,t73)] (some (0,false)) (G zag [t75,(V.int .u8 110)])).bind fun t76 =>
 (guarded [(0,t73)] (some (0,false)) (M.lift (Ax.un .not t76))).bind fun t77 =>
 (guarded [(0,t73)] (some (0,false)) (M.pure t77)).bind fun t78 =>
 (guarded [(0,t78)] (some (0,true)) (M.lift (Ax.faddr 4 t1))).bind fun t79 =>
 (guarded [(0,t78)] (some (0,true)) (mload none t79)).bind fun t80 =>
 (guarded [(0,t78)] (some (0,true)) (M.lift (Ax.bin .neq t80 (V.int .i64 0)))).bind fun t81 =>
 (guarded [(0,t73)] (some (0,false)) (M.lift (Ax.pick t78 t81 (V.bool false)))).bind fun t82 =>
 (M.lift (Ax.pick t73 (V.bool true) t82)).bind fun t83 =>
 (guarded [(0,t83)] (some (0,false)) (M.pure t7)).bind fun t85 =>
 (guarded [(0,t83)] (some (0,false)) (G zag [t85,(V.int .u8 109)])).bind fun t86 =>
 (guarded [(0,t83)] (some (0,false)) (M.lift (Ax.un .not t86))).bind fun t87 =>
 (guarded [(0,t83)] (some (0,false)) (M.pure t87)).bind fun t88 =>
 (guarded [(0,t88)] (some (0,true)) (M.lift (Ax.faddr 5 t1))).bind fun t89 =>
 (guarded [(0,t88)] (some (0,true)) (mload none t89)).bind fun t90 =>
 (guarded [(0,t88)] (some (0,true)) (M.lift (Ax.bin .neq t90 (V.int .i64 0)))).bind fun t91 =>
 (guarded [(0,t83)] (some (0,false)) (M.lift (Ax.pick t88 t91 (V.bool false)))).bind fun t92 =>
 (M.lift (Ax.pick t83 (V.bool true) t92)).bind fun t93 =>
 (guarded [(0,t93)] (some (0,false)) (M.pure t7)).bind fun t95 =>
 (guarded [(0,t93)] (some (0,false)) (G zag [t95,(V.int .u8 98)])).bind fun t96 =>
 (guarded [(0,t93)] (some (0,false)) (M.lift (Ax.un .not t96))).bind fun t97 =>
 (guarded [(0,t93)] (some (0,false)) (M.pure t97)).bind fun t98 =>
 (guarded [(0,t98)] (some (0,true)) (M.lift (Ax.faddr 6 t1))).bind fun t99 =>
 (guarded [(0,t98)] (some (0,true)) (mload none t99)).bind fun t100 =>
 (guarded [(0,t98)] (some (0,true)) (M.lift (vlen t100))).bind fun t101 =>
 (guarded [(0,t98)] (some (0,true)) (M.lift (Ax.bin .gtr t101 (V.int .i64 0)))).bind fun t102 =>
 (guarded [(0,t93)] (some (0,false)) (M.lift (Ax.pick t98 t102 (V.bool false)))).bind fun t103 =>
 (M.lift (Ax.pick t93 (V.bool true) t103)).bind fun t104 =>
 M.ite t104
 (M.pure (.ret [(V.bool false)]))
 ((M.lift (Ax.faddr 4 t1)).bind fun t105 =>
 (mload none t105).bind fun t106 =>
 (M.lift (Ax.bin .lss t106 (V.int .i64 256))).bind fun t107 =>
 M.join (M.ite t107
 ((M.lift (Ax.faddr 4 t1)).bind fun t108 =>
 (mload none t108).bind fun t109 =>
 (M.lift (Ax.faddr 2 t1)).bind fun t110 =>
 (mload none t110).bind fun t111 =>
 (M.lift (Ax.cint .u64 t111)).bind fun t112 =>
 (M.lift (Ax.bin .shr t109 t112)).bind fun t113 =>
 (M.lift (Ax.bin .and t113 (V.int .i64 1))).bind fun t114 =>
 (M.lift (Ax.bin .eql t114 (V.int .i64 1))).bind fun t115 =>
 M.pure (.nrm [t115]))
 (M.pure (.nrm [(V.bool false)]))) fun L0 =>
 (M.lift (Ax.faddr 0 t1)).bind fun t116 =>
 (mload none t116).bind fun t117 =>
 M.blk 0 (
 (M.lift (Ax.bin .eql t117 (V.int .i64 4))).bind fun t119 =>
 M.ite t119
 ((M.lift (Ax.faddr 4 t1)).bind fun t120 =>
 (mload none t120).bind fun t121 =>
 (M.lift (Ax.bin .lss t121 (V.int .i64 3))).bind fun t122 =>
 (guarded [(0,t122)] (some (0,true)) (M.lift (Ax.faddr 6 t1))).bind fun t124 =>
 (guarded [(0,t122)] (some (0,true)) (mload none t124)).bind fun t125 =>
 (guarded [(0,t122)] (some (0,true)) (M.lift (vlen t125))).bind fun t126 =>
 (guarded [(0,t122)] (some (0,true)) (M.lift (Ax.bin .eql t126 (V.int .i64 4)))).bind fun t127 =>
 (M.lift (Ax.pick t122 t127 (V.bool false))).bind fun t128 =>
 M.pure (.ret [t128]))
 ((M.lift (Ax.bin .eql t117 (V.int .i64 5))).bind fun t130 =>
 M.ite t130
 ((M.lift (Ax.faddr 4 t1)).bind fun t131 =>
 (mload none t131).bind fun t132 =>
 (M.lift (Ax.bin .lss t132 (V.int .i64 4))).bind fun t133 =>
 (guarded [(0,t133)] (some (0,true)) (M.lift (Ax.faddr 5 t1))).bind fun t135 =>
 (guarded [(0,t133)] (some (0,true)) (mload none t135)).bind fun t136 =>
 (guarded [(0,t133)] (some (0,true)) (M.lift (Ax.bin .lss t136 (V.int .i64 8)))).bind fun t137 =>
 (M.lift (Ax.pick t133 t137 (V.bool false))).bind fun t138 =>
 M.pure (.ret [t138]))
 ((M.lift (Ax.bin .eql t117 (V.int .i64 7))).bind fun t140 =>
 M.join (M.ite t140
 (M.pure (.nrm [t140]))
 ((M.lift (Ax.bin .eql t117 (V.int .i64 21))).bind fun t141 =>
 M.pure (.nrm [t141]))) fun L1 =>
 M.ite (L1.getD 0 .undef)
 ((M.lift (Ax.faddr 4 t1)).bind fun t142 =>
 (mload none t142).bind fun t143 =>
 (M.lift (Ax.bin .lss t143 (V.int .i64 32))).bind fun t144 =>
 (guarded [(0,t144)] (some (0,true)) (M.lift (Ax.faddr 6 t1))).bind fun t146 =>
 (guarded [(0,t144)] (some (0,true)) (mload none t146)).bind fun t147 =>
 (guarded [(0,t144)] (some (0,true)) (M.lift (vlen t147))).bind fun t148 =>
 (guarded [(0,t144)] (some (0,true)) (M.lift (Ax.bin .gtr t148 (V.int .i64 0)))).bind fun t149 =>
 (M.lift (Ax.pick t144 t149 (V.bool false))).bind fun t150 =>
 M.pure (.ret [t150]))
 ((M.lift (Ax.bin .eql t117 (V.int .i64 17))).bind fun t152 =>
 M.ite t152
 ((M.lift (Ax.faddr 4 t1)).bind fun t153 =>
 (mload none t153).bind fun t154 =>
 (M.lift (Ax.bin .lss t154 (V.int .i64 256))).bind fun t155 =>
 (guarded [(0,t155)] (some (0,true)) (M.pure (L0.getD 0 .undef))).bind fun t157 =>
 (M.lift (Ax.pick t155 t157 (V.bool false))).bind fun t158 =>
 (guarded [(0,t158)] (some (0,true)) (M.lift (Ax.faddr 5 t1))).bind fun t160 =>
 (guarded [(0,t158)] (some (0,true)) (mload none t160)).bind fun t161 =>
 (guarded [(0,t158)] (some (0,true)) (M.lift (Ax.faddr 3 t1))).bind fun t162 =>
 (guarded [(0,t158)] (some (0,true)) (mload none t162)).bind fun t163 =>
 (guarded [(0,t158)] (some (0,true)) (M.lift (Ax.bin .geq t161 t163))).bind fun t164 =>
 (M.lift (Ax.pick t158 t164 (V.bool false))).bind fun t165 =>
 (guarded [(0,t165)] (some (0,true)) (mload (some 7) t1)).bind fun t167 =>
 (guarded [(0,t165)] (some (0,true)) (G zbI [t167])).bind fun t168 =>
 (M.lift (Ax.pick t165 t168 (V.bool false))).bind fun t169 =>
 M.pure (.ret [t169]))
 ((M.lift (Ax.bin .eql t117 (V.int .i64 18))).bind fun t171 =>
 M.ite t171
 ((M.lift (Ax.faddr 4 t1)).bind fun t172 =>
 (mload none t172).bind fun t173 =>
 (G zah [t173,(V.int .i64 1),(V.int .i64 13)]).bind fun t174 =>
 (guarded [(0,t174)] (some (0,true)) (M.lift (Ax.faddr 5 t1))).bind fun t176 =>
 (guarded [(0,t174)] (some (0,true)) (mload none t176)).bind fun t177 =>
 (guarded [(0,t174)] (some (0,true)) (M.lift (Ax.bin .leq t177 (V.int .i64 9)))).bind fun t178 =>
 (M.lift (Ax.pick t174 t178 (V.bool false))).bind fun t179 =>
 M.pure (.ret [t179]))
 ((M.lift (Ax.bin .eql t117 (V.int .i64 19))).bind fun t181 =>
 M.ite t181
 ((M.lift (Ax.faddr 4 t1)).bind fun t182 =>
 (mload none t182).bind fun t183 =>
 (M.lift (Ax.bin .lss t183 (V.int .i64 256))).bind fun t184 =>
 (guarded [(0,t184)] (some (0,true)) (M.pure (L0.getD 0 .undef))).bind fun t186 =>
 (M.lift (Ax.pick t184 t186 (V.bool false))).bind fun t187 =>
 (guarded [(0,t187)] (some (0,true)) (M.lift (Ax.faddr 5 t1))).bind fun t189 =>
 (guarded [(0,t187)] (some (0,true)) (mload none t189)).bind fun t190 =>
 (guarded [(0,t187)] (some (0,true)) (M.lift (Ax.bin .leq t190 (V.int .i64 63)))).bind fun t191 =>
 (M.lift (Ax.pick t187 t191 (V.bool false))).bind fun t192 =>
 M.pure (.ret [t192]))
 ((M.lift (Ax.bin .eql t117 (V.int .i64 20))).bind fun t194 =>
 M.ite t194
 ((M.lift (Ax.faddr 4 t1)).bind fun t195 =>
 (mload none t195).bind fun t196 =>
 (M.lift (Ax.bin .lss t196 (V.int .i64 256))).bind fun t197 =>
 (guarded [(0,t197)] (some (0,true)) (M.pure (L0.getD 0 .undef))).bind fun t199 =>
 (guarded [(0,t197)] (some (0,true)) (M.lift (Ax.un .not t199))).bind fun t200 =>
 (M.lift (Ax.pick t197 t200 (V.bool false))).bind fun t201 =>
 M.pure (.ret [t201]))
 ((M.lift (Ax.bin .eql t117 (V.int .i64 24))).bind fun t203 =>
 M.ite t203
 ((M.lift (Ax.faddr 6 t1)).bind fun t204 =>
 (mload none t204).bind fun t205 =>
 (M.lift (vlen t205)).bind fun t206 =>
 (M.lift (Ax.bin .eql t206 (V.int .i64 4))).bind fun t207 =>
 M.pure (.ret [t207]))
 (M.pure (.nrm [])))))))))) fun _ =>
 M.pure (.ret [(V.bool true)])))
def ir_palanquinref16_Good:Fn':=(T zam).getD noF
theorem tb_palanquinref16_Good:T zam = some ir_palanquinref16_Good:=by kernel_rfl
theorem eq_palanquinref16_Good (G:Sem') (t0:V):execK G ir_palanquinref16_Good.rv ir_palanquinref16_Good.body [] [] (params 0 [t0]) = f_palanquinref16_Good G t0:=by kernel_rfl
def zfU (G:Sem'):List V → M V
 | [t0]=>fin (f_palanquinref16_Good G t0)
 | _=>M.fail
theorem znT {g:Sem'} (hg:Sims g (sem T)) (args:List V):Sim (zfU g args) (sem T zam args):=by
 unfold zfU;split
 ·exact zae tb_palanquinref16_Good (Nat.le_of_ble_eq_true (by kernel_rfl)) hg (eq_palanquinref16_Good g _)
 ·exact zaa
def f_palanquinref16_Bytes (G:Sem') (t0:V):M Res :=
 (mbox zac t0).bind fun t1 =>
 (mload (some 7) t1).bind fun t5 =>
 (G zam [t5]).bind fun t6 =>
 (M.lift (Ax.un .not t6)).bind fun t7 =>
 M.ite t7
 (M.pure (.ret [V.nils,(V.int .i64 1)]))
 ((M.lift (Ax.faddr 0 t1)).bind fun t8 =>
 (mload none t8).bind fun t9 =>
 (M.lift (Ax.cint .u8 t9)).bind fun t10 =>
 (M.lift (Ax.faddr 1 t1)).bind fun t11 =>
 (mload none t11).bind fun t12 =>
 (M.lift (Ax.cint .u8 t12)).bind fun t13 =>
 (M.lift (Ax.faddr 2 t1)).bind fun t14 =>
 (mload none t14).bind fun t15 =>
 (M.lift (Ax.cint .u8 t15)).bind fun t16 =>
 (mslit zaj 3 [(V.int .u8 0)] [(0,1,t10),(1,1,t13),(2,1,t16)]).bind fun t17 =>
 (M.lift (Ax.faddr 3 t1)).bind fun t19 =>
 (mload none t19).bind fun t20 =>
 (M.lift (Ax.cint .u64 t20)).bind fun t21 =>
 (G zaF [t17,t21,(V.int .i64 2)]).bind fun t22 =>
 (M.lift (Ax.faddr 4 t1)).bind fun t24 =>
 (mload none t24).bind fun t25 =>
 (M.lift (Ax.cint .u64 t25)).bind fun t26 =>
 (G zaF [t22,t26,(V.int .i64 2)]).bind fun t27 =>
 (M.lift (Ax.faddr 5 t1)).bind fun t29 =>
 (mload none t29).bind fun t30 =>
 (M.lift (Ax.cint .u64 t30)).bind fun t31 =>
 (G zaF [t27,t31,(V.int .i64 2)]).bind fun t32 =>
 (M.lift (Ax.faddr 6 t1)).bind fun t34 =>
 (mload none t34).bind fun t35 =>
 (M.lift (vlen t35)).bind fun t36 =>
 (M.lift (Ax.cint .u64 t36)).bind fun t37 =>
 (M.lift (Ax.faddr 6 t1)).bind fun t39 =>
 (mload none t39).bind fun t40 =>
 M.getH.bind fun h0 =>
 (G zaF [t32,t37,(V.int .i64 2)]).bind fun t38 =>
 M.getH.bind fun h0' =>
 (M.unch t39 h0 h0').bind fun _ =>
 (mappend zaj 1 1 t38 t40).bind fun t41 =>
 M.pure (.ret [t41,(V.int .i64 0)]))
def ir_palanquinref16_Bytes:Fn':=(T zaS).getD noF
theorem tb_palanquinref16_Bytes:T zaS = some ir_palanquinref16_Bytes:=by kernel_rfl
theorem eq_palanquinref16_Bytes (G:Sem') (t0:V):execK G ir_palanquinref16_Bytes.rv ir_palanquinref16_Bytes.body [] [] (params 0 [t0]) = f_palanquinref16_Bytes G t0:=by kernel_rfl
def zfy (G:Sem'):List V → M V
 | [t0]=>fin (f_palanquinref16_Bytes G t0)
 | _=>M.fail
theorem znE {g:Sem'} (hg:Sims g (sem T)) (args:List V):Sim (zfy g args) (sem T zaS args):=by
 unfold zfy;split
 ·exact zae tb_palanquinref16_Bytes (Nat.le_of_ble_eq_true (by kernel_rfl)) hg (eq_palanquinref16_Bytes g _)
 ·exact zaa
def f_palanquinref1_U_0 (G:Sem') (t1 t6:V) (L:List V):M Res :=
 (M.lift (Ax.bin .geq (L.getD 1 .undef) (V.int .i64 0))).bind fun t15 =>
 M.ite t15
 (M.blk 1 (
 (M.lift (Ax.bin .mul (V.int .i64 8) (L.getD 1 .undef))).bind fun t21 =>
 (M.lift (Ax.cint .u64 t21)).bind fun t22 =>
 (M.lift (Ax.bin .shr t1 t22)).bind fun t23 =>
 (M.lift (Ax.cint .u8 t23)).bind fun t24 =>
 (mslit zaj 1 [(V.int .u8 0)] [(0,1,t24)]).bind fun t25 =>
 (mappend zaj 1 1 (L.getD 0 .undef) t25).bind fun t26 =>
 M.pure (.nrm [t26])) fun L0 =>
 (M.lift (Ax.bin .sub (L.getD 1 .undef) (V.int .i64 1))).bind fun t17 =>
 M.pure (.nrm [(L0.getD 0 .undef),t17]))
 (M.pure (.ex 0 [(L.getD 0 .undef)]))
def f_palanquinref1_U (G:Sem') (t0 t1 t2:V):M Res :=
 (mslit zaj 0 [(V.int .u8 0)] []).bind fun t9 =>
 (mappend zaj 1 1 t9 t0).bind fun t11 =>
 (M.lift (Ax.bin .sub t2 (V.int .i64 1))).bind fun t13 =>
 M.blk 0 (
 M.iter (f_palanquinref1_U_0 G t1 V.nils) [t11,t13]) fun L1 =>
 M.pure (.ret [(L1.getD 0 .undef)])
def ir_palanquinref1_U:Fn':=(T zaF).getD noF
theorem tb_palanquinref1_U:T zaF = some ir_palanquinref1_U:=by kernel_rfl
theorem eq_palanquinref1_U (G:Sem') (t0 t1 t2:V):execK G ir_palanquinref1_U.rv ir_palanquinref1_U.body [] [] (params 0 [t0,t1,t2]) = f_palanquinref1_U G t0 t1 t2:=by kernel_rfl
def ziC (G:Sem'):List V → M V
 | [t0,t1,t2]=>fin (f_palanquinref1_U G t0 t1 t2)
 | _=>M.fail
theorem zsQ {g:Sem'} (hg:Sims g (sem T)) (args:List V):Sim (ziC g args) (sem T zaF args):=by
 unfold ziC;split
 ·exact zae tb_palanquinref1_U (Nat.le_of_ble_eq_true (by kernel_rfl)) hg (eq_palanquinref1_U g _ _ _)
 ·exact zaa
def znj (G:Sem') (t0:V):M Res :=
 (M.lift (Ax.nilck t0)).bind fun t4 =>
 (M.lift (Ax.faddr 0 t4)).bind fun t5 =>
 (mload none t5).bind fun t6 =>
 M.pure (.ret [t6])
def zh9:Fn':=(T zco).getD noF
theorem zsx:T zco = some zh9:=by kernel_rfl
theorem ztr (G:Sem') (t0:V):execK G zh9.rv zh9.body [] [] (params 0 [t0]) = znj G t0:=by kernel_rfl
def zjx (G:Sem'):List V → M V
 | [t0]=>fin (znj G t0)
 | _=>M.fail
theorem zuA {g:Sem'} (hg:Sims g (sem T)) (args:List V):Sim (zjx g args) (sem T zco args):=by
 unfold zjx;split
 ·exact zae zsx (Nat.le_of_ble_eq_true (by kernel_rfl)) hg (ztr g _)
 ·exact zaa
def f_slots_Good_0 (G:Sem') (t8 t1:V) (L:List V):M Res :=
 (M.lift (Ax.bin .lss (L.getD 0 .undef) (V.int .i64 8))).bind fun t10 =>
 M.ite t10
 (M.blk 1 (
 (M.lift (Ax.index 8 1 none t8 (L.getD 0 .undef))).bind fun t12 =>
 (M.lift (Ax.faddr 0 t1)).bind fun t14 =>
 (M.lift (Ax.iaddr (some 8) 1 t14 (L.getD 0 .undef))).bind fun t15 =>
 (mload none t15).bind fun t16 =>
 (M.lift (Ax.un .not t16)).bind fun t17 =>
 M.ite t17
 ((M.lift (Ax.bin .neq t12 (V.int .i64 0))).bind fun t19 =>
 M.ite t19
 (M.pure (.ret [(V.bool false)]))
 (M.pure (.ex 1 [])))
 ((mload (some 16) t1).bind fun t21 =>
 (G zbT [t21,t12]).bind fun t23 =>
 (M.lift (Ax.ext 0 t23)).bind fun t24 =>
 (M.lift (Ax.ext 1 t23)).bind fun t25 =>
 (M.lift (Ax.bin .neq t24 (L.getD 0 .undef))).bind fun t28 =>
 (guarded [(0,t28)] (some (0,false)) (M.pure t12)).bind fun t30 =>
 (guarded [(0,t28)] (some (0,false)) (G zcf [t30])).bind fun t31 =>
 (guarded [(0,t28)] (some (0,false)) (M.lift (Ax.un .not t31))).bind fun t32 =>
 (M.lift (Ax.pick t28 (V.bool true) t32)).bind fun t33 =>
 M.ite t33
 (M.pure (.ret [(V.bool false)]))
 (M.pure (.nrm [])))) fun _ =>
 (M.lift (Ax.bin .add (L.getD 0 .undef) (V.int .i64 1))).bind fun t34 =>
 M.pure (.nrm [t34]))
 (M.pure (.ex 0 []))
def f_slots_Good (G:Sem') (t0:V):M Res :=
 (mbox zan t0).bind fun t1 =>
 (M.lift (Ax.faddr 8 t1)).bind fun t7 =>
 (mload (some 8) t7).bind fun t8 =>
 M.blk 0 (
 M.iter (f_slots_Good_0 G t8 t1) [(V.int .i64 0)]) fun _ =>
 M.pure (.ret [(V.bool true)])
def ir_slots_Good:Fn':=(T zbg).getD noF
theorem tb_slots_Good:T zbg = some ir_slots_Good:=by kernel_rfl
theorem eq_slots_Good (G:Sem') (t0:V):execK G ir_slots_Good.rv ir_slots_Good.body [] [] (params 0 [t0]) = f_slots_Good G t0:=by kernel_rfl
def zoW (G:Sem'):List V → M V
 | [t0]=>fin (f_slots_Good G t0)
 | _=>M.fail
theorem zAs {g:Sem'} (hg:Sims g (sem T)) (args:List V):Sim (zoW g args) (sem T zbg args):=by
 unfold zoW;split
 ·exact zae tb_slots_Good (Nat.le_of_ble_eq_true (by kernel_rfl)) hg (eq_slots_Good g _)
 ·exact zaa
def f_rekey_Good (G:Sem') (t0:V):M Res :=
 (mbox zaW t0).bind fun t1 =>
 (M.lift (Ax.faddr 0 t1)).bind fun t3 =>
 (mload none t3).bind fun t4 =>
 (M.lift (Ax.bin .lss t4 (V.int .i64 0))).bind fun t5 =>
 (guarded [(0,t5)] (some (0,false)) (M.lift (Ax.faddr 0 t1))).bind fun t7 =>
 (guarded [(0,t5)] (some (0,false)) (mload none t7)).bind fun t8 =>
 (guarded [(0,t5)] (some (0,false)) (M.lift (Ax.bin .gtr t8 (V.int .i64 65535)))).bind fun t9 =>
 (M.lift (Ax.pick t5 (V.bool true) t9)).bind fun t10 =>
 M.ite t10
 (M.pure (.ret [(V.bool false)]))
 ((M.lift (Ax.faddr 1 t1)).bind fun t11 =>
 (mload none t11).bind fun t12 =>
 (M.lift (Ax.un .not t12)).bind fun t13 =>
 M.ite t13
 ((mload (some 6) t1).bind fun t14 =>
 (M.lift (Ax.faddr 0 t1)).bind fun t15 =>
 (mload none t15).bind fun t16 =>
 (M.lift (Ax.build [(V.int .i64 0),(V.bool false),(V.int .i64 0),(V.int .i64 0),(V.int .i64 0),(V.int .i64 0)] [(0,1,t16)])).bind fun t17 =>
 (M.lift (eqr (.st [.int,.bool,.int,.int,.int,.int]) false t14 t17)).bind fun t18 =>
 M.pure (.ret [t18]))
 ((M.lift (Ax.faddr 2 t1)).bind fun t19 =>
 (mload none t19).bind fun t20 =>
 (M.lift (Ax.faddr 0 t1)).bind fun t21 =>
 (mload none t21).bind fun t22 =>
 (M.lift (Ax.bin .gtr t20 t22)).bind fun t23 =>
 (guarded [(0,t23)] (some (0,true)) (M.lift (Ax.faddr 2 t1))).bind fun t25 =>
 (guarded [(0,t23)] (some (0,true)) (mload none t25)).bind fun t26 =>
 (guarded [(0,t23)] (some (0,true)) (M.lift (Ax.bin .leq t26 (V.int .i64 65535)))).bind fun t27 =>
 (M.lift (Ax.pick t23 t27 (V.bool false))).bind fun t28 =>
 (guarded [(0,t28)] (some (0,true)) (M.lift (Ax.faddr 3 t1))).bind fun t30 =>
 (guarded [(0,t28)] (some (0,true)) (mload none t30)).bind fun t31 =>
 (guarded [(0,t28)] (some (0,true)) (M.lift (Ax.bin .geq t31 (V.int .i64 1)))).bind fun t32 =>
 (M.lift (Ax.pick t28 t32 (V.bool false))).bind fun t33 =>
 (guarded [(0,t33)] (some (0,true)) (M.lift (Ax.faddr 3 t1))).bind fun t35 =>
 (guarded [(0,t33)] (some (0,true)) (mload none t35)).bind fun t36 =>
 (guarded [(0,t33)] (some (0,true)) (M.lift (Ax.bin .leq t36 (V.int .i64 255)))).bind fun t37 =>
 (M.lift (Ax.pick t33 t37 (V.bool false))).bind fun t38 =>
 (guarded [(0,t38)] (some (0,true)) (M.lift (Ax.faddr 4 t1))).bind fun t40 =>
 (guarded [(0,t38)] (some (0,true)) (mload none t40)).bind fun t41 =>
 (guarded [(0,t38)] (some (0,true)) (M.lift (Ax.faddr 3 t1))).bind fun t42 =>
 (guarded [(0,t38)] (some (0,true)) (mload none t42)).bind fun t43 =>
 (guarded [(0,t38)] (some (0,true)) (M.lift (Ax.bin .andNot t41 t43))).bind fun t44 =>
 (guarded [(0,t38)] (some (0,true)) (M.lift (Ax.bin .eql t44 (V.int .i64 0)))).bind fun t45 =>
 (M.lift (Ax.pick t38 t45 (V.bool false))).bind fun t46 =>
 (guarded [(0,t46)] (some (0,true)) (M.lift (Ax.faddr 4 t1))).bind fun t48 =>
 (guarded [(0,t46)] (some (0,true)) (mload none t48)).bind fun t49 =>
 (guarded [(0,t46)] (some (0,true)) (M.lift (Ax.faddr 3 t1))).bind fun t50 =>
 (guarded [(0,t46)] (some (0,true)) (mload none t50)).bind fun t51 =>
 (guarded [(0,t46)] (some (0,true)) (M.lift (Ax.bin .neq t49 t51))).bind fun t52 =>
 (M.lift (Ax.pick t46 t52 (V.bool false))).bind fun t53 =>
 M.pure (.ret [t53])))
def ir_rekey_Good:Fn':=(T zbH).getD noF
theorem tb_rekey_Good:T zbH = some ir_rekey_Good:=by kernel_rfl
theorem eq_rekey_Good (G:Sem') (t0:V):execK G ir_rekey_Good.rv ir_rekey_Good.body [] [] (params 0 [t0]) = f_rekey_Good G t0:=by kernel_rfl
def zo9 (G:Sem'):List V → M V
 | [t0]=>fin (f_rekey_Good G t0)
 | _=>M.fail
theorem zAF {g:Sem'} (hg:Sims g (sem T)) (args:List V):Sim (zo9 g args) (sem T zbH args):=by
 unfold zo9;split
 ·exact zae tb_rekey_Good (Nat.le_of_ble_eq_true (by kernel_rfl)) hg (eq_rekey_Good g _)
 ·exact zaa
def f_slots_Mask_0 (G:Sem') (t10 t2:V) (L:List V):M Res :=
 (M.lift (Ax.bin .lss (L.getD 1 .undef) (V.int .i64 8))).bind fun t12 =>
 M.ite t12
 (M.blk 1 (
 (M.lift (Ax.index 8 1 none t10 (L.getD 1 .undef))).bind fun t14 =>
 M.join (M.ite t14
 ((M.lift (Ax.bin .shl (V.int .i64 1) (L.getD 1 .undef))).bind fun t18 =>
 (M.lift (Ax.bin .or (L.getD 0 .undef) t18)).bind fun t19 =>
 M.pure (.nrm [t19]))
 (M.pure (.nrm [(L.getD 0 .undef)]))) fun L0 =>
 M.pure (.nrm [(L0.getD 0 .undef)])) fun L1 =>
 (M.lift (Ax.bin .add (L.getD 1 .undef) (V.int .i64 1))).bind fun t20 =>
 M.pure (.nrm [(L1.getD 0 .undef),t20]))
 (M.pure (.ex 0 [(L.getD 0 .undef)]))
def f_slots_Mask (G:Sem') (t0:V):M Res :=
 (mbox zan t0).bind fun t1 =>
 (mload (some 16) t1).bind fun t6 =>
 (G zbg [t6]).bind fun t7 =>
 (M.lift (Ax.un .not t7)).bind fun t8 =>
 M.ite t8
 (M.pure (.ret [(V.int .i64 0)]))
 ((M.lift (Ax.faddr 0 t1)).bind fun t9 =>
 (mload (some 8) t9).bind fun t10 =>
 M.blk 0 (
 M.iter (f_slots_Mask_0 G t10 (V.int .i64 0)) [(V.int .i64 0),(V.int .i64 0)]) fun L2 =>
 M.pure (.ret [(L2.getD 0 .undef)]))
def ir_slots_Mask:Fn':=(T zbU).getD noF
theorem tb_slots_Mask:T zbU = some ir_slots_Mask:=by kernel_rfl
theorem eq_slots_Mask (G:Sem') (t0:V):execK G ir_slots_Mask.rv ir_slots_Mask.body [] [] (params 0 [t0]) = f_slots_Mask G t0:=by kernel_rfl
def zoV (G:Sem'):List V → M V
 | [t0]=>fin (f_slots_Mask G t0)
 | _=>M.fail
theorem zAr {g:Sem'} (hg:Sims g (sem T)) (args:List V):Sim (zoV g args) (sem T zbU args):=by
 unfold zoV;split
 ·exact zae tb_slots_Mask (Nat.le_of_ble_eq_true (by kernel_rfl)) hg (eq_slots_Mask g _)
 ·exact zaa
def f_post_Counts_One (G:Sem') (t0 t1:V):M Res :=
 (M.lift (Ax.bin .geq t1 (V.int .i64 0))).bind fun t5 =>
 (guarded [(0,t5)] (some (0,true)) (M.pure t1)).bind fun t7 =>
 (guarded [(0,t5)] (some (0,true)) (M.pure t0)).bind fun t8 =>
 (guarded [(0,t5)] (some (0,true)) (M.lift (Ax.nilck t8))).bind fun t9 =>
 (guarded [(0,t5)] (some (0,true)) (M.lift (Ax.faddr 0 t9))).bind fun t10 =>
 (guarded [(0,t5)] (some (0,true)) (mload none t10)).bind fun t11 =>
 (guarded [(0,t5)] (some (0,true)) (M.lift (vlen t11))).bind fun t12 =>
 (guarded [(0,t5)] (some (0,true)) (M.lift (Ax.bin .lss t7 t12))).bind fun t13 =>
 (M.lift (Ax.pick t5 t13 (V.bool false))).bind fun t14 =>
 M.join (M.ite t14
 ((M.lift (Ax.nilck t0)).bind fun t16 =>
 (M.lift (Ax.faddr 0 t16)).bind fun t17 =>
 (mload none t17).bind fun t18 =>
 (M.lift (Ax.iaddr none 1 t18 t1)).bind fun t20 =>
 (G zaX [t20,(V.int .i64 1)]).bind fun t21 =>
 M.pure (.nrm []))
 (M.pure (.nrm []))) fun _ =>
 M.pure (.ret [])
def ir_post_Counts_One:Fn':=(T zax).getD noF
theorem tb_post_Counts_One:T zax = some ir_post_Counts_One:=by kernel_rfl
theorem eq_post_Counts_One (G:Sem') (t0 t1:V):execK G ir_post_Counts_One.rv ir_post_Counts_One.body [] [] (params 0 [t0,t1]) = f_post_Counts_One G t0 t1:=by kernel_rfl
def ziB (G:Sem'):List V → M V
 | [t0,t1]=>fin (f_post_Counts_One G t0 t1)
 | _=>M.fail
theorem zsP {g:Sem'} (hg:Sims g (sem T)) (args:List V):Sim (ziB g args) (sem T zax args):=by
 unfold ziB;split
 ·exact zae tb_post_Counts_One (Nat.le_of_ble_eq_true (by kernel_rfl)) hg (eq_post_Counts_One g _ _)
 ·exact zaa
def f_desk_Desk_where_0 (G:Sem') (t1 t0:V) (L:List V):M Res :=
 (M.lift (Ax.bin .lss (L.getD 0 .undef) (V.int .i64 4))).bind fun t11 =>
 M.ite t11
 (M.blk 1 (
 (M.lift (Ax.nilck t0)).bind fun t16 =>
 (M.lift (Ax.faddr 0 t16)).bind fun t17 =>
 (M.lift (Ax.iaddr (some 4) 367 t17 (L.getD 0 .undef))).bind fun t18 =>
 (M.lift (Ax.faddr 0 t18)).bind fun t19 =>
 (M.lift (Ax.faddr 0 t19)).bind fun t20 =>
 (mload (some 16) t20).bind fun t21 =>
 (G zb7 [t21,t1]).bind fun t23 =>
 (M.lift (Ax.ext 0 t23)).bind fun t24 =>
 (M.lift (Ax.ext 1 t23)).bind fun t25 =>
 M.ite t25
 ((M.lift (Ax.nilck t0)).bind fun t29 =>
 (M.lift (Ax.faddr 0 t29)).bind fun t30 =>
 (M.lift (Ax.iaddr (some 4) 367 t30 (L.getD 0 .undef))).bind fun t31 =>
 M.pure (.ret [t31,t24,(V.bool true)]))
 (M.pure (.nrm []))) fun _ =>
 (M.lift (Ax.bin .add (L.getD 0 .undef) (V.int .i64 1))).bind fun t33 =>
 M.pure (.nrm [t33]))
 (M.pure (.ex 0 []))
def f_desk_Desk_where (G:Sem') (t0 t1:V):M Res :=
 M.blk 0 (
 M.iter (f_desk_Desk_where_0 G t1 t0) [(V.int .i64 0)]) fun _ =>
 M.pure (.ret [V.nilp,(V.int .i64 0),(V.bool false)])
def ir_desk_Desk_where:Fn':=(T zbb).getD noF
theorem tb_desk_Desk_where:T zbb = some ir_desk_Desk_where:=by kernel_rfl
theorem eq_desk_Desk_where (G:Sem') (t0 t1:V):execK G ir_desk_Desk_where.rv ir_desk_Desk_where.body [] [] (params 0 [t0,t1]) = f_desk_Desk_where G t0 t1:=by kernel_rfl
def ziI (G:Sem'):List V → M V
 | [t0,t1]=>fin (f_desk_Desk_where G t0 t1)
 | _=>M.fail
theorem zsW {g:Sem'} (hg:Sims g (sem T)) (args:List V):Sim (ziI g args) (sem T zbb args):=by
 unfold ziI;split
 ·exact zae tb_desk_Desk_where (Nat.le_of_ble_eq_true (by kernel_rfl)) hg (eq_desk_Desk_where g _ _)
 ·exact zaa
def f_desk_Desk_heard (G:Sem') (t0 t1 t2:V):M Res :=
 (M.lift (Ax.nilck t1)).bind fun t9 =>
 (M.lift (Ax.faddr 0 t9)).bind fun t10 =>
 (mload (some 39) t10).bind fun t11 =>
 (M.lift (Ax.nilck t0)).bind fun t14 =>
 (M.lift (Ax.faddr 1468 t14)).bind fun t15 =>
 (mload none t15).bind fun t16 =>
 (G zcv [t11,t2,t16]).bind fun t17 =>
 (M.lift (Ax.ext 0 t17)).bind fun t18 =>
 (M.lift (Ax.nilck t1)).bind fun t20 =>
 (M.lift (Ax.faddr 0 t20)).bind fun t21 =>
 (mstore 39 t21 t18).bind fun _ =>
 (M.lift (Ax.ext 1 t17)).bind fun t19 =>
 M.pure (.ret [])
def ir_desk_Desk_heard:Fn':=(T zbd).getD noF
theorem tb_desk_Desk_heard:T zbd = some ir_desk_Desk_heard:=by kernel_rfl
theorem eq_desk_Desk_heard (G:Sem') (t0 t1 t2:V):execK G ir_desk_Desk_heard.rv ir_desk_Desk_heard.body [] [] (params 0 [t0,t1,t2]) = f_desk_Desk_heard G t0 t1 t2:=by kernel_rfl
def ziM (G:Sem'):List V → M V
 | [t0,t1,t2]=>fin (f_desk_Desk_heard G t0 t1 t2)
 | _=>M.fail
theorem zs0 {g:Sem'} (hg:Sims g (sem T)) (args:List V):Sim (ziM g args) (sem T zbd args):=by
 unfold ziM;split
 ·exact zae tb_desk_Desk_heard (Nat.le_of_ble_eq_true (by kernel_rfl)) hg (eq_desk_Desk_heard g _ _ _)
 ·exact zaa
def zBe (G:Sem') (t0:V):M Res :=
 (M.lift (vlen t0)).bind fun t4 =>
 (M.lift (Ax.bin .geq t4 (V.int .i64 2))).bind fun t5 =>
 (guarded [(0,t5)] (some (0,true)) (M.pure t0)).bind fun t7 =>
 (guarded [(0,t5)] (some (0,true)) (M.lift (Ax.iaddr none 1 t7 (V.int .i64 1)))).bind fun t8 =>
 (guarded [(0,t5)] (some (0,true)) (mload none t8)).bind fun t9 =>
 (guarded [(0,t5)] (some (0,true)) (M.lift (Ax.bin .geq t9 (V.int .u8 192)))).bind fun t10 =>
 (M.lift (Ax.pick t5 t10 (V.bool false))).bind fun t11 =>
 (guarded [(0,t11)] (some (0,true)) (M.pure t0)).bind fun t13 =>
 (guarded [(0,t11)] (some (0,true)) (M.lift (Ax.iaddr none 1 t13 (V.int .i64 1)))).bind fun t14 =>
 (guarded [(0,t11)] (some (0,true)) (mload none t14)).bind fun t15 =>
 (guarded [(0,t11)] (some (0,true)) (M.lift (Ax.bin .leq t15 (V.int .u8 223)))).bind fun t16 =>
 (M.lift (Ax.pick t11 t16 (V.bool false))).bind fun t17 =>
 M.pure (.ret [t17])
def ztg:Fn':=(T zit).getD noF
theorem zDV:T zit = some ztg:=by kernel_rfl
theorem zEP (G:Sem') (t0:V):execK G ztg.rv ztg.body [] [] (params 0 [t0]) = zBe G t0:=by kernel_rfl
def zwN (G:Sem'):List V → M V
 | [t0]=>fin (zBe G t0)
 | _=>M.fail
theorem zFJ {g:Sem'} (hg:Sims g (sem T)) (args:List V):Sim (zwN g args) (sem T zit args):=by
 unfold zwN;split
 ·exact zae zDV (Nat.le_of_ble_eq_true (by kernel_rfl)) hg (zEP g _)
 ·exact zaa
def zoA (G:Sem') (t55 t54 t0 t1 t2:V) (L:List V):M Res :=
 (M.lift (Ax.bin .lss (L.getD 0 .undef) t55)).bind fun t57 =>
 M.ite t57
 (M.blk 4 (
 (M.lift (Ax.iaddr none 2 t54 (L.getD 0 .undef))).bind fun t58 =>
 (mload (some 2) t58).bind fun t59 =>
 (mbox zmh (V.agg [(V.int .u32 0),(V.int .u8 0)])).bind fun t13 =>
 (mstore 2 t13 t59).bind fun _ =>
 (M.lift (Ax.faddr 0 t13)).bind fun t63 =>
 (mload none t63).bind fun t64 =>
 (G zcW [t0,t1,t2,t64]).bind fun t65 =>
 M.pure (.nrm [])) fun _ =>
 (M.lift (Ax.bin .add (L.getD 0 .undef) (V.int .i64 1))).bind fun t66 =>
 M.pure (.nrm [t66]))
 (M.pure (.ex 3 []))
def zoz (G:Sem') (t71 t70 t0 t1 t2 t11:V) (L:List V):M Res :=
 (M.lift (Ax.bin .lss (L.getD 0 .undef) t71)).bind fun t73 =>
 M.ite t73
 (M.blk 6 (
 (M.lift (Ax.iaddr none 1 t70 (L.getD 0 .undef))).bind fun t74 =>
 (mload none t74).bind fun t75 =>
 (mload (some 16) t11).bind fun t80 =>
 (G zha [t80]).bind fun t81 =>
 (G zdD [t0,t1,t2,t75,t81]).bind fun t82 =>
 M.pure (.nrm [])) fun _ =>
 (M.lift (Ax.bin .add (L.getD 0 .undef) (V.int .i64 1))).bind fun t83 =>
 M.pure (.nrm [t83]))
 (M.pure (.ex 5 []))
def zoy (G:Sem') (t29 t28 t0 t1 t2:V) (L:List V):M Res :=
 (M.lift (Ax.bin .lss (L.getD 0 .undef) t29)).bind fun t31 =>
 M.ite t31
 (M.blk 1 (
 (M.lift (Ax.iaddr none 16 t28 (L.getD 0 .undef))).bind fun t32 =>
 (mload (some 16) t32).bind fun t33 =>
 (mbox za3 (V.agg [(V.int .i64 0),(V.int .u32 0),(V.int .u32 0),(V.int .u64 0),(V.int .u32 0),(V.int .u32 0),(V.int .u32 0),V.nils,V.nils,V.nils,(V.int .i64 0),(V.int .u32 0),V.nils,(V.int .i64 0),(V.int .i64 0),V.nils])).bind fun t11 =>
 (mstore 16 t11 t33).bind fun _ =>
 (M.lift (Ax.faddr 0 t11)).bind fun t34 =>
 (mload none t34).bind fun t35 =>
 M.blk 2 (
 (M.lift (Ax.bin .eql t35 (V.int .i64 3))).bind fun t37 =>
 M.join (M.ite t37
 ((mload (some 16) t11).bind fun t41 =>
 (G zde [t0,t1,t2,t41]).bind fun t42 =>
 M.pure (.nrm []))
 ((M.lift (Ax.bin .eql t35 (V.int .i64 4))).bind fun t44 =>
 M.join (M.ite t44
 ((M.lift (Ax.faddr 2 t11)).bind fun t48 =>
 (mload none t48).bind fun t49 =>
 (G zcW [t0,t1,t2,t49]).bind fun t50 =>
 M.pure (.nrm []))
 ((M.lift (Ax.bin .eql t35 (V.int .i64 5))).bind fun t52 =>
 M.join (M.ite t52
 ((M.lift (Ax.faddr 9 t11)).bind fun t53 =>
 (mload none t53).bind fun t54 =>
 (M.lift (vlen t54)).bind fun t55 =>
 M.blk 3 (
 M.iter (zoA G t55 t54 t0 t1 t2) [(V.int .i64 0)]) fun _ =>
 M.pure (.nrm []))
 ((M.lift (Ax.bin .eql t35 (V.int .i64 6))).bind fun t68 =>
 M.join (M.ite t68
 ((M.lift (Ax.faddr 12 t11)).bind fun t69 =>
 (mload none t69).bind fun t70 =>
 (M.lift (vlen t70)).bind fun t71 =>
 M.blk 5 (
 M.iter (zoz G t71 t70 t0 t1 t2 t11) [(V.int .i64 0)]) fun _ =>
 M.pure (.nrm []))
 (M.pure (.nrm []))) fun _ =>
 M.pure (.nrm []))) fun _ =>
 M.pure (.nrm []))) fun _ =>
 M.pure (.nrm []))) fun _ =>
 M.pure (.nrm [])) fun _ =>
 M.pure (.nrm [])) fun _ =>
 (M.lift (Ax.bin .add (L.getD 0 .undef) (V.int .i64 1))).bind fun t84 =>
 M.pure (.nrm [t84]))
 (M.pure (.ex 0 []))
def zkm (G:Sem') (t0 t1 t2 t3:V):M Res :=
 (G zf8 [t3]).bind fun t18 =>
 (M.lift (Ax.ext 0 t18)).bind fun t19 =>
 (M.lift (Ax.ext 1 t18)).bind fun t20 =>
 (M.lift (Ax.bin .neq t20 (V.int .i64 0))).bind fun t22 =>
 M.ite t22
 ((M.lift (Ax.nilck t0)).bind fun t24 =>
 (M.lift (Ax.faddr 1534 t24)).bind fun t25 =>
 (mload none t25).bind fun t26 =>
 (G zax [t26,(V.int .i64 3)]).bind fun t27 =>
 M.pure (.ret []))
 ((M.lift (vlen t19)).bind fun t29 =>
 M.blk 0 (
 M.iter (zoy G t29 t19 t0 t1 t2) [(V.int .i64 0)]) fun _ =>
 M.pure (.ret []))
def zgo:Fn':=(T zcH).getD noF
theorem zpo:T zcH = some zgo:=by kernel_rfl
theorem zpF (G:Sem') (t0 t1 t2 t3:V):execK G zgo.rv zgo.body [] [] (params 0 [t0,t1,t2,t3]) = zkm G t0 t1 t2 t3:=by kernel_rfl
def zg0 (G:Sem'):List V → M V
 | [t0,t1,t2,t3]=>fin (zkm G t0 t1 t2 t3)
 | _=>M.fail
theorem zp8 {g:Sem'} (hg:Sims g (sem T)) (args:List V):Sim (zg0 g args) (sem T zcH args):=by
 unfold zg0;split
 ·exact zae zpo (Nat.le_of_ble_eq_true (by kernel_rfl)) hg (zpF g _ _ _ _)
 ·exact zaa
def zk3 (G:Sem') (t0 t1 t2:V):M Res :=
 (mbox zk9 (V.agg [(V.bool false),(V.int .i64 0),(V.int .u16 0),(V.int .u32 0),(V.int .u32 0),V.nils,(V.int .i64 0),V.nils,(V.int .i64 0),V.nils,(V.int .i64 0),(V.int .i64 0),(V.bool false),(V.bool false),(V.int .i64 0),(V.int .u16 0),(V.bool false),(V.int .i64 0),(V.int .i64 0),V.nils,(V.int .i64 0),V.nils,V.nils,(V.bool false),(V.int .u32 0),(V.bool false),(V.bool false),(V.bool false),V.nils,V.nils,V.nils])).bind fun t6 =>
 (G zg7 [t2]).bind fun t24 =>
 (M.lift (Ax.ext 0 t24)).bind fun t25 =>
 (M.lift (Ax.ext 1 t24)).bind fun t26 =>
 (mbox zbE (V.agg [(V.bool false),(V.int .i64 0),(V.int .u16 0),(V.int .u32 0),(V.int .u32 0),V.nils,(V.int .i64 0),V.nils,(V.int .i64 0),V.nils])).bind fun t8 =>
 (mstore 10 t8 t25).bind fun _ =>
 (M.lift (Ax.bin .neq t26 (V.int .i64 0))).bind fun t28 =>
 M.ite t28
 ((M.lift (Ax.build [(V.bool false),(V.int .i64 0),(V.int .u16 0),(V.int .u32 0),(V.int .u32 0),V.nils,(V.int .i64 0),V.nils,(V.int .i64 0),V.nils,(V.int .i64 0),(V.int .i64 0),(V.bool false),(V.bool false),(V.int .i64 0),(V.int .u16 0),(V.bool false),(V.int .i64 0),(V.int .i64 0),V.nils,(V.int .i64 0),V.nils,V.nils,(V.bool false),(V.int .u32 0),(V.bool false),(V.bool false),(V.bool false),V.nils,V.nils,V.nils] [])).bind fun t29 =>
 (mstore 31 t6 t29).bind fun _ =>
 (mload (some 31) t6).bind fun r0 =>
 M.pure (.ret [r0,(V.int .i64 3)]))
 ((M.lift (Ax.faddr 4 t8)).bind fun t33 =>
 (mload none t33).bind fun t34 =>
 (G zci [t0,t1,t34]).bind fun t35 =>
 (M.lift (Ax.ext 0 t35)).bind fun t36 =>
 (M.lift (Ax.ext 1 t35)).bind fun t37 =>
 (M.lift (Ax.un .not t37)).bind fun t39 =>
 M.ite t39
 ((M.lift (Ax.build [(V.bool false),(V.int .i64 0),(V.int .u16 0),(V.int .u32 0),(V.int .u32 0),V.nils,(V.int .i64 0),V.nils,(V.int .i64 0),V.nils,(V.int .i64 0),(V.int .i64 0),(V.bool false),(V.bool false),(V.int .i64 0),(V.int .u16 0),(V.bool false),(V.int .i64 0),(V.int .i64 0),V.nils,(V.int .i64 0),V.nils,V.nils,(V.bool false),(V.int .u32 0),(V.bool false),(V.bool false),(V.bool false),V.nils,V.nils,V.nils] [])).bind fun t40 =>
 (mstore 31 t6 t40).bind fun _ =>
 (mload (some 31) t6).bind fun r0 =>
 M.pure (.ret [r0,(V.int .i64 4)]))
 ((M.lift (Ax.faddr 9 t8)).bind fun t42 =>
 (mload none t42).bind fun t43 =>
 (G zeB [t43]).bind fun t44 =>
 (M.lift (Ax.ext 0 t44)).bind fun t45 =>
 (M.lift (Ax.ext 1 t44)).bind fun t46 =>
 (M.lift (Ax.ext 2 t44)).bind fun t47 =>
 (M.lift (Ax.ext 3 t44)).bind fun t48 =>
 (G zhh [t45]).bind fun t51 =>
 (M.lift (Ax.ext 0 t51)).bind fun t52 =>
 (M.lift (Ax.ext 1 t51)).bind fun t53 =>
 (M.lift (Ax.ext 2 t51)).bind fun t54 =>
 (M.lift (Ax.ext 3 t51)).bind fun t55 =>
 (M.lift (Ax.bin .neq t48 (V.int .i64 0))).bind fun t57 =>
 (guarded [(0,t57)] (some (0,false)) (M.pure t55)).bind fun t59 =>
 (guarded [(0,t57)] (some (0,false)) (M.lift (Ax.un .not t59))).bind fun t60 =>
 (M.lift (Ax.pick t57 (V.bool true) t60)).bind fun t61 =>
 M.ite t61
 ((M.lift (Ax.build [(V.bool false),(V.int .i64 0),(V.int .u16 0),(V.int .u32 0),(V.int .u32 0),V.nils,(V.int .i64 0),V.nils,(V.int .i64 0),V.nils,(V.int .i64 0),(V.int .i64 0),(V.bool false),(V.bool false),(V.int .i64 0),(V.int .u16 0),(V.bool false),(V.int .i64 0),(V.int .i64 0),V.nils,(V.int .i64 0),V.nils,V.nils,(V.bool false),(V.int .u32 0),(V.bool false),(V.bool false),(V.bool false),V.nils,V.nils,V.nils] [])).bind fun t62 =>
 (mstore 31 t6 t62).bind fun _ =>
 (mload (some 31) t6).bind fun r0 =>
 M.pure (.ret [r0,(V.int .i64 5)]))
 ((M.lift (Ax.nilck t0)).bind fun t64 =>
 (M.lift (Ax.faddr 0 t64)).bind fun t65 =>
 (M.lift (Ax.faddr 16 t65)).bind fun t66 =>
 (M.lift (Ax.faddr 0 t66)).bind fun t67 =>
 (mload none t67).bind fun t68 =>
 (M.lift (Ax.bin .neq t54 t1)).bind fun t71 =>
 (guarded [(0,t71)] (some (0,false)) (M.pure t52)).bind fun t73 =>
 (guarded [(0,t71)] (some (0,false)) (M.pure t68)).bind fun t74 =>
 (guarded [(0,t71)] (some (0,false)) (M.lift (Ax.bin .neq t73 t74))).bind fun t75 =>
 (guarded [(0,t71)] (some (0,false)) (M.pure t75)).bind fun t76 =>
 (guarded [(0,t76)] (some (0,true)) (M.pure t52)).bind fun t77 =>
 (guarded [(0,t76)] (some (0,true)) (M.pure t68)).bind fun t78 =>
 (guarded [(0,t76)] (some (0,true)) (M.lift (Ax.bin .sub t78 (V.int .i64 1)))).bind fun t79 =>
 (guarded [(0,t76)] (some (0,true)) (M.lift (Ax.bin .neq t77 t79))).bind fun t80 =>
 (guarded [(0,t71)] (some (0,false)) (M.lift (Ax.pick t76 t80 (V.bool false)))).bind fun t81 =>
 (M.lift (Ax.pick t71 (V.bool true) t81)).bind fun t82 =>
 M.ite t82
 ((M.lift (Ax.build [(V.bool false),(V.int .i64 0),(V.int .u16 0),(V.int .u32 0),(V.int .u32 0),V.nils,(V.int .i64 0),V.nils,(V.int .i64 0),V.nils,(V.int .i64 0),(V.int .i64 0),(V.bool false),(V.bool false),(V.int .i64 0),(V.int .u16 0),(V.bool false),(V.int .i64 0),(V.int .i64 0),V.nils,(V.int .i64 0),V.nils,V.nils,(V.bool false),(V.int .u32 0),(V.bool false),(V.bool false),(V.bool false),V.nils,V.nils,V.nils] [])).bind fun t83 =>
 (mstore 31 t6 t83).bind fun _ =>
 (mload (some 31) t6).bind fun r0 =>
 M.pure (.ret [r0,(V.int .i64 6)]))
 ((mload (some 10) t8).bind fun t85 =>
 (G zgT [t85,(V.int .i64 1)]).bind fun t86 =>
 (M.lift (Ax.ext 0 t86)).bind fun t87 =>
 (M.lift (Ax.ext 1 t86)).bind fun t88 =>
 (M.lift (Ax.un .not t88)).bind fun t90 =>
 M.ite t90
 ((M.lift (Ax.build [(V.bool false),(V.int .i64 0),(V.int .u16 0),(V.int .u32 0),(V.int .u32 0),V.nils,(V.int .i64 0),V.nils,(V.int .i64 0),V.nils,(V.int .i64 0),(V.int .i64 0),(V.bool false),(V.bool false),(V.int .i64 0),(V.int .u16 0),(V.bool false),(V.int .i64 0),(V.int .i64 0),V.nils,(V.int .i64 0),V.nils,V.nils,(V.bool false),(V.int .u32 0),(V.bool false),(V.bool false),(V.bool false),V.nils,V.nils,V.nils] [])).bind fun t91 =>
 (mstore 31 t6 t91).bind fun _ =>
 (mload (some 31) t6).bind fun r0 =>
 M.pure (.ret [r0,(V.int .i64 7)]))
 ((M.lift (Ax.nilck t0)).bind fun t95 =>
 (M.lift (Ax.faddr 39 t95)).bind fun t96 =>
 (M.lift (Ax.iaddr (some 8) 33 t96 t1)).bind fun t97 =>
 (M.lift (Ax.iaddr (some 3) 11 t97 t36)).bind fun t98 =>
 (mload (some 11) t98).bind fun t99 =>
 (mbox ziV (V.agg [(V.bool false),(V.int .u32 0),(V.int .i64 0),(V.int .i64 0),(V.int .i64 0),V.nils,(V.int .i64 0),V.nils,V.nils,(V.int .u32 0),V.nils])).bind fun t20 =>
 (mstore 11 t20 t99).bind fun _ =>
 (M.lift (Ax.faddr 3 t20)).bind fun t102 =>
 (mload (some 6) t102).bind fun t103 =>
 (G zeC [t87,t103]).bind fun t104 =>
 (M.lift (Ax.ext 0 t104)).bind fun t105 =>
 (M.lift (Ax.ext 1 t104)).bind fun t106 =>
 (mbox zce (V.agg [(V.bool false),(V.bool false),(V.int .i64 0),(V.int .u16 0),(V.bool false),(V.int .i64 0),(V.int .i64 0),V.nils,(V.int .i64 0),V.nils,V.nils,(V.bool false),(V.int .u32 0),(V.bool false),(V.bool false),(V.bool false),V.nils,V.nils,V.nils])).bind fun t21 =>
 (mstore 19 t21 t105).bind fun _ =>
 (M.lift (Ax.bin .neq t106 (V.int .i64 0))).bind fun t108 =>
 M.ite t108
 ((M.lift (Ax.build [(V.bool false),(V.int .i64 0),(V.int .u16 0),(V.int .u32 0),(V.int .u32 0),V.nils,(V.int .i64 0),V.nils,(V.int .i64 0),V.nils,(V.int .i64 0),(V.int .i64 0),(V.bool false),(V.bool false),(V.int .i64 0),(V.int .u16 0),(V.bool false),(V.int .i64 0),(V.int .i64 0),V.nils,(V.int .i64 0),V.nils,V.nils,(V.bool false),(V.int .u32 0),(V.bool false),(V.bool false),(V.bool false),V.nils,V.nils,V.nils] [])).bind fun t109 =>
 (mstore 31 t6 t109).bind fun _ =>
 (mload (some 31) t6).bind fun r0 =>
 M.pure (.ret [r0,(V.int .i64 8)]))
 ((M.lift (Ax.faddr 10 t20)).bind fun t110 =>
 (mload none t110).bind fun t111 =>
 (M.lift (Ax.faddr 2 t8)).bind fun t112 =>
 (mload none t112).bind fun t113 =>
 (G zfT [t111,t113]).bind fun t114 =>
 M.ite t114
 ((M.lift (Ax.build [(V.bool false),(V.int .i64 0),(V.int .u16 0),(V.int .u32 0),(V.int .u32 0),V.nils,(V.int .i64 0),V.nils,(V.int .i64 0),V.nils,(V.int .i64 0),(V.int .i64 0),(V.bool false),(V.bool false),(V.int .i64 0),(V.int .u16 0),(V.bool false),(V.int .i64 0),(V.int .i64 0),V.nils,(V.int .i64 0),V.nils,V.nils,(V.bool false),(V.int .u32 0),(V.bool false),(V.bool false),(V.bool false),V.nils,V.nils,V.nils] [])).bind fun t115 =>
 (mstore 31 t6 t115).bind fun _ =>
 (mload (some 31) t6).bind fun r0 =>
 M.pure (.ret [r0,(V.int .i64 9)]))
 ((mload (some 10) t8).bind fun t116 =>
 (mload (some 19) t21).bind fun t119 =>
 (M.lift (Ax.build [(V.bool false),(V.int .i64 0),(V.int .u16 0),(V.int .u32 0),(V.int .u32 0),V.nils,(V.int .i64 0),V.nils,(V.int .i64 0),V.nils,(V.int .i64 0),(V.int .i64 0),(V.bool false),(V.bool false),(V.int .i64 0),(V.int .u16 0),(V.bool false),(V.int .i64 0),(V.int .i64 0),V.nils,(V.int .i64 0),V.nils,V.nils,(V.bool false),(V.int .u32 0),(V.bool false),(V.bool false),(V.bool false),V.nils,V.nils,V.nils] [(0,10,t116),(10,1,t36),(11,1,t52),(12,19,t119)])).bind fun t120 =>
 (mstore 31 t6 t120).bind fun _ =>
 (mload (some 31) t6).bind fun r0 =>
 M.pure (.ret [r0,(V.int .i64 0)]))))))))
def zgO:Fn':=(T zcT).getD noF
theorem zp0:T zcT = some zgO:=by kernel_rfl
theorem zqA (G:Sem') (t0 t1 t2:V):execK G zgO.rv zgO.body [] [] (params 0 [t0,t1,t2]) = zk3 G t0 t1 t2:=by kernel_rfl
def zhM (G:Sem'):List V → M V
 | [t0,t1,t2]=>fin (zk3 G t0 t1 t2)
 | _=>M.fail
theorem zrp {g:Sem'} (hg:Sims g (sem T)) (args:List V):Sim (zhM g args) (sem T zcT args):=by
 unfold zhM;split
 ·exact zae zp0 (Nat.le_of_ble_eq_true (by kernel_rfl)) hg (zqA g _ _ _)
 ·exact zaa
end Go.Ax.Cc
/- CiS3 -/
namespace Go.Ax.Cc
open Go.Proofs
def zqt (G:Sem') (t8 t0 t1 t2 t7:V) (L:List V):M Res :=
 (M.lift (Ax.bin .lss (L.getD 0 .undef) (V.int .i64 8))).bind fun t62 =>
 M.ite t62
 (M.blk 1 (
 (M.lift (Ax.nilck t1)).bind fun t67 =>
 (M.lift (Ax.faddr 303 t67)).bind fun t68 =>
 (M.lift (Ax.iaddr (some 8) 8 t68 (L.getD 0 .undef))).bind fun t69 =>
 (M.lift (Ax.iaddr (some 8) 1 t69 t2)).bind fun t70 =>
 (mload none t70).bind fun t71 =>
 (M.lift (eqr .ptr false t71 V.nilp)).bind fun t73 =>
 (guarded [(0,t73)] (some (0,false)) (M.lift (Ax.faddr 11 t7))).bind fun t75 =>
 (guarded [(0,t73)] (some (0,false)) (mload none t75)).bind fun t76 =>
 (guarded [(0,t73)] (some (0,false)) (M.pure t1)).bind fun t77 =>
 (guarded [(0,t73)] (some (0,false)) (M.pure (L.getD 0 .undef))).bind fun t78 =>
 (guarded [(0,t73)] (some (0,false)) (M.lift (Ax.nilck t77))).bind fun t79 =>
 (guarded [(0,t73)] (some (0,false)) (M.lift (Ax.faddr 0 t79))).bind fun t80 =>
 (guarded [(0,t73)] (some (0,false)) (M.lift (Ax.faddr 30 t80))).bind fun t81 =>
 (guarded [(0,t73)] (some (0,false)) (M.lift (Ax.iaddr (some 8) 1 t81 t78))).bind fun t82 =>
 (guarded [(0,t73)] (some (0,false)) (mload none t82)).bind fun t83 =>
 (guarded [(0,t73)] (some (0,false)) (M.lift (Ax.bin .lss t76 t83))).bind fun t84 =>
 (M.lift (Ax.pick t73 (V.bool true) t84)).bind fun t85 =>
 M.ite t85
 (M.pure (.ex 1 []))
 ((M.lift (Ax.faddr 10 t7)).bind fun t88 =>
 (mload none t88).bind fun t89 =>
 (M.lift (Ax.faddr 0 t7)).bind fun t90 =>
 (mload (some 10) t90).bind fun t91 =>
 (M.lift (Ax.faddr 12 t7)).bind fun t92 =>
 (mload (some 19) t92).bind fun t93 =>
 (M.lift (Ax.nilck t8)).bind fun t95 =>
 (M.lift (Ax.faddr 3 t95)).bind fun t96 =>
 (mload (some 6) t96).bind fun t97 =>
 (M.lift (Ax.nilck t8)).bind fun t99 =>
 (M.lift (Ax.faddr 9 t99)).bind fun t100 =>
 (mload none t100).bind fun t101 =>
 (M.lift (Ax.nilck t0)).bind fun t103 =>
 (M.lift (Ax.faddr 1468 t103)).bind fun t104 =>
 (mload none t104).bind fun t105 =>
 (G zdb [t71,t89,t91,t93,t97,t101,t105]).bind fun t106 =>
 (M.lift (Ax.ext 0 t106)).bind fun t107 =>
 (mbox zvp (V.agg [V.nils,(V.int .i64 0),(V.bool false)])).bind fun t11 =>
 (mstore 3 t11 t107).bind fun _ =>
 (M.lift (Ax.ext 1 t106)).bind fun t108 =>
 M.blk 2 (
 (M.lift (Ax.bin .neq t108 (V.int .i64 0))).bind fun t111 =>
 M.join (M.ite t111
 (M.pure (.nrm []))
 ((M.lift (Ax.faddr 1 t11)).bind fun t113 =>
 (mload none t113).bind fun t114 =>
 (M.lift (Ax.bin .eql t114 (V.int .i64 0))).bind fun t115 =>
 M.join (M.ite t115
 ((M.lift (Ax.nilck t1)).bind fun t119 =>
 (M.lift (Ax.faddr 0 t119)).bind fun t120 =>
 (M.lift (Ax.faddr 0 t120)).bind fun t121 =>
 (M.lift (Ax.faddr 8 t121)).bind fun t122 =>
 (M.lift (Ax.iaddr (some 8) 1 t122 (L.getD 0 .undef))).bind fun t123 =>
 (mload none t123).bind fun t124 =>
 (M.lift (Ax.faddr 0 t11)).bind fun t125 =>
 (mload none t125).bind fun t126 =>
 (G za2 [t0,t124,(V.int .i64 1),t126]).bind fun t127 =>
 M.pure (.nrm []))
 ((M.lift (Ax.faddr 2 t11)).bind fun t129 =>
 (mload none t129).bind fun t130 =>
 M.join (M.ite t130
 ((M.lift (Ax.faddr 10 t7)).bind fun t134 =>
 (mload none t134).bind fun t135 =>
 M.getH.bind fun h0 =>
 (G zco [t71]).bind fun t137 =>
 M.getH.bind fun h0' =>
 (M.unch t134 h0 h0').bind fun _ =>
 (G zb1 [t0,t1,t2,t135,t137]).bind fun t138 =>
 M.pure (.nrm []))
 (M.pure (.nrm []))) fun _ =>
 M.pure (.nrm []))) fun _ =>
 M.pure (.nrm []))) fun _ =>
 M.pure (.nrm [])) fun _ =>
 M.pure (.nrm []))) fun _ =>
 (M.lift (Ax.bin .add (L.getD 0 .undef) (V.int .i64 1))).bind fun t139 =>
 M.pure (.nrm [t139]))
 (M.pure (.ex 0 []))
def zl5 (G:Sem') (t0 t1 t2 t3:V):M Res :=
 (mbox zk9 t3).bind fun t7 =>
 (M.lift (Ax.faddr 10 t7)).bind fun t15 =>
 (mload none t15).bind fun t16 =>
 (M.lift (Ax.nilck t1)).bind fun t17 =>
 (M.lift (Ax.faddr 39 t17)).bind fun t18 =>
 (M.lift (Ax.iaddr (some 8) 33 t18 t2)).bind fun t19 =>
 (M.lift (Ax.iaddr (some 3) 11 t19 t16)).bind fun t20 =>
 (M.lift (Ax.nilck t20)).bind fun t23 =>
 (M.lift (Ax.faddr 10 t23)).bind fun t24 =>
 (mload none t24).bind fun t25 =>
 (M.lift (Ax.faddr 0 t7)).bind fun t26 =>
 (M.lift (Ax.faddr 2 t26)).bind fun t27 =>
 (mload none t27).bind fun t28 =>
 (G zgU [t25,t28]).bind fun t29 =>
 (M.lift (Ax.nilck t20)).bind fun t30 =>
 (M.lift (Ax.faddr 10 t30)).bind fun t31 =>
 (mstore 1 t31 t29).bind fun _ =>
 (M.lift (Ax.faddr 12 t7)).bind fun t32 =>
 (M.lift (Ax.faddr 4 t32)).bind fun t33 =>
 (mload none t33).bind fun t34 =>
 M.join (M.ite t34
 ((M.lift (Ax.faddr 12 t7)).bind fun t36 =>
 (M.lift (Ax.faddr 5 t36)).bind fun t37 =>
 (mload (some 6) t37).bind fun t38 =>
 (M.lift (Ax.nilck t20)).bind fun t39 =>
 (M.lift (Ax.faddr 3 t39)).bind fun t40 =>
 (mstore 6 t40 t38).bind fun _ =>
 (M.lift (Ax.nilck t20)).bind fun t43 =>
 (M.lift (Ax.faddr 3 t43)).bind fun t44 =>
 (M.lift (Ax.faddr 1 t44)).bind fun t45 =>
 (mload none t45).bind fun t46 =>
 (M.lift (Ax.cint .u64 t46)).bind fun t47 =>
 (M.lift (Ax.bin .shl (V.int .u32 1) t47)).bind fun t48 =>
 (M.lift (Ax.bin .sub t48 (V.int .u32 1))).bind fun t49 =>
 (M.lift (Ax.nilck t20)).bind fun t50 =>
 (M.lift (Ax.faddr 9 t50)).bind fun t51 =>
 (mstore 1 t51 t49).bind fun _ =>
 M.pure (.nrm []))
 (M.pure (.nrm []))) fun _ =>
 (M.lift (Ax.faddr 12 t7)).bind fun t52 =>
 (M.lift (Ax.faddr 11 t52)).bind fun t53 =>
 (mload none t53).bind fun t54 =>
 M.join (M.ite t54
 ((M.lift (Ax.faddr 12 t7)).bind fun t56 =>
 (M.lift (Ax.faddr 12 t56)).bind fun t57 =>
 (mload none t57).bind fun t58 =>
 (M.lift (Ax.nilck t20)).bind fun t59 =>
 (M.lift (Ax.faddr 9 t59)).bind fun t60 =>
 (mstore 1 t60 t58).bind fun _ =>
 M.pure (.nrm []))
 (M.pure (.nrm []))) fun _ =>
 M.blk 0 (
 M.iter (zqt G t20 t0 t1 t2 t7) [(V.int .i64 0)]) fun _ =>
 M.pure (.ret [])
def zhy:Fn':=(T zdd).getD noF
theorem zre:T zdd = some zhy:=by kernel_rfl
theorem zsh (G:Sem') (t0 t1 t2 t3:V):execK G zhy.rv zhy.body [] [] (params 0 [t0,t1,t2,t3]) = zl5 G t0 t1 t2 t3:=by kernel_rfl
def ziK (G:Sem'):List V → M V
 | [t0,t1,t2,t3]=>fin (zl5 G t0 t1 t2 t3)
 | _=>M.fail
theorem zsY {g:Sem'} (hg:Sims g (sem T)) (args:List V):Sim (ziK g args) (sem T zdd args):=by
 unfold ziK;split
 ·exact zae zre (Nat.le_of_ble_eq_true (by kernel_rfl)) hg (zsh g _ _ _ _)
 ·exact zaa
def f_note_Parse (G:Sem') (t0:V):M Res :=
 (mbox zeO t0).bind fun t1 =>
 (mbox zaf (V.agg [(V.int .i64 0),(V.int .i64 0),(V.int .i64 0),(V.int .i64 0),(V.int .i64 0),(V.int .i64 0),V.nils])).bind fun t2 =>
 (mload none t1).bind fun t8 =>
 (M.lift (vlen t8)).bind fun t9 =>
 (M.lift (Ax.bin .lss t9 (V.int .i64 11))).bind fun t10 =>
 M.ite t10
 ((M.lift (Ax.build [(V.int .i64 0),(V.int .i64 0),(V.int .i64 0),(V.int .i64 0),(V.int .i64 0),(V.int .i64 0),V.nils] [])).bind fun t11 =>
 (mstore 7 t2 t11).bind fun _ =>
 (mload (some 7) t2).bind fun r0 =>
 M.pure (.ret [r0,(V.int .i64 3)]))
 ((M.pure (.fn zbf [t1])).bind fun t12 =>
 (mload none t1).bind fun t13 =>
 (M.lift (Ax.iaddr none 1 t13 (V.int .i64 0))).bind fun t14 =>
 (mload none t14).bind fun t15 =>
 (M.lift (Ax.cint .i64 t15)).bind fun t16 =>
 (mload none t1).bind fun t17 =>
 (M.lift (Ax.iaddr none 1 t17 (V.int .i64 1))).bind fun t18 =>
 (mload none t18).bind fun t19 =>
 (M.lift (Ax.cint .i64 t19)).bind fun t20 =>
 (mload none t1).bind fun t21 =>
 (M.lift (Ax.iaddr none 1 t21 (V.int .i64 2))).bind fun t22 =>
 (mload none t22).bind fun t23 =>
 (M.lift (Ax.cint .i64 t23)).bind fun t24 =>
 M.getH.bind fun h0 =>
 (callv G t12 [(V.int .i64 3)]).bind fun t26 =>
 M.getH.bind fun h0' =>
 (M.unch t22 h0 h0').bind fun _ =>
 (M.unch t1 h0 h0').bind fun _ =>
 (M.unch t18 h0 h0').bind fun _ =>
 (M.unch t1 h0 h0').bind fun _ =>
 (M.unch t14 h0 h0').bind fun _ =>
 (M.unch t1 h0 h0').bind fun _ =>
 M.getH.bind fun h1 =>
 (callv G t12 [(V.int .i64 5)]).bind fun t28 =>
 M.getH.bind fun h1' =>
 (M.unch t22 h1 h1').bind fun _ =>
 (M.unch t1 h1 h1').bind fun _ =>
 (M.unch t18 h1 h1').bind fun _ =>
 (M.unch t1 h1 h1').bind fun _ =>
 (M.unch t14 h1 h1').bind fun _ =>
 (M.unch t1 h1 h1').bind fun _ =>
 M.getH.bind fun h2 =>
 (callv G t12 [(V.int .i64 7)]).bind fun t30 =>
 M.getH.bind fun h2' =>
 (M.unch t22 h2 h2').bind fun _ =>
 (M.unch t1 h2 h2').bind fun _ =>
 (M.unch t18 h2 h2').bind fun _ =>
 (M.unch t1 h2 h2').bind fun _ =>
 (M.unch t14 h2 h2').bind fun _ =>
 (M.unch t1 h2 h2').bind fun _ =>
 (M.lift (Ax.build [(V.int .i64 0),(V.int .i64 0),(V.int .i64 0),(V.int .i64 0),(V.int .i64 0),(V.int .i64 0),V.nils] [(0,1,t16),(1,1,t20),(2,1,t24),(3,1,t26),(4,1,t28),(5,1,t30)])).bind fun t31 =>
 (mbox zaf (V.agg [(V.int .i64 0),(V.int .i64 0),(V.int .i64 0),(V.int .i64 0),(V.int .i64 0),(V.int .i64 0),V.nils])).bind fun t5 =>
 (mstore 7 t5 t31).bind fun _ =>
 (mload none t1).bind fun t34 =>
 (M.lift (zbo .sl 1 t34 (some (V.int .i64 11)) none none)).bind fun t35 =>
 M.getH.bind fun h3 =>
 (callv G t12 [(V.int .i64 9)]).bind fun t33 =>
 M.getH.bind fun h3' =>
 (M.unch t1 h3 h3').bind fun _ =>
 M.blk 0 (
 (M.lift (Ax.bin .gtr t33 (V.int .i64 200))).bind fun t38 =>
 M.ite t38
 ((M.lift (Ax.build [(V.int .i64 0),(V.int .i64 0),(V.int .i64 0),(V.int .i64 0),(V.int .i64 0),(V.int .i64 0),V.nils] [])).bind fun t39 =>
 (mstore 7 t2 t39).bind fun _ =>
 (mload (some 7) t2).bind fun r0 =>
 M.pure (.ret [r0,(V.int .i64 4)]))
 ((M.lift (vlen t35)).bind fun t43 =>
 (M.lift (Ax.bin .gtr t33 t43)).bind fun t44 =>
 M.ite t44
 ((M.lift (Ax.build [(V.int .i64 0),(V.int .i64 0),(V.int .i64 0),(V.int .i64 0),(V.int .i64 0),(V.int .i64 0),V.nils] [])).bind fun t45 =>
 (mstore 7 t2 t45).bind fun _ =>
 (mload (some 7) t2).bind fun r0 =>
 M.pure (.ret [r0,(V.int .i64 3)]))
 ((M.lift (vlen t35)).bind fun t49 =>
 (M.lift (Ax.bin .lss t33 t49)).bind fun t50 =>
 M.ite t50
 ((M.lift (Ax.build [(V.int .i64 0),(V.int .i64 0),(V.int .i64 0),(V.int .i64 0),(V.int .i64 0),(V.int .i64 0),V.nils] [])).bind fun t51 =>
 (mstore 7 t2 t51).bind fun _ =>
 (mload (some 7) t2).bind fun r0 =>
 M.pure (.ret [r0,(V.int .i64 2)]))
 (M.pure (.nrm []))))) fun _ =>
 (G zaL [t35]).bind fun t53 =>
 (M.lift (Ax.faddr 6 t5)).bind fun t54 =>
 (mstore 1 t54 t53).bind fun _ =>
 (mload (some 7) t5).bind fun t55 =>
 (G zcn [t55]).bind fun t56 =>
 (M.lift (Ax.un .not t56)).bind fun t57 =>
 M.ite t57
 ((M.lift (Ax.build [(V.int .i64 0),(V.int .i64 0),(V.int .i64 0),(V.int .i64 0),(V.int .i64 0),(V.int .i64 0),V.nils] [])).bind fun t58 =>
 (mstore 7 t2 t58).bind fun _ =>
 (mload (some 7) t2).bind fun r0 =>
 M.pure (.ret [r0,(V.int .i64 2)]))
 ((mload (some 7) t5).bind fun t59 =>
 (mstore 7 t2 t59).bind fun _ =>
 (mload (some 7) t2).bind fun r0 =>
 M.pure (.ret [r0,(V.int .i64 0)])))
def ir_note_Parse:Fn':=(T zcw).getD noF
theorem tb_note_Parse:T zcw = some ir_note_Parse:=by kernel_rfl
theorem eq_note_Parse (G:Sem') (t0:V):execK G ir_note_Parse.rv ir_note_Parse.body [] [] (params 0 [t0]) = f_note_Parse G t0:=by kernel_rfl
def zpa (G:Sem'):List V → M V
 | [t0]=>fin (f_note_Parse G t0)
 | _=>M.fail
theorem zAG {g:Sem'} (hg:Sims g (sem T)) (args:List V):Sim (zpa g args) (sem T zcw args):=by
 unfold zpa;split
 ·exact zae tb_note_Parse (Nat.le_of_ble_eq_true (by kernel_rfl)) hg (eq_note_Parse g _)
 ·exact zaa
def f_desk_Desk_no (G:Sem') (t0 t1 t2 t3:V):M Res :=
 (M.lift (Ax.build [(V.int .i64 0),(V.int .i64 0),(V.int .i64 0),(V.int .i64 0),(V.int .i64 0),(V.int .i64 0),V.nils] [(0,1,(V.int .i64 18)),(4,1,t2),(5,1,t3)])).bind fun t12 =>
 (G zaU [t0,t1,t12]).bind fun t13 =>
 M.pure (.ret [])
def ir_desk_Desk_no:Fn':=(T zbz).getD noF
theorem tb_desk_Desk_no:T zbz = some ir_desk_Desk_no:=by kernel_rfl
theorem eq_desk_Desk_no (G:Sem') (t0 t1 t2 t3:V):execK G ir_desk_Desk_no.rv ir_desk_Desk_no.body [] [] (params 0 [t0,t1,t2,t3]) = f_desk_Desk_no G t0 t1 t2 t3:=by kernel_rfl
def zlJ (G:Sem'):List V → M V
 | [t0,t1,t2,t3]=>fin (f_desk_Desk_no G t0 t1 t2 t3)
 | _=>M.fail
theorem zxs {g:Sem'} (hg:Sims g (sem T)) (args:List V):Sim (zlJ g args) (sem T zbz args):=by
 unfold zlJ;split
 ·exact zae tb_desk_Desk_no (Nat.le_of_ble_eq_true (by kernel_rfl)) hg (eq_desk_Desk_no g _ _ _ _)
 ·exact zaa
def zr2 (G:Sem') (t47 t8 t6:V) (L:List V):M Res :=
 (M.lift (Ax.bin .lss (L.getD 1 .undef) (V.int .i64 8))).bind fun t49 =>
 M.ite t49
 (M.blk 1 (
 (M.lift (Ax.index 8 1 none t47 (L.getD 1 .undef))).bind fun t51 =>
 M.join (M.ite t51
 ((M.lift (Ax.faddr 0 t8)).bind fun t55 =>
 (M.lift (Ax.faddr 8 t55)).bind fun t56 =>
 (M.lift (Ax.iaddr (some 8) 1 t56 (L.getD 1 .undef))).bind fun t57 =>
 (mload none t57).bind fun t58 =>
 (M.lift (Ax.cint .u8 t58)).bind fun t59 =>
 (mslit zaj 1 [(V.int .u8 0)] [(0,1,t59)]).bind fun t60 =>
 (mappend zaj 1 1 (L.getD 0 .undef) t60).bind fun t61 =>
 M.pure (.nrm [t61]))
 ((mslit zaj 1 [(V.int .u8 0)] [(0,1,(V.int .u8 255))]).bind fun t63 =>
 (mappend zaj 1 1 (L.getD 0 .undef) t63).bind fun t64 =>
 M.pure (.nrm [t64]))) fun L0 =>
 M.pure (.nrm [(L0.getD 0 .undef)])) fun L1 =>
 (M.lift (Ax.bin .add (L.getD 1 .undef) (V.int .i64 1))).bind fun t65 =>
 M.pure (.nrm [(L1.getD 0 .undef),t65]))
 (M.pure (.ex 0 [(L.getD 0 .undef)]))
def znt (G:Sem') (t0 t1 t2:V):M Res :=
 (mbox zaf t2).bind fun t5 =>
 (M.lift (Ax.faddr 1 t5)).bind fun t16 =>
 (mload none t16).bind fun t17 =>
 (M.lift (Ax.nilck t0)).bind fun t18 =>
 (M.lift (Ax.faddr 0 t18)).bind fun t19 =>
 (M.lift (Ax.iaddr (some 4) 367 t19 t17)).bind fun t20 =>
 (M.lift (Ax.nilck t20)).bind fun t23 =>
 (M.lift (Ax.faddr 0 t23)).bind fun t24 =>
 (mload (some 39) t24).bind fun t25 =>
 (M.lift (Ax.nilck t0)).bind fun t28 =>
 (M.lift (Ax.faddr 1468 t28)).bind fun t29 =>
 (mload none t29).bind fun t30 =>
 (G zhe [t25,t1,t30]).bind fun t31 =>
 (M.lift (Ax.ext 0 t31)).bind fun t32 =>
 (mbox zaE (V.agg [(V.bool false),(V.bool false),(V.bool false),(V.bool false),(V.bool false),(V.bool false),(V.bool false),(V.bool false),(V.int .i64 0),(V.int .i64 0),(V.int .i64 0),(V.int .i64 0),(V.int .i64 0),(V.int .i64 0),(V.int .i64 0),(V.int .i64 0),(V.int .i64 0),(V.bool false),(V.int .i64 0),(V.int .i64 0),(V.int .i64 0),(V.int .i64 0),(V.int .i64 0),(V.int .i64 0),(V.int .i64 0),(V.int .i64 0),(V.int .i64 0),(V.int .i64 0),(V.int .i64 0),(V.int .i64 0),(V.int .i64 0),(V.int .i64 0),(V.int .i64 0),(V.int .i64 0),(V.int .i64 0),(V.int .i64 0),(V.int .i64 0),(V.int .i64 0),(V.bool false)])).bind fun t8 =>
 (mstore 39 t8 t32).bind fun _ =>
 (M.lift (Ax.ext 1 t31)).bind fun t33 =>
 (M.lift (Ax.ext 2 t31)).bind fun t34 =>
 (M.lift (Ax.bin .neq t34 (V.int .i64 0))).bind fun t36 =>
 M.ite t36
 (M.pure (.ret [t34]))
 ((mload (some 39) t8).bind fun t39 =>
 (M.lift (Ax.nilck t20)).bind fun t40 =>
 (M.lift (Ax.faddr 0 t40)).bind fun t41 =>
 (mstore 39 t41 t39).bind fun _ =>
 (M.lift (Ax.faddr 0 t8)).bind fun t42 =>
 (mload (some 16) t42).bind fun t43 =>
 (G zbU [t43]).bind fun t44 =>
 (M.lift (Ax.faddr 0 t8)).bind fun t45 =>
 (M.lift (Ax.faddr 0 t45)).bind fun t46 =>
 (mload (some 8) t46).bind fun t47 =>
 M.blk 0 (
 M.iter (zr2 G t47 t8 (V.int .i64 0)) [V.nils,(V.int .i64 0)]) fun L2 =>
 (M.lift (Ax.faddr 1 t5)).bind fun t68 =>
 (mload none t68).bind fun t69 =>
 (M.lift (Ax.faddr 16 t8)).bind fun t71 =>
 (M.lift (Ax.faddr 0 t71)).bind fun t72 =>
 (mload none t72).bind fun t73 =>
 M.getH.bind fun h0 =>
 (G zbO [t20]).bind fun t76 =>
 M.getH.bind fun h0' =>
 (M.unch t72 h0 h0').bind fun _ =>
 (M.unch t68 h0 h0').bind fun _ =>
 (M.lift (Ax.build [(V.int .i64 0),(V.int .i64 0),(V.int .i64 0),(V.int .i64 0),(V.int .i64 0),(V.int .i64 0),V.nils] [(0,1,(V.int .i64 17)),(1,1,t69),(2,1,t33),(3,1,t73),(4,1,t44),(5,1,t76),(6,1,(L2.getD 0 .undef))])).bind fun t78 =>
 (G zaU [t0,t1,t78]).bind fun t79 =>
 (M.lift (Ax.faddr 16 t8)).bind fun t84 =>
 (M.lift (Ax.faddr 0 t84)).bind fun t85 =>
 (mload none t85).bind fun t86 =>
 (M.lift (Ax.build [(V.int .i64 0),(V.int .i64 0),(V.int .i64 0),(V.int .i64 0),(V.int .i64 0),(V.int .i64 0),V.nils] [(0,1,(V.int .i64 19)),(2,1,t33),(3,1,t86),(4,1,t44),(5,1,t1)])).bind fun t89 =>
 (G zcg [t0,t20,t33,t89]).bind fun t90 =>
 M.pure (.ret [(V.int .i64 0)]))
def zij:Fn':=(T zcX).getD noF
theorem zsH:T zcX = some zij:=by kernel_rfl
theorem ztB (G:Sem') (t0 t1 t2:V):execK G zij.rv zij.body [] [] (params 0 [t0,t1,t2]) = znt G t0 t1 t2:=by kernel_rfl
def zjK (G:Sem'):List V → M V
 | [t0,t1,t2]=>fin (znt G t0 t1 t2)
 | _=>M.fail
theorem zuN {g:Sem'} (hg:Sims g (sem T)) (args:List V):Sim (zjK g args) (sem T zcX args):=by
 unfold zjK;split
 ·exact zae zsH (Nat.le_of_ble_eq_true (by kernel_rfl)) hg (ztB g _ _ _)
 ·exact zaa
def f_desk_Desk_said (G:Sem') (t0 t1 t2 t3:V):M Res :=
 (mbox zaf t3).bind fun t7 =>
 (M.lift (Ax.nilck t1)).bind fun t14 =>
 (M.lift (Ax.faddr 0 t14)).bind fun t15 =>
 (mload (some 39) t15).bind fun t16 =>
 (M.lift (Ax.nilck t1)).bind fun t19 =>
 (M.lift (Ax.faddr 0 t19)).bind fun t20 =>
 (M.lift (Ax.faddr 0 t20)).bind fun t21 =>
 (M.lift (Ax.faddr 8 t21)).bind fun t22 =>
 (M.lift (Ax.iaddr (some 8) 1 t22 t2)).bind fun t23 =>
 (mload none t23).bind fun t24 =>
 (mbox zaE (V.agg [(V.bool false),(V.bool false),(V.bool false),(V.bool false),(V.bool false),(V.bool false),(V.bool false),(V.bool false),(V.int .i64 0),(V.int .i64 0),(V.int .i64 0),(V.int .i64 0),(V.int .i64 0),(V.int .i64 0),(V.int .i64 0),(V.int .i64 0),(V.int .i64 0),(V.bool false),(V.int .i64 0),(V.int .i64 0),(V.int .i64 0),(V.int .i64 0),(V.int .i64 0),(V.int .i64 0),(V.int .i64 0),(V.int .i64 0),(V.int .i64 0),(V.int .i64 0),(V.int .i64 0),(V.int .i64 0),(V.int .i64 0),(V.int .i64 0),(V.int .i64 0),(V.int .i64 0),(V.int .i64 0),(V.int .i64 0),(V.int .i64 0),(V.int .i64 0),(V.bool false)])).bind fun t9 =>
 M.getH.bind fun h0 =>
 (mstore 39 t9 t16).bind fun _ =>
 M.getH.bind fun h0' =>
 (M.unch t23 h0 h0').bind fun _ =>
 (M.lift (Ax.faddr 0 t7)).bind fun t25 =>
 (mload none t25).bind fun t26 =>
 M.blk 0 (
 (M.lift (Ax.bin .eql t26 (V.int .i64 2))).bind fun t28 =>
 M.join (M.ite t28
 ((M.lift (Ax.nilck t1)).bind fun t32 =>
 (M.lift (Ax.faddr 0 t32)).bind fun t33 =>
 (mload (some 39) t33).bind fun t34 =>
 (M.lift (Ax.nilck t0)).bind fun t37 =>
 (M.lift (Ax.faddr 1468 t37)).bind fun t38 =>
 (mload none t38).bind fun t39 =>
 (G zeY [t34,t24,t39]).bind fun t40 =>
 (M.lift (Ax.ext 0 t40)).bind fun t41 =>
 (M.lift (Ax.nilck t1)).bind fun t43 =>
 (M.lift (Ax.faddr 0 t43)).bind fun t44 =>
 (mstore 39 t44 t41).bind fun _ =>
 (M.lift (Ax.ext 1 t40)).bind fun t42 =>
 (mload (some 39) t9).bind fun t47 =>
 (G zbP [t0,t1,t47]).bind fun t48 =>
 M.pure (.nrm [t42]))
 ((M.lift (Ax.bin .eql t26 (V.int .i64 3))).bind fun t50 =>
 M.join (M.ite t50
 ((M.lift (Ax.nilck t1)).bind fun t54 =>
 (M.lift (Ax.faddr 0 t54)).bind fun t55 =>
 (mload (some 39) t55).bind fun t56 =>
 (M.lift (Ax.faddr 2 t7)).bind fun t58 =>
 (mload none t58).bind fun t59 =>
 (M.lift (Ax.nilck t0)).bind fun t61 =>
 (M.lift (Ax.faddr 1468 t61)).bind fun t62 =>
 (mload none t62).bind fun t63 =>
 (G zfR [t56,t24,t59,t63]).bind fun t64 =>
 (M.lift (Ax.ext 0 t64)).bind fun t65 =>
 (M.lift (Ax.nilck t1)).bind fun t67 =>
 (M.lift (Ax.faddr 0 t67)).bind fun t68 =>
 (mstore 39 t68 t65).bind fun _ =>
 (M.lift (Ax.ext 1 t64)).bind fun t66 =>
 (mload (some 39) t9).bind fun t71 =>
 (G zbP [t0,t1,t71]).bind fun t72 =>
 M.pure (.nrm [t66]))
 ((M.lift (Ax.bin .eql t26 (V.int .i64 4))).bind fun t74 =>
 M.ite t74
 ((mload (some 7) t7).bind fun t77 =>
 (G zcS [t1,t2,t77]).bind fun t78 =>
 M.pure (.ret [t78]))
 ((M.lift (Ax.bin .eql t26 (V.int .i64 5))).bind fun t80 =>
 M.ite t80
 ((mload (some 7) t7).bind fun t84 =>
 (G zcU [t0,t1,t2,t84]).bind fun t85 =>
 M.pure (.ret [t85]))
 ((M.lift (Ax.bin .eql t26 (V.int .i64 6))).bind fun t87 =>
 M.join (M.ite t87
 ((M.lift (Ax.faddr 2 t7)).bind fun t90 =>
 (mload none t90).bind fun t91 =>
 (M.lift (Ax.nilck t1)).bind fun t92 =>
 (M.lift (Ax.faddr 303 t92)).bind fun t93 =>
 (M.lift (Ax.iaddr (some 8) 8 t93 t2)).bind fun t94 =>
 (M.lift (Ax.iaddr (some 8) 1 t94 t91)).bind fun t95 =>
 (mload none t95).bind fun t96 =>
 (M.lift (eqr .ptr false t96 V.nilp)).bind fun t97 =>
 M.ite t97
 (M.pure (.ret [(V.int .i64 6)]))
 ((M.lift (Ax.faddr 2 t7)).bind fun t100 =>
 (mload none t100).bind fun t101 =>
 (M.lift (Ax.nilck t1)).bind fun t102 =>
 (M.lift (Ax.faddr 303 t102)).bind fun t103 =>
 (M.lift (Ax.iaddr (some 8) 8 t103 t2)).bind fun t104 =>
 (M.lift (Ax.iaddr (some 8) 1 t104 t101)).bind fun t105 =>
 (mstore 1 t105 V.nilp).bind fun _ =>
 M.pure (.nrm [(V.int .i64 0)])))
 ((M.lift (Ax.bin .eql t26 (V.int .i64 7))).bind fun t107 =>
 M.ite t107
 ((mload (some 7) t7).bind fun t111 =>
 (G zbK [t0,t1,t2,t111]).bind fun t112 =>
 M.pure (.ret [t112]))
 ((M.lift (Ax.bin .eql t26 (V.int .i64 8))).bind fun t114 =>
 M.join (M.ite t114
 ((M.lift (Ax.nilck t1)).bind fun t118 =>
 (M.lift (Ax.faddr 0 t118)).bind fun t119 =>
 (mload (some 39) t119).bind fun t120 =>
 (M.lift (Ax.faddr 3 t7)).bind fun t122 =>
 (mload none t122).bind fun t123 =>
 (G zfS [t120,t24,t123]).bind fun t124 =>
 (M.lift (Ax.ext 0 t124)).bind fun t125 =>
 (M.lift (Ax.nilck t1)).bind fun t128 =>
 (M.lift (Ax.faddr 0 t128)).bind fun t129 =>
 (mstore 39 t129 t125).bind fun _ =>
 (M.lift (Ax.ext 1 t124)).bind fun t126 =>
 (M.lift (Ax.ext 2 t124)).bind fun t127 =>
 M.join (M.ite t126
 ((M.lift (Ax.nilck t1)).bind fun t134 =>
 (M.lift (Ax.faddr 0 t134)).bind fun t135 =>
 (M.lift (Ax.faddr 16 t135)).bind fun t136 =>
 (M.lift (Ax.faddr 0 t136)).bind fun t137 =>
 (mload none t137).bind fun t138 =>
 (M.lift (Ax.build [(V.int .i64 0),(V.int .i64 0),(V.int .i64 0),(V.int .i64 0),(V.int .i64 0),(V.int .i64 0),V.nils] [(0,1,(V.int .i64 22)),(3,1,t138)])).bind fun t139 =>
 (G zcg [t0,t1,(V.int .i64 (-1)),t139]).bind fun t140 =>
 M.pure (.nrm []))
 (M.pure (.nrm []))) fun _ =>
 M.pure (.nrm [t127]))
 (M.pure (.nrm [(V.int .i64 0)]))) fun L1 =>
 M.pure (.nrm [(L1.getD 0 .undef)])))) fun L2 =>
 M.pure (.nrm [(L2.getD 0 .undef)]))))) fun L3 =>
 M.pure (.nrm [(L3.getD 0 .undef)]))) fun L4 =>
 M.pure (.nrm [(L4.getD 0 .undef)])) fun L5 =>
 M.pure (.ret [(L5.getD 0 .undef)])
def ir_desk_Desk_said:Fn':=(T zby).getD noF
theorem tb_desk_Desk_said:T zby = some ir_desk_Desk_said:=by kernel_rfl
theorem eq_desk_Desk_said (G:Sem') (t0 t1 t2 t3:V):execK G ir_desk_Desk_said.rv ir_desk_Desk_said.body [] [] (params 0 [t0,t1,t2,t3]) = f_desk_Desk_said G t0 t1 t2 t3:=by kernel_rfl
def zjG (G:Sem'):List V → M V
 | [t0,t1,t2,t3]=>fin (f_desk_Desk_said G t0 t1 t2 t3)
 | _=>M.fail
theorem zuJ {g:Sem'} (hg:Sims g (sem T)) (args:List V):Sim (zjG g args) (sem T zby args):=by
 unfold zjG;split
 ·exact zae tb_desk_Desk_said (Nat.le_of_ble_eq_true (by kernel_rfl)) hg (eq_desk_Desk_said g _ _ _ _)
 ·exact zaa
def zzu (G:Sem') (t25 t6 t7 t1 t2 t4 t5:V) (L:List V):M Res :=
 (M.lift (Ax.bin .lss (L.getD 0 .undef) (V.int .i64 8))).bind fun t27 =>
 M.ite t27
 (M.blk 1 (
 (M.lift (Ax.index 8 1 none t25 (L.getD 0 .undef))).bind fun t29 =>
 (M.lift (Ax.faddr 22 t6)).bind fun t32 =>
 (M.lift (Ax.iaddr (some 8) 1 t32 (L.getD 0 .undef))).bind fun t33 =>
 (mload none t33).bind fun t34 =>
 (M.lift (Ax.bin .geq t1 t34)).bind fun t35 =>
 (guarded [(0,t35)] (some (0,true)) (M.pure t1)).bind fun t37 =>
 (guarded [(0,t35)] (some (0,true)) (M.lift (Ax.cint .u64 t37))).bind fun t38 =>
 (guarded [(0,t35)] (some (0,true)) (M.pure (L.getD 0 .undef))).bind fun t39 =>
 (guarded [(0,t35)] (some (0,true)) (M.lift (Ax.faddr 22 t6))).bind fun t40 =>
 (guarded [(0,t35)] (some (0,true)) (M.lift (Ax.iaddr (some 8) 1 t40 t39))).bind fun t41 =>
 (guarded [(0,t35)] (some (0,true)) (mload none t41)).bind fun t42 =>
 (guarded [(0,t35)] (some (0,true)) (M.lift (Ax.cint .u64 t42))).bind fun t43 =>
 (guarded [(0,t35)] (some (0,true)) (M.lift (Ax.bin .sub t38 t43))).bind fun t44 =>
 (guarded [(0,t35)] (some (0,true)) (M.lift (Ax.bin .geq t44 (V.int .u64 500)))).bind fun t45 =>
 (M.lift (Ax.pick t35 t45 (V.bool false))).bind fun t46 =>
 (guarded [(0,t29)] (some (0,true)) (M.lift (Ax.faddr 38 t2))).bind fun t49 =>
 (guarded [(0,t29)] (some (0,true)) (mload none t49)).bind fun t50 =>
 (guarded [(0,t29)] (some (0,true)) (M.lift (Ax.un .not t50))).bind fun t51 =>
 (M.lift (Ax.pick t29 t51 (V.bool false))).bind fun t52 =>
 (guarded [(0,t52)] (some (0,true)) (M.pure t46)).bind fun t54 =>
 (guarded [(0,t52)] (some (0,true)) (M.pure t54)).bind fun t55 =>
 (guarded [(0,t55)] (some (0,false)) (M.pure t7)).bind fun t56 =>
 (guarded [(0,t55)] (some (0,false)) (M.pure (L.getD 0 .undef))).bind fun t57 =>
 (guarded [(0,t55)] (some (0,false)) (M.lift (Ax.bin .shr t56 t57))).bind fun t58 =>
 (guarded [(0,t55)] (some (0,false)) (M.lift (Ax.bin .and t58 (V.int .i64 1)))).bind fun t59 =>
 (guarded [(0,t55)] (some (0,false)) (M.lift (Ax.bin .eql t59 (V.int .i64 1)))).bind fun t60 =>
 (guarded [(0,t52)] (some (0,true)) (M.lift (Ax.pick t55 (V.bool true) t60))).bind fun t61 =>
 (M.lift (Ax.pick t52 t61 (V.bool false))).bind fun t62 =>
 M.join (M.ite t62
 ((mload (some 39) t2).bind fun t63 =>
 (G zdw [t63,(L.getD 0 .undef),t1]).bind fun t66 =>
 (mstore 39 t2 t66).bind fun _ =>
 M.pure (.nrm []))
 (M.pure (.nrm []))) fun _ =>
 M.pure (.nrm [])) fun _ =>
 (M.lift (Ax.bin .add (L.getD 0 .undef) (V.int .i64 1))).bind fun t67 =>
 M.pure (.nrm [t67]))
 (M.pure (.ex 0 []))
def zzt (G:Sem') (t70 t2 t4 t5:V) (L:List V):M Res :=
 (M.lift (Ax.bin .lss (L.getD 1 .undef) (V.int .i64 8))).bind fun t72 =>
 M.ite t72
 (M.blk 3 (
 (M.lift (Ax.index 8 1 none t70 (L.getD 1 .undef))).bind fun t74 =>
 (guarded [(0,t74)] (some (0,true)) (M.pure (L.getD 1 .undef))).bind fun t77 =>
 (guarded [(0,t74)] (some (0,true)) (M.lift (Ax.faddr 0 t2))).bind fun t78 =>
 (guarded [(0,t74)] (some (0,true)) (M.lift (Ax.faddr 0 t78))).bind fun t79 =>
 (guarded [(0,t74)] (some (0,true)) (M.lift (Ax.iaddr (some 8) 1 t79 t77))).bind fun t80 =>
 (guarded [(0,t74)] (some (0,true)) (mload none t80)).bind fun t81 =>
 (guarded [(0,t74)] (some (0,true)) (M.lift (Ax.un .not t81))).bind fun t82 =>
 (M.lift (Ax.pick t74 t82 (V.bool false))).bind fun t83 =>
 M.join (M.ite t83
 ((mslit ze5 1 [(V.int .i64 0)] [(0,1,(L.getD 1 .undef))]).bind fun t86 =>
 (mappend ze5 1 8 (L.getD 0 .undef) t86).bind fun t87 =>
 M.pure (.nrm [t87]))
 (M.pure (.nrm [(L.getD 0 .undef)]))) fun L3 =>
 M.pure (.nrm [(L3.getD 0 .undef)])) fun L4 =>
 (M.lift (Ax.bin .add (L.getD 1 .undef) (V.int .i64 1))).bind fun t88 =>
 M.pure (.nrm [(L4.getD 0 .undef),t88]))
 (M.pure (.ex 2 [(L.getD 0 .undef)]))
def zwn (G:Sem') (t0 t1:V):M Res :=
 (mbox zaE t0).bind fun t2 =>
 (mbox zaE (V.agg [(V.bool false),(V.bool false),(V.bool false),(V.bool false),(V.bool false),(V.bool false),(V.bool false),(V.bool false),(V.int .i64 0),(V.int .i64 0),(V.int .i64 0),(V.int .i64 0),(V.int .i64 0),(V.int .i64 0),(V.int .i64 0),(V.int .i64 0),(V.int .i64 0),(V.bool false),(V.int .i64 0),(V.int .i64 0),(V.int .i64 0),(V.int .i64 0),(V.int .i64 0),(V.int .i64 0),(V.int .i64 0),(V.int .i64 0),(V.int .i64 0),(V.int .i64 0),(V.int .i64 0),(V.int .i64 0),(V.int .i64 0),(V.int .i64 0),(V.int .i64 0),(V.int .i64 0),(V.int .i64 0),(V.int .i64 0),(V.int .i64 0),(V.int .i64 0),(V.bool false)])).bind fun t4 =>
 (mload (some 39) t2).bind fun t14 =>
 (G zcm [t14]).bind fun t15 =>
 (M.lift (Ax.un .not t15)).bind fun t16 =>
 M.ite t16
 ((mload (some 39) t2).bind fun t17 =>
 (mstore 39 t4 t17).bind fun _ =>
 (mload (some 39) t4).bind fun r0 =>
 M.pure (.ret [r0,V.nils]))
 ((mload (some 39) t2).bind fun t18 =>
 (M.lift (Ax.faddr 16 t2)).bind fun t19 =>
 (mload (some 6) t19).bind fun t20 =>
 M.getH.bind fun h0 =>
 (G zga [t20,t1]).bind fun t22 =>
 M.getH.bind fun h0' =>
 (M.unch t2 h0 h0').bind fun _ =>
 (mbox zaE (V.agg [(V.bool false),(V.bool false),(V.bool false),(V.bool false),(V.bool false),(V.bool false),(V.bool false),(V.bool false),(V.int .i64 0),(V.int .i64 0),(V.int .i64 0),(V.int .i64 0),(V.int .i64 0),(V.int .i64 0),(V.int .i64 0),(V.int .i64 0),(V.int .i64 0),(V.bool false),(V.int .i64 0),(V.int .i64 0),(V.int .i64 0),(V.int .i64 0),(V.int .i64 0),(V.int .i64 0),(V.int .i64 0),(V.int .i64 0),(V.int .i64 0),(V.int .i64 0),(V.int .i64 0),(V.int .i64 0),(V.int .i64 0),(V.int .i64 0),(V.int .i64 0),(V.int .i64 0),(V.int .i64 0),(V.int .i64 0),(V.int .i64 0),(V.int .i64 0),(V.bool false)])).bind fun t6 =>
 (mstore 39 t6 t18).bind fun _ =>
 (M.lift (Ax.faddr 0 t6)).bind fun t23 =>
 (M.lift (Ax.faddr 0 t23)).bind fun t24 =>
 (mload (some 8) t24).bind fun t25 =>
 M.blk 0 (
 M.iter (zzu G t25 t6 t22 t1 t2 t4 V.nils) [(V.int .i64 0)]) fun _ =>
 (M.lift (Ax.faddr 0 t6)).bind fun t68 =>
 (M.lift (Ax.faddr 0 t68)).bind fun t69 =>
 (mload (some 8) t69).bind fun t70 =>
 M.blk 2 (
 M.iter (zzt G t70 t2 t4 V.nils) [V.nils,(V.int .i64 0)]) fun L5 =>
 (mload (some 39) t2).bind fun t89 =>
 (mstore 39 t4 t89).bind fun _ =>
 (mload (some 39) t4).bind fun r0 =>
 M.pure (.ret [r0,(L5.getD 0 .undef)]))
def zoc:Fn':=(T zhd).getD noF
theorem zz8:T zhd = some zoc:=by kernel_rfl
theorem zBt (G:Sem') (t0 t1:V):execK G zoc.rv zoc.body [] [] (params 0 [t0,t1]) = zwn G t0 t1:=by kernel_rfl
def zqQ (G:Sem'):List V → M V
 | [t0,t1]=>fin (zwn G t0 t1)
 | _=>M.fail
theorem zCj {g:Sem'} (hg:Sims g (sem T)) (args:List V):Sim (zqQ g args) (sem T zhd args):=by
 unfold zqQ;split
 ·exact zae zz8 (Nat.le_of_ble_eq_true (by kernel_rfl)) hg (zBt g _ _)
 ·exact zaa
def zrZ (G:Sem') (t17 t1:V) (L:List V):M Res :=
 (M.lift (Ax.bin .lss (L.getD 1 .undef) (V.int .i64 8))).bind fun t19 =>
 M.ite t19
 (M.blk 1 (
 (M.lift (Ax.index 8 1 none t17 (L.getD 1 .undef))).bind fun t21 =>
 (guarded [(0,t21)] (some (0,true)) (M.pure t1)).bind fun t24 =>
 (guarded [(0,t21)] (some (0,true)) (M.pure (L.getD 1 .undef))).bind fun t25 =>
 (guarded [(0,t21)] (some (0,true)) (M.lift (Ax.nilck t24))).bind fun t26 =>
 (guarded [(0,t21)] (some (0,true)) (M.lift (Ax.faddr 0 t26))).bind fun t27 =>
 (guarded [(0,t21)] (some (0,true)) (M.lift (Ax.faddr 0 t27))).bind fun t28 =>
 (guarded [(0,t21)] (some (0,true)) (M.lift (Ax.faddr 0 t28))).bind fun t29 =>
 (guarded [(0,t21)] (some (0,true)) (M.lift (Ax.iaddr (some 8) 1 t29 t25))).bind fun t30 =>
 (guarded [(0,t21)] (some (0,true)) (mload none t30)).bind fun t31 =>
 (guarded [(0,t21)] (some (0,true)) (M.lift (Ax.un .not t31))).bind fun t32 =>
 (M.lift (Ax.pick t21 t32 (V.bool false))).bind fun t33 =>
 M.join (M.ite t33
 ((mslit ze5 1 [(V.int .i64 0)] [(0,1,(L.getD 1 .undef))]).bind fun t36 =>
 (mappend ze5 1 8 (L.getD 0 .undef) t36).bind fun t37 =>
 M.pure (.nrm [t37]))
 (M.pure (.nrm [(L.getD 0 .undef)]))) fun L0 =>
 M.pure (.nrm [(L0.getD 0 .undef)])) fun L1 =>
 (M.lift (Ax.bin .add (L.getD 1 .undef) (V.int .i64 1))).bind fun t38 =>
 M.pure (.nrm [(L1.getD 0 .undef),t38]))
 (M.pure (.ex 0 [(L.getD 0 .undef)]))
def zrY (G:Sem') (t1 t10:V) (L:List V):M Res :=
 (M.lift (Ax.bin .lss (L.getD 0 .undef) (V.int .i64 8))).bind fun t46 =>
 M.ite t46
 (M.blk 5 (
 (M.lift (Ax.nilck t1)).bind fun t54 =>
 (M.lift (Ax.faddr 303 t54)).bind fun t55 =>
 (M.lift (Ax.iaddr (some 8) 8 t55 t10)).bind fun t56 =>
 (M.lift (Ax.iaddr (some 8) 1 t56 (L.getD 0 .undef))).bind fun t57 =>
 (M.lift (Ax.nilck t1)).bind fun t58 =>
 (M.lift (Ax.faddr 303 t58)).bind fun t59 =>
 (M.lift (Ax.iaddr (some 8) 8 t59 (L.getD 0 .undef))).bind fun t60 =>
 (mstore 1 t57 V.nilp).bind fun _ =>
 (M.lift (Ax.iaddr (some 8) 1 t60 t10)).bind fun t61 =>
 (mstore 1 t61 V.nilp).bind fun _ =>
 M.pure (.nrm [])) fun _ =>
 (M.lift (Ax.bin .add (L.getD 0 .undef) (V.int .i64 1))).bind fun t62 =>
 M.pure (.nrm [t62]))
 (M.pure (.ex 4 []))
def zrX (G:Sem') (t40 t39 t1 t5 t0:V) (L:List V):M Res :=
 (M.lift (Ax.bin .lss (L.getD 0 .undef) t40)).bind fun t42 =>
 M.ite t42
 (M.blk 3 (
 (M.lift (Ax.iaddr none 1 t39 (L.getD 0 .undef))).bind fun t43 =>
 (mload none t43).bind fun t44 =>
 M.blk 4 (
 M.iter (zrY G t1 t44) [(V.int .i64 0)]) fun _ =>
 (M.lift (Ax.build [(V.bool false),(V.int .u32 0),(V.int .i64 0),(V.int .i64 0),(V.int .i64 0),V.nils,(V.int .i64 0),V.nils,V.nils,(V.int .u32 0),V.nils,(V.bool false),(V.int .u32 0),(V.int .i64 0),(V.int .i64 0),(V.int .i64 0),V.nils,(V.int .i64 0),V.nils,V.nils,(V.int .u32 0),V.nils,(V.bool false),(V.int .u32 0),(V.int .i64 0),(V.int .i64 0),(V.int .i64 0),V.nils,(V.int .i64 0),V.nils,V.nils,(V.int .u32 0),V.nils] [])).bind fun t65 =>
 (M.lift (Ax.nilck t1)).bind fun t66 =>
 (M.lift (Ax.faddr 39 t66)).bind fun t67 =>
 (M.lift (Ax.iaddr (some 8) 33 t67 t44)).bind fun t68 =>
 (mstore 33 t68 t65).bind fun _ =>
 (M.lift (Ax.faddr 0 t5)).bind fun t70 =>
 (M.lift (Ax.faddr 8 t70)).bind fun t71 =>
 (M.lift (Ax.iaddr (some 8) 1 t71 t44)).bind fun t72 =>
 (mload none t72).bind fun t73 =>
 (M.lift (Ax.nilck t0)).bind fun t76 =>
 (M.lift (Ax.faddr 1470 t76)).bind fun t77 =>
 (M.lift (Ax.iaddr (some 64) 1 t77 t73)).bind fun t78 =>
 (mload none t78).bind fun t79 =>
 (G zbx [t79]).bind fun t80 =>
 (M.lift (Ax.build [(V.int .i64 0),(V.int .i64 0),(V.int .i64 0),(V.int .i64 0),(V.int .i64 0),(V.int .i64 0),V.nils] [(0,1,(V.int .i64 23))])).bind fun t83 =>
 (G zaU [t0,t73,t83]).bind fun t84 =>
 M.pure (.nrm [])) fun _ =>
 (M.lift (Ax.bin .add (L.getD 0 .undef) (V.int .i64 1))).bind fun t85 =>
 M.pure (.nrm [t85]))
 (M.pure (.ex 2 []))
def zrW (G:Sem') (t87 t86 t0 t1:V) (L:List V):M Res :=
 (M.lift (Ax.bin .lss (L.getD 0 .undef) t87)).bind fun t89 =>
 M.ite t89
 (M.blk 7 (
 (M.lift (Ax.iaddr none 1 t86 (L.getD 0 .undef))).bind fun t90 =>
 (mload none t90).bind fun t91 =>
 (M.lift (Ax.nilck t1)).bind fun t99 =>
 (M.lift (Ax.faddr 0 t99)).bind fun t100 =>
 (M.lift (Ax.faddr 0 t100)).bind fun t101 =>
 (mload (some 16) t101).bind fun t102 =>
 M.getH.bind fun h0 =>
 (G zbO [t1]).bind fun t97 =>
 M.getH.bind fun h0' =>
 (M.unch t101 h0 h0').bind fun _ =>
 (G zbU [t102]).bind fun t103 =>
 (M.lift (Ax.build [(V.int .i64 0),(V.int .i64 0),(V.int .i64 0),(V.int .i64 0),(V.int .i64 0),(V.int .i64 0),V.nils] [(0,1,(V.int .i64 20)),(2,1,t91),(3,1,t97),(4,1,t103)])).bind fun t104 =>
 (G zcg [t0,t1,t91,t104]).bind fun t105 =>
 M.pure (.nrm [])) fun _ =>
 (M.lift (Ax.bin .add (L.getD 0 .undef) (V.int .i64 1))).bind fun t106 =>
 M.pure (.nrm [t106]))
 (M.pure (.ex 6 []))
def zno (G:Sem') (t0 t1 t2:V):M Res :=
 (mbox zaE t2).bind fun t5 =>
 (M.lift (Ax.faddr 0 t5)).bind fun t15 =>
 (M.lift (Ax.faddr 0 t15)).bind fun t16 =>
 (mload (some 8) t16).bind fun t17 =>
 M.blk 0 (
 M.iter (zrZ G t17 t1) [V.nils,(V.int .i64 0)]) fun L2 =>
 (M.lift (vlen (L2.getD 0 .undef))).bind fun t40 =>
 M.blk 2 (
 M.iter (zrX G t40 (L2.getD 0 .undef) t1 t5 t0) [(V.int .i64 0)]) fun _ =>
 (M.lift (vlen (L2.getD 0 .undef))).bind fun t87 =>
 M.blk 6 (
 M.iter (zrW G t87 (L2.getD 0 .undef) t0 t1) [(V.int .i64 0)]) fun _ =>
 M.pure (.ret [])
def zie:Fn':=(T zbP).getD noF
theorem zsC:T zbP = some zie:=by kernel_rfl
theorem ztw (G:Sem') (t0 t1 t2:V):execK G zie.rv zie.body [] [] (params 0 [t0,t1,t2]) = zno G t0 t1 t2:=by kernel_rfl
def zjC (G:Sem'):List V → M V
 | [t0,t1,t2]=>fin (zno G t0 t1 t2)
 | _=>M.fail
theorem zuF {g:Sem'} (hg:Sims g (sem T)) (args:List V):Sim (zjC g args) (sem T zbP args):=by
 unfold zjC;split
 ·exact zae zsC (Nat.le_of_ble_eq_true (by kernel_rfl)) hg (ztw g _ _ _)
 ·exact zaa
def f_post_Post_desk_Out_Take (G:Sem') (t0:V):M Res :=
 (mbox zbF (V.agg [(V.int .i64 0),(V.int .i64 0),V.nils])).bind fun t2 =>
 (mbox zbF (V.agg [(V.int .i64 0),(V.int .i64 0),V.nils])).bind fun t4 =>
 (M.lift (Ax.nilck t0)).bind fun t7 =>
 (M.lift (Ax.faddr 1 t7)).bind fun t8 =>
 (mload none t8).bind fun t9 =>
 (M.lift (vlen t9)).bind fun t10 =>
 (M.lift (Ax.bin .eql t10 (V.int .i64 0))).bind fun t11 =>
 M.ite t11
 ((mload (some 3) t4).bind fun t12 =>
 (mstore 3 t2 t12).bind fun _ =>
 (mload (some 3) t2).bind fun r0 =>
 M.pure (.ret [r0,(V.bool false)]))
 ((M.lift (Ax.nilck t0)).bind fun t14 =>
 (M.lift (Ax.faddr 1 t14)).bind fun t15 =>
 (mload none t15).bind fun t16 =>
 (M.lift (Ax.iaddr none 3 t16 (V.int .i64 0))).bind fun t17 =>
 (mload (some 3) t17).bind fun t18 =>
 (mbox zbF (V.agg [(V.int .i64 0),(V.int .i64 0),V.nils])).bind fun t5 =>
 (mstore 3 t5 t18).bind fun _ =>
 (M.lift (Ax.nilck t0)).bind fun t21 =>
 (M.lift (Ax.faddr 1 t21)).bind fun t22 =>
 (mload none t22).bind fun t23 =>
 (M.lift (zbo .sl 3 t23 (some (V.int .i64 1)) none none)).bind fun t24 =>
 (M.lift (Ax.nilck t0)).bind fun t25 =>
 (M.lift (Ax.faddr 1 t25)).bind fun t26 =>
 (mstore 1 t26 t24).bind fun _ =>
 (mload (some 3) t5).bind fun t27 =>
 (mstore 3 t2 t27).bind fun _ =>
 (mload (some 3) t2).bind fun r0 =>
 M.pure (.ret [r0,(V.bool true)]))
def ir_post_Post_desk_Out_Take:Fn':=(T zaB).getD noF
theorem tb_post_Post_desk_Out_Take:T zaB = some ir_post_Post_desk_Out_Take:=by kernel_rfl
theorem eq_post_Post_desk_Out_Take (G:Sem') (t0:V):execK G ir_post_Post_desk_Out_Take.rv ir_post_Post_desk_Out_Take.body [] [] (params 0 [t0]) = f_post_Post_desk_Out_Take G t0:=by kernel_rfl
def zek (G:Sem'):List V → M V
 | [t0]=>fin (f_post_Post_desk_Out_Take G t0)
 | _=>M.fail
theorem zld {g:Sem'} (hg:Sims g (sem T)) (args:List V):Sim (zek g args) (sem T zaB args):=by
 unfold zek;split
 ·exact zae tb_post_Post_desk_Out_Take (Nat.le_of_ble_eq_true (by kernel_rfl)) hg (eq_post_Post_desk_Out_Take g _)
 ·exact zaa
def zhk (G:Sem') (t0:V):M Res :=
 (M.lift (Ax.nilck t0)).bind fun t4 =>
 (M.lift (Ax.faddr 0 t4)).bind fun t5 =>
 (matoload .i64 t5).bind fun t6 =>
 M.pure (.ret [t6])
def zef:Fn':=(T zbM).getD noF
theorem zla:T zbM = some zef:=by kernel_rfl
theorem zlz (G:Sem') (t0:V):execK G zef.rv zef.body [] [] (params 0 [t0]) = zhk G t0:=by kernel_rfl
def zeE (G:Sem'):List V → M V
 | [t0]=>fin (zhk G t0)
 | _=>M.fail
theorem zlQ {g:Sem'} (hg:Sims g (sem T)) (args:List V):Sim (zeE g args) (sem T zbM args):=by
 unfold zeE;split
 ·exact zae zla (Nat.le_of_ble_eq_true (by kernel_rfl)) hg (zlz g _)
 ·exact zaa
def f_palanquinref16_fields (G:Sem') (t0:V):M Res :=
 M.blk 0 (
 (M.lift (Ax.bin .eql t0 (V.int .i64 1))).bind fun t5 =>
 M.ite t5
 (M.pure (.ret [(V.str ⟨#[114]⟩)]))
 ((M.lift (Ax.bin .eql t0 (V.int .i64 2))).bind fun t7 =>
 M.join (M.ite t7
 (M.pure (.nrm [t7]))
 ((M.lift (Ax.bin .eql t0 (V.int .i64 9))).bind fun t8 =>
 M.join (M.ite t8
 (M.pure (.nrm [t8]))
 ((M.lift (Ax.bin .eql t0 (V.int .i64 23))).bind fun t9 =>
 M.pure (.nrm [t9]))) fun L0 =>
 M.pure (.nrm [(L0.getD 0 .undef)]))) fun L1 =>
 M.ite (L1.getD 0 .undef)
 (M.pure (.ret [(V.str ⟨#[45]⟩)]))
 ((M.lift (Ax.bin .eql t0 (V.int .i64 3))).bind fun t11 =>
 M.join (M.ite t11
 (M.pure (.nrm [t11]))
 ((M.lift (Ax.bin .eql t0 (V.int .i64 6))).bind fun t12 =>
 M.pure (.nrm [t12]))) fun L2 =>
 M.ite (L2.getD 0 .undef)
 (M.pure (.ret [(V.str ⟨#[115]⟩)]))
 ((M.lift (Ax.bin .eql t0 (V.int .i64 4))).bind fun t14 =>
 M.ite t14
 (M.pure (.ret [(V.str ⟨#[110,109,98]⟩)]))
 ((M.lift (Ax.bin .eql t0 (V.int .i64 5))).bind fun t16 =>
 M.ite t16
 (M.pure (.ret [(V.str ⟨#[115,110,109]⟩)]))
 ((M.lift (Ax.bin .eql t0 (V.int .i64 7))).bind fun t18 =>
 M.join (M.ite t18
 (M.pure (.nrm [t18]))
 ((M.lift (Ax.bin .eql t0 (V.int .i64 21))).bind fun t19 =>
 M.pure (.nrm [t19]))) fun L3 =>
 M.ite (L3.getD 0 .undef)
 (M.pure (.ret [(V.str ⟨#[115,101,110,98]⟩)]))
 ((M.lift (Ax.bin .eql t0 (V.int .i64 8))).bind fun t21 =>
 M.join (M.ite t21
 (M.pure (.nrm [t21]))
 ((M.lift (Ax.bin .eql t0 (V.int .i64 22))).bind fun t22 =>
 M.pure (.nrm [t22]))) fun L4 =>
 M.ite (L4.getD 0 .undef)
 (M.pure (.ret [(V.str ⟨#[101]⟩)]))
 ((M.lift (Ax.bin .eql t0 (V.int .i64 17))).bind fun t24 =>
 M.ite t24
 (M.pure (.ret [(V.str ⟨#[114,115,101,110,109,98]⟩)]))
 ((M.lift (Ax.bin .eql t0 (V.int .i64 18))).bind fun t26 =>
 M.ite t26
 (M.pure (.ret [(V.str ⟨#[110,109]⟩)]))
 ((M.lift (Ax.bin .eql t0 (V.int .i64 19))).bind fun t28 =>
 M.ite t28
 (M.pure (.ret [(V.str ⟨#[115,101,110,109]⟩)]))
 ((M.lift (Ax.bin .eql t0 (V.int .i64 20))).bind fun t30 =>
 M.ite t30
 (M.pure (.ret [(V.str ⟨#[115,101,110]⟩)]))
 ((M.lift (Ax.bin .eql t0 (V.int .i64 24))).bind fun t32 =>
 M.ite t32
 (M.pure (.ret [(V.str ⟨#[115,98]⟩)]))
 (M.pure (.nrm [])))))))))))))) fun _ =>
 M.pure (.ret [(V.str ⟨#[]⟩)])
def ir_palanquinref16_fields:Fn':=(T zaC).getD noF
theorem tb_palanquinref16_fields:T zaC = some ir_palanquinref16_fields:=by kernel_rfl
theorem eq_palanquinref16_fields (G:Sem') (t0:V):execK G ir_palanquinref16_fields.rv ir_palanquinref16_fields.body [] [] (params 0 [t0]) = f_palanquinref16_fields G t0:=by kernel_rfl
def ze3 (G:Sem'):List V → M V
 | [t0]=>fin (f_palanquinref16_fields G t0)
 | _=>M.fail
theorem zmq {g:Sem'} (hg:Sims g (sem T)) (args:List V):Sim (ze3 g args) (sem T zaC args):=by
 unfold ze3;split
 ·exact zae tb_palanquinref16_fields (Nat.le_of_ble_eq_true (by kernel_rfl)) hg (eq_palanquinref16_fields g _)
 ·exact zaa
def f_palanquinref16_in (G:Sem') (t0 t1 t2:V):M Res :=
 (M.lift (Ax.bin .geq t0 t1)).bind fun t9 =>
 (guarded [(0,t9)] (some (0,true)) (M.pure t0)).bind fun t11 =>
 (guarded [(0,t9)] (some (0,true)) (M.pure t2)).bind fun t12 =>
 (guarded [(0,t9)] (some (0,true)) (M.lift (Ax.bin .leq t11 t12))).bind fun t13 =>
 (M.lift (Ax.pick t9 t13 (V.bool false))).bind fun t14 =>
 M.pure (.ret [t14])
def ir_palanquinref16_in:Fn':=(T zah).getD noF
theorem tb_palanquinref16_in:T zah = some ir_palanquinref16_in:=by kernel_rfl
theorem eq_palanquinref16_in (G:Sem') (t0 t1 t2:V):execK G ir_palanquinref16_in.rv ir_palanquinref16_in.body [] [] (params 0 [t0,t1,t2]) = f_palanquinref16_in G t0 t1 t2:=by kernel_rfl
def zgZ (G:Sem'):List V → M V
 | [t0,t1,t2]=>fin (f_palanquinref16_in G t0 t1 t2)
 | _=>M.fail
theorem zp7 {g:Sem'} (hg:Sims g (sem T)) (args:List V):Sim (zgZ g args) (sem T zah args):=by
 unfold zgZ;split
 ·exact zae tb_palanquinref16_in (Nat.le_of_ble_eq_true (by kernel_rfl)) hg (eq_palanquinref16_in g _ _ _)
 ·exact zaa
def f_palanquinref16_has_0 (G:Sem') (t0 t1:V) (L:List V):M Res :=
 (M.lift (Ax.slen t0)).bind fun t8 =>
 (M.lift (Ax.bin .lss (L.getD 0 .undef) t8)).bind fun t9 =>
 M.ite t9
 (M.blk 1 (
 (M.lift (Ax.sindex t0 (L.getD 0 .undef))).bind fun t14 =>
 (M.lift (Ax.bin .eql t14 t1)).bind fun t16 =>
 M.ite t16
 (M.pure (.ret [(V.bool true)]))
 (M.pure (.nrm []))) fun _ =>
 (M.lift (Ax.bin .add (L.getD 0 .undef) (V.int .i64 1))).bind fun t11 =>
 M.pure (.nrm [t11]))
 (M.pure (.ex 0 []))
def f_palanquinref16_has (G:Sem') (t0 t1:V):M Res :=
 M.blk 0 (
 M.iter (f_palanquinref16_has_0 G t0 t1) [(V.int .i64 0)]) fun _ =>
 M.pure (.ret [(V.bool false)])
def ir_palanquinref16_has:Fn':=(T zag).getD noF
theorem tb_palanquinref16_has:T zag = some ir_palanquinref16_has:=by kernel_rfl
theorem eq_palanquinref16_has (G:Sem') (t0 t1:V):execK G ir_palanquinref16_has.rv ir_palanquinref16_has.body [] [] (params 0 [t0,t1]) = f_palanquinref16_has G t0 t1:=by kernel_rfl
def zgu (G:Sem'):List V → M V
 | [t0,t1]=>fin (f_palanquinref16_has G t0 t1)
 | _=>M.fail
theorem zpu {g:Sem'} (hg:Sims g (sem T)) (args:List V):Sim (zgu g args) (sem T zag args):=by
 unfold zgu;split
 ·exact zae tb_palanquinref16_has (Nat.le_of_ble_eq_true (by kernel_rfl)) hg (eq_palanquinref16_has g _ _)
 ·exact zaa
def zlZ (G:Sem') (t1:V) (L:List V):M Res :=
 (M.lift (Ax.bin .lss (L.getD 0 .undef) (V.int .i64 8))).bind fun t10 =>
 M.ite t10
 (M.blk 1 (
 (M.lift (Ax.faddr 4 t1)).bind fun t13 =>
 (mload none t13).bind fun t14 =>
 (M.lift (Ax.cint .u64 (L.getD 0 .undef))).bind fun t16 =>
 (M.lift (Ax.bin .shr t14 t16)).bind fun t17 =>
 (M.lift (Ax.bin .and t17 (V.int .i64 1))).bind fun t18 =>
 (M.lift (Ax.bin .eql t18 (V.int .i64 1))).bind fun t19 =>
 (guarded [(0,t19)] (some (0,true)) (M.lift (Ax.faddr 6 t1))).bind fun t22 =>
 (guarded [(0,t19)] (some (0,true)) (mload none t22)).bind fun t23 =>
 (guarded [(0,t19)] (some (0,true)) (M.pure (L.getD 0 .undef))).bind fun t24 =>
 (guarded [(0,t19)] (some (0,true)) (M.lift (Ax.iaddr none 1 t23 t24))).bind fun t25 =>
 (guarded [(0,t19)] (some (0,true)) (mload none t25)).bind fun t26 =>
 (guarded [(0,t19)] (some (0,true)) (M.lift (Ax.bin .gtr t26 (V.int .u8 63)))).bind fun t27 =>
 (M.lift (Ax.pick t19 t27 (V.bool false))).bind fun t28 =>
 (guarded [(0,t28)] (some (0,false)) (M.pure t19)).bind fun t30 =>
 (guarded [(0,t28)] (some (0,false)) (M.lift (Ax.un .not t30))).bind fun t31 =>
 (guarded [(0,t28)] (some (0,false)) (M.pure t31)).bind fun t32 =>
 (guarded [(0,t32)] (some (0,true)) (M.lift (Ax.faddr 6 t1))).bind fun t33 =>
 (guarded [(0,t32)] (some (0,true)) (mload none t33)).bind fun t34 =>
 (guarded [(0,t32)] (some (0,true)) (M.pure (L.getD 0 .undef))).bind fun t35 =>
 (guarded [(0,t32)] (some (0,true)) (M.lift (Ax.iaddr none 1 t34 t35))).bind fun t36 =>
 (guarded [(0,t32)] (some (0,true)) (mload none t36)).bind fun t37 =>
 (guarded [(0,t32)] (some (0,true)) (M.lift (Ax.bin .neq t37 (V.int .u8 255)))).bind fun t38 =>
 (guarded [(0,t28)] (some (0,false)) (M.lift (Ax.pick t32 t38 (V.bool false)))).bind fun t39 =>
 (M.lift (Ax.pick t28 (V.bool true) t39)).bind fun t40 =>
 M.ite t40
 (M.pure (.ret [(V.bool false)]))
 (M.pure (.nrm []))) fun _ =>
 (M.lift (Ax.bin .add (L.getD 0 .undef) (V.int .i64 1))).bind fun t12 =>
 M.pure (.nrm [t12]))
 (M.pure (.ex 0 []))
def zhZ (G:Sem') (t0:V):M Res :=
 (mbox zac t0).bind fun t1 =>
 (M.lift (Ax.faddr 6 t1)).bind fun t5 =>
 (mload none t5).bind fun t6 =>
 (M.lift (vlen t6)).bind fun t7 =>
 (M.lift (Ax.bin .neq t7 (V.int .i64 8))).bind fun t8 =>
 M.ite t8
 (M.pure (.ret [(V.bool false)]))
 (M.blk 0 (
 M.iter (zlZ G t1) [(V.int .i64 0)]) fun _ =>
 M.pure (.ret [(V.bool true)]))
def zeU:Fn':=(T zbI).getD noF
theorem zmk:T zbI = some zeU:=by kernel_rfl
theorem zmP (G:Sem') (t0:V):execK G zeU.rv zeU.body [] [] (params 0 [t0]) = zhZ G t0:=by kernel_rfl
def zfw (G:Sem'):List V → M V
 | [t0]=>fin (zhZ G t0)
 | _=>M.fail
theorem znC {g:Sem'} (hg:Sims g (sem T)) (args:List V):Sim (zfw g args) (sem T zbI args):=by
 unfold zfw;split
 ·exact zae zmk (Nat.le_of_ble_eq_true (by kernel_rfl)) hg (zmP g _)
 ·exact zaa
def f_slots_find_0 (G:Sem') (t9 t2 t1:V) (L:List V):M Res :=
 (M.lift (Ax.bin .lss (L.getD 0 .undef) (V.int .i64 8))).bind fun t11 =>
 M.ite t11
 (M.blk 1 (
 (M.lift (Ax.index 8 1 none t9 (L.getD 0 .undef))).bind fun t13 =>
 (M.lift (Ax.faddr 0 t2)).bind fun t15 =>
 (M.lift (Ax.iaddr (some 8) 1 t15 (L.getD 0 .undef))).bind fun t16 =>
 (mload none t16).bind fun t17 =>
 (guarded [(0,t17)] (some (0,true)) (M.pure t1)).bind fun t19 =>
 (guarded [(0,t17)] (some (0,true)) (M.pure t13)).bind fun t20 =>
 (guarded [(0,t17)] (some (0,true)) (M.lift (Ax.bin .eql t19 t20))).bind fun t21 =>
 (M.lift (Ax.pick t17 t21 (V.bool false))).bind fun t22 =>
 M.ite t22
 (M.pure (.ret [(L.getD 0 .undef),(V.bool true)]))
 (M.pure (.nrm []))) fun _ =>
 (M.lift (Ax.bin .add (L.getD 0 .undef) (V.int .i64 1))).bind fun t24 =>
 M.pure (.nrm [t24]))
 (M.pure (.ex 0 []))
def f_slots_find (G:Sem') (t0 t1:V):M Res :=
 (mbox zan t0).bind fun t2 =>
 (M.lift (Ax.faddr 8 t2)).bind fun t8 =>
 (mload (some 8) t8).bind fun t9 =>
 M.blk 0 (
 M.iter (f_slots_find_0 G t9 t2 t1) [(V.int .i64 0)]) fun _ =>
 M.pure (.ret [(V.int .i64 0),(V.bool false)])
def ir_slots_find:Fn':=(T zbT).getD noF
theorem tb_slots_find:T zbT = some ir_slots_find:=by kernel_rfl
theorem eq_slots_find (G:Sem') (t0 t1:V):execK G ir_slots_find.rv ir_slots_find.body [] [] (params 0 [t0,t1]) = f_slots_find G t0 t1:=by kernel_rfl
def zoS (G:Sem'):List V → M V
 | [t0,t1]=>fin (f_slots_find G t0 t1)
 | _=>M.fail
theorem zAo {g:Sem'} (hg:Sims g (sem T)) (args:List V):Sim (zoS g args) (sem T zbT args):=by
 unfold zoS;split
 ·exact zae tb_slots_find (Nat.le_of_ble_eq_true (by kernel_rfl)) hg (eq_slots_find g _ _)
 ·exact zaa
def f_slots_addr (G:Sem') (t0:V):M Res :=
 (M.lift (Ax.bin .geq t0 (V.int .i64 0))).bind fun t4 =>
 (guarded [(0,t4)] (some (0,true)) (M.pure t0)).bind fun t6 =>
 (guarded [(0,t4)] (some (0,true)) (M.lift (Ax.bin .leq t6 (V.int .i64 63)))).bind fun t7 =>
 (M.lift (Ax.pick t4 t7 (V.bool false))).bind fun t8 =>
 M.pure (.ret [t8])
def ir_slots_addr:Fn':=(T zcf).getD noF
theorem tb_slots_addr:T zcf = some ir_slots_addr:=by kernel_rfl
theorem eq_slots_addr (G:Sem') (t0:V):execK G ir_slots_addr.rv ir_slots_addr.body [] [] (params 0 [t0]) = f_slots_addr G t0:=by kernel_rfl
def zoT (G:Sem'):List V → M V
 | [t0]=>fin (f_slots_addr G t0)
 | _=>M.fail
theorem zAp {g:Sem'} (hg:Sims g (sem T)) (args:List V):Sim (zoT g args) (sem T zcf args):=by
 unfold zoT;split
 ·exact zae tb_slots_addr (Nat.le_of_ble_eq_true (by kernel_rfl)) hg (eq_slots_addr g _)
 ·exact zaa
def f_sync_atomic_Int64_Add (G:Sem') (t0 t1:V):M Res :=
 (M.lift (Ax.nilck t0)).bind fun t6 =>
 (M.lift (Ax.faddr 0 t6)).bind fun t7 =>
 (matoadd .i64 t7 t1).bind fun t9 =>
 M.pure (.ret [t9])
def ir_sync_atomic_Int64_Add:Fn':=(T zaX).getD noF
theorem tb_sync_atomic_Int64_Add:T zaX = some ir_sync_atomic_Int64_Add:=by kernel_rfl
theorem eq_sync_atomic_Int64_Add (G:Sem') (t0 t1:V):execK G ir_sync_atomic_Int64_Add.rv ir_sync_atomic_Int64_Add.body [] [] (params 0 [t0,t1]) = f_sync_atomic_Int64_Add G t0 t1:=by kernel_rfl
def ze2 (G:Sem'):List V → M V
 | [t0,t1]=>fin (f_sync_atomic_Int64_Add G t0 t1)
 | _=>M.fail
theorem zmp {g:Sem'} (hg:Sims g (sem T)) (args:List V):Sim (ze2 g args) (sem T zaX args):=by
 unfold ze2;split
 ·exact zae tb_sync_atomic_Int64_Add (Nat.le_of_ble_eq_true (by kernel_rfl)) hg (eq_sync_atomic_Int64_Add g _ _)
 ·exact zaa
def f_slots_Find (G:Sem') (t0 t1:V):M Res :=
 (mbox zan t0).bind fun t2 =>
 (mload (some 16) t2).bind fun t6 =>
 (G zbg [t6]).bind fun t7 =>
 (M.lift (Ax.un .not t7)).bind fun t8 =>
 M.ite t8
 (M.pure (.ret [(V.int .i64 0),(V.bool false)]))
 ((mload (some 16) t2).bind fun t9 =>
 (G zbT [t9,t1]).bind fun t11 =>
 (M.lift (Ax.ext 0 t11)).bind fun t12 =>
 (M.lift (Ax.ext 1 t11)).bind fun t13 =>
 M.pure (.ret [t12,t13]))
def ir_slots_Find:Fn':=(T zb7).getD noF
theorem tb_slots_Find:T zb7 = some ir_slots_Find:=by kernel_rfl
theorem eq_slots_Find (G:Sem') (t0 t1:V):execK G ir_slots_Find.rv ir_slots_Find.body [] [] (params 0 [t0,t1]) = f_slots_Find G t0 t1:=by kernel_rfl
def zoY (G:Sem'):List V → M V
 | [t0,t1]=>fin (f_slots_Find G t0 t1)
 | _=>M.fail
theorem zAu {g:Sem'} (hg:Sims g (sem T)) (args:List V):Sim (zoY g args) (sem T zb7 args):=by
 unfold zoY;split
 ·exact zae tb_slots_Find (Nat.le_of_ble_eq_true (by kernel_rfl)) hg (eq_slots_Find g _ _)
 ·exact zaa
def f_room_Alive (G:Sem') (t0 t1 t2:V):M Res :=
 (mbox zaE t0).bind fun t3 =>
 (mbox zaE (V.agg [(V.bool false),(V.bool false),(V.bool false),(V.bool false),(V.bool false),(V.bool false),(V.bool false),(V.bool false),(V.int .i64 0),(V.int .i64 0),(V.int .i64 0),(V.int .i64 0),(V.int .i64 0),(V.int .i64 0),(V.int .i64 0),(V.int .i64 0),(V.int .i64 0),(V.bool false),(V.int .i64 0),(V.int .i64 0),(V.int .i64 0),(V.int .i64 0),(V.int .i64 0),(V.int .i64 0),(V.int .i64 0),(V.int .i64 0),(V.int .i64 0),(V.int .i64 0),(V.int .i64 0),(V.int .i64 0),(V.int .i64 0),(V.int .i64 0),(V.int .i64 0),(V.int .i64 0),(V.int .i64 0),(V.int .i64 0),(V.int .i64 0),(V.int .i64 0),(V.bool false)])).bind fun t6 =>
 (mload (some 39) t3).bind fun t11 =>
 (G zcc [t11,t1]).bind fun t13 =>
 (M.lift (Ax.ext 0 t13)).bind fun t14 =>
 (M.lift (Ax.ext 1 t13)).bind fun t15 =>
 (M.lift (Ax.bin .neq t15 (V.int .i64 0))).bind fun t17 =>
 M.ite t17
 ((mload (some 39) t3).bind fun t18 =>
 (mstore 39 t6 t18).bind fun _ =>
 (mload (some 39) t6).bind fun r0 =>
 M.pure (.ret [r0,t15]))
 ((M.lift (Ax.faddr 22 t3)).bind fun t22 =>
 (M.lift (Ax.iaddr (some 8) 1 t22 t14)).bind fun t23 =>
 (mstore 1 t23 t2).bind fun _ =>
 (mload (some 39) t3).bind fun t24 =>
 (mstore 39 t6 t24).bind fun _ =>
 (mload (some 39) t6).bind fun r0 =>
 M.pure (.ret [r0,(V.int .i64 0)]))
def ir_room_Alive:Fn':=(T zcv).getD noF
theorem tb_room_Alive:T zcv = some ir_room_Alive:=by kernel_rfl
theorem eq_room_Alive (G:Sem') (t0 t1 t2:V):execK G ir_room_Alive.rv ir_room_Alive.body [] [] (params 0 [t0,t1,t2]) = f_room_Alive G t0 t1 t2:=by kernel_rfl
def zo5 (G:Sem'):List V → M V
 | [t0,t1,t2]=>fin (f_room_Alive G t0 t1 t2)
 | _=>M.fail
theorem zAB {g:Sem'} (hg:Sims g (sem T)) (args:List V):Sim (zo5 g args) (sem T zcv args):=by
 unfold zo5;split
 ·exact zae tb_room_Alive (Nat.le_of_ble_eq_true (by kernel_rfl)) hg (eq_room_Alive g _ _ _)
 ·exact zaa
end Go.Ax.Cc
