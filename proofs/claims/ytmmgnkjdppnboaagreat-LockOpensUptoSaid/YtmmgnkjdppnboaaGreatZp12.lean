/-
  Texts of mine, put together by program (wip/slim.py), for law_lockOpens: part 12.
-/
import Derived.Test.YtmmgnkjdppnboaaGreatZp11
noncomputable section
set_option linter.unusedVariables false
set_option linter.unusedSimpArgs false
set_option linter.defProp false
set_option maxRecDepth 100000
/- Re8 -/
namespace Go.Ax.SU
open Go.Ax
theorem kw_first {l:List Nat} {n:Nat} (hl:l.length = 4 * n):∀ i,i ≤ n → (kw l n i).flatten = l.take (4 * i):=by
 intro i
 induction i with
 | zero=>intro _; simp [kw]
 | succ i ih =>
  intro hi;rw [zoG,if_pos (by omega),List.flatten_append,ih (by omega)];simp only [List.flatten_cons,List.flatten_nil,List.append_nil];rw [show 4 * (i + 1) = 4 * i + 4 by omega,List.take_add]
theorem zqQ {l:List Nat} {n:Nat} (hn:0 < n) (h8:Ok8 l) (hl:l.length = 4 * n) (i:Nat):(kw l n i).flatten.length = 4 * i:=by
 rw [flat4 _ (zjU hn h8 hl i),zhj]
theorem zuR {l:List Nat} {n:Nat} (hn:0 < n) (h8:Ok8 l) (hl:l.length = 4 * n) {i j m:Nat} (hm:m < 4):(kw l n i).flatten.getD (4 * j + m) 0 = ((kw l n i).getD j []).getD m 0:=by
 rw [Nat.mul_comm,zoP _ (zjU hn h8 hl i) j m hm]
theorem sb_at {R:V} {n:Nat} (h:n < 256):(sbox.map by8 ++ [R])[n]? = some (by8 (sb n)):=by
 rw [bga (by rw [zeC]; exact h)];rfl
theorem zro {lo q i n:Nat} {u2 u3 u7 x:V} {H:Heap} {l s:List Nat} (hn:0 < n) (h8:Ok8 l) (hl:l.length = 4 * n) (hni:n ≤ i) (hi:i ≤ 1000) (hx:Ab lo H x (kw l n i).flatten) (hlo:lo ≤ H.next) (hs:Word s) (hq:H.get q = some ⟨zav,s.map by8,none⟩) (hql:q < H.next) (hqx:∀ j,x.pid = some j → j ≠ q) :
  Ok (M.iter (zb2 (sem T) (.int .i64 (i:Nat)) (.int .i64 (n:Nat)) (.ptr q 0) u2 u3 u7) [x,.int .i64 0]) H fun r H'=>∃ x',r = .ex 2 [x'] ∧ Ab lo H' x' ((kw l n i).flatten ++ xw s ((kw l n i).getD (i - n) [])) ∧ Bel lo H H' ∧ Step H H' x.pid.toList x'.pid.toList:=by
 refine zaE (fun j L H'=>∃ x',L = [x',.int .i64 (j:Nat)] ∧ Ab lo H' x' ((kw l n i).flatten ++ (xw s ((kw l n i).getD (i - n) [])).take j) ∧ Bel lo H H' ∧ Step H H' x.pid.toList x'.pid.toList) 4 ?_ ?_ ?_
 ·exact ⟨x,rfl,by simpa using hx,Bel.refl _ _,Step.refl _ _⟩
 ·rintro j _ H1 hj ⟨x1,rfl,hx1,b1,s1⟩;have n1:=b1.next;have fl:=zqQ hn h8 hl i;have xl:=znN s ((kw l n i).getD (i - n) []);have sl:=hs.1;have gq1:=(s1.same q hql (fun e=>hqx q (by simpa [zeF] using e) rfl)).trans hq;have e1:((i:Nat):Int) - ((n:Nat):Int) = ((i - n:Nat):Int):=by omega
  have e2:(4:Int) * ((i - n:Nat):Int) = ((4 * (i - n):Nat):Int):=by omega
  have e3:((4 * (i - n):Nat):Int) + ((j:Nat):Int) = ((4 * (i - n) + j:Nat):Int):=rfl;obtain ⟨p,hp,hld,-⟩:=zfL hx1.by (i:=((4 * (i - n) + j:Nat):Int)) (by omega) (by rw [List.length_append,fl]; omega);have hg:((kw l n i).flatten ++ (xw s ((kw l n i).getD (i - n) [])).take j).getD (4 * (i - n) + j) 0 = ((kw l n i).getD (i - n) []).getD j 0:=by
   rw [List.getD_eq_getElem?_getD,List.getElem?_append_left (by omega),← List.getD_eq_getElem?_getD,zuR hn h8 hl hj]
  simp only [Int.toNat_natCast,hg] at hld;have hb:=bg (l:=s) (i:=j) (by omega);have p8:=zrt (zjU hn h8 hl i) (i - n) j;have ex:=zfA p8 (hs.2.getD j);have ea:((kw l n i).getD (i - n) []).getD j 0 ^^^ s.getD j 0 = (xw s ((kw l n i).getD (i - n) [])).getD j 0:=by unfold xw; rw [zcu hj,Nat.xor_comm]
  rw [ea] at ex;replace ex:Ax.bin .xor (.int .u8 (((kw l n i).getD (i - n) []).getD j 0:Nat)) (by8 (s.getD j 0)) = _:=ex;unfold zb2 uL uM uB uIM uc ub ug;simp (disch:=omega) only [↓RD,RZ,eq_self,seval,e1,e2,e3,hp,hld,gq1,hb,ex,zcZ,zaP];have s2:=Grow.new H1 ⟨zad,[by8 ((xw s ((kw l n i).getD (i - n) [])).getD j 0)],none⟩;rw [zaK];refine zk5 (m:=[(xw s ((kw l n i).getD (i - n) [])).getD j 0]) (Apf.keep hx1 (s2.keep _)) (by rw [zaf]; omega) (zbZ rfl) (by rw [List.length_append,List.length_take,fl]; simp; omega) fun x3 H3 hx3 b3 st3=>?_;simp (disch:=omega) only [↓RD,RZ,eq_self,seval];refine ⟨x3,rfl,?_,b1.trans ((s2.bel (by omega)).trans b3),s1.trans ((s2.step _).trans st3)⟩;rw [zbx (by omega),← List.append_assoc];exact hx3
 ·rintro _ H1 ⟨x1,rfl,hx1,b1,s1⟩;rw [List.take_of_length_le (by rw [znN]; omega)] at hx1;unfold zb2 uL uM uB uIM uc ub ug;simp (disch:=omega) only [↓RD,RZ,eq_self,seval];exact ⟨x1,rfl,hx1,b1,s1⟩
end Go.Ax.SU
/- Re9 -/
namespace Go.Ax.SU
open Go.Ax
theorem ab_same {lo:Nat} {H H':Heap} {v:V} {l:List Nat} (h:Ab lo H v l) (hn:H.next ≤ H'.next) (hs:∀ i,v.pid = some i → H'.get i = H.get i):Ab lo H' v l:=by
 have h':Apf zad 1 lo H v (l.map by8) l.length:=h;show Apf zad 1 lo H' v (l.map by8) l.length;generalize l.map by8 = cs at *;generalize l.length = n at *;clear h;cases h' with
 | app h=>exact .app (App.same h hn hs)
 | full h hl h0 h1=>exact .full (by rw [hs _ rfl]; exact h) hl h0 (Nat.lt_of_lt_of_le h1 hn)
theorem zrn {k n:Nat} {u2 u3 x R:V} {H:Heap} {l:List Nat} (hn:n = 4 ∨ n = 8) (h8:Ok8 l) (hl:l.length = 4 * n) (hx:Ab (k + 1) H x (kw l n n).flatten) (hk:H.get k = some ⟨zak,sbox.map by8 ++ [R],none⟩) (hkl:k < H.next) :
  Ok (M.iter (zbt (sem T) (.ptr k 0) (.int .i64 (n:Nat)) u2 u3) [x,.int .u8 1,.int .i64 (n:Nat)]) H fun r H'=>∃ x',r = .ex 0 [x'] ∧ Ab (k + 1) H' x' (kw l n (4 * (n + 7))).flatten ∧ Bel (k + 1) H H':=by
 have hn0:0 < n:=by omega
 have hwd:∀ i,∀ w ∈ kw l n i,Word w:=fun i=>zjU hn0 h8 hl i;refine zaE (fun j L H'=>∃ x',L = [x',by8 (rcon ((n + j - 1) / n)),.int .i64 ((n + j:Nat):Int)] ∧ Ab (k + 1) H' x' (kw l n (n + j)).flatten ∧ Bel (k + 1) H H') (4 * (n + 7) - n) ?_ ?_ ?_
 ·refine ⟨x,?_,hx,Bel.refl _ _⟩;rw [Nat.add_zero,Nat.div_eq_of_lt (by omega)]; rfl
 ·rintro j _ H2 hj ⟨w2,rfl,hw2,b2⟩;obtain ⟨i,hi⟩:∃ i,n + j = i:=⟨_,rfl⟩;rw [show n + (j + 1) = i + 1 by omega];rw [hi] at hw2 ⊢;have n2:=b2.next;have hil:i < 4 * (n + 7):=by omega
  have e1:((n:Nat):Int) + 7 = ((n + 7:Nat):Int):=rfl;have e1':(4:Int) * ((n + 7:Nat):Int) = ((4 * (n + 7):Nat):Int):=by omega
  have fl:=zqQ hn0 h8 hl i;have q4:(4:Int) * ((i:Nat):Int) = ((4 * i:Nat):Int):=by omega
  have i4:((4 * i:Nat):Int) - 4 = ((4 * (i - 1):Nat):Int):=by omega
  have k0:=zuR hn0 h8 hl (i:=i) (j:=i - 1) (show 0 < 4 by decide);rw [Nat.add_zero] at k0;have i3:((4 * i:Nat):Int) - 3 = ((4 * (i - 1) + 1:Nat):Int):=by omega
  have i2:((4 * i:Nat):Int) - 2 = ((4 * (i - 1) + 2:Nat):Int):=by omega
  have i1:((4 * i:Nat):Int) - 1 = ((4 * (i - 1) + 3:Nat):Int):=by omega
  obtain ⟨p0,hp0,l0,-⟩:=zfL hw2.by (i:=((4 * (i - 1):Nat):Int)) (by omega) (by rw [fl]; omega);obtain ⟨p1,hp1,l1,-⟩:=zfL hw2.by (i:=((4 * (i - 1) + 1:Nat):Int)) (by omega) (by rw [fl]; omega);obtain ⟨p2,hp2,l2,-⟩:=zfL hw2.by (i:=((4 * (i - 1) + 2:Nat):Int)) (by omega) (by rw [fl]; omega);obtain ⟨p3,hp3,l3,-⟩:=zfL hw2.by (i:=((4 * (i - 1) + 3:Nat):Int)) (by omega) (by rw [fl]; omega);simp only [Int.toNat_natCast,k0,zuR hn0 h8 hl (show 1 < 4 by decide),zuR hn0 h8 hl (show 2 < 4 by decide),zuR hn0 h8 hl (show 3 < 4 by decide)] at l0 l1 l2 l3;obtain ⟨sw,hsw⟩:∃ sw,(kw l n i).getD (i - 1) [] = sw:=⟨_,rfl⟩;have hkw:=zhj l n i;have hsm:(kw l n i)[i - 1]? = some sw:=by rw [← hsw,List.getD_eq_getElem?_getD,List.getElem?_eq_getElem (by omega)]; rfl
  have hsW:Word sw:=hwd i sw (List.mem_of_getElem? hsm);obtain ⟨a,b,c,d,e4⟩:=four hsW.1;rw [hsw,e4] at l0 l1 l2 l3;replace l0:LdR none H2 p0 (by8 a):=l0;replace l1:LdR none H2 p1 (by8 b):=l1;replace l2:LdR none H2 p2 (by8 c):=l2;replace l3:LdR none H2 p3 (by8 d):=l3;have bld:Ax.build [(V.int .u8 0),(V.int .u8 0),(V.int .u8 0),(V.int .u8 0)] [(0,1,by8 a),(1,1,by8 b),(2,1,by8 c),(3,1,by8 d)] = some (.agg [by8 a,by8 b,by8 c,by8 d]):=rfl;unfold zbt uL uM uT uF uB uIM uG uH uO uc ub ug;simp (disch:=first | omega | (simp only [RY] <;> omega) | decide) only [↓RD,RZ,eq_self,Int.reduceToNat,Int.reduceAdd,Nat.reduceAdd,Nat.reduceSub,Nat.reduceMul,Nat.reduceLeDiff,e1,e1',q4,i4,i3,i2,i1,hp0,l0,hp1,l1,hp2,l2,hp3,l3,bld,zaj,zcZ,zaP];have s3:Grow H2 ((H2.new ⟨zav,[.int .u8 0,.int .u8 0,.int .u8 0,.int .u8 0],none⟩).set H2.next (some ⟨zav,[by8 a,by8 b,by8 c,by8 d],none⟩)):=(Grow.new _ _).set (Nat.le_refl _) _;have gq3:((H2.new ⟨zav,[.int .u8 0,.int .u8 0,.int .u8 0,.int .u8 0],none⟩).set H2.next (some ⟨zav,[by8 a,by8 b,by8 c,by8 d],none⟩)).get H2.next = _:=zal _ _ _;have n3:((H2.new ⟨zav,[.int .u8 0,.int .u8 0,.int .u8 0,.int .u8 0],none⟩).set H2.next (some ⟨zav,[by8 a,by8 b,by8 c,by8 d],none⟩)).next = H2.next + 1:=rfl;have hwp:∀ j,w2.pid = some j → j < H2.next:=fun j hj=>(hw2.by.own j hj).2;have hw3:Ab (k + 1) _ w2 (kw l n i).flatten:=Apf.keep hw2 (s3.keep _);have gk3:=(s3.same k (by omega)).trans ((b2.same k (by omega)).trans hk);generalize hq:H2.next = q at *;generalize Heap.set _ q _ = H3 at *;have eb:(((i:Nat):Int) % ((n:Nat):Int) == 0) = decide (i % n = 0):=beqz (i % n);have eb4:(((i:Nat):Int) % ((n:Nat):Int) == 4) = decide (i % n = 4):=beqn (i % n) 4;have tb:∀ m,m < 256 → (sbox.map by8 ++ [R])[m]? = some (by8 (sb m)):=fun m h=>sb_at h;have ia:∀ m,m < 256 → Ax.iaddr (some 256) 1 (.ptr k 0) (by8 m) = some (.ptr k m):=fun m h=>by rw [zll h,Nat.zero_add]
  have s8:Ok8 [a,b,c,d]:=e4 ▸ hsW.2;have a8:a < 256:=s8 a (by simp);have b8:b < 256:=s8 b (by simp);have c8:c < 256:=s8 c (by simp);have d8:d < 256:=s8 d (by simp);have tw:=rt2 (zmo ((i - 1) / n));have xr:=zfA (zqq b) (zmo ((i - 1) / n));rw [eb,zdN];refine zas (Q:=fun r H'=>r = .nrm [by8 (rcon (i / n))] ∧ H'.get q = some ⟨zav,(zjV n i sw).map by8,none⟩ ∧ At1 q H3 H') ?_ ?_
  ·refine zbw (fun h=>?_) (fun h=>?_)
   ·simp (disch:=first | omega | (simp only [RY] <;> omega) | decide) only [↓RD,RZ,eq_self,Int.reduceToNat,Int.reduceAdd,Nat.reduceAdd,Nat.reduceSub,Nat.reduceMul,Nat.reduceLeDiff,gq3,gk3,tb _ a8,tb _ b8,tb _ c8,tb _ d8,ia _ a8,ia _ b8,ia _ c8,ia _ d8,xr,tw,zcZ,zaP,zaj];have er:(i - 1) / n + 1 = i / n:=by rcases hn with rfl | rfl <;> omega
    have er':i / n - 1 = (i - 1) / n:=by rcases hn with rfl | rfl <;> omega
    refine ⟨by rw [← er]; rfl,?_,At1.set q _ _⟩;unfold zjV;rw [if_pos h,e4,er'];rfl
   ·have er:(i - 1) / n = i / n:=by rcases hn with rfl | rfl <;> omega
    have e8:[a,b,c,d].map by8 = [by8 a,by8 b,by8 c,by8 d]:=rfl;rcases hn with hn4 | hn8
    ·have e6:(((n:Nat):Int) == 8) = false:=by rw [hn4]; rfl
     simp (disch:=first | omega | (simp only [RY] <;> omega) | decide) only [↓RD,RZ,eq_self,Int.reduceToNat,Int.reduceAdd,Nat.reduceAdd,Nat.reduceSub,Nat.reduceMul,Nat.reduceLeDiff,e6];refine ⟨by rw [er],?_,At1.refl _ _⟩;unfold zjV;rw [if_neg h,if_neg (fun hh=>by have:=hh.1; omega),e4,e8];exact gq3
    ·have e6:(((n:Nat):Int) == 8) = true:=by rw [hn8]; rfl
     simp (disch:=first | omega | (simp only [RY] <;> omega) | decide) only [↓RD,RZ,eq_self,Int.reduceToNat,Int.reduceAdd,Nat.reduceAdd,Nat.reduceSub,Nat.reduceMul,Nat.reduceLeDiff,e6,eb4];rw [zdN];refine zbw (fun h4=>?_) (fun h4=>?_)
     ·simp (disch:=first | omega | (simp only [RY] <;> omega) | decide) only [↓RD,RZ,eq_self,Int.reduceToNat,Int.reduceAdd,Nat.reduceAdd,Nat.reduceSub,Nat.reduceMul,Nat.reduceLeDiff,gq3,gk3,tb _ a8,tb _ b8,tb _ c8,tb _ d8,ia _ a8,ia _ b8,ia _ c8,ia _ d8,zcZ,zaP,zaj];refine ⟨by rw [er],?_,At1.set q _ _⟩;unfold zjV;rw [if_neg h,if_pos ⟨by omega,h4⟩,e4];rfl
     ·simp (disch:=first | omega | (simp only [RY] <;> omega) | decide) only [↓RD,RZ,eq_self,Int.reduceToNat,Int.reduceAdd,Nat.reduceAdd,Nat.reduceSub,Nat.reduceMul,Nat.reduceLeDiff];refine ⟨by rw [er],?_,At1.refl _ _⟩;unfold zjV;rw [if_neg h,if_neg (fun hh=>h4 hh.2),e4,e8];exact gq3
  ·rintro _ H4 ⟨rfl,gq4,s4⟩;have n4:=s4.next;have hw4:Ab (k + 1) H4 w2 (kw l n i).flatten:=by
    refine ?_;have:Apf zad 1 (k + 1) H3 w2 ((kw l n i).flatten.map by8) (kw l n i).flatten.length:=hw3;exact ab_same hw3 n4 fun m hm=>s4.same m (by have:=hwp m hm; omega) (by have:=hwp m hm; omega)
   simp (disch:=first | omega | (simp only [RY] <;> omega) | decide) only [↓RD,RZ,eq_self,Int.reduceToNat,Int.reduceAdd,Nat.reduceAdd,Nat.reduceSub,Nat.reduceMul,Nat.reduceLeDiff];refine zas (zro (q:=q) hn0 h8 hl (by omega) (by omega) hw4 (by omega) (zla hsW) gq4 (by omega) (fun m hm=>by have:=hwp m hm; omega)) ?_;rintro _ H5 ⟨w',rfl,hw',b5,st5⟩;have n5:=b5.next;simp (disch:=first | omega | (simp only [RY] <;> omega) | decide) only [↓RD,RZ,eq_self,Int.reduceToNat,Int.reduceAdd,Nat.reduceAdd,Nat.reduceSub,Nat.reduceMul,Nat.reduceLeDiff];refine ⟨w',?_,?_,b2.trans (Bel.trans ⟨by omega,fun m hm=>?_⟩ b5)⟩
   ·rw [show i + 1 - 1 = i by omega]; rfl
   ·rw [zoG,if_neg (by omega),hsw,List.flatten_append];simpa using hw'
   ·rw [s4.same m (by omega) (by omega),s3.same m (by omega)]
 ·rintro _ H2 ⟨w2,rfl,hw2,b2⟩;have e1:((n:Nat):Int) + 7 = ((n + 7:Nat):Int):=rfl;have e1':(4:Int) * ((n + 7:Nat):Int) = ((4 * (n + 7):Nat):Int):=by omega
  rw [show n + (4 * (n + 7) - n) = 4 * (n + 7) by omega] at *;unfold zbt uL uM uT uF uB uIM uG uH uO uc ub ug;simp (disch:=first | omega | (simp only [RY] <;> omega) | decide) only [↓RD,RZ,eq_self,Int.reduceToNat,Int.reduceAdd,Nat.reduceAdd,Nat.reduceSub,Nat.reduceMul,Nat.reduceLeDiff,e1,e1'];exact ⟨w2,rfl,hw2,b2⟩
end Go.Ax.SU
/- Re10 -/
namespace Go.Ax.SU
open Go.Ax
theorem sbl:(sbox.map by8).length = 256:=by rw [List.length_map,zeC]
theorem key256 (R:V):(sbox.map by8 ++ [R])[256]? = some R:=by
 rw [List.getElem?_append_right (by rw [sbl]; decide),sbl]; rfl
theorem ztN (R x:V):splice (sbox.map by8 ++ [R]) 256 [x] = sbox.map by8 ++ [x]:=by
 unfold splice;rw [List.take_append_of_le_length (by rw [sbl]; decide),List.take_of_length_le (by rw [sbl]; decide),List.drop_of_length_le (by rw [List.length_append,sbl]; exact Nat.le_refl _),List.append_nil]
theorem zly (R:V):(sbox.map by8 ++ [R]).length = 257:=by rw [List.length_append,sbl]; rfl
def Rst (H:Heap) (k:Nat) (R:V) (l:List Nat) (n:Nat):Prop:=H.get k = some ⟨zak,sbox.map by8 ++ [R],none⟩ ∧ App zaa 16 (k + 1) H R (l.map by8) n ∧ k < H.next
theorem rpush {H:Heap} {k n:Nat} {R:V} {l x:List Nat} {F:V → M Res} {Q:Res → Heap → Prop} (hk:Rst H k R l n) (hx:x.length = 16) (hn:n ≤ 1000)
  (h:∀ R' H',Rst H' k R' (l ++ x) (n + 1) → Bel k H H' → Step H H' (k :: R.pid.toList) (k :: R'.pid.toList) → Ok (F .undef) H' Q) :
  Ok ((mappend zaa 16 16 R (.sl H.next 0 1 (.fix 1))).bind fun t158 =>
   (M.lift (Ax.faddr 256 (.ptr k 0))).bind fun t159 =>
   (mstore 1 t159 t158).bind F) (H.new ⟨zaa,x.map by8,none⟩) Q:=by
 obtain ⟨h1,h2,h3⟩:=hk;have s1:=Grow.new H ⟨zaa,x.map by8,none⟩;have n1:(H.new ⟨zaa,x.map by8,none⟩).next = H.next + 1:=zaf _ _;have g1:=(s1.same k h3).trans h1;have ac:zea 16 (H.new ⟨zaa,x.map by8,none⟩) (.sl H.next 0 1 (.fix 1)) = some (x.map by8,1):=zbZ (by rw [List.length_map,hx]);have h2':App zaa 16 (k + 1) (H.new ⟨zaa,x.map by8,none⟩) R (l.map by8) n:=App.keep h2 (s1.keep _);generalize hid:H.next = id at *;generalize H.new _ = H1 at *;refine zir h2' (by omega) ac (by rw [List.length_map,hx]) (by omega) (by omega) fun w' H2 a2 st=>?_;have n2:=st.next;have hpw:∀ i,i ∈ R.pid.toList → k + 1 ≤ i:=fun i hi=>(h2'.lc.own i (by simpa [zeF] using hi)).1;have b2:Bel (k + 1) H1 H2:=⟨st.next,fun i hi=>by
  by_cases hin:i < H1.next
  ·exact st.same i hin fun e=>by have:=hpw i e; omega
  ·omega⟩
 have g2:H2.get k = _:=(b2.same k (by omega)).trans g1;have sp:=ztN R w';have ln:=zly R;simp (disch:=omega) only [↓RD,RZ,eq_self,seval,g2,sp,ln,a2.lc.cells1,a2.lc.okc];refine h w' _ ⟨zal _ _ _,?_,by rw [zan]; omega⟩ ⟨by rw [zan]; omega,fun i hi=>?_⟩ ⟨by rw [zan]; omega,fun i hi hF=>?_,fun i hi=>?_⟩
 ·rw [List.map_append];refine App.same a2 (by rw [zan]; exact Nat.le_refl _) fun i hi=>zai _ _ ?_;have:=(a2.lc.own i hi).1;omega
 ·rw [zai _ _ (by omega),b2.same i (by omega),s1.same i (by omega)]
 ·rw [List.mem_cons,not_or] at hF;rw [zai _ _ hF.1,st.same i (by omega) hF.2,s1.same i (by omega)]
 ·rcases List.mem_cons.1 hi with rfl | hi
  ·exact .inl (List.mem_cons_self ..)
  ·rcases st.own i hi with h4 | h4
   ·exact .inl (List.mem_cons_of_mem _ h4)
   ·exact .inr ⟨by omega,by rw [zan]; omega⟩
theorem zrm {k m:Nat} {lo:Nat} {u2 u3 x:V} {H:Heap} {W:List Nat} (hx:By lo H x W) (hW:W.length = 16 * m) (hm:m ≤ 100) (hk:Rst H k .nils [] 0) (hkx:∀ i,x.pid = some i → i < H.next ∧ i ≠ k) :
  Ok (M.iter (zbs (sem T) x (.ptr k 0) u2 u3) [.int .i64 0]) H fun r H'=>∃ R,r = .ex 4 [] ∧ Rst H' k R W m ∧ Bel k H H':=by
 refine zaE (fun j L H'=>L = [.int .i64 ((16 * j:Nat):Int)] ∧ ∃ R,Rst H' k R (W.take (16 * j)) j ∧ By 0 H' x W ∧ Bel k H H' ∧ ∀ i,x.pid = some i → R.pid ≠ some i) m ?_ ?_ ?_
 ·exact ⟨rfl,.nils,by simpa using hk,hx.low (Nat.zero_le _),Bel.refl _ _,fun i _ e=>by cases e⟩
 ·rintro j _ H1 hj ⟨rfl,R,hR,hx1,b1,hd1⟩;have n1:=b1.next;have hRl:=hR.2.2;obtain ⟨y,hy,-,-,hyb,hyp⟩:=zbl hx1 (x:=((16 * j:Nat):Int)) (y:=((16 * j + 16:Nat):Int)) (by omega) (by omega) (by omega);simp only [Int.toNat_natCast] at hyb;rw [show 16 * j + 16 - 16 * j = 16 by omega] at hyb;have yl:((W.drop (16 * j)).take 16).length = 16:=by rw [List.length_take,List.length_drop]; omega
  have ea:((16 * j:Nat):Int) + 16 = ((16 * j + 16:Nat):Int):=rfl;have hvl:=hx1.vlen;have vs:=@zg7 16 H1.next;have s2:=Grow.new H1 ⟨zaa,[.int .u8 0,.int .u8 0,.int .u8 0,.int .u8 0,.int .u8 0,.int .u8 0,.int .u8 0,.int .u8 0,.int .u8 0,.int .u8 0,.int .u8 0,.int .u8 0,.int .u8 0,.int .u8 0,.int .u8 0,.int .u8 0],none⟩;have g2:(H1.new ⟨zaa,[.int .u8 0,.int .u8 0,.int .u8 0,.int .u8 0,.int .u8 0,.int .u8 0,.int .u8 0,.int .u8 0,.int .u8 0,.int .u8 0,.int .u8 0,.int .u8 0,.int .u8 0,.int .u8 0,.int .u8 0,.int .u8 0],none⟩).get H1.next = some ⟨zaa,List.replicate 16 (.int .u8 0),none⟩:=zab _ _;have n2:(H1.new ⟨zaa,[.int .u8 0,.int .u8 0,.int .u8 0,.int .u8 0,.int .u8 0,.int .u8 0,.int .u8 0,.int .u8 0,.int .u8 0,.int .u8 0,.int .u8 0,.int .u8 0,.int .u8 0,.int .u8 0,.int .u8 0,.int .u8 0],none⟩).next = H1.next + 1:=zaf _ _;have cp:=zlh (off:=0) (len:=16) (cap:=.fix 16) g2 (hyb.ext s2) (by rw [List.length_replicate]; decide) (by omega);rw [show List.replicate 16 (V.int .u8 0) = (List.replicate 16 0).map by8 by rw [List.map_replicate]; rfl,sp16 yl (by rw [List.length_map,List.length_replicate])] at cp;unfold zbs uL uS uT uF uFM uB uO uc ug;simp (disch:=omega) only [↓RD,RZ,eq_self,seval,hvl,vs,ea,hy];rw [zaK];refine zao ⟨_,_,cp,?_⟩;have s3:Grow H1 ((H1.new ⟨zaa,[.int .u8 0,.int .u8 0,.int .u8 0,.int .u8 0,.int .u8 0,.int .u8 0,.int .u8 0,.int .u8 0,.int .u8 0,.int .u8 0,.int .u8 0,.int .u8 0,.int .u8 0,.int .u8 0,.int .u8 0,.int .u8 0],none⟩).set H1.next (some ⟨zaa,((W.drop (16 * j)).take 16).map by8,none⟩)):=(Grow.new _ _).set (Nat.le_refl _) _;have g3:((H1.new ⟨zaa,[.int .u8 0,.int .u8 0,.int .u8 0,.int .u8 0,.int .u8 0,.int .u8 0,.int .u8 0,.int .u8 0,.int .u8 0,.int .u8 0,.int .u8 0,.int .u8 0,.int .u8 0,.int .u8 0,.int .u8 0,.int .u8 0],none⟩).set H1.next (some ⟨zaa,((W.drop (16 * j)).take 16).map by8,none⟩)).get H1.next = _:=zal _ _ _;have n3:((H1.new ⟨zaa,[.int .u8 0,.int .u8 0,.int .u8 0,.int .u8 0,.int .u8 0,.int .u8 0,.int .u8 0,.int .u8 0,.int .u8 0,.int .u8 0,.int .u8 0,.int .u8 0,.int .u8 0,.int .u8 0,.int .u8 0,.int .u8 0],none⟩).set H1.next (some ⟨zaa,((W.drop (16 * j)).take 16).map by8,none⟩)).next = H1.next + 1:=rfl;have hxp:∀ i,x.pid = some i → i < H1.next:=fun i hi=>(hx1.own i hi).2;generalize hq:H1.next = q at *;generalize Heap.set _ q _ = H3 at *;have gk3:=(s3.same k (by omega)).trans hR.1;have ek:=key256 R;have lx:=ld16 yl;have hR3:Rst H3 k R (W.take (16 * j)) j:=⟨gk3,App.keep hR.2.1 (s3.keep _),by omega⟩;have xl:(((W.drop (16 * j)).take 16).map by8).length = 16:=by rw [List.length_map,yl]
  have spx:=sp16 yl (L:=[.int .u8 0,.int .u8 0,.int .u8 0,.int .u8 0,.int .u8 0,.int .u8 0,.int .u8 0,.int .u8 0,.int .u8 0,.int .u8 0,.int .u8 0,.int .u8 0,.int .u8 0,.int .u8 0,.int .u8 0,.int .u8 0]) rfl;simp (disch:=omega) only [↓RD,RZ,eq_self,seval,gk3,ek,g3,lx,zaY,zaj,xl,spx];rw [zaK];refine rpush hR3 yl (by omega) fun R' H4 hR4 b4 st4=>?_;have n4:=b4.next;have hxs:∀ i,x.pid = some i → i ∉ k :: R.pid.toList:=fun i hi e=>by
   rcases List.mem_cons.1 e with rfl | e
   ·exact (hkx _ hi).2 rfl
   ·exact hd1 i hi (by simpa [zeF] using e)
  have x3:=hx1.ext s3;have x4:By 0 H4 x W:=x3.same n4 fun i hi=>st4.same i (by have:=hxp i hi; omega) (hxs i hi);simp (disch:=omega) only [↓RD,RZ,eq_self,seval,ea];refine ⟨rfl,R',?_,x4,b1.trans ((s3.bel (by omega)).trans b4),fun i hi e=>?_⟩
  ·rw [show 16 * (j + 1) = 16 * j + 16 by omega,List.take_add];exact hR4
  ·exact st4.ne (by have:=hxp i hi; omega) (hxs i hi) (List.mem_cons_of_mem _ (by simpa [zeF] using e))
 ·rintro _ H1 ⟨rfl,R,hR,hx1,b1,-⟩;have hvl:=hx1.vlen;rw [List.take_of_length_le (by omega)] at hR;unfold zbs uL uS uT uF uFM uB uO uc ug;simp (disch:=omega) only [↓RD,RZ,eq_self,seval,hvl];exact ⟨R,hR,b1⟩
end Go.Ax.SU
/- Re11 -/
namespace Go.Ax.SU
open Go.Ax
def RK (H:Heap) (r:V) (ws:List (List Nat)):Prop:=∃ R,r = .agg (sbox.map by8 ++ [R]) ∧ Lc 16 0 H R (ws.flatten.map by8) (ws.length / 4) ∧ (∀ w ∈ ws,Word w) ∧ ws.length % 4 = 0
theorem RK.grow {H H':Heap} {r:V} {ws:List (List Nat)} (h:RK H r ws) (g:Grow H H'):RK H' r ws:=by
 obtain ⟨R,h1,h2,h3⟩:=h;exact ⟨R,h1,h2.ext g,h3⟩
def Z257:List V:=List.replicate 256 (.int .u8 0) ++ [.nils]
theorem zrj:V.okc (.agg Z257) = true:=by kernel_rfl
theorem zh0:Z257.length = 257:=by kernel_rfl
theorem zqW {R:V} (h:R.okc = true) (h1:R.cells = [R]):V.okc (.agg (sbox.map by8 ++ [R])) = true:=by
 rfl
theorem kbuild:Ax.build Z257 [(0,256,.agg (sbox.map by8))] = some (.agg (sbox.map by8 ++ [.nils])):=by
 have e1:(V.agg (sbox.map by8)).cells.length = 256:=by rw [zaj,sbl]
 unfold Ax.build;simp only [fill];rw [if_pos ⟨e1,by rw [zh0]; decide,zaY _⟩,zaj];have:splice Z257 0 (sbox.map by8) = sbox.map by8 ++ [.nils]:=by
  unfold splice Z257;rw [List.take_zero,List.nil_append,sbl,Nat.zero_add,List.drop_left' (by rw [List.length_replicate])]
 rw [this]; rfl
theorem ld257 (R:V):ldc (some 257) (sbox.map by8 ++ [R]) 0 = some (.agg (sbox.map by8 ++ [R])):=by
 rw [zdj (by rw [zly]; decide),List.drop_zero,List.take_of_length_le (by rw [zly]; decide)]
theorem sp257 (R:V) {L:List V} (h:L.length = 257):splice L 0 (sbox.map by8 ++ [R]) = sbox.map by8 ++ [R]:=by
 unfold splice;rw [List.take_zero,List.nil_append,zly,List.drop_of_length_le (by omega),List.append_nil]
theorem ab_low {lo lo':Nat} {H:Heap} {v:V} {l:List Nat} (h:Ab lo H v l) (hl:lo' ≤ lo):Ab lo' H v l:=by
 have h':Apf zad 1 lo H v (l.map by8) l.length:=h;show Apf zad 1 lo' H v (l.map by8) l.length;generalize l.map by8 = cs at *;generalize l.length = n at *;clear h;cases h' with
 | app h=>exact .app (by
   cases h with
   | opn h ho=>exact .opn h fun i hi=>⟨Nat.le_trans hl (ho i hi).1,(ho i hi).2⟩
   | lit h h0 h1=>exact .lit h (Nat.le_trans hl h0) h1)
 | full h hl' h0 h1=>exact .full h hl' (Nat.le_trans hl h0) h1
theorem zrk {lo a n:Nat} {H:Heap} {v:V} {l:List Nat} {Q:V → Heap → Prop} (hv:By lo H v l) (h8:Ok8 l) (hn:n = 4 ∨ n = 8) (hl:l.length = 4 * n) (ha:H.get a = some ⟨zak,Z257,none⟩) (hal:a < H.next)
  (hQ:∀ r H',RK H' r (kw l n (4 * (n + 7))) → Bel a H H' → (∀ R,r = .agg (sbox.map by8 ++ [R]) → ∀ i,R.pid = some i → H.next ≤ i) → Q (.tup [r,.int .i64 0]) H') :
  Ok ((sem T zb5 []).bind fun t22 =>
  (M.lift (Ax.build Z257 [(0,256,t22)])).bind fun t23 =>
  (mbox zak (V.agg Z257)).bind fun t4 =>
  (mstore 257 t4 t23).bind fun _ =>
  (M.lift (Ax.vlen v)).bind fun t25 =>
  (M.lift (Ax.bin .quo t25 (V.int .i64 4))).bind fun t26 =>
  (mslit zad 0 [(V.int .u8 0)] []).bind fun t27 =>
  (mappend zad 1 1 t27 v).bind fun t29 =>
  M.blk 0 (
   M.iter (zbt (sem T) t4 t26 (.ptr a 0) (V.int .i64 0)) [t29,(V.int .u8 1),t26]) fun L5 =>
  M.blk 4 (
   M.iter (zbs (sem T) (L5.getD 0 .undef) t4 (.ptr a 0) (V.int .i64 0)) [(V.int .i64 0)]) fun _ =>
  (mload (some 257) t4).bind fun t160 =>
  (mstore 257 (.ptr a 0) t160).bind fun _ =>
  (mload (some 257) (.ptr a 0)).bind fun r0 =>
  M.pure (.ret [r0,(V.int .i64 0)])) H fun r H'=>∃ L,r = .ret L ∧ Q (zgD L) H':=by
 have hn0:0 < n:=by omega
 refine zag Box_r_ok ?_;rintro _ H1 ⟨rfl,s1⟩;have n1:=s1.next;refine za0 kbuild ?_;refine zao (zaQ zrj ?_);rw [zaj];have s2:=Grow.new H1 ⟨zak,Z257,none⟩;have g2:(H1.new ⟨zak,Z257,none⟩).get H1.next = _:=zab _ _;have n2:(H1.new ⟨zak,Z257,none⟩).next = H1.next + 1:=zaf _ _;have hv2:=(hv.ext s1).ext s2;have ga2:=((s2.same a (by omega)).trans (s1.same a hal)).trans ha;generalize hk:H1.next = k at *;generalize H1.new _ = H2 at *;have spz:=sp257 .nils zh0;have kok:V.okc (.agg (sbox.map by8 ++ [V.nils])) = true:=zqW rfl rfl;have kln:=zly .nils;have e1:((l.length:Nat):Int) / 4 = ((n:Nat):Int):=by omega
 simp (disch:=omega) only [↓RD,RZ,eq_self,seval,g2,spz,kok,zaj,kln,zh0,hv2.vlen,e1];have n3:(H2.set k (some ⟨zak,sbox.map by8 ++ [.nils],none⟩)).next = H2.next:=rfl;have g3:(H2.set k (some ⟨zak,sbox.map by8 ++ [.nils],none⟩)).get k = _:=zal _ _ _;have s3:=At1.set k H2 (some ⟨zak,sbox.map by8 ++ [.nils],none⟩);rw [← n3];generalize Heap.set _ k _ = H3 at *;have ga3:=(s3.same a (by omega) (by omega)).trans ga2;have hvp:∀ i,v.pid = some i → i < k:=fun i hi=>by have:=(hv.own i hi).2; omega
 have hv3:=hv2.at1 s3 (fun e=>by have:=hvp _ e; omega);rw [zaK];refine znK hv3 (by omega) fun x4 H4 hx4 s4=>?_;have n4:=s4.next;have ga4:=(s4.same a (by omega)).trans ga3;have gk4:=(s4.same k (by omega)).trans g3;have ekw:(kw l n n).flatten = l:=by rw [kw_first hl n (Nat.le_refl _),List.take_of_length_le (by omega)]
 have hx4':Ab (k + 1) H4 x4 (kw l n n).flatten:=by rw [ekw]; exact ab_low hx4 (by omega)
 simp (disch:=omega) only [↓RD,RZ,eq_self,seval];refine zas (zrn hn h8 hl hx4' gk4 (by omega)) ?_;rintro _ H5 ⟨x5,rfl,hx5,b5⟩;have n5:=b5.next;have gk5:=(b5.same k (by omega)).trans gk4;have ga5:=(b5.same a (by omega)).trans ga4;have fl:=zqQ hn0 h8 hl (4 * (n + 7));simp (disch:=omega) only [↓RD,RZ,eq_self,seval];refine zas (zrm (m:=n + 7) hx5.by (by rw [fl]; omega) (by omega) ⟨gk5,App.nil,by omega⟩ (fun i hi=>by have:=hx5.by.own i hi; omega)) ?_;rintro _ H6 ⟨R,rfl,⟨gk6,aR,nk6⟩,b6⟩;have n6:=b6.next;have ga6:=(b6.same a (by omega)).trans ga5;have l1:=ld257 R;have rok:V.okc (.agg (sbox.map by8 ++ [R])) = true:=zqW aR.lc.okc aR.lc.cells1;have l2:=sp257 R zh0;have l3:=zly R;simp (disch:=omega) only [↓RD,RZ,eq_self,seval,gk6,l1,ga6,rok,zaj,l2,l3,zh0];refine hQ _ _ ⟨R,rfl,?_,zjU hn0 h8 hl _,by rw [zhj]; omega⟩ ⟨by rw [zan]; omega,fun i hi=>?_⟩ (fun R' e i hi=>?_)
 ·rw [zhj,show 4 * (n + 7) / 4 = n + 7 by omega];exact (aR.lc.low (Nat.zero_le _)).same (by rw [zan]; exact Nat.le_refl _) fun i hi=>zai _ _ (by have:=(aR.lc.own i hi).1; omega)
 ·rw [zai _ _ (by omega),b6.same i (by omega),b5.same i (by omega),s4.same i (by omega),s3.same i (by omega) (by omega),s2.same i (by omega),s1.same i (by omega)]
 ·have e2:sbox.map by8 ++ [R] = sbox.map by8 ++ [R']:=by injection e
  have e3:=List.append_cancel_left e2;injection e3 with e4
  subst e4;have:=(aR.lc.own i hi).1;omega
theorem zrl {lo n:Nat} {H:Heap} {v:V} {l:List Nat} (hv:By lo H v l) (h8:Ok8 l) (hn:n = 4 ∨ n = 8) (hl:l.length = 4 * n) :
  Ok (sem T zcb [v]) H fun r H'=>∃ x,r = .tup [x,.int .i64 0] ∧ RK H' x (kw l n (4 * (n + 7))) ∧ Grow H H' ∧ ∀ R,x = .agg (sbox.map by8 ++ [R]) → ∀ i,R.pid = some i → H.next ≤ i:=by
 refine zhD ?_;unfold zeW uL uS uT uB uG uH uO uc ub ug;refine zao (zaQ zrj ?_);have s1:=Grow.new H ⟨zak,Z257,none⟩;have g1:(H.new ⟨zak,Z257,none⟩).get H.next = _:=zab _ _;have n1:(H.new ⟨zak,Z257,none⟩).next = H.next + 1:=zaf _ _;have hv1:=hv.ext s1;have main:=zrk (Q:=fun r H'=>∃ x,r = .tup [x,.int .i64 0] ∧ RK H' x (kw l n (4 * (n + 7))) ∧ Grow H H' ∧ ∀ R,x = .agg (sbox.map by8 ++ [R]) → ∀ i,R.pid = some i → H.next ≤ i) hv1 h8 hn hl g1 (by omega) (fun r H' h b c=>⟨r,rfl,h,s1.bel' (Nat.le_refl _) b,fun R e i hi=>by have:=c R e i hi; omega⟩);show Ok _ (H.new ⟨zak,Z257,none⟩) _;generalize H.new _ = H1 at *;rcases hn with hn4 | hn8
 ·have hvl:Ax.vlen v = some (.int .i64 16):=by rw [hv.vlen,hl,hn4]; rfl
  simp (disch:=omega) only [↓RD,RZ,eq_self,seval,hvl];exact main
 ·have hvl:Ax.vlen v = some (.int .i64 32):=by rw [hv.vlen,hl,hn8]; rfl
  simp (disch:=omega) only [↓RD,RZ,eq_self,seval,hvl];exact main
end Go.Ax.SU
/- Re12 -/
namespace Go.Ax.SU
open Go.Ax
def zlM (x y:List Nat):List Nat:=(List.range 16).map fun i=>x.getD i 0 ^^^ y.getD i 0
theorem ztz (x y:List Nat):(zlM x y).length = 16:=by simp [zlM]
def rkey (ws:List (List Nat)) (r:Nat):List Nat:=(ws.flatten.drop (16 * r)).take 16
theorem zou {ws:List (List Nat)} (hw:∀ w ∈ ws,Word w) {r:Nat} (h:4 * r + 3 < ws.length):(rkey ws r).length = 16:=by
 unfold rkey;rw [List.length_take,List.length_drop,flat4 ws hw]; omega
theorem rkey_8 {ws:List (List Nat)} (hw:∀ w ∈ ws,Word w) (r:Nat):Ok8 (rkey ws r):=by
 refine Ok8.take (Ok8.drop ?_ _) _;intro x hx;obtain ⟨w,h1,h2⟩:=List.mem_flatten.1 hx;exact (hw w h1).2 x h2
theorem zrs {ws:List (List Nat)} (hw:∀ w ∈ ws,Word w) {r:Nat} (x:List Nat):zlM x (rkey ws r) = addk ws r x:=by
 unfold zlM addk;refine List.map_congr_left fun i hi=>?_;rw [List.mem_range] at hi;congr 1;unfold rkey;rw [getD_take hi,getD_drop];have:=zoP ws hw (4 * r + i / 4) (i % 4) (Nat.mod_lt _ (by decide));rw [show (4 * r + i / 4) * 4 + i % 4 = 16 * r + i by omega] at this;exact this
theorem ztD {H:Heap} {x y:List Nat} (hx:x.length = 16) (x8:Ok8 x) (hy:y.length = 16) (y8:Ok8 y) :
  Ok (sem T zbT [.agg (x.map by8),.agg (y.map by8)]) H fun r H'=>r = .agg ((zlM x y).map by8) ∧ Grow H H':=by
 refine ziu ?_;unfold zfN uS uT uO uc;refine zao (zaQ (zaY _) ?_);rw [zaj];have s1:=Grow.new H ⟨zaa,x.map by8,none⟩;have g1:(H.new ⟨zaa,x.map by8,none⟩).get H.next = some ⟨zaa,x.map by8,none⟩:=zab _ _;have n1:(H.new ⟨zaa,x.map by8,none⟩).next = H.next + 1:=zaf _ _;generalize ha:H.next = a at *;generalize H.new _ = H1 at *;refine zao (zaQ (zaY _) ?_);rw [zaj];have s2:=Grow.new H1 ⟨zaa,y.map by8,none⟩;have g2:(H1.new ⟨zaa,y.map by8,none⟩).get H1.next = some ⟨zaa,y.map by8,none⟩:=zab _ _;have n2:(H1.new ⟨zaa,y.map by8,none⟩).next = H1.next + 1:=zaf _ _;have ga2:=(s2.same a (by omega)).trans g1;generalize hb:H1.next = b at *;generalize H1.new _ = H2 at *;refine zao (zaQ (by rfl) ?_);rw [zaj];have s3:=Grow.new H2 ⟨zaa,[.int .u8 0,.int .u8 0,.int .u8 0,.int .u8 0,.int .u8 0,.int .u8 0,.int .u8 0,.int .u8 0,.int .u8 0,.int .u8 0,.int .u8 0,.int .u8 0,.int .u8 0,.int .u8 0,.int .u8 0,.int .u8 0],none⟩;have g3:(H2.new ⟨zaa,[.int .u8 0,.int .u8 0,.int .u8 0,.int .u8 0,.int .u8 0,.int .u8 0,.int .u8 0,.int .u8 0,.int .u8 0,.int .u8 0,.int .u8 0,.int .u8 0,.int .u8 0,.int .u8 0,.int .u8 0,.int .u8 0],none⟩).get H2.next = some ⟨zaa,[.int .u8 0,.int .u8 0,.int .u8 0,.int .u8 0,.int .u8 0,.int .u8 0,.int .u8 0,.int .u8 0,.int .u8 0,.int .u8 0,.int .u8 0,.int .u8 0,.int .u8 0,.int .u8 0,.int .u8 0,.int .u8 0],none⟩:=zab _ _;have n3:(H2.new ⟨zaa,[.int .u8 0,.int .u8 0,.int .u8 0,.int .u8 0,.int .u8 0,.int .u8 0,.int .u8 0,.int .u8 0,.int .u8 0,.int .u8 0,.int .u8 0,.int .u8 0,.int .u8 0,.int .u8 0,.int .u8 0,.int .u8 0],none⟩).next = H2.next + 1:=zaf _ _;have ga3:=(s3.same a (by omega)).trans ga2;have gb3:=(s3.same b (by omega)).trans g2;generalize hc:H2.next = c at *;generalize H2.new _ = H3 at *;have xl:=ztz x y;simp (disch:=omega) only [↓RD,RZ,eq_self,seval];refine zas (Q:=fun z H'=>z = .ex 0 [] ∧ H'.get a = some ⟨zaa,(zlM x y).map by8,none⟩ ∧ At1 a H3 H') ?_ ?_
 ·refine zaE (fun i L H'=>L = [.int .i64 (i:Nat)] ∧ H'.get a = some ⟨zaa,((zlM x y).take i ++ x.drop i).map by8,none⟩ ∧ At1 a H3 H') 16 ?_ ?_ ?_
  ·exact ⟨rfl,by simpa using ga3,At1.refl _ _⟩
  ·rintro i L H4 hi ⟨rfl,g4,s4⟩;have gb4:=(s4.same b (by omega) (by omega)).trans gb3;have hA':(((zlM x y).take i).map by8).length = i:=by rw [List.length_map,List.length_take]; omega
   rw [znO (by omega)] at g4;have m1:=ziF (b:=by8 (x.getD i 0)) (C:=(x.drop (i + 1)).map by8) hA';have m2:=ziE (b:=by8 (x.getD i 0)) (y:=by8 ((zlM x y).getD i 0)) (C:=(x.drop (i + 1)).map by8) hA';have ml:(((zlM x y).take i).map by8 ++ by8 (x.getD i 0) :: (x.drop (i + 1)).map by8).length = 16:=by rw [List.length_append,hA',List.length_cons,List.length_map,List.length_drop]; omega
   have by':=bg (l:=y) (i:=i) (by omega)
   have ex:=zfA (x8.getD i) (y8.getD i);have ea:x.getD i 0 ^^^ y.getD i 0 = (zlM x y).getD i 0:=by unfold zlM; rw [zcu hi]
   rw [ea] at ex;unfold zdy uT uB uI uIM uc ug;simp (disch:=omega) only [↓RD,RZ,eq_self,seval,g4,m1,gb4,by',ex,m2,ml,zcZ,zaP];refine ⟨by omega,rfl,?_,s4.trans (At1.set a _ _)⟩;rw [zkY (by omega)]
  ·rintro L H4 ⟨rfl,g4,s4⟩;unfold zdy uT uB uI uIM uc ug;simp (disch:=omega) only [↓RD,RZ,eq_self,seval];refine ⟨?_,s4⟩;rw [g4,List.take_of_length_le (by omega),List.drop_of_length_le (by omega),List.append_nil]
 ·rintro _ H4 ⟨rfl,g4,s4⟩;have n4:=s4.next;have gc4:=(s4.same c (by omega) (by omega)).trans g3;have l1:=ld16 xl;have l2:=sp16 xl (L:=[.int .u8 0,.int .u8 0,.int .u8 0,.int .u8 0,.int .u8 0,.int .u8 0,.int .u8 0,.int .u8 0,.int .u8 0,.int .u8 0,.int .u8 0,.int .u8 0,.int .u8 0,.int .u8 0,.int .u8 0,.int .u8 0]) rfl;have l3:=zfg xl;simp (disch:=omega) only [↓RD,RZ,eq_self,seval,g4,l1,gc4,zaY,zaj,l2,l3];exact ⟨by rw [zan]; omega,fun i hi=>by rw [zai _ _ (by omega),s4.same i (by omega) (by omega),s3.same i (by omega),s2.same i (by omega),s1.same i (by omega)]⟩
theorem ztc {H:Heap} {x:List Nat} (hx:x.length = 16) (h8:Ok8 x) :
  Ok (sem T zb0 [.agg (x.map by8)]) H fun res H'=>res = .agg ((mixd x).map by8) ∧ Grow H H':=by
 refine zhd ?_;unfold zeM uS uT uO uc;refine zao (zaQ (zaY _) ?_);rw [zaj];have s1:=Grow.new H ⟨zaa,x.map by8,none⟩;have g1:(H.new ⟨zaa,x.map by8,none⟩).get H.next = some ⟨zaa,x.map by8,none⟩:=zab _ _;have n1:(H.new ⟨zaa,x.map by8,none⟩).next = H.next + 1:=zaf _ _;generalize ha:H.next = a at *;generalize H.new _ = H1 at *;refine zao (zaQ (by rfl) ?_);have s2:=Grow.new H1 ⟨zaa,[.int .u8 0,.int .u8 0,.int .u8 0,.int .u8 0,.int .u8 0,.int .u8 0,.int .u8 0,.int .u8 0,.int .u8 0,.int .u8 0,.int .u8 0,.int .u8 0,.int .u8 0,.int .u8 0,.int .u8 0,.int .u8 0],none⟩;have g2:(H1.new ⟨zaa,[.int .u8 0,.int .u8 0,.int .u8 0,.int .u8 0,.int .u8 0,.int .u8 0,.int .u8 0,.int .u8 0,.int .u8 0,.int .u8 0,.int .u8 0,.int .u8 0,.int .u8 0,.int .u8 0,.int .u8 0,.int .u8 0],none⟩).get H1.next = some ⟨zaa,[.int .u8 0,.int .u8 0,.int .u8 0,.int .u8 0,.int .u8 0,.int .u8 0,.int .u8 0,.int .u8 0,.int .u8 0,.int .u8 0,.int .u8 0,.int .u8 0,.int .u8 0,.int .u8 0,.int .u8 0,.int .u8 0],none⟩:=zab _ _;have n2:(H1.new ⟨zaa,[.int .u8 0,.int .u8 0,.int .u8 0,.int .u8 0,.int .u8 0,.int .u8 0,.int .u8 0,.int .u8 0,.int .u8 0,.int .u8 0,.int .u8 0,.int .u8 0,.int .u8 0,.int .u8 0,.int .u8 0,.int .u8 0],none⟩).next = H1.next + 1:=zaf _ _;have ga2:=(s2.same a (by omega)).trans g1;rw [zaj];generalize hb:H1.next = b at *;generalize H1.new _ = H2 at *;refine zao (zaQ (by rfl) ?_);have s4:=Grow.new H2 ⟨zaa,[.int .u8 0,.int .u8 0,.int .u8 0,.int .u8 0,.int .u8 0,.int .u8 0,.int .u8 0,.int .u8 0,.int .u8 0,.int .u8 0,.int .u8 0,.int .u8 0,.int .u8 0,.int .u8 0,.int .u8 0,.int .u8 0],none⟩;have g4:(H2.new ⟨zaa,[.int .u8 0,.int .u8 0,.int .u8 0,.int .u8 0,.int .u8 0,.int .u8 0,.int .u8 0,.int .u8 0,.int .u8 0,.int .u8 0,.int .u8 0,.int .u8 0,.int .u8 0,.int .u8 0,.int .u8 0,.int .u8 0],none⟩).get H2.next = some ⟨zaa,List.replicate 16 (.int .u8 0),none⟩:=zab _ _;have n4:(H2.new ⟨zaa,[.int .u8 0,.int .u8 0,.int .u8 0,.int .u8 0,.int .u8 0,.int .u8 0,.int .u8 0,.int .u8 0,.int .u8 0,.int .u8 0,.int .u8 0,.int .u8 0,.int .u8 0,.int .u8 0,.int .u8 0,.int .u8 0],none⟩).next = H2.next + 1:=zaf _ _;have ga4:=(s4.same a (by omega)).trans ga2;have gb4:=(s4.same b (by omega)).trans g2;rw [zaj];generalize hc:H2.next = c at *;generalize H2.new _ = H4 at *;have hml:=zgI x;simp (disch:=first | omega | (simp only [RY] <;> omega) | decide) only [↓RD,RZ,eq_self,Int.reduceToNat,Int.reduceAdd,Nat.reduceAdd,Nat.reduceSub,Nat.reduceMul,Nat.reduceLeDiff];refine zas (Q:=fun z H'=>z = .ex 0 [] ∧ H'.get c = some ⟨zaa,(mixd x).map by8,none⟩ ∧ At1 c H4 H') ?_ ?_
 ·refine zaE (fun C L H'=>L = [.int .i64 ((4 * C:Nat):Int)] ∧ H'.get c = some ⟨zaa,((mixd x).take (4 * C)).map by8 ++ List.replicate (16 - 4 * C) (.int .u8 0),none⟩ ∧ At1 c H4 H') 4 ?_ ?_ ?_
  ·exact ⟨rfl,by simpa using g4,At1.refl _ _⟩
  ·rintro C L H5 hC ⟨rfl,g5,s5⟩;unfold zc3 uB uc ug;simp (disch:=first | omega | (simp only [RY] <;> omega) | decide) only [↓RD,RZ,eq_self,Int.reduceToNat,Int.reduceAdd,Nat.reduceAdd,Nat.reduceSub,Nat.reduceMul,Nat.reduceLeDiff];refine zas (Q:=fun z H'=>z = .ex 2 [] ∧ H'.get c = some ⟨zaa,((mixd x).take (4 * C + 4)).map by8 ++ List.replicate (16 - (4 * C + 4)) (.int .u8 0),none⟩ ∧ At1 c H4 H') ?_ ?_
   ·refine zaE (fun j L H'=>L = [.int .i64 (j:Nat)] ∧ H'.get c = some ⟨zaa,((mixd x).take (4 * C + j)).map by8 ++ List.replicate (16 - (4 * C + j)) (.int .u8 0),none⟩ ∧ At1 c H4 H') 4 ?_ ?_ ?_
    ·exact ⟨rfl,g5,s5⟩
    ·rintro j L H6 hj ⟨rfl,g6,s6⟩;have ga6:=(s6.same a (by omega) (by omega)).trans ga4;obtain ⟨i,hi⟩:∃ i,4 * C + j = i:=⟨_,rfl⟩;rw [show 4 * C + (j + 1) = i + 1 by omega];rw [hi] at g6;have hi16:i < 16:=by omega
     have hl0:(((mixd x).take i).map by8).length = i:=by rw [List.length_map,List.length_take]; omega
     have x0:=zaZ (z:=.int .u8 0) (x:=by8 ((mixd x).getD i 0)) hl0 hi16;have ml:(((mixd x).take i).map by8 ++ List.replicate (16 - i) (V.int .u8 0)).length = 16:=by rw [List.length_append,hl0,List.length_replicate]; omega
     have e0:((4 * C:Nat):Int) + ((j:Nat):Int) = ((i:Nat):Int):=by omega
     have f1:(((j:Nat):Int) + 1) % 4 = (((j + 1) % 4:Nat):Int):=by omega
     have f2:(((j:Nat):Int) + 2) % 4 = (((j + 2) % 4:Nat):Int):=by omega
     have f3:(((j:Nat):Int) + 3) % 4 = (((j + 3) % 4:Nat):Int):=by omega
     have k1:((4 * C:Nat):Int) + (((j + 1) % 4:Nat):Int) = ((i - i % 4 + (i + 1) % 4:Nat):Int):=by omega
     have k2:((4 * C:Nat):Int) + (((j + 2) % 4:Nat):Int) = ((i - i % 4 + (i + 2) % 4:Nat):Int):=by omega
     have k3:((4 * C:Nat):Int) + (((j + 3) % 4:Nat):Int) = ((i - i % 4 + (i + 3) % 4:Nat):Int):=by omega
     have m0:i - i % 4 ≤ 12:=by omega
     have m1:=Nat.mod_lt (i + 1) (show 0 < 4 by decide);have m2:=Nat.mod_lt (i + 2) (show 0 < 4 by decide);have m3:=Nat.mod_lt (i + 3) (show 0 < 4 by decide);have b0:=bg (l:=x) (i:=i) (by omega);have b1:=bg (l:=x) (i:=i - i % 4 + (i + 1) % 4) (by omega);have b2:=bg (l:=x) (i:=i - i % 4 + (i + 2) % 4) (by omega);have b3:=bg (l:=x) (i:=i - i % 4 + (i + 3) % 4) (by omega);have q0:=h8.getD i;have q1:=h8.getD (i - i % 4 + (i + 1) % 4);have q2:=h8.getD (i - i % 4 + (i + 2) % 4);have q3:=h8.getD (i - i % 4 + (i + 3) % 4);have w0:=rt2 q0;have w1:=rt3 q1;have t8:t3 (x.getD (i - i % 4 + (i + 1) % 4) 0) < 256:=za6 (zjE q1) q1;have x1:=zfA (zjE q0) t8;have x2:=zfA (za6 (zjE q0) t8) q2;have x3:=zfA (za6 (za6 (zjE q0) t8) q2) q3;have em:xt (x.getD i 0) ^^^ t3 (x.getD (i - i % 4 + (i + 1) % 4) 0) ^^^ x.getD (i - i % 4 + (i + 2) % 4) 0 ^^^ x.getD (i - i % 4 + (i + 3) % 4) 0 = (mixd x).getD i 0:=by
      unfold mixd t3;rw [zcu hi16,← Nat.xor_assoc]
     rw [em] at x3;unfold zc4 uM uT uB uI uIM uU uc ub ug;simp (disch:=first | omega | (simp only [RY] <;> omega) | decide) only [↓RD,RZ,eq_self,Int.reduceToNat,Int.reduceAdd,Nat.reduceAdd,Nat.reduceSub,Nat.reduceMul,Nat.reduceLeDiff,e0,f1,f2,f3,k1,k2,k3,ga6,b0,b1,b2,b3,w0,w1,x1,x2,x3,g6,x0,ml,zcZ,zaP];refine ⟨by omega,rfl,?_,s6.trans (At1.set c _ _)⟩;rw [zbx (by omega)]; simp
    ·rintro L H6 ⟨rfl,g6,s6⟩;unfold zc4 uM uT uB uI uIM uU uc ub ug;simp (disch:=first | omega | (simp only [RY] <;> omega) | decide) only [↓RD,RZ,eq_self,Int.reduceToNat,Int.reduceAdd,Nat.reduceAdd,Nat.reduceSub,Nat.reduceMul,Nat.reduceLeDiff];exact ⟨g6,s6⟩
   ·rintro _ H6 ⟨rfl,g6,s6⟩;simp (disch:=first | omega | (simp only [RY] <;> omega) | decide) only [↓RD,RZ,eq_self,Int.reduceToNat,Int.reduceAdd,Nat.reduceAdd,Nat.reduceSub,Nat.reduceMul,Nat.reduceLeDiff];exact ⟨rfl,g6,s6⟩
  ·rintro L H5 ⟨rfl,g5,s5⟩;unfold zc3 uB uc ug;simp (disch:=first | omega | (simp only [RY] <;> omega) | decide) only [↓RD,RZ,eq_self,Int.reduceToNat,Int.reduceAdd,Nat.reduceAdd,Nat.reduceSub,Nat.reduceMul,Nat.reduceLeDiff];refine ⟨?_,s5⟩;rw [g5,List.take_of_length_le (by omega)]; simp
 ·rintro _ H5 ⟨rfl,g5,s5⟩;have n5:=s5.next;have gb5:=(s5.same b (by omega) (by omega)).trans gb4;have l1:=ld16 hml;have l2:=sp16 hml (L:=[.int .u8 0,.int .u8 0,.int .u8 0,.int .u8 0,.int .u8 0,.int .u8 0,.int .u8 0,.int .u8 0,.int .u8 0,.int .u8 0,.int .u8 0,.int .u8 0,.int .u8 0,.int .u8 0,.int .u8 0,.int .u8 0]) rfl;have l3:=zfg hml;simp (disch:=first | omega | (simp only [RY] <;> omega) | decide) only [↓RD,RZ,eq_self,Int.reduceToNat,Int.reduceAdd,Nat.reduceAdd,Nat.reduceSub,Nat.reduceMul,Nat.reduceLeDiff,g5,l1,gb5,zaY,zaj,l2,l3];exact ⟨by rw [zan]; omega,fun i hi=>by rw [zai _ _ (by omega),s5.same i (by omega) (by omega),s4.same i (by omega),s2.same i (by omega),s1.same i (by omega)]⟩
end Go.Ax.SU
/- Re13 -/
namespace Go.Ax.SU
open Go.Ax
theorem rk_at {H:Heap} {R:V} {ws:List (List Nat)} (hR:Lc 16 0 H R (ws.flatten.map by8) (ws.length / 4)) (hw:∀ w ∈ ws,Word w) (h4:ws.length % 4 = 0) {i:Nat} (hi:i < ws.length / 4):∃ p,(∀ {k:IntKind},Ax.iaddr none 16 R (.int k ((i:Nat):Int)) = some p) ∧ LdR (some 16) H p (.agg ((rkey ws i).map by8)):=by
 obtain ⟨p,hp,pl⟩:=hR.at (i:=(i:Nat)) (by omega) (by omega);refine ⟨p,hp,?_⟩;have ha:=pl.all;have e:((ws.flatten.map by8).drop ((i:Int).toNat * 16)).take 16 = (rkey ws i).map by8:=by
  unfold rkey;rw [Int.toNat_natCast,← List.map_drop,← List.map_take,Nat.mul_comm]
 rw [e,List.length_map,zou hw (by omega)] at ha;exact ha
theorem moved_r {t2 q c:Nat} {H:Heap} {R u4:V} {x:List Nat} (hx:x.length = 16) (h8:Ok8 x) (g2:H.get t2 = some ⟨zak,sbox.map by8 ++ [R],none⟩) (gq:H.get q = some ⟨zaa,x.map by8,none⟩) (gc:H.get c = some ⟨zaa,List.replicate 16 (.int .u8 0),none⟩) (h2:t2 < H.next) (hq:q < H.next) (hc2:c ≠ t2) (hcq:c ≠ q) :
  Ok (M.iter (zbH (sem T) (.ptr q 0) (.ptr t2 0) (.ptr c 0) u4) [.int .i64 0]) H fun r H'=>r = .ex 2 [] ∧ H'.get c = some ⟨zaa,(movd x).map by8,none⟩ ∧ At1 c H H':=by
 have hml:=zeE x;refine zaE (fun i L H'=>L = [.int .i64 (i:Nat)] ∧ H'.get c = some ⟨zaa,((movd x).take i).map by8 ++ List.replicate (16 - i) (.int .u8 0),none⟩ ∧ At1 c H H') 16 ?_ ?_ ?_
 ·exact ⟨rfl,by simpa using gc,At1.refl _ _⟩
 ·rintro i L H5 hi ⟨rfl,g5,s5⟩;have gk5:=(s5.same t2 h2 (by omega)).trans g2;have ga5:=(s5.same q hq (by omega)).trans gq;have hl0:(((movd x).take i).map by8).length = i:=by rw [List.length_map,List.length_take]; omega
  have x0:=zaZ (z:=.int .u8 0) (x:=by8 ((movd x).getD i 0)) hl0 hi;have ml:(((movd x).take i).map by8 ++ List.replicate (16 - i) (V.int .u8 0)).length = 16:=by rw [List.length_append,hl0,List.length_replicate]; omega
  have e1:((i:Nat):Int) % 4 = ((i % 4:Nat):Int):=by omega
  have e2:(4:Int) * ((i % 4:Nat):Int) = ((4 * (i % 4):Nat):Int):=by omega
  have e3:((i:Nat):Int) + ((4 * (i % 4):Nat):Int) = ((i + 4 * (i % 4):Nat):Int):=by omega
  have e4:((i + 4 * (i % 4):Nat):Int) % 16 = (((i + 4 * (i % 4)) % 16:Nat):Int):=by omega
  have hm:=Nat.mod_lt (i + 4 * (i % 4)) (show 0 < 16 by decide);have hm4:=Nat.mod_lt i (show 0 < 4 by decide);have eg:=bg (l:=x) (i:=(i + 4 * (i % 4)) % 16) (by omega);have hb8:=h8.getD ((i + 4 * (i % 4)) % 16);have ia:=zll (id:=t2) (off:=0) (n:=256) hb8;rw [Nat.zero_add] at ia;have et:=sb_at (R:=R) hb8;have em:sb (x.getD ((i + 4 * (i % 4)) % 16) 0) = (movd x).getD i 0:=by unfold movd; rw [zcu hi]
  rw [em] at et;unfold zbH uT uF uB uI uIM uc ug;simp (disch:=omega) only [↓RD,RZ,e1,e2,e3,e4,ga5,eg,ia,gk5,et,g5,x0,ml,zcZ,zaP];refine ⟨by omega,rfl,?_,s5.trans (At1.set c _ _)⟩;rw [zbx (by omega)]; simp
 ·rintro L H5 ⟨rfl,g5,s5⟩;unfold zbH uT uF uB uI uIM uc ug;simp (disch:=omega) only [↓RD,RZ];refine ⟨?_,s5⟩;rw [g5,List.take_of_length_le (by omega)]; simp
theorem zv0 {H:Heap} {r:V} {ws:List (List Nat)} {x:List Nat} (hK:RK H r ws) (hx:x.length = 16) (h8:Ok8 x) (hwl:ws.length ≤ 1000) (hw8:8 ≤ ws.length) :
  Ok (sem T zbd [r,.agg (x.map by8)]) H fun res H'=>res = .agg ((aes ws x).map by8) ∧ Grow H H':=by
 obtain ⟨R,rfl,hR,hw,hw4⟩:=hK;refine zgA ?_;unfold zel uS uT uFM uI uO uc;refine zao (zaQ (zqW hR.okc hR.cells1) ?_);rw [zaj];have s1:=Grow.new H ⟨zak,sbox.map by8 ++ [R],none⟩;have g1:(H.new ⟨zak,sbox.map by8 ++ [R],none⟩).get H.next = some ⟨zak,sbox.map by8 ++ [R],none⟩:=zab _ _;have n1:(H.new ⟨zak,sbox.map by8 ++ [R],none⟩).next = H.next + 1:=zaf _ _;generalize ha:H.next = a at *;generalize H.new _ = H1 at *;refine zao (zaQ (zaY _) ?_);rw [zaj];have s2:=Grow.new H1 ⟨zaa,x.map by8,none⟩;have g2:(H1.new ⟨zaa,x.map by8,none⟩).get H1.next = some ⟨zaa,x.map by8,none⟩:=zab _ _;have n2:(H1.new ⟨zaa,x.map by8,none⟩).next = H1.next + 1:=zaf _ _;have ga2:=(s2.same a (by omega)).trans g1;generalize hb:H1.next = b at *;generalize H1.new _ = H2 at *;refine zao (zaQ (by rfl) ?_);rw [zaj];have s3:=Grow.new H2 ⟨zaa,[.int .u8 0,.int .u8 0,.int .u8 0,.int .u8 0,.int .u8 0,.int .u8 0,.int .u8 0,.int .u8 0,.int .u8 0,.int .u8 0,.int .u8 0,.int .u8 0,.int .u8 0,.int .u8 0,.int .u8 0,.int .u8 0],none⟩;have g3:(H2.new ⟨zaa,[.int .u8 0,.int .u8 0,.int .u8 0,.int .u8 0,.int .u8 0,.int .u8 0,.int .u8 0,.int .u8 0,.int .u8 0,.int .u8 0,.int .u8 0,.int .u8 0,.int .u8 0,.int .u8 0,.int .u8 0,.int .u8 0],none⟩).get H2.next = some ⟨zaa,[.int .u8 0,.int .u8 0,.int .u8 0,.int .u8 0,.int .u8 0,.int .u8 0,.int .u8 0,.int .u8 0,.int .u8 0,.int .u8 0,.int .u8 0,.int .u8 0,.int .u8 0,.int .u8 0,.int .u8 0,.int .u8 0],none⟩:=zab _ _;have n3:(H2.new ⟨zaa,[.int .u8 0,.int .u8 0,.int .u8 0,.int .u8 0,.int .u8 0,.int .u8 0,.int .u8 0,.int .u8 0,.int .u8 0,.int .u8 0,.int .u8 0,.int .u8 0,.int .u8 0,.int .u8 0,.int .u8 0,.int .u8 0],none⟩).next = H2.next + 1:=zaf _ _;have ga3:=(s3.same a (by omega)).trans ga2;have gb3:=(s3.same b (by omega)).trans g2;generalize hc:H2.next = c at *;generalize H2.new _ = H3 at *;have s03:Grow H H3:=(s1.trans s2).trans s3;have hR3:=hR.ext s03;have ek:=key256 R;have l1:=ld16 hx;have hRv:=hR.vlen;obtain ⟨p,hp,hld⟩:=rk_at hR3 hw hw4 (i:=0) (by omega);replace hp:∀ {k:IntKind},Ax.iaddr none 16 R (.int k 0) = some p:=hp;simp (disch:=omega) only [↓RD,RZ,eq_self,seval,gb3,l1,ga3,ek,hp,hld];refine zag (ztD hx h8 (zou hw (by omega)) (rkey_8 hw 0)) ?_;rintro _ H4 ⟨rfl,s4⟩;have n4:=s4.next;rw [zrs hw];have al:=zc1 ws 0 x;have m2:=sp16 al (L:=[.int .u8 0,.int .u8 0,.int .u8 0,.int .u8 0,.int .u8 0,.int .u8 0,.int .u8 0,.int .u8 0,.int .u8 0,.int .u8 0,.int .u8 0,.int .u8 0,.int .u8 0,.int .u8 0,.int .u8 0,.int .u8 0]) rfl;have m3:=zfg al;simp (disch:=omega) only [↓RD,RZ,eq_self,seval,zaY,zaj,m2,m3];have s5:Grow H4 ((H4.new ⟨zaa,[.int .u8 0,.int .u8 0,.int .u8 0,.int .u8 0,.int .u8 0,.int .u8 0,.int .u8 0,.int .u8 0,.int .u8 0,.int .u8 0,.int .u8 0,.int .u8 0,.int .u8 0,.int .u8 0,.int .u8 0,.int .u8 0],none⟩).set H4.next (some ⟨zaa,(addk ws 0 x).map by8,none⟩)):=(Grow.new _ _).set (Nat.le_refl _) _
 have g5:((H4.new ⟨zaa,[.int .u8 0,.int .u8 0,.int .u8 0,.int .u8 0,.int .u8 0,.int .u8 0,.int .u8 0,.int .u8 0,.int .u8 0,.int .u8 0,.int .u8 0,.int .u8 0,.int .u8 0,.int .u8 0,.int .u8 0,.int .u8 0],none⟩).set H4.next (some ⟨zaa,(addk ws 0 x).map by8,none⟩)).get H4.next = some ⟨zaa,(addk ws 0 x).map by8,none⟩:=zal _ _ _;have n5:((H4.new ⟨zaa,[.int .u8 0,.int .u8 0,.int .u8 0,.int .u8 0,.int .u8 0,.int .u8 0,.int .u8 0,.int .u8 0,.int .u8 0,.int .u8 0,.int .u8 0,.int .u8 0,.int .u8 0,.int .u8 0,.int .u8 0,.int .u8 0],none⟩).set H4.next (some ⟨zaa,(addk ws 0 x).map by8,none⟩)).next = H4.next + 1:=rfl;generalize hq:H4.next = q at *;generalize Heap.set _ q _ = H5 at *;have s05:Grow H H5:=(s03.trans s4).trans s5;have ga5:=(s5.same a (by omega)).trans ((s4.same a (by omega)).trans ga3);have gc5:=(s5.same c (by omega)).trans ((s4.same c (by omega)).trans g3);have gA:∀ H',At1 q H5 H' → Grow H H':=fun H' g=>⟨Nat.le_trans s05.next g.next,fun i hi=>by rw [g.same i (by omega) (by omega),s05.same i hi]⟩;have bl:∀ i,(bst ws x i).length = 16:=fun i=>by unfold bst; split; exact zsk _; exact zc1 _ _ _
 have b8:∀ i,Ok8 (bst ws x i):=fun i=>by unfold bst; split; exact arnd_8 hw h8 _; exact zqf hw (zjq _)
 refine zas (Q:=fun z H'=>z = .ex 0 [] ∧ H'.get q = some ⟨zaa,(aes ws x).map by8,none⟩ ∧ At1 q H5 H') ?_ ?_
 ·refine zaE (fun i L H'=>L = [.int .i64 ((i + 1:Nat):Int)] ∧ H'.get q = some ⟨zaa,(bst ws x i).map by8,none⟩ ∧ At1 q H5 H') (ws.length / 4 - 1) ?_ ?_ ?_
  ·refine ⟨rfl,?_,At1.refl _ _⟩;unfold bst;rw [if_pos (by omega)];exact g5
  ·rintro i L H6 hi ⟨rfl,g6,s6⟩;have n6:=s6.next;have e5:((i + 1:Nat):Int) + 1 = ((i + 1 + 1:Nat):Int):=rfl;have eL:((ws.length / 4:Nat):Int) - 1 = ((ws.length / 4 - 1:Nat):Int):=by omega
   have ga6:=(s6.same a (by omega) (by omega)).trans ga5;unfold zcy uL uS uT uFM uB uI uO uc ug;simp (disch:=omega) only [↓RD,RZ,eq_self,seval,ga6,ek,hRv];have s7:=Grow.new H6 ⟨zaa,[.int .u8 0,.int .u8 0,.int .u8 0,.int .u8 0,.int .u8 0,.int .u8 0,.int .u8 0,.int .u8 0,.int .u8 0,.int .u8 0,.int .u8 0,.int .u8 0,.int .u8 0,.int .u8 0,.int .u8 0,.int .u8 0],none⟩;have g7:(H6.new ⟨zaa,[.int .u8 0,.int .u8 0,.int .u8 0,.int .u8 0,.int .u8 0,.int .u8 0,.int .u8 0,.int .u8 0,.int .u8 0,.int .u8 0,.int .u8 0,.int .u8 0,.int .u8 0,.int .u8 0,.int .u8 0,.int .u8 0],none⟩).get H6.next = some ⟨zaa,List.replicate 16 (.int .u8 0),none⟩:=zab _ _;have n7:(H6.new ⟨zaa,[.int .u8 0,.int .u8 0,.int .u8 0,.int .u8 0,.int .u8 0,.int .u8 0,.int .u8 0,.int .u8 0,.int .u8 0,.int .u8 0,.int .u8 0,.int .u8 0,.int .u8 0,.int .u8 0,.int .u8 0,.int .u8 0],none⟩).next = H6.next + 1:=zaf _ _;have gq7:=(s7.same q (by omega)).trans g6;have ga7:=(s7.same a (by omega)).trans ga6;generalize hd:H6.next = d at *;generalize H6.new _ = H7 at *;refine zas (moved_r (bl i) (b8 i) ga7 gq7 g7 (by omega) (by omega) (by omega) (by omega)) ?_;rintro _ H8 ⟨rfl,g8,s8⟩;have n8:=s8.next;have ga8:=(s8.same a (by omega) (by omega)).trans ga7;have gq8:=(s8.same q (by omega) (by omega)).trans gq7;have l5:=ld16 (zeE (bst ws x i));have l3:=zfg (zeE (bst ws x i));simp (disch:=omega) only [↓RD,RZ,eq_self,seval,ga8,ek,hRv,eL];refine zas (Q:=fun z H'=>z = .nrm [] ∧ H'.get d = some ⟨zaa,(if i + 1 < ws.length / 4 - 1 then mixd (movd (bst ws x i)) else movd (bst ws x i)).map by8,none⟩ ∧ At1 d H8 H') ?_ ?_
   ·refine zbw (fun h=>?_) (fun h=>?_)
    ·simp (disch:=omega) only [↓RD,RZ,eq_self,seval,g8,l5];refine zag (ztc (zeE _) (zjq _)) ?_;rintro _ H9 ⟨rfl,s9⟩;have n9:=s9.next;have g9:=(s9.same d (by omega)).trans g8;have m2:=sp16 (zgI (movd (bst ws x i))) (L:=(movd (bst ws x i)).map by8) l3;have m3:=zfg (zgI (movd (bst ws x i)));simp (disch:=omega) only [↓RD,RZ,eq_self,seval,g9,zaY,zaj,m2,m3,l3];exact ⟨by rw [if_pos (by omega)],(s9.at1 d).trans (At1.set d _ _)⟩
    ·simp (disch:=omega) only [↓RD,RZ,eq_self,seval];rw [if_neg (by omega)];exact ⟨g8,At1.refl _ _⟩
   ·rintro _ H9 ⟨rfl,g9,s9⟩;have n9:=s9.next;have ga9:=(s9.same a (by omega) (by omega)).trans ga8;have gq9:=(s9.same q (by omega) (by omega)).trans gq8;generalize hy:(if i + 1 < ws.length / 4 - 1 then mixd (movd (bst ws x i)) else movd (bst ws x i)) = y at *;have yl:y.length = 16:=by rw [← hy]; split; exact zgI _; exact zeE _
    have y8:Ok8 y:=by rw [← hy]; split; exact zuH (zjq _); exact zjq _
    have s69:At1 q H6 H9:=⟨by omega,fun j hj hjq=>by rw [s9.same j (by omega) (by omega),s8.same j (by omega) (by omega),s7.same j (by omega)]⟩;have hR9:=hR.ext (gA _ (s6.trans s69));obtain ⟨p9,hp9,hld9⟩:=rk_at hR9 hw hw4 (i:=i + 1) (by omega);have k1:=ld16 yl;simp (disch:=omega) only [↓RD,RZ,eq_self,seval,g9,k1,ga9,ek,hp9,hld9];refine zag (ztD yl y8 (zou hw (by omega)) (rkey_8 hw (i + 1))) ?_;rintro _ H10 ⟨rfl,s10⟩;have n10:=s10.next;rw [zrs hw];have gq10:=(s10.same q (by omega)).trans gq9;have u2:=sp16 (zc1 ws (i + 1) y) (L:=(bst ws x i).map by8) (zfg (bl i));have u3:=zfg (zc1 ws (i + 1) y);have u4:=zfg (bl i);simp (disch:=omega) only [↓RD,RZ,eq_self,seval,gq10,zaY,zaj,u2,u3,u4,e5];refine ⟨?_,(s6.trans s69).trans ((s10.at1 q).trans (At1.set q _ _))⟩;congr 3;rw [← hy];unfold bst;rw [if_pos hi];by_cases h:i + 1 < ws.length / 4 - 1
    ·rw [if_pos h,if_pos h]; rfl
    ·rw [if_neg h,if_neg h];unfold aes;rw [show ws.length / 4 - 2 = i by omega,show ws.length / 4 - 1 = i + 1 by omega]
  ·rintro L H6 ⟨rfl,g6,s6⟩;have ga6:=(s6.same a (by omega) (by omega)).trans ga5;unfold zcy uL uS uT uFM uB uI uO uc ug;simp (disch:=omega) only [↓RD,RZ,eq_self,seval,ga6,ek,hRv];refine ⟨?_,s6⟩;rw [g6];unfold bst;rw [if_neg (by omega)]
 ·rintro _ H6 ⟨rfl,g6,s6⟩;have n6:=s6.next;have al:=zc1 ws (ws.length / 4 - 1) (movd (arnd ws x (ws.length / 4 - 2)));have k1:=ld16 (l:=aes ws x) al;have k2:=sp16 (l:=aes ws x) al (L:=[.int .u8 0,.int .u8 0,.int .u8 0,.int .u8 0,.int .u8 0,.int .u8 0,.int .u8 0,.int .u8 0,.int .u8 0,.int .u8 0,.int .u8 0,.int .u8 0,.int .u8 0,.int .u8 0,.int .u8 0,.int .u8 0]) rfl;have k3:=zfg (x:=aes ws x) al;have gc6:=(s6.same c (by omega) (by omega)).trans gc5;simp (disch:=omega) only [↓RD,RZ,eq_self,seval,g6,k1,gc6,zaY,zaj,k2,k3];exact (gA _ s6).set (by omega) _
end Go.Ax.SU
/- Re14 -/
namespace Go.Ax.SU
open Go.Ax
theorem zqI (k:Nat):∀ (a y:Nat),num (a * 256 ^ k + y) k = num y k:=by
 induction k with
 | zero=>intro a y; rfl
 | succ k ih =>
  intro a y;rw [zoD,zoD];have e1:(a * 256 ^ (k + 1) + y) / 256 = a * 256 ^ k + y / 256:=by
   rw [Nat.pow_succ,← Nat.mul_assoc,Nat.add_comm,Nat.add_mul_div_right _ _ (by decide),Nat.add_comm]
  have e2:(a * 256 ^ (k + 1) + y) % 256 = y % 256:=by
   rw [Nat.pow_succ,← Nat.mul_assoc,Nat.add_comm,Nat.add_mul_mod_self_right]
  rw [e1,e2,ih]
theorem zut (k y:Nat):num (y % 256 ^ k) k = num y k:=by
 have h:=zqI k (y / 256 ^ k) (y % 256 ^ k);rw [Nat.mul_comm,Nat.div_add_mod] at h;exact h.symm
theorem zpH (j:Nat):∀ (k y:Nat),num y (k + j) = num (y / 256 ^ j) k ++ num y j:=by
 intro k
 induction k with
 | zero=>intro y; simp [num]
 | succ k ih =>
  intro y;rw [show k + 1 + j = (k + j) + 1 by omega,zlZ,zlZ,ih,List.cons_append];congr 2;rw [Nat.div_div_eq_div_mul,← Nat.pow_add,Nat.add_comm]
theorem zo2 (a:Nat) (l:List Nat):be (a :: l) = a * 256 ^ l.length + be l:=by
 have key:∀ (l:List Nat) (a:Nat),l.foldl (fun a b=>a * 256 + b) a = a * 256 ^ l.length + l.foldl (fun a b=>a * 256 + b) 0:=by
  intro l
  induction l with
  | nil=>intro a; simp
  | cons b l ih =>
   intro a;rw [List.foldl_cons,ih,List.foldl_cons,ih (0 * 256 + b),List.length_cons,Nat.pow_succ];generalize 256 ^ l.length = P;generalize l.foldl (fun a b=>a * 256 + b) 0 = s;rw [Nat.add_mul,Nat.zero_mul,Nat.zero_add,Nat.mul_comm P 256,← Nat.mul_assoc,Nat.add_assoc]
 show l.foldl (fun a b=>a * 256 + b) (0 * 256 + a) = _;rw [key];simp [be]
theorem be_app (a b:List Nat):be (a ++ b) = be a * 256 ^ b.length + be b:=by
 induction a with
 | nil=>simp [be]
 | cons x a ih =>
  rw [List.cons_append,zo2,ih,zo2,List.length_append,Nat.pow_add,Nat.add_mul,Nat.mul_assoc,Nat.add_assoc]
theorem zuv {x:List Nat} {n:Nat} (hx:x.length = 16) (h8:Ok8 x) (hn:n < 18446744073709551616):zdK x n = num (be x + n) 16:=by
 have l1:be (x.drop 8) < 18446744073709551616:=by
  have:=zvF _ (h8.drop 8);rw [List.length_drop,hx] at this;exact this
 have e:be x = be (x.take 8) * 18446744073709551616 + be (x.drop 8):=by
  have:=be_app (x.take 8) (x.drop 8);rw [List.take_append_drop,List.length_drop,hx] at this;exact this
 rw [zpH 8 8];have e2:(be x + n) / 256 ^ 8 = be (x.take 8) + (if 18446744073709551616 ≤ be (x.drop 8) + n then 1 else 0):=by
  show (be x + n) / 18446744073709551616 = _;split <;> omega
 have e3:num ((be (x.drop 8) + n) % 256 ^ 8) 8 = num (be x + n) 8:=by
  rw [zut,e,Nat.add_assoc];exact (zqI 8 (be (x.take 8)) (be (x.drop 8) + n)).symm
 rw [e2,← e3,← zut 8 (be (x.take 8) + _)];rfl
def cy (x:List Nat) (n k:Nat):Nat:=be (x.drop (16 - k)) + n % 256 ^ k
theorem cy_zero {x:List Nat} (hx:x.length = 16) (n:Nat):cy x n 0 = 0:=by
 unfold cy;rw [List.drop_of_length_le (by omega),Nat.pow_zero,Nat.mod_one]; rfl
theorem cy_succ {x:List Nat} (hx:x.length = 16) (n:Nat) {k:Nat} (hk:k < 16):cy x n (k + 1) = (x.getD (15 - k) 0 + n / 256 ^ k % 256) * 256 ^ k + cy x n k:=by
 unfold cy;have e1:x.drop (16 - (k + 1)) = x.getD (15 - k) 0 :: x.drop (16 - k):=by
  rw [show 16 - (k + 1) = 15 - k by omega,List.drop_eq_getElem_cons (by omega),show 15 - k + 1 = 16 - k by omega,List.getD_eq_getElem?_getD,List.getElem?_eq_getElem (by omega)]; rfl
 rw [e1,zo2,List.length_drop,hx,show 16 - (16 - k) = k by omega,Nat.mod_pow_succ,Nat.add_mul];generalize 256 ^ k = P;rw [Nat.mul_comm P];omega
theorem cy_lt {x:List Nat} (hx:x.length = 16) (h8:Ok8 x) (n:Nat) {k:Nat} (hk:k ≤ 16):cy x n k < 2 * 256 ^ k:=by
 unfold cy;have h1:=zvF _ (h8.drop (16 - k));rw [List.length_drop,hx,show 16 - (16 - k) = k by omega] at h1;have h2:=Nat.mod_lt n (show 0 < 256 ^ k from Nat.pow_pos (by decide));omega
theorem zvZ {H:Heap} {x:List Nat} {n:Nat} (hx:x.length = 16) (h8:Ok8 x) (hn:n < 18446744073709551616) :
  Ok (sem T zbU [.agg (x.map by8),.int .u64 (n:Nat)]) H fun res H'=>res = .agg ((zdK x n).map by8) ∧ Grow H H':=by
 refine ziv ?_;unfold zfO uS uT uO uc uq;refine zao (zaQ (zaY _) ?_);rw [zaj];have s1:=Grow.new H ⟨zaa,x.map by8,none⟩;have g1:(H.new ⟨zaa,x.map by8,none⟩).get H.next = some ⟨zaa,x.map by8,none⟩:=zab _ _;have n1:(H.new ⟨zaa,x.map by8,none⟩).next = H.next + 1:=zaf _ _;generalize ha:H.next = a at *;generalize H.new _ = H1 at *;refine zao (zaQ (by rfl) ?_);have s2:=Grow.new H1 ⟨zaa,[.int .u8 0,.int .u8 0,.int .u8 0,.int .u8 0,.int .u8 0,.int .u8 0,.int .u8 0,.int .u8 0,.int .u8 0,.int .u8 0,.int .u8 0,.int .u8 0,.int .u8 0,.int .u8 0,.int .u8 0,.int .u8 0],none⟩;have g2:(H1.new ⟨zaa,[.int .u8 0,.int .u8 0,.int .u8 0,.int .u8 0,.int .u8 0,.int .u8 0,.int .u8 0,.int .u8 0,.int .u8 0,.int .u8 0,.int .u8 0,.int .u8 0,.int .u8 0,.int .u8 0,.int .u8 0,.int .u8 0],none⟩).get H1.next = some ⟨zaa,[.int .u8 0,.int .u8 0,.int .u8 0,.int .u8 0,.int .u8 0,.int .u8 0,.int .u8 0,.int .u8 0,.int .u8 0,.int .u8 0,.int .u8 0,.int .u8 0,.int .u8 0,.int .u8 0,.int .u8 0,.int .u8 0],none⟩:=zab _ _;have n2:(H1.new ⟨zaa,[.int .u8 0,.int .u8 0,.int .u8 0,.int .u8 0,.int .u8 0,.int .u8 0,.int .u8 0,.int .u8 0,.int .u8 0,.int .u8 0,.int .u8 0,.int .u8 0,.int .u8 0,.int .u8 0,.int .u8 0,.int .u8 0],none⟩).next = H1.next + 1:=zaf _ _;have ga2:=(s2.same a (by omega)).trans g1;rw [zaj];generalize hb:H1.next = b at *;generalize H1.new _ = H2 at *;simp (disch:=omega) only [↓RD,RZ,eq_self,seval];refine zas (Q:=fun z H'=>z = .ex 0 [] ∧ H'.get a = some ⟨zaa,(zdK x n).map by8,none⟩ ∧ At1 a H2 H') ?_ ?_
 ·refine zaE (fun k L H'=>L = [.int .u64 (n / 256 ^ k:Nat),.int .u64 (cy x n k / 256 ^ k:Nat),.int .i64 ((15:Int) - (k:Nat))] ∧ H'.get a = some ⟨zaa,(x.take (16 - k) ++ num (cy x n k) k).map by8,none⟩ ∧ At1 a H2 H') 16 ?_ ?_ ?_
  ·refine ⟨by rw [cy_zero hx]; simp,?_,At1.refl _ _⟩;rw [Nat.sub_zero,List.take_of_length_le (by omega)];simpa [num] using ga2
  ·rintro k _ H3 hk ⟨rfl,g3,s3⟩;have hP:0 < 256 ^ k:=Nat.pow_pos (by decide);have c1:=cy_succ hx n hk;have cl:=cy_lt hx h8 n (show k ≤ 16 by omega);have x8:=h8.getD (15 - k);have e15:(15:Int) - ((k:Nat):Int) = ((15 - k:Nat):Int):=by omega
   have e14:((15 - k:Nat):Int) - 1 = (15:Int) - ((k + 1:Nat):Int):=by omega
   have hcar:cy x n k / 256 ^ k < 2:=by rw [Nat.div_lt_iff_lt_mul hP]; exact cl
   have hnk:n / 256 ^ k < 18446744073709551616:=Nat.lt_of_le_of_lt (Nat.div_le_self _ _) hn;have hand:n / 256 ^ k &&& 255 = n / 256 ^ k % 256:=Nat.and_two_pow_sub_one_eq_mod _ 8
   -- the byte
   have hv:cy x n (k + 1) / 256 ^ k = x.getD (15 - k) 0 + n / 256 ^ k % 256 + cy x n k / 256 ^ k:=by
    rw [c1,Nat.add_comm,Nat.add_mul_div_right _ _ hP,Nat.add_comm]
   have hv2:cy x n (k + 1) / 256 ^ (k + 1) = (x.getD (15 - k) 0 + n / 256 ^ k % 256 + cy x n k / 256 ^ k) / 256:=by
    rw [Nat.pow_succ,← Nat.div_div_eq_div_mul,hv]
   have hn2:n / 256 ^ (k + 1) = n / 256 ^ k / 256:=by rw [Nat.pow_succ,← Nat.div_div_eq_div_mul]
   have hnum:num (cy x n (k + 1)) (k + 1) = (x.getD (15 - k) 0 + n / 256 ^ k % 256 + cy x n k / 256 ^ k) % 256 :: num (cy x n k) k:=by
    rw [zlZ,hv,c1,zqI]
   have hA:((x.take (15 - k)).map by8).length = 15 - k:=by rw [List.length_map,List.length_take]; omega
   have hsp:(x.take (16 - k) ++ num (cy x n k) k).map by8 = (x.take (15 - k)).map by8 ++ by8 (x.getD (15 - k) 0) :: (num (cy x n k) k).map by8:=by
    rw [show 16 - k = 15 - k + 1 by omega,zbx (by omega)]; simp
   rw [hsp] at g3;have m1:=ziF (b:=by8 (x.getD (15 - k) 0)) (C:=(num (cy x n k) k).map by8) hA;have m2:=ziE (b:=by8 (x.getD (15 - k) 0)) (y:=by8 ((x.getD (15 - k) 0 + n / 256 ^ k % 256 + cy x n k / 256 ^ k) % 256)) (C:=(num (cy x n k) k).map by8) hA;have ml:((x.take (15 - k)).map by8 ++ by8 (x.getD (15 - k) 0) :: (num (cy x n k) k).map by8).length = 16:=by rw [List.length_append,hA,List.length_cons,List.length_map,zcs]; omega
   rw [hv2,hn2,hnum,show 16 - (k + 1) = 15 - k by omega];generalize x.getD (15 - k) 0 = xb at *;generalize cy x n k / 256 ^ k = cb at *;generalize n / 256 ^ k = nk at *;have cu:Ax.cint .u64 (by8 xb) = some (.int .u64 (xb:Nat)):=by
    show some (V.int .u64 (IntKind.u64.wrap ((xb:Nat):Int))) = _;rw [wrap_u64]; congr 2; omega
   have a1:((xb:Nat):Int) + ((nk % 256:Nat):Int) = ((xb + nk % 256:Nat):Int):=rfl;have a2:((xb + nk % 256:Nat):Int) + ((cb:Nat):Int) = ((xb + nk % 256 + cb:Nat):Int):=rfl;have c8:=cint8 (xb + nk % 256 + cb);have hlt:nk % 256 < 256:=Nat.mod_lt _ (by decide);have w1:IntKind.u64.wrap ((xb + nk % 256:Nat):Int) = ((xb + nk % 256:Nat):Int):=by rw [wrap_u64]; omega
   have w2:IntKind.u64.wrap ((xb + nk % 256 + cb:Nat):Int) = ((xb + nk % 256 + cb:Nat):Int):=by rw [wrap_u64]; omega
   rw [e15];unfold zdz uL uT uB uI uIM uc uq ug;simp (disch:=omega) only [↓RD,RZ,eq_self,seval,g3,m1,cu,hand,a1,a2,w1,w2,c8,m2,ml,zcZ,zaP];replace m2:splice ((x.take (15 - k)).map by8 ++ by8 xb :: (num (cy x n k) k).map by8) (15 - k) [.int .u8 ((xb + nk % 256 + cb) % 256:Nat)] = _:=m2;refine ⟨by omega,by rw [e14],?_,s3.trans (At1.set a _ _)⟩;rw [m2];simp
  ·rintro _ H3 ⟨rfl,g3,s3⟩;unfold zdz uL uT uB uI uIM uc uq ug;simp (disch:=omega) only [↓RD,RZ,eq_self,seval];refine ⟨?_,s3⟩;rw [g3,zuv hx h8 hn];have:cy x n 16 = be x + n:=by
    unfold cy;rw [Nat.sub_self,List.drop_zero,Nat.mod_eq_of_lt (by omega)]
   rw [this];simp
 ·rintro _ H3 ⟨rfl,g3,s3⟩;have n3:=s3.next;have gb3:=(s3.same b (by omega) (by omega)).trans g2;have hl:=zmH x n;have l1:=ld16 hl;have l2:=sp16 hl (L:=[.int .u8 0,.int .u8 0,.int .u8 0,.int .u8 0,.int .u8 0,.int .u8 0,.int .u8 0,.int .u8 0,.int .u8 0,.int .u8 0,.int .u8 0,.int .u8 0,.int .u8 0,.int .u8 0,.int .u8 0,.int .u8 0]) rfl;have l3:=zfg hl;simp (disch:=omega) only [↓RD,RZ,eq_self,seval,g3,l1,gb3,zaY,zaj,l2,l3];exact ⟨by rw [zan]; omega,fun i hi=>by rw [zai _ _ (by omega),s3.same i (by omega) (by omega),s2.same i (by omega),s1.same i (by omega)]⟩
end Go.Ax.SU
/- Re15 -/
namespace Go.Ax.SU
open Go.Ax
theorem RK.agg {H:Heap} {r:V} {ws:List (List Nat)} (h:RK H r ws):∃ R,r = .agg (sbox.map by8 ++ [R]) ∧ V.okc r = true ∧ r.cells = sbox.map by8 ++ [R]:=by
 obtain ⟨R,rfl,h2,h3⟩:=h;exact ⟨R,rfl,rfl,rfl⟩
theorem zm8 {H:Heap} {n k:Nat} {R:V} {ws:List (List Nat)} {f:List Nat} {F:V → M Res} {Q:Res → Heap → Prop} (hK:RK H (.agg (sbox.map by8 ++ [R])) ws) (hk:k < H.next) (hf:f.length = 16) (f8:Ok8 f) (hwl:ws.length ≤ 1000) (hw8:8 ≤ ws.length) (hn:n < 18446744073709551616)
  (h:∀ H',Grow H H' → Ok (F (.agg ((aes ws (zdK f n)).map by8))) H' Q):Ok ((sem T zbU [.agg (f.map by8),.int .u64 (n:Nat)]).bind fun t46 =>
   M.getH.bind fun h0' =>
   (M.unch (.ptr k 0) H h0').bind fun _ =>
   (sem T zbd [.agg (sbox.map by8 ++ [R]),t46]).bind F) H Q:=by
 refine zag (zvZ hf f8 hn) ?_;rintro _ H1 ⟨rfl,s1⟩;refine zao (zun ?_);refine zao (zui (fun i hi=>?_) ?_)
 ·simp only [V.pid,Option.some.injEq] at hi;subst hi;exact s1.same _ hk
 refine zag (zv0 (hK.grow s1) (zmH _ _) (zuw _ _) hwl hw8) ?_;rintro _ H2 ⟨rfl,s2⟩;exact h _ (s1.trans s2)
theorem zts {lo:Nat} {H:Heap} {r:V} {ws:List (List Nat)} {bv:V} {f l:List Nat} (hK:RK H r ws) (hf:f.length = 16) (f8:Ok8 f) (hv:By lo H bv l) (h8:Ok8 l) (hwl:ws.length ≤ 1000) (hw8:8 ≤ ws.length) (hl:l.length ≤ 1099511627776) :
  Ok (sem T zcC [r,.agg (f.map by8),.int .i64 0,bv]) H fun res H'=>∃ x,res = .tup [x,.int .i64 0] ∧ By H.next H' x (ctr ws f l) ∧ Grow H H':=by
 have hw:∀ w ∈ ws,Word w:=by obtain ⟨_,_,_,hw,_⟩:=hK; exact hw
 have cl:=zfK ws f l;obtain ⟨R,er,rok,rce⟩:=hK.agg;refine zib ?_;unfold zfv uL uB uG uH uO uc;refine zao (zaQ rok ?_);rw [rce];have s1:=Grow.new H ⟨zak,sbox.map by8 ++ [R],none⟩;have g1:(H.new ⟨zak,sbox.map by8 ++ [R],none⟩).get H.next = some ⟨zak,sbox.map by8 ++ [R],none⟩:=zab _ _;have n1:(H.new ⟨zak,sbox.map by8 ++ [R],none⟩).next = H.next + 1:=zaf _ _;generalize ha:H.next = a at *;generalize H.new _ = H1 at *;refine zao (zaQ (zaY _) ?_);rw [zaj];have s2:=Grow.new H1 ⟨zaa,f.map by8,none⟩;have g2:(H1.new ⟨zaa,f.map by8,none⟩).get H1.next = some ⟨zaa,f.map by8,none⟩:=zab _ _;have n2:(H1.new ⟨zaa,f.map by8,none⟩).next = H1.next + 1:=zaf _ _;have ga2:=(s2.same a (by omega)).trans g1;generalize hb:H1.next = b at *;generalize H1.new _ = H2 at *;have hv2:=(hv.ext s1).ext s2;simp (disch:=omega) only [↓RD,RZ];rw [zaK];refine znK hv2 (by omega) fun w H3 hw3 s3=>?_;have n3:=s3.next;have ga3:=(s3.same a (by omega)).trans ga2;have gb3:=(s3.same b (by omega)).trans g2;refine zao (zaQ (by rfl) ?_);rw [zaj];have s4:=Grow.new H3 ⟨zaa,[.int .u8 0,.int .u8 0,.int .u8 0,.int .u8 0,.int .u8 0,.int .u8 0,.int .u8 0,.int .u8 0,.int .u8 0,.int .u8 0,.int .u8 0,.int .u8 0,.int .u8 0,.int .u8 0,.int .u8 0,.int .u8 0],none⟩;have g4:(H3.new ⟨zaa,[.int .u8 0,.int .u8 0,.int .u8 0,.int .u8 0,.int .u8 0,.int .u8 0,.int .u8 0,.int .u8 0,.int .u8 0,.int .u8 0,.int .u8 0,.int .u8 0,.int .u8 0,.int .u8 0,.int .u8 0,.int .u8 0],none⟩).get H3.next = some ⟨zaa,(List.replicate 16 0).map by8,none⟩:=zab _ _;have n4:(H3.new ⟨zaa,[.int .u8 0,.int .u8 0,.int .u8 0,.int .u8 0,.int .u8 0,.int .u8 0,.int .u8 0,.int .u8 0,.int .u8 0,.int .u8 0,.int .u8 0,.int .u8 0,.int .u8 0,.int .u8 0,.int .u8 0,.int .u8 0],none⟩).next = H3.next + 1:=zaf _ _;have ga4:=(s4.same a (by omega)).trans ga3;have gb4:=(s4.same b (by omega)).trans gb3;have hw4:=hw3.by.ext s4;have hwp:∀ i,w.pid = some i → H2.next ≤ i ∧ i < H3.next:=fun i hi=>hw3.by.own i hi;generalize hc:H3.next = c at *;generalize H3.new _ = H4 at *;have s04:Grow H H4:=((s1.trans s2).trans s3).trans s4;by_cases h0:l.length = 0
 ·have e0:l = []:=List.eq_nil_of_length_eq_zero h0;subst e0;simp (disch:=omega) only [↓RD,RZ];refine zaE (fun i L H'=>L = [.int .i64 0] ∧ H' = H4) 0 ⟨rfl,rfl⟩ (fun k L H k0=>absurd k0 (by omega)) ?_;rintro _ H' ⟨rfl,rfl⟩;have hvl:=hw4.vlen;unfold zck uL uS uT uB uI uIM uG uH uU uc ug;simp (disch:=omega) only [↓RD,RZ,hvl];exact ⟨_,rfl,hw4.low (by omega),s04⟩
 obtain ⟨id,cap,o,ew,gw4,hid,hid2,hcap⟩:∃ id cap o,w = .sl id 0 l.length cap ∧ H4.get id = some ⟨zad,l.map by8,o⟩ ∧ H2.next ≤ id ∧ id < c ∧ V.capOk 1 (.sl id 0 l.length cap):=by
  obtain ⟨id,cap,o,e,g,h1,h2,h3⟩:=Ab.blk hw3 (by omega);exact ⟨id,cap,o,e,(s4.same id (by omega)).trans g,h1,by omega,h3⟩
 subst ew;have vlw:Ax.vlen (.sl id 0 l.length cap) = some (.int .i64 (l.length:Nat)):=rfl;have ek:=ld257 R;subst er;simp (disch:=omega) only [↓RD,RZ];refine zas (Q:=fun z H'=>z = .ex 0 [] ∧ H'.get id = some ⟨zad,(ctr ws f l).map by8,o⟩ ∧ Grow H H' ∧ c < H'.next) ?_ ?_
 ·refine zaE (fun i L H'=>L = [.int .i64 (i:Nat)] ∧ H'.get a = some ⟨zak,sbox.map by8 ++ [R],none⟩ ∧ H'.get b = some ⟨zaa,f.map by8,none⟩ ∧ H'.get id = some ⟨zad,((ctr ws f l).take i ++ l.drop i).map by8,o⟩ ∧ H'.get c = some ⟨zaa,(if i = 0 then List.replicate 16 0 else aes ws (zdK f ((i - 1) / 16))).map by8,none⟩ ∧ Grow H H' ∧ c < H'.next) l.length ?_ ?_ ?_
  ·exact ⟨rfl,ga4,gb4,by simpa using gw4,g4,s04,by omega⟩
  ·rintro i _ H5 hi ⟨rfl,ga5,gb5,gi5,gc5,s5,n5⟩;generalize hy:(if i = 0 then List.replicate 16 0 else aes ws (zdK f ((i - 1) / 16))) = y at *;have yl:y.length = 16:=by rw [← hy]; split; exact List.length_replicate ..; exact zln _ _
   have e1:(((i:Nat):Int) % 16 == 0) = decide (i % 16 = 0):=beqz (i % 16);have e2:(((i:Nat):Int) == 0) = decide (i = 0):=beqz i;have l1:=ld16 hf;unfold zck uL uS uT uB uI uIM uG uH uU uc ug;have ei:((i:Nat):Int) % 16 = ((i % 16:Nat):Int):=by omega
   have em:=Nat.mod_lt i (show 0 < 16 by decide);simp (disch:=omega) only [↓RD,RZ,vlw,ei,beqz,Int.zero_add];rw [zaK];refine zas (α:=Res) (Q:=fun r H'=>r = .nrm [] ∧ ∃ H6,Grow H H6 ∧ c < H6.next ∧ H6.get a = H5.get a ∧ H6.get b = H5.get b ∧ H6.get id = H5.get id ∧ H6.get c = some ⟨zaa,(aes ws (zdK f (i / 16))).map by8,none⟩ ∧ H' = H6.set id (some ⟨zad,((ctr ws f l).take (i + 1) ++ l.drop (i + 1)).map by8,o⟩)) ?_ ?_
   ·have hA':(((ctr ws f l).take i).map by8).length = i:=by rw [List.length_map,List.length_take]; omega
    have gi5':=gi5;rw [znO (by omega)] at gi5';have m1:=ziF (b:=by8 (l.getD i 0)) (C:=(l.drop (i + 1)).map by8) hA';have m2:=ziE (b:=by8 (l.getD i 0)) (y:=by8 ((ctr ws f l).getD i 0)) (C:=(l.drop (i + 1)).map by8) hA';have ml:(((ctr ws f l).take i).map by8 ++ by8 (l.getD i 0) :: (l.drop (i + 1)).map by8).length = l.length:=by rw [List.length_append,hA',List.length_cons,List.length_map,List.length_drop]; omega
    have hk:=aes_8 hw (zdK f (i / 16));have hkl:=zln ws (zdK f (i / 16));have q2:=bg (l:=aes ws (zdK f (i / 16))) (i:=i % 16) (by omega);have q3:=zfA (getD_lt h8 i) (hk.getD (i % 16));have q4:l.getD i 0 ^^^ (aes ws (zdK f (i / 16))).getD (i % 16) 0 = (ctr ws f l).getD i 0:=(zl3 hi).symm;rw [q4] at q3;have q5:((ctr ws f l).take i).map by8 ++ by8 ((ctr ws f l).getD i 0) :: (l.drop (i + 1)).map by8 = ((ctr ws f l).take (i + 1) ++ l.drop (i + 1)).map by8:=zkY (by omega);have ln:=zln ws (zdK f (i / 16));have l3:=sp16 ln (L:=y.map by8) (by rw [List.length_map,yl]);have l4:=zfg ln;have e4:((i:Nat):Int) / 16 = ((i / 16:Nat):Int):=by omega
    have l5:(y.map by8).length = 16:=by rw [List.length_map,yl]
    have w64:IntKind.u64.wrap ((i / 16:Nat):Int) = ((i / 16:Nat):Int):=by rw [wrap_u64]; omega
    by_cases hi0:i = 0
    ·have e3:decide (i = 0) = true:=decide_eq_true hi0;simp (disch:=omega) only [↓RD,RZ,ei,beqz,e3,Int.zero_add,ga5,ek,gb5,l1,e4,w64];rw [zaK];refine zm8 (hK.grow s5) (by omega) hf f8 hwl hw8 (by omega) fun H6 s6=>?_;have n6:=s6.next;have ga6:=s6.same a (by omega);have gb6:=s6.same b (by omega);have gi6:=s6.same id (by omega);have gc6:=(s6.same c (by omega)).trans gc5;have gi6':=gi6.trans gi5';simp (disch:=first | omega | (simp only [RY] <;> omega) | decide) only [↓RD,RZ,eq_self,Int.reduceToNat,Int.reduceAdd,Nat.reduceAdd,Nat.reduceSub,Nat.reduceMul,Nat.reduceLeDiff,gc6,zaY,zaj,l3,l4,l5,gi6',m1,ei,q2,q3,m2,ml,q5,zcZ,zaP];exact ⟨by omega,_,(s5.trans s6).set (by omega) _,by rw [zan]; omega,by rw [zai _ _ (by omega)]; exact ga6,by rw [zai _ _ (by omega)]; exact gb6,by rw [zai _ _ (by omega)]; exact gi6,zal _ _ _,rfl⟩
    ·have e3:decide (i = 0) = false:=decide_eq_false hi0;simp (disch:=omega) only [↓RD,RZ,ei,beqz,e3,Int.zero_add];rw [zdN];refine zbw (fun h=>?_) (fun h=>?_)
     ·simp (disch:=omega) only [↓RD,RZ,Int.zero_add,ga5,ek,gb5,l1,e4,w64];rw [zaK];refine zm8 (hK.grow s5) (by omega) hf f8 hwl hw8 (by omega) fun H6 s6=>?_;have n6:=s6.next;have ga6:=s6.same a (by omega);have gb6:=s6.same b (by omega);have gi6:=s6.same id (by omega);have gc6:=(s6.same c (by omega)).trans gc5;have gi6':=gi6.trans gi5';simp (disch:=first | omega | (simp only [RY] <;> omega) | decide) only [↓RD,RZ,eq_self,Int.reduceToNat,Int.reduceAdd,Nat.reduceAdd,Nat.reduceSub,Nat.reduceMul,Nat.reduceLeDiff,gc6,zaY,zaj,l3,l4,l5,gi6',m1,ei,q2,q3,m2,ml,q5,zcZ,zaP];exact ⟨by omega,_,(s5.trans s6).set (by omega) _,by rw [zan]; omega,by rw [zai _ _ (by omega)]; exact ga6,by rw [zai _ _ (by omega)]; exact gb6,by rw [zai _ _ (by omega)]; exact gi6,zal _ _ _,rfl⟩
     ·have ey:y = aes ws (zdK f (i / 16)):=by rw [← hy,if_neg hi0,show (i - 1) / 16 = i / 16 by omega]
      rw [ey] at gc5;simp (disch:=omega) only [↓RD,RZ,gi5',m1,ei,gc5,q2,q3,m2,ml,q5,zcZ,zaP];exact ⟨by omega,_,s5,n5,rfl,rfl,gi5',gc5,rfl⟩
   ·rintro _ _ ⟨rfl,H6,s6,n6,ga6,gb6,gi6,gc6,rfl⟩;simp (disch:=omega) only [↓RD,RZ];exact ⟨rfl,ga6.trans ga5,gb6.trans gb5,by rw [gc6,if_neg (by omega),show i + 1 - 1 = i by omega],s6.set (by omega) _,n6⟩
  ·rintro _ H5 ⟨rfl,ga5,gb5,gi5,gc5,s5,n5⟩;unfold zck uL uS uT uB uI uIM uG uH uU uc ug;simp (disch:=omega) only [↓RD,RZ,vlw];refine ⟨?_,s5,n5⟩;rw [gi5,List.take_of_length_le (by omega),List.drop_of_length_le (by omega),List.append_nil]
 ·rintro _ H5 ⟨rfl,gi5,s5,n5⟩;simp (disch:=omega) only [↓RD,RZ];refine ⟨_,rfl,?_,s5⟩;exact by_sl gi5 cl (by omega) (by omega) hcap
end Go.Ax.SU
/- Re16 -/
namespace Go.Ax.SU
open Go.Ax
theorem zsg {H:Heap}:By 0 H .nils ([]:List Nat):=Lc.nil
theorem zn3 {H:Heap} {x:Nat} (hx:x < 18446744073709551616):Ok (sem T zbC [.int .u64 (x:Nat)]) H fun r H'=>∃ v,r = .tup [.int .u8 ((fld x).1:Nat),v] ∧ By H.next H' v (fld x).2 ∧ Grow H H':=by
 refine zhH ?_;unfold ze0 uL uB uc ub uq ug;have np:=ze8 x;by_cases h8:x < 8
 ·have e:fld x = (x,[]):=by unfold fld; rw [if_pos h8]
  have c8:IntKind.u8.wrap ((x:Nat):Int) = ((x:Nat):Int):=by rw [wrap_u8]; omega
  simp (disch:=omega) only [↓RD,RZ,c8,e];exact ⟨_,rfl,Lc.nil,Grow.refl _⟩
 ·have e:fld x = (8 + zbz x - 1,num x (zbz x)):=by unfold fld; rw [if_neg h8]
  simp (disch:=omega) only [↓RD,RZ];refine zas (Q:=fun r H'=>r = .ex 0 [.int .i64 (zbz x:Nat)] ∧ H' = H) ?_ ?_
  ·refine zaE (fun k L H'=>L = [.int .i64 ((k + 1:Nat):Int)] ∧ H' = H) (zbz x - 1) ?_ ?_ ?_
   ·exact ⟨rfl,rfl⟩
   ·rintro k _ H1 hk ⟨rfl,rfl⟩;have hpos:0 < x / 256 ^ (k + 1):=by
     refine Nat.div_pos (Nat.le_trans (Nat.pow_le_pow_right (by decide) (show k + 1 ≤ zbz x - 1 by omega)) (zk9 (by omega))) (Nat.pow_pos (by decide))
    have e1:(8:Int) * ((k + 1:Nat):Int) = ((8 * (k + 1):Nat):Int):=by omega
    have e2:IntKind.u64.wrap ((8 * (k + 1):Nat):Int) = ((8 * (k + 1):Nat):Int):=by rw [wrap_u64]; omega
    have e3:shr x (8 * (k + 1)) = x / 256 ^ (k + 1):=by rw [zfB,Nat.shiftRight_eq_div_pow,Nat.pow_mul]
    have e4:(((x / 256 ^ (k + 1):Nat):Int) == 0) = false:=by rw [beqz]; exact decide_eq_false (by omega)
    unfold zde uL uB uG uH uc uq ug;simp (disch:=omega) only [↓RD,RZ,e1,e2,e3,e4,Bool.not_false];rfl
   ·rintro _ H1 ⟨rfl,rfl⟩;rw [show zbz x - 1 + 1 = zbz x by omega];have hz:x / 256 ^ zbz x = 0:=Nat.div_eq_of_lt (zko hx);unfold zde uL uB uG uH uc uq ug;by_cases h:zbz x < 8
    ·have e1:(8:Int) * ((zbz x:Nat):Int) = ((8 * zbz x:Nat):Int):=by omega
     have e2:IntKind.u64.wrap ((8 * zbz x:Nat):Int) = ((8 * zbz x:Nat):Int):=by rw [wrap_u64]; omega
     have e3:shr x (8 * zbz x) = 0:=by rw [zfB,Nat.shiftRight_eq_div_pow,Nat.pow_mul]; exact hz
     simp (disch:=omega) only [↓RD,RZ,e1,e2,e3]
    ·simp (disch:=omega) only [↓RD,RZ]
  ·rintro _ H1 ⟨rfl,rfl⟩;have c8:IntKind.u8.wrap ((8:Int) + ((zbz x:Nat):Int) - 1) = ((8 + zbz x - 1:Nat):Int):=by rw [wrap_u8]; omega
   simp (disch:=omega) only [↓RD,RZ,c8];refine zag (U_ok (b:=[]) x (zbz x) zsg hx (by omega) (by decide)) ?_;rintro b H2 ⟨hb,s2⟩;simp (disch:=omega) only [↓RD,RZ,e];exact ⟨_,rfl,hb.by,s2⟩
theorem zv1 {H:Heap} {kid ctr:Nat} (h1:kid < 18446744073709551616) (h2:ctr < 18446744073709551616):Ok (sem T zb1 [.int .u64 (kid:Nat),.int .u64 (ctr:Nat)]) H fun r H'=>By H.next H' r (hdr kid ctr) ∧ Grow H H':=by
 refine zhf ?_;unfold zeO uE uB ub uq;refine zag (zn3 h1) ?_;rintro _ H1 ⟨a,rfl,ha,s1⟩;simp (disch:=omega) only [↓RD,RZ];refine zag (zn3 h2) ?_;rintro _ H2 ⟨b,rfl,hb,s2⟩;have n1:=s1.next;have n2:=s2.next;have k1:=(ziQ kid).1;have k2:=(ziQ ctr).1;have m1:∀ x:Nat,(fld x).2.length ≤ 8:=fun x=>by
  unfold fld;split
  ·simp
  ·dsimp only; rw [zcs]; exact (ze8 x).2
 have e1:(fld kid).1 * 16 % 256 ||| (fld ctr).1 = (fld kid).1 * 16 + (fld ctr).1:=by
  rw [Nat.mod_eq_of_lt (by omega),show (16:Nat) = 2 ^ 4 from rfl,zjo _ _ 4 k2]
 have e2:shl (fld kid).1 4 % 256 ||| (fld ctr).1 = (fld kid).1 * 16 + (fld ctr).1:=by rw [zoo,Nat.shiftLeft_eq]; exact e1
 simp (disch:=omega) only [↓RD,RZ,eq_self,seval,e1,e2];have s3:=Grow.new H2 ⟨zad,[.int .u8 ((fld kid).1 * 16 + (fld ctr).1:Nat)],none⟩;have g3:(H2.new ⟨zad,[.int .u8 ((fld kid).1 * 16 + (fld ctr).1:Nat)],none⟩).get H2.next = _:=zab _ _;have n3:(H2.new ⟨zad,[.int .u8 ((fld kid).1 * 16 + (fld ctr).1:Nat)],none⟩).next = H2.next + 1:=zaf _ _;have ha3:=((ha.ext s2).ext s3);have hb3:=hb.ext s3;have l1:=m1 kid;have l2:=m1 ctr;refine zeV (lo:=H2.next) (l:=[(fld kid).1 * 16 + (fld ctr).1]) (m:=(fld kid).2) (.full g3 rfl (Nat.le_refl _) (by omega)) (by omega) ha3.ac (by simp; omega) fun w H4 hw b4=>?_;have hb4:By H1.next H4 b (fld ctr).2:=hb3.same b4.next fun i hi=>b4.same i (hb.own i hi).2;have n4:=b4.next;refine zeV (m:=(fld ctr).2) hw (by omega) hb4.ac (by simp; omega) fun w' H5 hw' b5=>?_;simp (disch:=omega) only [↓RD,RZ];refine ⟨?_,(s1.trans s2).trans (s3.bel' (Nat.le_refl _) (b4.trans b5))⟩;have:=hw'.by.low (show H.next ≤ H2.next by omega);have e:hdr kid ctr = [(fld kid).1 * 16 + (fld ctr).1] ++ (fld kid).2 ++ (fld ctr).2:=by unfold hdr; simp
 rw [e];exact this
theorem zuO {x:Nat} (hx:x < 16):sem T zbN [.int .u8 (x:Nat)] = M.pure (.int .i64 (psz x:Nat)):=by
 refine zdv fun H=>?_;refine zic ?_;unfold zfw psz uL uB uc ub;by_cases h:x < 8
 ·rw [if_pos h];simp (disch:=omega) only [↓RD,RZ];rfl
 ·rw [if_neg h];have c:IntKind.u8.wrap (((x:Nat):Int) - 8) = ((x - 8:Nat):Int):=by rw [wrap_u8]; omega
  have e:(((x - 8:Nat):Int)) + 1 = ((x - 7:Nat):Int):=by omega
  simp (disch:=omega) only [↓RD,RZ,c,e]
theorem zru {lo:Nat} {H:Heap} {v:V} {l:List Nat} {x:Nat} (hx:x < 16) (hv:By lo H v l) (h8:Ok8 l) (hl:l.length = psz x):Ok (sem T zbB [.int .u8 (x:Nat),v]) H fun r H'=>r = .tup [.int .u64 (pnum x l:Nat),.bool (zio x l)] ∧ H' = H:=by
 refine zhG ?_;unfold zeZ uL uB uIM uG uH uc ub uq ug;by_cases h:x < 8
 ·have c:IntKind.u64.wrap ((x:Nat):Int) = ((x:Nat):Int):=by rw [wrap_u64]; omega
  simp (disch:=omega) only [↓RD,RZ,c];unfold pnum zio;rw [if_pos h,if_pos h]
 ·unfold psz at hl;rw [if_neg h] at hl;simp (disch:=omega) only [↓RD,RZ];refine zaE (fun i L H'=>L = [.int .u64 (be (l.take i):Nat),.int .i64 (i:Nat)] ∧ H' = H) l.length ?_ ?_ ?_
  ·exact ⟨rfl,rfl⟩
  ·rintro i _ H' hi ⟨rfl,rfl⟩;obtain ⟨p,hp,hld,-⟩:=zfL hv (i:=(i:Nat)) (by omega) (by omega);have e1:=zre h8 hi (by omega);have b1:=zf7 h8 (show i ≤ 8 by omega);have b2:=getD_lt h8 i;simp only [Int.toNat_natCast] at hld;have e2:be (l.take i) * 256 % 18446744073709551616 < 18446744073709551616:=Nat.mod_lt _ (by decide);unfold zdd uL uB uIM uc uq ug;simp (disch:=omega) only [↓RD,RZ,eq_self,seval,hv.vlen,hp,hld,Int.toNat_natCast,e1];rfl
  ·rintro _ H' ⟨rfl,rfl⟩;obtain ⟨p,hp,hld,-⟩:=zfL hv (i:=0) (by omega) (by omega);simp only [Int.toNat_zero] at hld;unfold zdd uL uB uIM uc uq ug;have ef:zio x l = ((l.getD 0 0 != 0) && decide (8 ≤ be l)):=by unfold zio; rw [if_neg h]
   have ep:pnum x l = be l:=by unfold pnum; rw [if_neg h]
   have b8:be (l.take l.length) < 18446744073709551616:=zf7 h8 (n:=8) (by omega);rw [ef,ep];simp (disch:=omega) only [↓RD,RZ,hv.vlen,List.take_length,hp,hld,beqz];rw [List.take_length] at *;by_cases h0:l.getD 0 0 = 0
   ·have e1:decide (l.getD 0 0 = 0) = true:=decide_eq_true h0;have e0:(l.getD 0 0 != 0) = false:=by rw [h0]; rfl
    rw [e0];simp (disch:=omega) only [↓RD,RZ,e1,Bool.not_true];rfl
   ·have e1:decide (l.getD 0 0 = 0) = false:=decide_eq_false h0;have e0:(l.getD 0 0 != 0) = true:=by simpa using h0
    rw [e0];by_cases hl1:1 < l.length
    ·have e2:decide ((1:Int) < ((l.length:Nat):Int)) = true:=decide_eq_true (by omega);have big:8 ≤ be l:=by
      have hc:l = l.getD 0 0 :: l.drop 1:=by
       rw [List.getD_eq_getElem?_getD,List.getElem?_eq_getElem (by omega)];exact (List.drop_zero (l:=l)).symm.trans (List.drop_eq_getElem_cons (by omega))
      rw [hc,zo2,List.length_drop];have hp1:256 ^ 1 ≤ 256 ^ (l.length - 1):=Nat.pow_le_pow_right (by decide) (by omega);have:1 * 256 ^ (l.length - 1) ≤ l.getD 0 0 * 256 ^ (l.length - 1):=Nat.mul_le_mul_right _ (by omega);omega
     have e4:decide (8 ≤ be l) = true:=decide_eq_true big;rw [e4];simp (disch:=omega) only [↓RD,RZ,e1,e2,Bool.not_false,hv.vlen];rfl
    ·have e2:decide ((1:Int) < ((l.length:Nat):Int)) = false:=decide_eq_false (by omega);have e4:decide ((7:Int) < ((be l:Nat):Int)) = decide (8 ≤ be l):=by
      by_cases h:8 ≤ be l
      ·rw [decide_eq_true h,decide_eq_true (by omega)]
      ·rw [decide_eq_false h,decide_eq_false (by omega)]
     simp (disch:=omega) only [↓RD,RZ,e1,e2,e4,Bool.not_false,hv.vlen];rfl
theorem zjC {lo:Nat} {H:Heap} {v:V} {l:List Nat} (hv:By lo H v l) (h8:Ok8 l) (hl:l.length ≤ 1125899906842624):Ok (sem T zaW [v]) H fun r H'=>r = phv (parse l) ∧ H' = H:=by
 refine zfE ?_;unfold zdJ uL uM uE uB uI uIM uG uH uU uc ub uq;simp (disch:=omega) only [↓RD,RZ,hv.vlen,beqz];rw [zdN];refine zbw (fun h=>?_) (fun h=>?_)
 ·simp (disch:=omega) only [↓RD,RZ];unfold parse;rw [if_pos h]; rfl
 ·obtain ⟨p,hp,hld,-⟩:=zfL hv (i:=0) (by omega) (by omega);simp only [Int.toNat_zero] at hld;have g8:=getD_lt h8 0;unfold parse;rw [if_neg h];generalize l.getD 0 0 = x at *;have a15:x &&& 15 = x % 16:=Nat.and_two_pow_sub_one_eq_mod x 4;have e4:shr x 4 = x / 16:=by rw [zfB,Nat.shiftRight_eq_div_pow]
  have x1:=zuO (x:=x / 16) (by omega);have x2:=zuO (x:=x % 16) (by omega);have p1:psz (x / 16) ≤ 8:=by unfold psz; split <;> omega
  have p2:psz (x % 16) ≤ 8:=by unfold psz; split <;> omega
  have e1:(1:Int) + ((psz (x / 16):Nat):Int) = ((1 + psz (x / 16):Nat):Int):=by omega
  have e2:((1 + psz (x / 16):Nat):Int) + ((psz (x % 16):Nat):Int) = ((1 + psz (x / 16) + psz (x % 16):Nat):Int):=by omega
  simp (disch:=omega) only [↓RD,RZ,eq_self,seval,hp,hld,e4,a15,x1,x2,e1,e2,hv.vlen];rw [zdN];refine zbw (fun h1=>?_) (fun h1=>?_)
  ·simp (disch:=omega) only [↓RD,RZ];rw [if_pos (by omega)]; rfl
  ·rw [if_neg (by omega)];obtain ⟨va,ha,-,-,hva,-⟩:=zbl hv (x:=1) (y:=((1 + psz (x / 16):Nat):Int)) (by omega) (by omega) (by omega);obtain ⟨vb,hb,-,-,hvb,-⟩:=zbl hv (x:=((1 + psz (x / 16):Nat):Int)) (y:=((1 + psz (x / 16) + psz (x % 16):Nat):Int)) (by omega) (by omega) (by omega);simp only [Int.toNat_natCast,Int.toNat_one] at hva hvb;rw [← List.drop_take] at hva hvb;have la:((l.take (1 + psz (x / 16))).drop 1).length = psz (x / 16):=by rw [List.length_drop,List.length_take]; omega
   have lb:((l.take (1 + psz (x / 16) + psz (x % 16))).drop (1 + psz (x / 16))).length = psz (x % 16):=by rw [List.length_drop,List.length_take]; omega
   have k1:=@zbM _ _ _ _ (zru (by omega) hva ((h8.take _).drop _) la);have k2:=@zbM _ _ _ _ (zru (by omega) hvb ((h8.take _).drop _) lb);simp (disch:=omega) only [↓RD,RZ,eq_self,seval,hp,hld,e4,a15,e1,e2,ha,hb,k1,k2];generalize (l.take (1 + psz (x / 16))).drop 1 = ya at *;generalize (l.take (1 + psz (x / 16) + psz (x % 16))).drop (1 + psz (x / 16)) = yb at *;cases q1:zio (x / 16) ya with
   | false =>
    simp (disch:=omega) only [↓RD,RZ,Bool.not_false];rw [q1]; rfl
   | true =>
    cases q2:zio (x % 16) yb with
    | false =>
     simp (disch:=omega) only [↓RD,RZ,Bool.not_true,Bool.not_false];rw [q1,q2]; rfl
    | true =>
     simp (disch:=omega) only [↓RD,RZ,Bool.not_true,Bool.not_false,e1,e2];rw [q1,q2]; rfl
end Go.Ax.SU
/- Re17 -/
namespace Go.Ax.SU
open Go.Ax
def zcG (R tv sv:V) (kid t:Nat):List V:=sbox.map by8 ++ [R,tv,sv,.int .u64 (kid:Nat),.int .i64 (t:Nat)]
structure RKs (H:Heap) (R tv sv:V) (K:Ky):Prop where
 good:KyG K
 key:Lc 16 0 H R (K.ws.flatten.map by8) (K.ws.length / 4)
 tag:By 0 H tv K.auth
 salt:By 0 H sv K.salt
theorem RKs.grow {H H':Heap} {R tv sv:V} {K:Ky} (h:RKs H R tv sv K) (g:Grow H H'):RKs H' R tv sv K:=⟨h.good,h.key.ext g,h.tag.ext g,h.salt.ext g⟩
theorem RKs.rk {H:Heap} {R tv sv:V} {K:Ky} (h:RKs H R tv sv K):RK H (.agg (sbox.map by8 ++ [R])) K.ws:=⟨R,rfl,h.key,h.good.ws,h.good.w4⟩
theorem zoL {l:List V} {i:Nat}:(sbox.map by8 ++ l)[256 + i]? = l[i]?:=by
 rw [List.getElem?_append_right (by rw [sbl]; omega),sbl,Nat.add_sub_cancel_left]
theorem kc257 (R tv sv:V) (kid t:Nat):(zcG R tv sv kid t)[257]? = some tv:=zoL (i:=1)
theorem kc258 (R tv sv:V) (kid t:Nat):(zcG R tv sv kid t)[258]? = some sv:=zoL (i:=2)
theorem kc259 (R tv sv:V) (kid t:Nat):(zcG R tv sv kid t)[259]? = some (.int .u64 (kid:Nat)):=zoL (i:=3)
theorem kc260 (R tv sv:V) (kid t:Nat):(zcG R tv sv kid t)[260]? = some (.int .i64 (t:Nat)):=zoL (i:=4)
theorem zgh (R tv sv:V) (kid t:Nat):(zcG R tv sv kid t).length = 261:=by unfold zcG; rw [List.length_append,sbl]; rfl
theorem kc_key (R tv sv:V) (kid t:Nat):ldc (some 257) (zcG R tv sv kid t) 0 = some (.agg (sbox.map by8 ++ [R])):=by
 rw [zdj (by rw [zgh]; decide),List.drop_zero];unfold zcG;rw [show sbox.map by8 ++ [R,tv,sv,V.int .u64 (kid:Nat),V.int .i64 (t:Nat)] = (sbox.map by8 ++ [R]) ++ [tv,sv,V.int .u64 (kid:Nat),V.int .i64 (t:Nat)] by simp,List.take_left' (by rw [List.length_append,sbl]; rfl)]
theorem zuT (R tv sv:V) (kid t:Nat):ldc (some 261) (zcG R tv sv kid t) 0 = some (.agg (zcG R tv sv kid t)):=by
 rw [zdj (by rw [zgh]; decide),List.drop_zero,List.take_of_length_le (by rw [zgh]; decide)]
theorem num12 {c:Nat} (hc:c < 18446744073709551616):num c 12 = [0,0,0,0] ++ num c 8:=by
 rw [zpH 8 4,show c / 256 ^ 8 = 0 from Nat.div_eq_of_lt (by simpa using hc)];rfl
theorem zpI {s:List Nat} {c i:Nat} (hc:c < 18446744073709551616) (hi:i < 12):(zbf s c).getD i 0 = if i < 4 then s.getD i 0 else s.getD i 0 ^^^ (c / 256 ^ (7 - (i - 4)) % 256):=by
 unfold zbf;rw [zcu hi,num12 hc];split
 ·rename_i h;have:i = 0 ∨ i = 1 ∨ i = 2 ∨ i = 3:=by omega
  rcases this with rfl | rfl | rfl | rfl <;> exact Nat.zero_xor _
 ·rw [List.getD_eq_getElem?_getD,List.getElem?_append_right (by simp; omega),← List.getD_eq_getElem?_getD];show (num c 8).getD (i - 4) 0 ^^^ _ = _;unfold num;rw [zcu (by omega),Nat.xor_comm]
theorem znT {H:Heap} {c:Nat} {R tv sv:V} {K:Ky} (hk:RKs H R tv sv K) (hc:c < 18446744073709551616):Ok (sem T za1 [.agg (zcG R tv sv K.kid K.t),.int .u64 (c:Nat)]) H fun r H'=>By H.next H' r (zbf K.salt c) ∧ Grow H H':=by
 refine zfY ?_;unfold zdT uFM uO uc ub;refine zao (zaQ rfl ?_);rw [zaj];have s1:=Grow.new H ⟨zah,zcG R tv sv K.kid K.t,none⟩;have g1:(H.new ⟨zah,zcG R tv sv K.kid K.t,none⟩).get H.next = some ⟨zah,zcG R tv sv K.kid K.t,none⟩:=zab _ _;have n1:(H.new ⟨zah,zcG R tv sv K.kid K.t,none⟩).next = H.next + 1:=zaf _ _;have hs1:=hk.salt.ext s1;generalize ha:H.next = a at *;generalize H.new _ = H1 at *;have e258:=kc258 R tv sv K.kid K.t;have sl:=hk.good.salt;have nl:=zeD K.salt c;simp (disch:=omega) only [↓RD,RZ,g1,e258];rw [zaK];refine znK hs1 (by omega) fun w H2 hw2 s2=>?_;have n2:=s2.next;obtain ⟨id,cap,o,ew,gw,hid,hid2,hcap⟩:=Ab.blk hw2 (by omega);rw [sl] at ew hcap;subst ew;simp (disch:=omega) only [↓RD,RZ];refine zas (α:=Res) (Q:=fun z H'=>z = .ex 0 [] ∧ H'.get id = some ⟨zad,(zbf K.salt c).map by8,o⟩ ∧ At1 id H2 H') ?_ ?_
 ·refine zaE (fun i L H'=>L = [.int .i64 (i:Nat)] ∧ H'.get id = some ⟨zad,((zbf K.salt c).take (4 + i) ++ K.salt.drop (4 + i)).map by8,o⟩ ∧ At1 id H2 H') 8 ?_ ?_ ?_
  ·refine ⟨rfl,?_,At1.refl _ _⟩;have e:(zbf K.salt c).take (4 + 0) ++ K.salt.drop (4 + 0) = K.salt:=by
    refine zl5 (by rw [List.length_append,List.length_take,List.length_drop]; omega) fun j hj=>?_;rw [List.getD_eq_getElem?_getD,List.getD_eq_getElem?_getD];by_cases h:j < 4
    ·rw [List.getElem?_append_left (by rw [List.length_take]; omega),List.getElem?_take_of_lt (by omega),← List.getD_eq_getElem?_getD,← List.getD_eq_getElem?_getD,zpI hc (by omega),if_pos h]
    ·rw [List.getElem?_append_right (by rw [List.length_take]; omega),List.getElem?_drop,List.length_take,show 4 + 0 + (j - min (4 + 0) (zbf K.salt c).length) = j by omega]
   rw [e];exact gw
  ·rintro i _ H3 hi ⟨rfl,g3,s3⟩;have e0:(4:Int) + ((i:Nat):Int) = ((4 + i:Nat):Int):=rfl;have e1:(8:Int) * ((i:Nat):Int) = ((8 * i:Nat):Int):=by omega
   have e2:(56:Int) - ((8 * i:Nat):Int) = ((8 * (7 - i):Nat):Int):=by omega
   have e2':IntKind.u64.wrap ((8 * (7 - i):Nat):Int) = ((8 * (7 - i):Nat):Int):=by rw [wrap_u64]; omega
   have e3:shr c (8 * (7 - i)) = c / 256 ^ (7 - i):=by rw [zfB,Nat.shiftRight_eq_div_pow,Nat.pow_mul]
   have e8:=cint8 (c / 256 ^ (7 - i));have hA:(((zbf K.salt c).take (4 + i)).map by8).length = 4 + i:=by rw [List.length_map,List.length_take]; omega
   rw [znO (by omega)] at g3;have m1:=ziF (b:=by8 (K.salt.getD (4 + i) 0)) (C:=(K.salt.drop (4 + i + 1)).map by8) hA;have m2:=ziE (b:=by8 (K.salt.getD (4 + i) 0)) (y:=by8 ((zbf K.salt c).getD (4 + i) 0)) (C:=(K.salt.drop (4 + i + 1)).map by8) hA;have ml:(((zbf K.salt c).take (4 + i)).map by8 ++ by8 (K.salt.getD (4 + i) 0) :: (K.salt.drop (4 + i + 1)).map by8).length = 12:=by rw [List.length_append,hA,List.length_cons,List.length_map,List.length_drop]; omega
   have ex:=zfA (hk.good.salt8.getD (4 + i)) (show c / 256 ^ (7 - i) % 256 < 256 from Nat.mod_lt _ (by decide));have ea:K.salt.getD (4 + i) 0 ^^^ (c / 256 ^ (7 - i) % 256) = (zbf K.salt c).getD (4 + i) 0:=by
    rw [zpI hc (by omega),if_neg (by omega),Nat.add_sub_cancel_left]
   rw [ea] at ex;replace ex:Ax.bin .xor (by8 (K.salt.getD (4 + i) 0)) (.int .u8 (c / 256 ^ (7 - i) % 256:Nat)) = _:=ex;unfold zb3 uL uT uB uI uIM uc ug;simp (disch:=omega) only [↓RD,RZ,e0,e1,e2,e2',e3,e8,g3,m1,ex,m2,ml,zcZ,zaP];refine ⟨by omega,rfl,?_,s3.trans (At1.set id _ _)⟩;rw [zkY (by omega),← Nat.add_assoc]
  ·rintro _ H3 ⟨rfl,g3,s3⟩;unfold zb3 uL uT uB uI uIM uc ug;simp (disch:=omega) only [↓RD,RZ];refine ⟨?_,s3⟩;rw [g3,List.take_of_length_le (by omega),List.drop_of_length_le (by omega),List.append_nil]
 ·rintro _ H3 ⟨rfl,g3,s3⟩;have n3:=s3.next;simp (disch:=omega) only [↓RD,RZ];exact ⟨by_sl g3 nl (by omega) (by omega) hcap,⟨by omega,fun i hi=>by rw [s3.same i (by omega) (by omega),s2.same i (by omega),s1.same i (by omega)]⟩⟩
theorem zr8 {lo lo':Nat} {H:Heap} {c:Nat} {R tv sv:V} {K:Ky} {nv bv:V} {l:List Nat} (hk:RKs H R tv sv K) (hn:By lo H nv (zbf K.salt c)) (hb:By lo' H bv l) (h8:Ok8 l) (hl:l.length ≤ 1099511627776) :
  Ok (sem T za2 [.agg (zcG R tv sv K.kid K.t),nv,bv]) H fun r H'=>By H.next H' r (ctr K.ws (first (zbf K.salt c)) l) ∧ Grow H H':=by
 refine zfZ ?_;unfold zdU uL uS uF uE uO uc;refine zao (zaQ rfl ?_);rw [zaj];have s0:=Grow.new H ⟨zah,zcG R tv sv K.kid K.t,none⟩;have g0:(H.new ⟨zah,zcG R tv sv K.kid K.t,none⟩).get H.next = some ⟨zah,zcG R tv sv K.kid K.t,none⟩:=zab _ _;have n0:(H.new ⟨zah,zcG R tv sv K.kid K.t,none⟩).next = H.next + 1:=zaf _ _;have hk0:=hk.grow s0;have hn0:=hn.ext s0;have hb0:=hb.ext s0;generalize hq:H.next = q at *;generalize H.new _ = H0' at *;refine zao (zaQ (by rfl) ?_);rw [zaj];have s1:=Grow.new H0' ⟨zaa,[.int .u8 0,.int .u8 0,.int .u8 0,.int .u8 0,.int .u8 0,.int .u8 0,.int .u8 0,.int .u8 0,.int .u8 0,.int .u8 0,.int .u8 0,.int .u8 0,.int .u8 0,.int .u8 0,.int .u8 0,.int .u8 0],none⟩;have g1:(H0'.new ⟨zaa,[.int .u8 0,.int .u8 0,.int .u8 0,.int .u8 0,.int .u8 0,.int .u8 0,.int .u8 0,.int .u8 0,.int .u8 0,.int .u8 0,.int .u8 0,.int .u8 0,.int .u8 0,.int .u8 0,.int .u8 0,.int .u8 0],none⟩).get H0'.next = some ⟨zaa,List.replicate 16 (.int .u8 0),none⟩:=zab _ _;have n1:(H0'.new ⟨zaa,[.int .u8 0,.int .u8 0,.int .u8 0,.int .u8 0,.int .u8 0,.int .u8 0,.int .u8 0,.int .u8 0,.int .u8 0,.int .u8 0,.int .u8 0,.int .u8 0,.int .u8 0,.int .u8 0,.int .u8 0,.int .u8 0],none⟩).next = H0'.next + 1:=zaf _ _;have hk1:=hk0.grow s1;have hn1:=hn0.ext s1;have hb1:=hb0.ext s1;have gq1:=(s1.same q (by omega)).trans g0;generalize ha:H0'.next = a at *;generalize H0'.new _ = H1 at *;have nl:=zeD K.salt c;have cp:=zlh (off:=0) (len:=16) (cap:=.fix 16) g1 hn1 (by rw [List.length_replicate]; decide) (by omega);have sp:splice (List.replicate 16 (V.int .u8 0)) 0 ((zbf K.salt c).map by8) = (first (zbf K.salt c)).map by8:=by
  unfold splice first
  rw [List.take_zero,List.nil_append,List.length_map,nl,List.map_append,List.drop_replicate];rfl
 rw [sp] at cp;have vs:=zg7 (n:=16) (id:=a);simp (disch:=omega) only [↓RD,RZ,vs];rw [zaK];refine zao ⟨_,_,cp,?_⟩;have fl:=zpY K.salt c;have f8:=zvb hk.good.salt8 c;have g2:(H1.set a (some ⟨zaa,(first (zbf K.salt c)).map by8,none⟩)).get a = _:=zal _ _ _;have s2:At1 a H1 (H1.set a (some ⟨zaa,(first (zbf K.salt c)).map by8,none⟩)):=At1.set a _ _;have s02:Grow H (H1.set a (some ⟨zaa,(first (zbf K.salt c)).map by8,none⟩)):=(s0.trans s1).set (by omega) _;have hk2:=hk.grow s02;have hb2:=hb.ext s02;have gq2:=(s2.same q (by omega) (by omega)).trans gq1;generalize Heap.set _ a _ = H2 at *;have l1:=ld16 fl;have ek:=kc_key R tv sv K.kid K.t;simp (disch:=omega) only [↓RD,RZ,gq2,ek,g2,l1];have hg:=hk.good;refine zag (zts hk2.rk fl f8 hb2 h8 hg.wl hg.w8 hl) ?_;rintro _ H3 ⟨r,rfl,hr,s3⟩;have n2:=s02.next;simp (disch:=omega) only [↓RD,RZ];exact ⟨hr.low (by omega),s02.trans s3⟩
end Go.Ax.SU
/- Re18 -/
namespace Go.Ax.SU
open Go.Ax
theorem zrw {lo1 lo2 lo3 lo4:Nat} {H:Heap} {R tv sv:V} {K:Ky} {nv hv mv bv:V} {n h m b:List Nat} (hk:RKs H R tv sv K) (hn:By lo1 H nv n) (n8:Ok8 n) (hh:By lo2 H hv h) (h8:Ok8 h) (hm:By lo3 H mv m) (m8:Ok8 m) (hb:By lo4 H bv b) (b8:Ok8 b)
  (hl:n.length + h.length + m.length + b.length ≤ 274877906944) :
  Ok (sem T zbe [.agg (zcG R tv sv K.kid K.t),nv,hv,mv,bv]) H fun r H'=>By H.next H' r (zha K n h m b) ∧ Grow H H':=by
 refine zgB ?_;unfold zem uL uM uT uF uFM uB uO uU uc;refine zao (zaQ rfl ?_);rw [zaj];have s0:=Grow.new H ⟨zah,zcG R tv sv K.kid K.t,none⟩;have g0:(H.new ⟨zah,zcG R tv sv K.kid K.t,none⟩).get H.next = some ⟨zah,zcG R tv sv K.kid K.t,none⟩:=zab _ _;have n0:(H.new ⟨zah,zcG R tv sv K.kid K.t,none⟩).next = H.next + 1:=zaf _ _;generalize hq:H.next = q at *;generalize H.new _ = H0' at *;have e1:((h.length:Nat):Int) + ((m.length:Nat):Int) = ((h.length + m.length:Nat):Int):=by omega
 have w1:IntKind.u64.wrap ((h.length + m.length:Nat):Int) = ((h.length + m.length:Nat):Int):=by rw [wrap_u64]; omega
 have w2:IntKind.u64.wrap ((b.length:Nat):Int) = ((b.length:Nat):Int):=by rw [wrap_u64]; omega
 have ht:=hk.good.t;have w3:IntKind.u64.wrap ((K.t:Nat):Int) = ((K.t:Nat):Int):=by rw [wrap_u64]; omega
 have e260:=kc260 R tv sv K.kid K.t;have e257:=kc257 R tv sv K.kid K.t;simp (maxSteps:=1000000) (disch:=first | omega | (simp only [RY] <;> omega) | decide) only [↓RD,RZ,eq_self,Int.reduceToNat,Int.reduceAdd,Int.reduceSub,Int.reduceMul,Nat.reduceAdd,Nat.reduceSub,Nat.reduceMul,Nat.reduceDiv,Nat.reduceMod,Nat.reduceBEq,Nat.reduceLeDiff,hh.vlen,hm.vlen,e1,w1];refine zag (U_ok (b:=[]) (h.length + m.length) 8 zsg (by omega) (by decide) (by decide)) ?_;rintro x1 H1 ⟨hx1,s1⟩;rw [List.nil_append] at hx1;have n1:=s1.next;simp (maxSteps:=1000000) (disch:=first | omega | (simp only [RY] <;> omega) | decide) only [↓RD,RZ,eq_self,Int.reduceToNat,Int.reduceAdd,Int.reduceSub,Int.reduceMul,Nat.reduceAdd,Nat.reduceSub,Nat.reduceMul,Nat.reduceDiv,Nat.reduceMod,Nat.reduceBEq,Nat.reduceLeDiff,hb.vlen,w2];refine zag (U_ok b.length 8 hx1.by (by omega) (by decide) (by rw [zcs]; decide)) ?_;rintro x2 H2 ⟨hx2,s2⟩;have n2:=s2.next;have gq2:=(s2.same q (by omega)).trans ((s1.same q (by omega)).trans g0);simp (maxSteps:=1000000) (disch:=first | omega | (simp only [RY] <;> omega) | decide) only [↓RD,RZ,eq_self,Int.reduceToNat,Int.reduceAdd,Int.reduceSub,Int.reduceMul,Nat.reduceAdd,Nat.reduceSub,Nat.reduceMul,Nat.reduceDiv,Nat.reduceMod,Nat.reduceBEq,Nat.reduceLeDiff,gq2,e260,w3];refine zag (U_ok K.t 8 hx2.by (by omega) (by decide) (by rw [List.length_append,zcs,zcs]; decide)) ?_;rintro x3 H3 ⟨hx3,s3⟩;have n3:=s3.next;have gq3:=(s3.same q (by omega)).trans gq2;have s03:Grow H H3:=((s0.trans s1).trans s2).trans s3;have hn3:=hn.ext s03;have hh3:=hh.ext s03;have hm3:=hm.ext s03;have hb3:=hb.ext s03;have ht3:=hk.tag.ext s03;simp (maxSteps:=1000000) (disch:=first | omega | (simp only [RY] <;> omega) | decide) only [↓RD,RZ,eq_self,Int.reduceToNat,Int.reduceAdd,Int.reduceSub,Int.reduceMul,Nat.reduceAdd,Nat.reduceSub,Nat.reduceMul,Nat.reduceDiv,Nat.reduceMod,Nat.reduceBEq,Nat.reduceLeDiff,gq3,e257,hx3.by.cells1,hx3.by.okc,hn3.cells1,hn3.okc,hh3.cells1,hh3.okc,hm3.cells1,hm3.okc,hb3.cells1,hb3.okc];have s5:=Grow.new H3 ⟨zar,[x3,nv,hv,mv,bv],none⟩;have g5:(H3.new ⟨zar,[x3,nv,hv,mv,bv],none⟩).get H3.next = _:=zab _ _;have n5:(H3.new ⟨zar,[x3,nv,hv,mv,bv],none⟩).next = H3.next + 1:=zaf _ _;have hlv:Lc 1 0 (H3.new ⟨zar,[x3,nv,hv,mv,bv],none⟩) (.sl H3.next 0 5 (.fix 5)) [x3,nv,hv,mv,bv] [x3,nv,hv,mv,bv].length:=ziI g5 rfl (by omega);have hps:Pts 0 H3 [x3,nv,hv,mv,bv] [num (h.length + m.length) 8 ++ num b.length 8 ++ num K.t 8,n,h,m,b] :=
  .cons (hx3.by.low (Nat.zero_le _)) (((zfo _ _).app (zfo _ _)).app (zfo _ _)) (.cons (hn3.low (Nat.zero_le _)) n8 (.cons (hh3.low (Nat.zero_le _)) h8 (.cons (hm3.low (Nat.zero_le _)) m8 (.cons (hb3.low (Nat.zero_le _)) b8 .nil))))
 have efl:[num (h.length + m.length) 8 ++ num b.length 8 ++ num K.t 8,n,h,m,b].flatten = tagm K n h m b:=by
  unfold tagm; simp
 have lfl:(tagm K n h m b).length ≤ 549755813000:=by
  unfold tagm;simp only [List.length_append,zcs];omega
 have m8':Ok8 (tagm K n h m b):=by
  unfold tagm;exact ((((((zfo _ _).app (zfo _ _)).app (zfo _ _)).app n8).app h8).app m8).app b8
 have gq5:=(s5.same q (by omega)).trans gq3;have ht5:=ht3.ext s5;refine zag (zqi hlv (hps.grow s5) (show 5 ≤ 1000 by decide) (by rw [efl]; omega)) ?_;rintro jv H6 ⟨hj,s6⟩;rw [efl] at hj;have n6:=s6.next;have gq6:=(s6.same q (by omega)).trans gq5;have sm:=s6.same q (by omega);simp (maxSteps:=1000000) (disch:=first | omega | (simp only [RY] <;> omega) | decide) only [↓RD,RZ,eq_self,Int.reduceToNat,Int.reduceAdd,Int.reduceSub,Int.reduceMul,Nat.reduceAdd,Nat.reduceSub,Nat.reduceMul,Nat.reduceDiv,Nat.reduceMod,Nat.reduceBEq,Nat.reduceLeDiff,sm];refine zag (zrp (ht5.ext s6) hk.good.auth8 (by rw [hk.good.auth]; decide) hj.by m8' (by omega)) ?_;rintro _ H7 ⟨rfl,s7⟩;have n7:=s7.next;have hl32:=zc5 kc K.auth (tagm K n h m b);have sp:=sp32 hl32;have l32:(((hmac kc K.auth (tagm K n h m b))).map by8).length = 32:=by rw [List.length_map,hl32]
 have s07:=((s03.trans s5).trans s6).trans s7;have gq7:=(s7.same q (by omega)).trans gq6;have vsl:∀ id,zaz (.arr 32) 1 (.ptr id 0) none (some (.int .i64 (K.t:Nat))) none = some (.sl id 0 K.t (.fix 32)):=fun id=>by
  simp only [zaz,zdM,vint,Option.map_some,Option.bind_some,Option.getD_some,Option.getD_none];rw [if_neg (by simp),if_pos ⟨by simp,by omega,by omega,by omega⟩];simp
 simp (maxSteps:=1000000) (disch:=first | omega | (simp only [RY] <;> omega) | decide) only [↓RD,RZ,eq_self,Int.reduceToNat,Int.reduceAdd,Int.reduceSub,Int.reduceMul,Nat.reduceAdd,Nat.reduceSub,Nat.reduceMul,Nat.reduceDiv,Nat.reduceMod,Nat.reduceBEq,Nat.reduceLeDiff,zaY,zaj,sp,l32,gq7,e260,vsl];refine ⟨⟨?_,fun i hi=>?_,?_⟩,⟨by rw [zan,zaf]; omega,fun i hi=>by rw [zai _ _ (by omega),zaX _ _ (by omega),s07.same i (by omega)]⟩⟩
 ·simp only [zbn,zal,Option.bind_some];rw [if_pos (by rw [l32]; omega),List.drop_zero,Nat.mul_one];unfold zha;rw [List.map_take,List.length_take,hl32,Nat.min_eq_left ht]
 ·simp only [V.pid,Option.some.injEq] at hi;rw [zan,zaf];omega
 ·show K.t ≤ 32;exact ht
theorem Apf.low6 {ty e lo lo' n:Nat} {H:Heap} {v:V} {cells:List V} (h:Apf ty e lo H v cells n) (hl:lo' ≤ lo):Apf ty e lo' H v cells n:=by
 cases h with
 | app h =>
  cases h with
  | opn h ho=>exact .app (.opn h fun i hi=>⟨Nat.le_trans hl (ho i hi).1,(ho i hi).2⟩)
  | lit h h0 h1=>exact .app (.lit h (Nat.le_trans hl h0) h1)
 | full h hl' h0 h1=>exact .full h hl' (Nat.le_trans hl h0) h1
theorem zvX {lo1 lo2:Nat} {H:Heap} {c:Nat} {R tv sv:V} {K:Ky} {mv pv:V} {m p:List Nat} (hk:RKs H R tv sv K) (hc:c < 18446744073709551616) (hm:By lo1 H mv m) (m8:Ok8 m) (hp:By lo2 H pv p) (p8:Ok8 p) (hml:m.length ≤ 137438953472) :
  Ok (sem T zbD [.agg (zcG R tv sv K.kid K.t),.int .u64 (c:Nat),mv,pv]) H fun r H'=>Grow H H' ∧ if 1000 < p.length then r = .tup [.nils,.int .i64 4] else ∃ v,r = .tup [v,.int .i64 0] ∧ Ab H.next H' v (zed K c m p):=by
 refine zgc ?_;unfold zd7 uL uS uFM uB uO uU uc;have hg:=hk.good;refine zao (zaQ rfl ?_);rw [zaj];have s0:=Grow.new H ⟨zah,zcG R tv sv K.kid K.t,none⟩;have g0:(H.new ⟨zah,zcG R tv sv K.kid K.t,none⟩).get H.next = some ⟨zah,zcG R tv sv K.kid K.t,none⟩:=zab _ _;have n0:(H.new ⟨zah,zcG R tv sv K.kid K.t,none⟩).next = H.next + 1:=zaf _ _;generalize hq:H.next = q at *;generalize H.new _ = H0' at *;have e259:=kc259 R tv sv K.kid K.t;have eall:=zuT R tv sv K.kid K.t;simp (disch:=omega) only [↓RD,RZ,hp.vlen];rw [zdN];refine zbw (fun h=>?_) (fun h=>?_)
 ·simp (disch:=omega) only [↓RD,RZ];rw [if_pos (by omega)];exact ⟨s0,trivial⟩
 ·simp (disch:=omega) only [↓RD,RZ,g0,e259,eall];refine zag (zv1 hg.kid hc) ?_;rintro hv H1 ⟨hh,s1⟩;have n1:=s1.next;have sm:=s1.same q (by omega);have gq1:=sm.trans g0;have s01:=s0.trans s1;simp (disch:=omega) only [↓RD,RZ,sm];refine zag (znT (hk.grow s01) hc) ?_;rintro nv H2 ⟨hn,s2⟩;have n2:=s2.next;have s02:=s01.trans s2;have gq2:=(s2.same q (by omega)).trans gq1;simp (disch:=omega) only [↓RD,RZ,gq2,eall];refine zag (zr8 (hk.grow s02) hn (hp.ext s02) p8 (by omega)) ?_;rintro bv H3 ⟨hb,s3⟩;have n3:=s3.next;have s03:=s02.trans s3;have gq3:=(s3.same q (by omega)).trans gq2;have cl:=zfK K.ws (first (zbf K.salt c)) p;have hx:=zoO K.kid c;have nl:=zeD K.salt c;simp (disch:=omega) only [↓RD,RZ,gq3,eall];refine zag (zrw (hk.grow s03) (hn.ext s3) (zmF hg.salt8 c) ((hh.ext s2).ext s3) (zu1 _ _) (hm.ext s03) m8 hb (zvq hg.ws p8) (by rw [cl]; omega)) ?_;rintro tv' H4 ⟨ht,s4⟩;have s04:=s03.trans s4;have hh4:=((hh.ext s2).ext s3).ext s4;have hb4:=hb.ext s4;have n4:=s4.next;simp (disch:=omega) only [↓RD,RZ,hh4.cells1,hh4.okc,hb4.cells1,hb4.okc,ht.cells1,ht.okc];have s5:=Grow.new H4 ⟨zar,[hv,bv,tv'],none⟩;have g5:(H4.new ⟨zar,[hv,bv,tv'],none⟩).get H4.next = _:=zab _ _;have n5:(H4.new ⟨zar,[hv,bv,tv'],none⟩).next = H4.next + 1:=zaf _ _;have hlv:Lc 1 0 (H4.new ⟨zar,[hv,bv,tv'],none⟩) (.sl H4.next 0 3 (.fix 3)) [hv,bv,tv'] [hv,bv,tv'].length:=ziI g5 rfl (by omega);have hps:Pts 0 H4 [hv,bv,tv'] [hdr K.kid c,ctr K.ws (first (zbf K.salt c)) p,zha K (zbf K.salt c) (hdr K.kid c) m (ctr K.ws (first (zbf K.salt c)) p)] :=
   .cons (hh4.low (Nat.zero_le _)) (zu1 _ _) (.cons (hb4.low (Nat.zero_le _)) (zvq hg.ws p8) (.cons (ht.low (Nat.zero_le _)) (zmh _ _ _ _ _) .nil))
  have efl:[hdr K.kid c,ctr K.ws (first (zbf K.salt c)) p,zha K (zbf K.salt c) (hdr K.kid c) m (ctr K.ws (first (zbf K.salt c)) p)].flatten = zed K c m p:=by
   unfold zed; simp
  refine zag (zqi hlv (hps.grow s5) (show 3 ≤ 1000 by decide) (by rw [efl,zkc hg.t]; have:=hg.t; omega)) ?_;rintro v H6 ⟨hv6,s6⟩;rw [efl] at hv6;simp (disch:=omega) only [↓RD,RZ];rw [if_neg (by omega)];exact ⟨(s04.trans s5).trans s6,_,rfl,Apf.low6 hv6 (by omega)⟩
end Go.Ax.SU
/- Re19 -/
namespace Go.Ax.SU
open Go.Ax
theorem zka {lo:Nat} {H:Heap} {v:V} {l:List Nat} (h:By lo H v l):Ok (mtostr v) H fun r H'=>r = .str ⟨(l.map UInt8.ofNat).toArray⟩ ∧ H' = H:=by
 have:=zpB (f:=M.pure) (Q:=fun r H'=>r = .str ⟨(l.map UInt8.ofNat).toArray⟩ ∧ H' = H) h.rc (zgb ⟨rfl,rfl⟩);obtain ⟨v1,H1,e,q⟩:=this;simp only [M.bind,Option.bind_eq_some_iff] at e;obtain ⟨⟨w,H2⟩,e1,e2⟩:=e;cases e2;exact ⟨_,_,e1,q⟩
theorem zt8 {b:List Nat} {e:Nat} (hp:parse b = .err e):e ≠ 0:=by
 unfold parse at hp;split at hp
 ·injection hp with hp; omega
 ·dsimp only at hp;split at hp
  ·injection hp with hp; omega
  ·split at hp
   ·cases hp
   ·injection hp with hp; omega
theorem zvY {lo1 lo2:Nat} {H:Heap} {R tv sv:V} {K:Ky} {bv mv:V} {b m:List Nat} (hk:RKs H R tv sv K) (hb:By lo1 H bv b) (b8:Ok8 b) (hm:By lo2 H mv m) (m8:Ok8 m) (hml:m.length ≤ 137438953472) (hbl:b.length ≤ 1099511627776) :
  Ok (sem T zbE [.agg (zcG R tv sv K.kid K.t),bv,mv]) H fun r H'=>Grow H H' ∧ pov H H' r (zjL K b m):=by
 refine zgd ?_;unfold zd8 uL uM uS uF uFM uE uB uO uU uc uq;have hg:=hk.good;have ht:=hg.t;refine zao (zaQ rfl ?_);rw [zaj];have s0:=Grow.new H ⟨zah,zcG R tv sv K.kid K.t,none⟩;have g0:(H.new ⟨zah,zcG R tv sv K.kid K.t,none⟩).get H.next = some ⟨zah,zcG R tv sv K.kid K.t,none⟩:=zab _ _;have n0:(H.new ⟨zah,zcG R tv sv K.kid K.t,none⟩).next = H.next + 1:=zaf _ _;have hb0:=hb.ext s0;generalize hq:H.next = q at *;generalize H.new _ = H0' at *;have e259:=kc259 R tv sv K.kid K.t;have e260:=kc260 R tv sv K.kid K.t;have eall:=zuT R tv sv K.kid K.t;refine zag (zjC hb0 b8 (by omega)) ?_;rintro _ H0' ⟨rfl,rfl⟩;unfold zjL;cases hp:parse b with
 | err e =>
  have e0:(((e:Nat):Int) == 0) = false:=by rw [beqz]; exact decide_eq_false (zt8 hp)
  simp (disch:=omega) only [↓RD,RZ,phv,e0,Bool.not_false];exact ⟨s0,rfl⟩
 | ok kid c n =>
  obtain ⟨n1,n2,n3,n4⟩:=zow hp b8;dsimp only;simp (disch:=omega) only [↓RD,RZ,phv,g0,e259,beqn];by_cases hkid:kid = K.kid
  ·have ed:decide (kid = K.kid) = true:=decide_eq_true hkid;rw [if_neg (fun h=>h hkid)];simp (disch:=omega) only [↓RD,RZ,ed,Bool.not_true,g0,e260,hb0.vlen];rw [zdN];refine zbw (fun h1=>?_) (fun h1=>?_)
   ·simp (disch:=omega) only [↓RD,RZ];rw [if_pos (by omega)];exact ⟨s0,rfl⟩
   ·rw [if_neg (by omega)];obtain ⟨z,hz⟩:∃ z,b.length - n - K.t = z:=⟨_,rfl⟩;have eb:b.length - K.t = n + z:=by omega
    have ebi:((b.length:Nat):Int) - ((K.t:Nat):Int) = ((n + z:Nat):Int):=by omega
    rw [hz,eb];obtain ⟨vc,hc,-,-,hvc,hpc⟩:=zbl hb0 (x:=(n:Nat)) (y:=((n + z:Nat):Int)) (by omega) (by omega) (by omega);simp only [Int.toNat_natCast] at hvc;rw [show n + z - n = z by omega] at hvc;have lc:((b.drop n).take z).length = z:=by rw [List.length_take,List.length_drop]; omega
    have hvcl:=hvc.vlen;rw [lc] at hvcl;simp (disch:=omega) only [↓RD,RZ,hb0.vlen,g0,e260,ebi,hc,hvcl];rw [zdN];refine zbw (fun h2=>?_) (fun h2=>?_)
    ·simp (disch:=omega) only [↓RD,RZ];rw [if_pos (by omega)];exact ⟨s0,rfl⟩
    ·rw [if_neg (by omega)];obtain ⟨va,-,ha,-,hva,hpa⟩:=zbl hb0 (x:=0) (y:=(n:Nat)) (by omega) (by omega) (by omega);obtain ⟨vt,-,-,hx,hvt,hpt⟩:=zbl hb0 (x:=((n + z:Nat):Int)) (y:=(b.length:Nat)) (by omega) (by omega) (by omega);have ha:=ha rfl (k':=.i64);have hx:=hx rfl (k:=.i64);simp only [Int.toNat_natCast,Int.toNat_zero,List.drop_zero,Nat.sub_zero] at hva hvt;rw [List.take_of_length_le (by rw [List.length_drop]; omega)] at hvt;simp (disch:=omega) only [↓RD,RZ,g0,eall];have hk0:=hk.grow s0;refine zag (znT hk0 n4) ?_;rintro nv H1 ⟨hn,s1⟩;have q1:=s1.next;have gq1:=(s1.same q (by omega)).trans g0;have nl:=zeD K.salt c;have la:(b.take n).length = n:=by rw [List.length_take]; omega
     have c8:Ok8 ((b.drop n).take z):=(b8.drop n).take z;have hb1:=hb0.ext s1;have hvt1:=hvt.ext s1;have hts:=@zbM _ _ _ _ (zka hvt1);simp (disch:=omega) only [↓RD,RZ,gq1,eall,ha,hb1.vlen,e260,ebi,hx,hts];refine zag (zrw (hk0.grow s1) hn (zmF hg.salt8 c) (hva.ext s1) (b8.take n) (hm.ext (s0.trans s1)) m8 (hvc.ext s1) c8 (by omega)) ?_;rintro tv' H2 ⟨htv,s2⟩;have q2:=s2.next;have s02:=s1.trans s2;refine zao (zun ?_);refine zao (zui (fun i hi=>s2.same i (hvt1.own i hi).2) ?_);have smq:=s2.same q (by omega);have gq2:=smq.trans gq1;have hts2:=@zbM _ _ _ _ (zka htv);have beq:=zsf (zmh K (zbf K.salt c) (b.take n) m ((b.drop n).take z)) (b8.drop (n + z));simp (disch:=omega) only [↓RD,RZ,smq,hts2,beq];by_cases htg:zha K (zbf K.salt c) (b.take n) m ((b.drop n).take z) = b.drop (n + z)
     ·rw [if_pos htg];have e:decide (zha K (zbf K.salt c) (b.take n) m ((b.drop n).take z) = b.drop (n + z)) = true:=decide_eq_true htg;simp (disch:=omega) only [↓RD,RZ,e,Bool.not_true,gq2,eall];refine zag (zr8 (hk0.grow s02) (hn.ext s2) (hvc.ext s02) c8 (by omega)) ?_;rintro pv H3 ⟨hpv,s3⟩;have q3:=s3.next;simp (disch:=omega) only [↓RD,RZ];exact ⟨(s0.trans s02).trans s3,_,rfl,hpv.low (by omega)⟩
     ·rw [if_neg htg];have e:decide (zha K (zbf K.salt c) (b.take n) m ((b.drop n).take z) = b.drop (n + z)) = false:=decide_eq_false htg;simp (disch:=omega) only [↓RD,RZ,e,Bool.not_false];exact ⟨s0.trans s02,rfl⟩
  ·have ed:decide (kid = K.kid) = false:=decide_eq_false hkid;rw [if_pos hkid];simp (disch:=omega) only [↓RD,RZ,ed,Bool.not_false];exact ⟨s0,rfl⟩
theorem znP {H:Heap} (id:Int) (h0:-9223372036854775808 ≤ id):Ok (sem T za9 [.int .i64 id]) H fun r H'=>r = (match szs id.toNat with | some (n,t)=>if 0 ≤ id then V.tup [.int .i64 (n:Nat),.int .i64 (t:Nat),.bool true] else .tup [.int .i64 0,.int .i64 0,.bool false] | none=>.tup [.int .i64 0,.int .i64 0,.bool false]) ∧ H' = H:=by
 refine zhI ?_;unfold ze1 uB uc;by_cases h1:id = 1
 ·subst h1; simp (disch:=omega) only [↓RD,RZ]; rfl
 by_cases h2:id = 2
 ·subst h2; simp (disch:=omega) only [↓RD,RZ]; rfl
 by_cases h3:id = 3
 ·subst h3; simp (disch:=omega) only [↓RD,RZ]; rfl
 by_cases h4:id = 16
 ·subst h4; simp (disch:=omega) only [↓RD,RZ]; rfl
 have e1:(id == 1) = false:=by simpa using h1
 have e2:(id == 2) = false:=by simpa using h2
 have e3:(id == 3) = false:=by simpa using h3
 have e4:(id == 16) = false:=by simpa using h4
 simp (disch:=omega) only [↓RD,RZ,e1,e2,e3,e4];unfold szs;split
 ·rename_i n t heq;split at heq
  ·rw [if_neg (by omega)]
  ·rw [if_neg (by omega)]
  ·rw [if_neg (by omega)]
  ·rw [if_neg (by omega)]
  ·cases heq
 ·rfl
end Go.Ax.SU
/- Re20 -/
namespace Go.Ax.SU
open Go.Ax
theorem zgT:Z261.length = 261:=by kernel_rfl
theorem kb_form {R a b:V} {kid t:Nat} (ha:a.cells = [a]) (oa:a.okc = true) (hb:b.cells = [b]) (ob:b.okc = true) :
  (Option.map V.agg (if (V.agg (sbox.map by8 ++ [R])).cells.length = 257 ∧ (V.agg (sbox.map by8 ++ [R])).okc = true then
   if a.cells.length = 1 ∧ 258 ≤ (splice Z261 0 (V.agg (sbox.map by8 ++ [R])).cells).length ∧ a.okc = true then
    if b.cells.length = 1 ∧ 259 ≤ (splice (splice Z261 0 (V.agg (sbox.map by8 ++ [R])).cells) 257 a.cells).length ∧ b.okc = true then
     if 260 ≤ (splice (splice (splice Z261 0 (V.agg (sbox.map by8 ++ [R])).cells) 257 a.cells) 258 b.cells).length then
      if 261 ≤ (splice (splice (splice (splice Z261 0 (V.agg (sbox.map by8 ++ [R])).cells) 257 a.cells) 258 b.cells) 259 [V.int .u64 (kid:Nat)]).length then
       some (splice (splice (splice (splice (splice Z261 0 (V.agg (sbox.map by8 ++ [R])).cells) 257 a.cells) 258 b.cells) 259 [V.int .u64 (kid:Nat)]) 260 [V.int .i64 (t:Nat)])
      else none
     else none
    else none
   else none
  else none)) = some (.agg (zcG R a b kid t)):=by
 have l1:=zly R;have S:∀ (x:List V) (y:V) (z:List V) (k:Nat) (w:V),x.length = k → splice (x ++ y :: z) k [w] = x ++ w :: z:=fun x y z k w h=>by
  unfold splice;rw [List.take_left' h,List.drop_append,List.drop_of_length_le (by simp; omega),h];simp
 have e0:splice Z261 0 (sbox.map by8 ++ [R]) = (sbox.map by8 ++ [R]) ++ [.nils,.nils,.int .u64 0,.int .i64 0]:=by
  unfold splice Z261;rw [List.take_zero,List.nil_append,l1,show List.replicate 256 (V.int .u8 0) ++ [.nils,.nils,.nils,.int .u64 0,.int .i64 0] = (List.replicate 256 (V.int .u8 0) ++ [.nils]) ++ [.nils,.nils,.int .u64 0,.int .i64 0] by simp,Nat.zero_add,List.drop_left' (by rw [List.length_append,List.length_replicate]; rfl)]
 have e1:splice ((sbox.map by8 ++ [R]) ++ [V.nils,.nils,.int .u64 0,.int .i64 0]) 257 [a] = ((sbox.map by8 ++ [R]) ++ [a]) ++ [.nils,.int .u64 0,.int .i64 0]:=by
  rw [S _ _ _ _ _ l1]; simp
 have l2:((sbox.map by8 ++ [R]) ++ [a]).length = 258:=by rw [List.length_append,l1]; rfl
 have e2:splice (((sbox.map by8 ++ [R]) ++ [a]) ++ [V.nils,.int .u64 0,.int .i64 0]) 258 [b] = (((sbox.map by8 ++ [R]) ++ [a]) ++ [b]) ++ [.int .u64 0,.int .i64 0]:=by
  rw [S _ _ _ _ _ l2]; simp
 have l3:(((sbox.map by8 ++ [R]) ++ [a]) ++ [b]).length = 259:=by rw [List.length_append,l2]; rfl
 have e3:splice ((((sbox.map by8 ++ [R]) ++ [a]) ++ [b]) ++ [V.int .u64 0,.int .i64 0]) 259 [.int .u64 (kid:Nat)] = ((((sbox.map by8 ++ [R]) ++ [a]) ++ [b]) ++ [.int .u64 (kid:Nat)]) ++ [.int .i64 0]:=by
  rw [S _ _ _ _ _ l3]; simp
 have l4:((((sbox.map by8 ++ [R]) ++ [a]) ++ [b]) ++ [V.int .u64 (kid:Nat)]).length = 260:=by rw [List.length_append,l3]; rfl
 have e4:splice (((((sbox.map by8 ++ [R]) ++ [a]) ++ [b]) ++ [V.int .u64 (kid:Nat)]) ++ [.int .i64 0]) 260 [.int .i64 (t:Nat)] = (((((sbox.map by8 ++ [R]) ++ [a]) ++ [b]) ++ [V.int .u64 (kid:Nat)]) ++ [.int .i64 (t:Nat)]):=by
  rw [S _ _ _ _ _ l4]
 rw [zaj,ha,hb,e0,e1,e2,e3,e4];rw [if_pos ⟨l1,rfl⟩,if_pos ⟨rfl,by rw [List.length_append,l1]; decide,oa⟩,if_pos ⟨rfl,by rw [List.length_append,l2]; decide,ob⟩,if_pos (by rw [List.length_append,l3]; decide),if_pos (by rw [List.length_append,l4]; decide)];unfold zcG;simp
theorem ld261 (R a b:V) (kid t:Nat):ldc (some 261) (zcG R a b kid t) 0 = some (.agg (zcG R a b kid t)):=zuT _ _ _ _ _
theorem sp261 (R a b:V) (kid t:Nat) {L:List V} (h:L.length = 261):splice L 0 (zcG R a b kid t) = zcG R a b kid t:=by
 unfold splice;rw [List.take_zero,List.nil_append,zgh,List.drop_of_length_le (by omega),List.append_nil]
theorem spz261:splice Z261 0 (V.agg Z261).cells = Z261:=by kernel_rfl
theorem zn8 {q:Nat} {H:Heap} {Q:Res → Heap → Prop} (g:H.get q = some ⟨zah,Z261,none⟩) (h:Q (.ret [.agg Z261,.int .i64 1]) (H.set q (some ⟨zah,Z261,none⟩))) :
  Ok ((M.lift (Ax.build Z261 [])).bind fun t27 =>
  (mstore 261 (.ptr q 0) t27).bind fun _ =>
  (mload (some 261) (.ptr q 0)).bind fun r0 =>
  M.pure (.ret [r0,(V.int .i64 1)])) H Q:=by
 refine za0 (v:=.agg Z261) rfl ?_;refine zao (zki g (by rw [zaj,zgT]) (by rw [zgT]; decide) rfl ?_);dsimp only;rw [spz261];refine zao (zqE (v:=.agg Z261) (zal _ _ _) ?_ ?_)
 ·dsimp only;rw [zdj (by rw [zgT]; decide),List.drop_zero,List.take_of_length_le (by rw [zgT]; decide)]
 ·exact zgb h
theorem zq3 {q6 kid t n lo1 lo2 w:Nat} {H:Heap} {R key vb salt:V} {cs:List V} {au sa:List Nat} {Q:Res → Heap → Prop} (g6:H.get q6 = some ⟨zah,Z261,none⟩) (hq:q6 < H.next) (hR:Lc 16 0 H R cs w) (hb:By lo1 H vb au) (hs:By lo2 H salt sa)
  (hv:∀ {k:IntKind},zaz .sl 1 key (some (.int k (n:Nat))) none none = some vb) (hbq:∀ i,vb.pid = some i → i ≠ q6) (hsq:∀ i,salt.pid = some i → i ≠ q6) (hRq:∀ i,R.pid = some i → i ≠ q6) {B:V → V → Option V} (hB:B (.agg (sbox.map by8 ++ [R])) vb = some (.agg (zcG R vb salt kid t)))
  (h:∀ H',At1 q6 H H' → Lc 16 0 H' R cs w → By 0 H' vb au → By 0 H' salt sa → Q (.ret [.agg (zcG R vb salt kid t),.int .i64 0]) H') :
  Ok ((mbox zak (V.agg Z257)).bind fun t17 =>
  (mstore 257 t17 (.agg (sbox.map by8 ++ [R]))).bind fun _ =>
  (mload (some 257) t17).bind fun t62 =>
  (M.lift (zaz .sl 1 key (some (.int .i64 (n:Nat))) none none)).bind fun t65 =>
  (M.lift (B t62 t65)).bind fun t69 =>
  (mstore 261 (.ptr q6 0) t69).bind fun _ =>
  (mload (some 261) (.ptr q6 0)).bind fun r0 =>
  M.pure (.ret [r0,(V.int .i64 0)])) H Q:=by
 refine zao (zaQ zrj ?_);rw [zaj];have s11:=Grow.new H ⟨zak,Z257,none⟩;have g11:(H.new ⟨zak,Z257,none⟩).get H.next = some ⟨zak,Z257,none⟩:=zab _ _;have n11:(H.new ⟨zak,Z257,none⟩).next = H.next + 1:=zaf _ _;generalize hq17:H.next = q17 at *;generalize H.new _ = H11 at *;have l1:=ld257 R;have l2:=sp257 R zh0;have l3:=zly R;refine zao (zki g11 (by rw [zaj,l3]) (by rw [zh0]; decide) rfl ?_);rw [zaj,l2];have s12:Grow H (H11.set q17 (some ⟨zak,sbox.map by8 ++ [R],none⟩)):=s11.set (by omega) _;have g12:(H11.set q17 (some ⟨zak,sbox.map by8 ++ [R],none⟩)).get q17 = _:=zal _ _ _;have n12:(H11.set q17 (some ⟨zak,sbox.map by8 ++ [R],none⟩)).next = H11.next:=rfl;generalize Heap.set _ q17 _ = H12 at *;refine zao (zqE g12 l1 ?_);refine za0 hv ?_;have hvb12:=hb.ext s12;have hs12:=hs.ext s12;have hR12:=hR.ext s12;refine za0 hB ?_;have g6':=(s12.same q6 (by omega)).trans g6;refine zao (zki g6' (by rw [zaj,zgh]) (by rw [zgT]; decide) rfl ?_);rw [zaj,sp261 _ _ _ _ _ zgT];refine zao (zqE (zal _ _ _) (ld261 _ _ _ _ _) ?_);refine zgb (h _ ⟨by rw [zan]; omega,fun i hi hne=>by rw [zai _ _ hne,s12.same i (by omega)]⟩ ?_ ?_ ?_)
 ·exact hR12.same (by rw [zan]; exact Nat.le_refl _) fun j hj=>zai _ _ (hRq j hj)
 ·exact (hvb12.low (Nat.zero_le _)).same (by rw [zan]; exact Nat.le_refl _) fun j hj=>zai _ _ (hbq j hj)
 ·exact (hs12.low (Nat.zero_le _)).same (by rw [zan]; exact Nat.le_refl _) fun j hj=>zai _ _ (hsq j hj)
set_option maxHeartbeats 1000000 in
theorem znn {lo:Nat} {H:Heap} {kid:Nat} {id:Int} {bv:V} {base:List Nat} (h0:-9223372036854775808 ≤ id) (hk:kid < 18446744073709551616) (hb:By lo H bv base) (b8:Ok8 base) (hbl:base.length ≤ 549755813000) :
  Ok (sem T zbq [.int .i64 id,.int .u64 (kid:Nat),bv]) H fun r H'=>Grow H H' ∧ ((id < 0 ∨ szs id.toNat = none) ∧ r = .tup [.agg Z261,.int .i64 1] ∨ ∃ n t R tv sv,0 ≤ id ∧ szs id.toNat = some (n,t) ∧ r = .tup [.agg (zcG R tv sv kid t),.int .i64 0] ∧ RKs H' R tv sv (drv id.toNat kid n t base) ∧ ∀ j,R.pid = some j ∨ tv.pid = some j ∨ sv.pid = some j → H.next ≤ j):=by
 refine zhg ?_;unfold zeP uL uS uT uE uB uO uc ub;refine zao (zaQ rfl ?_);have s0:=Grow.new H ⟨zah,Z261,none⟩;have g0:(H.new ⟨zah,Z261,none⟩).get H.next = some ⟨zah,Z261,none⟩:=zab _ _;have n0:(H.new ⟨zah,Z261,none⟩).next = H.next + 1:=zaf _ _;have hb0:=hb.ext s0;show Ok _ (H.new ⟨zah,Z261,none⟩) _;generalize hq6:H.next = q6 at *;generalize H.new _ = H0' at *;refine zag (znP id h0) ?_;rintro _ H0' ⟨rfl,rfl⟩;cases hs:szs id.toNat with
 | none =>
  refine za0 rfl ?_;refine za0 rfl ?_;refine za0 rfl ?_;refine za0 rfl ?_;refine zul ?_;exact zn8 g0 ⟨_,rfl,s0.set (by omega) _,.inl ⟨.inr rfl,rfl⟩⟩
 | some qq =>
  obtain ⟨n,t⟩:=qq;dsimp only;by_cases hi:0 ≤ id
  ·rw [if_pos hi];obtain ⟨hn,ht,hid⟩:=szs_n hs;obtain ⟨i,hii⟩:∃ i:Nat,id = (i:Nat):=⟨id.toNat,by omega⟩;subst hii;rw [Int.toNat_natCast] at *;have w0:IntKind.u64.wrap ((i:Nat):Int) = ((i:Nat):Int):=by rw [wrap_u64]; omega
   simp (maxSteps:=1000000) (disch:=first | omega | (simp only [RY] <;> omega) | decide) only [↓RD,RZ,eq_self,Int.reduceToNat,Int.reduceAdd,Int.reduceSub,Int.reduceMul,Nat.reduceAdd,Nat.reduceSub,Nat.reduceMul,Nat.reduceDiv,Nat.reduceMod,Nat.reduceBEq,Nat.reduceLeDiff];refine zag (zlL (key:=[]) zsg Ok8.nil (by decide) hb0 b8 hbl) ?_;rintro _ H1 ⟨rfl,s1⟩;have n1:=s1.next;have sl:(zaI base).length = 32:=zc5 _ _ _;have s8:Ok8 (zaI base):=zjX _ _ _;have eS:hmac kc [] base = zaI base:=rfl;rw [eS];have sp:=sp32 sl;have l32:((zaI base).map by8).length = 32:=by rw [List.length_map,sl]
   simp (maxSteps:=1000000) (disch:=first | omega | (simp only [RY] <;> omega) | decide) only [↓RD,RZ,eq_self,Int.reduceToNat,Int.reduceAdd,Int.reduceSub,Int.reduceMul,Nat.reduceAdd,Nat.reduceSub,Nat.reduceMul,Nat.reduceDiv,Nat.reduceMod,Nat.reduceBEq,Nat.reduceLeDiff,zaY,zaj,sp,l32];have s2:Grow H1 ((H1.new ⟨zae,[.int .u8 0,.int .u8 0,.int .u8 0,.int .u8 0,.int .u8 0,.int .u8 0,.int .u8 0,.int .u8 0,.int .u8 0,.int .u8 0,.int .u8 0,.int .u8 0,.int .u8 0,.int .u8 0,.int .u8 0,.int .u8 0,.int .u8 0,.int .u8 0,.int .u8 0,.int .u8 0,.int .u8 0,.int .u8 0,.int .u8 0,.int .u8 0,.int .u8 0,.int .u8 0,.int .u8 0,.int .u8 0,.int .u8 0,.int .u8 0,.int .u8 0,.int .u8 0],none⟩).set H1.next (some ⟨zae,(zaI base).map by8,none⟩)):=(Grow.new _ _).set (Nat.le_refl _) _;have g2:((H1.new ⟨zae,[.int .u8 0,.int .u8 0,.int .u8 0,.int .u8 0,.int .u8 0,.int .u8 0,.int .u8 0,.int .u8 0,.int .u8 0,.int .u8 0,.int .u8 0,.int .u8 0,.int .u8 0,.int .u8 0,.int .u8 0,.int .u8 0,.int .u8 0,.int .u8 0,.int .u8 0,.int .u8 0,.int .u8 0,.int .u8 0,.int .u8 0,.int .u8 0,.int .u8 0,.int .u8 0,.int .u8 0,.int .u8 0,.int .u8 0,.int .u8 0,.int .u8 0,.int .u8 0],none⟩).set H1.next (some ⟨zae,(zaI base).map by8,none⟩)).get H1.next = _:=zal _ _ _;have n2:((H1.new ⟨zae,[.int .u8 0,.int .u8 0,.int .u8 0,.int .u8 0,.int .u8 0,.int .u8 0,.int .u8 0,.int .u8 0,.int .u8 0,.int .u8 0,.int .u8 0,.int .u8 0,.int .u8 0,.int .u8 0,.int .u8 0,.int .u8 0,.int .u8 0,.int .u8 0,.int .u8 0,.int .u8 0,.int .u8 0,.int .u8 0,.int .u8 0,.int .u8 0,.int .u8 0,.int .u8 0,.int .u8 0,.int .u8 0,.int .u8 0,.int .u8 0,.int .u8 0,.int .u8 0],none⟩).set H1.next (some ⟨zae,(zaI base).map by8,none⟩)).next = H1.next + 1:=rfl;generalize hq:H1.next = q at *;generalize Heap.set _ q _ = H2 at *;refine zag (U_ok (b:=[]) kid 8 zsg hk (by decide) (by decide)) ?_;rintro x1 H3 ⟨hx1,s3⟩;rw [List.nil_append] at hx1;have n3:=s3.next;simp (maxSteps:=1000000) (disch:=first | omega | (simp only [RY] <;> omega) | decide) only [↓RD,RZ,eq_self,Int.reduceToNat,Int.reduceAdd,Int.reduceSub,Int.reduceMul,Nat.reduceAdd,Nat.reduceSub,Nat.reduceMul,Nat.reduceDiv,Nat.reduceMod,Nat.reduceBEq,Nat.reduceLeDiff,w0];refine zag (U_ok i 2 hx1.by (by omega) (by decide) (by rw [zcs]; decide)) ?_;rintro x3 H5 ⟨hx3,s4⟩;have n5:=s4.next;have s25:Grow H2 H5:=s3.trans s4;have g5:=(s25.same q (by omega)).trans g2;have vs:=zg7 (n:=32) (id:=q);have ad:((n:Nat):Int) + 32 = ((n + 32:Nat):Int):=rfl;have hx3b:=hx3.by;have il:(num kid 8 ++ num i 2).length = 10:=by rw [List.length_append,zcs,zcs]
   have i8:Ok8 (num kid 8 ++ num i 2):=(zfo _ _).app (zfo _ _);simp (maxSteps:=1000000) (disch:=first | omega | (simp only [RY] <;> omega) | decide) only [↓RD,RZ,eq_self,Int.reduceToNat,Int.reduceAdd,Int.reduceSub,Int.reduceMul,Nat.reduceAdd,Nat.reduceSub,Nat.reduceMul,Nat.reduceDiv,Nat.reduceMod,Nat.reduceBEq,Nat.reduceLeDiff,vs,ad];rw [zaK];refine zi4 (l:=sKey) rfl (by decide) hx3b (by omega) fun x6 H6 hx6 s6=>?_;have n6:=s6.next;have g6:=(s6.same q (by omega)).trans g5;have skl:(sKey ++ (num kid 8 ++ num i 2)).length = 32:=by rw [List.length_append,il]; rfl
   have sk8:Ok8 (sKey ++ (num kid 8 ++ num i 2)):=(all8 rfl).app i8;refine zag (zj9 (ze5 (lo:=0) g6 sl (by omega) (by omega)) s8 (by omega) hx6.by sk8 (by omega) (show n + 32 ≤ 8160 by omega)) ?_;rintro _ H7 ⟨key,rfl,hkey,s7⟩;have n7:=s7.next;have ek:((hkdf kc (zaI base) (sKey ++ (num kid 8 ++ num i 2)) ((n + 32 + 31) / 32)).1.take (n + 32)) = keyb i kid n base:=by
    unfold keyb;rw [show (n + 32 + 31) / 32 = 2 by omega]
   rw [ek] at hkey;have kl:=zoJ i kid n base (by omega);have k8:=zuS i kid n base;have g7:=(s7.same q (by omega)).trans g6;have hx7:=(hx3b.ext s6).ext s7;simp (maxSteps:=1000000) (disch:=first | omega | (simp only [RY] <;> omega) | decide) only [↓RD,RZ,eq_self,Int.reduceToNat,Int.reduceAdd,Int.reduceSub,Int.reduceMul,Nat.reduceAdd,Nat.reduceSub,Nat.reduceMul,Nat.reduceDiv,Nat.reduceMod,Nat.reduceBEq,Nat.reduceLeDiff,vs];rw [zaK];refine zi4 (l:=zqu) rfl (by decide) hx7 (by omega) fun x8 H8 hx8 s8'=>?_;have n8:=s8'.next;have g8:=(s8'.same q (by omega)).trans g7;have ssl:(zqu ++ (num kid 8 ++ num i 2)).length = 33:=by rw [List.length_append,il]; rfl
   have ss8:Ok8 (zqu ++ (num kid 8 ++ num i 2)):=(all8 rfl).app i8;refine zag (zj9 (ze5 (lo:=0) g8 sl (by omega) (by omega)) s8 (by omega) hx8.by ss8 (by omega) (show 12 ≤ 8160 by omega)) ?_;rintro _ H9 ⟨salt,rfl,hsalt,s9⟩;have n9:=s9.next;have hkey9:=(hkey.ext s8').ext s9;obtain ⟨va,-,ha,-,hva,-⟩:=zbl hkey9 (x:=0) (y:=(n:Nat)) (by omega) (by omega) (by omega);obtain ⟨vb,-,-,hvb',hvb,-⟩:=zbl hkey9 (x:=(n:Nat)) (y:=((keyb i kid n base).length:Nat)) (by omega) (by omega) (by omega);have ha:=ha rfl (k':=.i64);have hvb':=hvb' rfl (k:=.i64);simp only [Int.toNat_natCast,Int.toNat_zero,List.drop_zero,Nat.sub_zero] at hva hvb;rw [List.take_of_length_le (by rw [List.length_drop]; omega)] at hvb;simp (maxSteps:=1000000) (disch:=first | omega | (simp only [RY] <;> omega) | decide) only [↓RD,RZ,eq_self,Int.reduceToNat,Int.reduceAdd,Int.reduceSub,Int.reduceMul,Nat.reduceAdd,Nat.reduceSub,Nat.reduceMul,Nat.reduceDiv,Nat.reduceMod,Nat.reduceBEq,Nat.reduceLeDiff,ha];refine zag (zrl (n:=n / 4) hva (k8.take n) (by omega) (by rw [List.length_take]; omega)) ?_;rintro _ H10 ⟨x,rfl,⟨R,rfl,hR,hRw,hR4⟩,s10,hRp⟩;have n10:=s10.next;have s010:Grow H0' H10:=((((((s1.trans s2).trans s25).trans s6).trans s7).trans s8').trans s9).trans s10;have g6':=(s010.same q6 (by omega)).trans g0;refine za0 rfl ?_;refine za0 rfl ?_;have hvb10:=hvb.ext s10;have hs10:=hsalt.ext s10;refine zq3 g6' (by omega) hR hvb10 hs10 hvb' (fun j hj=>by have:=(hvb.own j hj).1; omega) (fun j hj=>by have:=(hsalt.own j hj).1; omega) ?_ (kb_form hvb10.cells1 hvb10.okc hs10.cells1 hs10.okc) (fun H' s hR' hb' hs'=>?_)
   ·intro j hj;have:=hRp R rfl j hj;omega
   ·refine ⟨_,rfl,?_,.inr ⟨n,t,R,vb,salt,by omega,rfl,rfl,⟨zoW hs hk,hR',hb',hs'⟩,fun j hj=>?_⟩⟩
    rotate_left
    ·rcases hj with hj | hj | hj
     ·have:=hRp R rfl j hj; omega
     ·have:=(hvb.own j hj).1; omega
     ·have:=(hsalt.own j hj).1; omega
    exact ⟨by have:=s.next; omega,fun j hj=>by rw [s.same j (by omega) (by omega),s010.same j (by omega),s0.same j (by omega)]⟩
  ·rw [if_neg hi];refine za0 rfl ?_;refine za0 rfl ?_;refine za0 rfl ?_;refine za0 rfl ?_;refine zul ?_;exact zn8 g0 ⟨_,rfl,s0.set (by omega) _,.inl ⟨.inl (by omega),rfl⟩⟩
end Go.Ax.SU
/- Lk1 -/
namespace Go.Ax.SU
open Go.Ax
structure AtS (S:List Nat) (H H':Heap):Prop where
 next:H.next ≤ H'.next
 same:∀ i,i < H.next → i ∉ S → H'.get i = H.get i
theorem AtS.refl (S:List Nat) (H:Heap):AtS S H H:=⟨Nat.le_refl _,fun _ _ _=>rfl⟩
theorem AtS.trans {S:List Nat} {H H1 H2:Heap} (h:AtS S H H1) (g:AtS S H1 H2):AtS S H H2:=⟨Nat.le_trans h.next g.next,fun i hi hk=>by rw [g.same i (Nat.lt_of_lt_of_le hi h.next) hk,h.same i hi hk]⟩
theorem Grow.atS {H H':Heap} (h:Grow H H') (S:List Nat):AtS S H H':=⟨h.next,fun i hi _=>h.same i hi⟩
theorem AtS.set {S:List Nat} (H:Heap) {k:Nat} (h:k ∈ S) (b:Option Blk):AtS S H (H.set k b):=⟨Nat.le_refl _,fun i _ hk=>zai _ _ (fun e=>hk (e ▸ h))⟩
theorem AtS.mono {S S':List Nat} {H H':Heap} (h:AtS S H H') (g:∀ i ∈ S,i ∈ S'):AtS S' H H':=⟨h.next,fun i hi hk=>h.same i hi fun e=>hk (g i e)⟩
theorem AtS.grow {H H':Heap} (h:AtS [] H H'):Grow H H':=⟨h.next,fun i hi=>h.same i hi (by simp)⟩
theorem AtS.new {S:List Nat} {H0 H H':Heap} (g:Grow H0 H) (h:AtS S H H') (hS:∀ i ∈ S,H0.next ≤ i):Grow H0 H' :=
 ⟨Nat.le_trans g.next h.next,fun i hi=>by rw [h.same i (Nat.lt_of_lt_of_le hi g.next) (fun e=>by have:=hS i e; omega),g.same i hi]⟩
theorem Lc.atS {e lo n:Nat} {S:List Nat} {H H':Heap} {v:V} {cells:List V} (h:Lc e lo H v cells n) (s:AtS S H H') (hk:∀ i,v.pid = some i → i ∉ S):Lc e lo H' v cells n :=
 ⟨by rw [zhb fun i hi=>s.same i (h.own i hi).2 (hk i hi)]; exact h.rc,fun i hi=>⟨(h.own i hi).1,Nat.lt_of_lt_of_le (h.own i hi).2 s.next⟩,h.cap⟩
def Odd (b:Blk):Prop:=b.ty ≠ zaR ∧ b.ty ≠ zaT ∧ b.ty ≠ zav ∧ ∀ v ∈ b.cells,∀ n,v ≠ .int .u8 n
theorem By.odd {lo i:Nat} {H:Heap} {v:V} {l:List Nat} {b:Blk} (h:By lo H v l) (hl:0 < l.length) (hp:v.pid = some i) (hg:H.get i = some b):¬ ∀ v ∈ b.cells,∀ n,v ≠ .int .u8 n:=by
 rcases Lc.cases h with ⟨rfl,_⟩ | ⟨id,off,cap,b',rfl,hb,hle,hc⟩ | ⟨cs,rfl,_⟩
 ·cases hp
 ·simp only [V.pid,Option.some.injEq] at hp;subst hp;rw [hb] at hg;injection hg with hg
  subst hg;intro hno;cases l with
  | nil=>simp at hl
  | cons x l =>
   rw [List.map_cons] at hc;have:by8 x ∈ b'.cells:=List.mem_of_mem_drop (List.mem_of_mem_take (by rw [← hc]; exact List.mem_cons_self));exact hno _ this _ rfl
 ·cases hp
theorem KeyM.atS {S:List Nat} {H H':Heap} {k:Nat} {K:Ky} (h:KeyM H k K) (s:AtS S H H') (hS:∀ i ∈ S,∃ b,H.get i = some b ∧ Odd b):KeyM H' k K:=by
 obtain ⟨a,av,sv,h1,h2,h3,h4⟩:=h.mem;obtain ⟨id,g1,g2,l1,l2,hw⟩:=h2;have hne:∀ {i b},H.get i = some b → ¬ Odd b → i ∉ S:=fun hb ho e=>by
  obtain ⟨b',hb',ho'⟩:=hS _ e;rw [hb] at hb';injection hb' with hb'
  exact ho (hb' ▸ ho')
 have by':∀ {v:V} {l:List Nat},By 0 H v l → 0 < l.length → By 0 H' v l:=fun hv hl=>Lc.atS hv s fun i hi e=>by
  obtain ⟨b',hb',ho'⟩:=hS _ e;exact By.odd hv hl hi hb' ho'.2.2.2
 refine ⟨h.good,⟨a,av,sv,?_,⟨id,?_,?_,Nat.lt_of_lt_of_le l1 s.next,Nat.lt_of_lt_of_le l2 s.next,hw⟩,by' h3 (by rw [h.good.auth]; decide),by' h4 (by rw [h.good.salt]; decide)⟩,Nat.lt_of_lt_of_le h.low s.next⟩
 ·rw [s.same k h.low (hne h1 fun o=>o.1 rfl)]; exact h1
 ·rw [s.same a l1 (hne g1 fun o=>o.2.1 rfl)]; exact g1
 ·rw [s.same id l2 (hne g2 fun o=>o.2.2.1 rfl)]; exact g2
/-! Maps as lists of keys and values. -/
def encM {α:Type} (ek:α → V) (l:List (α × V)):List V:=l.flatMap fun p=>[ek p.1,p.2]
def look {α β:Type} [DecidableEq α] (a:α):List (α × β) → Option β
 | []=>none
 | (k,v) :: l=>if a = k then some v else look a l
def putl {α β:Type} [DecidableEq α] (a:α) (b:β):List (α × β) → List (α × β)
 | []=>[(a,b)]
 | (k,v) :: l=>if a = k then (a,b) :: l else (k,v) :: putl a b l
theorem ziX {α:Type} {ek:α → V} (p:α × V) (l:List (α × V)):encM ek (p :: l) = ek p.1 :: p.2 :: encM ek l:=rfl
theorem encM_len {α:Type} {ek:α → V} (l:List (α × V)):(encM ek l).length = 2 * l.length:=by
 induction l with
 | nil=>rfl
 | cons p l ih=>rw [ziX,List.length_cons,List.length_cons,List.length_cons,ih]; omega
section
variable {α:Type} [DecidableEq α] {ek:α → V} {mk:MK}
theorem mget_enc (hk:∀ a b,keq mk (ek a) (ek b) = some (decide (a = b))) (a:α) (l:List (α × V)):mget mk (ek a) (encM ek l) = some (look a l):=by
 induction l with
 | nil=>rfl
 | cons p l ih =>
  obtain ⟨k,v⟩:=p;rw [ziX];simp only [mget,hk,Option.bind_some,decide_eq_true_eq,look];split
  ·rfl
  ·exact ih
theorem mset_enc (hk:∀ a b,keq mk (ek a) (ek b) = some (decide (a = b))) (a:α) (v:V) (l:List (α × V)):mset mk (ek a) v (encM ek l) = some (encM ek (putl a v l)):=by
 induction l with
 | nil=>rfl
 | cons p l ih =>
  obtain ⟨k,u⟩:=p;rw [ziX];simp only [mset,hk,Option.bind_some,decide_eq_true_eq,putl];split
  ·rfl
  ·rw [ih]; rfl
theorem zi6 {β:Type} {H:Heap} {c:Nat} {ty:TypeId} {o:Option Nat} {z:V} {a:α} {l:List (α × V)} {f:V → M β} {Q:β → Heap → Prop} (hk:∀ a b,keq mk (ek a) (ek b) = some (decide (a = b))) (ho:kok mk (ek a) = true)
  (hg:H.get c = some ⟨ty,encM ek l,o⟩) (k:Ok (f ((look a l).getD z)) H Q):Ok ((mlookup mk z false (.mp c) (ek a)).bind f) H Q:=by
 refine zao ⟨_,_,(show mlookup mk z false (.mp c) (ek a) H = some ((look a l).getD z,H) from ?_),k⟩;simp only [mlookup,hg,Option.bind_some,if_pos ho,mget_enc hk,Option.map_some,Bool.false_eq_true,if_false]
theorem zk4 {β:Type} {H:Heap} {c:Nat} {ty:TypeId} {o:Option Nat} {v:V} {a:α} {l:List (α × V)} {f:V → M β} {Q:β → Heap → Prop} (hk:∀ a b,keq mk (ek a) (ek b) = some (decide (a = b))) (ho:kok mk (ek a) = true)
  (hg:H.get c = some ⟨ty,encM ek l,o⟩) (k:Ok (f .undef) (H.set c (some ⟨ty,encM ek (putl a v l),o⟩)) Q):Ok ((mmapset mk (.mp c) (ek a) v).bind f) H Q:=by
 refine zao ⟨_,_,(show mmapset mk (.mp c) (ek a) v H = some (.undef,H.set c (some ⟨ty,encM ek (putl a v l),o⟩)) from ?_),k⟩;simp only [mmapset,hg,Option.bind_some,if_pos ho,mset_enc hk,Option.map_some]
end
theorem zsM {α β:Type} {ek:α → V} {H:Heap} {c:Nat} {ty:TypeId} {o:Option Nat} {l:List (α × V)} {f:V → M β} {Q:β → Heap → Prop}
  (hg:H.get c = some ⟨ty,encM ek l,o⟩) (k:Ok (f (.int .i64 (l.length:Nat))) H Q):Ok ((mmaplen (.mp c)).bind f) H Q:=by
 refine zao ⟨_,_,(show mmaplen (.mp c) H = some (.int .i64 (l.length:Nat),H) from ?_),k⟩;simp only [mmaplen,hg,Option.map_some,encM_len,Nat.mul_div_cancel_left _ (show 0 < 2 by decide)]
def ekid (n:Nat):V:=.int .u64 (n:Nat)
def eplc (p:Int × Int):V:=.agg [.int .i64 p.1,.int .i64 p.2]
theorem zlb (a b:Nat):keq .int (ekid a) (ekid b) = some (decide (a = b)):=by
 simp only [keq,ekid,if_true,Option.some.injEq];by_cases h:a = b
 ·subst h; simp
 ·rw [decide_eq_false h];have:¬ ((a:Nat):Int) = ((b:Nat):Int):=by omega
  simpa using this
theorem zoK (a b:Int × Int):keq (.st [.int,.int]) (eplc a) (eplc b) = some (decide (a = b)):=by
 obtain ⟨a1,a2⟩:=a;obtain ⟨b1,b2⟩:=b;simp only [keq,eplc,zdY,if_true,Option.map_some,Option.some.injEq,Prod.mk.injEq,Bool.and_true];by_cases h1:a1 = b1 <;> by_cases h2:a2 = b2 <;> simp [h1,h2]
theorem look_put {α β:Type} [DecidableEq α] (a k:α) (b:β) (l:List (α × β)):look k (putl a b l) = if k = a then some b else look k l:=by
 induction l with
 | nil=>rfl
 | cons p l ih =>
  obtain ⟨k',v⟩:=p;simp only [putl];by_cases h:a = k'
  ·subst h;rw [if_pos rfl];simp only [look];by_cases h2:k = a
   ·rw [if_pos h2,if_pos h2]
   ·rw [if_neg h2,if_neg h2,if_neg h2]
  ·rw [if_neg h];simp only [look];by_cases h2:k = k'
   ·subst h2;rw [if_pos rfl,if_neg (fun e=>h e.symm),if_pos rfl]
   ·rw [if_neg h2,ih,if_neg h2]
/-! Numbers of keys. -/
def zct (e st sl:Int):Prop:=(0 ≤ e ∧ e ≤ 65535) ∧ (0 ≤ st ∧ st ≤ 31) ∧ 0 ≤ sl ∧ sl < 8
instance (e st sl:Int):Decidable (zct e st sl):=by unfold zct; infer_instance
def kidN (e st sl:Int):Nat:=(256 * e + 8 * st + sl).toNat
def kidv (e st sl:Int):V:=if zct e st sl then .tup [.int .u64 (kidN e st sl:Nat),.int .i64 0] else .tup [.int .u64 0,.int .i64 1]
theorem zpP {H:Heap} (e st sl:Int):Ok (sem T ziP [.int .i64 e,.int .i64 st,.int .i64 sl]) H fun r H'=>r = kidv e st sl ∧ H' = H:=by
 refine zuk ?_;unfold zr3 uL uB uG uH uc uq;by_cases h1:e < 0
 ·have b1:decide (e < 0) = true:=decide_eq_true h1;have hn:¬ zct e st sl:=by unfold zct; omega
  simp (disch:=omega) only [↓RD,RZ,b1,kidv,hn]
 have b1:decide (e < 0) = false:=decide_eq_false h1;by_cases h2:65535 < e
 ·have b2:decide (65535 < e) = true:=decide_eq_true h2;have hn:¬ zct e st sl:=by unfold zct; omega
  simp (disch:=omega) only [↓RD,RZ,b1,b2,kidv,hn]
 have b2:decide (65535 < e) = false:=decide_eq_false h2;by_cases h3:st < 0
 ·have b3:decide (st < 0) = true:=decide_eq_true h3;have hn:¬ zct e st sl:=by unfold zct; omega
  simp (disch:=omega) only [↓RD,RZ,b1,b2,b3,kidv,hn]
 have b3:decide (st < 0) = false:=decide_eq_false h3;by_cases h4:31 < st
 ·have b4:decide (31 < st) = true:=decide_eq_true h4;have hn:¬ zct e st sl:=by unfold zct; omega
  simp (disch:=omega) only [↓RD,RZ,b1,b2,b3,b4,kidv,hn]
 have b4:decide (31 < st) = false:=decide_eq_false h4;by_cases h5:sl < 0
 ·have b5:decide (sl < 0) = true:=decide_eq_true h5;have hn:¬ zct e st sl:=by unfold zct; omega
  simp (disch:=omega) only [↓RD,RZ,b1,b2,b3,b4,b5,kidv,hn]
 have b5:decide (sl < 0) = false:=decide_eq_false h5;by_cases h6:8 ≤ sl
 ·have b6:decide (8 ≤ sl) = true:=decide_eq_true h6;have hn:¬ zct e st sl:=by unfold zct; omega
  simp (disch:=omega) only [↓RD,RZ,b1,b2,b3,b4,b5,b6,kidv,hn]
 have b6:decide (8 ≤ sl) = false:=decide_eq_false h6;have hy:zct e st sl:=by unfold zct; omega
 have w1:IntKind.i64.wrap (256 * e) = 256 * e:=wrap_i64 (by omega) (by omega);have w2:IntKind.i64.wrap (8 * st) = 8 * st:=wrap_i64 (by omega) (by omega);have w3:IntKind.i64.wrap (256 * e + 8 * st) = 256 * e + 8 * st:=wrap_i64 (by omega) (by omega);have w4:IntKind.i64.wrap (256 * e + 8 * st + sl) = 256 * e + 8 * st + sl:=wrap_i64 (by omega) (by omega);have w5:IntKind.u64.wrap (256 * e + 8 * st + sl) = ((kidN e st sl:Nat):Int):=by rw [wrap_u64]; unfold kidN; omega
 simp (disch:=omega) only [↓RD,RZ,b1,b2,b3,b4,b5,b6,kidv,hy,w1,w2,w3,w4,w5]
end Go.Ax.SU
/- Lk2 -/
namespace Go.Ax.SU
open Go.Ax
def zgG (k:Nat):V:=if 16777216 ≤ k then .tup [.int .i64 0,.int .i64 0,.int .i64 0,.bool false] else .tup [.int .i64 (k / 256:Nat),.int .i64 (k % 256 / 8:Nat),.int .i64 (k % 8:Nat),.bool true]
theorem zma {a m:Nat} (ha:a < 18446744073709551616) (hm:0 < m):Ax.bin .quo (.int .u64 (a:Nat)) (.int .u64 (m:Nat)) = some (.int .u64 (a / m:Nat)):=by
 have h0:¬ ((m:Nat):Int) = 0:=by omega
 have h1:((a:Nat):Int).tdiv ((m:Nat):Int) = ((a / m:Nat):Int):=by rw [Int.tdiv_eq_ediv_of_nonneg (by omega)]; rfl
 have h2:a / m ≤ a:=Nat.div_le_self _ _;simp only [Ax.bin,if_true,zeg,if_neg h0,h1,wrap_u64];generalize a / m = d at h2;rw [Int.emod_eq_of_lt (by omega) (by omega)]
theorem zsj {a m:Nat} (hm:0 < m):Ax.bin .rem (.int .u64 (a:Nat)) (.int .u64 (m:Nat)) = some (.int .u64 (a % m:Nat)):=by
 have h0:¬ ((m:Nat):Int) = 0:=by omega
 have h1:((a:Nat):Int).tmod ((m:Nat):Int) = ((a % m:Nat):Int):=by rw [Int.tmod_eq_emod_of_nonneg (by omega)]; rfl
 simp only [Ax.bin,if_true,zeg,if_neg h0,h1]
theorem zpO {H:Heap} {k:Nat} (hk:k < 18446744073709551616):Ok (sem T zgK [.int .u64 (k:Nat)]) H fun r H'=>r = zgG k ∧ H' = H:=by
 refine zpC ?_;unfold zmV uL uB uc uq;by_cases h1:16777216 ≤ k
 ·have b1:decide ((16777216:Int) ≤ ((k:Nat):Int)) = true:=decide_eq_true (by omega);have b1':decide (16777216 ≤ k) = true:=decide_eq_true h1;simp (disch:=omega) only [↓RD,RZ,b1,b1',zgG,h1]
 ·have b1:decide ((16777216:Int) ≤ ((k:Nat):Int)) = false:=decide_eq_false (by omega);have b1':decide (16777216 ≤ k) = false:=decide_eq_false h1;have w1:IntKind.i64.wrap ((k / 256:Nat):Int) = ((k / 256:Nat):Int):=wrap_i64 (by omega) (by omega);have w2:IntKind.i64.wrap ((k % 256 / 8:Nat):Int) = ((k % 256 / 8:Nat):Int):=wrap_i64 (by omega) (by omega);have w3:IntKind.i64.wrap ((k % 8:Nat):Int) = ((k % 8:Nat):Int):=wrap_i64 (by omega) (by omega);have q1:Ax.bin .quo (.int .u64 (k:Nat)) (.int .u64 256) = some (.int .u64 (k / 256:Nat)):=zma (m:=256) hk (by decide);have q2:Ax.bin .rem (.int .u64 (k:Nat)) (.int .u64 256) = some (.int .u64 (k % 256:Nat)):=zsj (m:=256) (by decide);have q3:Ax.bin .rem (.int .u64 (k:Nat)) (.int .u64 8) = some (.int .u64 (k % 8:Nat)):=zsj (m:=8) (by decide);have q4:Ax.bin .quo (.int .u64 (k % 256:Nat)) (.int .u64 8) = some (.int .u64 (k % 256 / 8:Nat)):=zma (m:=8) (by omega) (by decide);simp (disch:=omega) only [↓RD,RZ,b1,b1',zgG,h1,q1,q2,q3,q4,w1,w2,w3]
def zsZ (a b:Nat):Bool:=decide (a < 16777216) && (decide (b < 16777216) && decide (a / 8 < b / 8))
theorem zqS {H:Heap} {a b:Nat} (ha:a < 18446744073709551616) (hb:b < 18446744073709551616):Ok (sem T zhR [.int .u64 (a:Nat),.int .u64 (b:Nat)]) H fun r H'=>r = .bool (zsZ a b) ∧ H' = H:=by
 refine zqF ?_;unfold zn6 uL uB uG uH uq;by_cases h1:a < 16777216
 ·have b1:decide ((a:Nat) < 16777216) = true:=decide_eq_true h1;by_cases h2:b < 16777216
  ·have b2:decide ((b:Nat) < 16777216) = true:=decide_eq_true h2;have q1:Ax.bin .quo (.int .u64 (a:Nat)) (.int .u64 8) = some (.int .u64 (a / 8:Nat)):=zma (m:=8) ha (by decide);have q2:Ax.bin .quo (.int .u64 (b:Nat)) (.int .u64 8) = some (.int .u64 (b / 8:Nat)):=zma (m:=8) hb (by decide);have dd:decide (((a / 8:Nat):Int) < ((b / 8:Nat):Int)) = decide (a / 8 < b / 8):=decide_eq_decide.2 (by omega);simp (disch:=omega) only [↓RD,RZ,q1,q2,dd,b1,b2,zsZ,Bool.true_and]
  ·have b2:decide ((b:Nat) < 16777216) = false:=decide_eq_false h2;simp (disch:=omega) only [↓RD,RZ,b1,b2,zsZ,Bool.true_and,Bool.false_and]
 ·have b1:decide ((a:Nat) < 16777216) = false:=decide_eq_false h1;simp (disch:=omega) only [↓RD,RZ,b1,zsZ,Bool.false_and]
/-! ratchet -/
def sRat:List Nat:=[83,70,114,97,109,101,32,49,46,48,32,82,97,116,99,104,101,116]
def zuz (b:List Nat):List Nat:=(hkdf kc (hmac kc [] b) sRat 1).1.take 32
def zc0 (b:List Nat):Nat → List Nat
 | 0=>b
 | n + 1=>zuz (zc0 b n)
theorem zuy (b:List Nat):(zuz b).length = 32:=by unfold zuz; rw [List.length_take,zf3]; omega
theorem nextB_8 (b:List Nat):Ok8 (zuz b):=Ok8.take (zlc kc _ _ _).1 _
theorem zmb {b:List Nat} (h:Ok8 b):∀ n,Ok8 (zc0 b n)
 | 0=>h
 | n + 1=>nextB_8 _
theorem zje {b:List Nat} {m:Nat} (h:b.length ≤ m) (h32:32 ≤ m):∀ n,(zc0 b n).length ≤ m
 | 0=>h
 | n + 1=>by unfold zc0; rw [zuy]; exact h32
theorem zux {lo:Nat} {H:Heap} {bv:V} {b:List Nat} (hb:By lo H bv b) (b8:Ok8 b) (hbl:b.length ≤ 1099511627776):Ok (sem T zeJ [bv]) H fun r H'=>By H.next H' r (zuz b) ∧ Grow H H':=by
 refine zmx ?_;unfold zjw uL uT uE uO uc ub;refine zag (zoc (Lc.nil:By 0 H .nils []) Ok8.nil (by decide) hb b8 hbl) ?_;rintro _ H1 ⟨rfl,s1⟩;have n1:=s1.next;have sl:(hmac kc [] b).length = 32:=zc5 _ _ _;have s8:Ok8 (hmac kc [] b):=zjX _ _ _;have sp:=sp32 sl;have l32:((hmac kc [] b).map by8).length = 32:=by rw [List.length_map,sl]
 have vs:=zg7 (n:=32) (id:=H1.next);simp (disch:=omega) only [↓RD,RZ,eq_self,seval,l32,sp,vs];have s2:Grow H ((H1.new ⟨zae,[.int .u8 0,.int .u8 0,.int .u8 0,.int .u8 0,.int .u8 0,.int .u8 0,.int .u8 0,.int .u8 0,.int .u8 0,.int .u8 0,.int .u8 0,.int .u8 0,.int .u8 0,.int .u8 0,.int .u8 0,.int .u8 0,.int .u8 0,.int .u8 0,.int .u8 0,.int .u8 0,.int .u8 0,.int .u8 0,.int .u8 0,.int .u8 0,.int .u8 0,.int .u8 0,.int .u8 0,.int .u8 0,.int .u8 0,.int .u8 0,.int .u8 0,.int .u8 0],none⟩).set H1.next (some ⟨zae,(hmac kc [] b).map by8,none⟩)):=(s1.trans (Grow.new _ _)).set (by omega) _;have g2:((H1.new ⟨zae,[.int .u8 0,.int .u8 0,.int .u8 0,.int .u8 0,.int .u8 0,.int .u8 0,.int .u8 0,.int .u8 0,.int .u8 0,.int .u8 0,.int .u8 0,.int .u8 0,.int .u8 0,.int .u8 0,.int .u8 0,.int .u8 0,.int .u8 0,.int .u8 0,.int .u8 0,.int .u8 0,.int .u8 0,.int .u8 0,.int .u8 0,.int .u8 0,.int .u8 0,.int .u8 0,.int .u8 0,.int .u8 0,.int .u8 0,.int .u8 0,.int .u8 0,.int .u8 0],none⟩).set H1.next (some ⟨zae,(hmac kc [] b).map by8,none⟩)).get H1.next = _:=zal _ _ _;have n2:((H1.new ⟨zae,[.int .u8 0,.int .u8 0,.int .u8 0,.int .u8 0,.int .u8 0,.int .u8 0,.int .u8 0,.int .u8 0,.int .u8 0,.int .u8 0,.int .u8 0,.int .u8 0,.int .u8 0,.int .u8 0,.int .u8 0,.int .u8 0,.int .u8 0,.int .u8 0,.int .u8 0,.int .u8 0,.int .u8 0,.int .u8 0,.int .u8 0,.int .u8 0,.int .u8 0,.int .u8 0,.int .u8 0,.int .u8 0,.int .u8 0,.int .u8 0,.int .u8 0,.int .u8 0],none⟩).set H1.next (some ⟨zae,(hmac kc [] b).map by8,none⟩)).next = H1.next + 1:=rfl;generalize hq:H1.next = q at *;generalize Heap.set _ q _ = H2 at *;rw [zaK,← n2];refine zin (l:=sRat) rfl (by decide) fun x6 H6 hx6 s6=>?_;have g6:=(s6.same q (by omega)).trans g2;have n6:=s6.next;refine zag (znm (n:=32) (ze5 (lo:=0) g6 sl (by omega) (by omega)) s8 (by omega) hx6 (all8 rfl) (by decide) (by decide)) ?_;rintro _ H7 ⟨key,rfl,hkey,s7⟩;simp (disch:=omega) only [↓RD,RZ,eq_self,seval];exact ⟨hkey.low (by have:=(s2.trans s6).next; omega),(s2.trans s6).trans s7⟩
theorem zmc {H:Heap} (n:Int):Ok (sem T zcr [.int .i64 n]) H fun r H'=>r = .bool (decide (0 ≤ n ∧ n ≤ 31)) ∧ H' = H:=by
 refine zk6 ?_;unfold zh5 uL uB uG uH uc;by_cases h1:0 ≤ n
 ·have b1:decide (0 ≤ n) = true:=decide_eq_true h1;by_cases h2:n ≤ 31
  ·have b2:decide (n ≤ 31) = true:=decide_eq_true h2;have b3:decide (0 ≤ n ∧ n ≤ 31) = true:=decide_eq_true ⟨h1,h2⟩;simp (disch:=omega) only [↓RD,RZ,b1,b2,b3]
  ·have b2:decide (n ≤ 31) = false:=decide_eq_false h2;have b3:decide (0 ≤ n ∧ n ≤ 31) = false:=decide_eq_false fun h=>h2 h.2;simp (disch:=omega) only [↓RD,RZ,b1,b2,b3]
 ·have b1:decide (0 ≤ n) = false:=decide_eq_false h1;have b3:decide (0 ≤ n ∧ n ≤ 31) = false:=decide_eq_false fun h=>h1 h.1;simp (disch:=omega) only [↓RD,RZ,b1,b3]
theorem zvl {lo:Nat} {H:Heap} {v:V} {l:List Nat} (h:By lo H v l):(v = .nils ∧ l = []) ∨ Ax.eqr .sl false v .nils = some (.bool false):=by
 rcases Lc.cases h with ⟨rfl,h1,h2⟩ | ⟨id,off,cap,b',rfl,hb,hle,hc⟩ | ⟨cs,rfl,_⟩
 ·exact .inl ⟨rfl,List.eq_nil_of_length_eq_zero h2⟩
 ·exact .inr rfl
 ·exact .inr rfl
theorem clone_ok {lo:Nat} {H:Heap} {v:V} {l:List Nat} (hv:By lo H v l) (hl:l.length ≤ 140737488355328):Ok (sem T zdw [v]) H fun r H'=>By H.next H' r l ∧ Grow H H':=by
 refine zjp ?_;unfold zhU uL ub;rcases zvl hv with ⟨rfl,rfl⟩ | e
 ·have e:Ax.eqr .sl false .nils .nils = some (.bool true):=rfl;simp (disch:=omega) only [↓RD,RZ,e];exact ⟨Lc.nil,Grow.refl _⟩
 ·simp (disch:=omega) only [↓RD,RZ,e];rw [zaK];refine znK hv hl fun x0 H0' hx0 s0=>?_;simp (disch:=omega) only [↓RD,RZ];exact ⟨hx0.by,s0⟩
theorem ztp {lo:Nat} {H:Heap} {bv:V} {b:List Nat} {n:Nat} (hb:By lo H bv b) (b8:Ok8 b) (hbl:b.length ≤ 1099511627) (hn:n ≤ 31) :
  Ok (sem T zeo [bv,.int .i64 (n:Nat)]) H fun r H'=>∃ v,r = .tup [v,.int .i64 0] ∧ By H.next H' v (zc0 b n) ∧ Grow H H':=by
 refine zlO ?_;unfold ziS uL uc ug;have hw:=@zbM _ _ _ _ (@zmc H ((n:Nat):Int));have b3:decide (0 ≤ ((n:Nat):Int) ∧ ((n:Nat):Int) ≤ 31) = true:=decide_eq_true (by omega);rw [b3] at hw;simp (disch:=omega) only [↓RD,RZ,hw];refine zag (clone_ok hb (by omega)) ?_;rintro v0 H1 ⟨hv0,s1⟩;simp (disch:=omega) only [↓RD,RZ];refine zas (Q:=fun r H'=>∃ v,r = .ex 0 [v] ∧ By H.next H' v (zc0 b n) ∧ Grow H H') ?_ ?_
 ·refine zaE (fun j L H'=>∃ v,L = [v,.int .i64 (j:Nat)] ∧ By H.next H' v (zc0 b j) ∧ Grow H H') n ?_ ?_ ?_
  ·exact ⟨v0,rfl,hv0,s1⟩
  ·rintro j L H2 hj ⟨v,rfl,hv,s2⟩;have al:=zje (b:=b) (m:=1099511627) hbl (by decide) j;have d1:decide (((j:Nat):Int) < ((n:Nat):Int)) = true:=decide_eq_true (by omega);unfold zfb uB uc ug;simp (disch:=omega) only [↓RD,RZ,d1];refine zag (zux hv (zmb b8 j) (by omega)) ?_;rintro v2 H3 ⟨hv2,s3⟩;simp (disch:=omega) only [↓RD,RZ];exact ⟨v2,rfl,hv2.low s2.next,s2.trans s3⟩
  ·rintro L H2 ⟨v,rfl,hv,s2⟩;have d1:decide (((n:Nat):Int) < ((n:Nat):Int)) = false:=decide_eq_false (by omega);unfold zfb uB uc ug;simp (disch:=omega) only [↓RD,RZ,d1];exact ⟨v,rfl,hv,s2⟩
 ·rintro _ H2 ⟨v,rfl,hv,s2⟩;simp (disch:=omega) only [↓RD,RZ];exact ⟨v,rfl,hv,s2⟩
end Go.Ax.SU
/- Lk3 -/
namespace Go.Ax.SU
open Go.Ax
def bl (n:Nat):Nat:=if n = 0 then 0 else n.log2 + 1
theorem bl_div (n:Nat) (h:0 < n):bl n = bl (n / 2) + 1:=by
 unfold bl;rw [if_neg (by omega)];by_cases e:n / 2 = 0
 ·rw [if_pos e];have:n = 1:=by omega
  subst this; rfl
 ·rw [if_neg e,Nat.log2_def,if_pos (by omega)]
theorem lt_bl (n:Nat):n < 2 ^ bl n:=by
 unfold bl;split
 ·omega
 ·exact Nat.lt_log2_self
theorem bl_le (n:Nat) (h:0 < n):2 ^ (bl n - 1) ≤ n:=by
 unfold bl;rw [if_neg (by omega)];exact Nat.log2_self_le (by omega)
theorem zdt (n k:Nat):bl n ≤ k ↔ n < 2 ^ k:=by
 constructor
 ·intro h; exact Nat.lt_of_lt_of_le (lt_bl n) (Nat.pow_le_pow_right (by decide) h)
 ·intro h;by_cases h0:n = 0
  ·subst h0; simp [bl]
  ·by_cases hk:bl n ≤ k
   ·exact hk
   ·have h1:=bl_le n (by omega);have:2 ^ k ≤ 2 ^ (bl n - 1):=Nat.pow_le_pow_right (by decide) (by omega);omega
theorem zlp (x:Nat) (h:x < 256):Ax.sindex (.str zcL) (.int .u8 (x:Int)) = some (.int .u8 (bl x:Nat)):=by
 have key:∀ y:Fin 256,(zcL[y.val]?).map UInt8.toNat = some (bl y.val):=by decide +kernel
 have:=key ⟨x,h⟩;simp only [Ax.sindex];rw [if_pos (by omega)];simp only [Int.toNat_natCast];cases ht:zcL[x]? with
 | none=>rw [ht] at this; cases this
 | some b=>rw [ht] at this; simp only [Option.map_some,Option.some.injEq] at this ⊢; rw [this]
theorem zrb (n k m:Nat) (hm:m = 2 ^ k) (h:0 < n / m):bl n = bl (n / m) + k:=by
 subst hm
 induction k with
 | zero=>simp
 | succ k ih =>
  have e:n / 2 ^ (k + 1) = (n / 2 ^ k) / 2:=by rw [Nat.pow_succ,Nat.div_div_eq_div_mul]
  rw [e] at h ⊢;have h':0 < n / 2 ^ k:=by omega
  rw [ih h',bl_div _ h']; omega
theorem len64 (n:Nat) (h:n < 18446744073709551616):sem T zdF [.int .u64 n] = M.pure (.int .i64 (bl n:Nat)):=by
 refine zdv fun H=>?_;refine zkk ?_;unfold zhr uL uB uc uq ug;simp (disch:=omega) only [↓RD,RZ];refine zbw (fun h1=>?_) (fun h1=>?_)
 ·have b1:=zrb n 32 4294967296 rfl (by omega);simp (disch:=omega) only [↓RD,RZ,eq_self,seval];refine zbw (fun h2=>?_) (fun h2=>?_)
  ·have b2:=zrb (n / 4294967296) 16 65536 rfl (by omega);simp (disch:=omega) only [↓RD,RZ,eq_self,seval];refine zbw (fun h3=>?_) (fun h3=>?_)
   ·have b3:=zrb (n / 4294967296 / 65536) 8 256 rfl (by omega);have b8:bl (n / 4294967296 / 65536 / 256) ≤ 8:=(zdt _ 8).2 (by omega);simp (disch:=omega) only [↓RD,RZ,eq_self,seval,zlp];congr 1; omega
   ·have b8:bl (n / 4294967296 / 65536) ≤ 8:=(zdt _ 8).2 (by omega);simp (disch:=omega) only [↓RD,RZ,zlp];congr 1; omega
  ·simp (disch:=omega) only [↓RD,RZ];refine zbw (fun h3=>?_) (fun h3=>?_)
   ·have b3:=zrb (n / 4294967296) 8 256 rfl (by omega);have b8:bl (n / 4294967296 / 256) ≤ 8:=(zdt _ 8).2 (by omega);simp (disch:=omega) only [↓RD,RZ,eq_self,seval,zlp];congr 1; omega
   ·have b8:bl (n / 4294967296) ≤ 8:=(zdt _ 8).2 (by omega);simp (disch:=omega) only [↓RD,RZ,zlp];congr 1; omega
 ·simp (disch:=omega) only [↓RD,RZ];refine zbw (fun h2=>?_) (fun h2=>?_)
  ·have b2:=zrb n 16 65536 rfl (by omega);simp (disch:=omega) only [↓RD,RZ,eq_self,seval];refine zbw (fun h3=>?_) (fun h3=>?_)
   ·have b3:=zrb (n / 65536) 8 256 rfl (by omega);have b8:bl (n / 65536 / 256) ≤ 8:=(zdt _ 8).2 (by omega);simp (disch:=omega) only [↓RD,RZ,eq_self,seval,zlp];congr 1; omega
   ·have b8:bl (n / 65536) ≤ 8:=(zdt _ 8).2 (by omega);simp (disch:=omega) only [↓RD,RZ,zlp];congr 1; omega
  ·simp (disch:=omega) only [↓RD,RZ];refine zbw (fun h3=>?_) (fun h3=>?_)
   ·have b3:=zrb n 8 256 rfl (by omega);have b8:bl (n / 256) ≤ 8:=(zdt _ 8).2 (by omega);simp (disch:=omega) only [↓RD,RZ,eq_self,seval,zlp];congr 1; omega
   ·have b8:bl (n) ≤ 8:=(zdt _ 8).2 (by omega);simp (disch:=omega) only [↓RD,RZ,zlp];congr 1; omega
def wsv (w:WS):V:=.agg [.bool w.1,.int .u64 (w.2.1:Nat),.int .u64 (w.2.2:Nat)]
def wsR (w:WS):Prop:=w.2.1 < 18446744073709551616 ∧ w.2.2 < 18446744073709551616
def zgk (w:WS):Bool:=if w.1 then decide (w.2.2 % 2 = 1) && decide (bl w.2.2 ≤ w.2.1 + 1) else decide (w.2.1 = 0) && decide (w.2.2 = 0)
def mayW (w:WS) (n:Nat):Nat:=if zgk w = false then 1 else if w.1 = false ∨ w.2.1 < n then 0 else if 64 ≤ w.2.1 - n ∨ shr w.2.2 (w.2.1 - n) % 2 = 1 then 9 else 0
def ze9 (w:WS) (n:Nat):WS:=if w.1 = false then (true,n,1) else if w.2.1 < n then (true,n,w.2.2 * 2 ^ min (n - w.2.1) 64 % 18446744073709551616 ||| 1) else (true,w.2.1,w.2.2 ||| 2 ^ (w.2.1 - n))
theorem zu4 {H:Heap} {w:WS} (hw:wsR w):Ok (sem T zfj [wsv w]) H fun r H'=>r = .bool (zgk w) ∧ Grow H H':=by
 refine znw ?_;unfold zkD uL uS uFM uB uG uH uO uU uq;obtain ⟨a,hi,se⟩:=w;obtain ⟨h1,h2⟩:=hw;dsimp only at h1 h2;have s1:=Grow.new H ⟨zat,[.bool a,.int .u64 (hi:Nat),.int .u64 (se:Nat)],none⟩;unfold wsv;cases a with
 | false =>
  have e:Ax.eqr (.st [.bool,.int,.int]) false (.agg [.bool false,.int .u64 (hi:Nat),.int .u64 (se:Nat)]) (.agg [.bool false,.int .u64 0,.int .u64 0]) = some (.bool (zgk (false,hi,se))):=by
   have d1:(((hi:Nat):Int) == 0) = decide (hi = 0):=by
    by_cases h:hi = 0
    ·subst h; rfl
    ·rw [decide_eq_false h]; have:¬ ((hi:Nat):Int) = 0:=by omega
     simpa using this
   have d2:(((se:Nat):Int) == 0) = decide (se = 0):=by
    by_cases h:se = 0
    ·subst h; rfl
    ·rw [decide_eq_false h]; have:¬ ((se:Nat):Int) = 0:=by omega
     simpa using this
   simp only [Ax.eqr,eqv,zdY,if_true,Option.map_some,zgk,Bool.false_eq_true,if_false,beq_self_eq_true,Bool.true_and,Bool.and_true,d1,d2]
  simp (disch:=first | omega | (simp only [RY] <;> omega) | decide) only [↓RD,RZ,Nat.reduceAdd,e];exact s1
 | true =>
  have hb:=len64 se h2;have l1:bl se ≤ 64:=(zdt _ _).2 (by omega);by_cases h:se % 2 = 1
  ·have c1:(((se &&& 1:Nat):Int) == 1) = true:=by rw [Nat.and_one_is_mod,h]; rfl
   have b1:1 ≤ bl se:=by
    have:=(zdt se 0);omega
   have w1:IntKind.u64.wrap ((bl se:Nat):Int) = ((bl se:Nat):Int):=by rw [wrap_u64]; omega
   have w2:IntKind.u64.wrap (((bl se:Nat):Int) - 1) = ((bl se - 1:Nat):Int):=by rw [wrap_u64]; omega
   have g:zgk (true,hi,se) = decide (bl se - 1 ≤ hi):=by
    simp only [zgk,if_true,h,decide_true,Bool.true_and];exact decide_eq_decide.2 (by omega)
   have d:decide (((bl se - 1:Nat):Int) ≤ ((hi:Nat):Int)) = decide (bl se - 1 ≤ hi):=decide_eq_decide.2 (by omega);simp (disch:=first | omega | (simp only [RY] <;> omega) | decide) only [↓RD,RZ,eq_self,seval,c1,hb,w1,w2,g,d];exact s1
  ·have c1:(((se &&& 1:Nat):Int) == 1) = false:=by rw [Nat.and_one_is_mod,show se % 2 = 0 by omega]; rfl
   have g:zgk (true,hi,se) = false:=by simp only [zgk,if_true,decide_eq_false h,Bool.false_and]
   simp (disch:=first | omega | (simp only [RY] <;> omega) | decide) only [↓RD,RZ,eq_self,seval,c1,g];exact s1
end Go.Ax.SU
/- Lk4 -/
namespace Go.Ax.SU
open Go.Ax
theorem zrS {H:Heap} {w:WS} {n:Nat} (hw:wsR w) (hn:n < 18446744073709551616):Ok (sem T zeH [wsv w,.int .u64 (n:Nat)]) H fun r H'=>r = .int .i64 (mayW w n:Nat) ∧ Grow H H':=by
 refine zoy ?_;unfold zlC uL uS uFM uB uG uH uO uc uq;have hgw:=fun H=>@zu4 H w hw;obtain ⟨a,hi,se⟩:=w;obtain ⟨h1,h2⟩:=hw;dsimp only at h1 h2;have s1:=Grow.new H ⟨zat,[.bool a,.int .u64 (hi:Nat),.int .u64 (se:Nat)],none⟩;have g1:(H.new ⟨zat,[.bool a,.int .u64 (hi:Nat),.int .u64 (se:Nat)],none⟩).get H.next = some ⟨zat,[.bool a,.int .u64 (hi:Nat),.int .u64 (se:Nat)],none⟩:=zab _ _;have n1:(H.new ⟨zat,[.bool a,.int .u64 (hi:Nat),.int .u64 (se:Nat)],none⟩).next = H.next + 1:=zaf _ _;unfold wsv;dsimp only;simp (maxSteps:=1000000) (disch:=first | omega | (simp only [RY] <;> omega) | decide) only [↓RD,RZ,eq_self,Int.reduceToNat,Int.reduceAdd,Int.reduceSub,Int.reduceMul,Nat.reduceAdd,Nat.reduceSub,Nat.reduceMul,Nat.reduceDiv,Nat.reduceMod,Nat.reduceBEq,Nat.reduceLeDiff];generalize hq:H.next = q at *;generalize H.new _ = H1 at *;refine zag (hgw H1) ?_;rintro _ H2 ⟨rfl,s2⟩;have g2:=(s2.same q (by omega)).trans g1;have s12:=s1.trans s2;cases hg:zgk (a,hi,se) with
 | false =>
  have e:mayW (a,hi,se) n = 1:=by simp only [mayW,hg,if_true]
  simp (maxSteps:=1000000) (disch:=first | omega | (simp only [RY] <;> omega) | decide) only [↓RD,RZ,eq_self,Int.reduceToNat,Int.reduceAdd,Int.reduceSub,Int.reduceMul,Nat.reduceAdd,Nat.reduceSub,Nat.reduceMul,Nat.reduceDiv,Nat.reduceMod,Nat.reduceBEq,Nat.reduceLeDiff,e];exact ⟨rfl,s12⟩
 | true =>
  cases a with
  | false =>
   have e:mayW (false,hi,se) n = 0:=by simp [mayW,hg]
   simp (maxSteps:=1000000) (disch:=first | omega | (simp only [RY] <;> omega) | decide) only [↓RD,RZ,eq_self,Int.reduceToNat,Int.reduceAdd,Int.reduceSub,Int.reduceMul,Nat.reduceAdd,Nat.reduceSub,Nat.reduceMul,Nat.reduceDiv,Nat.reduceMod,Nat.reduceBEq,Nat.reduceLeDiff,g2,e];exact ⟨rfl,s12⟩
  | true =>
   by_cases h3:hi < n
   ·have e:mayW (true,hi,se) n = 0:=by simp [mayW,hg,h3]
    have d:decide (hi < n) = true:=decide_eq_true h3;simp (maxSteps:=1000000) (disch:=first | omega | (simp only [RY] <;> omega) | decide) only [↓RD,RZ,eq_self,Int.reduceToNat,Int.reduceAdd,Int.reduceSub,Int.reduceMul,Nat.reduceAdd,Nat.reduceSub,Nat.reduceMul,Nat.reduceDiv,Nat.reduceMod,Nat.reduceBEq,Nat.reduceLeDiff,g2,d,e];exact ⟨rfl,s12⟩
   ·have d:decide (hi < n) = false:=decide_eq_false h3;have w1:IntKind.u64.wrap (((hi:Nat):Int) - ((n:Nat):Int)) = ((hi - n:Nat):Int):=by rw [wrap_u64]; omega
    by_cases h4:64 ≤ hi - n
    ·have e:mayW (true,hi,se) n = 9:=by simp [mayW,hg,h3,h4]
     have d4:decide (64 ≤ hi - n) = true:=decide_eq_true h4;have d4':decide ((64:Int) ≤ ((hi - n:Nat):Int)) = true:=decide_eq_true (by omega);simp (maxSteps:=1000000) (disch:=first | omega | (simp only [RY] <;> omega) | decide) only [↓RD,RZ,eq_self,Int.reduceToNat,Int.reduceAdd,Int.reduceSub,Int.reduceMul,Nat.reduceAdd,Nat.reduceSub,Nat.reduceMul,Nat.reduceDiv,Nat.reduceMod,Nat.reduceBEq,Nat.reduceLeDiff,g2,d,w1,d4,d4',e];exact ⟨rfl,s12⟩
    ·have hb:shr se (hi - n) < 18446744073709551616:=Nat.lt_of_le_of_lt (zrE _ _) h2;have d4:decide (64 ≤ hi - n) = false:=decide_eq_false h4;have d4':decide ((64:Int) ≤ ((hi - n:Nat):Int)) = false:=decide_eq_false (by omega);by_cases h5:shr se (hi - n) % 2 = 1
     ·have e:mayW (true,hi,se) n = 9:=by simp [mayW,hg,h3,h5]
      have c1:(((shr se (hi - n) &&& 1:Nat):Int) == 1) = true:=by rw [Nat.and_one_is_mod,h5]; rfl
      simp (maxSteps:=1000000) (disch:=first | omega | (simp only [RY] <;> omega) | decide) only [↓RD,RZ,eq_self,Int.reduceToNat,Int.reduceAdd,Int.reduceSub,Int.reduceMul,Nat.reduceAdd,Nat.reduceSub,Nat.reduceMul,Nat.reduceDiv,Nat.reduceMod,Nat.reduceBEq,Nat.reduceLeDiff,g2,d,w1,d4,d4',c1,e];exact ⟨rfl,s12⟩
     ·have e:mayW (true,hi,se) n = 0:=by simp [mayW,hg,h3,h4,h5]
      have c1:(((shr se (hi - n) &&& 1:Nat):Int) == 1) = false:=by rw [Nat.and_one_is_mod,show shr se (hi - n) % 2 = 0 by omega]; rfl
      simp (maxSteps:=1000000) (disch:=first | omega | (simp only [RY] <;> omega) | decide) only [↓RD,RZ,eq_self,Int.reduceToNat,Int.reduceAdd,Int.reduceSub,Int.reduceMul,Nat.reduceAdd,Nat.reduceSub,Nat.reduceMul,Nat.reduceDiv,Nat.reduceMod,Nat.reduceBEq,Nat.reduceLeDiff,g2,d,w1,d4,d4',c1,e];exact ⟨rfl,s12⟩
theorem zoE {w:WS} {n:Nat} (h:mayW w n = 0) (ha:w.1 = true) (hn:¬ w.2.1 < n):¬ 64 ≤ w.2.1 - n:=by
 intro h4;unfold mayW at h;split at h
 ·cases h
 ·rw [if_neg (by simp [ha,hn]),if_pos (.inl h4)] at h;cases h
theorem shl_u64 {a k:Nat}:Ax.bin .shl (.int .u64 (a:Nat)) (.int .u64 (k:Nat)) = some (.int .u64 (a * 2 ^ min k 64 % 18446744073709551616:Nat)):=by
 have h0:¬ ((k:Nat):Int) < 0:=by omega
 simp only [Ax.bin,if_neg h0,wrap_u64,Int.toNat_natCast];have:((a:Nat):Int) * 2 ^ min k 64 = ((a * 2 ^ min k 64:Nat):Int):=by push_cast; rfl
 show some (V.int .u64 (((a:Nat):Int) * 2 ^ min k 64 % 18446744073709551616)) = _;rw [this];rfl
theorem zuI {H:Heap} {w:WS} {n:Nat} (hw:wsR w) (hn:n < 18446744073709551616):Ok (sem T zfi [wsv w,.int .u64 (n:Nat)]) H fun r H'=>Grow H H' ∧ (mayW w n = 0 → r = .tup [wsv (ze9 w n),.int .i64 0]) ∧ (mayW w n ≠ 0 → r = .tup [wsv (false,0,0),.int .i64 (mayW w n:Nat)]):=by
 refine znv ?_;unfold zkC uL uS uT uF uFM uB uO uc uq;have hgw:=fun H=>@zrS H w n hw hn;obtain ⟨a,hi,se⟩:=w;obtain ⟨h1,h2⟩:=hw;dsimp only at h1 h2;have s0:=Grow.new H ⟨zat,[.bool a,.int .u64 (hi:Nat),.int .u64 (se:Nat)],none⟩;have g0:(H.new ⟨zat,[.bool a,.int .u64 (hi:Nat),.int .u64 (se:Nat)],none⟩).get H.next = some ⟨zat,[.bool a,.int .u64 (hi:Nat),.int .u64 (se:Nat)],none⟩:=zab _ _;have n0:(H.new ⟨zat,[.bool a,.int .u64 (hi:Nat),.int .u64 (se:Nat)],none⟩).next = H.next + 1:=zaf _ _;unfold wsv;dsimp only;refine zao (zaQ rfl ?_);rw [zaj];generalize hq:H.next = q at *;generalize H.new _ = H0 at *;refine zao (zaQ rfl ?_);rw [zaj];have s1:=s0.trans (Grow.new H0 ⟨zat,[.bool false,.int .u64 0,.int .u64 0],none⟩);have g1:=(zaX H0 ⟨zat,[.bool false,.int .u64 0,.int .u64 0],none⟩ (i:=q) (by omega)).trans g0;have p1:(H0.new ⟨zat,[.bool false,.int .u64 0,.int .u64 0],none⟩).get H0.next = some ⟨zat,[.bool false,.int .u64 0,.int .u64 0],none⟩:=zab _ _;have n1:(H0.new ⟨zat,[.bool false,.int .u64 0,.int .u64 0],none⟩).next = q + 2:=by rw [zaf,n0]
 rw [n0] at *;generalize H0.new _ = H1 at *;simp (maxSteps:=1000000) (disch:=first | omega | (simp only [RY] <;> omega) | decide) only [↓RD,RZ,eq_self,Int.reduceToNat,Int.reduceAdd,Int.reduceSub,Int.reduceMul,Nat.reduceAdd,Nat.reduceSub,Nat.reduceMul,Nat.reduceDiv,Nat.reduceMod,Nat.reduceBEq,Nat.reduceLeDiff,g1];refine zag (hgw H1) ?_;rintro _ H2 ⟨rfl,s2⟩;have g2:=(s2.same q (by omega)).trans g1;have p2:=(s2.same (q + 1) (by omega)).trans p1;have s12:=s1.trans s2;have n2:=s2.next;have fin:∀ b,Grow H (H2.set (q + 1) b):=fun b=>s12.set (by omega) b;have fin2:∀ b b',Grow H ((H2.set q b).set (q + 1) b'):=fun b b'=>(s12.set (by omega) b).set (by omega) b';by_cases hm:mayW (a,hi,se) n = 0
 ·have e0:(((mayW (a,hi,se) n:Nat):Int) != 0) = false:=by rw [hm]; rfl
  cases a with
  | false =>
   have em:ze9 (false,hi,se) n = (true,n,1):=rfl;simp (maxSteps:=1000000) (disch:=first | omega | (simp only [RY] <;> omega) | decide) only [↓RD,RZ,eq_self,Int.reduceToNat,Int.reduceAdd,Int.reduceSub,Int.reduceMul,Nat.reduceAdd,Nat.reduceSub,Nat.reduceMul,Nat.reduceDiv,Nat.reduceMod,Nat.reduceBEq,Nat.reduceLeDiff,e0,g2,p2];exact ⟨fin _,fun _=>by rw [em]; rfl,fun h=>absurd hm h⟩
  | true =>
   by_cases h3:hi < n
   ·have em:ze9 (true,hi,se) n = (true,n,se * 2 ^ min (n - hi) 64 % 18446744073709551616 ||| 1):=by simp [ze9,h3]
    have d:decide (hi < n) = true:=decide_eq_true h3;have w1:IntKind.u64.wrap (((n:Nat):Int) - ((hi:Nat):Int)) = ((n - hi:Nat):Int):=by rw [wrap_u64]; omega
    have sh:=@shl_u64 se (n - hi);have hb:se * 2 ^ min (n - hi) 64 % 18446744073709551616 < 18446744073709551616:=Nat.mod_lt _ (by decide);generalize se * 2 ^ min (n - hi) 64 % 18446744073709551616 = z at *;simp (maxSteps:=1000000) (disch:=first | omega | (simp only [RY] <;> omega) | decide) only [↓RD,RZ,eq_self,Int.reduceToNat,Int.reduceAdd,Int.reduceSub,Int.reduceMul,Nat.reduceAdd,Nat.reduceSub,Nat.reduceMul,Nat.reduceDiv,Nat.reduceMod,Nat.reduceBEq,Nat.reduceLeDiff,e0,g2,p2,d,w1,sh];exact ⟨fin _,fun _=>by rw [em],fun h=>absurd hm h⟩
   ·have d:decide (hi < n) = false:=decide_eq_false h3;have h4:¬ 64 ≤ hi - n:=zoE hm rfl h3;have em:ze9 (true,hi,se) n = (true,hi,se ||| 2 ^ (hi - n)):=by simp [ze9,h3]
    have w1:IntKind.u64.wrap (((hi:Nat):Int) - ((n:Nat):Int)) = ((hi - n:Nat):Int):=by rw [wrap_u64]; omega
    have sh:Ax.bin .shl (.int .u64 1) (.int .u64 (hi - n:Nat)) = some (.int .u64 (2 ^ (hi - n):Nat)):=by
     have:=@shl_u64 1 (hi - n);rw [Nat.one_mul,Nat.min_eq_left (by omega),Nat.mod_eq_of_lt (Nat.lt_of_lt_of_le (Nat.pow_lt_pow_right (by decide) (show hi - n < 64 by omega)) (by decide))] at this;exact this
    have hb:2 ^ (hi - n) < 18446744073709551616:=Nat.lt_of_lt_of_le (Nat.pow_lt_pow_right (by decide) (show hi - n < 64 by omega)) (by decide);generalize 2 ^ (hi - n) = z at *;simp (maxSteps:=1000000) (disch:=first | omega | (simp only [RY] <;> omega) | decide) only [↓RD,RZ,eq_self,Int.reduceToNat,Int.reduceAdd,Int.reduceSub,Int.reduceMul,Nat.reduceAdd,Nat.reduceSub,Nat.reduceMul,Nat.reduceDiv,Nat.reduceMod,Nat.reduceBEq,Nat.reduceLeDiff,e0,g2,p2,d,w1,sh];exact ⟨fin2 _ _,fun _=>by rw [em],fun h=>absurd hm h⟩
 ·have e0:(((mayW (a,hi,se) n:Nat):Int) != 0) = true:=by
   have:¬ ((mayW (a,hi,se) n:Nat):Int) = 0:=by omega
   simpa using this
  simp (maxSteps:=1000000) (disch:=first | omega | (simp only [RY] <;> omega) | decide) only [↓RD,RZ,eq_self,Int.reduceToNat,Int.reduceAdd,Int.reduceSub,Int.reduceMul,Nat.reduceAdd,Nat.reduceSub,Nat.reduceMul,Nat.reduceDiv,Nat.reduceMod,Nat.reduceBEq,Nat.reduceLeDiff,e0,p2];exact ⟨fin _,fun h=>absurd h hm,fun _=>rfl⟩
end Go.Ax.SU
/- Lk20 -/
namespace Go.Ax.SU
open Go.Ax
abbrev tyRW:=za3
theorem zu5 {H : Heap} {w : WS} (hw : wsR w) : Ok (sem T zbu [wsv w]) H fun r H' => r = .bool (zgk w) ∧ Grow H H' := by
  refine zf0 ?_
  unfold zdV uL uFM uB uG uH uO uq
  obtain ⟨a, hi, se⟩ := w
  obtain ⟨h1, h2⟩ := hw
  dsimp only at h1 h2
  have s1 := Grow.new H ⟨tyRW, [.bool a, .int .u64 (hi : Nat), .int .u64 (se : Nat)], none⟩
  have g1 : (H.new ⟨tyRW, [.bool a, .int .u64 (hi : Nat), .int .u64 (se : Nat)], none⟩).get H.next = some ⟨tyRW, [.bool a, .int .u64 (hi : Nat), .int .u64 (se : Nat)], none⟩ := zab _ _
  unfold wsv
  dsimp only
  cases a with
  | false =>
    by_cases h : hi = 0
    · subst h
      have d2 : (((se : Nat) : Int) == 0) = decide (se = 0) := by
        by_cases h : se = 0
        · subst h; rfl
        · rw [decide_eq_false h]; have : ¬ ((se : Nat) : Int) = 0 := by omega
          simpa using this
      have g : zgk (false, 0, se) = decide (se = 0) := by simp [zgk]
      have d2' : (se == 0) = decide (se = 0) := by by_cases h : se = 0 <;> simp [h]
      simp (disch := omega) only [↓RD, RZ, g1, d2, d2', g]
      exact s1
    · have d1 : (((hi : Nat) : Int) == 0) = false := by have : ¬ ((hi : Nat) : Int) = 0 := by omega
                                                        simpa using this
      have d1' : (hi == 0) = false := by simpa using h
      have g : zgk (false, hi, se) = false := by simp [zgk, h]
      simp (disch := omega) only [↓RD, RZ, g1, d1, d1', g]
      exact s1
  | true =>
    by_cases h : se % 2 = 1
    · have c1 : (((se &&& 1 : Nat) : Int) == 1) = true := by rw [Nat.and_one_is_mod, h]; rfl
      by_cases h63 : 63 ≤ hi
      · have d : decide ((63 : Int) ≤ ((hi : Nat) : Int)) = true := decide_eq_true (by omega)
        have d' : decide (63 ≤ hi) = true := decide_eq_true h63
        have l1 : bl se ≤ 64 := (zdt _ _).2 (by omega)
        have g : zgk (true, hi, se) = true := by simp only [zgk, if_true, h, decide_true, Bool.true_and]; exact decide_eq_true (by omega)
        simp (maxSteps := 1000000) (disch := first | omega | (simp only [RY] <;> omega) | decide) only [↓RD, RZ, eq_self, Int.reduceToNat, Int.reduceAdd, Int.reduceSub, Int.reduceMul, Nat.reduceAdd, Nat.reduceSub, Nat.reduceMul, Nat.reduceDiv, Nat.reduceMod, Nat.reduceBEq, Nat.reduceLeDiff, g1, c1, d, d', g]
        exact s1
      · have d : decide ((63 : Int) ≤ ((hi : Nat) : Int)) = false := decide_eq_false (by omega)
        have d' : decide (63 ≤ hi) = false := decide_eq_false h63
        have w1 : IntKind.u64.wrap (((hi : Nat) : Int) + 1) = ((hi + 1 : Nat) : Int) := by rw [wrap_u64]; omega
        have g : zgk (true, hi, se) = decide (bl se ≤ hi + 1) := by simp only [zgk, if_true, h, decide_true, Bool.true_and]
        have e : decide (shr se (hi + 1) = 0) = decide (bl se ≤ hi + 1) := decide_eq_decide.2 (by
          rw [zdt, shr_pow, Nat.div_eq_zero_iff]
          have : 0 < 2 ^ (hi + 1) := Nat.pow_pos (by decide)
          omega)
        have e2 : (((shr se (hi + 1) : Nat) : Int) == 0) = decide (bl se ≤ hi + 1) := by
          rw [← e]
          by_cases h : shr se (hi + 1) = 0
          · rw [h]; rfl
          · rw [decide_eq_false h]; have : ¬ ((shr se (hi + 1) : Nat) : Int) = 0 := by omega
            simpa using this
        have e3 : (shr se (hi + 1) == 0) = decide (bl se ≤ hi + 1) := by
          rw [← e]
          by_cases h : shr se (hi + 1) = 0 <;> simp [h]
        simp (maxSteps := 1000000) (disch := first | omega | (simp only [RY] <;> omega) | decide) only [↓RD, RZ, eq_self, Int.reduceToNat, Int.reduceAdd, Int.reduceSub, Int.reduceMul, Nat.reduceAdd, Nat.reduceSub, Nat.reduceMul, Nat.reduceDiv, Nat.reduceMod, Nat.reduceBEq, Nat.reduceLeDiff, g1, c1, d, d', w1, e2, e3, g]
        exact s1
    · have c1 : (((se &&& 1 : Nat) : Int) == 1) = false := by rw [Nat.and_one_is_mod, show se % 2 = 0 by omega]; rfl
      have g : zgk (true, hi, se) = false := by simp only [zgk, if_true, decide_eq_false h, Bool.false_and]
      simp (maxSteps := 1000000) (disch := first | omega | (simp only [RY] <;> omega) | decide) only [↓RD, RZ, eq_self, Int.reduceToNat, Int.reduceAdd, Int.reduceSub, Int.reduceMul, Nat.reduceAdd, Nat.reduceSub, Nat.reduceMul, Nat.reduceDiv, Nat.reduceMod, Nat.reduceBEq, Nat.reduceLeDiff, g1, c1, g]
      exact s1
theorem may_r_ok {H:Heap} {w:WS} {n:Nat} (hw:wsR w) (hn:n < 18446744073709551616):Ok (sem T zcP [wsv w,.int .u64 (n:Nat)]) H fun r H'=>r = .int .i64 (mayW w n:Nat) ∧ Grow H H':=by
 refine ziy ?_;unfold zfR uL uS uFM uG uH uO uc uq;have hgw:=fun H=>@zu5 H w hw;obtain ⟨a,hi,se⟩:=w;obtain ⟨h1,h2⟩:=hw;dsimp only at h1 h2;have s1:=Grow.new H ⟨tyRW,[.bool a,.int .u64 (hi:Nat),.int .u64 (se:Nat)],none⟩;have g1:(H.new ⟨tyRW,[.bool a,.int .u64 (hi:Nat),.int .u64 (se:Nat)],none⟩).get H.next = some ⟨tyRW,[.bool a,.int .u64 (hi:Nat),.int .u64 (se:Nat)],none⟩:=zab _ _;have n1:(H.new ⟨tyRW,[.bool a,.int .u64 (hi:Nat),.int .u64 (se:Nat)],none⟩).next = H.next + 1:=zaf _ _;unfold wsv;dsimp only;refine zao (zaQ rfl ?_);rw [zaj];generalize hq:H.next = q at *;generalize H.new _ = H1 at *;simp (disch:=first | omega | (simp only [RY] <;> omega) | decide) only [↓RD,RZ,Nat.reduceAdd,g1];refine zag (hgw H1) ?_;rintro _ H2 ⟨rfl,s2⟩;have g2:=(s2.same q (by omega)).trans g1;have s12:=s1.trans s2;cases hg:zgk (a,hi,se) with
 | false =>
  have e:mayW (a,hi,se) n = 1:=by simp only [mayW,hg,if_true]
  simp (disch:=omega) only [↓RD,RZ,e];exact ⟨rfl,s12⟩
 | true =>
  cases a with
  | false =>
   have e:mayW (false,hi,se) n = 0:=by simp [mayW,hg]
   simp (disch:=omega) only [↓RD,RZ,g2,e];exact ⟨rfl,s12⟩
  | true =>
   by_cases h3:hi < n
   ·have e:mayW (true,hi,se) n = 0:=by simp [mayW,hg,h3]
    have d:decide (((n:Nat):Int) ≤ ((hi:Nat):Int)) = false:=decide_eq_false (by omega);have d':decide (n ≤ hi) = false:=decide_eq_false (by omega);simp (disch:=omega) only [↓RD,RZ,g2,d,d',e];exact ⟨rfl,s12⟩
   ·have d:decide (((n:Nat):Int) ≤ ((hi:Nat):Int)) = true:=decide_eq_true (by omega);have d':decide (n ≤ hi) = true:=decide_eq_true (by omega);have w1:IntKind.u64.wrap (((hi:Nat):Int) - ((n:Nat):Int)) = ((hi - n:Nat):Int):=by rw [wrap_u64]; omega
    by_cases h4:64 ≤ hi - n
    ·have e:mayW (true,hi,se) n = 9:=by simp [mayW,hg,h3,h4]
     have d4:decide (64 ≤ hi - n) = true:=decide_eq_true h4;have d4':decide ((64:Int) ≤ ((hi - n:Nat):Int)) = true:=decide_eq_true (by omega);simp (disch:=omega) only [↓RD,RZ,g2,d,d',w1,d4,d4',e];exact ⟨rfl,s12⟩
    ·have hb:shr se (hi - n) < 18446744073709551616:=Nat.lt_of_le_of_lt (zrE _ _) h2;have d4:decide (64 ≤ hi - n) = false:=decide_eq_false h4;have d4':decide ((64:Int) ≤ ((hi - n:Nat):Int)) = false:=decide_eq_false (by omega);by_cases h5:shr se (hi - n) % 2 = 1
     ·have e:mayW (true,hi,se) n = 9:=by simp [mayW,hg,h3,h5]
      have c1:(((shr se (hi - n) &&& 1:Nat):Int) == 1) = true:=by rw [Nat.and_one_is_mod,h5]; rfl
      simp (maxSteps:=1000000) (disch:=first | omega | (simp only [RY] <;> omega) | decide) only [↓RD,RZ,eq_self,Int.reduceToNat,Int.reduceAdd,Int.reduceSub,Int.reduceMul,Nat.reduceAdd,Nat.reduceSub,Nat.reduceMul,Nat.reduceDiv,Nat.reduceMod,Nat.reduceBEq,Nat.reduceLeDiff,g2,d,d',w1,d4,d4',c1,e];exact ⟨rfl,s12⟩
     ·have e:mayW (true,hi,se) n = 0:=by simp [mayW,hg,h3,h4,h5]
      have c1:(((shr se (hi - n) &&& 1:Nat):Int) == 1) = false:=by rw [Nat.and_one_is_mod,show shr se (hi - n) % 2 = 0 by omega]; rfl
      simp (maxSteps:=1000000) (disch:=first | omega | (simp only [RY] <;> omega) | decide) only [↓RD,RZ,eq_self,Int.reduceToNat,Int.reduceAdd,Int.reduceSub,Int.reduceMul,Nat.reduceAdd,Nat.reduceSub,Nat.reduceMul,Nat.reduceDiv,Nat.reduceMod,Nat.reduceBEq,Nat.reduceLeDiff,g2,d,d',w1,d4,d4',c1,e];exact ⟨rfl,s12⟩
theorem mayW_hi {hi se:Nat} (h:mayW (true,hi,se) hi = 0):False:=by
 unfold mayW at h;split at h
 ·cases h
 ·rename_i hg;have hg:zgk (true,hi,se) = true:=by simpa using hg
  rw [if_neg (by simp)] at h;simp only [zgk,if_true,Bool.and_eq_true,decide_eq_true_eq] at hg;rw [if_pos (.inr (by simp only [Nat.sub_self,shr_0]; exact hg.1))] at h;cases h
theorem zuJ {H:Heap} {w:WS} {n:Nat} (hw:wsR w) (hn:n < 18446744073709551616):Ok (sem T zcD [wsv w,.int .u64 (n:Nat)]) H fun r H'=>Grow H H' ∧ (mayW w n = 0 → r = .tup [wsv (ze9 w n),.int .i64 0]) ∧ (mayW w n ≠ 0 → r = .tup [wsv (false,0,0),.int .i64 (mayW w n:Nat)]):=by
 refine zid ?_;unfold zfx uL uS uT uF uFM uB uO uc uq ug;have hgw:=fun H=>@may_r_ok H w n hw hn;obtain ⟨a,hi,se⟩:=w;obtain ⟨h1,h2⟩:=hw;dsimp only at h1 h2;have s0:=Grow.new H ⟨tyRW,[.bool a,.int .u64 (hi:Nat),.int .u64 (se:Nat)],none⟩;have g0:(H.new ⟨tyRW,[.bool a,.int .u64 (hi:Nat),.int .u64 (se:Nat)],none⟩).get H.next = some ⟨tyRW,[.bool a,.int .u64 (hi:Nat),.int .u64 (se:Nat)],none⟩:=zab _ _;have n0:(H.new ⟨tyRW,[.bool a,.int .u64 (hi:Nat),.int .u64 (se:Nat)],none⟩).next = H.next + 1:=zaf _ _;unfold wsv;dsimp only;refine zao (zaQ rfl ?_);rw [zaj];generalize hq:H.next = q at *;generalize H.new _ = H0 at *;refine zao (zaQ rfl ?_);rw [zaj];have s1:=s0.trans (Grow.new H0 ⟨tyRW,[.bool false,.int .u64 0,.int .u64 0],none⟩);have g1:=(zaX H0 ⟨tyRW,[.bool false,.int .u64 0,.int .u64 0],none⟩ (i:=q) (by omega)).trans g0;have p1:(H0.new ⟨tyRW,[.bool false,.int .u64 0,.int .u64 0],none⟩).get H0.next = some ⟨tyRW,[.bool false,.int .u64 0,.int .u64 0],none⟩:=zab _ _;have n1:(H0.new ⟨tyRW,[.bool false,.int .u64 0,.int .u64 0],none⟩).next = q + 2:=by rw [zaf,n0]
 rw [n0] at *;generalize H0.new _ = H1 at *;simp (disch:=first | omega | (simp only [RY] <;> omega) | decide) only [↓RD,RZ,Nat.reduceAdd,g1];refine zag (hgw H1) ?_;rintro _ H2 ⟨rfl,s2⟩;have g2:=(s2.same q (by omega)).trans g1;have p2:=(s2.same (q + 1) (by omega)).trans p1;have s12:=s1.trans s2;have n2:=s2.next;have fin:∀ b,Grow H (H2.set (q + 1) b):=fun b=>s12.set (by omega) b;have fin2:∀ b b',Grow H ((H2.set q b).set (q + 1) b'):=fun b b'=>(s12.set (by omega) b).set (by omega) b';by_cases hm:mayW (a,hi,se) n = 0
 ·have e0:(((mayW (a,hi,se) n:Nat):Int) != 0) = false:=by rw [hm]; rfl
  cases a with
  | false =>
   have em:ze9 (false,hi,se) n = (true,n,1):=rfl;simp (maxSteps:=1000000) (disch:=first | omega | (simp only [RY] <;> omega) | decide) only [↓RD,RZ,eq_self,Int.reduceToNat,Int.reduceAdd,Int.reduceSub,Int.reduceMul,Nat.reduceAdd,Nat.reduceSub,Nat.reduceMul,Nat.reduceDiv,Nat.reduceMod,Nat.reduceBEq,Nat.reduceLeDiff,e0,g2,p2];exact ⟨fin _,fun _=>by rw [em]; rfl,fun h=>absurd hm h⟩
  | true =>
   by_cases h3:hi < n
   ·have em:ze9 (true,hi,se) n = (true,n,se * 2 ^ min (n - hi) 64 % 18446744073709551616 ||| 1):=by simp [ze9,h3]
    have d:decide (((n:Nat):Int) < ((hi:Nat):Int)) = false:=decide_eq_false (by omega);have d':decide (n < hi) = false:=decide_eq_false (by omega);have w1:IntKind.u64.wrap (((n:Nat):Int) - ((hi:Nat):Int)) = ((n - hi:Nat):Int):=by rw [wrap_u64]; omega
    by_cases h64:n - hi < 64
    ·have d2:decide (n - hi < 64) = true:=decide_eq_true h64;have d2':decide (((n - hi:Nat):Int) < 64) = true:=decide_eq_true (by omega);have sh:=@shl_u64 se (n - hi);have hb:se * 2 ^ min (n - hi) 64 % 18446744073709551616 < 18446744073709551616:=Nat.mod_lt _ (by decide);generalize se * 2 ^ min (n - hi) 64 % 18446744073709551616 = z at *;simp (maxSteps:=1000000) (disch:=first | omega | (simp only [RY] <;> omega) | decide) only [↓RD,RZ,eq_self,Int.reduceToNat,Int.reduceAdd,Int.reduceSub,Int.reduceMul,Nat.reduceAdd,Nat.reduceSub,Nat.reduceMul,Nat.reduceDiv,Nat.reduceMod,Nat.reduceBEq,Nat.reduceLeDiff,e0,g2,p2,d,d',w1,d2,d2',sh];exact ⟨fin _,fun _=>by rw [em],fun h=>absurd hm h⟩
    ·have d2:decide (n - hi < 64) = false:=decide_eq_false h64;have d2':decide (((n - hi:Nat):Int) < 64) = false:=decide_eq_false (by omega);have ez:se * 2 ^ min (n - hi) 64 % 18446744073709551616 = 0:=by rw [Nat.min_eq_right (by omega)]; omega
     rw [ez] at em;simp (maxSteps:=1000000) (disch:=first | omega | (simp only [RY] <;> omega) | decide) only [↓RD,RZ,eq_self,Int.reduceToNat,Int.reduceAdd,Int.reduceSub,Int.reduceMul,Nat.reduceAdd,Nat.reduceSub,Nat.reduceMul,Nat.reduceDiv,Nat.reduceMod,Nat.reduceBEq,Nat.reduceLeDiff,e0,g2,p2,d,d',w1,d2,d2'];exact ⟨fin _,fun _=>by rw [em],fun h=>absurd hm h⟩
   ·have hne:n ≠ hi:=fun e=>by subst e; exact mayW_hi hm
    have d:decide (((n:Nat):Int) < ((hi:Nat):Int)) = true:=decide_eq_true (by omega);have d':decide (n < hi) = true:=decide_eq_true (by omega);have h4:¬ 64 ≤ hi - n:=zoE hm rfl h3;have em:ze9 (true,hi,se) n = (true,hi,se ||| 2 ^ (hi - n)):=by simp [ze9,h3]
    have w1:IntKind.u64.wrap (((hi:Nat):Int) - ((n:Nat):Int)) = ((hi - n:Nat):Int):=by rw [wrap_u64]; omega
    have sh:Ax.bin .shl (.int .u64 1) (.int .u64 (hi - n:Nat)) = some (.int .u64 (2 ^ (hi - n):Nat)):=by
     have:=@shl_u64 1 (hi - n);rw [Nat.one_mul,Nat.min_eq_left (by omega),Nat.mod_eq_of_lt (Nat.lt_of_lt_of_le (Nat.pow_lt_pow_right (by decide) (show hi - n < 64 by omega)) (by decide))] at this;exact this
    have hb:2 ^ (hi - n) < 18446744073709551616:=Nat.lt_of_lt_of_le (Nat.pow_lt_pow_right (by decide) (show hi - n < 64 by omega)) (by decide);generalize 2 ^ (hi - n) = z at *;simp (maxSteps:=1000000) (disch:=first | omega | (simp only [RY] <;> omega) | decide) only [↓RD,RZ,eq_self,Int.reduceToNat,Int.reduceAdd,Int.reduceSub,Int.reduceMul,Nat.reduceAdd,Nat.reduceSub,Nat.reduceMul,Nat.reduceDiv,Nat.reduceMod,Nat.reduceBEq,Nat.reduceLeDiff,e0,g2,p2,d,d',w1,sh];exact ⟨fin2 _ _,fun _=>by rw [em],fun h=>absurd hm h⟩
 ·have e0:(((mayW (a,hi,se) n:Nat):Int) != 0) = true:=by
   have:¬ ((mayW (a,hi,se) n:Nat):Int) = 0:=by omega
   simpa using this
  simp (maxSteps:=1000000) (disch:=first | omega | (simp only [RY] <;> omega) | decide) only [↓RD,RZ,eq_self,Int.reduceToNat,Int.reduceAdd,Int.reduceSub,Int.reduceMul,Nat.reduceAdd,Nat.reduceSub,Nat.reduceMul,Nat.reduceDiv,Nat.reduceMod,Nat.reduceBEq,Nat.reduceLeDiff,e0,p2];exact ⟨fin _,fun h=>absurd h hm,fun _=>rfl⟩
end Go.Ax.SU
/- Re21 -/
namespace Go.Ax.SU
open Go.Ax
def szv (id:Int):V:=match szs id.toNat with | some (n,t)=>if 0 ≤ id then V.tup [.int .i64 (n:Nat),.int .i64 (t:Nat),.bool true] else .tup [.int .i64 0,.int .i64 0,.bool false] | none=>.tup [.int .i64 0,.int .i64 0,.bool false]
theorem zok {id:Int} (h:id < 0 ∨ szs id.toNat = none):szv id = .tup [.int .i64 0,.int .i64 0,.bool false]:=by
 unfold szv;rcases h with h | h
 ·cases szs id.toNat with
  | none=>rfl
  | some q=>dsimp only; rw [if_neg (by omega)]
 ·rw [h]
theorem zlU {id:Int} {n t:Nat} (h0:0 ≤ id) (h:szs id.toNat = some (n,t)):szv id = .tup [.int .i64 (n:Nat),.int .i64 (t:Nat),.bool true]:=by
 unfold szv;rw [h];dsimp only;rw [if_pos h0]
theorem zph {H:Heap} (id:Int) (h0:-9223372036854775808 ≤ id):Ok (sem T zc2 [.int .i64 id]) H fun r H'=>r = szv id ∧ H' = H:=zry id h0
theorem zqn {H:Heap} (id:Int) (h0:-9223372036854775808 ≤ id):Ok (sem T za9 [.int .i64 id]) H fun r H'=>r = szv id ∧ H' = H:=znP id h0
end Go.Ax.SU
namespace Go.Ax
open SU
end Go.Ax
/- Lk5 -/
namespace Go.Ax.SU
open Go.Ax
abbrev SS:=Option (Ky × Int × Int × Nat)
def sndC (id slot:Int) (kv:V) (e st:Int) (kid c:Nat):List V:=[.int .i64 id,.int .i64 slot,kv,.int .i64 e,.int .i64 st,.int .u64 (kid:Nat),.int .u64 (c:Nat)]
def SndM (lo:Nat) (H:Heap) (s:Nat) (id slot:Int) (x:SS):Prop:=s < H.next ∧
 match x with
 | none=>H.get s = some ⟨zaG,sndC id slot .nilp 0 0 0 0,none⟩
 | some (K,e,st,c)=>c < 18446744073709551616 ∧ ∃ k,H.get s = some ⟨zaG,sndC id slot (.ptr k 0) e st K.kid c,none⟩ ∧ KeyM H k K ∧ znM lo H k
theorem znM.to {lo k:Nat} {H H':Heap} (h:znM lo H k) (e:H'.get k = H.get k):znM lo H' k:=fun x y a av sv g=>h x y a av sv (e ▸ g)
theorem znM.zero {k:Nat} {H:Heap}:znM 0 H k:=fun _ _ _ _ _ _ _ _=>Nat.zero_le _
theorem znM.low {lo lo' k:Nat} {H:Heap} (h:znM lo H k) (hl:lo' ≤ lo):znM lo' H k:=fun x y a av sv g j hj=>Nat.le_trans hl (h x y a av sv g j hj)
theorem zlA (H:Heap) (k:Nat) (a b:Option Blk):(H.set k a).set k b = H.set k b:=by
 unfold Heap.set;congr 1;funext i;dsimp only;split <;> rfl
theorem zoC (id slot:Int) {kv:V} (e st:Int) (kid c:Nat) (hk:kv = .nilp ∨ ∃ k,kv = .ptr k 0):Odd ⟨zaG,sndC id slot kv e st kid c,none⟩:=by
 refine ⟨show zaG ≠ zaR by decide,show zaG ≠ zaT by decide,show zaG ≠ zav by decide,fun v hv n e=>?_⟩;subst e;unfold sndC at hv;rcases hk with rfl | ⟨k,rfl⟩ <;> simp at hv
theorem SndM.grow {lo:Nat} {H H':Heap} {s:Nat} {id slot:Int} {x:SS} (h:SndM lo H s id slot x) (g:Grow H H'):SndM lo H' s id slot x:=by
 obtain ⟨h0,h1⟩:=h;refine ⟨Nat.lt_of_lt_of_le h0 g.next,?_⟩;cases x with
 | none=>exact (g.same s h0).trans h1
 | some q =>
  obtain ⟨K,e,st,c⟩:=q;obtain ⟨h2,k,h3,h4,h5⟩:=h1;exact ⟨h2,k,(g.same s h0).trans h3,h4.grow g,h5.to (g.same k h4.low)⟩
theorem SndM.atS {lo:Nat} {S:List Nat} {H H':Heap} {s:Nat} {id slot:Int} {x:SS} (h:SndM lo H s id slot x) (g:AtS S H H') (hs:s ∉ S) (hS:∀ i ∈ S,∃ b,H.get i = some b ∧ Odd b):SndM lo H' s id slot x:=by
 obtain ⟨h0,h1⟩:=h;refine ⟨Nat.lt_of_lt_of_le h0 g.next,?_⟩;cases x with
 | none=>exact (g.same s h0 hs).trans h1
 | some q =>
  obtain ⟨K,e,st,c⟩:=q;obtain ⟨h2,k,h3,h4,h5⟩:=h1;have hk:k ∉ S:=fun e=>by
   obtain ⟨a,av,sv,m1,_⟩:=h4.mem;obtain ⟨b,hb,ho⟩:=hS k e;rw [m1] at hb; injection hb with hb; subst hb; exact ho.1 rfl
  exact ⟨h2,k,(g.same s h0 hs).trans h3,h4.atS g hS,h5.to (g.same k h4.low hk)⟩
theorem zqh {H:Heap} (id slot:Int) (h0:-9223372036854775808 ≤ id):Ok (sem T zdb [.int .i64 id,.int .i64 slot]) H fun r H'=>Grow H H' ∧
  ((szv id = .tup [.int .i64 0,.int .i64 0,.bool false] ∨ slot < 0 ∨ 8 ≤ slot) ∧ r = .tup [.nilp,.int .i64 1] ∨
   ∃ n t s,0 ≤ id ∧ szs id.toNat = some (n,t) ∧ 0 ≤ slot ∧ slot < 8 ∧ r = .tup [.ptr s 0,.int .i64 0] ∧ (∀ lo,SndM lo H' s id slot none) ∧ H.next ≤ s):=by
 refine zk8 ?_;unfold zh6 uL uE uG uH uO uc uq;refine zag (zph id h0) ?_;rintro _ H ⟨rfl,rfl⟩;by_cases hz:id < 0 ∨ szs id.toNat = none
 ·rw [zok hz];simp (disch:=omega) only [↓RD,RZ];exact ⟨Grow.refl _,.inl (.inl trivial)⟩
 ·obtain ⟨⟨n,t⟩,hs⟩:∃ q,szs id.toNat = some q:=by
   cases h:szs id.toNat with
   | none=>exact absurd (.inr h) hz
   | some q=>exact ⟨q,rfl⟩
  have h0':0 ≤ id:=by
   rcases Int.lt_or_le id 0 with h | h
   ·exact absurd (.inl h) hz
   ·exact h
  rw [zlU h0' hs];by_cases h1:slot < 0
  ·have d1:decide (slot < 0) = true:=decide_eq_true h1;simp (disch:=omega) only [↓RD,RZ,d1];exact ⟨Grow.refl _,.inl (.inr (.inl h1))⟩
  ·have d1:decide (slot < 0) = false:=decide_eq_false h1;by_cases h2:8 ≤ slot
   ·have d2:decide (8 ≤ slot) = true:=decide_eq_true h2;simp (disch:=omega) only [↓RD,RZ,d1,d2];exact ⟨Grow.refl _,.inl (.inr (.inr h2))⟩
   ·have d2:decide (8 ≤ slot) = false:=decide_eq_false h2;simp (disch:=omega) only [↓RD,RZ,eq_self,seval,d1,d2];refine ⟨Grow.new _ _,.inr ⟨n,t,H.next,h0',hs,by omega,by omega,rfl,fun _=>⟨by rw [zaf]; omega,zab _ _⟩,Nat.le_refl _⟩⟩
def useS (id slot:Int) (n t:Nat) (x:SS) (e st:Int) (base:List Nat):SS × Nat :=
 if ¬ zct e st slot then (x,1) else
 match x with
 | none=>(some (drv id.toNat (kidN e st slot) n t base,e,st,0),0)
 | some (K,e0,st0,c0)=>if zsZ K.kid (kidN e st slot) = false then (some (K,e0,st0,c0),9) else (some (drv id.toNat (kidN e st slot) n t base,e,st,0),0)
theorem zqT {e st sl:Int} (h:zct e st sl):kidN e st sl < 16777216:=by unfold zct at h; unfold kidN; omega
theorem Use_ok {ll lo s n t:Nat} {H:Heap} {id slot:Int} {x:SS} {bv:V} {base:List Nat} (hx:SndM ll H s id slot x) (h0:0 ≤ id) (hsz:szs id.toNat = some (n,t)) (e st:Int) (hb:By lo H bv base) (b8:Ok8 base) (bl:base.length ≤ 1099511627776) (hll:ll ≤ H.next:=by omega) :
  Ok (sem T zdG [.ptr s 0,.int .i64 e,.int .i64 st,bv]) H fun r H'=>r = .int .i64 ((useS id slot n t x e st base).2:Nat) ∧ SndM ll H' s id slot (useS id slot n t x e st base).1 ∧ AtS [s] H H':=by
 refine zkl ?_;unfold zhs uL uT uNFM uNF uE uB uG uH uc uq;have s0:=hx.1;have key:∀ (kv:V) (e0 st0:Int) (kid0 c0:Nat),(kv = .nilp ∨ ∃ k,kv = .ptr k 0) → H.get s = some ⟨zaG,sndC id slot kv e0 st0 kid0 c0,none⟩ → zct e st slot →
   Ok (sem T zbS [.int .i64 id,.int .u64 (kidN e st slot:Nat),bv]) H fun r H1=>∃ k,r = .tup [.ptr k 0,.int .i64 0] ∧ H1.get s = some ⟨zaG,sndC id slot kv e0 st0 kid0 c0,none⟩ ∧ Grow H H1 ∧
    SndM ll (H1.set s (some ⟨zaG,sndC id slot (.ptr k 0) e st (kidN e st slot) 0,none⟩)) s id slot (some (drv id.toNat (kidN e st slot) n t base,e,st,0)):=by
  intro kv e0 st0 kid0 c0 hkv hg hy;have kl:=zqT hy;refine zas (zqj (by omega) (by omega) hb b8 bl) ?_;rintro r H1 ⟨g,⟨h1 | h1,_⟩ | ⟨n',t',k,h1,h2,rfl,h4,h5,h6⟩⟩
  ·omega
  ·rw [hsz] at h1; cases h1
  ·rw [hsz] at h2;injection h2 with h2
   injection h2 with e1 e2
   subst e1 e2;have g1:=(g.same s s0).trans hg;have:=g.next;refine ⟨k,rfl,g1,g,by rw [zan]; omega,by decide,k,zal _ _ _,?_,(h6.low hll).to (zai _ _ (by omega))⟩;exact h4.atS (AtS.set (S:=[s]) H1 (by simp) _) fun i hi=>by
    simp only [List.mem_singleton] at hi;subst hi;exact ⟨_,g1,zoC _ _ _ _ _ _ hkv⟩
 obtain ⟨x0,hx1⟩:=hx;have hko:=fun H=>@zbM _ _ _ _ (@zpP H e st slot);by_cases hy:zct e st slot
 ·have kv:kidv e st slot = .tup [.int .u64 (kidN e st slot:Nat),.int .i64 0]:=by unfold kidv; rw [if_pos hy]
  rw [kv] at hko;have kl:=zqT hy;cases x with
  | none =>
   have eu:useS id slot n t none e st base = (some (drv id.toNat (kidN e st slot) n t base,e,st,0),0):=by simp [useS,hy]
   have hx1:H.get s = some ⟨zaG,sndC id slot .nilp 0 0 0 0,none⟩:=hx1;rw [eu];have hk:=key _ _ _ _ _ (.inl rfl) hx1 hy;unfold sndC at hx1;simp (disch:=omega) only [↓RD,RZ,hx1,hko];refine zag hk ?_;rintro _ H1 ⟨k,rfl,g1,s1,hs⟩;have a1:AtS [s] H (H1.set s (some ⟨zaG,sndC id slot (.ptr k 0) e st (kidN e st slot) 0,none⟩)):=(Grow.atS s1 _).trans (AtS.set _ (by simp) _);unfold sndC at *;simp (disch:=first | omega | (simp only [RY] <;> omega) | decide) only [↓RD,RZ,eq_self,Int.reduceToNat,Int.reduceAdd,Nat.reduceAdd,Nat.reduceSub,Nat.reduceMul,Nat.reduceLeDiff,g1,zlA];exact ⟨rfl,hs,a1⟩
  | some q =>
   obtain ⟨K,e0,st0,c0⟩:=q;obtain ⟨hc,k0,hx1,hkm,hkl⟩:=hx1;have hlt:=fun H=>@zbM _ _ _ _ (@zqS H K.kid (kidN e st slot) hkm.good.kid (by omega));cases hl:zsZ K.kid (kidN e st slot) with
   | false =>
    have eu:useS id slot n t (some (K,e0,st0,c0)) e st base = (some (K,e0,st0,c0),9):=by simp [useS,hy,hl]
    rw [hl] at hlt;rw [eu];have hx2:=hx1;unfold sndC at hx1;simp (disch:=omega) only [↓RD,RZ,hx1,hko,hlt];exact ⟨rfl,⟨x0,hc,k0,hx2,hkm,hkl⟩,AtS.refl _ _⟩
   | true =>
    have eu:useS id slot n t (some (K,e0,st0,c0)) e st base = (some (drv id.toNat (kidN e st slot) n t base,e,st,0),0):=by simp [useS,hy,hl]
    rw [hl] at hlt;rw [eu];have hk:=key _ _ _ _ _ (.inr ⟨k0,rfl⟩) hx1 hy;unfold sndC at hx1;simp (disch:=omega) only [↓RD,RZ,hx1,hko,hlt];refine zag hk ?_;rintro _ H1 ⟨k,rfl,g1,s1,hs⟩;have a1:AtS [s] H (H1.set s (some ⟨zaG,sndC id slot (.ptr k 0) e st (kidN e st slot) 0,none⟩)):=(Grow.atS s1 _).trans (AtS.set _ (by simp) _);unfold sndC at *;simp (disch:=first | omega | (simp only [RY] <;> omega) | decide) only [↓RD,RZ,eq_self,Int.reduceToNat,Int.reduceAdd,Nat.reduceAdd,Nat.reduceSub,Nat.reduceMul,Nat.reduceLeDiff,g1,zlA];exact ⟨rfl,hs,a1⟩
 ·have kv:kidv e st slot = .tup [.int .u64 0,.int .i64 1]:=by unfold kidv; rw [if_neg hy]
  rw [kv] at hko;have eu:useS id slot n t x e st base = (x,1):=by simp [useS,hy]
  rw [eu];cases x with
  | none =>
   have hx1:H.get s = some ⟨zaG,sndC id slot .nilp 0 0 0 0,none⟩:=hx1;have hx2:=hx1;unfold sndC at hx1;simp (disch:=omega) only [↓RD,RZ,hx1,hko];exact ⟨rfl,⟨x0,hx2⟩,AtS.refl _ _⟩
  | some q =>
   obtain ⟨K,e0,st0,c0⟩:=q;obtain ⟨hc,k0,hx1,hkm,hkl⟩:=hx1;have hx2:=hx1;unfold sndC at hx1;simp (disch:=omega) only [↓RD,RZ,hx1,hko];exact ⟨rfl,⟨x0,hc,k0,hx2,hkm,hkl⟩,AtS.refl _ _⟩
def sealS (x:SS) (p:List Nat):SS :=
 match x with
 | none=>none
 | some (K,e,st,c)=>if 1000 < p.length then some (K,e,st,c) else some (K,e,st,(c + 1) % 18446744073709551616)
theorem SealS_ok {ll lo1 lo2 s:Nat} {H:Heap} {id slot:Int} {x:SS} {mv pv:V} {m p:List Nat} (hx:SndM ll H s id slot x) (hm:By lo1 H mv m) (m8:Ok8 m) (hp:By lo2 H pv p) (p8:Ok8 p) (hml:m.length ≤ 274877906944) (hpl:p.length ≤ 1099511627776) :
  Ok (sem T zdl [.ptr s 0,mv,pv]) H fun r H'=>SndM ll H' s id slot (sealS x p) ∧ AtS [s] H H' ∧
   match x with
   | none=>r = .tup [.nils,.int .i64 10]
   | some (K,e,st,c)=>if 1000 < p.length then r = .tup [.nils,.int .i64 4] else ∃ v,r = .tup [v,.int .i64 0] ∧ By H.next H' v (zed K c m p):=by
 refine zjQ ?_;unfold zgP uL uT uNFM uNF uE uB uc uq;obtain ⟨x0,hx1⟩:=hx;cases x with
 | none =>
  have hx1:H.get s = some ⟨zaG,sndC id slot .nilp 0 0 0 0,none⟩:=hx1;have hx2:=hx1;unfold sndC at hx1;simp (disch:=omega) only [↓RD,RZ,hx1];exact ⟨⟨x0,hx2⟩,AtS.refl _ _⟩
 | some q =>
  obtain ⟨K,e0,st0,c0⟩:=q;obtain ⟨hc,k0,hx1,hkm,hkl⟩:=hx1;have hx2:=hx1;unfold sndC at hx1;simp (disch:=omega) only [↓RD,RZ,hx1];refine zag (Seal_ok hkm hc hm m8 hp p8 hml hpl) ?_;rintro _ H1 ⟨s1,h1⟩;have g1:=(s1.same s x0).trans hx1;have g2:=(s1.same s x0).trans hx2;have n1:=s1.next;split at h1
  ·rename_i h3;subst h1;simp (disch:=omega) only [↓RD,RZ];refine ⟨?_,Grow.atS s1 _,?_⟩
   ·unfold sealS; dsimp only; rw [if_pos h3]; exact ⟨by omega,hc,k0,g2,hkm.grow s1,hkl.to (s1.same k0 hkm.low)⟩
   ·rw [if_pos h3]; trivial
  ·rename_i h3;obtain ⟨v,rfl,hv⟩:=h1;have w1:IntKind.u64.wrap (((c0:Nat):Int) + 1) = (((c0 + 1) % 18446744073709551616:Nat):Int):=by rw [wrap_u64]; omega
   simp (disch:=omega) only [↓RD,RZ,eq_self,seval,g1,w1];have a1:AtS [s] H (H1.set s (some ⟨zaG,sndC id slot (.ptr k0 0) e0 st0 K.kid ((c0 + 1) % 18446744073709551616),none⟩)):=(Grow.atS s1 _).trans (AtS.set _ (by simp) _);refine ⟨?_,a1,?_⟩
   ·unfold sealS; dsimp only; rw [if_neg h3];have hks:k0 ≠ s:=fun e=>by
     obtain ⟨a,av,sv,m1,_⟩:=hkm.mem;rw [e,hx2] at m1;injection m1 with m1
     injection m1 with m1
     exact absurd m1 (show zaG ≠ zaR by decide)
    refine ⟨by rw [zan]; omega,Nat.mod_lt _ (by decide),k0,zal _ _ _,?_,hkl.to ((zai _ _ hks).trans (s1.same k0 hkm.low))⟩;exact (hkm.grow s1).atS (AtS.set (S:=[s]) H1 (by simp) _) fun i hi=>by
     simp only [List.mem_singleton] at hi;subst hi;exact ⟨_,g2,zoC _ _ _ _ _ _ (.inr ⟨k0,rfl⟩)⟩
   ·rw [if_neg h3];exact ⟨v,rfl,Lc.atS hv (AtS.set (S:=[s]) H1 (by simp) _) fun i hi e=>by
     simp only [List.mem_singleton] at e;subst e;have:=(hv.own i hi).1;omega⟩
end Go.Ax.SU
/- Lk6 -/
namespace Go.Ax.SU
open Go.Ax
theorem Apf.ty {ty e lo n:Nat} {H:Heap} {v:V} {cs:List V} (h:Apf ty e lo H v cs n):∀ i,v.pid = some i → ∃ b,H.get i = some b ∧ b.ty = ty:=by
 intro i hi;cases h with
 | full h _ _ _=>simp only [V.pid,Option.some.injEq] at hi; subst hi; exact ⟨_,h,rfl⟩
 | app h =>
  cases h with
  | lit h _ _=>simp only [V.pid,Option.some.injEq] at hi; subst hi; exact ⟨_,h,rfl⟩
  | opn h _ =>
   rcases h with ⟨rfl,_,_⟩ | ⟨id,rfl,h,_⟩
   ·cases hi
   ·simp only [V.pid,Option.some.injEq] at hi; subst hi; exact ⟨_,h,rfl⟩
theorem clone_ab {lo:Nat} {H:Heap} {v:V} {l:List Nat} (hv:By lo H v l) (hl:l.length ≤ 140737488355328):Ok (sem T zdw [v]) H fun r H'=>Ab H.next H' r l ∧ Grow H H':=by
 refine zjp ?_;unfold zhU uL ub;rcases zvl hv with ⟨rfl,rfl⟩ | e
 ·have e:Ax.eqr .sl false .nils .nils = some (.bool true):=rfl;simp (disch:=omega) only [↓RD,RZ,e];exact ⟨Ab.nil,Grow.refl _⟩
 ·simp (disch:=omega) only [↓RD,RZ,e];rw [zaK];refine znK hv hl fun x0 H0' hx0 s0=>?_;simp (disch:=omega) only [↓RD,RZ];exact ⟨hx0,s0⟩
def OddR (b:Blk):Prop:=Odd b ∧ b.ty ≠ zad ∧ b.ty ≠ zaN
structure ChainM (lo:Nat) (H:Heap) (q st:Nat) (base:List Nat):Prop where
 low:q < H.next
 lo':lo ≤ q
 mem:∃ bv,H.get q = some ⟨zaN,[.int .i64 (st:Nat),bv],none⟩ ∧ By lo H bv base ∧ ∀ i,bv.pid = some i → ∃ b,H.get i = some b ∧ b.ty = zad
 b8:Ok8 base
 bl:base.length ≤ 1099511627
 st31:st ≤ 31
theorem ChainM.atS {lo:Nat} {S:List Nat} {H H':Heap} {q st:Nat} {base:List Nat} (h:ChainM lo H q st base) (s:AtS S H H') (hS:∀ i ∈ S,i < lo ∨ ∃ b,H.get i = some b ∧ OddR b):ChainM lo H' q st base:=by
 obtain ⟨bv,h1,h2,h3⟩:=h.mem;have hq:q ∉ S:=fun e=>by
  rcases hS q e with h4 | ⟨b,hb,ho⟩
  ·have:=h.lo'; omega
  ·rw [h1] at hb; injection hb with hb; subst hb; exact ho.2.2 rfl
 have hv:∀ i,bv.pid = some i → i ∉ S:=fun i hi e=>by
  rcases hS i e with h4 | ⟨b,hb,ho⟩
  ·have:=(h2.own i hi).1; omega
  ·obtain ⟨b',hb',ht⟩:=h3 i hi;rw [hb] at hb'; injection hb' with hb'; subst hb'; exact ho.2.1 ht
 exact ⟨Nat.lt_of_lt_of_le h.low s.next,h.lo',⟨bv,(s.same q h.low hq).trans h1,Lc.atS h2 s hv,fun i hi=>by
  obtain ⟨b,hb,ht⟩:=h3 i hi;exact ⟨b,(s.same i (h2.own i hi).2 (hv i hi)).trans hb,ht⟩⟩,h.b8,h.bl,h.st31⟩
theorem ChainM.grow {lo:Nat} {H H':Heap} {q st:Nat} {base:List Nat} (h:ChainM lo H q st base) (s:Grow H H'):ChainM lo H' q st base:=h.atS (Grow.atS s []) fun i hi=>by simp at hi
structure Rc where
 id:Nat
 ch:List ((Int × Int) × (Nat × List Nat))
 win:List (Nat × WS)
 ks:List (Nat × Ky)
def Al {α β γ:Type} (P:β → γ → Prop):List (α × β) → List (α × γ) → Prop
 | [],[]=>True
 | p :: l,q :: m=>p.1 = q.1 ∧ P p.2 q.2 ∧ Al P l m
 | _,_=>False
theorem Al.mono {α β γ:Type} {P Q:β → γ → Prop} (h:∀ b c,P b c → Q b c):∀ {l:List (α × β)} {m:List (α × γ)},Al P l m → Al Q l m
 | [],[],_=>trivial
 | _ :: _,_ :: _,⟨h1,h2,h3⟩=>⟨h1,h _ _ h2,Al.mono h h3⟩
 | [],_ :: _,h=>h.elim
 | _ :: _,[],h=>h.elim
theorem Al.len {α β γ:Type} {P:β → γ → Prop}:∀ {l:List (α × β)} {m:List (α × γ)},Al P l m → l.length = m.length
 | [],[],_=>rfl
 | _ :: _,_ :: _,⟨_,_,h3⟩=>by rw [List.length_cons,List.length_cons,Al.len h3]
 | [],_ :: _,h=>h.elim
 | _ :: _,[],h=>h.elim
theorem Al.look {α β γ:Type} [DecidableEq α] {P:β → γ → Prop} (a:α):∀ {l:List (α × β)} {m:List (α × γ)},Al P l m → (look a l = none ∧ look a m = none) ∨ ∃ x y,look a l = some x ∧ look a m = some y ∧ P x y
 | [],[],_=>.inl ⟨rfl,rfl⟩
 | (k,v) :: l,(k',v') :: m,⟨h1,h2,h3⟩=>by
  have h1:k = k':=h1;subst h1;simp only [SU.look];by_cases e:a = k
  ·rw [if_pos e,if_pos e]; exact .inr ⟨_,_,rfl,rfl,h2⟩
  ·rw [if_neg e,if_neg e]; exact Al.look a h3
 | [],_ :: _,h=>h.elim
 | _ :: _,[],h=>h.elim
theorem Al.put {α β γ:Type} [DecidableEq α] {P:β → γ → Prop} (a:α) {x:β} {y:γ} (hp:P x y):∀ {l:List (α × β)} {m:List (α × γ)},Al P l m → Al P (putl a x l) (putl a y m)
 | [],[],_=>⟨rfl,hp,trivial⟩
 | (k,v) :: l,(k',v') :: m,⟨h1,h2,h3⟩=>by
  have h1:k = k':=h1;subst h1;simp only [putl];by_cases e:a = k
  ·rw [if_pos e,if_pos e]; exact ⟨rfl,hp,h3⟩
  ·rw [if_neg e,if_neg e]; exact ⟨rfl,h2,Al.put a hp h3⟩
 | [],_ :: _,h=>h.elim
 | _ :: _,[],h=>h.elim
def mapv {α β:Type} (f:β → V) (l:List (α × β)):List (α × V):=l.map fun p=>(p.1,f p.2)
theorem ziG {α β:Type} [DecidableEq α] (f:β → V) (a:α):∀ l:List (α × β),look a (mapv f l) = (look a l).map f
 | []=>rfl
 | (k,v) :: l=>by
  show look a ((k,f v) :: mapv f l) = _;simp only [look];split
  ·rfl
  ·exact ziG f a l
theorem zlX {α β:Type} [DecidableEq α] (f:β → V) (a:α) (b:β):∀ l:List (α × β),putl a (f b) (mapv f l) = mapv f (putl a b l)
 | []=>rfl
 | (k,v) :: l=>by
  show putl a (f b) ((k,f v) :: mapv f l) = _;simp only [putl];split
  ·rfl
  ·rw [zlX f a b l]; rfl
theorem mapv_len {α β:Type} (f:β → V) (l:List (α × β)):(mapv f l).length = l.length:=List.length_map _
def ptrv (k:Nat):V:=.ptr k 0
theorem zq2 {α:Type} {ek:α → V} {l:List (α × V)} (h1:∀ a n,ek a ≠ .int .u8 n) (h2:∀ p ∈ l,∀ n,p.2 ≠ .int .u8 n):∀ v ∈ encM ek l,∀ n,v ≠ .int .u8 n:=by
 intro v hv n;unfold encM at hv;obtain ⟨p,hp,hv⟩:=List.mem_flatMap.1 hv;simp only [List.mem_cons,List.not_mem_nil,or_false] at hv;rcases hv with rfl | rfl
 ·exact h1 _ _
 ·exact h2 p hp n
abbrev tyC:=zcJ
abbrev tyW:=zdL
abbrev tyK:=zd6
theorem odd_c (l:List ((Int × Int) × Nat)):OddR ⟨tyC,encM eplc (mapv ptrv l),none⟩ :=
 ⟨⟨show tyC ≠ zaR by decide,show tyC ≠ zaT by decide,show tyC ≠ zav by decide,zq2 (fun _ _ h=>by cases h) fun p hp n h=>by
  obtain ⟨q,_,rfl⟩:=List.mem_map.1 hp;cases h⟩,show tyC ≠ zad by decide,show tyC ≠ zaN by decide⟩
theorem odd_w (l:List (Nat × WS)):OddR ⟨tyW,encM ekid (mapv wsv l),none⟩ :=
 ⟨⟨show tyW ≠ zaR by decide,show tyW ≠ zaT by decide,show tyW ≠ zav by decide,zq2 (fun _ _ h=>by cases h) fun p hp n h=>by
  obtain ⟨q,_,rfl⟩:=List.mem_map.1 hp;cases h⟩,show tyW ≠ zad by decide,show tyW ≠ zaN by decide⟩
theorem odd_k (l:List (Nat × Nat)):OddR ⟨tyK,encM ekid (mapv ptrv l),none⟩ :=
 ⟨⟨show tyK ≠ zaR by decide,show tyK ≠ zaT by decide,show tyK ≠ zav by decide,zq2 (fun _ _ h=>by cases h) fun p hp n h=>by
  obtain ⟨q,_,rfl⟩:=List.mem_map.1 hp;cases h⟩,show tyK ≠ zad by decide,show tyK ≠ zaN by decide⟩
structure RcM (H:Heap) (c:Nat) (R:Rc):Prop where
 top:c + 4 ≤ H.next
 rcd:H.get (c + 3) = some ⟨zcH,[.int .i64 (R.id:Nat),.mp c,.mp (c + 1),.mp (c + 2)],none⟩
 ch:∃ lc:List ((Int × Int) × Nat),H.get c = some ⟨tyC,encM eplc (mapv ptrv lc),none⟩ ∧ Al (fun q x=>ChainM (c + 4) H q x.1 x.2) lc R.ch
 win:H.get (c + 1) = some ⟨tyW,encM ekid (mapv wsv R.win),none⟩
 wr:∀ p ∈ R.win,wsR p.2
 ks:∃ lk:List (Nat × Nat),H.get (c + 2) = some ⟨tyK,encM ekid (mapv ptrv lk),none⟩ ∧ Al (fun q x=>KeyM H q x) lk R.ks
theorem RcM.atS {S:List Nat} {H H':Heap} {c:Nat} {R:Rc} (h:RcM H c R) (s:AtS S H H') (hc:∀ i ∈ S,i < c ∨ c + 4 ≤ i) (hS:∀ i ∈ S,∃ b,H.get i = some b ∧ OddR b):RcM H' c R:=by
 have ht:=h.top;have hn:∀ i,c ≤ i → i < c + 4 → H'.get i = H.get i:=fun i h1 h2=>s.same i (by omega) fun e=>by have:=hc i e; omega
 obtain ⟨lc,h1,h2⟩:=h.ch;obtain ⟨lk,h3,h4⟩:=h.ks;exact ⟨Nat.le_trans ht s.next,(hn _ (by omega) (by omega)).trans h.rcd,⟨lc,(hn _ (by omega) (by omega)).trans h1,h2.mono fun _ _ g=>g.atS s fun i hi=>.inr (hS i hi)⟩,
  (hn _ (by omega) (by omega)).trans h.win,h.wr,⟨lk,(hn _ (by omega) (by omega)).trans h3,h4.mono fun _ _ g=>g.atS s fun i hi=>by
   obtain ⟨b,hb,ho⟩:=hS i hi;exact ⟨b,hb,ho.1⟩⟩⟩
theorem RcM.grow {H H':Heap} {c:Nat} {R:Rc} (h:RcM H c R) (s:Grow H H'):RcM H' c R:=h.atS (Grow.atS s []) (fun i hi=>by simp at hi) fun i hi=>by simp at hi
theorem RcM.odd {H:Heap} {c:Nat} {R:Rc} (h:RcM H c R):∀ i,c ≤ i → i < c + 3 → ∃ b,H.get i = some b ∧ OddR b:=by
 intro i h1 h2;obtain ⟨lc,g1,_⟩:=h.ch;obtain ⟨lk,g3,_⟩:=h.ks;have:i = c ∨ i = c + 1 ∨ i = c + 2:=by omega
 rcases this with rfl | rfl | rfl
 ·exact ⟨_,g1,odd_c _⟩
 ·exact ⟨_,h.win,odd_w _⟩
 ·exact ⟨_,g3,odd_k _⟩
theorem zjD {H:Heap} (id:Int) (h0:-9223372036854775808 ≤ id):Ok (sem T zbO [.int .i64 id]) H fun r H'=>Grow H H' ∧
  ((id < 0 ∨ szs id.toNat = none) ∧ r = .tup [.nilp,.int .i64 1] ∨
   ∃ n t c,0 ≤ id ∧ szs id.toNat = some (n,t) ∧ r = .tup [.ptr (c + 3) 0,.int .i64 0] ∧ RcM H' c ⟨id.toNat,[],[],[]⟩ ∧ H.next ≤ c):=by
 refine zjR ?_;unfold zgQ uL uE uO uc;refine zag (zph id h0) ?_;rintro _ H ⟨rfl,rfl⟩;by_cases hz:id < 0 ∨ szs id.toNat = none
 ·rw [zok hz];simp (disch:=omega) only [↓RD,RZ];exact ⟨Grow.refl _,.inl hz⟩
 ·obtain ⟨⟨n,t⟩,hs⟩:∃ q,szs id.toNat = some q:=by
   cases h:szs id.toNat with
   | none=>exact absurd (.inr h) hz
   | some q=>exact ⟨q,rfl⟩
  have h0':0 ≤ id:=by
   rcases Int.lt_or_le id 0 with h | h
   ·exact absurd (.inl h) hz
   ·exact h
  rw [zlU h0' hs];simp (disch:=omega) only [↓RD,RZ];refine zao ⟨.mp H.next,H.new ⟨tyC,[],none⟩,rfl,?_⟩;have a1:=Grow.new H ⟨tyC,[],none⟩;have b1:(H.new ⟨tyC,[],none⟩).get H.next = some ⟨tyC,[],none⟩:=zab _ _;have c1:(H.new ⟨tyC,[],none⟩).next = H.next + 1:=zaf _ _;generalize hc:H.next = c at *;generalize H.new _ = H1 at *;refine zao ⟨.mp H1.next,H1.new ⟨tyW,[],none⟩,rfl,?_⟩;have a2:=Grow.new H1 ⟨tyW,[],none⟩;have b2:(H1.new ⟨tyW,[],none⟩).get H1.next = some ⟨tyW,[],none⟩:=zab _ _;have c2:(H1.new ⟨tyW,[],none⟩).next = H1.next + 1:=zaf _ _;rw [c1] at b2 c2 ⊢;generalize H1.new _ = H2 at *;refine zao ⟨.mp H2.next,H2.new ⟨tyK,[],none⟩,rfl,?_⟩;have a3:=Grow.new H2 ⟨tyK,[],none⟩;have b3:(H2.new ⟨tyK,[],none⟩).get H2.next = some ⟨tyK,[],none⟩:=zab _ _;have c3:(H2.new ⟨tyK,[],none⟩).next = H2.next + 1:=zaf _ _;rw [c2] at b3 c3 ⊢;generalize H2.new _ = H3 at *;obtain ⟨i,rfl⟩:∃ i:Nat,id = (i:Nat):=⟨id.toNat,by omega⟩;refine za0 rfl ?_;refine zao (zaQ rfl ?_);have a4:=Grow.new H3 ⟨zcH,[.int .i64 (i:Nat),.mp c,.mp (c + 1),.mp (c + 1 + 1)],none⟩;have b4:(H3.new ⟨zcH,[.int .i64 (i:Nat),.mp c,.mp (c + 1),.mp (c + 1 + 1)],none⟩).get H3.next = _:=zab _ _;have c4:(H3.new ⟨zcH,[.int .i64 (i:Nat),.mp c,.mp (c + 1),.mp (c + 1 + 1)],none⟩).next = H3.next + 1:=zaf _ _;rw [c3] at b4 c4 ⊢;show Ok (M.pure _) (H3.new ⟨zcH,[.int .i64 (i:Nat),.mp c,.mp (c + 1),.mp (c + 1 + 1)],none⟩) _;generalize H3.new _ = H4 at *;have e1:=(((a4.same c (by omega)).trans (a3.same c (by omega))).trans (a2.same c (by omega))).trans b1;have e2:=((a4.same (c + 1) (by omega)).trans (a3.same (c + 1) (by omega))).trans b2;have e3:=(a4.same (c + 1 + 1) (by omega)).trans b3;exact zgb ⟨_,rfl,((a1.trans a2).trans a3).trans a4,.inr ⟨n,t,c,by omega,hs,rfl,⟨by omega,b4,⟨[],e1,trivial⟩,e2,by simp,⟨[],e3,trivial⟩⟩,by omega⟩⟩
end Go.Ax.SU
/- Lk7 -/
namespace Go.Ax.SU
open Go.Ax
theorem zqR (p:Int × Int):kok (.st [.int,.int]) (eplc p) = true:=rfl
theorem zoI (n:Nat):kok .int (ekid n) = true:=rfl
theorem ptr_neq (o:Option Nat):Ax.eqr .ptr true ((o.map ptrv).getD .nilp) .nilp = some (.bool o.isSome):=by cases o <;> rfl
theorem zso {H:Heap} {c:Nat} {R:Rc} (hR:RcM H c R) (e sl:Int):Ok (sem T zb6 [.ptr (c + 3) 0,.int .i64 e,.int .i64 sl]) H fun r H'=>r = .bool (look (e,sl) R.ch).isSome ∧ H' = H:=by
 refine zjj ?_;unfold zgt uL uNFM uc;obtain ⟨lc,h1,h2⟩:=hR.ch;have hr:=hR.rcd;have hl:(look (e,sl) lc).isSome = (look (e,sl) R.ch).isSome:=by
  rcases Al.look (e,sl) h2 with ⟨a,b⟩ | ⟨x,y,a,b,_⟩ <;> rw [a,b] <;> rfl
 simp (disch:=omega) only [↓RD,RZ,eq_self,seval,hr];refine zi6 (ek:=eplc) (a:=(e,sl)) zoK (zqR _) h1 ?_;rw [ziG];have e1:=ptr_neq (look (e,sl) lc);rw [hl] at e1;simp (disch:=omega) only [↓RD,RZ,eq_self,seval,e1]
theorem New_c_ok {lo:Nat} {H:Heap} {bv:V} {base:List Nat} (st:Int) (hs:0 ≤ st ∧ st ≤ 31) (hb:By lo H bv base) (b8:Ok8 base) (bl:base.length ≤ 1099511627) :
  Ok (sem T zfk [.int .i64 st,bv]) H fun r H'=>∃ q,r = .tup [.ptr q 0,.int .i64 0] ∧ ChainM H.next H' q st.toNat base ∧ Grow H H':=by
 refine znA ?_;unfold zkH uL uO uc;have hw:=@zbM _ _ _ _ (@zmc H st);rw [decide_eq_true hs] at hw;simp (disch:=omega) only [↓RD,RZ,eq_self,seval,hw];refine zag (clone_ab hb (by omega)) ?_;rintro v H1 ⟨hv,s1⟩;have n1:=s1.next;have vc:=hv.by.cells1;have vo:=hv.by.okc;obtain ⟨k,rfl⟩:∃ k:Nat,st = (k:Nat):=⟨st.toNat,by omega⟩;have s2:=Grow.new H1 ⟨zaN,[.int .i64 (k:Nat),v],none⟩;have g2:(H1.new ⟨zaN,[.int .i64 (k:Nat),v],none⟩).get H1.next = _:=zab _ _;have n2:(H1.new ⟨zaN,[.int .i64 (k:Nat),v],none⟩).next = H1.next + 1:=zaf _ _;simp (disch:=omega) only [↓RD,RZ,eq_self,seval,vc,vo];refine ⟨H1.next,rfl,⟨by omega,n1,⟨v,g2,hv.by.ext s2,fun i hi=>?_⟩,b8,bl,by omega⟩,s1.trans s2⟩;obtain ⟨b,hb,ht⟩:=Apf.ty hv i hi;exact ⟨b,(s2.same i ((hv.by.own i hi).2)).trans hb,ht⟩
def addR (R:Rc) (e sl st:Int) (base:List Nat):Rc × Nat :=
 if ¬ zct e st sl then (R,1) else if (look (e,sl) R.ch).isSome then (R,7) else if 64 ≤ R.ch.length then (R,5) else ({ R with ch:=putl (e,sl) (st.toNat,base) R.ch },0)
theorem zv6 {lo c:Nat} {H:Heap} {R:Rc} {bv:V} {base:List Nat} (hR:RcM H c R) (e sl st:Int) (hb:By lo H bv base) (b8:Ok8 base) (bl:base.length ≤ 1099511627) :
  Ok (sem T zb7 [.ptr (c + 3) 0,.int .i64 e,.int .i64 sl,.int .i64 st,bv]) H fun r H'=>r = .int .i64 ((addR R e sl st base).2:Nat) ∧ RcM H' c (addR R e sl st base).1 ∧ AtS [c,c + 1,c + 2] H H':=by
 refine zjk ?_;unfold zgu uL uNFM uE uB uc;have hko:=@zbM _ _ _ _ (@zpP H e st sl);have hhas:=@zbM _ _ _ _ (zso hR e sl);have hr:=hR.rcd;have htop:=hR.top;by_cases hy:zct e st sl
 ·have kv:kidv e st sl = .tup [.int .u64 (kidN e st sl:Nat),.int .i64 0]:=by unfold kidv; rw [if_pos hy]
  rw [kv] at hko;cases hl:(look (e,sl) R.ch).isSome with
  | true =>
   have ea:addR R e sl st base = (R,7):=by simp [addR,hy,hl]
   rw [hl] at hhas;rw [ea];simp (disch:=first | omega | (simp only [RY] <;> omega) | decide) only [↓RD,RZ,eq_self,Int.reduceToNat,Int.reduceAdd,Nat.reduceAdd,Nat.reduceSub,Nat.reduceMul,Nat.reduceLeDiff,hko,hhas];exact ⟨rfl,hR,AtS.refl _ _⟩
  | false =>
   rw [hl] at hhas;obtain ⟨lc,h1,h2⟩:=hR.ch;have hlen:(mapv ptrv lc).length = R.ch.length:=by rw [mapv_len,h2.len]
   simp (disch:=first | omega | (simp only [RY] <;> omega) | decide) only [↓RD,RZ,eq_self,Int.reduceToNat,Int.reduceAdd,Nat.reduceAdd,Nat.reduceSub,Nat.reduceMul,Nat.reduceLeDiff,hko,hhas,hr];refine zsM h1 ?_;rw [hlen];by_cases h64:64 ≤ R.ch.length
   ·have ea:addR R e sl st base = (R,5):=by simp [addR,hy,hl,h64]
    have d:decide ((64:Int) ≤ ((R.ch.length:Nat):Int)) = true:=decide_eq_true (by omega);rw [ea];simp (disch:=first | omega | (simp only [RY] <;> omega) | decide) only [↓RD,RZ,eq_self,Int.reduceToNat,Int.reduceAdd,Nat.reduceAdd,Nat.reduceSub,Nat.reduceMul,Nat.reduceLeDiff,d];exact ⟨rfl,hR,AtS.refl _ _⟩
   ·have ea:addR R e sl st base = ({ R with ch:=putl (e,sl) (st.toNat,base) R.ch },0):=by simp [addR,hy,hl,h64]
    have d:decide ((64:Int) ≤ ((R.ch.length:Nat):Int)) = false:=decide_eq_false (by omega);rw [ea];simp (disch:=first | omega | (simp only [RY] <;> omega) | decide) only [↓RD,RZ,eq_self,Int.reduceToNat,Int.reduceAdd,Nat.reduceAdd,Nat.reduceSub,Nat.reduceMul,Nat.reduceLeDiff,d];refine zag (New_c_ok st ⟨hy.2.1.1,hy.2.1.2⟩ hb b8 bl) ?_;rintro _ H1 ⟨q,rfl,hq,s1⟩;have hR1:=hR.grow s1;have hr1:=hR1.rcd;have n1:=s1.next;simp (disch:=first | omega | (simp only [RY] <;> omega) | decide) only [↓RD,RZ,eq_self,Int.reduceToNat,Int.reduceAdd,Nat.reduceAdd,Nat.reduceSub,Nat.reduceMul,Nat.reduceLeDiff,hr1];obtain ⟨lc',h1',h2'⟩:=hR1.ch;refine zk4 (ek:=eplc) (a:=(e,sl)) (v:=ptrv q) zoK (zqR _) h1' ?_;rw [zlX];simp (disch:=first | omega | (simp only [RY] <;> omega) | decide) only [↓RD,RZ,eq_self,Int.reduceToNat,Int.reduceAdd,Nat.reduceAdd,Nat.reduceSub,Nat.reduceMul,Nat.reduceLeDiff];have a1:AtS [c,c + 1,c + 2] H1 (H1.set c (some ⟨tyC,encM eplc (mapv ptrv (putl (e,sl) q lc')),none⟩)):=AtS.set _ (by simp) _;have nn:∀ i,i ≠ c → (H1.set c (some ⟨tyC,encM eplc (mapv ptrv (putl (e,sl) q lc')),none⟩)).get i = H1.get i:=fun i hi=>zai _ _ hi;obtain ⟨lk,h3,h4⟩:=hR1.ks;have hS:∀ i ∈ [c,c + 1,c + 2],i < c + 4 ∨ ∃ b,H1.get i = some b ∧ OddR b:=fun i hi=>by simp at hi; omega
    have hq4:ChainM (c + 4) H1 q st.toNat base:=⟨hq.low,by have:=hq.lo'; omega,by
     obtain ⟨bv,g1,g2,g3⟩:=hq.mem;exact ⟨bv,g1,g2.low (by omega),g3⟩,hq.b8,hq.bl,hq.st31⟩
    refine ⟨rfl,⟨by rw [zan]; omega,(nn _ (by omega)).trans hr1,⟨putl (e,sl) q lc',zal _ _ _,?_⟩,(nn _ (by omega)).trans hR1.win,hR1.wr,⟨lk,(nn _ (by omega)).trans h3,h4.mono fun k K g=>?_⟩⟩,(Grow.atS s1 _).trans a1⟩
    ·exact Al.put (P:=fun y x=>ChainM (c + 4) (H1.set c (some ⟨tyC,encM eplc (mapv ptrv (putl (e,sl) q lc')),none⟩)) y x.1 x.2) (e,sl) (x:=q) (y:=(st.toNat,base)) (hq4.atS a1 hS) (h2'.mono fun _ _ g=>g.atS a1 hS)
    ·exact g.atS a1 fun i hi=>by
      obtain ⟨b,hb,ho⟩:=hR1.odd i (by simp at hi; omega) (by simp at hi; omega);exact ⟨b,hb,ho.1⟩
 ·have kv:kidv e st sl = .tup [.int .u64 0,.int .i64 1]:=by unfold kidv; rw [if_neg hy]
  rw [kv] at hko;have ea:addR R e sl st base = (R,1):=by simp [addR,hy]
  rw [ea];simp (disch:=first | omega | (simp only [RY] <;> omega) | decide) only [↓RD,RZ,eq_self,Int.reduceToNat,Int.reduceAdd,Nat.reduceAdd,Nat.reduceSub,Nat.reduceMul,Nat.reduceLeDiff,hko];exact ⟨rfl,hR,AtS.refl _ _⟩
theorem zvV {lo q st:Nat} {H:Heap} {base:List Nat} (h:ChainM lo H q st base):Ok (sem T zcO [.ptr q 0]) H fun r H'=>r = .int .i64 (st:Nat) ∧ H' = H:=by
 refine zit ?_;unfold zfM uNFM;obtain ⟨bv,h1,h2,h3⟩:=h.mem;simp (disch:=omega) only [↓RD,RZ,h1]
theorem At_c_ok {lo q st n:Nat} {H:Heap} {base:List Nat} (h:ChainM lo H q st base) (hn:n ≤ 31) (hst:st ≤ n):Ok (sem T zdk [.ptr q 0,.int .i64 (n:Nat)]) H fun r H'=>∃ v,r = .tup [v,.int .i64 0] ∧ By H.next H' v (zc0 base (n - st)) ∧ Grow H H':=by
 refine zjP ?_;unfold zgO uL uNFM uE uB uc;obtain ⟨bv,h1,h2,h3⟩:=h.mem;have hw:=@zbM _ _ _ _ (@zmc H ((n:Nat):Int));rw [decide_eq_true (show 0 ≤ ((n:Nat):Int) ∧ ((n:Nat):Int) ≤ 31 by omega)] at hw;have d:decide (((n:Nat):Int) < ((st:Nat):Int)) = false:=decide_eq_false (by omega);have w1:IntKind.i64.wrap (((n:Nat):Int) - ((st:Nat):Int)) = ((n - st:Nat):Int):=by rw [wrap_i64 (by omega) (by omega)]; omega
 simp (disch:=omega) only [↓RD,RZ,hw,h1,d,w1];refine zag (ztp h2 h.b8 h.bl (by omega)) ?_;rintro _ H1 ⟨v,rfl,hv,s1⟩;simp (disch:=omega) only [↓RD,RZ];exact ⟨v,rfl,hv,s1⟩
def keyR (R:Rc) (n t kid:Nat) (base:List Nat):Ky:=(look kid R.ks).getD (drv R.id kid n t base)
def zig (R:Rc) (n t kid:Nat) (base:List Nat):Rc:=match look kid R.ks with | some _=>R | none=>{ R with ks:=putl kid (drv R.id kid n t base) R.ks }
theorem key_ok {lo c n t kid:Nat} {H:Heap} {R:Rc} {bv:V} {base:List Nat} (hR:RcM H c R) (hsz:szs R.id = some (n,t)) (hk:kid < 18446744073709551616) (hb:By lo H bv base) (b8:Ok8 base) (bl:base.length ≤ 1099511627776) :
  Ok (sem T zc6 [.ptr (c + 3) 0,.int .u64 (kid:Nat),bv]) H fun r H'=>∃ k,r = .tup [.ptr k 0,.int .i64 0] ∧ KeyM H' k (keyR R n t kid base) ∧ RcM H' c (zig R n t kid base) ∧ AtS [c,c + 1,c + 2] H H':=by
 refine zji ?_;unfold zgs uL uNFM uE uB uc;have hr:=hR.rcd;have htop:=hR.top;obtain ⟨lk,h3,h4⟩:=hR.ks;simp (disch:=omega) only [↓RD,RZ,hr];refine zi6 (ek:=ekid) (a:=kid) zlb (zoI _) h3 ?_;rw [ziG];rcases Al.look kid h4 with ⟨a,b⟩ | ⟨k,K,a,b,hK⟩
 ·have e1:keyR R n t kid base = drv R.id kid n t base:=by unfold keyR; rw [b]; rfl
  have e2:zig R n t kid base = { R with ks:=putl kid (drv R.id kid n t base) R.ks }:=by unfold zig; rw [b]
  have e3:Ax.eqr .ptr true (((none:Option Nat).map ptrv).getD .nilp) .nilp = some (.bool false):=rfl;rw [a,e1,e2];simp (disch:=omega) only [↓RD,RZ,e3,hr];refine zag (zp6 hsz hk hb b8 bl) ?_;rintro _ H1 ⟨s1,k,rfl,hK,hlow⟩;have hR1:=hR.grow s1;have hr1:=hR1.rcd;have n1:=s1.next;simp (disch:=omega) only [↓RD,RZ,hr1];obtain ⟨lk',h3',h4'⟩:=hR1.ks;refine zk4 (ek:=ekid) (a:=kid) (v:=ptrv k) zlb (zoI _) h3' ?_;rw [zlX];simp (disch:=omega) only [↓RD,RZ];have a1:AtS [c,c + 1,c + 2] H1 (H1.set (c + 2) (some ⟨tyK,encM ekid (mapv ptrv (putl kid k lk')),none⟩)):=AtS.set _ (by simp) _;have nn:∀ i,i ≠ c + 2 → (H1.set (c + 2) (some ⟨tyK,encM ekid (mapv ptrv (putl kid k lk')),none⟩)).get i = H1.get i:=fun i hi=>zai _ _ hi;have hS:∀ i ∈ [c,c + 1,c + 2],i < c + 4 ∨ ∃ b,H1.get i = some b ∧ OddR b:=fun i hi=>by simp at hi; omega
  have hO:∀ i ∈ [c,c + 1,c + 2],∃ b,H1.get i = some b ∧ Odd b:=fun i hi=>by
   obtain ⟨b,hb,ho⟩:=hR1.odd i (by simp at hi; omega) (by simp at hi; omega);exact ⟨b,hb,ho.1⟩
  obtain ⟨lc,h1,h2⟩:=hR1.ch;refine ⟨k,rfl,hK.atS a1 hO,⟨by rw [zan]; omega,(nn _ (by omega)).trans hr1,⟨lc,(nn _ (by omega)).trans h1,h2.mono fun _ _ g=>g.atS a1 hS⟩,(nn _ (by omega)).trans hR1.win,hR1.wr,⟨putl kid k lk',zal _ _ _,?_⟩⟩,(Grow.atS s1 _).trans a1⟩;exact Al.put (P:=fun q x=>KeyM (H1.set (c + 2) (some ⟨tyK,encM ekid (mapv ptrv (putl kid k lk')),none⟩)) q x) kid (hK.atS a1 hO) (h4'.mono fun _ _ g=>g.atS a1 hO)
 ·have e1:keyR R n t kid base = K:=by unfold keyR; rw [b]; rfl
  have e2:zig R n t kid base = R:=by unfold zig; rw [b]
  have e3:Ax.eqr .ptr true (.ptr k 0) .nilp = some (.bool true):=rfl;have e4:((some k:Option Nat).map ptrv).getD .nilp = .ptr k 0:=rfl;rw [a,e1,e2,e4];simp (disch:=omega) only [↓RD,RZ,e3];exact ⟨k,rfl,hK,hR,AtS.refl _ _⟩
end Go.Ax.SU
/- Lk8 -/
namespace Go.Ax.SU
open Go.Ax
inductive GR
 | err (e:Nat)
 | got (e st sl c:Nat) (p:List Nat)
def grv (H0 H:Heap) (r:V):GR → Prop
 | .err e=>r = .tup [.agg [.int .i64 0,.int .i64 0,.int .i64 0,.int .u64 0,.nils],.int .i64 (e:Nat)]
 | .got e st sl c p=>∃ v,r = .tup [.agg [.int .i64 (e:Nat),.int .i64 (st:Nat),.int .i64 (sl:Nat),.int .u64 (c:Nat),v],.int .i64 0] ∧ By H0.next H v p
def winR (R:Rc) (k:Nat):WS:=(look k R.win).getD (false,0,0)
def zfC (R:Rc) (n t:Nat) (m b:List Nat):Rc × GR :=
 match parse b with
 | .err e=>(R,.err e)
 | .ok k c _ =>
  if 16777216 ≤ k then (R,.err 2) else
  match look (((k / 256:Nat):Int),((k % 8:Nat):Int)) R.ch with
  | none=>(R,.err 10)
  | some (st,base) =>
   if k % 256 / 8 < st then (R,.err 10) else
   if mayW (winR R k) c ≠ 0 then (R,.err (mayW (winR R k) c)) else
   match zjL (keyR R n t k (zc0 base (k % 256 / 8 - st))) b m with
   | .err e=>(zig R n t k (zc0 base (k % 256 / 8 - st)),.err e)
   | .ok p _=>({ zig R n t k (zc0 base (k % 256 / 8 - st)) with win:=putl k (ze9 (winR R k) c) R.win },.got (k / 256) (k % 256 / 8) (k % 8) c p)
theorem zpR (R:Rc) (n t kid:Nat) (base:List Nat):(zig R n t kid base).win = R.win:=by unfold zig; split <;> rfl
theorem zrW (R:Rc) (n t kid:Nat) (base:List Nat):(zig R n t kid base).id = R.id:=by unfold zig; split <;> rfl
theorem zl0 {α β:Type} [DecidableEq α] {a:α} {b:β}:∀ {l:List (α × β)},look a l = some b → (a,b) ∈ l
 | [],h=>by cases h
 | (k,v) :: l,h=>by
  simp only [look] at h;split at h
  ·rename_i e;subst e;injection h with h
   subst h;exact List.mem_cons_self
  ·exact List.mem_cons_of_mem _ (zl0 h)
theorem zkp {α β:Type} [DecidableEq α] {a:α} {b:β} {p:α × β}:∀ {l:List (α × β)},p ∈ putl a b l → p = (a,b) ∨ p ∈ l
 | [],h=>by simp [putl] at h; exact .inl h
 | (k,v) :: l,h=>by
  simp only [putl] at h;split at h
  ·rcases List.mem_cons.1 h with h | h
   ·exact .inl h
   ·exact .inr (List.mem_cons_of_mem _ h)
  ·rcases List.mem_cons.1 h with h | h
   ·exact .inr (h ▸ List.mem_cons_self)
   ·rcases zkp h with h | h
    ·exact .inl h
    ·exact .inr (List.mem_cons_of_mem _ h)
theorem winR_r {R:Rc} (h:∀ p ∈ R.win,wsR p.2) (k:Nat):wsR (winR R k):=by
 unfold winR;cases hl:look k R.win with
 | none=>exact ⟨by decide,by decide⟩
 | some w=>exact h _ (zl0 hl)
theorem zuK {w:WS} {n:Nat} (hw:wsR w) (hn:n < 18446744073709551616) (hm:mayW w n = 0):wsR (ze9 w n):=by
 obtain ⟨a,hi,se⟩:=w;obtain ⟨h1,h2⟩:=hw;dsimp only at h1 h2;unfold ze9;dsimp only;split
 ·exact ⟨hn,show (1:Nat) < 18446744073709551616 by decide⟩
 ·rename_i ha;have ha:a = true:=by simpa using ha
  subst ha;split
  ·exact ⟨hn,Nat.or_lt_two_pow (n:=64) (Nat.mod_lt _ (by decide)) (by decide)⟩
  ·rename_i h3;have h4:=zoE hm rfl h3;dsimp only at h4;exact ⟨h1,Nat.or_lt_two_pow (n:=64) h2 (Nat.pow_lt_pow_right (by decide) (by omega))⟩
theorem zov {b:List Nat} {e:Nat} (hp:parse b = .err e):e ≠ 0:=by
 unfold parse at hp;split at hp
 ·injection hp with hp; omega
 ·dsimp only at hp;split at hp
  ·injection hp with hp; omega
  ·split at hp
   ·cases hp
   ·injection hp with hp; omega
theorem zrO {K:Ky} {b m:List Nat} {e:Nat} (h:zjL K b m = .err e):e ≠ 0:=by
 unfold zjL at h;cases hp:parse b with
 | err e'=>rw [hp] at h; injection h with h; subst h; exact zov hp
 | ok kid c n =>
  rw [hp] at h;dsimp only at h;split at h
  ·injection h with h; omega
  ·split at h
   ·injection h with h; omega
   ·split at h
    ·injection h with h; omega
    ·split at h
     ·cases h
     ·injection h with h; omega
theorem neqz {e:Nat} (h:e ≠ 0):(((e:Nat):Int) == 0) = false:=by
 have:¬ ((e:Nat):Int) = 0:=by omega
 simpa using this
theorem AtS.setn {S:List Nat} {H H':Heap} (h:AtS S H H') {q:Nat} (hq:H.next ≤ q) (b:Option Blk):AtS S H (H'.set q b) :=
 ⟨by rw [zan]; exact h.next,fun i hi hs=>by rw [zai _ _ (by omega)]; exact h.same i hi hs⟩
theorem odd_got {cs:List V} (h:∀ v ∈ cs,∀ n,v ≠ .int .u8 n):OddR ⟨zaJ,cs,none⟩ :=
 ⟨⟨show zaJ ≠ zaR by decide,show zaJ ≠ zaT by decide,show zaJ ≠ zav by decide,h⟩,show zaJ ≠ zad by decide,show zaJ ≠ zaN by decide⟩
theorem zo5 {lo1 lo2 c n t:Nat} {H:Heap} {R:Rc} {mv bv:V} {m b:List Nat} (hR:RcM H c R) (hsz:szs R.id = some (n,t)) (hm:By lo1 H mv m) (m8:Ok8 m) (hb:By lo2 H bv b) (b8:Ok8 b) (ml:m.length ≤ 274877906944) (bl:b.length ≤ 1099511627776)
  (hmp:∀ i,mv.pid = some i → i < c ∨ c + 4 ≤ i) (hbp:∀ i,bv.pid = some i → i < c ∨ c + 4 ≤ i) :
  Ok (sem T zbr [.ptr (c + 3) 0,mv,bv]) H fun r H'=>grv H H' r (zfC R n t m b).2 ∧ RcM H' c (zfC R n t m b).1 ∧ AtS [c,c + 1,c + 2] H H':=by
 refine ziA ?_;unfold zfT uL uM uS uT uNFM uNF uE uB uG uH uO uU uc uq;have htop:=hR.top;refine zao (zaQ rfl ?_);rw [zaj];have s0:=Grow.new H ⟨zaJ,[.int .i64 0,.int .i64 0,.int .i64 0,.int .u64 0,.nils],none⟩;have g0:(H.new ⟨zaJ,[.int .i64 0,.int .i64 0,.int .i64 0,.int .u64 0,.nils],none⟩).get H.next = some ⟨zaJ,[.int .i64 0,.int .i64 0,.int .i64 0,.int .u64 0,.nils],none⟩:=zab _ _;have n0:(H.new ⟨zaJ,[.int .i64 0,.int .i64 0,.int .i64 0,.int .u64 0,.nils],none⟩).next = H.next + 1:=zaf _ _;generalize hq:H.next = q at *;generalize H.new _ = H0 at *;have hR0:=hR.grow s0;have hb0:=hb.ext s0;have hm0:=hm.ext s0;have fin:∀ (H1:Heap) (R1:Rc) (cs:List V),RcM H1 c R1 → AtS [c,c + 1,c + 2] H H1 → H1.get q = some ⟨zaJ,[.int .i64 0,.int .i64 0,.int .i64 0,.int .u64 0,.nils],none⟩ →
   RcM (H1.set q (some ⟨zaJ,cs,none⟩)) c R1 ∧ AtS [c,c + 1,c + 2] H (H1.set q (some ⟨zaJ,cs,none⟩)):=fun H1 R1 cs h1 h2 h3 =>
  ⟨h1.atS (AtS.set (S:=[q]) H1 (by simp) _) (fun i hi=>by simp at hi; omega) fun i hi=>by
   simp only [List.mem_singleton] at hi;subst hi;exact ⟨_,h3,odd_got (by simp)⟩,h2.setn (by omega) _⟩
 have hpar:=@zbM _ _ _ _ (zob hb0 b8 (by omega));cases hp:parse b with
 | err e =>
  have eo:zfC R n t m b = (R,.err e):=by unfold zfC; rw [hp]
  rw [hp] at hpar;have e0:=neqz (zov hp);rw [eo];simp (disch:=first | omega | (simp only [RY] <;> omega) | decide) only [↓RD,RZ,eq_self,seval,hpar,phv,e0,Bool.not_false,g0];obtain ⟨f1,f2⟩:=fin H0 R [.int .i64 0,.int .i64 0,.int .i64 0,.int .u64 0,.nils] hR0 (Grow.atS s0 _) g0;exact ⟨rfl,f1,f2⟩
 | ok k ct hl =>
  rw [hp] at hpar;obtain ⟨p1,p2,p3,p4⟩:=zow hp b8;have hpt:=@zbM _ _ _ _ (@zpO H0 k p3);by_cases h1:16777216 ≤ k
  ·have eo:zfC R n t m b = (R,.err 2):=by unfold zfC; rw [hp]; dsimp only; rw [if_pos h1]
   have ep:zgG k = .tup [.int .i64 0,.int .i64 0,.int .i64 0,.bool false]:=by unfold zgG; rw [if_pos h1]
   rw [ep] at hpt;rw [eo];simp (disch:=first | omega | (simp only [RY] <;> omega) | decide) only [↓RD,RZ,eq_self,seval,hpar,phv,hpt,g0];obtain ⟨f1,f2⟩:=fin H0 R [.int .i64 0,.int .i64 0,.int .i64 0,.int .u64 0,.nils] hR0 (Grow.atS s0 _) g0;exact ⟨rfl,f1,f2⟩
  ·have ep:zgG k = .tup [.int .i64 (k / 256:Nat),.int .i64 (k % 256 / 8:Nat),.int .i64 (k % 8:Nat),.bool true]:=by unfold zgG; rw [if_neg h1]
   rw [ep] at hpt;have hr0:=hR0.rcd;obtain ⟨lc,c1,c2⟩:=hR0.ch;simp (disch:=first | omega | (simp only [RY] <;> omega) | decide) only [↓RD,RZ,eq_self,seval,hpar,phv,hpt,hr0];refine zi6 (ek:=eplc) (a:=(((k / 256:Nat):Int),((k % 8:Nat):Int))) zoK (zqR _) c1 ?_;rw [ziG];rcases Al.look (((k / 256:Nat):Int),((k % 8:Nat):Int)) c2 with ⟨a1,a2⟩ | ⟨y,x,a1,a2,hch⟩
   ·have eo:zfC R n t m b = (R,.err 10):=by unfold zfC; rw [hp]; dsimp only; rw [if_neg h1,a2]
    have e3:((none:Option Nat).map ptrv).getD .nilp = .nilp:=rfl;rw [eo,a1,e3];simp (disch:=first | omega | (simp only [RY] <;> omega) | decide) only [↓RD,RZ,eq_self,seval,g0];obtain ⟨f1,f2⟩:=fin H0 R [.int .i64 0,.int .i64 0,.int .i64 0,.int .u64 0,.nils] hR0 (Grow.atS s0 _) g0;exact ⟨rfl,f1,f2⟩
   ·obtain ⟨st,base⟩:=x;dsimp only at hch;have e3:((some y:Option Nat).map ptrv).getD .nilp = .ptr y 0:=rfl;have hst:=@zbM _ _ _ _ (zvV hch);rw [a1,e3];by_cases h2:k % 256 / 8 < st
    ·have eo:zfC R n t m b = (R,.err 10):=by unfold zfC; rw [hp]; dsimp only; rw [if_neg h1,a2]; dsimp only; rw [if_pos h2]
     have d:decide (((k % 256 / 8:Nat):Int) < ((st:Nat):Int)) = true:=decide_eq_true (by omega);have d':decide (k % 256 / 8 < st) = true:=decide_eq_true h2;rw [eo];simp (disch:=first | omega | (simp only [RY] <;> omega) | decide) only [↓RD,RZ,eq_self,seval,hst,d,d',g0];obtain ⟨f1,f2⟩:=fin H0 R [.int .i64 0,.int .i64 0,.int .i64 0,.int .u64 0,.nils] hR0 (Grow.atS s0 _) g0;exact ⟨rfl,f1,f2⟩
    ·have d:decide (((k % 256 / 8:Nat):Int) < ((st:Nat):Int)) = false:=decide_eq_false (by omega);have d':decide (k % 256 / 8 < st) = false:=decide_eq_false h2;simp (disch:=first | omega | (simp only [RY] <;> omega) | decide) only [↓RD,RZ,eq_self,seval,hst,d,d',hr0];refine zi6 (ek:=ekid) (a:=k) zlb (zoI _) hR0.win ?_;rw [ziG];have ew:((look k R.win).map wsv).getD (.agg [.bool false,.int .u64 0,.int .u64 0]) = wsv (winR R k):=by unfold winR; cases look k R.win <;> rfl
     rw [ew];have hwr:=winR_r hR0.wr k;have gz:=zab H0 ⟨zat,[.bool false,.int .u64 0,.int .u64 0],none⟩;have sz:=Grow.new H0 ⟨zat,[.bool false,.int .u64 0,.int .u64 0],none⟩;have nz:(H0.new ⟨zat,[.bool false,.int .u64 0,.int .u64 0],none⟩).next = H0.next + 1:=zaf _ _;refine zao (zaQ rfl ?_);rw [zaj];generalize hqw:H0.next = q1 at *;generalize H0.new _ = Hz at *;refine zao (zki gz (by rfl) (by decide) (by rfl) ?_);have s1:Grow H0 (Hz.set q1 (some ⟨zat,[.bool (winR R k).1,.int .u64 ((winR R k).2.1:Nat),.int .u64 ((winR R k).2.2:Nat)],none⟩)):=sz.set (by omega) _;have g1:(Hz.set q1 (some ⟨zat,[.bool (winR R k).1,.int .u64 ((winR R k).2.1:Nat),.int .u64 ((winR R k).2.2:Nat)],none⟩)).get q1 = _:=zal _ _ _;have n1:(Hz.set q1 (some ⟨zat,[.bool (winR R k).1,.int .u64 ((winR R k).2.1:Nat),.int .u64 ((winR R k).2.2:Nat)],none⟩)).next = Hz.next:=rfl;show Ok _ (Hz.set q1 (some ⟨zat,[.bool (winR R k).1,.int .u64 ((winR R k).2.1:Nat),.int .u64 ((winR R k).2.2:Nat)],none⟩)) _;generalize hw:winR R k = W at *;generalize Heap.set Hz _ _ = H1 at *;have hmay:=@zrS H1 W ct hwr p4;obtain ⟨wa,wh,ws⟩:=W;simp (disch:=first | omega | (simp only [RY] <;> omega) | decide) only [↓RD,RZ,eq_self,seval,g1];refine zag hmay ?_;rintro _ H2 ⟨rfl,s2⟩;have s12:=s1.trans s2;have hR2:=hR0.grow s12;have g2:=(s12.same q (by omega)).trans g0;have gw2:=(s2.same q1 (by omega)).trans g1;have a02:=Grow.atS (s0.trans s12) [c,c + 1,c + 2];have n2:=s2.next;by_cases h3:mayW (wa,wh,ws) ct = 0
     ·have e0:(((mayW (wa,wh,ws) ct:Nat):Int) == 0) = true:=by rw [h3]; rfl
      have hst31:k % 256 / 8 ≤ 31:=by omega
      simp (disch:=first | omega | (simp only [RY] <;> omega) | decide) only [↓RD,RZ,eq_self,seval,e0,Bool.not_true];refine zag (At_c_ok (hch.grow s12) hst31 (by omega)) ?_;rintro _ H3 ⟨v3,rfl,hv3,s3⟩;have n3:=s3.next;have B8:=zmb hch.b8 (k % 256 / 8 - st);have Bl:=zje (m:=1099511627) hch.bl (by decide) (k % 256 / 8 - st);generalize hB:zc0 base (k % 256 / 8 - st) = B at *;simp (disch:=first | omega | (simp only [RY] <;> omega) | decide) only [↓RD,RZ,eq_self,seval];refine zag (key_ok (hR2.grow s3) hsz p3 hv3 B8 (by omega)) ?_;rintro _ H4 ⟨k4,rfl,hk4,hR4,a4⟩;have n4:=a4.next;have a04:=(a02.trans (Grow.atS s3 _)).trans a4;have nS:∀ i,c + 4 ≤ i → i ∉ [c,c + 1,c + 2]:=fun i hi=>by simp; omega
      have bS:∀ {v:V},(∀ i,v.pid = some i → i < c ∨ c + 4 ≤ i) → ∀ i,v.pid = some i → i ∉ [c,c + 1,c + 2]:=fun h i hi=>by have:=h i hi; simp; omega
      have g4:=(a4.same q (by omega) (nS _ (by omega))).trans ((s3.same q (by omega)).trans g2);have gw4:=(a4.same q1 (by omega) (nS _ (by omega))).trans ((s3.same q1 (by omega)).trans gw2);have hb4:=Lc.atS ((hb0.ext s12).ext s3) a4 (bS hbp);have hm4:=Lc.atS ((hm0.ext s12).ext s3) a4 (bS hmp);simp (disch:=first | omega | (simp only [RY] <;> omega) | decide) only [↓RD,RZ,eq_self,seval];refine zag (Open_ok hk4 hb4 b8 hm4 m8 ml bl) ?_;rintro _ H5 ⟨s5,h5⟩;have n5:=s5.next;have hR5:=hR4.grow s5;have g5:=(s5.same q (by omega)).trans g4;have gw5:=(s5.same q1 (by omega)).trans gw4;have a05:=a04.trans (Grow.atS s5 _);have eo0:zfC R n t m b = match zjL (keyR R n t k B) b m with
        | .err e=>(zig R n t k B,.err e)
        | .ok p _=>({ zig R n t k B with win:=putl k (ze9 (wa,wh,ws) ct) R.win },.got (k / 256) (k % 256 / 8) (k % 8) ct p):=by
       unfold zfC; rw [hp]; dsimp only; rw [if_neg h1,a2]; dsimp only; rw [if_neg h2,hw,hB,if_neg (fun h=>h h3)]
      cases hop:zjL (keyR R n t k B) b m with
      | err e =>
       rw [hop] at h5 eo0;have h5:_ = _:=h5;subst h5;have e5:=neqz (zrO hop);rw [eo0];simp (disch:=first | omega | (simp only [RY] <;> omega) | decide) only [↓RD,RZ,eq_self,seval,e5,Bool.not_false,g5];obtain ⟨f1,f2⟩:=fin H5 _ [.int .i64 0,.int .i64 0,.int .i64 0,.int .u64 0,.nils] hR5 a05 g5;exact ⟨rfl,f1,f2⟩
      | ok p c' =>
       rw [hop] at h5 eo0;obtain ⟨v5,rfl,hv5⟩:=h5;have hr5:=hR5.rcd;have hmk:=@zuI H5 (wa,wh,ws) ct hwr p4;rw [eo0];simp (disch:=first | omega | (simp only [RY] <;> omega) | decide) only [↓RD,RZ,eq_self,seval,hr5,gw5];refine zag hmk ?_;rintro _ H6 ⟨s6,h6,-⟩;have h6:=h6 h3;subst h6;have n6:=s6.next;have hR6:=hR5.grow s6;have hr6:=hR6.rcd;have e6:H6.get (c + 3) = H5.get (c + 3):=s6.same _ (by omega);have g6:=(s6.same q (by omega)).trans g5;have hw6:=hR6.win;rw [zpR] at hw6;have m1:=zuK (n:=ct) hwr p4 h3;simp (disch:=first | omega | (simp only [RY] <;> omega) | decide) only [↓RD,RZ,eq_self,seval,e6];refine zk4 (ek:=ekid) (a:=k) (v:=wsv (ze9 (wa,wh,ws) ct)) zlb (zoI _) hw6 ?_;rw [zlX];have a7:AtS [c,c + 1,c + 2] H6 (H6.set (c + 1) (some ⟨tyW,encM ekid (mapv wsv (putl k (ze9 (wa,wh,ws) ct) R.win)),none⟩)):=AtS.set _ (by simp) _;have g7:(H6.set (c + 1) (some ⟨tyW,encM ekid (mapv wsv (putl k (ze9 (wa,wh,ws) ct) R.win)),none⟩)).get (c + 1) = _:=zal _ _ _;have nn:∀ i,i ≠ c + 1 → (H6.set (c + 1) (some ⟨tyW,encM ekid (mapv wsv (putl k (ze9 (wa,wh,ws) ct) R.win)),none⟩)).get i = H6.get i:=fun i hi=>zai _ _ hi;have n7:(H6.set (c + 1) (some ⟨tyW,encM ekid (mapv wsv (putl k (ze9 (wa,wh,ws) ct) R.win)),none⟩)).next = H6.next:=rfl;generalize Heap.set H6 _ _ = H7 at *;have hS:∀ i ∈ [c,c + 1,c + 2],i < c + 4 ∨ ∃ b,H6.get i = some b ∧ OddR b:=fun i hi=>by simp at hi; omega
       have hO:∀ i ∈ [c,c + 1,c + 2],∃ b,H6.get i = some b ∧ Odd b:=fun i hi=>by
        obtain ⟨b,hb,ho⟩:=hR6.odd i (by simp at hi; omega) (by simp at hi; omega);exact ⟨b,hb,ho.1⟩
       obtain ⟨lc',x1,x2⟩:=hR6.ch;obtain ⟨lk',x3,x4⟩:=hR6.ks;have hR7:RcM H7 c { zig R n t k B with win:=putl k (ze9 (wa,wh,ws) ct) R.win } :=
        ⟨by have:=hR6.top; omega,(nn _ (by omega)).trans hr6,⟨lc',(nn _ (by omega)).trans x1,x2.mono fun _ _ g=>g.atS a7 hS⟩,g7,fun p hp=>by
         rcases zkp hp with rfl | hp
         ·exact m1
         ·exact hR.wr p hp,⟨lk',(nn _ (by omega)).trans x3,x4.mono fun _ _ g=>g.atS a7 hO⟩⟩
       have gq7:=(nn q (by omega)).trans g6;have a07:=(a05.trans (Grow.atS s6 _)).trans a7;have hv7:=Lc.atS (hv5.ext s6) a7 fun i hi=>nS i (by have:=(hv5.own i hi).1; omega);have vc:=hv7.cells1;have vo:=hv7.okc;simp (disch:=first | omega | (simp only [RY] <;> omega) | decide) only [↓RD,RZ,eq_self,seval,gq7,vc,vo];obtain ⟨f1,f2⟩:=fin H7 _ [.int .i64 (k / 256:Nat),.int .i64 (k % 256 / 8:Nat),.int .i64 (k % 8:Nat),.int .u64 (ct:Nat),v5] hR7 a07 gq7;refine ⟨⟨v5,rfl,?_⟩,f1,f2⟩;exact (Lc.atS hv7 (AtS.set (S:=[q]) H7 (by simp) _) fun i hi e=>by
        simp only [List.mem_singleton] at e;have:=(hv5.own i hi).1;omega).low (by omega)
     ·have eo:zfC R n t m b = (R,.err (mayW (wa,wh,ws) ct)):=by
       unfold zfC; rw [hp]; dsimp only; rw [if_neg h1,a2]; dsimp only; rw [if_neg h2,hw,if_pos h3]
      have e0:=neqz h3;rw [eo];simp (disch:=first | omega | (simp only [RY] <;> omega) | decide) only [↓RD,RZ,eq_self,seval,e0,Bool.not_false,g2];obtain ⟨f1,f2⟩:=fin H2 R [.int .i64 0,.int .i64 0,.int .i64 0,.int .u64 0,.nils] hR2 a02 g2;exact ⟨rfl,f1,f2⟩
end Go.Ax.SU
/- Lk9 -/
namespace Go.Ax.SU
open Go.Ax
theorem SndM.odd {H:Heap} {s:Nat} {id slot:Int} {x:SS} (h:SndM 0 H s id slot x):∃ b,H.get s = some b ∧ OddR b:=by
 obtain ⟨h0,h1⟩:=h;cases x with
 | none=>exact ⟨_,h1,zoC _ _ _ _ _ _ (.inl rfl),show zaG ≠ zad by decide,show zaG ≠ zaN by decide⟩
 | some q =>
  obtain ⟨K,e,st,c⟩:=q;obtain ⟨_,k,h3,_⟩:=h1;exact ⟨_,h3,zoC _ _ _ _ _ _ (.inr ⟨k,rfl⟩),show zaG ≠ zad by decide,show zaG ≠ zaN by decide⟩
theorem RcM.snd {H H':Heap} {s c:Nat} {id slot:Int} {x:SS} {R:Rc} (h:RcM H c R) (hs:SndM 0 H s id slot x) (a:AtS [s] H H') (hsc:s < c):RcM H' c R :=
 h.atS a (fun i hi=>by simp at hi; omega) fun i hi=>by simp only [List.mem_singleton] at hi; subst hi; exact hs.odd
theorem SndM.rcv {H H':Heap} {s c:Nat} {id slot:Int} {x:SS} {R:Rc} (hs:SndM 0 H s id slot x) (h:RcM H c R) (a:AtS [c,c + 1,c + 2] H H') (hsc:s < c):SndM 0 H' s id slot x :=
 hs.atS a (by simp; omega) fun i hi=>by
  obtain ⟨b,hb,ho⟩:=h.odd i (by simp at hi; omega) (by simp at hi; omega);exact ⟨b,hb,ho.1⟩
theorem znk {H:Heap} {id slot n t:Nat} (h:szs id = some (n,t)) (hs:slot < 8):Ok (sem T zdb [.int .i64 (id:Nat),.int .i64 (slot:Nat)]) H fun r H'=>Grow H H' ∧ ∃ s,r = .tup [.ptr s 0,.int .i64 0] ∧ SndM 0 H' s (id:Nat) (slot:Nat) none ∧ H.next ≤ s:=by
 refine zas (zqh (id:Nat) (slot:Nat) (by omega)) ?_;rintro r H' ⟨g,⟨h1 | h1 | h1,_⟩ | ⟨n',t',s,h1,h2,h3,h4,rfl,h5,h6⟩⟩
 ·rw [zlU (by omega) (by rw [Int.toNat_natCast]; exact h)] at h1; cases h1
 ·omega
 ·omega
 ·exact ⟨g,s,rfl,h5 0,h6⟩
theorem zlo {H:Heap} {id n t:Nat} (h:szs id = some (n,t)):Ok (sem T zbO [.int .i64 (id:Nat)]) H fun r H'=>Grow H H' ∧ ∃ c,r = .tup [.ptr (c + 3) 0,.int .i64 0] ∧ RcM H' c ⟨id,[],[],[]⟩ ∧ H.next ≤ c:=by
 refine zas (zjD (id:Nat) (by omega)) ?_;rintro r H' ⟨g,⟨h1 | h1,_⟩ | ⟨n',t',s,h1,h2,rfl,h5,h6⟩⟩
 ·omega
 ·rw [Int.toNat_natCast,h] at h1; cases h1
 ·rw [Int.toNat_natCast] at h5;exact ⟨g,s,rfl,h5,h6⟩
theorem znS {K:Ky} {c:Nat} {m p:List Nat} (hk:K.kid < 18446744073709551616) (hc:c < 18446744073709551616):parse (zed K c m p) = .ok K.kid c (hdr K.kid c).length:=by
 unfold zed;rw [List.append_assoc];exact zpt hk hc _
theorem zsK {R:Rc} {n t c st:Nat} {m p base:List Nat} {K:Ky} (hk:K.kid < 16777216) (hc:c < 18446744073709551616) (ht:K.t ≤ 32) (hp:p.length ≤ 1000) (hl:look (((K.kid / 256:Nat):Int),((K.kid % 8:Nat):Int)) R.ch = some (st,base)) (hst:st ≤ K.kid % 256 / 8)
  (hK:keyR R n t K.kid (zc0 base (K.kid % 256 / 8 - st)) = K) (hm:mayW (winR R K.kid) c = 0) :
  zfC R n t m (zed K c m p) = ({ zig R n t K.kid (zc0 base (K.kid % 256 / 8 - st)) with win:=putl K.kid (ze9 (winR R K.kid) c) R.win },.got (K.kid / 256) (K.kid % 256 / 8) (K.kid % 8) c p):=by
 unfold zfC;rw [znS (by omega) hc];dsimp only;rw [if_neg (by omega),hl];dsimp only;rw [if_neg (by omega),if_neg (fun h=>h hm),hK,zuc ht (by omega) hc hp]
theorem zud {R:Rc} {n t c st:Nat} {m p base:List Nat} {K:Ky} (hk:K.kid < 16777216) (hc:c < 18446744073709551616) (hl:look (((K.kid / 256:Nat):Int),((K.kid % 8:Nat):Int)) R.ch = some (st,base)) (hst:st ≤ K.kid % 256 / 8)
  (hm:mayW (winR R K.kid) c ≠ 0):zfC R n t m (zed K c m p) = (R,.err (mayW (winR R K.kid) c)):=by
 unfold zfC;rw [znS (by omega) hc];dsimp only;rw [if_neg (by omega),hl];dsimp only;rw [if_neg (by omega),if_pos hm]
theorem zn9 {H:Heap}:Ok (sem T zcf []) H fun r H'=>r = .bool true ∧ Grow H H':=by
 refine zhL ?_;unfold ze4 uL uT uE uB uG uH uO uc ub uq;refine zag (znk (id:=1) (slot:=2) rfl (by decide)) ?_;rintro _ H1 ⟨s1,s,rfl,hs1,l1⟩;have n1:=s1.next;simp (disch:=omega) only [↓RD,RZ,eq_self,seval];refine zag (zlo (id:=1) rfl) ?_;rintro _ H2 ⟨s2,c,rfl,hR2,l2⟩;have n2:=s2.next;have hsc:s < c:=Nat.lt_of_lt_of_le hs1.1 l2;have hs2:=hs1.grow s2;have G2:=s1.trans s2;simp (disch:=omega) only [↓RD,RZ,eq_self,seval];rw [zaK];refine zin (l:=[98,97,115,101]) rfl (by decide) fun bv H3 hb s3=>?_;have hs3:=hs2.grow s3;have hR3:=hR2.grow s3;have G3:=G2.trans s3;refine zag (Use_ok hs3 (by decide) (show szs ((1:Nat):Int).toNat = some (16,10) from rfl) 0 0 hb (all8 rfl) (by decide)) ?_;rintro _ H4 ⟨rfl,hs4,a4⟩;have e4:useS ((1:Nat):Int) ((2:Nat):Int) 16 10 none 0 0 [98,97,115,101] = (some (drv 1 2 16 10 [98,97,115,101],0,0,0),0):=rfl;rw [e4] at hs4 ⊢;have hR4:=hR3.snd hs3 a4 hsc;have G4:=a4.new G3 (by simp; omega);simp (disch:=omega) only [↓RD,RZ,eq_self,seval];rw [zaK];refine zin (l:=[98,97,115,101]) rfl (by decide) fun bv5 H5 hb5 s5=>?_;have hs5:=hs4.grow s5;have hR5:=hR4.grow s5;have G5:=G4.trans s5;refine zag (zv6 hR5 0 2 0 hb5 (all8 rfl) (by decide)) ?_;rintro _ H6 ⟨rfl,hR6,a6⟩;have e6:addR ⟨1,[],[],[]⟩ 0 2 0 [98,97,115,101] = (⟨1,[((0,2),(0,[98,97,115,101]))],[],[]⟩,0):=rfl;rw [e6] at hR6 ⊢;have hs6:=hs5.rcv hR5 a6 hsc;have G6:=a6.new G5 (by simp; omega);simp (disch:=omega) only [↓RD,RZ,eq_self,seval];rw [zaK];refine zin (l:=[120]) rfl (by decide) fun pv H7 hp7 s7=>?_;have hs7:=hs6.grow s7;have hR7:=hR6.grow s7;have G7:=G6.trans s7;refine zag (SealS_ok hs7 (Lc.nil:By 0 _ .nils []) Ok8.nil hp7 (all8 rfl) (by decide) (by decide)) ?_;rintro _ H8 ⟨hs8,a8,h8⟩;dsimp only at h8;rw [if_neg (by decide)] at h8;obtain ⟨v,rfl,hv⟩:=h8;have hR8:=hR7.snd hs7 a8 hsc;have G8:=a8.new G7 (by simp; omega);have n7:=G7.next;have t7:=hR7.top;generalize hK:drv 1 2 16 10 [98,97,115,101] = K at *;have kk:K.kid = 2:=by rw [← hK]; rfl
 have kt:K.t = 10:=by rw [← hK]; rfl
 have kw:∀ w ∈ K.ws,Word w:=by
  have:=(zoW (id:=1) (kid:=2) (n:=16) (t:=10) (base:=[98,97,115,101]) rfl (by decide)).ws;rw [hK] at this;exact this
 have B8:Ok8 (zed K 0 [] [120]):=seal_8 kw (all8 rfl);have Bl:=zkc (k:=K) (by omega) 0 [] [120];have Bh:=zoO K.kid 0;have vp:∀ i,v.pid = some i → i < c ∨ c + 4 ≤ i:=fun i hi=>.inr (by have:=(hv.own i hi).1; omega);have o1:zfC ⟨1,[((0,2),(0,[98,97,115,101]))],[],[]⟩ 16 10 [] (zed K 0 [] [120]) = (⟨1,[((0,2),(0,[98,97,115,101]))],[(2,(true,0,1))],[(2,K)]⟩,.got 0 0 2 0 [120]):=by
  have:=zsK (R:=⟨1,[((0,2),(0,[98,97,115,101]))],[],[]⟩) (n:=16) (t:=10) (c:=0) (st:=0) (m:=[]) (p:=[120]) (base:=[98,97,115,101]) (K:=K) (by omega) (by decide) (by omega) (by decide) (by rw [kk]; rfl) (by omega) (by rw [kk]; exact hK) (by rw [kk]; rfl);rw [kk] at this;rw [this];have e:zig ⟨1,[((0,2),(0,[98,97,115,101]))],[],[]⟩ 16 10 2 (zc0 [98,97,115,101] (2 % 256 / 8 - 0)) = ⟨1,[((0,2),(0,[98,97,115,101]))],[],[(2,drv 1 2 16 10 [98,97,115,101])]⟩:=rfl;rw [e,hK];rfl
 have o2:zfC ⟨1,[((0,2),(0,[98,97,115,101]))],[(2,(true,0,1))],[(2,K)]⟩ 16 10 [] (zed K 0 [] [120]) = (⟨1,[((0,2),(0,[98,97,115,101]))],[(2,(true,0,1))],[(2,K)]⟩,.err 9):=by
  have e9:mayW (winR ⟨1,[((0,2),(0,[98,97,115,101]))],[(2,(true,0,1))],[(2,K)]⟩ 2) 0 = 9:=rfl;have:=zud (R:=⟨1,[((0,2),(0,[98,97,115,101]))],[(2,(true,0,1))],[(2,K)]⟩) (n:=16) (t:=10) (c:=0) (st:=0) (m:=[]) (p:=[120]) (base:=[98,97,115,101]) (K:=K) (by omega) (by decide) (by rw [kk]; rfl) (by omega) (by rw [kk,e9]; decide);rw [kk,e9] at this;exact this
 simp (disch:=omega) only [↓RD,RZ,eq_self,seval];refine zag (zo5 (n:=16) (t:=10) hR8 rfl (Lc.nil:By 0 _ .nils []) Ok8.nil hv B8 (by decide) (by simp at Bl; omega) (fun i hi=>by cases hi) vp) ?_;rintro _ H9 ⟨h9,hR9,a9⟩;rw [o1] at h9 hR9;obtain ⟨v9,rfl,hv9⟩:=h9;have G9:=a9.new G8 (by simp; omega);have hvv9:=Lc.atS hv a9 fun i hi=>by have:=(hv.own i hi).1; simp; omega
 have vc:=hv9.cells1;have vo:=hv9.okc;have n8:=a8.next;have n9:=a9.next;simp (disch:=omega) only [↓RD,RZ,eq_self,seval,vc,vo];have s10:Grow H9 ((H9.new ⟨zaJ,[.int .i64 0,.int .i64 0,.int .i64 0,.int .u64 0,.nils],none⟩).set H9.next (some ⟨zaJ,[.int .i64 (0:Nat),.int .i64 (0:Nat),.int .i64 (2:Nat),.int .u64 (0:Nat),v9],none⟩)):=(Grow.new _ _).set (Nat.le_refl _) _;have g10:((H9.new ⟨zaJ,[.int .i64 0,.int .i64 0,.int .i64 0,.int .u64 0,.nils],none⟩).set H9.next (some ⟨zaJ,[.int .i64 (0:Nat),.int .i64 (0:Nat),.int .i64 (2:Nat),.int .u64 (0:Nat),v9],none⟩)).get H9.next = _:=zal _ _ _;have n10:((H9.new ⟨zaJ,[.int .i64 0,.int .i64 0,.int .i64 0,.int .u64 0,.nils],none⟩).set H9.next (some ⟨zaJ,[.int .i64 (0:Nat),.int .i64 (0:Nat),.int .i64 (2:Nat),.int .u64 (0:Nat),v9],none⟩)).next = H9.next + 1:=rfl;show Ok _ ((H9.new ⟨zaJ,[.int .i64 0,.int .i64 0,.int .i64 0,.int .u64 0,.nils],none⟩).set H9.next (some ⟨zaJ,[.int .i64 (0:Nat),.int .i64 (0:Nat),.int .i64 (2:Nat),.int .u64 (0:Nat),v9],none⟩)) _;generalize hq:H9.next = q at *;generalize Heap.set _ q _ = H10 at *;have G10:=G9.trans s10;refine zag (zo5 (n:=16) (t:=10) (hR9.grow s10) rfl (Lc.nil:By 0 _ .nils []) Ok8.nil (hvv9.ext s10) B8 (by decide) (by simp at Bl; omega) (fun i hi=>by cases hi) vp) ?_;rintro _ H11 ⟨h11,hR11,a11⟩;rw [o2] at h11;have h11:_ = _:=h11;subst h11;have G11:=a11.new G10 (by simp; omega);have g11:=(a11.same q (by omega) (by simp; omega)).trans g10;have hp11:=Lc.atS (hv9.ext s10) a11 fun i hi=>by have:=(hv9.own i hi).1; simp; omega
 have s12:=Grow.new H11 ⟨zaJ,[.int .i64 0,.int .i64 0,.int .i64 0,.int .u64 0,.nils],none⟩;have n11:=a11.next;simp (disch:=omega) only [↓RD,RZ,eq_self,seval,g11];refine zpB (hp11.ext (s12.set (Nat.le_refl _) _)).rc ?_;have e12:Ax.bin .eql (.str ⟨(([120]:List Nat).map UInt8.ofNat).toArray⟩) (.str ⟨#[120]⟩) = some (.bool true):=by
  show some (V.bool _) = _;rw [show (⟨#[120]⟩:ByteArray) = ⟨(([120]:List Nat).map UInt8.ofNat).toArray⟩ from rfl,zsf (all8 rfl) (all8 rfl)];rfl
 simp (disch:=omega) only [↓RD,RZ,eq_self,seval,e12];exact G11.trans (s12.set (Nat.le_refl _) _)
end Go.Ax.SU
/- Lk10 -/
namespace Go.Ax.SU
open Go.Ax
theorem ztt {lo:Nat} {H:Heap} {bv:V} {b:List Nat} {n:Nat} (hb:By lo H bv b) (b8:Ok8 b) (hbl:b.length ≤ 1099511627) (hn:n ≤ 31) :
  Ok (sem T zce [bv,.int .i64 (n:Nat)]) H fun r H'=>∃ v,r = .tup [v,.int .i64 0] ∧ By H.next H' v (zc0 b n) ∧ Grow H H':=by
 refine zhK ?_;unfold ze3 uL uB uG uH uc ub ug;have d1:decide (((n:Nat):Int) < 0) = false:=decide_eq_false (by omega);have d2:decide ((31:Int) < ((n:Nat):Int)) = false:=decide_eq_false (by omega);simp (disch:=omega) only [↓RD,RZ,eq_self,seval,d1,d2];rw [zaK];refine znK hb (by omega) fun v0 H1 hv0 s1=>?_;simp (disch:=omega) only [↓RD,RZ,eq_self,seval];refine zas (Q:=fun r H'=>∃ v,r = .ex 0 [v] ∧ By H.next H' v (zc0 b n) ∧ Grow H H') ?_ ?_
 ·refine zaE (fun j L H'=>∃ v,L = [v,.int .i64 (j:Nat)] ∧ By H.next H' v (zc0 b j) ∧ Grow H H') n ?_ ?_ ?_
  ·exact ⟨v0,rfl,hv0.by,s1⟩
  ·rintro j L H2 hj ⟨v,rfl,hv,s2⟩;have al:=zje (b:=b) (m:=1099511627) hbl (by decide) j;have d3:decide (((j:Nat):Int) < ((n:Nat):Int)) = true:=decide_eq_true (by omega);unfold zdf uL uT uE uB uO uc ub ug;simp (disch:=omega) only [↓RD,RZ,eq_self,seval,d3];refine zag (zlL (Lc.nil:By 0 H2 .nils []) Ok8.nil (by decide) hv (zmb b8 j) (by omega)) ?_;rintro _ H3 ⟨rfl,s3⟩;have n3:=s3.next;have n2:=s2.next;have sl:(hmac kc [] (zc0 b j)).length = 32:=zc5 _ _ _;have s8:Ok8 (hmac kc [] (zc0 b j)):=zjX _ _ _;have en:(hkdf kc (hmac kc [] (zc0 b j)) sRat ((32 + 31) / 32)).1.take 32 = zc0 b (j + 1):=rfl;generalize hmac kc [] (zc0 b j) = S at *;have sp:=sp32 sl;have l32:(S.map by8).length = 32:=by rw [List.length_map,sl]
   have vs:=zg7 (n:=32) (id:=H3.next);simp (disch:=omega) only [↓RD,RZ,eq_self,seval,l32,sp,vs];have s4:Grow H3 ((H3.new ⟨zae,[.int .u8 0,.int .u8 0,.int .u8 0,.int .u8 0,.int .u8 0,.int .u8 0,.int .u8 0,.int .u8 0,.int .u8 0,.int .u8 0,.int .u8 0,.int .u8 0,.int .u8 0,.int .u8 0,.int .u8 0,.int .u8 0,.int .u8 0,.int .u8 0,.int .u8 0,.int .u8 0,.int .u8 0,.int .u8 0,.int .u8 0,.int .u8 0,.int .u8 0,.int .u8 0,.int .u8 0,.int .u8 0,.int .u8 0,.int .u8 0,.int .u8 0,.int .u8 0],none⟩).set H3.next (some ⟨zae,S.map by8,none⟩)):=(Grow.new _ _).set (Nat.le_refl _) _;have g4:((H3.new ⟨zae,[.int .u8 0,.int .u8 0,.int .u8 0,.int .u8 0,.int .u8 0,.int .u8 0,.int .u8 0,.int .u8 0,.int .u8 0,.int .u8 0,.int .u8 0,.int .u8 0,.int .u8 0,.int .u8 0,.int .u8 0,.int .u8 0,.int .u8 0,.int .u8 0,.int .u8 0,.int .u8 0,.int .u8 0,.int .u8 0,.int .u8 0,.int .u8 0,.int .u8 0,.int .u8 0,.int .u8 0,.int .u8 0,.int .u8 0,.int .u8 0,.int .u8 0,.int .u8 0],none⟩).set H3.next (some ⟨zae,S.map by8,none⟩)).get H3.next = _:=zal _ _ _;have n4:((H3.new ⟨zae,[.int .u8 0,.int .u8 0,.int .u8 0,.int .u8 0,.int .u8 0,.int .u8 0,.int .u8 0,.int .u8 0,.int .u8 0,.int .u8 0,.int .u8 0,.int .u8 0,.int .u8 0,.int .u8 0,.int .u8 0,.int .u8 0,.int .u8 0,.int .u8 0,.int .u8 0,.int .u8 0,.int .u8 0,.int .u8 0,.int .u8 0,.int .u8 0,.int .u8 0,.int .u8 0,.int .u8 0,.int .u8 0,.int .u8 0,.int .u8 0,.int .u8 0,.int .u8 0],none⟩).set H3.next (some ⟨zae,S.map by8,none⟩)).next = H3.next + 1:=rfl;generalize hq:H3.next = q at *;generalize Heap.set _ q _ = H4 at *;rw [zaK,← n4];refine zin (l:=sRat) rfl (by decide) fun x6 H6 hx6 s6=>?_;have g6:=(s6.same q (by omega)).trans g4;have n6:=s6.next;have s26:=(s3.trans s4).trans s6;refine zag (zj9 (n:=32) (ze5 (lo:=0) g6 sl (by omega) (by omega)) s8 (by omega) hx6 (all8 rfl) (by decide) (by decide)) ?_;rintro _ H7 ⟨key,rfl,hkey,s7⟩;rw [en] at hkey;simp (disch:=omega) only [↓RD,RZ,eq_self,seval];exact ⟨key,rfl,hkey.low (by have:=s26.next; omega),s2.trans (s26.trans s7)⟩
  ·rintro L H2 ⟨v,rfl,hv,s2⟩;have d3:decide (((n:Nat):Int) < ((n:Nat):Int)) = false:=decide_eq_false (by omega);unfold zdf uL uT uE uB uO uc ub ug;simp (disch:=omega) only [↓RD,RZ,eq_self,seval,d3];exact ⟨v,rfl,hv,s2⟩
 ·rintro _ H2 ⟨v,rfl,hv,s2⟩;simp (disch:=omega) only [↓RD,RZ,eq_self,seval];exact ⟨v,rfl,hv,s2⟩
end Go.Ax.SU
namespace Go.Ax
open SU
end Go.Ax
/- Lk16 -/
namespace Go.Ax.SU
open Go.Ax
theorem znY {α:Type} [DecidableEq α] {ek:α → V} {mk:MK} (hk:∀ a b,keq mk (ek a) (ek b) = some (decide (a = b))) (a:α):∀ (l:List (α × V)),a ∉ l.map (·.1) → znZ mk (ek a) (encM ek l) = true
 | [],_=>rfl
 | (k,v) :: l,h=>by
  simp only [List.map_cons,List.mem_cons,not_or] at h;rw [ziX];simp only [znZ,hk,decide_eq_false (fun e:k = a=>h.1 e.symm),znY hk a l h.2,Bool.and_self]
theorem zrR {α:Type} [DecidableEq α] {ek:α → V} {p:Bool} {n:Int} (hk:∀ a b,keq (zmJ p) (ek a) (ek b) = some (decide (a = b))) {kp:α → Bool} (hkp:∀ a,zqL p n (ek a) = some (kp a)):∀ (l:List (α × V)),(l.map (·.1)).Nodup →
  mfil p n (encM ek l) = some (encM ek (l.filter fun q=>kp q.1))
 | [],_=>rfl
 | (k,v) :: l,h=>by
  simp only [List.map_cons,List.nodup_cons] at h;rw [ziX];simp only [mfil,znY hk k l h.1,if_true,hkp,Option.bind_some,zrR hk hkp l h.2,Option.map_some,List.filter_cons];cases kp k <;> rfl
theorem zjM {α β:Type} [DecidableEq α] {ek:α → V} {p:Bool} {o id c:Nat} {n:Int} {H:Heap} {ty:TypeId} {op:Option Nat} {b0:Blk} {l:List (α × V)} {f:V → M β} {Q:β → Heap → Prop} (hk:∀ a b,keq (zmJ p) (ek a) (ek b) = some (decide (a = b))) {kp:α → Bool} (hkp:∀ a,zqL p n (ek a) = some (kp a))
  (h0:H.get id = some b0) (h1:b0.cells[0 + o]? = some (.mp c)) (hg:H.get c = some ⟨ty,encM ek l,op⟩) (hn:(l.map (·.1)).Nodup)
  (k:Ok (f .undef) (H.set c (some ⟨ty,encM ek (l.filter fun q=>kp q.1),op⟩)) Q):Ok ((mmapdrop p o (.ptr id 0) (.int .i64 n)).bind f) H Q:=by
 refine zao ⟨_,_,(show mmapdrop p o (.ptr id 0) (.int .i64 n) H = some (.undef,H.set c (some ⟨ty,encM ek (l.filter fun q=>kp q.1),op⟩)) from ?_),k⟩;simp only [mmapdrop,h0,Option.bind_some,h1,hg,zrR hk hkp l hn,Option.map_some]
theorem Al.keys {α β γ:Type} {P:β → γ → Prop}:∀ {l:List (α × β)} {m:List (α × γ)},Al P l m → l.map (·.1) = m.map (·.1)
 | [],[],_=>rfl
 | (k,v) :: l,(k',v') :: m,⟨h1,_,h3⟩=>by rw [List.map_cons,List.map_cons,Al.keys h3]; exact congrArg (· :: _) h1
 | [],_ :: _,h=>h.elim
 | _ :: _,[],h=>h.elim
theorem Al.filter {α β γ:Type} {P:β → γ → Prop} (f:α → Bool):∀ {l:List (α × β)} {m:List (α × γ)},Al P l m → Al P (l.filter fun q=>f q.1) (m.filter fun q=>f q.1)
 | [],[],_=>trivial
 | (k,v) :: l,(k',v') :: m,⟨h1,h2,h3⟩=>by
  have h1:k = k':=h1;subst h1;rw [List.filter_cons,List.filter_cons];cases hf:f k with
  | true=>simp only [hf,if_true]; exact ⟨rfl,h2,Al.filter f h3⟩
  | false=>simp only [hf,Bool.false_eq_true,if_false]; exact Al.filter f h3
 | [],_ :: _,h=>h.elim
 | _ :: _,[],h=>h.elim
theorem zgf {α β:Type} (g:β → V) (f:α → Bool):∀ l:List (α × β),(mapv g l).filter (fun q=>f q.1) = mapv g (l.filter fun q=>f q.1)
 | []=>rfl
 | (k,v) :: l=>by
  show ((k,g v) :: mapv g l).filter (fun q=>f q.1) = _;rw [List.filter_cons,List.filter_cons];cases hf:f k with
  | true=>simp only [hf,if_true]; rw [zgf g f l]; rfl
  | false=>simp only [hf,Bool.false_eq_true,if_false]; exact zgf g f l
theorem zmK {α β:Type} (g:β → V) (l:List (α × β)):(mapv g l).map (·.1) = l.map (·.1):=by
 unfold mapv;rw [List.map_map];rfl
def zqV (e:Int) (p:Int × Int):Bool:=!decide (p.1 < e)
def zks (e:Int) (k:Nat):Bool:=!decide (ziW (k:Nat) < e)
def dropR (R:Rc) (e:Int):Rc:={ R with ch:=R.ch.filter (fun p=>zqV e p.1),win:=R.win.filter (fun p=>zks e p.1),ks:=R.ks.filter (fun p=>zks e p.1) }
theorem zuC (e:Int) (p:Int × Int):zqL true e (eplc p) = some (zqV e p):=rfl
theorem zpK (e:Int) (k:Nat):zqL false e (ekid k) = some (zks e k):=rfl
structure RcN (R:Rc):Prop where
 ch:(R.ch.map (·.1)).Nodup
 win:(R.win.map (·.1)).Nodup
 ks:(R.ks.map (·.1)).Nodup
theorem Drop_ok {H:Heap} {c:Nat} {R:Rc} (hR:RcM H c R) (hN:RcN R) (e:Int):Ok (sem T zcQ [.ptr (c + 3) 0,.int .i64 e]) H fun r H'=>r = .tup [] ∧ RcM H' c (dropR R e) ∧ AtS [c,c + 1,c + 2] H H':=by
 refine ziB ?_;unfold zfU;have htop:=hR.top;obtain ⟨lc,h1,h2⟩:=hR.ch;obtain ⟨lk,h3,h4⟩:=hR.ks;have h5:=hR.win;have hr:=hR.rcd;refine zjM (ek:=eplc) (p:=true) zoK (zuC e) hr rfl h1 (by rw [zmK,h2.keys]; exact hN.ch) ?_;rw [zgf];generalize hB0:(⟨tyC,encM eplc (mapv ptrv (lc.filter fun q=>zqV e q.1)),none⟩:Blk) = B0;have g1:∀ i,i ≠ c → (H.set c (some B0)).get i = H.get i:=fun i hi=>zai _ _ hi;refine zjM (ek:=ekid) (p:=false) zlb (zpK e) ((g1 _ (by omega)).trans hr) rfl ((g1 _ (by omega)).trans h5) (by rw [zmK]; exact hN.win) ?_;rw [zgf];generalize hB1:(⟨tyW,encM ekid (mapv wsv (R.win.filter fun q=>zks e q.1)),none⟩:Blk) = B1;have g2:∀ i,i ≠ c → i ≠ c + 1 → ((H.set c (some B0)).set (c + 1) (some B1)).get i = H.get i:=fun i hi hj=>(zai _ _ hj).trans (g1 i hi);refine zjM (ek:=ekid) (p:=false) zlb (zpK e) ((g2 _ (by omega) (by omega)).trans hr) rfl ((g2 _ (by omega) (by omega)).trans h3) (by rw [zmK,h4.keys]; exact hN.ks) ?_;rw [zgf];generalize hB2:(⟨tyK,encM ekid (mapv ptrv (lk.filter fun q=>zks e q.1)),none⟩:Blk) = B2;have a1:AtS [c,c + 1,c + 2] H (((H.set c (some B0)).set (c + 1) (some B1)).set (c + 2) (some B2)):=((AtS.set _ (by simp) _).trans (AtS.set _ (by simp) _)).trans (AtS.set _ (by simp) _);have k0:(((H.set c (some B0)).set (c + 1) (some B1)).set (c + 2) (some B2)).get c = some B0:=by rw [zai _ _ (by omega),zai _ _ (by omega),zal]
 have k1:(((H.set c (some B0)).set (c + 1) (some B1)).set (c + 2) (some B2)).get (c + 1) = some B1:=by rw [zai _ _ (by omega),zal]
 have k2:(((H.set c (some B0)).set (c + 1) (some B1)).set (c + 2) (some B2)).get (c + 2) = some B2:=zal _ _ _;have k3:(((H.set c (some B0)).set (c + 1) (some B1)).set (c + 2) (some B2)).get (c + 3) = H.get (c + 3):=by rw [zai _ _ (by omega),zai _ _ (by omega),zai _ _ (by omega)]
 have kn:(((H.set c (some B0)).set (c + 1) (some B1)).set (c + 2) (some B2)).next = H.next:=rfl;generalize ((H.set c (some B0)).set (c + 1) (some B1)).set (c + 2) (some B2) = H3 at *;have hS:∀ i ∈ [c,c + 1,c + 2],i < c + 4 ∨ ∃ b,H.get i = some b ∧ OddR b:=fun i hi=>by simp at hi; omega
 have hO:∀ i ∈ [c,c + 1,c + 2],∃ b,H.get i = some b ∧ Odd b:=fun i hi=>by
  obtain ⟨b,hb,ho⟩:=hR.odd i (by simp at hi; omega) (by simp at hi; omega);exact ⟨b,hb,ho.1⟩
 subst hB0 hB1 hB2;refine zgb ⟨_,rfl,rfl,⟨by rw [kn]; exact htop,k3.trans hr,⟨_,k0,(h2.mono fun _ _ g=>g.atS a1 hS).filter (zqV e)⟩,k1,fun p hp=>hR.wr p (List.mem_filter.1 hp).1,⟨_,k2,(h4.mono fun _ _ g=>g.atS a1 hO).filter (zks e)⟩⟩,a1⟩
end Go.Ax.SU
/- Lk11 -/
namespace Go.Ax.SU
open Go.Ax
end Go.Ax.SU
namespace Go.Ax
open SU
end Go.Ax
/- Lk12 -/
namespace Go.Ax.SU
open Go.Ax
theorem zsn {H:Heap} (e st sl:Int):Ok (sem T zbW [.int .i64 e,.int .i64 st,.int .i64 sl]) H fun r H'=>r = kidv e st sl ∧ H' = H:=by
 refine ziz ?_;unfold zfS uL uB uG uH uc uq;by_cases h1:e < 0
 ·have b1:decide (e < 0) = true:=decide_eq_true h1;have hn:¬ zct e st sl:=by unfold zct; omega
  simp (disch:=omega) only [↓RD,RZ,b1,kidv,hn]
 have b1:decide (e < 0) = false:=decide_eq_false h1;by_cases h2:65535 < e
 ·have b2:decide (65535 < e) = true:=decide_eq_true h2;have hn:¬ zct e st sl:=by unfold zct; omega
  simp (disch:=omega) only [↓RD,RZ,b1,b2,kidv,hn]
 have b2:decide (65535 < e) = false:=decide_eq_false h2;by_cases h3:st < 0
 ·have b3:decide (st < 0) = true:=decide_eq_true h3;have hn:¬ zct e st sl:=by unfold zct; omega
  simp (disch:=omega) only [↓RD,RZ,b1,b2,b3,kidv,hn]
 have b3:decide (st < 0) = false:=decide_eq_false h3;by_cases h4:31 < st
 ·have b4:decide (31 < st) = true:=decide_eq_true h4;have hn:¬ zct e st sl:=by unfold zct; omega
  simp (disch:=omega) only [↓RD,RZ,b1,b2,b3,b4,kidv,hn]
 have b4:decide (31 < st) = false:=decide_eq_false h4;by_cases h5:sl < 0
 ·have b5:decide (sl < 0) = true:=decide_eq_true h5;have hn:¬ zct e st sl:=by unfold zct; omega
  simp (disch:=omega) only [↓RD,RZ,b1,b2,b3,b4,b5,kidv,hn]
 have b5:decide (sl < 0) = false:=decide_eq_false h5;by_cases h6:7 < sl
 ·have b6:decide (7 < sl) = true:=decide_eq_true h6;have hn:¬ zct e st sl:=by unfold zct; omega
  simp (disch:=omega) only [↓RD,RZ,b1,b2,b3,b4,b5,b6,kidv,hn]
 have b6:decide (7 < sl) = false:=decide_eq_false h6;have hy:zct e st sl:=by unfold zct; omega
 obtain ⟨e',rfl⟩:∃ n:Nat,e = (n:Nat):=⟨e.toNat,by omega⟩;obtain ⟨st',rfl⟩:∃ n:Nat,st = (n:Nat):=⟨st.toNat,by omega⟩;obtain ⟨sl',rfl⟩:∃ n:Nat,sl = (n:Nat):=⟨sl.toNat,by omega⟩;have w1:IntKind.u64.wrap ((e':Nat):Int) = ((e':Nat):Int):=by rw [wrap_u64]; omega
 have w2:IntKind.u64.wrap ((st':Nat):Int) = ((st':Nat):Int):=by rw [wrap_u64]; omega
 have w3:IntKind.u64.wrap ((sl':Nat):Int) = ((sl':Nat):Int):=by rw [wrap_u64]; omega
 have s1:Ax.bin .shl (.int .u64 (e':Nat)) (.int .u64 8) = some (.int .u64 (e' * 2 ^ 8:Nat)):=by
  have:=@shl_u64 e' 8;rw [show min 8 64 = 8 from rfl,Nat.mod_eq_of_lt (show e' * 2 ^ 8 < 18446744073709551616 by omega)] at this;exact this
 have s2:Ax.bin .shl (.int .u64 (st':Nat)) (.int .u64 3) = some (.int .u64 (st' * 2 ^ 3:Nat)):=by
  have:=@shl_u64 st' 3;rw [show min 3 64 = 3 from rfl,Nat.mod_eq_of_lt (show st' * 2 ^ 3 < 18446744073709551616 by omega)] at this;exact this
 have o1:e' * 2 ^ 8 ||| st' * 2 ^ 3 = (e' * 32 + st') * 2 ^ 3:=by rw [zjo _ _ 8 (by omega)]; omega
 have o2:(e' * 32 + st') * 2 ^ 3 ||| sl' = kidN (e':Nat) (st':Nat) (sl':Nat):=by rw [zjo _ _ 3 (by omega)]; unfold kidN; omega
 have l1:e' * 2 ^ 8 < 18446744073709551616:=by omega
 have l2:st' * 2 ^ 3 < 18446744073709551616:=by omega
 have l3:(e' * 32 + st') * 2 ^ 3 < 18446744073709551616:=by omega
 generalize e' * 2 ^ 8 = x1 at *;generalize st' * 2 ^ 3 = x2 at *;generalize (e' * 32 + st') * 2 ^ 3 = x3 at *;simp (disch:=omega) only [↓RD,RZ,b1,b2,b3,b4,b5,b6,kidv,hy,w1,w2,w3,s1,s2,o1,o2]
theorem ztr {H:Heap} {k:Nat} (hk:k < 18446744073709551616):Ok (sem T zcd [.int .u64 (k:Nat)]) H fun r H'=>r = zgG k ∧ H' = H:=by
 refine zhJ ?_;unfold ze2 uL uB uc uq;by_cases h1:16777216 ≤ k
 ·have b1:decide ((16777216:Int) ≤ ((k:Nat):Int)) = true:=decide_eq_true (by omega);have b1':decide (16777216 ≤ k) = true:=decide_eq_true h1;simp (disch:=omega) only [↓RD,RZ,eq_self,seval,b1,b1',zgG,h1]
 ·have b1:decide ((16777216:Int) ≤ ((k:Nat):Int)) = false:=decide_eq_false (by omega);have b1':decide (16777216 ≤ k) = false:=decide_eq_false h1;have w1:IntKind.i64.wrap ((k / 256:Nat):Int) = ((k / 256:Nat):Int):=wrap_i64 (by omega) (by omega);have w2:IntKind.i64.wrap ((k % 256 / 8:Nat):Int) = ((k % 256 / 8:Nat):Int):=wrap_i64 (by omega) (by omega);have w3:IntKind.i64.wrap ((k % 8:Nat):Int) = ((k % 8:Nat):Int):=wrap_i64 (by omega) (by omega);have e1:k / 8 &&& 31 = k % 256 / 8:=by rw [show (31:Nat) = 2 ^ 5 - 1 from rfl,Nat.and_two_pow_sub_one_eq_mod]; omega
  have e2:k &&& 7 = k % 8:=by rw [show (7:Nat) = 2 ^ 3 - 1 from rfl,Nat.and_two_pow_sub_one_eq_mod]
  simp (disch:=omega) only [↓RD,RZ,eq_self,seval,b1,b1',zgG,h1,e1,e2,w1,w2,w3]
/-! The document's sender in memory. -/
theorem RKs.atS {S:List Nat} {H H':Heap} {R tv sv:V} {K:Ky} (h:RKs H R tv sv K) (s:AtS S H H') (hp:∀ j,R.pid = some j ∨ tv.pid = some j ∨ sv.pid = some j → j ∉ S):RKs H' R tv sv K :=
 ⟨h.good,Lc.atS h.key s fun j hj=>hp j (.inl hj),Lc.atS h.tag s fun j hj=>hp j (.inr (.inl hj)),Lc.atS h.salt s fun j hj=>hp j (.inr (.inr hj))⟩
def rsC (id slot:Int) (any:Bool) (kid c:Nat) (K:List V):List V:=.int .i64 id :: .int .i64 slot :: .bool any :: .int .u64 (kid:Nat) :: .int .u64 (c:Nat) :: K
abbrev tyRS:=zg8
def RsM (H:Heap) (q:Nat) (id slot:Int) (x:SS):Prop:=q < H.next ∧
 match x with
 | none=>H.get q = some ⟨tyRS,rsC id slot false 0 0 Z261,none⟩
 | some (K,e,st,c)=>c < 18446744073709551616 ∧ ∃ R tv sv,H.get q = some ⟨tyRS,rsC id slot true K.kid c (zcG R tv sv K.kid K.t),none⟩ ∧ RKs H R tv sv K ∧ ∀ j,R.pid = some j ∨ tv.pid = some j ∨ sv.pid = some j → q < j
theorem RsM.atS {S:List Nat} {H H':Heap} {q:Nat} {id slot:Int} {x:SS} (h:RsM H q id slot x) (g:AtS S H H') (hS:∀ i ∈ S,i < q):RsM H' q id slot x:=by
 obtain ⟨h0,h1⟩:=h;have hq:q ∉ S:=fun e=>by have:=hS q e; omega
 refine ⟨Nat.lt_of_lt_of_le h0 g.next,?_⟩;cases x with
 | none=>exact (g.same q h0 hq).trans h1
 | some w =>
  obtain ⟨K,e,st,c⟩:=w;obtain ⟨h2,R,tv,sv,h3,h4,h5⟩:=h1;exact ⟨h2,R,tv,sv,(g.same q h0 hq).trans h3,h4.atS g fun j hj e=>by have:=hS j e; have:=h5 j hj; omega,h5⟩
theorem RsM.grow {H H':Heap} {q:Nat} {id slot:Int} {x:SS} (h:RsM H q id slot x) (g:Grow H H'):RsM H' q id slot x:=h.atS (Grow.atS g []) fun i hi=>by simp at hi
end Go.Ax.SU
/- Lk13 -/
namespace Go.Ax.SU
open Go.Ax
/-! Steps,as data. -/
theorem flat_at {α:Type} {k:Nat}:∀ (es:List (List α)),(∀ x ∈ es,x.length = k) → ∀ (i:Nat) (x:List α),es[i]? = some x → (es.flatten.drop (i * k)).take k = x ∧ i * k + k ≤ es.flatten.length:=by
 intro es
 induction es with
 | nil=>intro _ i x h; simp at h
 | cons y es ih =>
  intro h i x hx;have hy:=h y List.mem_cons_self;cases i with
  | zero =>
   simp only [List.getElem?_cons_zero,Option.some.injEq] at hx;subst hx;rw [List.flatten_cons,Nat.zero_mul,List.drop_zero,List.take_left' hy,List.length_append];exact ⟨rfl,by omega⟩
  | succ i =>
   obtain ⟨h1,h2⟩:=ih (fun z hz=>h z (List.mem_cons_of_mem _ hz)) i x (by simpa using hx);have e:(i + 1) * k = k + i * k:=by rw [Nat.succ_mul]; omega
   rw [List.flatten_cons,List.length_append,e,← List.drop_drop,List.drop_left' hy];exact ⟨h1,by omega⟩
theorem zkx {α:Type} {k:Nat} (es:List (List α)) (h:∀ x ∈ es,x.length = k):es.flatten.length = es.length * k:=by
 induction es with
 | nil=>simp
 | cons x es ih=>rw [List.flatten_cons,List.length_append,ih fun y hy=>h y (List.mem_cons_of_mem _ hy),h x (List.mem_cons_self ..),List.length_cons,Nat.succ_mul]; omega
theorem rs_lc {lo e:Nat} {H:Heap} {es:List (List V)} (h:∀ x ∈ es,x.length = e):Lc e lo H (.rs es.flatten es.length) es.flatten es.length:=by
 refine ⟨?_,fun i hi=>(by cases hi),trivial⟩;have:=zkx es h;simp only [zbn];rw [if_pos (by omega),List.take_of_length_le (by omega)]
theorem zvB (es:List (List V)):∀ x ∈ es,V.blks x ≤ V.blks es.flatten:=by
 induction es with
 | nil=>intro x h; cases h
 | cons y es ih =>
  intro x hx;rw [List.flatten_cons,zhY];rcases List.mem_cons.1 hx with rfl | hx
  ·omega
  ·have:=ih x hx; omega
structure Sp where
 op:Int
 e:Int
 st:Int
 m:List Nat
 b:List Nat
end Go.Ax.SU
/- Lk17 -/
namespace Go.Ax.SU
open Go.Ax
theorem _root_.Go.Ax.App.blk {ty e lo n:Nat} {H:Heap} {v:V} {cells:List V} (h:App ty e lo H v cells n):∀ i,v.pid = some i → ∃ o,H.get i = some ⟨ty,cells,o⟩:=by
 intro i hi;cases h with
 | opn h ho =>
  rcases h with ⟨rfl,_⟩ | ⟨id,rfl,hg,_⟩
  ·cases hi
  ·simp only [V.pid,Option.some.injEq] at hi;subst hi;exact ⟨_,hg⟩
 | lit h h0 h1 =>
  simp only [V.pid,Option.some.injEq] at hi;subst hi;exact ⟨_,h⟩
theorem _root_.Go.Ax.App.atS {ty e lo n:Nat} {S:List Nat} {H H':Heap} {v:V} {cells:List V} (h:App ty e lo H v cells n) (s:AtS S H H') (hS:∀ i,v.pid = some i → i ∉ S):App ty e lo H' v cells n:=by
 cases h with
 | opn h ho=>exact .opn (h.to fun i hi=>s.same i (ho i hi).2 (hS i hi)) fun i hi=>⟨(ho i hi).1,Nat.lt_of_lt_of_le (ho i hi).2 s.next⟩
 | lit h h0 h1=>exact .lit ((s.same _ h1 (hS _ rfl)).trans h) h0 (Nat.lt_of_lt_of_le h1 s.next)
theorem _root_.Go.Ax.Step.atS {H H':Heap} {F F':List Nat} (h:Step H H' F F'):AtS F H H':=⟨h.next,h.same⟩
theorem odd_bss {cs:List V} {o:Option Nat} (h:∀ v ∈ cs,∀ n,v ≠ .int .u8 n):OddR ⟨zar,cs,o⟩ :=
 ⟨⟨show zar ≠ zaR by decide,show zar ≠ zaT by decide,show zar ≠ zav by decide,h⟩,show zar ≠ zad by decide,show zar ≠ zaN by decide⟩
theorem By.nu8 {lo:Nat} {H:Heap} {v:V} {l:List Nat} (h:By lo H v l):∀ n,v ≠ .int .u8 n:=fun n e=>by
 have:=h.rc;rw [e] at this;cases this
structure Sl (lo:Nat) (H:Heap) (sv:V) (vs:List V) (K:Ky) (cs:List (List V × List Nat)) (n:Nat):Prop where
 app:App zar 1 lo H sv vs n
 len:vs.length = n
 le:n ≤ cs.length
 each:∀ j (hj:j < n) (hc:j < cs.length),∃ v,vs[j]? = some v ∧ By lo H v (zed K j [109] cs[j].2) ∧ ∀ q,v.pid = some q → sv.pid ≠ some q
 short:∀ j (hc:j < cs.length),j < n → cs[j].2.length ≤ 300
theorem Sl.atS {lo n:Nat} {S:List Nat} {H H':Heap} {sv:V} {vs:List V} {K:Ky} {cs:List (List V × List Nat)} (h:Sl lo H sv vs K cs n) (s:AtS S H H') (hS:∀ i ∈ S,i < lo):Sl lo H' sv vs K cs n :=
 ⟨h.app.atS s fun i hi e=>by have:=(h.app.lc.own i hi).1; have:=hS i e; omega,h.len,h.le,fun j hj hc=>by
  obtain ⟨v,h1,h2,h3⟩:=h.each j hj hc;exact ⟨v,h1,Lc.atS h2 s fun i hi e=>by have:=(h2.own i hi).1; have:=hS i e; omega,h3⟩,h.short⟩
theorem Sl.odd {lo n:Nat} {H:Heap} {sv:V} {vs:List V} {K:Ky} {cs:List (List V × List Nat)} (h:Sl lo H sv vs K cs n):∀ i ∈ sv.pid.toList,∃ b,H.get i = some b ∧ OddR b:=fun i hi=>by
 obtain ⟨o,hb⟩:=h.app.blk i (by simpa [zeF] using hi);refine ⟨_,hb,odd_bss fun v hv=>?_⟩;obtain ⟨j,hj,rfl⟩:=List.mem_iff_getElem.1 hv;have hl:=h.len;have hc:=h.le;obtain ⟨u,h1,h2,_⟩:=h.each j (by omega) (by omega);rw [List.getElem?_eq_getElem hj] at h1;injection h1 with h1
 rw [h1];exact h2.nu8
end Go.Ax.SU
/- Lk21 -/
namespace Go.Ax.SU
open Go.Ax
abbrev tyRR:=zd5
abbrev tyCh:=zaL
structure Ch where
 e:Int
 sl:Int
 st:Nat
 base:List Nat
 ws:List WS
def chC (p:V × Ch):List V:=.int .i64 p.2.e :: .int .i64 p.2.sl :: .int .i64 (p.2.st:Nat) :: p.1 :: (p.2.ws.map wsC).flatten
structure ChG (x:Ch):Prop where
 ws:x.ws.length = 32
 wr:∀ w ∈ x.ws,wsR w
 b8:Ok8 x.base
 bl:x.base.length ≤ 1099511627
 st:x.st ≤ 31
 ko:zct x.e 0 x.sl
theorem ztB (w:WS):(wsC w).length = 3:=rfl
theorem zlk {p:V × Ch} (h:ChG p.2):(chC p).length = 100:=by
 have:=zkx (k:=3) (p.2.ws.map wsC) (fun x hx=>by
  obtain ⟨w,_,rfl⟩:=List.mem_map.1 hx;rfl)
 rw [List.length_map,h.ws] at this;unfold chC;simp only [List.length_cons,this]
structure DM (lo:Nat) (H:Heap) (q id:Nat) (cs:List (V × Ch)):Prop where
 low:q < H.next
 loq:lo ≤ q
 le:cs.length ≤ 64
 mem:∃ lv,H.get q = some ⟨tyRR,[.int .i64 (id:Nat),lv],none⟩ ∧ App tyCh 100 lo H lv ((cs.map chC).flatten) cs.length ∧ lv.pid ≠ some q ∧ ∀ p ∈ cs,∀ i,p.1.pid = some i → lv.pid ≠ some i
 each:∀ p ∈ cs,ChG p.2 ∧ By lo H p.1 p.2.base ∧ p.1.pid ≠ some q
theorem DM.atS {lo q id:Nat} {S:List Nat} {H H':Heap} {cs:List (V × Ch)} (h:DM lo H q id cs) (s:AtS S H H') (hS:∀ i ∈ S,i < lo):DM lo H' q id cs:=by
 obtain ⟨lv,h1,h2,h3,h4⟩:=h.mem;refine ⟨Nat.lt_of_lt_of_le h.low s.next,h.loq,h.le,⟨lv,(s.same q h.low fun e=>by have:=hS q e; have:=h.loq; omega).trans h1,h2.atS s fun i hi e=>by have:=(h2.lc.own i hi).1; have:=hS i e; omega,h3,h4⟩,fun p hp=>?_⟩;obtain ⟨g1,g2,g3⟩:=h.each p hp;exact ⟨g1,Lc.atS g2 s fun i hi e=>by have:=(g2.own i hi).1; have:=hS i e; omega,g3⟩
theorem DM.grow {lo q id:Nat} {H H':Heap} {cs:List (V × Ch)} (h:DM lo H q id cs) (s:Grow H H'):DM lo H' q id cs:=h.atS (Grow.atS s []) (by simp)
theorem DM.odd {lo q id:Nat} {H:Heap} {cs:List (V × Ch)} (h:DM lo H q id cs):∃ b,H.get q = some b ∧ OddR b:=by
 obtain ⟨lv,h1,h2,_⟩:=h.mem;refine ⟨_,h1,⟨show tyRR ≠ zaR by decide,show tyRR ≠ zaT by decide,show tyRR ≠ zav by decide,fun v hv n e=>?_⟩,show tyRR ≠ zad by decide,show tyRR ≠ zaN by decide⟩;simp only [List.mem_cons,List.not_mem_nil,or_false] at hv;rcases hv with rfl | rfl
 ·cases e
 ·have:=h2.lc.rc;rw [e] at this;cases this
theorem zse {lo:Nat} {H:Heap} {lv:V} {cs:List (V × Ch)} (h:Lc 100 lo H lv ((cs.map chC).flatten) cs.length) (hg:∀ p ∈ cs,ChG p.2) {i:Nat} (hi:i < cs.length) :
  ∃ p,(∀ {k:IntKind},Ax.iaddr none 100 lv (.int k (i:Nat)) = some p) ∧ Pl H p (chC cs[i]) lv.pid:=by
 obtain ⟨p,hp,hl⟩:=h.at (i:=(i:Nat)) (by omega) (by omega);have e:=(flat_at (k:=100) (cs.map chC) (fun x hx=>by
  obtain ⟨w,hw,rfl⟩:=List.mem_map.1 hx;exact zlk (hg w hw)) i (chC cs[i]) (by rw [List.getElem?_map,List.getElem?_eq_getElem hi]; rfl)).1
 rw [Int.toNat_natCast,e] at hl;exact ⟨p,hp,hl⟩
def isK (e sl:Int) (p:V × Ch):Bool:=decide (p.2.e = e) && decide (p.2.sl = sl)
def atD (e sl:Int) (cs:List (V × Ch)):Int:=match cs.findIdx? (isK e sl) with | some i=>(i:Nat) | none=>-1
theorem zno {lo q id:Nat} {H:Heap} {cs:List (V × Ch)} (hD:DM lo H q id cs) (e sl:Int):Ok (sem T zaO [.ptr q 0,.int .i64 e,.int .i64 sl]) H fun r H'=>r = .int .i64 (atD e sl cs) ∧ H' = H:=by
 refine zfD ?_;unfold zdI uc;obtain ⟨lv,h1,h2,h3,h4⟩:=hD.mem;have hg:∀ p ∈ cs,ChG p.2:=fun p hp=>(hD.each p hp).1;have hvl:=h2.lc.vlen;simp (disch:=omega) only [↓RD,RZ];refine zas (Q:=fun r H'=>H' = H ∧ ((r = .ex 0 [] ∧ cs.findIdx? (isK e sl) = none) ∨ ∃ i:Nat,r = .ret [.int .i64 (i:Nat)] ∧ cs.findIdx? (isK e sl) = some i)) ?_ ?_
 ·refine zaE (fun j L H'=>L = [.int .i64 (j:Nat)] ∧ H' = H ∧ ∀ k (hk:k < cs.length),k < j → isK e sl cs[k] = false) cs.length ?_ ?_ ?_
  ·exact ⟨rfl,rfl,fun k _ hk=>by omega⟩
  ·rintro j _ H hj ⟨rfl,rfl,hno⟩;have d1:decide (((j:Nat):Int) < ((cs.length:Nat):Int)) = true:=decide_eq_true (by omega);have d1':decide (j < cs.length) = true:=decide_eq_true hj;obtain ⟨p,hp,hl⟩:=zse h2.lc hg hj;have fa:=@hl.fa;have c0:(chC cs[j])[0]? = some (.int .i64 cs[j].2.e):=rfl;have c1:(chC cs[j])[1]? = some (.int .i64 cs[j].2.sl):=rfl;have hlen:=zlk (hg _ (List.getElem_mem hj));have l0:∀ {f:V → M Res} {Q:Res → Heap → Prop},@OkB V Res (mload none (Ax.fa p 0)) H ⟨f⟩ ⟨Q⟩ ↔ Ok (f (.int .i64 cs[j].2.e)) H Q:=fun {f Q}=>(hl.ld (by omega)).trans (by rw [c0]; exact Iff.rfl);have l1:∀ {f:V → M Res} {Q:Res → Heap → Prop},@OkB V Res (mload none (Ax.fa p 1)) H ⟨f⟩ ⟨Q⟩ ↔ Ok (f (.int .i64 cs[j].2.sl)) H Q:=fun {f Q}=>(hl.ld (by omega)).trans (by rw [c1]; exact Iff.rfl);have hle:=hD.le;have w1:IntKind.i64.wrap (((j:Nat):Int) + 1) = ((j + 1:Nat):Int):=by rw [wrap_i64 (by omega) (by omega)]; omega
   have step:isK e sl cs[j] = false → ∀ k (hk:k < cs.length),k < j + 1 → isK e sl cs[k] = false:=fun h k hk hkj=>by
    by_cases hkk:k < j
    ·exact hno k hk hkk
    ·have:k = j:=by omega
     subst this;exact h
   unfold zbY uL uFM uNFM uB uI uG uH uc ug;by_cases k1:cs[j].2.e = e
   ·have b1:(cs[j].2.e == e) = true:=by simpa using k1
    by_cases k2:cs[j].2.sl = sl
    ·have b2:(cs[j].2.sl == sl) = true:=by simpa using k2
     simp (disch:=omega) only [↓RD,RZ,h1,hvl,d1,d1',hp,fa,l0,l1,b1,b2];exact .inr ⟨j,rfl,List.findIdx?_eq_some_iff_getElem.2 ⟨hj,by simp [isK,k1,k2],fun k hk=>by simpa using hno k (by omega) hk⟩⟩
    ·have b2:(cs[j].2.sl == sl) = false:=by simpa using k2
     simp (disch:=omega) only [↓RD,RZ,h1,hvl,d1,d1',hp,fa,l0,l1,b1,b2,w1];exact step (by simp [isK,k2])
   ·have b1:(cs[j].2.e == e) = false:=by simpa using k1
    simp (disch:=omega) only [↓RD,RZ,h1,hvl,d1,d1',hp,fa,l0,l1,b1,w1];exact step (by simp [isK,k1])
  ·rintro _ H ⟨rfl,rfl,hno⟩;have d1:decide (((cs.length:Nat):Int) < ((cs.length:Nat):Int)) = false:=decide_eq_false (by omega);have d1':decide (cs.length < cs.length) = false:=decide_eq_false (by omega);unfold zbY uL uFM uNFM uB uI uG uH uc ug;simp (disch:=omega) only [↓RD,RZ,h1,hvl,d1,d1'];refine .inl (List.findIdx?_eq_none_iff.2 fun x hx=>?_);obtain ⟨k,hk,rfl⟩:=List.mem_iff_getElem.1 hx;exact hno k hk hk
 ·rintro _ H ⟨rfl,⟨rfl,hn⟩ | ⟨i,rfl,hn⟩⟩
  ·have:atD e sl cs = -1:=by unfold atD; rw [hn]
   simp (disch:=omega) only [↓RD,RZ,this]
  ·have:atD e sl cs = (i:Nat):=by unfold atD; rw [hn]
   simp (disch:=omega) only [↓RD,RZ,this]
end Go.Ax.SU
