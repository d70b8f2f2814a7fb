/-
  Texts of mine, put together by program (wip/slim.py), for law_deskSilent: part 9.
-/
import Derived.Test.YthghlbdejdideaaGreatZs8
noncomputable section
set_option linter.unusedVariables false
set_option linter.unusedSimpArgs false
set_option linter.defProp false
set_option maxRecDepth 100000
/- De16 -/
namespace Go.Ax.SU
open Go.Ax
def zbQ (t:Tb) (i:Nat):Tb:=⟨t.u.set i false,t.a.set i 0⟩
theorem znN {t:Tb} (h:TbO t) (i:Nat):TbO (zbQ t i):=⟨by unfold zbQ; rw [List.length_set]; exact h.u8,by unfold zbQ; rw [List.length_set]; exact h.a8⟩
theorem zih {t:Tb} (h:TbO t) {i:Nat} (hi:i < 8) (k:Nat):(zbQ t i).uG k = (t.uG k && decide (k ≠ i)):=by
 unfold zbQ Tb.uG;dsimp only;rw [List.getD_eq_getElem?_getD,List.getD_eq_getElem?_getD,List.getElem?_set];by_cases hk:i = k
 ·subst hk;rw [if_pos rfl,if_pos (by rw [h.u8]; exact hi)];simp
 ·have:k ≠ i:=fun e=>hk e.symm;rw [if_neg hk,decide_eq_true this,Bool.and_true]
theorem zlM {t:Tb} (h:TbO t) {i:Nat} (hi:i < 8) (k:Nat):(zbQ t i).aG k = if k = i then 0 else t.aG k:=by
 unfold zbQ Tb.aG;dsimp only;rw [List.getD_eq_getElem?_getD,List.getD_eq_getElem?_getD,List.getElem?_set];by_cases hk:i = k
 ·subst hk;rw [if_pos rfl,if_pos (by rw [h.a8]; exact hi),if_pos rfl];rfl
 ·rw [if_neg hk,if_neg (fun e=>hk e.symm)]
theorem zhp {t:Tb} (h:zdT t = true) {i:Nat} (hi:i < 8) (hu:t.uG i = true):zgS t (t.aG i) = some i ∧ 0 ≤ t.aG i ∧ t.aG i ≤ 63:=by
 have:=List.all_eq_true.1 h i (List.mem_range.2 hi);unfold zfn at this;rw [if_pos hu] at this;simp only [Bool.and_eq_true,decide_eq_true_eq] at this;exact this
theorem zoy {t:Tb} (h:zdT t = true) {i:Nat} (hi:i < 8) (hu:t.uG i = false):t.aG i = 0:=by
 have:=List.all_eq_true.1 h i (List.mem_range.2 hi);unfold zfn at this;rw [if_neg (by rw [hu]; decide)] at this;simpa using this
theorem zq5 {t:Tb} (h:zdT t = true) {i j:Nat} (hi:i < 8) (hj:j < 8) (hu:t.uG i = true) (hv:t.uG j = true) (e:t.aG i = t.aG j):i = j:=by
 have h1:=(zhp h hi hu).1;have h2:=(zhp h hj hv).1;rw [e,h2] at h1;injection h1 with h1
 exact h1.symm
theorem zk1 {t:Tb} (ht:TbO t) (h:zdT t = true) {i:Nat} (hi:i < 8):zdT (zbQ t i) = true:=by
 unfold zdT;rw [List.all_eq_true];intro k hk;have hk:=List.mem_range.1 hk;unfold zfn;rw [zih ht hi,zlM ht hi];by_cases hki:k = i
 ·subst hki;simp
 ·rw [decide_eq_true hki,Bool.and_true,if_neg hki];cases hu:t.uG k with
  | false =>
   rw [if_neg (by decide),zoy h hk hu];rfl
  | true =>
   obtain ⟨h1,h2,h3⟩:=zhp h hk hu;have hf:zgS (zbQ t i) (t.aG k) = some k:=by
    refine zkT hk ?_ fun m hm=>?_
    ·unfold hitS;rw [zih ht hi,zlM ht hi,if_neg hki,hu,decide_eq_true hki];simp
    ·unfold hitS;rw [zih ht hi,zlM ht hi];by_cases hmi:m = i
     ·subst hmi; simp
     ·rw [if_neg hmi,decide_eq_true hmi,Bool.and_true];have:=(List.find?_range_eq_some.1 h1).2.2 m hm;unfold hitS at this;cases hm2:t.uG m with
      | false=>rfl
      | true =>
       rw [hm2] at this;simpa using this
   rw [if_pos rfl,hf];simp [h2,h3]
theorem tC_free {t:Tb} (h:TbO t) {i:Nat} (hi:i < 8):splice (splice (tC t) i [.bool false]) (8 + i) [.int .i64 0] = tC (zbQ t i):=by
 have st:∀ (l:List V) (k:Nat) (x:V),k < l.length → splice l k [x] = l.set k x:=fun l k x hk=>by
  rw [List.set_eq_take_append_cons_drop,if_pos hk];unfold splice;rw [List.append_assoc];rfl
 have hl:=zcG h;rw [st (tC t) _ _ (by omega),st _ _ _ (by rw [List.length_set]; omega)];unfold tC zbQ;rw [List.set_append_left _ _ (by rw [List.length_map,h.u8]; exact hi),List.set_append_right _ _ (by rw [List.length_set,List.length_map,h.u8]; omega),List.length_set,List.length_map,h.u8,Nat.add_sub_cancel_left,List.map_set,List.map_set]
theorem zqn {H:Heap} (x:Int):Ok (sem T zdU [.int .i64 x]) H fun r H'=>r = .bool (decide (0 ≤ x) && decide (x < 8)) ∧ H' = H:=by
 refine zlu ?_;unfold ziJ uL uB uG uH uc;by_cases h:0 ≤ x
 ·have d:decide ((0:Int) ≤ x) = true:=decide_eq_true h;simp (disch:=omega) only [↓RD,RZ,d,Bool.true_and]
 ·have d:decide ((0:Int) ≤ x) = false:=decide_eq_false h;simp (disch:=omega) only [↓RD,RZ,d,Bool.false_and]
theorem Free_ok {H:Heap} {t:Tb} (ht:TbO t) (hg:zdT t = true) {i:Nat} (hi:i < 8) (hu:t.uG i = true):Ok (sem T zdV [.agg (tC t),.int .i64 (i:Nat)]) H fun x H'=>x = .tup [.agg (tC (zbQ t i)),.int .i64 0] ∧ Grow H H':=by
 refine zlz ?_;unfold ziL uL uS uT uF uI uIM uG uH uO uc;refine zaz (zbk (zno t) ?_);rw [zar];have s0:=Grow.new H ⟨zah,tC t,none⟩;have g0:(H.new ⟨zah,tC t,none⟩).get H.next = some ⟨zah,tC t,none⟩:=zaf _ _;have n0:(H.new ⟨zah,tC t,none⟩).next = H.next + 1:=zao _ _;generalize hq:H.next = q at *;generalize H.new _ = H0 at *;have hA:=zma ht;refine zaz (zbk rfl ?_);rw [zar];have g1:=zaf H0 (⟨zah,tC zT,none⟩:Blk);have s1:=Grow.new H0 (⟨zah,tC zT,none⟩:Blk);have n1:=zao H0 (⟨zah,tC zT,none⟩:Blk);have hz:(tC zT).length = 16:=rfl;show Ok _ (H0.new ⟨zah,tC zT,none⟩) _;generalize tC zT = zs at *;generalize hq1:H0.next = q1 at *;generalize H0.new _ = H1 at *;have g01:=(s1.same q (by omega)).trans g0;simp (disch:=omega) only [↓RD,RZ,g01,hA];refine zan (zho ht) ?_;rintro _ H2 ⟨rfl,s2⟩;rw [hg];have g2:=(s2.same q (by omega)).trans g01;have g12:=(s2.same q1 (by omega)).trans g1;have n2:=s2.next;have hne:q ≠ q1:=by omega
 have hsl:=@zcr _ _ _ _ (@zqn H2 (i:Nat));rw [decide_eq_true (by omega:(0:Int) ≤ (i:Nat)),decide_eq_true (by omega:((i:Nat):Int) < 8),Bool.and_self] at hsl;have hui:=tC_u ht hi;rw [hu] at hui;have i0:=fun {k}=>@ia8 q i hi k;have i8:=fun {k}=>@ia8o q 8 i hi k;have hl:=zcG ht;have hlt:i < (tC t).length:=by omega
 have hl2:(splice (tC t) i [V.bool false]).length = 16:=by rw [zgf (by simp; omega)]; exact hl
 have e2:=tC_free ht hi;have ho':=znN ht i;have hl3:=zcG ho';have hA3:=zma ho';have ok3:=zno (zbQ t i);have spl:splice zs 0 (tC (zbQ t i)) = tC (zbQ t i):=by
  unfold splice;rw [hl3,List.take_zero,List.nil_append,List.drop_of_length_le (by omega),List.append_nil]
 have hi16:i < 16:=by omega
 have hi16':8 + i < 16:=by omega
 generalize zbQ t i = t' at *;simp (disch:=first | omega | (simp only [RY] <;> omega) | decide) only [↓RD,RZ,eq_self,Int.reduceToNat,Int.reduceAdd,Nat.reduceAdd,Nat.reduceSub,Nat.reduceMul,Nat.reduceLeDiff,hsl,Bool.not_true,g2,i0,hui,i8,hl,hl2,e2,hl3,hA3,ok3,g12,hz,spl,hne,hi16,hi16'];exact ⟨by omega,by omega,AtS.new (S:=[q,q1]) (s0.trans (s1.trans s2)) (((AtS.set _ (by simp) _).trans (AtS.set _ (by simp) _)).trans (AtS.set _ (by simp) _)) (by simp; omega)⟩
theorem zrQ {H:Heap} (r:Rm):Ok (sem T za3 [.agg (kC r)]) H fun x H'=>x = .int .i64 (comR r) ∧ Grow H H':=by
 refine zfK ?_;unfold f_rekey_Coming uFM uO;have hok:(V.agg (kC r)).okc = true:=by simp [V.okc,kC]
 refine zaz (zbk hok ?_);rw [zar];have s0:=Grow.new H ⟨zal,kC r,none⟩;have g0:(H.new ⟨zal,kC r,none⟩).get H.next = some ⟨zal,kC r,none⟩:=zaf _ _;generalize hq:H.next = w at *;generalize H.new _ = H0 at *;have k0:(kC r)[0]? = some (.int .i64 r.ep):=rfl;have k1:(kC r)[1]? = some (.bool r.op):=rfl;have k2:(kC r)[2]? = some (.int .i64 r.nx):=rfl;unfold comR;cases ho:r.op with
 | false=>rw [ho] at k1; simp (disch:=omega) only [↓RD,RZ,g0,k0,k1]; exact s0
 | true=>rw [ho] at k1; simp (disch:=omega) only [↓RD,RZ,g0,k2,k1]; exact s0
def zdX (r:Rm) (m:Nat) (now:Int):Rm:=if m = 0 then { r with ep:=comR r + 1,op:=false,nx:=0,nd:=0,hv:=0,bn:=0 } else { r with op:=true,nx:=comR r + 1,nd:=(m:Nat),hv:=0,bn:=now }
theorem Raise_ok {H:Heap} {r:Rm} (h:KG r) (m:Nat) (hm:m ≤ 255) (now:Int) (hc:comR r + 1 ≤ 65535):Ok (sem T zdw [.agg (kC r),.int .i64 (m:Nat),.int .i64 now]) H fun x H'=>x = .tup [.agg (kC (zdX r m now)),.int .i64 0] ∧ Grow H H':=by
 refine zkr ?_;unfold zhI uL uS uT uFM uB uG uH uO uc;have hok:∀ r:Rm,(V.agg (kC r)).okc = true:=fun r=>by simp [V.okc,kC]
 refine zaz (zbk (hok r) ?_);rw [zar];have s0:=Grow.new H ⟨zal,kC r,none⟩;have g0:(H.new ⟨zal,kC r,none⟩).get H.next = some ⟨zal,kC r,none⟩:=zaf _ _;have n0:(H.new ⟨zal,kC r,none⟩).next = H.next + 1:=zao _ _;generalize hq:H.next = q at *;generalize H.new _ = H0 at *;refine zaz (zbk rfl ?_);rw [zar];have g1:(H0.new ⟨zal,[.int .i64 0,.bool false,.int .i64 0,.int .i64 0,.int .i64 0,.int .i64 0],none⟩).get H0.next = some ⟨zal,[.int .i64 0,.bool false,.int .i64 0,.int .i64 0,.int .i64 0,.int .i64 0],none⟩:=zaf _ _;have s1:=Grow.new H0 ⟨zal,[.int .i64 0,.bool false,.int .i64 0,.int .i64 0,.int .i64 0,.int .i64 0],none⟩;have n1:=zao H0 ⟨zal,[.int .i64 0,.bool false,.int .i64 0,.int .i64 0,.int .i64 0,.int .i64 0],none⟩;generalize hq1:H0.next = q1 at *;generalize H0.new _ = H1 at *;have g01:=(s1.same q (by omega)).trans g0;have kk:ldc (some 6) (kC r) 0 = some (.agg (kC r)):=rfl;have hcb:-1 ≤ comR r:=by
  have:=h.e0;unfold comR;split
  ·rename_i ho; have:=(h.on ho).1; omega
  ·omega
 simp (disch:=omega) only [↓RD,RZ,g01,kk];refine zan (zrQ r) ?_;rintro _ H2 ⟨rfl,s2⟩;have g2:=(s2.same q (by omega)).trans g01;have g12:=(s2.same q1 (by omega)).trans g1;have n2:=s2.next;have w1:IntKind.i64.wrap (comR r + 1) = comR r + 1:=wrap_i64 (by omega) (by omega);simp (disch:=omega) only [↓RD,RZ,w1,g2,kk];refine zan (zjP h) ?_;rintro _ H3 ⟨rfl,s3⟩;have g3:=(s3.same q (by omega)).trans g2;have g13:=(s3.same q1 (by omega)).trans g12;have n3:=s3.next;have b1:decide (((m:Nat):Int) < 0) = false:=decide_eq_false (by omega);have b2:decide ((255:Int) < ((m:Nat):Int)) = false:=decide_eq_false (by omega);have b2':decide (255 < m) = false:=decide_eq_false (by omega);have b3:decide (65535 < comR r + 1) = false:=decide_eq_false (by omega);have b4:(((m:Nat):Int) == 0) = decide (m = 0):=by
  by_cases h:m = 0
  ·subst h; rfl
  ·rw [decide_eq_false h]; simp; exact h
 have k0:(kC r)[0]? = some (.int .i64 r.ep):=rfl;have hne:q ≠ q1:=by omega
 have fin:∀ b,Grow H (H3.set q1 b):=fun b=>AtS.new (S:=[q1]) (s0.trans (s1.trans (s2.trans s3))) (AtS.set _ (by simp) _) (by simp; omega);unfold zdX;by_cases hm0:m = 0
 ·rw [decide_eq_true hm0] at b4;rw [if_pos hm0];have b4':(m == 0) = true:=by simpa using hm0
  simp (disch:=first | omega | (simp only [RY] <;> omega) | decide) only [↓RD,RZ,eq_self,Int.reduceToNat,Int.reduceAdd,Nat.reduceAdd,Nat.reduceSub,Nat.reduceMul,Nat.reduceLeDiff,Bool.not_true,b1,b2,b2',b3,b4,b4',g13];exact ⟨rfl,fin _⟩
 ·rw [decide_eq_false hm0] at b4;rw [if_neg hm0];have b4':(m == 0) = false:=by simpa using hm0
  simp (disch:=first | omega | (simp only [RY] <;> omega) | decide) only [↓RD,RZ,eq_self,Int.reduceToNat,Int.reduceAdd,Nat.reduceAdd,Nat.reduceSub,Nat.reduceMul,Nat.reduceLeDiff,Bool.not_true,b1,b2,b2',b3,b4,b4',g3,k0,g13];exact ⟨rfl,fin _⟩
theorem Late_ok {H:Heap} {r:Rm} (h:KG r) (ho:r.op = false) (now:Int):Ok (sem T zbq [.agg (kC r),.int .i64 now]) H fun x H'=>x = .int .i64 0 ∧ Grow H H':=by
 refine zlC ?_;unfold f_rekey_Late uL uS uFM uB uG uH uO uc uq;have hok:(V.agg (kC r)).okc = true:=by simp [V.okc,kC]
 refine zaz (zbk hok ?_);rw [zar];have s0:=Grow.new H ⟨zal,kC r,none⟩;have g0:(H.new ⟨zal,kC r,none⟩).get H.next = some ⟨zal,kC r,none⟩:=zaf _ _;have n0:(H.new ⟨zal,kC r,none⟩).next = H.next + 1:=zao _ _;generalize hq:H.next = q at *;generalize H.new _ = H0 at *;have kk:ldc (some 6) (kC r) 0 = some (.agg (kC r)):=rfl;have k1:(kC r)[1]? = some (.bool false):=by rw [← ho]; rfl
 simp (disch:=omega) only [↓RD,RZ,g0,kk];refine zan (zjP h) ?_;rintro _ H1 ⟨rfl,s1⟩;have g1:=(s1.same q (by omega)).trans g0;simp (disch:=omega) only [↓RD,RZ,Bool.not_true,Bool.not_false,g1,k1];exact s0.trans s1
end Go.Ax.SU
/- De17 -/
namespace Go.Ax.SU
open Go.Ax
def zcQ (r:Rm) (i:Nat):Rm:={ r with t:=zbQ r.t i,se:=r.se.set i 0,si:=r.si.set i 0 }
def zhq (r:Rm) (i:Nat) (now:Int):Rm:=zdX (zcQ r i) (zcP (zbQ r.t i)) now
theorem zoz {r:Rm} (h:RmO r) (i:Nat):RmO (zcQ r i):=⟨znN h.t i,by unfold zcQ; dsimp only; rw [List.length_set]; exact h.se,by unfold zcQ; dsimp only; rw [List.length_set]; exact h.si⟩
theorem zoo {r:Rm} (h:RmO r) (m:Nat) (now:Int):RmO (zdX r m now):=by
 unfold zdX;split <;> exact ⟨h.t,h.se,h.si⟩
theorem zgE (r:Rm) (m:Nat) (now:Int):(zdX r m now).t = r.t ∧ (zdX r m now).se = r.se ∧ (zdX r m now).si = r.si ∧ (zdX r m now).ov = r.ov:=by
 unfold zdX;split <;> exact ⟨rfl,rfl,rfl,rfl⟩
theorem splice_t {r:Rm} (h:RmO r) {t:Tb} (ht:TbO t):splice (rC r) 0 (tC t) = rC { r with t:=t }:=by
 unfold splice rC;rw [List.take_zero,List.nil_append,Nat.zero_add,zcG ht,List.drop_left' (zcG h.t)];rfl
theorem splice_k {r r':Rm} (h:RmO r) (h1:r'.t = r.t) (h2:r'.se = r.se) (h3:r'.si = r.si) (h4:r'.ov = r.ov):splice (rC r) 16 (kC r') = rC r':=by
 unfold splice rC;rw [h1,h2,h3,h4,List.take_left' (zcG h.t),zjM];have e:(tC r.t ++ (kC r ++ (r.se.map (V.int .i64) ++ (r.si.map (V.int .i64) ++ [V.bool r.ov])))).drop (16 + 6) = r.se.map (V.int .i64) ++ (r.si.map (V.int .i64) ++ [V.bool r.ov]):=by
  rw [← List.drop_drop,List.drop_left' (zcG h.t),List.drop_left' (zjM r)]
 rw [e,List.append_assoc]
theorem zqm {r:Rm} (h:RmO r) {i:Nat} (hi:i < 8) (x:Int):splice (rC r) (30 + i) [.int .i64 x] = rC { r with si:=r.si.set i x }:=by
 have hl:=zb5 h;have e0:splice (rC r) (30 + i) [V.int .i64 x] = (rC r).set (30 + i) (.int .i64 x):=by
  rw [List.set_eq_take_append_cons_drop,if_pos (by omega)];unfold splice;rw [List.append_assoc];rfl
 rw [e0];unfold rC;rw [show 30 + i = 16 + (6 + (8 + i)) by omega];have st:∀ (a b:List V) (k:Nat) (x:V),(a ++ b).set (a.length + k) x = a ++ b.set k x:=fun a b k x=>by rw [List.set_append_right _ _ (by omega),Nat.add_sub_cancel_left]
 have s1:=st (tC r.t) (kC r ++ (r.se.map (.int .i64) ++ (r.si.map (.int .i64) ++ [.bool r.ov]))) (6 + (8 + i)) (.int .i64 x);rw [zcG h.t] at s1;rw [s1];have s2:=st (kC r) (r.se.map (.int .i64) ++ (r.si.map (.int .i64) ++ [.bool r.ov])) (8 + i) (.int .i64 x);rw [zjM] at s2;have s3:=st (r.se.map (.int .i64)) (r.si.map (.int .i64) ++ [.bool r.ov]) i (.int .i64 x);rw [List.length_map,h.se] at s3;rw [s2,s3,List.set_append_left _ _ (by rw [List.length_map,h.si]; exact hi),List.map_set];rfl
theorem zpX:((List.range 256).all fun m=>decide (Go.bits .andNot .i64 0 (m:Nat) = 0) && decide (Go.bits .andNot .i64 (m:Nat) (m:Nat) = 0)) = true:=by kernel_rfl
theorem andNot_0 {m:Nat} (h:m < 256):Go.bits .andNot .i64 0 (m:Nat) = 0 ∧ Go.bits .andNot .i64 (m:Nat) (m:Nat) = 0:=by
 have:=List.all_eq_true.1 zpX m (List.mem_range.2 h);simp only [Bool.and_eq_true,decide_eq_true_eq] at this;exact this
theorem zjQ {l:List Int} {i j:Nat} (hi:i < l.length):(l.set i 0).getD j 0 = if j = i then 0 else l.getD j 0:=by
 rw [List.getD_eq_getElem?_getD,List.getD_eq_getElem?_getD,List.getElem?_set];by_cases h:i = j
 ·subst h; rw [if_pos rfl,if_pos hi,if_pos rfl]; rfl
 ·rw [if_neg h,if_neg (fun e=>h e.symm)]
theorem zn8 {r:Rm} (h:KG r):r.ep ≤ comR r:=by
 unfold comR;split
 ·rename_i ho; have:=(h.on ho).1; omega
 ·omega
theorem zq6 {r:Rm} (h:RmG r) {i:Nat} (hi:i < 8) (hov:r.ov = false) (hc:comR r + 1 ≤ 65535) (now:Int):RmG (zhq r i now) ∧ (zhq r i now).ov = false ∧ comR (zhq r i now) = comR r + 1:=by
 have ho:=h.o;have hm:zcP (zbQ r.t i) < 256:=zhi _ 8;have hge:=zn8 h.k;have he:=h.k.e0;have hcr:comR (zcQ r i) = comR r:=rfl;obtain ⟨a1,a2⟩:=andNot_0 hm;obtain ⟨e1,e2,e3,e4⟩:=zgE (zcQ r i) (zcP (zbQ r.t i)) now;have ho':=zoo (zoz ho i) (zcP (zbQ r.t i)) now;have hz:∀ j,j < 8 → (zbQ r.t i).uG j = false → (r.se.set i 0).getD j 0 = 0 ∧ (r.si.set i 0).getD j 0 = 0:=fun j hj hu=>by
  rw [zjQ (by rw [ho.se]; exact hi),zjQ (by rw [ho.si]; exact hi)];by_cases hji:j = i
  ·rw [if_pos hji,if_pos hji]; exact ⟨rfl,rfl⟩
  ·rw [if_neg hji,if_neg hji];rw [zih ho.t hi,decide_eq_true hji,Bool.and_true] at hu;exact h.z j hj hu
 have hs:∀ j,j < 8 → 0 ≤ (r.si.set i 0).getD j 0 ∧ (r.si.set i 0).getD j 0 ≤ r.ep:=fun j hj=>by
  rw [zjQ (by rw [ho.si]; exact hi)];split
  ·exact ⟨Int.le_refl _,he⟩
  ·exact h.s j hj
 have ht:=zk1 ho.t h.t hi;unfold zhq;generalize hmm:zcP (zbQ r.t i) = m at *;by_cases hm0:m = 0
 ·have er:zdX (zcQ r i) m now = { zcQ r i with ep:=comR r + 1,op:=false,nx:=0,nd:=0,hv:=0,bn:=0 }:=by unfold zdX; rw [if_pos hm0,hcr]
  rw [er] at ho' ⊢;refine ⟨⟨ho',⟨?_,hc,fun _=>⟨rfl,rfl,rfl,rfl⟩,fun h=>(by cases h)⟩,ht,hz,fun j hj=>⟨(hs j hj).1,?_⟩,fun h=>(by cases h),fun h=>?_⟩,hov,rfl⟩
  ·show 0 ≤ comR r + 1; omega
  ·show (r.si.set i 0).getD j 0 ≤ comR r + 1;have:=(hs j hj).2;omega
  ·exact absurd (hov.symm.trans h) (by decide)
 ·have er:zdX (zcQ r i) m now = { zcQ r i with op:=true,nx:=comR r + 1,nd:=(m:Nat),hv:=0,bn:=now }:=by unfold zdX; rw [if_neg hm0,hcr]
  rw [er] at ho' ⊢;refine ⟨⟨ho',⟨he,h.k.e1,fun h=>(by cases h),fun _=>⟨?_,hc,?_,?_,a1,?_⟩⟩,ht,hz,hs,fun _=>?_,fun h=>?_⟩,hov,rfl⟩
  ·show r.ep < comR r + 1; omega
  ·show (1:Int) ≤ (m:Nat); omega
  ·show ((m:Nat):Int) ≤ 255; omega
  ·show (0:Int) ≠ (m:Nat); omega
  ·show Go.bits .andNot .i64 (m:Nat) (zcP (zbQ r.t i):Nat) = 0;rw [hmm]; exact a2
  ·exact absurd (hov.symm.trans h) (by decide)
theorem gone_ok {H:Heap} {r:Rm} (h:RmG r) {i:Nat} (hi:i < 8) (hu:r.t.uG i = true) (hov:r.ov = false) (hc:comR r + 1 ≤ 65535) (now:Int):Ok (sem T zcR [.agg (rC r),.int .i64 (i:Nat),.int .i64 now]) H fun x H'=>x = .agg (rC (zhq r i now)) ∧ Grow H H':=by
 refine zkq ?_;unfold zhH uL uS uT uF uFM uE uB uI uO uU uc;have ho:=h.o;refine zaz (zbk (zfy r) ?_);rw [zar];have s0:=Grow.new H ⟨zad,rC r,none⟩;have g0:(H.new ⟨zad,rC r,none⟩).get H.next = some ⟨zad,rC r,none⟩:=zaf _ _;have n0:(H.new ⟨zad,rC r,none⟩).next = H.next + 1:=zao _ _;generalize hq:H.next = q at *;generalize H.new _ = H0 at *;refine zaz (zbk rfl ?_);rw [zar];have g1:=zaf H0 (⟨zad,zRm,none⟩:Blk);have s1:=Grow.new H0 (⟨zad,zRm,none⟩:Blk);have n1:=zao H0 (⟨zad,zRm,none⟩:Blk);have hz:zRm.length = 39:=rfl;show Ok _ (H0.new ⟨zad,zRm,none⟩) _;generalize zRm = zs at *;generalize hq1:H0.next = q1 at *;generalize H0.new _ = H1 at *;have g01:=(s1.same q (by omega)).trans g0;have hT:=rC_t ho;simp (disch:=omega) only [↓RD,RZ,g01,hT];refine zan (Free_ok ho.t h.t hi hu) ?_;rintro _ H2 ⟨rfl,s2⟩;have g2:=(s2.same q (by omega)).trans g01;have g12:=(s2.same q1 (by omega)).trans g1;have n2:=s2.next;have hne:q ≠ q1:=by omega
 have ht':=znN ho.t i;have hg':=zk1 ho.t h.t hi;have e1:=splice_t ho ht';have ho1:RmO { r with t:=zbQ r.t i }:=⟨ht',ho.se,ho.si⟩;have e2:=zmb ho1 hi 0;have ho2:RmO { r with t:=zbQ r.t i,se:=r.se.set i 0 }:=⟨ht',by dsimp only; rw [List.length_set]; exact ho.se,ho.si⟩;have e3:=zqm ho2 hi 0;have ho3:=zoz ho i;have er:({ r with t:=zbQ r.t i,se:=r.se.set i 0,si:=r.si.set i 0 }:Rm) = zcQ r i:=rfl;dsimp only at e2 e3;rw [er] at e3;have kE:kC (zcQ r i) = kC r:=rfl;have tE:(zcQ r i).t = zbQ r.t i:=rfl;obtain ⟨q1',q2',q3',q4'⟩:=zgE (zcQ r i) (zcP (zbQ r.t i)) now;have e4:=splice_k ho3 q1' q2' q3' q4';have ho4:=zoo ho3 (zcP (zbQ r.t i)) now;have hK3:=rC_k ho3;have hT3:=rC_t ho3;rw [tE] at hT3;have l0:=zb5 ho;have l1:=zb5 ho1;have l2:=zb5 ho2;have l3:=zb5 ho3;have l4:=zb5 ho4;have lt':=zcG ht';have okt:=zno (zbQ r.t i);have i22:=fun {k}=>@ia8o q 22 i hi k;have i30:=fun {k}=>@ia8o q 30 i hi k;have h22:22 + i < 39:=by omega
 have h30:30 + i < 39:=by omega
 simp (disch:=first | omega | (simp only [RY] <;> omega) | decide) only [↓RD,RZ,eq_self,Int.reduceToNat,Int.reduceAdd,Nat.reduceAdd,Nat.reduceSub,Nat.reduceMul,Nat.reduceLeDiff,g2,e1,e2,e3,l0,l1,l2,l3,lt',okt,i22,i30,h22,h30,hK3,hT3];refine ⟨by omega,by omega,?_⟩;rw [zb7];have s3:Grow H (((H2.set q (some ⟨zad,rC { r with t:=zbQ r.t i },none⟩)).set q (some ⟨zad,rC { r with t:=zbQ r.t i,se:=r.se.set i 0 },none⟩)).set q (some ⟨zad,rC (zcQ r i),none⟩)):=AtS.new (S:=[q]) (s0.trans (s1.trans s2)) (((AtS.set _ (by simp) _).trans (AtS.set _ (by simp) _)).trans (AtS.set _ (by simp) _)) (by simp; omega);have g3:(((H2.set q (some ⟨zad,rC { r with t:=zbQ r.t i },none⟩)).set q (some ⟨zad,rC { r with t:=zbQ r.t i,se:=r.se.set i 0 },none⟩)).set q (some ⟨zad,rC (zcQ r i),none⟩)).get q = some ⟨zad,rC (zcQ r i),none⟩:=zaS _ _ _;have g13:(((H2.set q (some ⟨zad,rC { r with t:=zbQ r.t i },none⟩)).set q (some ⟨zad,rC { r with t:=zbQ r.t i,se:=r.se.set i 0 },none⟩)).set q (some ⟨zad,rC (zcQ r i),none⟩)).get q1 = some ⟨zad,zs,none⟩:=by rw [zaV _ _ (Ne.symm hne),zaV _ _ (Ne.symm hne),zaV _ _ (Ne.symm hne),g12]
 have n3:(((H2.set q (some ⟨zad,rC { r with t:=zbQ r.t i },none⟩)).set q (some ⟨zad,rC { r with t:=zbQ r.t i,se:=r.se.set i 0 },none⟩)).set q (some ⟨zad,rC (zcQ r i),none⟩)).next = H2.next:=rfl;generalize ((H2.set q _).set q _).set q _ = H3 at *;refine zan (zjK ht' hg') ?_;rintro _ H4 ⟨rfl,s4⟩;have g4:=(s4.same q (by omega)).trans g3;have g14:=(s4.same q1 (by omega)).trans g13;have n4:=s4.next;have hun:=s4.same q (by omega);simp (disch:=omega) only [↓RD,RZ,hun];have hm:zcP (zbQ r.t i) ≤ 255:=by have:=zhi (zbQ r.t i) 8; unfold zcP; omega
 refine zan (Raise_ok (r:=zcQ r i) (KG.mk h.k.e0 h.k.e1 h.k.cl h.k.on) (zcP (zbQ r.t i)) hm now hc) ?_;rintro _ H5 ⟨rfl,s5⟩;have eg:zdX (zcQ r i) (zcP (zbQ r.t i)) now = zhq r i now:=rfl;rw [eg] at e4 ho4 l4 ⊢;generalize zhq r i now = r' at *;have g5:=(s5.same q (by omega)).trans g4;have g15:=(s5.same q1 (by omega)).trans g14;have n5:=s5.next;refine zb6 rfl ?_;refine zdy rfl rfl fun q2 H6 eq2 g6 s6 n6=>?_;have g56:=(s6.same q (by omega)).trans g5;have g156:=(s6.same q1 (by omega)).trans g15;have kk:ldc (some 6) (kC r') 0 = some (.agg (kC r')):=rfl;have kl:(kC r').length = 6:=rfl;have kok:(V.agg (kC r')).okc = true:=by simp [V.okc,kC]
 have hA:=zhb ho4;have ok4:=zfy r';have spl:splice zs 0 (rC r') = rC r':=by
  unfold splice;rw [l4,List.take_zero,List.nil_append,List.drop_of_length_le (by omega),List.append_nil]
 simp (disch:=first | omega | (simp only [RY] <;> omega) | decide) only [↓RD,RZ,eq_self,Int.reduceToNat,Int.reduceAdd,Nat.reduceAdd,Nat.reduceSub,Nat.reduceMul,Nat.reduceLeDiff,g56,g6,kk,kl,kok,e4,l3,l4,hA,g156,hz,spl,ok4,hne];exact AtS.new (S:=[q,q1]) (s3.trans (s4.trans (s5.trans s6))) ((AtS.set _ (by simp) _).trans (AtS.set _ (by simp) _)) (by simp; omega)
end Go.Ax.SU
/- De18 -/
namespace Go.Ax.SU
open Go.Ax
def silS (r:Rm) (now:Int) (i:Nat):Bool:=r.t.uG i && decide (r.se.getD i 0 + 500 ≤ now)
def zda (r:Rm) (now:Int):Nat → Rm
 | 0=>r
 | j + 1=>if silS r now j then zhq (zda r now j) j now else zda r now j
def zd8 (r:Rm) (now:Int):Rm:=zda r now 8
structure TickI (r:Rm) (now:Int) (j:Nat):Prop where
 g:RmG (zda r now j)
 ov:(zda r now j).ov = false
 le:comR (zda r now j) ≤ comR r + (j:Nat)
 u:∀ k,k < 8 → (zda r now j).t.uG k = (r.t.uG k && !(decide (k < j) && silS r now k))
 a:∀ k,k < 8 → (zda r now j).t.aG k = if (zda r now j).t.uG k then r.t.aG k else 0
theorem tickI {r:Rm} (h:RmG r) (hov:r.ov = false) (hc:comR r + 8 ≤ 65535) (now:Int):∀ j,j ≤ 8 → TickI r now j:=by
 intro j
 induction j with
 | zero =>
  intro _;refine ⟨h,hov,by show comR r ≤ comR r + 0; omega,fun k hk=>by simp [zda],fun k hk=>?_⟩;show r.t.aG k = if r.t.uG k then r.t.aG k else 0
  cases hu:r.t.uG k with
  | true=>rfl
  | false=>rw [zoy h.t hk hu]; rfl
 | succ j ih =>
  intro hj;have I:=ih (by omega);have hle:=I.le;by_cases hs:silS r now j = true
  ·have e:zda r now (j + 1) = zhq (zda r now j) j now:=by show (if silS r now j then _ else _) = _; rw [if_pos hs]
   obtain ⟨g1,g2,g3⟩:=zq6 I.g (i:=j) (by omega) I.ov (by omega) now;have et:(zhq (zda r now j) j now).t = zbQ (zda r now j).t j:=(zgE _ _ _).1;rw [← e] at g1 g2 g3 et;have hu:∀ k,k < 8 → (zda r now (j + 1)).t.uG k = (r.t.uG k && !(decide (k < j + 1) && silS r now k)):=fun k hk=>by
    rw [et,zih I.g.o.t (by omega),I.u k hk];by_cases hkj:k = j
    ·subst hkj;rw [hs];simp
    ·have:decide (k < j + 1) = decide (k < j):=decide_eq_decide.2 (by omega);rw [this,decide_eq_true hkj,Bool.and_true]
   refine ⟨g1,g2,by rw [g3]; omega,hu,fun k hk=>?_⟩;rw [et,zlM I.g.o.t (by omega),zih I.g.o.t (by omega)];by_cases hkj:k = j
   ·subst hkj; simp
   ·rw [if_neg hkj,decide_eq_true hkj,Bool.and_true]; exact I.a k hk
  ·have e:zda r now (j + 1) = zda r now j:=by show (if silS r now j then _ else _) = _; rw [if_neg hs]
   refine ⟨by rw [e]; exact I.g,by rw [e]; exact I.ov,by rw [e]; omega,fun k hk=>?_,fun k hk=>by rw [e]; exact I.a k hk⟩;rw [e,I.u k hk];by_cases hkj:k = j
   ·subst hkj;have hs':silS r now k = false:=by simpa using hs
    rw [hs'];simp
   ·have:decide (k < j + 1) = decide (k < j):=decide_eq_decide.2 (by omega);rw [this]
theorem zqg {r:Rm} (h:RmG r) (hov:r.ov = false) (hc:comR r + 8 ≤ 65535) (now:Int):RmG (zd8 r now) ∧ (zd8 r now).ov = false ∧ comR (zd8 r now) ≤ comR r + 8 ∧ (∀ k,k < 8 → (zd8 r now).t.uG k = (r.t.uG k && !silS r now k)) ∧ (∀ k,k < 8 → (zd8 r now).t.uG k = true → (zd8 r now).t.aG k = r.t.aG k):=by
 have I:=tickI h hov hc now 8 (Nat.le_refl _);refine ⟨I.g,I.ov,I.le,fun k hk=>?_,fun k hk hu=>?_⟩
 ·have:=I.u k hk;rw [decide_eq_true hk,Bool.true_and] at this;exact this
 ·have:=I.a k hk;have hu:(zda r now 8).t.uG k = true:=hu;rw [if_pos hu] at this;exact this
abbrev zRl:List V:=[V.bool false,V.bool false,V.bool false,V.bool false,V.bool false,V.bool false,V.bool false,V.bool false,V.int .i64 0,V.int .i64 0,V.int .i64 0,V.int .i64 0,V.int .i64 0,V.int .i64 0,V.int .i64 0,V.int .i64 0,V.int .i64 0,V.bool false,V.int .i64 0,V.int .i64 0,V.int .i64 0,V.int .i64 0,V.int .i64 0,V.int .i64 0,V.int .i64 0,V.int .i64 0,V.int .i64 0,V.int .i64 0,V.int .i64 0,V.int .i64 0,V.int .i64 0,V.int .i64 0,V.int .i64 0,V.int .i64 0,V.int .i64 0,V.int .i64 0,V.int .i64 0,V.int .i64 0,V.bool false]
theorem zg9 {r:Rm} (h:RmO r):splice zRl 0 (rC r) = rC r:=by
 have hl:=zb5 h;unfold splice;rw [hl,List.take_zero,List.nil_append,List.drop_of_length_le (by decide),List.append_nil]
theorem zo3 {H:Heap} {r:Rm} {q q6 q4:Nat} {now:Int} {zs:List V} (h:RmG r) (hov:r.ov = false) (hc:comR r + 8 ≤ 65535) (hse:∀ j,j < 8 → 0 ≤ r.se.getD j 0 ∧ r.se.getD j 0 ≤ now) (hnow:now ≤ 1000000000) (hq:q < H.next) (hq6:q6 < H.next) (hq4:q4 < H.next) (hne:q ≠ q6) (hne4:q ≠ q4)
  (g:H.get q = some ⟨zad,rC r,none⟩) (g6:H.get q6 = some ⟨zad,rC r,none⟩) (g4:H.get q4 = some ⟨zad,zs,none⟩) :
  Ok (M.iter (f_room_Tick_0 (sem T) (.agg (r.t.u.map .bool)) (.ptr q6 0) (.int .i64 0) (.int .i64 now) (.ptr q 0) (.ptr q4 0) .nils) [.int .i64 0]) H fun x H'=>x = .ex 0 [] ∧ AtS [q] H H' ∧ H'.get q = some ⟨zad,rC (zd8 r now),none⟩:=by
 refine zbJ (fun j L0 H'=>L0 = [.int .i64 (j:Nat)] ∧ AtS [q] H H' ∧ H'.get q = some ⟨zad,rC (zda r now j),none⟩) 8 ?_ ?_ ?_
 ·exact ⟨rfl,AtS.refl _ _,g⟩
 ·rintro j _ H1 hj ⟨rfl,a1,g1⟩;have I:=tickI h hov hc now j (by omega);have hle:=I.le;have ho:=I.g.o;have g61:=(a1.same q6 hq6 (by simp; exact Ne.symm hne)).trans g6;have d1:decide (((j:Nat):Int) < 8) = true:=decide_eq_true (by omega);have d1':decide (j < 8) = true:=decide_eq_true hj;have w1:IntKind.i64.wrap (((j:Nat):Int) + 1) = ((j + 1:Nat):Int):=by rw [wrap_i64 (by omega) (by omega)]; omega
  have hx:=zo1 h.o.t hj;have i22:=fun {k}=>@ia8o q6 22 j hj k;have c22:=rC_se h.o hj;have c38:=rC_ov ho;rw [I.ov] at c38;obtain ⟨s0,s1⟩:=hse j hj;have b1:decide (r.se.getD j 0 ≤ now) = true:=decide_eq_true s1;have u1:IntKind.u64.wrap now = now:=by rw [wrap_u64]; omega
  have u2:IntKind.u64.wrap (r.se.getD j 0) = r.se.getD j 0:=by rw [wrap_u64]; omega
  have u3:IntKind.u64.wrap (now - r.se.getD j 0) = now - r.se.getD j 0:=by rw [wrap_u64]; omega
  have hsil:silS r now j = (r.t.uG j && decide (500 ≤ now - r.se.getD j 0)):=by
   unfold silS;congr 1;exact decide_eq_decide.2 (by omega)
  have et:zda r now (j + 1) = if silS r now j then zhq (zda r now j) j now else zda r now j:=rfl
  have e0:Ax.bin .shr (.int .i64 0) (.int .i64 (j:Nat)) = some (.int .i64 0):=by
   have:j = 0 ∨ j = 1 ∨ j = 2 ∨ j = 3 ∨ j = 4 ∨ j = 5 ∨ j = 6 ∨ j = 7:=by omega
   rcases this with rfl | rfl | rfl | rfl | rfl | rfl | rfl | rfl <;> rfl
  unfold f_room_Tick_0 uL uS uT uF uB uIM uG uH uc uq ug;cases hu:r.t.uG j with
  | false =>
   rw [hu] at hx hsil;rw [Bool.false_and] at hsil;rw [hsil,if_neg (by decide)] at et;rw [et];simp (disch:=omega) only [↓RD,RZ,d1,d1',hx,i22,g61,c22,b1,u1,u2,u3,w1];exact ⟨a1,g1⟩
  | true =>
   rw [hu] at hx hsil;rw [Bool.true_and] at hsil;cases hb:decide (500 ≤ now - r.se.getD j 0) with
   | false =>
    rw [hb] at hsil;rw [hsil,if_neg (by decide)] at et;rw [et];simp (disch:=first | omega | (simp only [RY] <;> omega) | decide) only [↓RD,RZ,Nat.reduceAdd,d1,d1',hx,i22,g61,c22,b1,u1,u2,u3,w1,hb,g1,c38,e0,Bool.not_false];exact a1
   | true =>
    rw [hb] at hsil;rw [hsil,if_pos rfl] at et;rw [et];have hA:=zhb ho;have huj:(zda r now j).t.uG j = true:=by
     rw [I.u j hj,hu,decide_eq_false (by omega)];rfl
    simp (disch:=omega) only [↓RD,RZ,d1,d1',hx,i22,g61,c22,b1,u1,u2,u3,w1,hb,g1,c38,Bool.not_false,hA];refine zan (gone_ok I.g hj huj I.ov (by omega) now) ?_;rintro _ H2 ⟨rfl,s2⟩;have n1:=a1.next;have g2:=(s2.same q (by omega)).trans g1;have l1:=zb5 ho;have l2:=zb5 (zq6 I.g hj I.ov (by omega) now).1.o;have ok2:=zfy (zhq (zda r now j) j now);have spl:splice (rC (zda r now j)) 0 (rC (zhq (zda r now j) j now)) = rC (zhq (zda r now j) j now):=by
     unfold splice;rw [l2,List.take_zero,List.nil_append,List.drop_of_length_le (by omega),List.append_nil]
    simp (disch:=first | omega | (simp only [RY] <;> omega) | decide) only [↓RD,RZ,eq_self,Int.reduceToNat,Int.reduceAdd,Nat.reduceAdd,Nat.reduceSub,Nat.reduceMul,Nat.reduceLeDiff,g2,l1,l2,ok2,spl,w1];exact (a1.trans (s2.atS _)).trans (AtS.set _ (by simp) _)
 ·rintro _ H1 ⟨rfl,a1,g1⟩;unfold f_room_Tick_0 uL uS uT uF uB uIM uG uH uc uq ug;simp (disch:=omega) only [↓RD,RZ];exact ⟨a1,g1⟩
theorem zo2 {H:Heap} {r r':Rm} {q q4:Nat} (h:RmO r) (h':RmO r') (hq:q < H.next) (g:H.get q = some ⟨zad,rC r',none⟩) :
  Ok (M.iter (f_room_Tick_1 (sem T) (.agg (r.t.u.map .bool)) (.ptr q 0) (.ptr q4 0) .nils) [.nils,.int .i64 0]) H fun x H'=>∃ w,x = .ex 2 [w] ∧ Grow H H':=by
 refine za9 (Q:=fun x H'=>∃ w,x = .ex 2 [w] ∧ Grow H H') ?_ fun x H' h=>h;refine zbJ (fun j L0 H'=>∃ w,L0 = [w,.int .i64 (j:Nat)] ∧ AtS [] H H' ∧ ∃ cs n,n ≤ j ∧ App zcp 1 H.next H' w cs n) 8 ?_ ?_ ?_
 ·exact ⟨.nils,rfl,AtS.refl _ _,[],0,Nat.le_refl _,App.nil⟩
 ·rintro j _ H1 hj ⟨w,rfl,a1,cs,n,hn,hw⟩;have g1:=(a1.same q hq (by simp)).trans g;have n1:=a1.next;have d1:decide (((j:Nat):Int) < 8) = true:=decide_eq_true (by omega);have d1':decide (j < 8) = true:=decide_eq_true hj;have w1:IntKind.i64.wrap (((j:Nat):Int) + 1) = ((j + 1:Nat):Int):=by rw [wrap_i64 (by omega) (by omega)]; omega
  have hx:=zo1 h.t hj;have i0:=fun {k}=>@ia8 q j hj k;have c0:=rC_u1 h' hj;unfold f_room_Tick_1 uL uB uG uH uc ug;cases hu:r.t.uG j with
  | false =>
   rw [hu] at hx;simp (disch:=omega) only [↓RD,RZ,d1,d1',hx,w1];exact ⟨w,rfl,a1,cs,n,by omega,hw⟩
  | true =>
   rw [hu] at hx;cases hu':r'.t.uG j with
   | true =>
    rw [hu'] at c0;simp (disch:=omega) only [↓RD,RZ,d1,d1',hx,i0,g1,c0,w1,Bool.not_true];exact ⟨w,rfl,a1,cs,n,by omega,hw⟩
   | false =>
    rw [hu'] at c0;have s4:=Grow.new H1 ⟨zcp,[V.int .i64 (j:Nat)],none⟩;have n4:(H1.new ⟨zcp,[V.int .i64 (j:Nat)],none⟩).next = H1.next + 1:=zao _ _;have hw4:=hw.atS (s4.atS []) (by simp);simp (disch:=first | omega | (simp only [RY] <;> omega) | decide) only [↓RD,RZ,eq_self,Int.reduceToNat,Int.reduceAdd,Nat.reduceAdd,Nat.reduceSub,Nat.reduceMul,Nat.reduceLeDiff,d1,d1',hx,i0,g1,c0,w1,Bool.not_false];rw [zb7];have hya:=zhT (H:=H1) (ty:=zcp) (o:=none) (cap:=.fix 1) (n:=1) (e:=1) (id:=H1.next) rfl (cs:=[V.int .i64 (j:Nat)]) rfl;have g4:∀ i,i < H.next → (H1.new ⟨zcp,[V.int .i64 (j:Nat)],none⟩).get i = H1.get i:=fun i hi=>s4.same i (by omega);refine zh8 (bytes:=8) (n:=n) hw4 (by omega) hya rfl (by omega) (by omega) fun w5 H5 hx5 st5=>?_;simp (disch:=omega) only [↓RD,RZ,w1];have n5:=st5.next;have hown:=hw.lc.own;refine ⟨w5,rfl,⟨by omega,fun i hi _=>?_⟩,_,n + 1,by omega,hx5⟩;rw [st5.same i (by omega) (fun e=>by have:=(hown i (by simpa [zes] using e)).1; omega),g4 i hi,a1.same i hi (by simp)]
 ·rintro _ H1 ⟨w,rfl,a1,cs,n,hn,hw⟩;unfold f_room_Tick_1 uL uB uG uH uc ug;simp (disch:=omega) only [↓RD,RZ];exact ⟨w,rfl,a1.grow⟩
theorem Tick_ok {H:Heap} {r:Rm} {now:Int} (h:RmG r) (hop:r.op = false) (hov:r.ov = false) (hc:comR r + 8 ≤ 65535) (hse:∀ j,j < 8 → 0 ≤ r.se.getD j 0 ∧ r.se.getD j 0 ≤ now) (hnow:now ≤ 1000000000) :
  Ok (sem T zbz [.agg (rC r),.int .i64 now]) H fun x H'=>(∃ w,x = .tup [.agg (rC (zd8 r now)),w]) ∧ Grow H H':=by
 refine zmB ?_;unfold f_room_Tick uL uS uT uF uO uU uc ug;have ho:=h.o;refine zaz (zbk (zfy r) ?_);rw [zar];have s0:=Grow.new H ⟨zad,rC r,none⟩;have g0:(H.new ⟨zad,rC r,none⟩).get H.next = some ⟨zad,rC r,none⟩:=zaf _ _;have n0:(H.new ⟨zad,rC r,none⟩).next = H.next + 1:=zao _ _;generalize hq:H.next = q at *;generalize H.new _ = H0 at *;refine zaz (zbk rfl ?_);rw [zar];have g1:=zaf H0 (⟨zad,zRm,none⟩:Blk);have s1:=Grow.new H0 (⟨zad,zRm,none⟩:Blk);have n1:=zao H0 (⟨zad,zRm,none⟩:Blk);have hz:zRm.length = 39:=rfl;show Ok _ (H0.new ⟨zad,zRm,none⟩) _;generalize hq1:H0.next = q1 at *;generalize H0.new _ = H1 at *;have g01:=(s1.same q (by omega)).trans g0;have hA:=zhb ho;have hK:=rC_k ho;simp (disch:=omega) only [↓RD,RZ,g01,hA];refine zan (zk0 h) ?_;rintro _ H2 ⟨rfl,s2⟩;have g2:=(s2.same q (by omega)).trans g01;have g12:=(s2.same q1 (by omega)).trans g1;have n2:=s2.next;simp (disch:=omega) only [↓RD,RZ,Bool.not_true,g2,hA,hK];rw [zb7];refine zan (Late_ok h.k hop now) ?_;rintro _ H3 ⟨rfl,s3⟩;have g3:=(s3.same q (by omega)).trans g2;have g13:=(s3.same q1 (by omega)).trans g12;have n3:=s3.next;have hun:=s3.same q (by omega);have l0:=zb5 ho;have ok0:=zfy r;have hU:=rC_u ho;have spz:=zg9 ho;have gz:∀ b c,Grow H3 ((H3.new b).set H3.next c):=fun b c=>AtS.new (S:=[H3.next]) (Grow.new H3 b) (AtS.set _ (by simp) c) (by simp);have s4:=gz ⟨zad,zRl,none⟩ (some ⟨zad,rC r,none⟩);have g46:((H3.new ⟨zad,zRl,none⟩).set H3.next (some ⟨zad,rC r,none⟩)).get H3.next = some ⟨zad,rC r,none⟩:=zaS _ _ _;have n4:((H3.new ⟨zad,zRl,none⟩).set H3.next (some ⟨zad,rC r,none⟩)).next = H3.next + 1:=by rw [zbP,zao]
 simp (disch:=first | omega | (simp only [RY] <;> omega) | decide) only [↓RD,RZ,eq_self,Int.reduceToNat,Int.reduceAdd,Nat.reduceAdd,Nat.reduceSub,Nat.reduceMul,Nat.reduceLeDiff,hun,spz,l0,ok0,hU,hz];generalize (H3.new ⟨zad,zRl,none⟩).set H3.next (some ⟨zad,rC r,none⟩) = H4 at *;have g4:=(s4.same q (by omega)).trans g3;have g14:=(s4.same q1 (by omega)).trans g13;generalize hq6:H3.next = q6 at *;refine za9 (zo3 (zs:=zRm) h hov hc hse hnow (by omega) (by omega) (by omega) (by omega) (by omega) g4 g46 g14) ?_;rintro _ H5 ⟨rfl,a5,g5⟩;have n5:=a5.next;have g56:=(a5.same q6 (by omega) (by simp; omega)).trans g46;have g15:=(a5.same q1 (by omega) (by simp; omega)).trans g14;obtain ⟨t1,-,-,-,-⟩:=zqg h hov hc now;have ho':=t1.o;generalize zd8 r now = r' at *;simp (disch:=omega) only [↓RD,RZ,g56,hU];refine za9 (zo2 (H:=H5) (q4:=q1) ho ho' (by omega) g5) ?_;rintro _ H6 ⟨w,rfl,s6⟩;have g6:=(s6.same q (by omega)).trans g5;have g16:=(s6.same q1 (by omega)).trans g15;have hA':=zhb ho';have l':=zb5 ho';have ok':=zfy r';have spz':splice zRm 0 (rC r') = rC r':=zg9 ho';simp (disch:=first | omega | (simp only [RY] <;> omega) | decide) only [↓RD,RZ,eq_self,Int.reduceToNat,Int.reduceAdd,Nat.reduceAdd,Nat.reduceSub,Nat.reduceMul,Nat.reduceLeDiff,g6,hA',g16,l',ok',hz,spz'];exact ⟨⟨w,rfl⟩,AtS.new (S:=[q,q1]) (s0.trans (s1.trans (s2.trans (s3.trans s4)))) (((a5.mono (by simp)).trans (s6.atS _)).trans (AtS.set _ (by simp) _)) (by simp; omega)⟩
end Go.Ax.SU
/- De19 -/
namespace Go.Ax.SU
open Go.Ax
structure NG (x:Nt):Prop where
 ok:∀ {lo:Nat} {H:Heap} {bv:V},By lo H bv x.b → Ok (sem T zbb [.agg (nC x bv)]) H fun r H'=>r = .bool true ∧ Grow H H'
 le:(1 ≤ x.k ∧ x.k ≤ 24) ∧ (0 ≤ x.r ∧ x.r ≤ 3) ∧ (0 ≤ x.s ∧ x.s ≤ 7) ∧ (0 ≤ x.e ∧ x.e ≤ 65535) ∧ (0 ≤ x.n ∧ x.n ≤ 65535) ∧ (0 ≤ x.m ∧ x.m ≤ 65535) ∧ x.b.length ≤ 200
theorem NG.of {x:Nt} (h:zig x = true) (hk:Pl3 x):NG x:=⟨fun {lo H bv} hb=>za9 (zmM hb hk) fun r H' hr=>by rw [h] at hr; exact hr,zlL h⟩
theorem zol {lb a:Nat} {K:Kd} {H:Heap} {L:Nat → V} {rm:Nat → Rm} {Q:Nat → List Ot} {ns:List Nat} {nw:Int} {bv:V} {x:Nt} (h:DW K H L rm Q ns nw) (ha:a < 64) (hb:By lb H bv x.b) (hx:NG x) (hl:(Q a).length < 32) :
  Ok (sem T zaM [.ptr K.d 0,.int .i64 (a:Nat),.agg (nC x bv)]) H fun r H'=>r = .tup [] ∧ ∃ L',FrD K.lo L L' H H' ∧ DW K H' L' rm (upd Q a (Q a ++ [⟨(a:Nat),2,zbw x⟩])) ns nw:=by
 refine ziY ?_;unfold f_desk_Desk_say uS uE uB uO uc;have vc:=hb.cells1;have vo:=hb.okc;refine zaz (zbk (by simp [nC,V.okc,vo]) ?_);rw [zar];have s0:=Grow.new H ⟨zae,nC x bv,none⟩;have g0:(H.new ⟨zae,nC x bv,none⟩).get H.next = some ⟨zae,nC x bv,none⟩:=zaf _ _;generalize hq:H.next = q at *;generalize H.new _ = H0 at *;have l0:ldc (some 7) (nC x bv) 0 = some (.agg (nC x bv)):=rfl;simp (disch:=omega) only [↓RD,RZ,g0,l0];refine zan (zp4 true (hb.ext s0) (fun H hb=>hx.ok hb) fun _=>hx.le) ?_;rintro r1 H1 ⟨s1,⟨hg,_⟩ | ⟨_,v,rfl,hv⟩⟩
 ·cases hg
 have e1:znm (Q a) ⟨(a:Nat),2,zbw x⟩ = Q a ++ [⟨(a:Nat),2,zbw x⟩]:=by unfold znm; rw [if_pos hl]
 have e2:znl (Q a) ns = ns:=by unfold znl; rw [if_pos hl]
 have hbl:=hx.le.2.2.2.2.2.2;simp (disch:=omega) only [↓RD,RZ];refine zan (zqh (h.grow (s0.trans s1)) ha 2 hv.by (by rw [zgk]; omega) fun hh=>absurd hl (by omega)) ?_;rintro _ H2 ⟨rfl,L',d2,h2⟩;rw [e1,e2] at h2;simp (disch:=omega) only [↓RD,RZ];exact ⟨rfl,L',((s0.trans s1).frD _ _).trans d2,h2⟩
theorem zjf {H:Heap} {x m:Int} {f:V → M Res} {Q:Res → Heap → Prop} (h0:0 ≤ x) (h1:x ≤ m):@OkB V Res (sem T zaF [.int .i64 x,.int .i64 m]) H ⟨f⟩ ⟨Q⟩ ↔ Ok (f (.bool true)) H Q:=by
 have:=@zcr _ _ _ _ (@zeC H x m);rw [decide_eq_true h0,decide_eq_true h1] at this;exact this
def zfF (i:Nat) (e:Int) (m:Nat):Nt:=⟨20,0,(i:Nat),e,(m:Nat),0,[]⟩
theorem zqa {i m:Nat} {e:Int} (hi:i < 8) (he:0 ≤ e ∧ e ≤ 65535) (hm:m < 256) (hb:m.testBit i = false):NG (zfF i e m):=by
 refine ⟨fun {lo H bv} hbv=>?_,⟨by show (1:Int) ≤ 20; decide,by show (20:Int) ≤ 24; decide⟩,⟨by show (0:Int) ≤ 0; decide,by show (0:Int) ≤ 3; decide⟩,⟨by show (0:Int) ≤ (i:Nat); omega,by show ((i:Nat):Int) ≤ 7; omega⟩,he,⟨by show (0:Int) ≤ (m:Nat); omega,by show ((m:Nat):Int) ≤ 65535; omega⟩,⟨by show (0:Int) ≤ 0; decide,by show (0:Int) ≤ 65535; decide⟩,by show (0:Nat) ≤ 200; decide⟩;refine ziB ?_;unfold f_note_Good uL uS uT uFM uE uB uG uH uO uc;have vc:=hbv.cells1;have vo:=hbv.okc;refine zaz (zbk (by simp [nC,V.okc,vo]) ?_);rw [zar];have s0:=Grow.new H ⟨zae,nC (zfF i e m) bv,none⟩;have g0:(H.new ⟨zae,nC (zfF i e m) bv,none⟩).get H.next = some ⟨zae,nC (zfF i e m) bv,none⟩:=zaf _ _;have n0:(H.new ⟨zae,nC (zfF i e m) bv,none⟩).next = H.next + 1:=zao _ _;generalize hq:H.next = q at *;generalize H.new _ = H0 at *;unfold nC zfF at g0;dsimp only at g0;have ht:e.toNat = e.toNat:=rfl;simp (disch:=omega) only [↓RD,RZ,g0];refine zan (of_ok 20) ?_;rintro _ H1 ⟨rfl,s1⟩;have eb1:(bnd 20).1.map (V.int .i64) = [.int .i64 0,.int .i64 7,.int .i64 65535,.int .i64 255,.int .i64 0,.int .i64 0,.int .i64 0]:=rfl;have eb2:(bnd 20).2 = true:=rfl;rw [eb1,eb2];refine zb6 rfl ?_;refine zb6 rfl ?_;refine zdy rfl rfl fun q3 H3 e3 g3 s3 n3=>?_;have s13:=s1.trans s3;have n1:=s1.next;have g03:=(s13.same q (by omega)).trans g0;have bl:Ax.vlen bv = some (.int .i64 (([]:List Nat).length:Nat)):=(hbv.ext (s0.trans s13)).vlen;have gr:=s0.trans s13;have w0:=fun {f Q}=>@zjf H3 0 0 f Q (by decide) (by decide);have w1:=fun {f Q}=>@zjf H3 (i:Nat) 7 f Q (by omega) (by omega);have w2:=fun {f Q}=>@zjf H3 e 65535 f Q he.1 he.2;have w3:=fun {f Q}=>@zjf H3 (m:Nat) 255 f Q (by omega) (by omega);have sb:shr m i % 2 = 0:=by
  rw [zen];rw [Nat.testBit_eq_decide_div_mod_eq] at hb;have:=of_decide_eq_false hb;rw [Nat.shiftRight_eq_div_pow];omega
 have ea:Ax.bin .and (.int .i64 (shr m i:Nat)) (.int .i64 1) = some (.int .i64 0):=by
  have hle:shr m i ≤ m:=by rw [zen,Nat.shiftRight_eq_div_pow]; exact Nat.div_le_self _ _
  have:=@zoe ((shr m i:Nat):Int) 1 (by omega) (by omega) (by decide) (by decide);rw [this];have:((shr m i:Nat):Int).toNat &&& (1:Int).toNat = 0:=by
   rw [Int.toNat_natCast];show shr m i &&& 1 = 0;rw [Nat.and_one_is_mod];exact sb
  rw [this];rfl
 simp (disch:=omega) only [↓RD,RZ,g3,g03,w0,w1,w2,w3,bl,ea];exact gr
end Go.Ax.SU
/- De20 -/
namespace Go.Ax.SU
open Go.Ax
def hit1 (t:Tb) (but:Int) (c j:Nat):Bool:=t.uG j && (decide (((j:Nat):Int) ≠ but) && decide (t.aG j = (c:Nat)))
def hitA (t:Tb) (but:Int) (n c:Nat):Bool:=(List.range n).any (hit1 t but c)
def allN (t:Tb) (but:Int) (x:Nt) (Q:Nat → List Ot) (n:Nat):Nat → List Ot:=fun c=>if hitA t but n c then Q c ++ [⟨(c:Nat),2,zbw x⟩] else Q c
theorem zmK (t:Tb) (but:Int) (n c:Nat):hitA t but (n + 1) c = (hitA t but n c || hit1 t but c n):=by
 unfold hitA;rw [List.range_succ,List.any_append];simp
theorem zrI {t:Tb} {but:Int} {x:Nt} {Q:Nat → List Ot} {n:Nat} (h:∀ c,hit1 t but c n = false):allN t but x Q (n + 1) = allN t but x Q n:=by
 funext c;unfold allN;rw [zmK,h c,Bool.or_false]
theorem allN_yes {t:Tb} {but:Int} {x:Nt} {Q:Nat → List Ot} {n c0:Nat} (hg:zdT t = true) (hn:n < 8) (hu:t.uG n = true) (hb:((n:Nat):Int) ≠ but) (hc:t.aG n = (c0:Nat)) :
  allN t but x Q n c0 = Q c0 ∧ upd (allN t but x Q n) c0 (Q c0 ++ [⟨(c0:Nat),2,zbw x⟩]) = allN t but x Q (n + 1):=by
 have h0:hitA t but n c0 = false:=by
  unfold hitA;rw [List.any_eq_false];intro j hj h;have hj:=List.mem_range.1 hj;unfold hit1 at h;simp only [Bool.and_eq_true,decide_eq_true_eq] at h;have:=zq5 hg (by omega) hn h.1 hu (h.2.2.trans hc.symm);omega
 refine ⟨by unfold allN; rw [h0]; rfl,?_⟩;funext c;unfold allN upd;rw [zmK];by_cases hcc:c = c0
 ·subst hcc;have h1:hit1 t but c n = true:=by
   unfold hit1;rw [hu,decide_eq_true hb,decide_eq_true hc];rfl
  rw [if_pos rfl,h1,Bool.or_true,if_pos rfl]
 ·have h1:hit1 t but c n = false:=by
   unfold hit1;rw [decide_eq_false (show ¬ t.aG n = ((c:Nat):Int) by omega)];simp
  rw [if_neg hcc,h1,Bool.or_false]
theorem all_ok {i:Nat} {K:Kd} {H:Heap} {L:Nat → V} {rm:Nat → Rm} {Q:Nat → List Ot} {ns:List Nat} {nw:Int} {x:Nt} (hh:DW K H L rm Q ns nw) (hi:i < 4) (hg:zdT (rm i).t = true) (but:Int) (hx:NG x) (hxb:x.b = []) (hl:∀ c,(Q c).length < 32) :
  Ok (sem T zaR [.ptr K.d 0,.ptr K.d (i * 367),.int .i64 but,.agg (nC x .nils)]) H fun r H'=>r = .tup [] ∧ ∃ L',FrD K.lo L L' H H' ∧ DW K H' L' rm (allN (rm i).t but x Q 8) ns nw:=by
 refine ziZ ?_;unfold f_desk_Desk_all uS uF uNF uO uc;refine zaz (zbk (by simp [nC,V.okc]) ?_);rw [zar];have s0:=Grow.new H ⟨zae,nC x .nils,none⟩;have g0:(H.new ⟨zae,nC x .nils,none⟩).get H.next = some ⟨zae,nC x .nils,none⟩:=zaf _ _;have n0:(H.new ⟨zae,nC x .nils,none⟩).next = H.next + 1:=zao _ _;have hlo:=hh.lo;have hold:∀ c,c < 64 → (L c).pid ≠ some H.next:=fun c hc=>hh.old hc (Nat.le_refl _);generalize hq:H.next = q at *;generalize H.new _ = H0 at *;have hh0:=hh.grow s0;have ho:RmO (rm i):=by obtain ⟨D,qs,h,hQ⟩:=hh0; exact (h.rms i hi).2
 have l0:ldc (some 7) (nC x .nils) 0 = some (.agg (nC x .nils)):=rfl;have hU:∀ {H:Heap} {L:Nat → V} {Q:Nat → List Ot},DW K H L rm Q ns nw → ∃ D,H.get K.d = some ⟨tyDk,D,none⟩ ∧ ldc (some 8) D (i * 367) = some (.agg ((rm i).t.u.map .bool)) ∧ ∀ j,j < 8 → D[i * 367 + 8 + j]? = some (.int .i64 ((rm i).t.aG j)):=fun {H L Q} hh=>by
  obtain ⟨D,qs,h,hQ⟩:=hh;refine ⟨D,h.blk,?_,fun j hj=>?_⟩
  ·have h1:=rC_u ho;have h2:=zb5 ho;have h3:=(h.rms i hi).1;have hl:=h.len;simp only [ldc] at h1 ⊢;rw [if_pos (by omega)] at h1 ⊢;rw [← h3,List.drop_zero,List.take_take] at h1;exact h1
  ·rw [show i * 367 + 8 + j = i * 367 + (8 + j) by omega];exact (h.r1 hi (by omega)).trans (rC_a1 ho hj)
 obtain ⟨D0,gd0,hu0,-⟩:=hU hh0;simp (disch:=omega) only [↓RD,RZ,gd0,hu0];refine za9 (Q:=fun r H'=>r = .ex 0 [] ∧ ∃ L',FrD K.lo L L' H H' ∧ DW K H' L' rm (allN (rm i).t but x Q 8) ns nw) ?_ ?_
 ·refine zbJ (fun j L0 H'=>L0 = [.int .i64 (j:Nat)] ∧ ∃ L',FrD K.lo L L' H H' ∧ DW K H' L' rm (allN (rm i).t but x Q j) ns nw ∧ H'.get q = some ⟨zae,nC x .nils,none⟩ ∧ q < H'.next ∧ ∀ c,c < 64 → (L' c).pid ≠ some q) 8 ?_ ?_ ?_
  ·refine ⟨rfl,L,s0.frD _ _,?_,g0,by omega,hold⟩;have:allN (rm i).t but x Q 0 = Q:=by funext c; rfl
   rw [this];exact hh0
  ·rintro j _ H1 hj ⟨rfl,L1,f1,h1,g1,q1,o1⟩;obtain ⟨D1,gd1,-,ha1⟩:=hU h1;have haj:=ha1 j hj;have d1:decide (((j:Nat):Int) < 8) = true:=decide_eq_true (by omega);have d1':decide (j < 8) = true:=decide_eq_true hj;have w1:IntKind.i64.wrap (((j:Nat):Int) + 1) = ((j + 1:Nat):Int):=by rw [wrap_i64 (by omega) (by omega)]; omega
   have hx1:=zo1 ho.t hj;have i8:=fun {k}=>@ia8o K.d (i * 367 + 8) j hj k;unfold f_desk_Desk_all_0 uL uS uF uNF uB uIM uG uH uc ug;cases hu:(rm i).t.uG j with
   | false =>
    rw [hu] at hx1;rw [zrI (fun c=>by unfold hit1; rw [hu]; rfl)];simp (disch:=omega) only [↓RD,RZ,d1,d1',hx1,w1];exact ⟨L1,f1,h1,g1,q1,o1⟩
   | true =>
    rw [hu] at hx1;by_cases hjb:((j:Nat):Int) = but
    ·have b1:(((j:Nat):Int) != but) = false:=by simpa using hjb
     rw [zrI (fun c=>by unfold hit1; rw [decide_eq_false (not_not_intro hjb)]; simp)];simp (disch:=omega) only [↓RD,RZ,d1,d1',hx1,w1,b1];exact ⟨L1,f1,h1,g1,q1,o1⟩
    ·have b1:(((j:Nat):Int) != but) = true:=by simpa using hjb
     obtain ⟨-,k1,k2⟩:=zhp hg hj hu;obtain ⟨c0,hc0⟩:∃ c0:Nat,(rm i).t.aG j = (c0:Nat):=⟨((rm i).t.aG j).toNat,by omega⟩;obtain ⟨e1,e2⟩:=allN_yes (x:=x) (Q:=Q) hg hj hu hjb hc0;rw [hc0] at haj;simp (disch:=omega) only [↓RD,RZ,d1,d1',hx1,w1,b1,gd1,i8,haj,g1,l0];refine zan (zol (lb:=0) (x:=x) h1 (by omega) (by rw [hxb]; exact Lc.nil) hx (by rw [e1]; exact hl c0)) ?_;rintro _ H2 ⟨rfl,L2,f2,h2⟩;rw [e1,e2] at h2;simp (disch:=omega) only [↓RD,RZ,w1];have n2:=f2.next;refine ⟨L2,f1.trans f2,h2,(f2.same q hlo q1 o1).trans g1,by omega,fun c hc e=>?_⟩;rcases f2.own c q hc e with h | ⟨b,hb,h⟩
     ·omega
     ·exact o1 b hb h
  ·rintro _ H1 ⟨rfl,L1,f1,h1,g1,q1,o1⟩;unfold f_desk_Desk_all_0 uL uS uF uNF uB uIM uG uH uc ug;simp (disch:=omega) only [↓RD,RZ];exact ⟨L1,f1,h1⟩
 ·rintro _ H1 ⟨rfl,L1,f1,h1⟩;simp (disch:=omega) only [↓RD,RZ];exact ⟨rfl,L1,f1,h1⟩
end Go.Ax.SU
/- De21 -/
namespace Go.Ax.SU
open Go.Ax
theorem DA.hall {K:Kd} {H:Heap} {L:Nat → V} {D:List V} {rm:Nat → Rm} {q:Nat → List (V × Ot)} {ns:List Nat} {nw:Int} (h:DA K H L D rm q ns nw) {i k:Nat} {xs:List V} (hi:i < 4) (h1:i * 367 + 39 ≤ k) (h2:k + xs.length ≤ i * 367 + 367) :
  DA K (H.set K.d (some ⟨tyDk,splice D k xs,none⟩)) L (splice D k xs) rm q ns nw:=by
 have hl:=h.len;have hb:k + xs.length ≤ D.length:=by omega
 obtain ⟨cap,g1⟩:=h.cm.hd;obtain ⟨o,g2⟩:=h.cm.bd;have a1:AtS [K.d] H (H.set K.d (some ⟨tyDk,splice D k xs,none⟩)):=AtS.set _ (by simp) _;refine ⟨zaS _ _ _,by rw [zgf hb]; exact hl,fun j hj=>?_,by rw [zcy hb (by omega)]; exact h.now,fun a ha=>by rw [zcy hb (by omega)]; exact h.po a ha,by rw [zcy hb (by omega)]; exact h.co,⟨⟨cap,(zaV _ _ (Ne.symm h.dC)).trans g1⟩,⟨o,(zaV _ _ (Ne.symm h.dc)).trans g2⟩,h.cm.len,h.cm.small⟩,h.pm.atS a1 (fun k hk=>by simp only [List.mem_singleton] at hk; subst hk; exact ⟨h.dl,fun a ha e=>(h.Pd a ha).1 e.symm⟩),h.dl,h.Cl,h.cl,h.dc,h.Cc,h.dC,h.Pd⟩;exact ⟨(zhX hb (by omega)).trans (h.rms j hj).1,(h.rms j hj).2⟩
theorem Clear_ok {a:Nat} {K:Kd} {H:Heap} {L:Nat → V} {rm:Nat → Rm} {Q:Nat → List Ot} {ns:List Nat} {nw:Int} (hh:DW K H L rm Q ns nw) (ha:a < 64) :
  Ok (sem T zba [.ptr (K.P a) 0]) H fun r H'=>r = .tup [] ∧ FrD K.lo L (upd L a .nils) H H' ∧ DW K H' (upd L a .nils) rm (upd Q a []) ns nw:=by
 refine zdY ?_;unfold zcH uNF;obtain ⟨D,q,h,hQ⟩:=hh;have g:=h.pm.blk a ha;have hlow:=h.pm.low a ha;simp (disch:=first | omega | (simp only [RY] <;> omega) | decide) only [↓RD,RZ,eq_self,Int.reduceToNat,Int.reduceAdd,Nat.reduceAdd,Nat.reduceSub,Nat.reduceMul,Nat.reduceLeDiff,g];have a1:AtS [K.P a] H (H.set (K.P a) (some ⟨tyPo,[.int .i64 32,.nils],none⟩)):=AtS.set _ (by simp) _;refine ⟨rfl,⟨a1.next,fun i hl hi _=>a1.same i hi (by simp; omega),fun b i hb hi=>.inr ?_⟩,D,_,h.take ha a1 (h.pm.post (l:=[]) ha a1.next (fun i hi hip _=>a1.same i hi (by simp; exact hip)) (zaS _ _ _) Apo.nil (by simp) (fun i hi=>by cases hi) fun e he=>by cases he),zle hQ a []⟩;by_cases hba:b = a
 ·subst hba; rw [zaY] at hi; cases hi
 ·rw [upd_ne _ _ hba] at hi; exact ⟨b,hb,hi⟩
theorem zot (t:Tb) (i j:Nat):(maskN t j).testBit i = (decide (i < j) && t.uG i):=by
 induction j with
 | zero =>
  have:maskN t 0 = 0:=rfl;rw [this,Nat.zero_testBit];simp
 | succ j ih =>
  rw [zif];by_cases hij:i = j
  ·subst hij;cases hu:t.uG i with
   | true=>simp [Nat.testBit_or,Nat.testBit_two_pow]
   | false=>simp [ih,hu]
  ·have e:decide (i < j + 1) = decide (i < j):=decide_eq_decide.2 (by omega);rw [e];split
   ·rw [Nat.testBit_or,ih,Nat.testBit_two_pow];have:decide (j = i) = false:=decide_eq_false (fun h=>hij h.symm);rw [this,Bool.or_false]
   ·exact ih
def zlr:Nt:=⟨23,0,0,0,0,0,[]⟩
theorem zqM:NG zlr:=NG.of (by decide) ⟨by decide,by decide,by decide⟩
def zc6 (was r:Rm) (n:Nat):List Nat:=(List.range n).filter fun k=>was.t.uG k && !r.t.uG k
def ovF (was:Rm) (Q:Nat → List Ot) (i:Nat):Nat → List Ot:=upd Q (was.t.aG i).toNat [⟨((was.t.aG i).toNat:Nat),2,zbw zlr⟩]
def weF (r:Rm) (Q:Nat → List Ot) (i:Nat):Nat → List Ot:=allN r.t (i:Nat) (zfF i (comR r) (zcP r.t)) Q 8
def zjp (was r:Rm) (Q:Nat → List Ot):Nat → List Ot:=(zc6 was r 8).foldl (weF r) ((zc6 was r 8).foldl (ovF was) Q)
theorem zfQ {was r:Rm} {k n:Nat} (h:k ∈ zc6 was r n):k < n ∧ was.t.uG k = true ∧ r.t.uG k = false:=by
 unfold zc6 at h;rw [List.mem_filter] at h;simp only [Bool.and_eq_true,Bool.not_eq_true',List.mem_range] at h;exact h
theorem zk2 (was r:Rm) (n:Nat):zc6 was r (n + 1) = zc6 was r n ++ (if was.t.uG n && !r.t.uG n then [n] else []):=by
 unfold zc6;rw [List.range_succ,List.filter_append];congr 1;rw [List.filter_cons];rfl
theorem zhr (was r:Rm) (n:Nat):(zc6 was r n).length ≤ n:=by
 have:=List.length_filter_le (fun k=>was.t.uG k && !r.t.uG k) (List.range n);rw [List.length_range] at this;exact this
theorem ov_len {was:Rm} {B:Nat} (hB:1 ≤ B):∀ (l:List Nat) {Q:Nat → List Ot},(∀ c,(Q c).length ≤ B) → ∀ c,((l.foldl (ovF was) Q) c).length ≤ B:=by
 intro l
 induction l with
 | nil=>exact fun h c=>h c
 | cons i l ih =>
  intro Q h c;rw [List.foldl_cons];refine ih (fun c=>?_) c;unfold ovF upd;split
  ·exact hB
  ·exact h c
theorem we_len {r:Rm} {B:Nat}:∀ (l:List Nat) {Q:Nat → List Ot},(∀ c,(Q c).length ≤ B) → ∀ c,((l.foldl (weF r) Q) c).length ≤ B + l.length:=by
 intro l
 induction l generalizing B with
 | nil=>exact fun h c=>h c
 | cons i l ih =>
  intro Q h c;rw [List.foldl_cons,List.length_cons];have:=ih (B:=B + 1) (Q:=weF r Q i) (fun c=>?_) c
  ·omega
  ·have:=h c;unfold weF allN;split
   ·rw [List.length_append]; show (Q c).length + 1 ≤ B + 1; omega
   ·omega
theorem zk3 {β:Type} (f:β → Nat → β) (b:β) (l:List Nat) (m:Nat) (hm:m < l.length):(l.take (m + 1)).foldl f b = f ((l.take m).foldl f b) l[m]:=by
 rw [List.take_add_one,List.getElem?_eq_getElem hm,List.foldl_append];rfl
theorem zoY {H:Heap} {was:Rm} {K:Kd} {L:Nat → V} {rm:Nat → Rm} {Q:Nat → List Ot} {ns:List Nat} {nw:Int} (hh:DW K H L rm Q ns nw) {i0:Nat} (hi:i0 < 4) (hw:RmO was) :
  Ok (M.iter (f_desk_Desk_went_0 (sem T) (.agg (was.t.u.map .bool)) (.ptr K.d (i0 * 367))) [.nils,.int .i64 0]) H fun x H'=>∃ w,x = .ex 0 [w] ∧ Grow H H' ∧ App zcp 1 H.next H' w ((zc6 was (rm i0) 8).map fun k=>.int .i64 (k:Nat)) (zc6 was (rm i0) 8).length:=by
 refine za9 (Q:=fun x H'=>∃ w,x = .ex 0 [w] ∧ Grow H H' ∧ App zcp 1 H.next H' w ((zc6 was (rm i0) 8).map fun k=>.int .i64 (k:Nat)) (zc6 was (rm i0) 8).length) ?_ fun x H' h=>h;refine zbJ (fun j L0 H'=>∃ w,L0 = [w,.int .i64 (j:Nat)] ∧ Grow H H' ∧ App zcp 1 H.next H' w ((zc6 was (rm i0) j).map fun k=>.int .i64 (k:Nat)) (zc6 was (rm i0) j).length) 8 ?_ ?_ ?_
 ·exact ⟨.nils,rfl,Grow.refl _,App.nil⟩
 ·rintro j _ H1 hj ⟨w,rfl,s1,hw1⟩;obtain ⟨D,q,hd,hQ⟩:=hh.grow s1;have gd:=hd.blk;have n1:=s1.next;have d1:decide (((j:Nat):Int) < 8) = true:=decide_eq_true (by omega);have d1':decide (j < 8) = true:=decide_eq_true hj;have w1:IntKind.i64.wrap (((j:Nat):Int) + 1) = ((j + 1:Nat):Int):=by rw [wrap_i64 (by omega) (by omega)]; omega
  have hx:=zo1 hw.t hj;have i0':=fun {k}=>@ia8o K.d (i0 * 367) j hj k;have du:D[i0 * 367 + j]? = some (.bool ((rm i0).t.uG j)):=(hd.r1 hi (by omega)).trans (rC_u1 (hd.rms i0 hi).2 hj);rw [zk2];unfold f_desk_Desk_went_0 uL uB uG uH uc ug;cases hu:was.t.uG j with
  | false =>
   rw [hu] at hx;simp only [Bool.false_and,Bool.false_eq_true,if_false,List.append_nil];simp (disch:=omega) only [↓RD,RZ,d1,d1',hx,w1];exact ⟨w,rfl,s1,hw1⟩
  | true =>
   rw [hu] at hx;cases hu':(rm i0).t.uG j with
   | true =>
    rw [hu'] at du;simp only [Bool.not_true,Bool.and_false,Bool.false_eq_true,if_false,List.append_nil];simp (disch:=omega) only [↓RD,RZ,d1,d1',hx,i0',gd,du,w1,Bool.not_true];exact ⟨w,rfl,s1,hw1⟩
   | false =>
    rw [hu'] at du;simp only [Bool.not_false,Bool.and_self,if_true];have s4:=Grow.new H1 ⟨zcp,[V.int .i64 (j:Nat)],none⟩;have n4:(H1.new ⟨zcp,[V.int .i64 (j:Nat)],none⟩).next = H1.next + 1:=zao _ _;have hw4:=hw1.atS (s4.atS []) (by simp);have hgl:=zhr was (rm i0) j;simp (disch:=first | omega | (simp only [RY] <;> omega) | decide) only [↓RD,RZ,eq_self,Int.reduceToNat,Int.reduceAdd,Nat.reduceAdd,Nat.reduceSub,Nat.reduceMul,Nat.reduceLeDiff,d1,d1',hx,i0',gd,du,w1,Bool.not_false];rw [zb7];have hya:=zhT (H:=H1) (ty:=zcp) (o:=none) (cap:=.fix 1) (n:=1) (e:=1) (id:=H1.next) rfl (cs:=[V.int .i64 (j:Nat)]) rfl;refine zh8 (bytes:=8) hw4 (by omega) hya rfl (by omega) (by omega) fun w5 H5 hx5 st5=>?_;simp (disch:=omega) only [↓RD,RZ,w1];have n5:=st5.next;have hown:=hw1.lc.own;refine ⟨w5,rfl,⟨by omega,fun i hi=>?_⟩,?_⟩
    ·rw [st5.same i (by omega) (fun e=>by have:=(hown i (by simpa [zes] using e)).1; omega),s4.same i (by omega),s1.same i hi]
    ·rw [List.map_append,List.length_append];exact hx5
 ·rintro _ H1 ⟨w,rfl,s1,hw1⟩;unfold f_desk_Desk_went_0 uL uB uG uH uc ug;simp (disch:=omega) only [↓RD,RZ];exact ⟨w,rfl,s1,hw1⟩
end Go.Ax.SU
/- De22 -/
namespace Go.Ax.SU
open Go.Ax
theorem ia88 {d o i:Nat} (hi:i < 8) {k:IntKind}:Ax.iaddr (some 8) 8 (.ptr d o) (.int k (i:Nat)) = some (.ptr d (o + i * 8)):=by
 simp only [Ax.iaddr];rw [if_pos (by omega),Int.toNat_natCast]
theorem zoZ {H:Heap} {K:Kd} {L:Nat → V} {rm:Nat → Rm} {Q:Nat → List Ot} {ns:List Nat} {nw:Int} (hh:DW K H L rm Q ns nw) {i0 i:Nat} (hi0:i0 < 4) (hi:i < 8) :
  Ok (M.iter (f_desk_Desk_went_1 (sem T) (.ptr K.d (i0 * 367)) (.int .i64 (i:Nat))) [.int .i64 0]) H fun x H'=>x = .ex 4 [] ∧ AtS [K.d] H H' ∧ DW K H' L rm Q ns nw:=by
 refine zbJ (fun j L0 H'=>L0 = [.int .i64 (j:Nat)] ∧ AtS [K.d] H H' ∧ DW K H' L rm Q ns nw) 8 ?_ ?_ ?_
 ·exact ⟨rfl,AtS.refl _ _,hh⟩
 ·rintro j _ H1 hj ⟨rfl,a1,D,q,h1,hQ⟩;have gd:=h1.blk;have hl:=h1.len;have d1:decide (((j:Nat):Int) < 8) = true:=decide_eq_true (by omega);have d1':decide (j < 8) = true:=decide_eq_true hj;have w1:IntKind.i64.wrap (((j:Nat):Int) + 1) = ((j + 1:Nat):Int):=by rw [wrap_i64 (by omega) (by omega)]; omega
  have a8:=fun {k}=>@ia88 K.d (i0 * 367 + 303) i hi k;have b8:=fun {k}=>@ia8o K.d (i0 * 367 + 303 + i * 8) j hj k;have c8:=fun {k}=>@ia88 K.d (i0 * 367 + 303) j hj k;have e8:=fun {k}=>@ia8o K.d (i0 * 367 + 303 + j * 8) i hi k;have k1:i0 * 367 + 303 + i * 8 + j < 1535:=by omega
  have k2:i0 * 367 + 303 + j * 8 + i < 1535:=by omega
  have h2:=h1.hall (xs:=[.nilp]) hi0 (k:=i0 * 367 + 303 + i * 8 + j) (by omega) (by simp; omega);have h3:=h2.hall (xs:=[.nilp]) hi0 (k:=i0 * 367 + 303 + j * 8 + i) (by omega) (by simp; omega);have hl2:=h2.len;unfold f_desk_Desk_went_1 uNF uB uI uc ug;simp (disch:=omega) only [↓RD,RZ,d1,d1',a8,b8,c8,e8,gd,hl,hl2,k1,k2,w1];exact ⟨by omega,by omega,(a1.trans (AtS.set _ (by simp) _)).trans (AtS.set _ (by simp) _),_,_,h3,hQ⟩
 ·rintro _ H1 ⟨rfl,a1,h1⟩;unfold f_desk_Desk_went_1 uNF uB uI uc ug;simp (disch:=omega) only [↓RD,RZ];exact ⟨a1,h1⟩
theorem int_at {H:Heap} {lo n:Nat} {w:V} {gl:List Nat} (hw:Lc 1 lo H w (gl.map fun k=>V.int .i64 (k:Nat)) n) {m:Nat} (hm:m < gl.length):∃ p,(∀ {k:IntKind},Ax.iaddr none 1 w (.int k (m:Nat)) = some p) ∧ ∀ {f:V → M Res} {Q:Res → Heap → Prop},@OkB V Res (mload none p) H ⟨f⟩ ⟨Q⟩ ↔ Ok (f (.int .i64 (gl[m]:Nat))) H Q:=by
 have hn:n = gl.length:=by have:=hw.len; rw [List.length_map] at this; omega
 obtain ⟨p,hp,hl⟩:=hw.at (i:=(m:Nat)) (by omega) (by omega);refine ⟨p,hp,fun {f Q}=>?_⟩;have e:((gl.map fun k=>V.int .i64 (k:Nat)).drop (((m:Nat):Int).toNat * 1)).take 1 = [V.int .i64 (gl[m]:Nat)]:=by
  rw [Int.toNat_natCast,Nat.mul_one,List.drop_eq_getElem_cons (by rw [List.length_map]; exact hm),List.take_succ_cons,List.take_zero,List.getElem_map]
 rw [e] at hl;exact (hl.ld0 (by simp)).trans Iff.rfl
abbrev zSt:List V:=[V.bool false,V.int .u32 0,V.int .i64 0,V.int .i64 0,V.int .i64 0,V.nils,V.int .i64 0,V.nils,V.nils,V.int .u32 0,V.nils,V.bool false,V.int .u32 0,V.int .i64 0,V.int .i64 0,V.int .i64 0,V.nils,V.int .i64 0,V.nils,V.nils,V.int .u32 0,V.nils,V.bool false,V.int .u32 0,V.int .i64 0,V.int .i64 0,V.int .i64 0,V.nils,V.int .i64 0,V.nils,V.nils,V.int .u32 0,V.nils]
theorem zoX {H:Heap} {was:Rm} {K:Kd} {L:Nat → V} {rm:Nat → Rm} {Q:Nat → List Ot} {ns:List Nat} {nw:Int} (hh:DW K H L rm Q ns nw) {i0 qb lo:Nat} (hi0:i0 < 4) (hw:RmO was) (hwg:zdT was.t = true) {w:V} {gl:List Nat} (hgl:∀ k ∈ gl,k < 8 ∧ was.t.uG k = true) (hlv:Lc 1 lo H w (gl.map fun k=>V.int .i64 (k:Nat)) gl.length) (hll:gl.length ≤ 8) (hlo:K.lo ≤ lo) (hwn:∀ c i,c < 64 → w.pid = some i → (L c).pid ≠ some i)
  (hqb:K.lo ≤ qb) (hqb':qb < H.next) (hqL:∀ c,c < 64 → (L c).pid ≠ some qb) (hg:H.get qb = some ⟨zad,rC was,none⟩) :
  Ok (M.iter (f_desk_Desk_went_2 (sem T) (.int .i64 (gl.length:Nat)) w (.ptr K.d (i0 * 367)) (.ptr qb 0) (.ptr K.d 0)) [.int .i64 0]) H fun x H'=>x = .ex 2 [] ∧ ∃ L',FrD K.lo L L' H H' ∧ DW K H' L' rm (gl.foldl (ovF was) Q) ns nw:=by
 refine za9 (Q:=fun x H'=>x = .ex 2 [] ∧ ∃ L',FrD K.lo L L' H H' ∧ DW K H' L' rm (gl.foldl (ovF was) Q) ns nw) ?_ fun x H' h=>h;refine zbJ (fun m L0 H'=>L0 = [.int .i64 (m:Nat)] ∧ ∃ L',FrD K.lo L L' H H' ∧ DW K H' L' rm ((gl.take m).foldl (ovF was) Q) ns nw) gl.length ?_ ?_ ?_
 ·exact ⟨rfl,L,FrD.refl _ _ _,hh⟩
 ·rintro m _ H1 hm ⟨rfl,L1,f1,h1⟩;have d1:decide (((m:Nat):Int) < ((gl.length:Nat):Int)) = true:=decide_eq_true (by omega);have d1':decide (m < gl.length) = true:=decide_eq_true hm;have w1:IntKind.i64.wrap (((m:Nat):Int) + 1) = ((m + 1:Nat):Int):=by rw [wrap_i64 (by omega) (by omega)]; omega
  have hlv1:Lc 1 lo H1 w (gl.map fun k=>V.int .i64 (k:Nat)) gl.length:=⟨by rw [zcN fun i hi=>f1.same i (Nat.le_trans hlo (hlv.own i hi).1) (hlv.own i hi).2 fun c hc=>hwn c i hc hi]; exact hlv.rc,fun i hi=>⟨(hlv.own i hi).1,Nat.lt_of_lt_of_le (hlv.own i hi).2 f1.next⟩,hlv.cap⟩;obtain ⟨p,hp,hld⟩:=int_at hlv1 hm;obtain ⟨hi8,hui⟩:=hgl _ (List.getElem_mem hm);have hft:=zk3 (ovF was) Q gl m hm;rw [hft];generalize gl[m] = i at *;have g1:=(f1.same qb hqb hqb' hqL).trans hg;unfold f_desk_Desk_went_2 uL uT uF uNF uB uI uIM uc ug;simp (disch:=omega) only [↓RD,RZ,d1,d1',hp,hld];refine za9 (zoZ h1 hi0 hi8) ?_;rintro _ H2 ⟨rfl,a2,h2⟩;have hdl:K.d < K.lo:=by obtain ⟨D,q,hd,hQ⟩:=hh; exact hd.dl
  have f2:=FrD.low a2 L1 (by simp; exact hdl);have f12:=f1.trans f2;have g2:=(a2.same qb (by have:=f1.next; omega) (by simp; omega)).trans g1;obtain ⟨D,q,hd,hQ⟩:=h2;have gd:=hd.blk;have hl:=hd.len;obtain ⟨k0,k1,k2⟩:=zhp hwg hi8 hui;obtain ⟨c,hc⟩:∃ c:Nat,was.t.aG i = (c:Nat):=⟨(was.t.aG i).toNat,by omega⟩;have hc64:c < 64:=by omega
  have ca:=rC_a1 hw hi8;rw [hc] at ca;have i33:∀ {k:IntKind},Ax.iaddr (some 8) 33 (.ptr K.d (i0 * 367 + 39)) (.int k (i:Nat)) = some (.ptr K.d (i0 * 367 + 39 + i * 33)):=fun {k}=>by
   simp only [Ax.iaddr];rw [if_pos (by omega),Int.toNat_natCast]
  have i8:=fun {k}=>@ia8o qb 8 i hi8 k;have i64':=fun {k}=>@ia64 K.d c hc64 k;have hpo:=hd.po c hc64;have kb:i0 * 367 + 39 + i * 33 + 33 ≤ 1535:=by omega
  have h3:=hd.hall (xs:=zSt) hi0 (k:=i0 * 367 + 39 + i * 33) (by omega) (by show _ + 33 ≤ _; omega);have hpo3:=h3.po c hc64;have f3:=FrD.low (AtS.set (S:=[K.d]) H2 (k:=K.d) (by simp) (some ⟨tyDk,splice D (i0 * 367 + 39 + i * 33) zSt,none⟩)) L1 (by simp; exact hdl);simp (disch:=omega) only [↓RD,RZ,i33,gd,hl,kb,g2,i8,ca,i64',hpo3];refine zan (Clear_ok (a:=c) ⟨_,_,h3,hQ⟩ hc64) ?_;rintro _ H4 ⟨rfl,f4,h4⟩;simp (disch:=first | omega | (simp only [RY] <;> omega) | decide) only [↓RD,RZ,eq_self,Int.reduceToNat,Int.reduceAdd,Nat.reduceAdd,Nat.reduceSub,Nat.reduceMul,Nat.reduceLeDiff];refine zan (zol (lb:=0) (a:=c) (x:=zlr) h4 hc64 Lc.nil zqM (by rw [zaY]; decide)) ?_;rintro _ H5 ⟨rfl,L5,f5,h5⟩;simp (disch:=omega) only [↓RD,RZ,w1];refine ⟨rfl,L5,((f12.trans f3).trans f4).trans f5,?_⟩;have e:upd (upd ((gl.take m).foldl (ovF was) Q) c []) c (upd ((gl.take m).foldl (ovF was) Q) c [] c ++ [⟨(c:Nat),2,zbw zlr⟩]) = ovF was ((gl.take m).foldl (ovF was) Q) i:=by
   have hct:(was.t.aG i).toNat = c:=by omega
   funext b;unfold ovF;rw [hct,zaY];unfold upd;split <;> rfl
  rw [e] at h5;exact h5
 ·rintro _ H1 ⟨rfl,L1,f1,h1⟩;have d1:decide (((gl.length:Nat):Int) < ((gl.length:Nat):Int)) = false:=decide_eq_false (by omega);have d1':decide (gl.length < gl.length) = false:=decide_eq_false (by omega);rw [List.take_of_length_le (Nat.le_refl _)] at h1;unfold f_desk_Desk_went_2 uL uT uF uNF uB uI uIM uc ug;simp (disch:=omega) only [↓RD,RZ,d1,d1'];exact ⟨L1,f1,h1⟩
theorem zoW {H:Heap} {K:Kd} {L:Nat → V} {rm:Nat → Rm} {Q:Nat → List Ot} {ns:List Nat} {nw:Int} {B:Nat} (hh:DW K H L rm Q ns nw) {i0 lo:Nat} (hi0:i0 < 4) (hr:RmG (rm i0)) (hB:B + 8 < 32) (hQB:∀ c,(Q c).length ≤ B) {w:V} {gl:List Nat} (hgl:∀ k ∈ gl,k < 8 ∧ (rm i0).t.uG k = false) (hlv:Lc 1 lo H w (gl.map fun k=>V.int .i64 (k:Nat)) gl.length) (hll:gl.length ≤ 8) (hlo:K.lo ≤ lo) (hwn:∀ c i,c < 64 → w.pid = some i → (L c).pid ≠ some i) :
  Ok (M.iter (f_desk_Desk_went_3 (sem T) (.int .i64 (gl.length:Nat)) w (.ptr K.d 0) (.ptr K.d (i0 * 367))) [.int .i64 0]) H fun x H'=>x = .ex 6 [] ∧ ∃ L',FrD K.lo L L' H H' ∧ DW K H' L' rm (gl.foldl (weF (rm i0)) Q) ns nw:=by
 refine za9 (Q:=fun x H'=>x = .ex 6 [] ∧ ∃ L',FrD K.lo L L' H H' ∧ DW K H' L' rm (gl.foldl (weF (rm i0)) Q) ns nw) ?_ fun x H' h=>h;refine zbJ (fun m L0 H'=>L0 = [.int .i64 (m:Nat)] ∧ ∃ L',FrD K.lo L L' H H' ∧ DW K H' L' rm ((gl.take m).foldl (weF (rm i0)) Q) ns nw) gl.length ?_ ?_ ?_
 ·exact ⟨rfl,L,FrD.refl _ _ _,hh⟩
 ·rintro m _ H1 hm ⟨rfl,L1,f1,h1⟩;have d1:decide (((m:Nat):Int) < ((gl.length:Nat):Int)) = true:=decide_eq_true (by omega);have d1':decide (m < gl.length) = true:=decide_eq_true hm;have w1:IntKind.i64.wrap (((m:Nat):Int) + 1) = ((m + 1:Nat):Int):=by rw [wrap_i64 (by omega) (by omega)]; omega
  have hlv1:Lc 1 lo H1 w (gl.map fun k=>V.int .i64 (k:Nat)) gl.length:=⟨by rw [zcN fun i hi=>f1.same i (Nat.le_trans hlo (hlv.own i hi).1) (hlv.own i hi).2 fun c hc=>hwn c i hc hi]; exact hlv.rc,fun i hi=>⟨(hlv.own i hi).1,Nat.lt_of_lt_of_le (hlv.own i hi).2 f1.next⟩,hlv.cap⟩;obtain ⟨p,hp,hld⟩:=int_at hlv1 hm;obtain ⟨hi8,hui⟩:=hgl _ (List.getElem_mem hm);have hft:=zk3 (weF (rm i0)) Q gl m hm;have hlen:∀ c,(((gl.take m).foldl (weF (rm i0)) Q) c).length < 32:=fun c=>by
   have:=we_len (r:=rm i0) (gl.take m) hQB c;rw [List.length_take] at this;omega
  rw [hft];generalize gl[m] = i at *;obtain ⟨D,q,hd,hQ⟩:=id h1;have gd:=hd.blk;have hT:ldc (some 16) D (i0 * 367) = some (.agg (tC (rm i0).t)):=(hd.tb.tb i0 hi0).1;unfold f_desk_Desk_went_3 uL uS uF uNF uB uIM uU uc ug;simp (disch:=omega) only [↓RD,RZ,d1,d1',hp,hld,gd,hT];rw [zb7];refine zan (zrq h1 hi0) ?_;rintro _ H2 ⟨rfl,s2⟩;have hdl:=hd.dl;have htop:=hd.pm.top;have hun:=s2.same K.d (by omega);simp (disch:=omega) only [↓RD,RZ,hun];refine zan (zjK hr.o.t hr.t) ?_;rintro _ H3 ⟨rfl,s3⟩;have hmb:=zot (rm i0).t i 8;rw [hui,Bool.and_false] at hmb;have hce:=zn8 hr.k;have he0:=hr.k.e0;have hc1:comR (rm i0) ≤ 65535:=by
   unfold comR;split
   ·rename_i ho; exact (hr.k.on ho).2.1
   ·exact hr.k.e1
  have ng:=zqa (i:=i) (m:=zcP (rm i0).t) (e:=comR (rm i0)) hi8 ⟨by omega,hc1⟩ (zhi _ 8) hmb;simp (disch:=first | omega | (simp only [RY] <;> omega) | decide) only [↓RD,RZ,eq_self,Int.reduceToNat,Int.reduceAdd,Nat.reduceAdd,Nat.reduceSub,Nat.reduceMul,Nat.reduceLeDiff];refine zan (all_ok (x:=zfF i (comR (rm i0)) (zcP (rm i0).t)) ((h1.grow s2).grow s3) hi0 hr.t (i:Nat) ng rfl hlen) ?_;rintro _ H4 ⟨rfl,L4,f4,h4⟩;simp (disch:=omega) only [↓RD,RZ,w1];exact ⟨rfl,L4,(f1.trans ((s2.trans s3).frD _ _)).trans f4,h4⟩
 ·rintro _ H1 ⟨rfl,L1,f1,h1⟩;have d1:decide (((gl.length:Nat):Int) < ((gl.length:Nat):Int)) = false:=decide_eq_false (by omega);have d1':decide (gl.length < gl.length) = false:=decide_eq_false (by omega);rw [List.take_of_length_le (Nat.le_refl _)] at h1;unfold f_desk_Desk_went_3 uL uS uF uNF uB uIM uU uc ug;simp (disch:=omega) only [↓RD,RZ,d1,d1'];exact ⟨L1,f1,h1⟩
theorem went_ok {H:Heap} {was:Rm} {K:Kd} {L:Nat → V} {rm:Nat → Rm} {Q:Nat → List Ot} {ns:List Nat} {nw:Int} {B:Nat} (hh:DW K H L rm Q ns nw) {i0:Nat} (hi0:i0 < 4) (hr:RmG (rm i0)) (hw:RmO was) (hwg:zdT was.t = true) (hB1:1 ≤ B) (hB:B + 8 < 32) (hQB:∀ c,(Q c).length ≤ B) :
  Ok (sem T zaJ [.ptr K.d 0,.ptr K.d (i0 * 367),.agg (rC was)]) H fun x H'=>x = .tup [] ∧ ∃ L',FrD K.lo L L' H H' ∧ DW K H' L' rm (zjp was (rm i0) Q) ns nw:=by
 refine zh9 ?_;unfold f_desk_Desk_went uL uS uF uO uc ug;refine zaz (zbk (zfy was) ?_);rw [zar];have s0:=Grow.new H ⟨zad,rC was,none⟩;have g0:(H.new ⟨zad,rC was,none⟩).get H.next = some ⟨zad,rC was,none⟩:=zaf _ _;have n0:(H.new ⟨zad,rC was,none⟩).next = H.next + 1:=zao _ _;have hlo:=hh.lo;have hold:∀ c,c < 64 → (L c).pid ≠ some H.next:=fun c hc=>hh.old hc (Nat.le_refl _);have hold2:∀ c i,c < 64 → H.next ≤ i → (L c).pid ≠ some i:=fun c i hc hi=>hh.old hc hi;generalize hq:H.next = q at *;generalize H.new _ = H0 at *;have h0:=hh.grow s0;have hU:=rC_u hw;simp (disch:=omega) only [↓RD,RZ,g0,hU];refine za9 (zoY h0 hi0 hw) ?_;rintro _ H1 ⟨w,rfl,s1,hwv⟩;have h1:=h0.grow s1;have g1:=(s1.same q (by omega)).trans g0;have n1:=s1.next;have hvl:=hwv.lc.vlen;have hll:=zhr was (rm i0) 8;have hown:=hwv.lc.own;simp (disch:=omega) only [↓RD,RZ,hvl];refine za9 (zoX (w:=w) (gl:=zc6 was (rm i0) 8) h1 hi0 hw hwg (fun k hk=>⟨(zfQ hk).1,(zfQ hk).2.1⟩) hwv.lc hll (by omega) (fun c i hc hi=>hold2 c i hc (by have:=(hown i hi).1; omega)) hlo (by omega) hold g1) ?_;rintro _ H2 ⟨rfl,L2,f2,h2⟩;have hlv2:Lc 1 H0.next H2 w ((zc6 was (rm i0) 8).map fun k=>V.int .i64 (k:Nat)) (zc6 was (rm i0) 8).length:=⟨by rw [zcN fun i hi=>f2.same i (by have:=(hown i hi).1; omega) (hown i hi).2 fun c hc=>hold2 c i hc (by have:=(hown i hi).1; omega)]; exact hwv.lc.rc,fun i hi=>⟨(hown i hi).1,Nat.lt_of_lt_of_le (hown i hi).2 f2.next⟩,hwv.lc.cap⟩;simp (disch:=omega) only [↓RD,RZ,hvl];refine za9 (zoW (w:=w) (B:=B) (gl:=zc6 was (rm i0) 8) h2 hi0 hr hB (ov_len hB1 _ hQB) (fun k hk=>⟨(zfQ hk).1,(zfQ hk).2.2⟩) hlv2 hll (by omega) (fun c i hc hi e=>?_)) ?_
 ·rcases f2.own c i hc e with h | ⟨b,hb,h⟩
  ·have:=(hown i hi).2; omega
  ·exact hold2 b i hb (by have:=(hown i hi).1; omega) h
 ·rintro _ H3 ⟨rfl,L3,f3,h3⟩;simp (disch:=omega) only [↓RD,RZ];exact ⟨rfl,L3,(((s0.trans s1).frD _ _).trans f2).trans f3,h3⟩
end Go.Ax.SU
/- De23 -/
namespace Go.Ax.SU
open Go.Ax
theorem zl8 {r:Rm} {now:Int} (h:∀ j,j < 8 → silS r now j = false):zd8 r now = r:=by
 have:∀ j,j ≤ 8 → zda r now j = r:=by
  intro j
  induction j with
  | zero=>intro _; rfl
  | succ j ih =>
   intro hj;show (if silS r now j then _ else _) = r;rw [h j (by omega),if_neg (by decide)];exact ih (by omega)
 exact this 8 (Nat.le_refl _)
theorem zpy (r:Rm) (n:Nat):zc6 r r n = []:=by
 unfold zc6;rw [List.filter_eq_nil_iff];intro a _;cases r.t.uG a <;> simp
theorem zkN (r:Rm) (Q:Nat → List Ot):zjp r r Q = Q:=by
 unfold zjp;rw [zpy];rfl
theorem DA.time {K:Kd} {H:Heap} {L:Nat → V} {D:List V} {rm:Nat → Rm} {q:Nat → List (V × Ot)} {ns:List Nat} {nw:Int} (h:DA K H L D rm q ns nw) (x:Int) :
  DA K (H.set K.d (some ⟨tyDk,splice D 1468 [.int .i64 x],none⟩)) L (splice D 1468 [.int .i64 x]) rm q ns x:=by
 have hl:=h.len;have hb:1468 + ([V.int .i64 x]:List V).length ≤ D.length:=by rw [hl]; show 1468 + 1 ≤ 1535; decide
 have hb1:([V.int .i64 x]:List V).length = 1:=rfl;obtain ⟨cap,g1⟩:=h.cm.hd;obtain ⟨o,g2⟩:=h.cm.bd;have a1:AtS [K.d] H (H.set K.d (some ⟨tyDk,splice D 1468 [.int .i64 x],none⟩)):=AtS.set _ (by simp) _;refine ⟨zaS _ _ _,by rw [zgf hb]; exact hl,fun j hj=>⟨(zhX hb (by omega)).trans (h.rms j hj).1,(h.rms j hj).2⟩,?_,fun a ha=>by rw [zcy hb (by omega)]; exact h.po a ha,by rw [zcy hb (by omega)]; exact h.co,⟨⟨cap,(zaV _ _ (Ne.symm h.dC)).trans g1⟩,⟨o,(zaV _ _ (Ne.symm h.dc)).trans g2⟩,h.cm.len,h.cm.small⟩,h.pm.atS a1 (fun k hk=>by simp only [List.mem_singleton] at hk; subst hk; exact ⟨h.dl,fun a ha e=>(h.Pd a ha).1 e.symm⟩),h.dl,h.Cl,h.cl,h.dc,h.Cc,h.dC,h.Pd⟩;have:=zjs hb;have e:(splice D 1468 [V.int .i64 x])[1468]? = (((splice D 1468 [V.int .i64 x]).drop 1468).take ([V.int .i64 x]:List V).length)[0]?:=by
  rw [List.getElem?_take,hb1,if_pos (by decide),List.getElem?_drop]
 rw [e,this];rfl
theorem zqb {was r:Rm} {B:Nat} {Q:Nat → List Ot} (hB:1 ≤ B) (h:∀ c,(Q c).length ≤ B) (c:Nat):(zjp was r Q c).length ≤ B + 8:=by
 have h1:=we_len (r:=r) (zc6 was r 8) (ov_len (was:=was) hB (zc6 was r 8) h) c;have h2:=zhr was r 8;unfold zjp;omega
structure RmT (r:Rm) (now:Int):Prop where
 g:RmG r
 op:r.op = false
 ov:r.ov = false
 c:comR r + 8 ≤ 65535
 se:∀ j,j < 8 → 0 ≤ r.se.getD j 0 ∧ r.se.getD j 0 ≤ now
theorem zqf {H:Heap} {K:Kd} {L:Nat → V} {rm:Nat → Rm} {Q:Nat → List Ot} {ns:List Nat} {nw n:Int} {B:Nat} (hh:DW K H L rm Q ns nw) {i1:Nat} (hi1:i1 < 4) (hn:0 ≤ nw + n ∧ nw + n ≤ 1000000000) (hR:∀ i,i < 4 → RmT (rm i) (nw + n)) (hS:∀ i,i < 4 → i ≠ i1 → ∀ j,j < 8 → silS (rm i) (nw + n) j = false) (hB1:1 ≤ B) (hB:B + 16 < 32) (hQB:∀ c,(Q c).length ≤ B) :
  Ok (sem T zaP [.ptr K.d 0,.int .i64 n]) H fun x H'=>x = .tup [] ∧ ∃ L',FrD K.lo L L' H H' ∧ DW K H' L' (upd rm i1 (zd8 (rm i1) (nw + n))) (zjp (rm i1) (zd8 (rm i1) (nw + n)) Q) ns (nw + n):=by
 refine zia ?_;unfold f_desk_Desk_tick uT uNFM uNF uB uc;obtain ⟨D,q,hd,hQ⟩:=hh;have gd:=hd.blk;have hl:=hd.len;have hnow:=hd.now;have hdl:=hd.dl;have wn:IntKind.i64.wrap (nw + n) = nw + n:=wrap_i64 (by omega) (by omega);have h0:=hd.time (nw + n);have f0:=FrD.low (AtS.set (S:=[K.d]) H (k:=K.d) (by simp) (some ⟨tyDk,splice D 1468 [.int .i64 (nw + n)],none⟩)) L (by simp; exact hdl);simp (disch:=first | omega | (simp only [RY] <;> omega) | decide) only [↓RD,RZ,eq_self,Int.reduceToNat,Int.reduceAdd,Nat.reduceAdd,Nat.reduceSub,Nat.reduceMul,Nat.reduceLeDiff,gd,hl,hnow,wn];generalize hnn:nw + n = now at *;obtain ⟨rmI,hrmI⟩:∃ f:Nat → Nat → Rm,∀ i,f i = if i1 < i then upd rm i1 (zd8 (rm i1) now) else rm:=⟨_,fun _=>rfl⟩
 obtain ⟨QI,hQI⟩:∃ f:Nat → Nat → List Ot,∀ i,f i = if i1 < i then zjp (rm i1) (zd8 (rm i1) now) Q else Q:=⟨_,fun _=>rfl⟩
 refine za9 (Q:=fun x H'=>x = .ex 0 [] ∧ ∃ L',FrD K.lo L L' H H' ∧ DW K H' L' (rmI 4) (QI 4) ns now) ?_ ?_
 ·refine zbJ (fun i L0 H'=>L0 = [.int .i64 (i:Nat)] ∧ ∃ L',FrD K.lo L L' H H' ∧ DW K H' L' (rmI i) (QI i) ns now) 4 ?_ ?_ ?_
  ·refine ⟨rfl,L,f0,?_⟩;rw [hrmI,hQI,if_neg (by omega),if_neg (by omega)];exact ⟨_,_,h0,hQ⟩
  ·rintro i _ H1 hi ⟨rfl,L1,f1,h1⟩;have hri:rmI i i = rm i:=by
    rw [hrmI];split
    ·rw [upd_ne _ _ (by omega)]
    ·rfl
   have hR1:=hR i hi;obtain ⟨D1,q1,hd1,hQ1⟩:=id h1;have gd1:=hd1.blk;have hl1:=hd1.len;have hr1:=hd1.r39 hi;have hn1:=hd1.now;rw [hri] at hr1;have hlo:=hd1.pm.top;have d1:decide (((i:Nat):Int) < 4) = true:=decide_eq_true (by omega);have d1':decide (i < 4) = true:=decide_eq_true hi;have w1:IntKind.i64.wrap (((i:Nat):Int) + 1) = ((i + 1:Nat):Int):=by rw [wrap_i64 (by omega) (by omega)]; omega
   have ia:∀ {k:IntKind},Ax.iaddr (some 4) 367 (.ptr K.d 0) (.int k (i:Nat)) = some (.ptr K.d (i * 367)):=fun {k}=>by
    simp only [Ax.iaddr];rw [if_pos (by omega),Int.toNat_natCast,Nat.zero_add]
   have ho:=hR1.g.o;have spz:=zg9 ho;have l0:=zb5 ho;have ok0:=zfy (rm i);have gz:∀ b c,Grow H1 ((H1.new b).set H1.next c):=fun b c=>AtS.new (S:=[H1.next]) (Grow.new H1 b) (AtS.set _ (by simp) c) (by simp);have s2:=gz ⟨zad,zRl,none⟩ (some ⟨zad,rC (rm i),none⟩);have g2:((H1.new ⟨zad,zRl,none⟩).set H1.next (some ⟨zad,rC (rm i),none⟩)).get H1.next = some ⟨zad,rC (rm i),none⟩:=zaS _ _ _;have n2:((H1.new ⟨zad,zRl,none⟩).set H1.next (some ⟨zad,rC (rm i),none⟩)).next = H1.next + 1:=by rw [zbP,zao]
   have hold:∀ c,c < 64 → (L1 c).pid ≠ some H1.next:=fun c hc=>h1.old hc (Nat.le_refl _);unfold f_desk_Desk_tick_0 uS uT uNFM uNF uE uB uI uO uc ug;simp (disch:=first | omega | (simp only [RY] <;> omega) | decide) only [↓RD,RZ,eq_self,Int.reduceToNat,Int.reduceAdd,Nat.reduceAdd,Nat.reduceSub,Nat.reduceMul,Nat.reduceLeDiff,d1,d1',ia,gd1,hr1,hn1,spz,l0,ok0];generalize (H1.new ⟨zad,zRl,none⟩).set H1.next (some ⟨zad,rC (rm i),none⟩) = H2 at *;generalize hqb:H1.next = qb at *;refine zan (Tick_ok hR1.g hR1.op hR1.ov hR1.c hR1.se hn.2) ?_;rintro _ H3 ⟨⟨w,rfl⟩,s3⟩;obtain ⟨t1,t2,t3,t4,t5⟩:=zqg hR1.g hR1.ov hR1.c now;have hd3:=(hd1.grow s2).grow s3;have gd3:=hd3.blk;have g3:=(s3.same qb (by omega)).trans g2;have ho':=t1.o;have l':=zb5 ho';have ok':=zfy (zd8 (rm i) now);have hd4:=hd3.room hi ho';have hA:=zhb ho;have hdb:K.d ≠ qb:=by omega
   have kb:i * 367 + 39 ≤ 1535:=by omega
   have a4:AtS [K.d] H3 (H3.set K.d (some ⟨tyDk,splice D1 (i * 367) (rC (zd8 (rm i) now)),none⟩)):=AtS.set _ (by simp) _;have f4:=FrD.low a4 L1 (by simp; exact hdl);have g4:=(a4.same qb (by have:=s3.next; omega) (by simp; omega)).trans g3;simp (disch:=omega) only [↓RD,RZ,gd3,l',ok',hl1,kb,g3,hA,hdb];rw [zb7];have hL:∀ c,(QI i c).length ≤ B + 8:=fun c=>by
    rw [hQI];split
    ·exact zqb hB1 hQB c
    ·have:=hQB c; omega
   refine zan (went_ok (was:=rm i) (B:=B + 8) ⟨_,_,hd4,hQ1⟩ hi (by rw [zaY]; exact t1) ho hR1.g.t (by omega) (by omega) hL) ?_;rintro _ H5 ⟨rfl,L5,f5,h5⟩;rw [zaY] at h5;simp (disch:=omega) only [↓RD,RZ,w1];refine ⟨rfl,L5,(((f1.trans ((s2.trans s3).frD _ _)).trans f4).trans f5),?_⟩;have ee:upd (rmI i) i (zd8 (rm i) now) = rmI (i + 1) ∧ zjp (rm i) (zd8 (rm i) now) (QI i) = QI (i + 1):=by
    by_cases h:i = i1
    ·subst h;rw [hrmI,hrmI,hQI,hQI,if_neg (by omega),if_pos (by omega),if_neg (by omega),if_pos (by omega)];exact ⟨rfl,rfl⟩
    ·have et:=zl8 (hS i hi h);rw [et,zkN];have eu:upd (rmI i) i (rm i) = rmI i:=by
      have:=upd_same (rmI i) i;rw [hri] at this;exact this
     rw [eu,hrmI,hrmI,hQI,hQI];by_cases h2:i1 < i
     ·rw [if_pos h2,if_pos (by omega),if_pos h2,if_pos (by omega)];exact ⟨rfl,rfl⟩
     ·rw [if_neg h2,if_neg (by omega),if_neg h2,if_neg (by omega)];exact ⟨rfl,rfl⟩
   rw [ee.1,ee.2] at h5;exact h5
  ·rintro _ H1 ⟨rfl,L1,f1,h1⟩;unfold f_desk_Desk_tick_0 uS uT uNFM uNF uE uB uI uO uc ug;simp (disch:=omega) only [↓RD,RZ];exact ⟨L1,f1,h1⟩
 ·rintro _ H1 ⟨rfl,L1,f1,h1⟩;rw [hrmI,hQI,if_pos hi1,if_pos hi1] at h1;simp (disch:=omega) only [↓RD,RZ];exact ⟨rfl,L1,f1,h1⟩
theorem zlc {H:Heap} {d:Nat} {bv:V} {a n:Int} {Q:Heap → Prop} (h0:0 ≤ n) (h1:n ≤ 100000) (vc:bv.cells = [bv]) (vo:bv.okc = true)
  (h:∀ H1,Grow H H1 → Ok (sem T zaP [.ptr d 0,.int .i64 n]) H1 fun r H'=>r = .tup [] ∧ Q H') :
  Ok (sem T zap [.ptr d 0,.agg [.int .i64 3,.int .i64 a,.int .i64 n,bv]]) H fun r H'=>r = .tup [.nils,.int .i64 0] ∧ Q H':=by
 refine zdZ ?_;unfold f_desk_Desk_Do uL uT uFM uNFM uNF uB uG uH uO uc;refine zaz (zbk (by simp [V.okc,vo]) ?_);rw [zar];have s0:=Grow.new H ⟨zbo,[.int .i64 3,.int .i64 a,.int .i64 n,bv],none⟩;have g0:(H.new ⟨zbo,[.int .i64 3,.int .i64 a,.int .i64 n,bv],none⟩).get H.next = some ⟨zbo,[.int .i64 3,.int .i64 a,.int .i64 n,bv],none⟩:=zaf _ _;generalize hq:H.next = q at *;generalize H.new _ = H0 at *;have d1:decide (n < 0) = false:=decide_eq_false (by omega);have d2:decide (100000 < n) = false:=decide_eq_false (by omega);simp (disch:=omega) only [↓RD,RZ,g0,d1,d2];refine zan (h H0 s0) ?_;rintro _ H1 ⟨rfl,hq⟩;simp (disch:=omega) only [↓RD,RZ];exact hq
theorem Room_ok {H:Heap} {K:Kd} {L:Nat → V} {rm:Nat → Rm} {Q:Nat → List Ot} {ns:List Nat} {nw:Int} (hh:DW K H L rm Q ns nw) {i:Nat} (hi:i < 4) :
  Ok (sem T zaX [.ptr K.d 0,.int .i64 (i:Nat)]) H fun x H'=>x = .tup [.agg (rC (rm i)),.bool true] ∧ Grow H H':=by
 refine zie ?_;unfold f_desk_Desk_Room uL uS uT uF uNF uB uI uG uH uO uc;obtain ⟨D,q,hd,hQ⟩:=hh;have gd:=hd.blk;have hr:=hd.r39 hi;have ho:=(hd.rms i hi).2;have hdl:=hd.dl;have htop:=hd.pm.top;have d1:decide (((i:Nat):Int) < 0) = false:=decide_eq_false (by omega);have d2:decide ((4:Int) ≤ ((i:Nat):Int)) = false:=decide_eq_false (by omega);have d2':decide (4 ≤ i) = false:=decide_eq_false (by omega);have ia:∀ {k:IntKind},Ax.iaddr (some 4) 367 (.ptr K.d 0) (.int k (i:Nat)) = some (.ptr K.d (i * 367)):=fun {k}=>by
  simp only [Ax.iaddr];rw [if_pos (by omega),Int.toNat_natCast,Nat.zero_add]
 have spz:=zg9 ho;have l0:=zb5 ho;have ok0:=zfy (rm i);have hA:=zhb ho;refine zaz (zbk rfl ?_);rw [zar];have g1:=zaf H (⟨zad,zRl,none⟩:Blk);have s1:=Grow.new H (⟨zad,zRl,none⟩:Blk);have hz:zRl.length = 39:=rfl;show Ok _ (H.new ⟨zad,zRl,none⟩) _;have gd1:=(s1.same K.d (by omega)).trans gd;generalize hq1:H.next = q1 at *;generalize zRl = zs at *;generalize H.new _ = H1 at *;have hne:K.d ≠ q1:=by omega
 simp (disch:=first | omega | (simp only [RY] <;> omega) | decide) only [↓RD,RZ,eq_self,Int.reduceToNat,Int.reduceAdd,Nat.reduceAdd,Nat.reduceSub,Nat.reduceMul,Nat.reduceLeDiff,d1,d2,d2',ia,gd1,hr,g1,hz,spz,l0,ok0,hA];exact AtS.new (S:=[q1]) s1 (AtS.set _ (by simp) _) (by simp; omega)
end Go.Ax.SU
/- De13 -/
namespace Go.Ax.SU
open Go.Ax
theorem zkd (x:Nt):zbw x = x.k.toNat :: x.r.toNat :: x.s.toNat :: (x.e.toNat / 256 % 256) :: (x.e.toNat % 256) :: (x.n.toNat / 256 % 256) :: (x.n.toNat % 256) :: (x.m.toNat / 256 % 256) :: (x.m.toNat % 256) :: (x.b.length / 256 % 256) :: (x.b.length % 256) :: x.b:=rfl
theorem znd {x:Nt} (h:(1 ≤ x.k ∧ x.k ≤ 24) ∧ (0 ≤ x.r ∧ x.r ≤ 3) ∧ (0 ≤ x.s ∧ x.s ≤ 7) ∧ (0 ≤ x.e ∧ x.e ≤ 65535) ∧ (0 ≤ x.n ∧ x.n ≤ 65535) ∧ (0 ≤ x.m ∧ x.m ≤ 65535) ∧ x.b.length ≤ 200) (hb:Ok8 x.b):Ok8 (zbw x):=by
 obtain ⟨⟨_,h1⟩,⟨_,h2⟩,⟨_,h3⟩,_⟩:=h;rw [zkd];intro y hy;simp only [List.mem_cons] at hy;rcases hy with h | h | h | h | h | h | h | h | h | h | h | h
 all_goals first | exact hb y h | omega
theorem bytesN_8 {x:Nt} (h:zig x = true) (hb:Ok8 x.b):Ok8 (zbw x):=znd (zlL h) hb
theorem zqF {x:Nt} (h:(1 ≤ x.k ∧ x.k ≤ 24) ∧ (0 ≤ x.r ∧ x.r ≤ 3) ∧ (0 ≤ x.s ∧ x.s ≤ 7) ∧ (0 ≤ x.e ∧ x.e ≤ 65535) ∧ (0 ≤ x.n ∧ x.n ≤ 65535) ∧ (0 ≤ x.m ∧ x.m ≤ 65535) ∧ x.b.length ≤ 200):rawN (zbw x) = x ∧ twoB (zbw x) 9 = (zbw x).length - 11 ∧ (zbw x).drop 11 = x.b:=by
 obtain ⟨⟨h1,h1'⟩,⟨h2,h2'⟩,⟨h3,h3'⟩,⟨h4,h4'⟩,⟨h5,h5'⟩,⟨h6,h6'⟩,h7⟩:=h;have hl:=zgk x;refine ⟨?_,?_,rfl⟩
 ·rw [zkd];unfold rawN twoB;obtain ⟨k,r,s,e,n,m,b⟩:=x;dsimp only at *;simp only [List.getD_cons_succ,List.getD_cons_zero,List.drop_succ_cons,List.drop_zero,Nt.mk.injEq,and_true];refine ⟨by omega,by omega,by omega,by omega,by omega,by omega⟩
 ·rw [hl];rw [zkd];unfold twoB;simp only [List.getD_cons_succ,List.getD_cons_zero];omega
theorem zkR {x:Nt} (h:zig x = true):rawN (zbw x) = x ∧ twoB (zbw x) 9 = (zbw x).length - 11 ∧ (zbw x).drop 11 = x.b:=zqF (zlL h)
theorem zmv {x:Nt} (h:zig x = true):zgx (zbw x) = 0:=by
 obtain ⟨h1,h2,h3⟩:=zkR h;have h7:=(zlL h).2.2.2.2.2.2;have hl:=zgk x;unfold zgx;rw [h1,h2,hl,h,if_neg (by omega),if_neg (by omega),if_neg (by omega),if_neg (by omega),if_neg (by decide)]
end Go.Ax.SU
/- De24 -/
namespace Go.Ax.SU
open Go.Ax
theorem said9_ok {lb s:Nat} {K:Kd} {H:Heap} {L:Nat → V} {rm:Nat → Rm} {Q:Nat → List Ot} {ns:List Nat} {nw:Int} (hh:DW K H L rm Q ns nw) {i:Nat} (hi:i < 4) {bv:V} {x:Nt} (hk:x.k = 9) (hb:By lb H bv x.b) (hs:s < 8) :
  Ok (sem T zbZ [.ptr K.d 0,.ptr K.d (i * 367),.int .i64 (s:Nat),.agg (nC x bv)]) H fun r H'=>r = .int .i64 0 ∧ Grow H H':=by
 refine zic ?_;unfold zfr uL uM uS uT uF uFM uNFM uNF uE uB uI uIM uO uU uc ug;have vc:=hb.cells1;have vo:=hb.okc;refine zaz (zbk (by simp [nC,V.okc,vo]) ?_);rw [zar];have s0:=Grow.new H ⟨zae,nC x bv,none⟩;have g0:(H.new ⟨zae,nC x bv,none⟩).get H.next = some ⟨zae,nC x bv,none⟩:=zaf _ _;have n0:(H.new ⟨zae,nC x bv,none⟩).next = H.next + 1:=zao _ _;generalize hq:H.next = q at *;generalize H.new _ = H0 at *;obtain ⟨D,qs,h,hQ⟩:=hh.grow s0;have g:=h.blk;have ho:=(h.rms i hi).2;have hr:=h.r39 hi;have hdl:=h.dl;have htop:=h.pm.top;have ia:=fun {k}=>@ia8o K.d (i * 367 + 8) s hs k;have da:D[i * 367 + 8 + s]? = some (.int .i64 ((rm i).t.aG s)):=by
  rw [show i * 367 + 8 + s = i * 367 + (8 + s) by omega];exact (h.r1 hi (by omega)).trans (rC_a1 ho hs)
 have c0:(nC x bv)[0]? = some (.int .i64 9):=by rw [← hk]; rfl
 have ok:=zfy (rm i);have hl:=zb5 ho;have fin:∀ b c,Grow H ((H0.new b).set H0.next c):=fun b c=>AtS.new (S:=[H0.next]) (s0.trans (Grow.new H0 b)) (AtS.set _ (by simp) c) (by simp; omega);simp (disch:=first | omega | (simp only [RY] <;> omega) | decide) only [↓RD,RZ,eq_self,Int.reduceToNat,Int.reduceAdd,Nat.reduceAdd,Nat.reduceSub,Nat.reduceMul,Nat.reduceLeDiff,g,g0,hr,ia,da,hl,ok,c0];exact fin _ _
theorem note9_ok {lb a i s:Nat} {K:Kd} {H:Heap} {L:Nat → V} {rm:Nat → Rm} {Q:Nat → List Ot} {ns:List Nat} {nw:Int} {bv:V} {b:List Nat} (h:DW K H L rm Q ns nw) (hb:By lb H bv b) (b8:Ok8 b) (hl:b.length ≤ 1000000) (hp:zgx b = 0) (hk:(rawN b).k = 9) (hw:zg5 (fun i=>(rm i).t) (a:Nat) = some (i,s)) (hi:i < 4) (hs:s < 8) (hg:RmG (rm i)) :
  Ok (sem T zaQ [.ptr K.d 0,.int .i64 (a:Nat),bv]) H fun r H'=>r = .tup [] ∧ FrD K.lo L L H H' ∧ DW K H' L (upd rm i (zeS (rm i) a nw)) Q ns nw:=by
 refine zid ?_;unfold f_desk_Desk_note uL uS uT uFM uE uB uG uH uO uc ug;refine zan (zp0 hb b8 hl ⟨by rw [hk]; decide,by rw [hk]; decide,by rw [hk]; decide⟩) ?_;rintro r1 H1 ⟨s1,⟨he,_⟩ | ⟨_,v,rfl,hv⟩⟩
 ·exact absurd hp he
 refine zb6 rfl ?_;refine zb6 rfl ?_;refine zdy rfl rfl fun q H2 eq g2 s2 n2=>?_;have s02:=s1.trans s2;have h2:=h.grow s02;have hlo:=h.lo;have n1:=s1.next;have hv2:=hv.ext s2;have hxb:b.drop 11 = (rawN b).b:=rfl;rw [hxb] at hv2;generalize hx:rawN b = x at *;have c0:(nC x v)[0]? = some (.int .i64 9):=by rw [← hk]; rfl
 have c7:ldc (some 7) (nC x v) 0 = some (.agg (nC x v)):=rfl;simp (disch:=omega) only [↓RD,RZ,g2,c0];obtain ⟨D,qs,hd,hQ⟩:=id h2;refine zan (where_ok hd.tb (by have:=hd.dl; omega) (a:Nat)) ?_;rintro _ H3 ⟨rfl,s3⟩;rw [hw];have g3:=(s3.same q (by omega)).trans g2;unfold wv;simp (disch:=omega) only [↓RD,RZ];refine zan (heard_ok (h2.grow s3) hi hg (a:Nat)) ?_;rintro _ H4 ⟨rfl,f4,h4⟩;have n3:=s3.next;have g4:=(f4.same q (by omega) (by omega) fun e he=>h.old he (by omega)).trans g3;have hv4:=f4.by (hv2.ext s3) hlo fun e i he hi=>h.old he (hv.own i hi).1;simp (disch:=omega) only [↓RD,RZ,g4,c0,c7];refine zan (said9_ok h4 hi hk hv4 hs) ?_;rintro _ H5 ⟨rfl,s5⟩;have f05:FrD K.lo L L H H5:=((((s02.trans s3).frD _ _).trans f4)).trans (s5.frD _ _);simp (disch:=omega) only [↓RD,RZ];exact ⟨rfl,f05,h4.grow s5⟩
theorem fields9 {H:Heap} {k:Int} (hk:k = 9 ∨ k = 23):Ok (sem T zau [.int .i64 k]) H fun r H'=>r = txt [45] ∧ H' = H:=by
 refine zc0 ?_;unfold f_palanquinref16_fields uB uc ug;rcases hk with rfl | rfl
 ·simp (disch:=omega) only [↓RD,RZ];rfl
 ·simp (disch:=omega) only [↓RD,RZ];rfl
theorem fields20 {H:Heap}:Ok (sem T zau [.int .i64 20]) H fun r H'=>r = txt [115,101,110] ∧ H' = H:=by
 refine zc0 ?_;unfold f_palanquinref16_fields uB uc ug;simp (disch:=omega) only [↓RD,RZ];rfl
def oneX (k:Nat):Nt:=⟨(k:Nat),(0:Nat),(0:Nat),(0:Nat),(0:Nat),(0:Nat),[]⟩
theorem zq4 {lo k:Nat} (hk:k = 9 ∨ k = 23) {H:Heap} {bv:V} (hb:By lo H bv []):Ok (sem T zaj [.agg (nC (oneX k) bv)]) H fun r H'=>r = .bool true ∧ Grow H H':=by
 refine zdd ?_;unfold f_palanquinref16_Good uL uFM uB uG uH uO uc ub ug;have vc:=hb.cells1;have vo:=hb.okc;refine zaz (zbk (by simp [nC,V.okc,vo]) ?_);rw [zar];have s0:=Grow.new H ⟨zab,nC (oneX k) bv,none⟩;have g0:(H.new ⟨zab,nC (oneX k) bv,none⟩).get H.next = some ⟨zab,nC (oneX k) bv,none⟩:=zaf _ _;generalize hq:H.next = q at *;generalize H.new _ = H1 at *;unfold nC oneX at g0;dsimp only at g0;have bl:=(hb.ext s0).vlen;have f1:=@zcr _ _ _ _ (@fields9 H1 ((k:Nat):Int) (by omega));have wi:=fun {x lo hi:Int} {f:V → M Res} {Q:Res → Heap → Prop}=>@in_wi H1 x lo hi f Q;have es:Ax.bin .eql (txt [45]) (.str ⟨#[]⟩) = some (.bool false):=txt_ne (l:=[45]) (all8 rfl) (by decide);have h114:=fun {f Q}=>@zi0 H1 [45] 114 false (all8 rfl) (by decide) rfl rfl f Q;have h115:=fun {f Q}=>@zi0 H1 [45] 115 false (all8 rfl) (by decide) rfl rfl f Q;have h101:=fun {f Q}=>@zi0 H1 [45] 101 false (all8 rfl) (by decide) rfl rfl f Q;have h110:=fun {f Q}=>@zi0 H1 [45] 110 false (all8 rfl) (by decide) rfl rfl f Q;have h109:=fun {f Q}=>@zi0 H1 [45] 109 false (all8 rfl) (by decide) rfl rfl f Q;have h98:=fun {f Q}=>@zi0 H1 [45] 98 false (all8 rfl) (by decide) rfl rfl f Q;rcases hk with rfl | rfl
 ·simp (disch:=omega) only [↓RD,RZ,g0,f1,wi,es,h114,h115,h101,h110,h109,h98,bl];exact s0
 ·simp (disch:=omega) only [↓RD,RZ,g0,f1,wi,es,h114,h115,h101,h110,h109,h98,bl];exact s0
theorem good_r20 {lo i m:Nat} {e:Int} (hi:i < 8) (he:0 ≤ e ∧ e ≤ 65535) (hm:m < 256) (hbt:m.testBit i = false) {H:Heap} {bv:V} (hb:By lo H bv []):Ok (sem T zaj [.agg (nC (zfF i e m) bv)]) H fun r H'=>r = .bool true ∧ Grow H H':=by
 refine zdd ?_;unfold f_palanquinref16_Good uL uFM uB uG uH uO uc ub ug;have vc:=hb.cells1;have vo:=hb.okc;refine zaz (zbk (by simp [nC,V.okc,vo]) ?_);rw [zar];have s0:=Grow.new H ⟨zab,nC (zfF i e m) bv,none⟩;have g0:(H.new ⟨zab,nC (zfF i e m) bv,none⟩).get H.next = some ⟨zab,nC (zfF i e m) bv,none⟩:=zaf _ _;generalize hq:H.next = q at *;generalize H.new _ = H1 at *;unfold nC zfF at g0;dsimp only at g0;have bl:Ax.vlen bv = some (.int .i64 (([]:List Nat).length:Nat)):=(hb.ext s0).vlen;have f1:=@zcr _ _ _ _ (@fields20 H1);have wi:=fun {x lo hi:Int} {f:V → M Res} {Q:Res → Heap → Prop}=>@in_wi H1 x lo hi f Q;have es:Ax.bin .eql (txt [115,101,110]) (.str ⟨#[]⟩) = some (.bool false):=txt_ne (l:=[115,101,110]) (all8 rfl) (by decide);have h114:=fun {f Q}=>@zi0 H1 [115,101,110] 114 false (all8 rfl) (by decide) rfl rfl f Q;have h115:=fun {f Q}=>@zi0 H1 [115,101,110] 115 true (all8 rfl) (by decide) rfl rfl f Q;have h101:=fun {f Q}=>@zi0 H1 [115,101,110] 101 true (all8 rfl) (by decide) rfl rfl f Q;have h110:=fun {f Q}=>@zi0 H1 [115,101,110] 110 true (all8 rfl) (by decide) rfl rfl f Q;have h109:=fun {f Q}=>@zi0 H1 [115,101,110] 109 false (all8 rfl) (by decide) rfl rfl f Q;have h98:=fun {f Q}=>@zi0 H1 [115,101,110] 98 false (all8 rfl) (by decide) rfl rfl f Q;have d3:decide (((m:Nat):Int) < 256) = true:=decide_eq_true (by omega);have d3':decide (m < 256) = true:=decide_eq_true (by omega);have sb:shr m i % 2 = 0:=by
  rw [zen];rw [Nat.testBit_eq_decide_div_mod_eq] at hbt;have:=of_decide_eq_false hbt;rw [Nat.shiftRight_eq_div_pow];omega
 have ea:Ax.bin .and (.int .i64 (shr m i:Nat)) (.int .i64 1) = some (.int .i64 0):=by
  have hle:shr m i ≤ m:=by rw [zen,Nat.shiftRight_eq_div_pow]; exact Nat.div_le_self _ _
  have:=@zoe ((shr m i:Nat):Int) 1 (by omega) (by omega) (by decide) (by decide);rw [this];have:((shr m i:Nat):Int).toNat &&& (1:Int).toNat = 0:=by
   rw [Int.toNat_natCast];show shr m i &&& 1 = 0;rw [Nat.and_one_is_mod];exact sb
  rw [this];rfl
 obtain ⟨he0,he1⟩:=he;simp (disch:=omega) only [↓RD,RZ,g0,f1,wi,es,h114,h115,h101,h110,h109,h98,bl,d3,d3',ea];exact s0
theorem zpY {lo:Nat} {H:Heap} {bv:V} {x:Nt} (hb:By lo H bv (zbw x)) (h8:Ok8 x.b) (hle:(1 ≤ x.k ∧ x.k ≤ 24) ∧ (0 ≤ x.r ∧ x.r ≤ 3) ∧ (0 ≤ x.s ∧ x.s ≤ 7) ∧ (0 ≤ x.e ∧ x.e ≤ 65535) ∧ (0 ≤ x.n ∧ x.n ≤ 65535) ∧ (0 ≤ x.m ∧ x.m ≤ 65535) ∧ x.b.length ≤ 200)
  (hg:∀ (H':Heap) (lo':Nat) (v:V),By lo' H' v x.b → Ok (sem T zaj [.agg (nC x v)]) H' fun r' H''=>r' = .bool true ∧ Grow H' H'') :
  Ok (sem T zay [bv]) H fun r H'=>Grow H H' ∧ ∃ v,r = .tup [.agg (nC x v),.int .i64 0] ∧ By H.next H' v x.b:=by
 obtain ⟨r1,r2,r3⟩:=zqF hle;have b8:=znd hle h8;have hXl:=zgk x;have:=zpZ hb b8 (by rw [hXl]; omega) r2 (by rw [r2,hXl]; have:=hle.2.2.2.2.2.2; omega) fun H' lo' v' hv'=>by
  rw [r1];rw [r3] at hv';exact hg H' lo' v' hv'
 rw [r1,r3] at this;exact this
end Go.Ax.SU
/- Ax21 -/
namespace Go.Ax.Cc
inductive CT where
 | lf (v:V)
 | nd (l r:CT)
def CT.get:Nat → CT → Nat → V
 | 0,.lf v,_=>v
 | 0,.nd _ _,_=>.undef
 | _ + 1,.lf _,_=>.undef
 | d + 1,.nd l r,i=>if i < 2 ^ d then CT.get d l i else CT.get d r (i - 2 ^ d)
def CT.set {α:Type}:Nat → CT → Nat → V → (CT → α) → α
 | 0,.lf _,_,v,k=>k (.lf v)
 | 0,.nd _ _,_,v,k=>k (.lf v)
 | d + 1,.lf _,i,v,k=>if i < 2 ^ d then CT.set d (.lf .undef) i v fun l'=>k (.nd l' (.lf .undef)) else CT.set d (.lf .undef) (i - 2 ^ d) v fun r'=>k (.nd (.lf .undef) r')
 | d + 1,.nd l r,i,v,k=>if i < 2 ^ d then CT.set d l i v fun l'=>k (.nd l' r) else CT.set d r (i - 2 ^ d) v fun r'=>k (.nd l r')
def CT.sets {α:Type} (d:Nat):CT → Nat → List V → (CT → α) → α
 | t,_,[],k=>k t
 | t,i,v :: vs,k=>CT.set d t i v fun t'=>CT.sets d t' (i + 1) vs k
def CT.abs:Nat → CT → List V
 | 0,.lf v=>[v]
 | 0,.nd _ _=>[.undef]
 | d + 1,.lf _=>List.replicate (2 ^ (d + 1)) .undef
 | d + 1,.nd l r=>CT.abs d l ++ CT.abs d r
def CT.mk {α:Type}:Nat → List V → (CT → List V → α) → α
 | 0,[],k=>k (.lf .undef) []
 | 0,v :: vs,k=>k (.lf v) vs
 | d + 1,vs,k=>CT.mk d vs fun l r=>CT.mk d r fun l' r'=>k (.nd l l') r'
def CT.rng (d:Nat) (t:CT):Nat → Nat → List V
 | _,0=>[]
 | i,m + 1=>CT.get d t i :: CT.rng d t (i + 1) m
theorem CT.abs_len:∀ (d:Nat) (t:CT),(CT.abs d t).length = 2 ^ d
 | 0,.lf _=>rfl
 | 0,.nd _ _=>rfl
 | d + 1,.lf _=>by simp [CT.abs]
 | d + 1,.nd l r=>by simp only [CT.abs,List.length_append,CT.abs_len d l,CT.abs_len d r,Nat.pow_succ]; omega
theorem CT.get_abs : ∀ (d : Nat) (t : CT) (i : Nat), i < 2 ^ d → (CT.abs d t)[i]? = some (CT.get d t i)
  | 0, .lf v, i, h => by have : i = 0 := by simpa using h
                         subst this; rfl
  | 0, .nd _ _, i, h => by have : i = 0 := by simpa using h
                           subst this; rfl
  | d + 1, .lf _, i, h => by simp only [CT.abs, CT.get, List.getElem?_replicate]; rw [if_pos h]
  | d + 1, .nd l r, i, h => by
    simp only [CT.abs, CT.get]
    rw [List.getElem?_append, CT.abs_len]
    by_cases hi : i < 2 ^ d
    · rw [if_pos hi, if_pos hi, CT.get_abs d l i hi]
    · rw [if_neg hi, if_neg hi, CT.get_abs d r _ (by rw [Nat.pow_succ] at h; omega)]
theorem CT.rng_abs (d:Nat) (t:CT):∀ (m i:Nat),i + m ≤ 2 ^ d → CT.rng d t i m = ((CT.abs d t).drop i).take m
 | 0,i,_=>by simp [CT.rng]
 | m + 1,i,h=>by
  have hi:i < (CT.abs d t).length:=by rw [CT.abs_len]; omega
  rw [CT.rng,CT.rng_abs d t m (i + 1) (by omega),List.drop_eq_getElem_cons hi,List.take_succ_cons];have:=CT.get_abs d t i (by omega);rw [List.getElem?_eq_getElem hi] at this;injection this with this
  rw [this]
theorem CT.abs_blank (d:Nat):CT.abs d (.lf .undef) = List.replicate (2 ^ d) .undef:=by cases d <;> rfl
theorem CT.set_abs {α:Type}:∀ (d:Nat) (t:CT) (i:Nat) (v:V) (k:CT → α),i < 2 ^ d → ∃ t',CT.set d t i v k = k t' ∧ CT.abs d t' = (CT.abs d t).set i v:=by
 intro d
 induction d with
 | zero =>
  intro t i v k h;have:i = 0:=by simpa using h
  subst this;cases t <;> exact ⟨_,rfl,rfl⟩
 | succ d ih =>
  have key:∀ (l r:CT) (i:Nat) (v:V) (k:CT → α),i < 2 ^ (d + 1) → (∃ t',(if i < 2 ^ d then CT.set d l i v fun l'=>k (.nd l' r) else CT.set d r (i - 2 ^ d) v fun r'=>k (.nd l r')) = k t' ∧ CT.abs (d + 1) t' = (CT.abs d l ++ CT.abs d r).set i v):=by
   intro l r i v k h;by_cases hi:i < 2 ^ d
   ·rw [if_pos hi];obtain ⟨t',h1,h3⟩:=ih l i v (fun l'=>k (.nd l' r)) hi;refine ⟨.nd t' r,h1,?_⟩;simp only [CT.abs,h3];rw [List.set_append_left _ _ (by rw [CT.abs_len]; exact hi)]
   ·rw [if_neg hi];obtain ⟨t',h1,h3⟩:=ih r (i - 2 ^ d) v (fun r'=>k (.nd l r')) (by rw [Nat.pow_succ] at h; omega);refine ⟨.nd l t',h1,?_⟩;simp only [CT.abs,h3];rw [List.set_append_right _ _ (by rw [CT.abs_len]; omega),CT.abs_len]
  intro t i v k h;cases t with
  | nd l r=>exact key l r i v k h
  | lf u =>
   obtain ⟨t',h1,h2⟩:=key (.lf .undef) (.lf .undef) i v k h;refine ⟨t',h1,?_⟩;rw [h2,CT.abs_blank];show _ = (List.replicate (2 ^ (d + 1)) .undef).set i v;rw [List.replicate_append_replicate,Nat.pow_succ];congr 2;omega
theorem zmc (cs:List V) (i:Nat) (v:V) (vs:List V) (h:i + (v :: vs).length ≤ cs.length):splice cs i (v :: vs) = splice (cs.set i v) (i + 1) vs:=by
 simp only [List.length_cons] at h;apply List.ext_getElem?;intro j;rw [zdi _ _ _ (by simpa using h),zdi _ _ _ (by rw [List.length_set]; omega)];simp only [List.length_cons];by_cases h1:j = i
 ·subst h1;rw [if_pos (by omega),if_neg (by omega),Nat.sub_self,List.getElem?_cons_zero,List.getElem?_set_self (by omega)]
 ·by_cases h2:i ≤ j ∧ j < i + (vs.length + 1)
  ·rw [if_pos h2,if_pos (by omega),show j - i = (j - (i + 1)) + 1 by omega,List.getElem?_cons_succ]
  ·rw [if_neg h2,if_neg (by omega),List.getElem?_set_ne (by omega)]
theorem CT.sets_abs {α:Type} (d:Nat):∀ (vs:List V) (t:CT) (i:Nat) (k:CT → α),i + vs.length ≤ 2 ^ d → ∃ t',CT.sets d t i vs k = k t' ∧ CT.abs d t' = splice (CT.abs d t) i vs
 | [],t,i,k,h=>⟨t,rfl,by simp [splice]⟩
 | v :: vs,t,i,k,h=>by
  simp only [List.length_cons] at h;obtain ⟨t1,h1,h3⟩:=CT.set_abs d t i v (fun t'=>CT.sets d t' (i + 1) vs k) (by omega);obtain ⟨t2,g1,g3⟩:=CT.sets_abs d vs t1 (i + 1) k (by omega);refine ⟨t2,by rw [CT.sets,h1,g1],?_⟩;rw [g3,h3,zmc _ _ _ _ (by rw [CT.abs_len,List.length_cons]; omega)]
theorem CT.mk_abs {α:Type}:∀ (d:Nat) (vs:List V) (k:CT → List V → α),∃ t,CT.mk d vs k = k t (vs.drop (2 ^ d)) ∧ ∀ j,j < vs.length → j < 2 ^ d → (CT.abs d t)[j]? = vs[j]?
 | 0,[],k=>⟨_,rfl,fun j h=>by simp at h⟩
 | 0,v :: vs,k=>⟨_,rfl,fun j _ h=>(by
  have:j = 0:=by simpa using h
  subst this;rfl)⟩
 | d + 1,vs,k=>by
  obtain ⟨t,h1,h3⟩:=CT.mk_abs d vs (fun l r=>CT.mk d r fun l' r'=>k (.nd l l') r');obtain ⟨t',g1,g3⟩:=CT.mk_abs d (vs.drop (2 ^ d)) (fun l' r'=>k (.nd t l') r');refine ⟨.nd t t',?_,fun j hj hj2=>?_⟩
  ·rw [CT.mk,h1,g1,List.drop_drop,Nat.pow_succ];rw [show 2 ^ d + 2 ^ d = 2 ^ d * 2 by omega]
  ·simp only [CT.abs];rw [List.getElem?_append,CT.abs_len];by_cases h:j < 2 ^ d
   ·rw [if_pos h,h3 j hj h]
   ·rw [if_neg h,g3 _ (by rw [List.length_drop]; omega) (by rw [Nat.pow_succ] at hj2; omega),List.getElem?_drop];congr 1;omega
structure Bk where
 ty:TypeId
 n:Nat
 d:Nat
 t:CT
 opn:Option Nat
def Bk.abs (b:Bk):Blk:=⟨b.ty,(CT.abs b.d b.t).take b.n,b.opn⟩
def dep:Nat → Nat → Nat → Nat
 | 0,d,_=>d
 | f + 1,d,n=>if n ≤ 2 ^ d then d else dep f (d + 1) n
theorem dep_le:∀ (f d n:Nat),n ≤ d + f → n ≤ 2 ^ (dep f d n)
 | 0,d,n,h=>by
  rw [dep];have:d < 2 ^ d:=Nat.lt_two_pow_self;omega
 | f + 1,d,n,h=>by
  rw [dep];split
  ·assumption
  ·exact dep_le f (d + 1) n (by omega)
def ofB {α:Type} (b:Blk) (k:Bk → α):α:=CT.mk (dep b.cells.length 0 b.cells.length) b.cells fun t _=>k ⟨b.ty,b.cells.length,dep b.cells.length 0 b.cells.length,t,b.opn⟩
theorem zqU {α:Type} (b:Blk) (k:Bk → α):∃ b',ofB b k = k b' ∧ b'.abs = b:=by
 obtain ⟨t,h1,h3⟩:=CT.mk_abs (dep b.cells.length 0 b.cells.length) b.cells (fun t _=>k ⟨b.ty,b.cells.length,dep b.cells.length 0 b.cells.length,t,b.opn⟩);refine ⟨_,h1,?_⟩;have hle:=dep_le b.cells.length 0 b.cells.length (by omega);show (⟨b.ty,(CT.abs (dep b.cells.length 0 b.cells.length) t).take b.cells.length,b.opn⟩:Blk) = b;have:(CT.abs (dep b.cells.length 0 b.cells.length) t).take b.cells.length = b.cells:=by
  apply List.ext_getElem?;intro j;by_cases hj:j < b.cells.length
  ·rw [List.getElem?_take_of_lt hj,h3 j hj (by omega)]
  ·rw [List.getElem?_eq_none (by rw [List.length_take]; omega),List.getElem?_eq_none (by omega)]
 rw [this]
inductive Tr where
 | e
 | n (v:Option Bk) (l r:Tr)
def Tr.get:Tr → Nat → Option Bk
 | .e,_=>none
 | .n v l r,k=>if k = 0 then v else if (k - 1) % 2 = 0 then l.get ((k - 1) / 2) else r.get ((k - 1) / 2)
def Tr.val:Tr → Option Bk
 | .e=>none
 | .n v _ _=>v
def Tr.left:Tr → Tr
 | .e=>.e
 | .n _ l _=>l
def Tr.right:Tr → Tr
 | .e=>.e
 | .n _ _ r=>r
def Tr.put:Nat → Tr → Nat → Option Bk → Tr
 | 0,t,_,_=>t
 | f + 1,t,k,b=>if k = 0 then .n b t.left t.right else if (k - 1) % 2 = 0 then .n t.val (Tr.put f t.left ((k - 1) / 2) b) t.right else .n t.val t.left (Tr.put f t.right ((k - 1) / 2) b)
theorem Tr.get_node (t:Tr) (k:Nat):t.get k = if k = 0 then t.val else if (k - 1) % 2 = 0 then t.left.get ((k - 1) / 2) else t.right.get ((k - 1) / 2):=by
 cases t with
 | e=>simp [Tr.get,Tr.val,Tr.left,Tr.right]
 | n v l r=>simp [Tr.get,Tr.val,Tr.left,Tr.right]
theorem Tr.get_put:∀ (f:Nat) (t:Tr) (k:Nat) (b:Option Bk),k < f → ∀ j,(Tr.put f t k b).get j = if j = k then b else t.get j:=by
 intro f
 induction f with
 | zero=>intro t k b h; omega
 | succ f ih =>
  intro t k b h j;simp only [Tr.put];by_cases hk:k = 0
  ·subst hk;rw [if_pos rfl];simp only [Tr.get];by_cases hj:j = 0
   ·rw [if_pos hj,if_pos hj]
   ·rw [if_neg hj,if_neg hj,Tr.get_node t j,if_neg hj]
  ·rw [if_neg hk];by_cases hp:(k - 1) % 2 = 0
   ·rw [if_pos hp];simp only [Tr.get];rw [Tr.get_node t j];by_cases hj:j = 0
    ·rw [if_pos hj,if_pos hj,if_neg (by omega)]
    ·rw [if_neg hj,if_neg hj];by_cases hq:(j - 1) % 2 = 0
     ·rw [if_pos hq,if_pos hq,ih _ _ _ (by omega)];by_cases e:j = k
      ·subst e; rw [if_pos rfl,if_pos rfl]
      ·rw [if_neg (by omega),if_neg e]
     ·rw [if_neg hq,if_neg hq,if_neg (by rintro rfl; exact hq hp)]
   ·rw [if_neg hp];simp only [Tr.get];rw [Tr.get_node t j];by_cases hj:j = 0
    ·rw [if_pos hj,if_pos hj,if_neg (by omega)]
    ·rw [if_neg hj,if_neg hj];by_cases hq:(j - 1) % 2 = 0
     ·rw [if_pos hq,if_pos hq,if_neg (by rintro rfl; exact hp hq)]
     ·rw [if_neg hq,if_neg hq,ih _ _ _ (by omega)];by_cases e:j = k
      ·subst e; rw [if_pos rfl,if_pos rfl]
      ·rw [if_neg (by omega),if_neg e]
structure Heap where
 t:Tr
 next:Nat
def Heap.getB (H:Heap) (id:Nat):Option Bk:=H.t.get id
def Heap.get (H:Heap) (id:Nat):Option Blk:=(H.t.get id).map Bk.abs
def Heap.setB (H:Heap) (id:Nat) (b:Option Bk):Heap:={ H with t:=Tr.put (id + 1) H.t id b }
def Heap.set (H:Heap) (id:Nat) (b:Option Blk):Heap:=match b with | none=>H.setB id none | some b=>ofB b fun b=>H.setB id (some b)
def Heap.new (H:Heap) (b:Blk):Heap:=ofB b fun b=>{ t:=Tr.put (H.next + 1) H.t H.next (some b),next:=H.next + 1 }
def Heap.abs (H:Heap):Ax.Heap:=⟨H.get,H.next⟩
theorem zdO (H:Heap) (id:Nat):H.abs.get id = H.get id:=rfl
theorem zjo (H:Heap):H.abs.next = H.next:=rfl
theorem zl6 (H:Heap) (id:Nat) (b:Option Bk):(H.setB id b).abs = H.abs.set id (b.map Bk.abs):=by
 simp only [Heap.abs,Heap.setB,Ax.Heap.set,Ax.Heap.mk.injEq,and_true];funext i;simp only [Heap.get,Tr.get_put _ _ _ _ (Nat.lt_succ_self id)];by_cases h:i = id
 ·rw [if_pos h,if_pos h]
 ·rw [if_neg h,if_neg h]
theorem zge (H:Heap) (id:Nat) (b:Option Blk):(H.set id b).abs = H.abs.set id b:=by
 cases b with
 | none=>exact zl6 H id none
 | some b =>
  obtain ⟨b',h1,h2⟩:=zqU b (fun b=>H.setB id (some b));simp only [Heap.set];rw [h1,zl6,Option.map_some,h2]
theorem zfi (H:Heap) (b:Blk):(H.new b).abs = H.abs.new b:=by
 obtain ⟨b',h1,h2⟩:=zqU b (fun b=>({ t:=Tr.put (H.next + 1) H.t H.next (some b),next:=H.next + 1 }:Heap));unfold Heap.new;rw [h1];simp only [Heap.abs,Ax.Heap.new,Ax.Heap.mk.injEq,and_true];funext i;simp only [Heap.get,Tr.get_put _ _ _ _ (Nat.lt_succ_self H.next)];by_cases h:i = H.next
 ·subst h;simp only [if_true,Option.map_some,h2]
 ·simp only [h,if_false]
abbrev M (α:Type):Type:=Heap → Option (α × Heap)
abbrev Sem':Type:=FuncId → List V → M V
def zoA {α:Type} (n:Nat) (k:Nat → α):α:=Nat.rec (k 0) (fun m _=>k (Nat.succ m)) n
theorem zre {α:Type} (n:Nat) (k:Nat → α):zoA n k = k n:=by cases n <;> rfl
def zrd {α:Type} (v:V) (k:V → α):α :=
 match v with
 | .int kk (.ofNat n)=>zoA n fun n=>k (.int kk (.ofNat n))
 | .int kk (.negSucc n)=>zoA n fun n=>k (.int kk (.negSucc n))
 | .lit (.float kk b)=>zoA b fun b=>k (.lit (.float kk b))
 | .bool true=>k (.bool true)
 | .bool false=>k (.bool false)
 | v=>k v
theorem zrc {α:Type} (v:V) (k:V → α):zrd v k = k v:=by
 unfold zrd;split <;> first | rfl | exact zre ..
namespace M
def pure {α:Type} (a:α):M α:=fun H=>some (a,H)
def fail {α:Type}:M α:=fun _=>none
def bind {α β:Type} (x:M α) (f:α → M β):M β:=fun H=>match x H with | some r=>f r.1 r.2 | none=>none
def lift (o:Option V):M V:=fun H=>match o with | some a=>zrd a fun a=>some (a,H) | none=>none
def getH:M Heap:=fun H=>some (H,H)
def ite {α:Type} (c:V) (x y:M α):M α:=match c with
 | .bool b=>if b then x else y
 | _=>fail
end M
def ldt (n:Option Nat) (b:Bk) (off:Nat):Option V :=
 match n with
 | none=>if off < b.n then (if off < 2 ^ b.d then some (CT.get b.d b.t off) else none) else none
 | some n=>if off + n ≤ b.n then (if off + n ≤ 2 ^ b.d then some (.agg (CT.rng b.d b.t off n)) else none) else none
def mload (n:Option Nat) (p:V):M V:=fun H =>
 match p with
 | .ptr id off=>match H.getB id with | some b=>(match ldt n b off with | some v=>some (v,H) | none=>none) | none=>none
 | .rp cells off=>(ldc n cells off).map fun v=>(v,H)
 | _=>none
def mstore (size:Nat) (p x:V):M V:=fun H =>
 match p with
 | .ptr id off=>match H.getB id with
  | some b=>if x.cells.length = size ∧ off + size ≤ b.n ∧ off + size ≤ 2 ^ b.d ∧ x.okc = true then CT.sets b.d b.t off x.cells fun t=>some (.undef,H.setB id (some { b with t:=t })) else none
  | none=>none
 | _=>none
def mbox (ty:TypeId) (x:V):M V:=fun H=>if x.okc = true then some (.ptr H.next 0,H.new ⟨ty,x.cells,none⟩) else none
def mslit (ty:TypeId) (len:Nat) (zero:List V) (parts:List (Nat × Nat × V)):M V:=fun H =>
 (fill (zeros zero len) parts).map fun cs=>(.sl H.next 0 len (.fix len),H.new ⟨ty,cs,none⟩)
def rcells (esz:Nat) (H:Heap):V → Option (List V × Nat)
 | .nils=>some ([],0)
 | .sl id off len _=>(H.get id).bind fun b=>if off + len * esz ≤ b.cells.length then some ((b.cells.drop off).take (len * esz),len) else none
 | .rs cells len=>if len * esz ≤ cells.length then some (cells.take (len * esz),len) else none
 | _=>none
def acells (esz:Nat) (H:Heap):V → Option (List V × Nat)
 | .str s=>if esz = 1 then some (strCells s,s.size) else none
 | v=>rcells esz H v
def mappendq (ty esz bytes:Nat) (q:List V × Nat) (x:V):M V:=fun H =>
  match x with
  | .nils=>if q.2 = 0 then some (.nils,H) else if q.2 * bytes ≤ 140737488355328 ∧ q.2 ≤ maxLen then some (.sl H.next 0 q.2 (.opn esz),H.new ⟨ty,q.1,some esz⟩) else none
  | .sl id off len cap=>(H.get id).bind fun b =>
   if off + len * esz ≤ b.cells.length ∧ b.ty = ty then
    match cap with
    | .fix c =>
     if len + q.2 ≤ c then
      if off + (len + q.2) * esz ≤ b.cells.length then some (.sl id off (len + q.2) (.fix c),H.set id (some { b with cells:=splice b.cells (off + len * esz) q.1 })) else none
     else if (len + q.2) * bytes ≤ 140737488355328 ∧ len + q.2 ≤ maxLen then
      some (.sl H.next 0 (len + q.2) (.opn esz),H.new ⟨ty,(b.cells.drop off).take (len * esz) ++ q.1,some esz⟩)
     else none
    | .opn e =>
     if e = esz ∧ b.opn = some esz ∧ b.cells.length = off + len * esz then
      if q.2 = 0 then some (.sl id off len (.opn e),H)
      else if (len + q.2) * bytes ≤ 140737488355328 ∧ len + q.2 ≤ maxLen then
       some (.sl H.next 0 (len + q.2) (.opn esz),(H.set id none).new ⟨ty,b.cells.drop off ++ q.1,some esz⟩)
      else none
     else if e = esz ∧ q.2 = 0 then some (.sl id off len (.opn e),H)
     else if e = esz ∧ b.opn = some esz ∧ off + (len + q.2) * esz ≤ b.cells.length then
      some (.sl id off (len + q.2) (.opn e),H.set id (some { b with cells:=splice b.cells (off + len * esz) q.1 }))
     else none
   else none
  | .rs cells len=>if q.2 = 0 then some (.rs cells len,H) else none
  | _=>none
def mappend (ty esz bytes:Nat) (x y:V):M V:=fun H=>(acells esz H y).bind fun q=>mappendq ty esz bytes q x H
def mappendz (ty bytes:Nat) (zero:List V) (x n:V):M V:=fun H =>
 match n with
 | .int _ l =>
  if 0 ≤ IntKind.i64.wrap l ∧ IntKind.i64.wrap l * bytes ≤ 281474976710656 then mappendq ty zero.length bytes (zeros zero (IntKind.i64.wrap l).toNat,(IntKind.i64.wrap l).toNat) x H else none
 | _=>none
def mcopy (esz:Nat) (d s:V):M V:=fun H =>
 (acells esz H s).bind fun q =>
  match d with
  | .nils=>some (.int .i64 0,H)
  | .sl id off len _=>(H.get id).bind fun b =>
   if off + len * esz ≤ b.cells.length then
    some (.int .i64 ((min q.2 len:Nat):Int),H.set id (some { b with cells:=splice b.cells off (q.1.take (min q.2 len * esz)) }))
   else none
  | _=>none
def mslice2 (esz:Nat) (x lo hi:V):M V:=fun H =>
 match x,lo,hi with
 | .sl id off len (.opn e),.int _ l,.int _ h=>(H.get id).bind fun b =>
  if e = esz ∧ b.opn = some esz ∧ 0 ≤ l ∧ l ≤ h ∧ off + h.toNat * esz ≤ b.cells.length then some (.sl id (off + l.toNat * esz) (h.toNat - l.toNat) (.opn e),H) else none
 | _,_,_=>none
def mclear (zero:List V) (x:V):M V:=fun H =>
 match x with
 | .sl id off len _=>if len = 0 then some (.undef,H) else (H.get id).bind fun b =>
  if off + len * zero.length ≤ b.cells.length then some (.undef,H.set id (some { b with cells:=splice b.cells off (zeros zero len) })) else none
 | _=>none
def mmknz (ty:TypeId) (n:V):M V:=fun H =>
 match n with
 | .int .i64 n=>if 0 ≤ n ∧ n ≤ 281474976710656 then some (.sl H.next 0 n.toNat (.opn 1),H.new ⟨ty,List.replicate n.toNat .any,some 1⟩) else none
 | _=>none
def mtostr (x:V):M V:=fun H=>(rcells 1 H x).bind fun q=>(zkO q.1).map fun l=>(.str ⟨l.toArray⟩,H)
def mtobytes (ty:TypeId) (x:V):M V:=fun H =>
 match x with
 | .str s=>if s.size ≤ maxLen then some (.sl H.next 0 s.size (.opn 1),H.new ⟨ty,strCells s,some 1⟩) else none
 | _=>none
def mremark (ty:TypeId) (x:V):M V:=fun H =>
 match x with
 | .str s=>mtobytes ty (.str s) H
 | .sl id off len cap=>(H.get id).bind fun _=>if len = 0 then none else some (.sl id off len cap,H)
 | _=>none
def mmkslice (ty bytes:Nat) (zero:List V) (len cap:V):M V:=fun H =>
 match len,cap with
 | .int .i64 l,.int .i64 c =>
  if 0 ≤ l ∧ l ≤ c ∧ c * bytes ≤ 281474976710656 ∧ c ≤ 281474976710656 then
   some (.sl H.next 0 l.toNat (.fix c.toNat),H.new ⟨ty,zeros zero c.toNat,none⟩)
  else none
 | _,_=>none
def same1:V → V → Bool
 | .bool a,.bool b=>a == b
 | .int k a,.int k' b=>decide (k = k') && decide (a = b)
 | .nilp,.nilp=>true
 | .nils,.nils=>true
 | .ptr a b,.ptr c d=>decide (a = c) && decide (b = d)
 | .mp a,.mp b=>decide (a = b)
 | .sl a b c (.fix d),.sl a' b' c' (.fix d')=>decide (a = a') && decide (b = b') && decide (c = c') && decide (d = d')
 | .sl a b c (.opn d),.sl a' b' c' (.opn d')=>decide (a = a') && decide (b = b') && decide (c = c') && decide (d = d')
 | _,_=>false
def sames:List V → List V → Bool
 | [],[]=>true
 | v :: vs,u :: us=>same1 v u && sames vs us
 | _,_=>false
def zqz:Option Blk → Option Blk → Bool
 | none,none=>true
 | some a,some b=>decide (a.ty = b.ty) && decide (a.opn = b.opn) && sames a.cells b.cells
 | _,_=>false
theorem same1_eq {a b:V} (h:same1 a b = true):a = b:=by
 unfold same1 at h;split at h <;> simp_all
theorem sames_eq:∀ {a b:List V},sames a b = true → a = b:=by
 intro a
 induction a with
 | nil=>intro b h; cases b <;> simp_all [sames]
 | cons v a ih =>
  intro b h;cases b with
  | nil=>simp [sames] at h
  | cons u b =>
   simp only [sames,Bool.and_eq_true] at h;rw [same1_eq h.1,ih h.2]
theorem sameB_eq {a b:Option Blk} (h:zqz a b = true):a = b:=by
 cases a with
 | none=>cases b <;> simp_all [zqz]
 | some a =>
  cases b with
  | none=>simp [zqz] at h
  | some b =>
   obtain ⟨t,c,o⟩:=a;obtain ⟨t',c',o'⟩:=b;simp only [zqz,Bool.and_eq_true,decide_eq_true_eq] at h;obtain ⟨⟨rfl,rfl⟩,h⟩:=h;rw [sames_eq h]
def mmkmap (ty:TypeId):M V:=fun H=>some (.mp H.next,H.new ⟨ty,[],none⟩)
def mlookup (mk:MK) (zero:V) (ok:Bool) (x k:V):M V:=fun H =>
 match x with
 | .mp id=>(H.get id).bind fun b=>if kok mk k = true then (mget mk k b.cells).map fun r=>(if ok then .tup [r.getD zero,.bool r.isSome] else r.getD zero,H) else none
 | _=>none
def mmapset (mk:MK) (x k v:V):M V:=fun H =>
 match x with
 | .mp id=>(H.get id).bind fun b=>if kok mk k = true then (mset mk k v b.cells).map fun cs=>(.undef,H.set id (some { b with cells:=cs })) else none
 | _=>none
def mmapdrop (p:Bool) (o:Nat) (x n:V):M V:=fun H =>
 match x,n with
 | .ptr id off,.int .i64 n=>(H.get id).bind fun b0 =>
  match b0.cells[off + o]? with
  | some (.mp i)=>(H.get i).bind fun b=>(mfil p n b.cells).map fun cs=>(.undef,H.set i (some { b with cells:=cs }))
  | _=>none
 | _,_=>none
def matoload (k:IntKind) (p:V):M V:=fun H=>(mload none p H).bind fun r =>
 match r.1 with
 | .int k' n=>if k' = k then some (.int k n,r.2) else none
 | _=>none
def matoadd (k:IntKind) (p y:V):M V:=fun H =>
 match p,y with
 | .ptr id off,.int _ j=>(H.get id).bind fun b =>
  match b.cells[off]? with
  | some (.int k' n)=>if k' = k then some (.int k (k.wrap (n + j)),H.set id (some { b with cells:=splice b.cells off [.int k (k.wrap (n + j))] })) else none
  | _=>none
 | _,_=>none
def mmaplen (x:V):M V:=fun H =>
 match x with
 | .mp id=>(H.get id).map fun b=>(.int .i64 ((b.cells.length / 2:Nat):Int),H)
 | _=>none
def M.unch (v:V) (h h':Heap):M Unit:=fun H =>
 match v.pid with
 | none=>some ((),H)
 | some id=>if zqz (h'.get id) (h.get id) then some ((),H) else none
def callv (G:Sem') (x:V) (args:List V):M V :=
 match x with
 | .fn f caps=>G f (args ++ caps)
 | _=>M.fail
def with1 {α:Type} (A:Fr) (x:Arg) (k:V → M α):M α:=match x.ev A with | some v=>k v | none=>M.fail
def withs {α:Type} (A:Fr) (xs:List Arg) (k:List V → M α):M α:=match evs A xs with | some v=>k v | none=>M.fail
def I.run (G:Sem') (A:Fr):I → M V
 | .mv x=>with1 A x M.pure
 | .pick c a b=>with1 A c fun c=>with1 A a fun a=>with1 A b fun b=>M.lift (Ax.pick c a b)
 | .box ty x=>with1 A x fun x=>mbox ty x
 | .build zero parts=>match zbM A parts with | some ps=>M.lift (Ax.build zero ps) | none=>M.fail
 | .slit ty l zero parts=>match zbM A parts with | some ps=>mslit ty l zero ps | none=>M.fail
 | .load n x=>with1 A x fun x=>mload n x
 | .store size p x=>with1 A p fun p=>with1 A x fun x=>mstore size p x
 | .nilck x=>with1 A x fun x=>M.lift (Ax.nilck x)
 | .bin op x y=>with1 A x fun x=>with1 A y fun y=>M.lift (Ax.bin op x y)
 | .eq k neg x y=>with1 A x fun x=>with1 A y fun y=>M.lift (eqr k neg x y)
 | .un op x=>with1 A x fun x=>M.lift (Ax.un op x)
 | .cint k x=>with1 A x fun x=>M.lift (Ax.cint k x)
 | .tostr x=>with1 A x fun x=>mtostr x
 | .tobytes ty x=>with1 A x fun x=>mtobytes ty x
 | .faddr o x=>with1 A x fun x=>M.lift (Ax.faddr o x)
 | .iaddr alen esz x i=>with1 A x fun x=>with1 A i fun i=>M.lift (Ax.iaddr alen esz x i)
 | .index l esz n x i=>with1 A x fun x=>with1 A i fun i=>M.lift (Ax.index l esz n x i)
 | .sindex x i=>with1 A x fun x=>with1 A i fun i=>M.lift (Ax.sindex x i)
 | .field off n x=>with1 A x fun x=>M.lift (Ax.field off n x)
 | .ext i x=>with1 A x fun x=>M.lift (Ax.ext i x)
 | .len x=>with1 A x fun x=>M.lift (vlen x)
 | .slen x=>with1 A x fun x=>M.lift (Ax.slen x)
 | .slice ck esz x lo hi mx=>with1 A x fun x =>
  match zdc A lo,zdc A hi,zdc A mx with | some lo,some hi,some mx=>M.lift (zbI ck esz x lo hi mx) | _,_,_=>M.fail
 | .append ty esz bytes x y=>with1 A x fun x=>with1 A y fun y=>mappend ty esz bytes x y
 | .appendz ty bytes zero x y=>with1 A x fun x=>with1 A y fun y=>mappendz ty bytes zero x y
 | .slice2 esz x lo hi=>with1 A x fun x=>with1 A lo fun lo=>with1 A hi fun hi=>mslice2 esz x lo hi
 | .clear zero x=>with1 A x fun x=>mclear zero x
 | .op1 k x=>with1 A x fun x=>M.lift (Ax.op1 k x)
 | .mknz ty x=>with1 A x fun x=>mmknz ty x
 | .remark ty x=>with1 A x fun x=>mremark ty x
 | .copy esz x y=>with1 A x fun x=>with1 A y fun y=>mcopy esz x y
 | .mkslice ty bytes zero l c=>with1 A l fun l=>with1 A c fun c=>mmkslice ty bytes zero l c
 | .minmax mx x xs=>with1 A x fun x=>withs A xs fun xs=>M.lift (Ax.minmax mx x xs)
 | .call f args=>withs A args fun args=>G f args
 | .callv x args=>with1 A x fun x=>withs A args fun args=>callv G x args
 | .mkfn f caps=>withs A caps fun caps=>M.pure (.fn f caps)
 | .mkmap ty=>mmkmap ty
 | .lookup mk zero ok x k=>with1 A x fun x=>with1 A k fun k=>mlookup mk zero ok x k
 | .mapset mk x k v=>with1 A x fun x=>with1 A k fun k=>with1 A v fun v=>mmapset mk x k v
 | .maplen x=>with1 A x fun x=>mmaplen x
 | .aload k x=>with1 A x fun x=>matoload k x
 | .aadd k x y=>with1 A x fun x=>with1 A y fun y=>matoadd k x y
 | .mdrop p o x n=>with1 A x fun x=>with1 A n fun n=>mmapdrop p o x n
def guarded (A:Fr) (gd:Option (Nat × Bool)) (x:M V):M V :=
 match gd with
 | none=>x
 | some (s,want)=>match A.get s with
  | some (.bool b)=>if b = want then x else M.pure .undef
  | some (.tup [])=>M.pure .undef
  | _=>M.fail
def AO.run (G:Sem') (A:Fr) (o:AO):M V:=guarded A o.gd (I.run G A o.ins)
def step {α:Type} (G:Sem') (o:AO) (A:Fr) (k:V → M α):M α :=
 match o.gd,o.ins with
 | none,.mv x=>(match x.ev A with | some v=>k v | none=>M.fail)
 | _,_=>M.bind (AO.run G A o) k
def opsK {α:Type} (G:Sem'):List AO → Fr → (Fr → M α) → M α
 | [],A,k=>k A
 | o :: os,A,k=>step G o A fun v=>opsK G os (A.put o.dst v) k
def actsK {α:Type} (un:List (Nat × Nat)) (i:Nat) (a:V):List (Nat × Heap × Heap) → M α → M α
 | [],k=>k
 | (j,h,h') :: js,k=>if un.contains (i,j) then M.bind (M.unch a h h') fun _=>actsK un i a js k else actsK un i a js k
def readsK {α:Type} (un:List (Nat × Nat)) (j:Nat) (h h':Heap):List (Nat × V) → M α → M α
 | [],k=>k
 | (i,a) :: rs,k=>if un.contains (i,j) then M.bind (M.unch a h h') fun _=>readsK un j h h' rs k else readsK un j h h' rs k
def with1' {α:Type} (A:Fr) (x:Arg) (k:V → M α):M α:=match x.ev A with | some v=>k v | none=>k .undef
def drawK {α:Type} (G:Sem') (un:List (Nat × Nat)):Nat → List (Nat × V) → List (Nat × Heap × Heap) → List AO → Fr → (Fr → M α) → M α
 | _,_,_,[],A,k=>k A
 | p,rs,js,o :: os,A,k =>
  match o.ins.kind with
  | .read x =>
   if un.any (fun q=>q.1 == p) then
    with1' A x fun a=>step G o A fun v=>actsK un p a js (drawK G un (p + 1) ((p,a) :: rs) js os (A.put o.dst v) k)
   else step G o A fun v=>drawK G un (p + 1) rs js os (A.put o.dst v) k
  | .act =>
   if un.any (fun q=>q.2 == p) then
    M.bind M.getH fun h=>step G o A fun v=>M.bind M.getH fun h'=>readsK un p h h' rs (drawK G un (p + 1) rs ((p,h,h') :: js) os (A.put o.dst v) k)
   else step G o A fun v=>drawK G un (p + 1) rs js os (A.put o.dst v) k
  | _=>step G o A fun v=>drawK G un (p + 1) rs js os (A.put o.dst v) k
def M.join (x:M Res) (k:List V → M Res):M Res:=M.bind x fun r =>
 match r with
 | .nrm L=>k L
 | .ex id L=>M.pure (.ex id L)
 | .ret L=>M.pure (.ret L)
def M.blk (id:Nat) (x:M Res) (k:List V → M Res):M Res:=M.bind x fun r =>
 match r with
 | .nrm L=>k L
 | .ex i L=>if i = id then k L else M.pure (.ex i L)
 | .ret L=>M.pure (.ret L)
def iterN (body:List V → M Res):Nat → List V → M Res
 | 0,_=>M.fail
 | n + 1,L=>M.join (body L) (iterN body n)
def M.iter (body:List V → M Res) (L:List V):M Res:=iterN body 1000000000 L
def resK {α:Type} (A:Fr):List RV → (List V → M α) → M α
 | [],k=>k []
 | .tmp t :: rs,k=>match A.get t with | some v=>resK A rs fun vs=>k (v :: vs) | none=>M.fail
 | .cell t n :: rs,k=>match A.get t with | some a=>M.bind (mload n a) fun v=>resK A rs fun vs=>k (v :: vs) | none=>M.fail
def execK (G:Sem') (rv:List RV):C → List (Nat × List Nat) → List Nat → Fr → M Res
 | .done,_,J,A=>match zcf A J with | some L=>M.pure (.nrm L) | none=>M.fail
 | .bad,_,_,_=>M.fail
 | .ops l k,cx,J,A=>opsK G l A fun A'=>execK G rv k cx J A'
 | .draw l un k,cx,J,A=>drawK G un 0 [] [] l A fun A'=>execK G rv k cx J A'
 | .cond x a b,cx,J,A=>match x.ev A with | some c=>M.ite c (execK G rv a cx J A) (execK G rv b cx J A) | none=>M.fail
 | .condJ x a b J' W k,cx,J,A=>match x.ev A with
  | some c=>M.join (M.ite c (execK G rv a cx J' A) (execK G rv b cx J' A)) fun L=>execK G rv k cx J (A.join J' W L)
  | none=>M.fail
 | .blk id a J' W k,cx,J,A=>M.blk id (execK G rv a ((id,J') :: cx) J' A) fun L=>execK G rv k cx J (A.join J' W L)
 | .loop a K W,cx,_,A=>match zcf A K with | some L=>M.iter (fun L=>execK G rv a cx K (A.join K W L)) L | none=>M.fail
 | .exit id,cx,_,A=>match zj8 cx id with | some J=>(match zcf A J with | some L=>M.pure (.ex id L) | none=>M.fail) | none=>M.fail
 | .ret,_,_,A=>resK A rv fun L=>M.pure (.ret L)
def fin (x:M Res):M V:=M.bind x fun r =>
 match r with
 | .ret L=>M.pure (zfk L)
 | _=>M.fail
/-! It does what the abstract machine does. -/
def Sim {α:Type} (x:M α) (y:Ax.M α):Prop:=∀ c v c',x c = some (v,c') → y c.abs = some (v,c'.abs)
def Sims (g:Sem') (G:Ax.Sem'):Prop:=∀ f args,Sim (g f args) (G f args)
section
variable {α β:Type}
theorem zcS (v:α):Sim (M.pure v) (Ax.M.pure v):=by
 intro c u c' h;simp only [M.pure,Option.some.injEq,Prod.mk.injEq] at h;obtain ⟨rfl,rfl⟩:=h;rfl
theorem zac {y:Ax.M α}:Sim M.fail y:=by intro c v c' h; cases h
theorem zbN (o:Option V):Sim (M.lift o) (Ax.M.lift o):=by
 intro c u c' h;cases o with
 | none=>cases h
 | some a =>
  simp only [M.lift,zrc,Option.some.injEq,Prod.mk.injEq] at h;obtain ⟨rfl,rfl⟩:=h;rfl
theorem zpN {x:M α} {f:α → M β} {c:Heap} {r:β × Heap} (h:M.bind x f c = some r):∃ v c1,x c = some (v,c1) ∧ f v c1 = some r:=by
 simp only [M.bind] at h;cases hx:x c with
 | none=>rw [hx] at h; cases h
 | some q=>rw [hx] at h; exact ⟨q.1,q.2,rfl,h⟩
theorem zeY {x:M α} {y:Ax.M α} {f:α → M β} {g:α → Ax.M β} (h:Sim x y) (k:∀ v,Sim (f v) (g v)):Sim (M.bind x f) (y.bind g):=by
 intro c v c' e;obtain ⟨u,c1,h1,h2⟩:=zpN e;rw [bind_ok (h c u c1 h1)];exact k u c1 v c' h2
theorem zqu (c:V) {x x':M α} {y y':Ax.M α} (h:Sim x y) (k:Sim x' y'):Sim (M.ite c x x') (Ax.M.ite c y y'):=by
 cases c <;> first | exact zac | skip
 rename_i b;cases b
 ·exact k
 ·exact h
theorem ldt_eq {n:Option Nat} {b:Bk} {off:Nat} {v:V} (h:ldt n b off = some v):ldc n b.abs.cells off = some v:=by
 cases n with
 | none =>
  simp only [ldt] at h;split at h
  ·rename_i h1;split at h
   ·rename_i h2;injection h with h
    subst h;simp only [ldc,Bk.abs];rw [List.getElem?_take_of_lt h1,CT.get_abs _ _ _ h2]
   ·cases h
  ·cases h
 | some n =>
  simp only [ldt] at h;split at h
  ·rename_i h1;split at h
   ·rename_i h2;injection h with h
    subst h;have hl:off + n ≤ ((CT.abs b.d b.t).take b.n).length:=by rw [List.length_take,CT.abs_len]; omega
    show (if off + n ≤ ((CT.abs b.d b.t).take b.n).length then some (V.agg ((((CT.abs b.d b.t).take b.n).drop off).take n)) else none) = _;rw [if_pos hl,CT.rng_abs _ _ _ _ h2,List.drop_take,List.take_take,Nat.min_eq_left (by omega)]
   ·cases h
  ·cases h
theorem zll (n:Option Nat) (p:V):Sim (mload n p) (Ax.mload n p):=by
 intro c v c' h;cases p <;> simp only [mload,Ax.mload,Option.bind_eq_some_iff,Option.map_eq_some_iff,Prod.mk.injEq,reduceCtorEq,zdO] at h ⊢
 ·split at h
  ·rename_i b hb;split at h
   ·rename_i u hu;simp only [Option.some.injEq,Prod.mk.injEq] at h;obtain ⟨rfl,rfl⟩:=h;exact ⟨b.abs,by simp only [Heap.get]; rw [show c.t.get _ = some b from hb]; rfl,u,ldt_eq hu,rfl,rfl⟩
   ·cases h
  ·cases h
 ·obtain ⟨u,hu,rfl,rfl⟩:=h; exact ⟨u,hu,rfl,rfl⟩
theorem zqq (n:Nat) (p x:V):Sim (mstore n p x) (Ax.mstore n p x):=by
 intro c v c' h;cases p <;> simp only [mstore,Ax.mstore,Option.bind_eq_some_iff,reduceCtorEq,zdO] at h ⊢
 rename_i id off;split at h
 ·rename_i b hb;split at h
  ·rename_i hc;obtain ⟨h1,h2,h3,h4⟩:=hc;obtain ⟨t',g1,g2⟩:=CT.sets_abs b.d x.cells b.t off (fun t=>some (V.undef,c.setB id (some { b with t:=t }))) (by omega);rw [g1] at h;simp only [Option.some.injEq,Prod.mk.injEq] at h;obtain ⟨rfl,rfl⟩:=h;have hl:(b.abs.cells).length = min b.n (2 ^ b.d):=by simp only [Bk.abs,List.length_take,CT.abs_len]
   refine ⟨b.abs,by simp only [Heap.get]; rw [show c.t.get _ = some b from hb]; rfl,?_⟩;rw [if_pos ⟨h1,by omega,h4⟩,zl6];have e:(({ b with t:=t' }:Bk).abs) = { b.abs with cells:=splice b.abs.cells off x.cells }:=by
    simp only [Bk.abs,g2,Blk.mk.injEq,true_and,and_true];apply List.ext_getElem?;intro j;rw [zdi _ _ _ (by rw [List.length_take,CT.abs_len]; omega)];by_cases hj:j < b.n
    ·rw [List.getElem?_take_of_lt hj,zdi _ _ _ (by rw [CT.abs_len]; omega),List.getElem?_take_of_lt hj]
    ·rw [List.getElem?_eq_none (by rw [List.length_take]; omega),if_neg (by omega),List.getElem?_eq_none (by rw [List.length_take]; omega)]
   rw [Option.map_some,e]
  ·cases h
 ·cases h
theorem sim_box (ty:TypeId) (x:V):Sim (mbox ty x) (Ax.mbox ty x):=by
 intro c v c' h;simp only [mbox,Ax.mbox,zjo] at h ⊢;split at h
 ·rename_i hc;rw [if_pos hc];simp only [Option.some.injEq,Prod.mk.injEq] at h ⊢;obtain ⟨rfl,rfl⟩:=h;exact ⟨rfl,(zfi ..).symm⟩
 ·cases h
theorem sim_slit (ty:TypeId) (l:Nat) (z:List V) (ps:List (Nat × Nat × V)):Sim (mslit ty l z ps) (Ax.mslit ty l z ps):=by
 intro c v c' h;simp only [mslit,Ax.mslit,Option.map_eq_some_iff,Prod.mk.injEq,zjo] at h ⊢;obtain ⟨cs,hcs,rfl,rfl⟩:=h;exact ⟨cs,hcs,rfl,(zfi ..).symm⟩
theorem zkQ (e:Nat) (c:Heap) (v:V):Ax.rcells e c.abs v = rcells e c v:=by cases v <;> rfl
theorem zlb (e:Nat) (c:Heap) (v:V):Ax.acells e c.abs v = acells e c v:=by cases v <;> first | rfl | exact zkQ ..
theorem zju (ty e b:Nat) (q:List V × Nat) (x:V):Sim (mappendq ty e b q x) (Ax.mappendq ty e b q x):=by
 intro c v c' h;simp only [mappendq,Ax.mappendq] at h ⊢;cases x with
 | nils =>
  dsimp only at h ⊢;split at h
  ·rename_i h0;rw [if_pos h0];simp only [Option.some.injEq,Prod.mk.injEq] at h ⊢;exact ⟨h.1,by rw [h.2]⟩
  ·rename_i h0;rw [if_neg h0];split at h
   ·rename_i h1;rw [if_pos h1];simp only [Option.some.injEq,Prod.mk.injEq] at h ⊢;obtain ⟨rfl,rfl⟩:=h;exact ⟨rfl,(zfi ..).symm⟩
   ·cases h
 | rs cells len =>
  dsimp only at h ⊢;split at h
  ·rename_i h0;rw [if_pos h0];simp only [Option.some.injEq,Prod.mk.injEq] at h ⊢;exact ⟨h.1,by rw [h.2]⟩
  ·cases h
 | sl id off len cap =>
  simp only [Option.bind_eq_some_iff,zdO] at h ⊢;obtain ⟨bl,hb,h⟩:=h;refine ⟨bl,hb,?_⟩;split at h
  ·rename_i h0;rw [if_pos h0];cases cap with
   | fix cc =>
    dsimp only at h ⊢;split at h
    ·rename_i h1;rw [if_pos h1];split at h
     ·rename_i h2;rw [if_pos h2];simp only [Option.some.injEq,Prod.mk.injEq] at h ⊢;obtain ⟨rfl,rfl⟩:=h;exact ⟨rfl,(zge ..).symm⟩
     ·cases h
    ·rename_i h1;rw [if_neg h1];split at h
     ·rename_i h2;rw [if_pos h2];simp only [Option.some.injEq,Prod.mk.injEq] at h ⊢;obtain ⟨rfl,rfl⟩:=h;exact ⟨rfl,(zfi ..).symm⟩
     ·cases h
   | opn ee =>
    dsimp only at h ⊢;split at h
    ·rename_i h1;rw [if_pos h1];split at h
     ·rename_i h2;rw [if_pos h2];simp only [Option.some.injEq,Prod.mk.injEq] at h ⊢;exact ⟨h.1,by rw [h.2]⟩
     ·rename_i h2;rw [if_neg h2];split at h
      ·rename_i h3;rw [if_pos h3];simp only [Option.some.injEq,Prod.mk.injEq] at h ⊢;obtain ⟨rfl,rfl⟩:=h;exact ⟨rfl,by rw [zfi,zge]⟩
      ·cases h
    ·rename_i h1;rw [if_neg h1];split at h
     ·rename_i h2;rw [if_pos h2];simp only [Option.some.injEq,Prod.mk.injEq] at h ⊢;exact ⟨h.1,by rw [h.2]⟩
     ·rename_i h2;rw [if_neg h2];split at h
      ·rename_i h3;rw [if_pos h3];simp only [Option.some.injEq,Prod.mk.injEq] at h ⊢;obtain ⟨rfl,rfl⟩:=h;exact ⟨rfl,(zge ..).symm⟩
      ·cases h
  ·cases h
 | _=>cases h
theorem zpd (ty e b:Nat) (x y:V):Sim (mappend ty e b x y) (Ax.mappend ty e b x y):=by
 intro c v c' h;simp only [mappend,Ax.mappend,Option.bind_eq_some_iff,zlb] at h ⊢;obtain ⟨q,hq,h⟩:=h;exact ⟨q,hq,zju _ _ _ _ _ _ _ _ h⟩
theorem znr (ty b:Nat) (z:List V) (x y:V):Sim (mappendz ty b z x y) (Ax.mappendz ty b z x y):=by
 intro c v c' h;unfold mappendz at h;unfold Ax.mappendz;split at h
 ·dsimp only at h ⊢;split at h
  ·rename_i h0;rw [if_pos h0];exact zju _ _ _ _ _ _ _ _ h
  ·cases h
 ·cases h
theorem zo8 (e:Nat) (x lo hi:V):Sim (mslice2 e x lo hi) (Ax.mslice2 e x lo hi):=by
 intro c v c' h;unfold mslice2 at h;unfold Ax.mslice2;split at h
 ·simp only [Option.bind_eq_some_iff,zdO] at h ⊢;obtain ⟨bl,hb,h⟩:=h;refine ⟨bl,hb,?_⟩;split at h
  ·rename_i h0;rw [if_pos h0];simp only [Option.some.injEq,Prod.mk.injEq] at h ⊢;exact ⟨h.1,by rw [h.2]⟩
  ·cases h
 ·cases h
theorem zqv (z:List V) (x:V):Sim (mclear z x) (Ax.mclear z x):=by
 intro c v c' h;unfold mclear at h;unfold Ax.mclear;split at h
 ·dsimp only at h ⊢;split at h
  ·rename_i h0;rw [if_pos h0];simp only [Option.some.injEq,Prod.mk.injEq] at h ⊢;exact ⟨h.1,by rw [h.2]⟩
  ·rename_i h0;rw [if_neg h0];simp only [Option.bind_eq_some_iff,zdO] at h ⊢;obtain ⟨bl,hb,h⟩:=h;refine ⟨bl,hb,?_⟩;split at h
   ·rename_i h1;rw [if_pos h1];simp only [Option.some.injEq,Prod.mk.injEq] at h ⊢;obtain ⟨rfl,rfl⟩:=h;exact ⟨rfl,(zge ..).symm⟩
   ·cases h
 ·cases h
theorem sim_mknz (ty:TypeId) (x:V):Sim (mmknz ty x) (Ax.mmknz ty x):=by
 intro c v c' h;unfold mmknz at h;unfold Ax.mmknz;split at h
 ·split at h
  ·rename_i hc;simp only [Option.some.injEq,Prod.mk.injEq] at h;obtain ⟨rfl,rfl⟩:=h;simp only [if_pos hc,zfi,zjo]
  ·cases h
 ·cases h
theorem sim_copy (e:Nat) (x y:V):Sim (mcopy e x y) (Ax.mcopy e x y):=by
 intro c v c' h;simp only [mcopy,Ax.mcopy,Option.bind_eq_some_iff,zlb] at h ⊢;obtain ⟨q,hq,h⟩:=h;refine ⟨q,hq,?_⟩;cases x with
 | nils =>
  simp only [Option.some.injEq,Prod.mk.injEq] at h ⊢;exact ⟨h.1,by rw [h.2]⟩
 | sl id off len cap =>
  simp only [Option.bind_eq_some_iff,zdO] at h ⊢;obtain ⟨bl,hb,h⟩:=h;refine ⟨bl,hb,?_⟩;split at h
  ·rename_i h0;rw [if_pos h0];simp only [Option.some.injEq,Prod.mk.injEq] at h ⊢;obtain ⟨rfl,rfl⟩:=h;exact ⟨rfl,(zge ..).symm⟩
  ·cases h
 | _=>cases h
theorem zqp (x:V):Sim (mtostr x) (Ax.mtostr x):=by
 intro c v c' h;simp only [mtostr,Ax.mtostr,Option.bind_eq_some_iff,Option.map_eq_some_iff,Prod.mk.injEq,zkQ] at h ⊢;obtain ⟨q,hq,l,hl,rfl,rfl⟩:=h;exact ⟨q,hq,l,hl,rfl,rfl⟩
theorem zjt (ty:TypeId) (x:V):Sim (mtobytes ty x) (Ax.mtobytes ty x):=by
 intro c v c' h;unfold mtobytes at h;unfold Ax.mtobytes;split at h
 ·dsimp only at h ⊢;split at h
  ·rename_i h0;rw [if_pos h0];simp only [Option.some.injEq,Prod.mk.injEq] at h ⊢;obtain ⟨rfl,rfl⟩:=h;exact ⟨rfl,(zfi _ _).symm⟩
  ·cases h
 ·cases h
theorem znp (ty b:Nat) (z:List V) (l k:V):Sim (mmkslice ty b z l k) (Ax.mmkslice ty b z l k):=by
 intro c v c' h;unfold mmkslice at h;unfold Ax.mmkslice;split at h
 ·rename_i a b';dsimp only at h ⊢;split at h
  ·rename_i h0;rw [if_pos h0];simp only [Option.some.injEq,Prod.mk.injEq] at h ⊢;obtain ⟨rfl,rfl⟩:=h;exact ⟨rfl,(zfi ..).symm⟩
  ·cases h
 ·cases h
theorem zof (v:V) (h h':Heap):Sim (M.unch v h h') (Ax.M.unch v h.abs h'.abs):=by
 intro c u c' e;unfold M.unch at e;unfold Ax.M.unch;cases hp:v.pid with
 | none =>
  rw [hp] at e;simp only [Option.some.injEq,Prod.mk.injEq] at e;obtain ⟨_,rfl⟩:=e;rw [if_pos (by intro id h; cases h)]
 | some id =>
  rw [hp] at e;dsimp only at e;split at e
  ·rename_i hs;simp only [Option.some.injEq,Prod.mk.injEq] at e;obtain ⟨_,rfl⟩:=e;rw [if_pos];intro i hi;simp only [Option.some.injEq] at hi;subst hi;exact sameB_eq hs
  ·cases e
theorem zo9 (ty:TypeId) (x:V):Sim (mremark ty x) (Ax.mremark ty x):=by
 intro c v c' h;unfold mremark at h;unfold Ax.mremark;split at h
 ·exact zjt _ _ _ _ _ h
 ·simp only [Option.bind_eq_some_iff,zdO] at h ⊢;obtain ⟨bl,hb,h⟩:=h;refine ⟨bl,hb,?_⟩;split at h
  ·cases h
  ·rename_i h0;rw [if_neg h0];simp only [Option.some.injEq,Prod.mk.injEq] at h ⊢;exact ⟨h.1,by rw [h.2]⟩
 ·cases h
theorem zqt (ty:TypeId):Sim (mmkmap ty) (Ax.mmkmap ty):=by
 intro c v c' h;simp only [mmkmap,Ax.mmkmap,Option.some.injEq,Prod.mk.injEq,zjo] at h ⊢;obtain ⟨rfl,rfl⟩:=h;exact ⟨rfl,(zfi ..).symm⟩
theorem zpc (mk:MK) (z:V) (ok:Bool) (x k:V):Sim (mlookup mk z ok x k) (Ax.mlookup mk z ok x k):=by
 intro c v c' h;cases x <;> simp only [mlookup,Ax.mlookup,Option.bind_eq_some_iff,reduceCtorEq,zdO] at h ⊢
 obtain ⟨b,hb,h⟩:=h;refine ⟨b,hb,?_⟩;split at h
 ·rename_i hc;rw [if_pos hc];simp only [Option.map_eq_some_iff,Prod.mk.injEq] at h ⊢;obtain ⟨u,hu,h1,rfl⟩:=h;exact ⟨u,hu,h1,rfl⟩
 ·cases h
theorem zpa (mk:MK) (x k u:V):Sim (mmapset mk x k u) (Ax.mmapset mk x k u):=by
 intro c v c' h;cases x <;> simp only [mmapset,Ax.mmapset,Option.bind_eq_some_iff,reduceCtorEq,zdO] at h ⊢
 obtain ⟨b,hb,h⟩:=h;refine ⟨b,hb,?_⟩;split at h
 ·rename_i hc;rw [if_pos hc];simp only [Option.map_eq_some_iff,Prod.mk.injEq] at h ⊢;obtain ⟨cs,hcs,rfl,rfl⟩:=h;exact ⟨cs,hcs,rfl,(zge ..).symm⟩
 ·cases h
theorem znq (p:Bool) (o:Nat) (x n:V):Sim (mmapdrop p o x n) (Ax.mmapdrop p o x n):=by
 intro c v c' h;unfold mmapdrop at h;unfold Ax.mmapdrop;split at h
 ·rename_i id off n;simp only [Option.bind_eq_some_iff] at h;obtain ⟨b0,hb0,h⟩:=h;simp only [zdO,hb0,Option.bind_some];split at h
  ·rename_i i hi;simp only [Option.bind_eq_some_iff,Option.map_eq_some_iff,Prod.mk.injEq] at h;obtain ⟨b,hb,cs,hcs,rfl,rfl⟩:=h;rw [hi];simp only [hb,hcs,Option.bind_some,Option.map_some,zge]
  ·cases h
 ·cases h
theorem zpb (x:V):Sim (mmaplen x) (Ax.mmaplen x):=by
 intro c v c' h;cases x <;> simp only [mmaplen,Ax.mmaplen,Option.map_eq_some_iff,Prod.mk.injEq,reduceCtorEq,zdO] at h ⊢
 obtain ⟨b,hb,rfl,rfl⟩:=h;exact ⟨b,hb,rfl,rfl⟩
theorem zqw (k:IntKind) (x:V):Sim (matoload k x) (Ax.matoload k x):=by
 intro c v c' h;unfold matoload at h;unfold Ax.matoload;simp only [Option.bind_eq_some_iff] at h ⊢;obtain ⟨⟨u,c1⟩,h1,h⟩:=h;refine ⟨_,zll _ _ _ _ _ h1,?_⟩;cases u <;> simp only [reduceCtorEq] at h
 dsimp only;split at h
 ·rename_i hk;rw [if_pos hk];simp only [Option.some.injEq,Prod.mk.injEq] at h ⊢;exact ⟨h.1,by rw [h.2]⟩
 ·cases h
theorem sim_aadd (k:IntKind) (x y:V):Sim (matoadd k x y) (Ax.matoadd k x y):=by
 intro c v c' h;unfold matoadd at h;unfold Ax.matoadd;split at h
 ·simp only [Option.bind_eq_some_iff,zdO] at h ⊢;obtain ⟨b,hb,h⟩:=h;refine ⟨b,hb,?_⟩;split at h
  ·rename_i k2 n hc;rw [hc];dsimp only;split at h
   ·rename_i hk;rw [if_pos hk];simp only [Option.some.injEq,Prod.mk.injEq] at h ⊢;obtain ⟨rfl,rfl⟩:=h;exact ⟨rfl,(zge ..).symm⟩
   ·cases h
  ·cases h
 ·cases h
theorem zqr {g:Sem'} {G:Ax.Sem'} (hg:Sims g G) (A:Fr) (ins:I):Sim (I.run g A ins) (ins.run G A):=by
 have w1:∀ (x:Arg) {k:V → M V} {k':V → Ax.M V},(∀ v,Sim (k v) (k' v)) → Sim (with1 A x k) (Ax.with1 A x k'):=by
  intro x k k' h;unfold with1 Ax.with1;cases x.ev A with
  | none=>exact zac
  | some v=>exact h v
 have ws:∀ (x:List Arg) {k:List V → M V} {k':List V → Ax.M V},(∀ v,Sim (k v) (k' v)) → Sim (withs A x k) (Ax.withs A x k'):=by
  intro x k k' h;unfold withs Ax.withs;cases evs A x with
  | none=>exact zac
  | some v=>exact h v
 cases ins <;> simp only [I.run,Ax.I.run]
 case mv x=>exact w1 x zcS
 case pick c a b=>exact w1 _ fun _=>w1 _ fun _=>w1 _ fun _=>zbN _
 case box=>exact w1 _ fun _=>sim_box _ _
 case build z ps=>cases zbM A ps <;> first | exact zac | exact zbN _
 case slit z ps=>cases zbM A ps <;> first | exact zac | exact sim_slit _ _ _ _
 case load=>exact w1 _ fun _=>zll _ _
 case store=>exact w1 _ fun _=>w1 _ fun _=>zqq _ _ _
 case nilck=>exact w1 _ fun _=>zbN _
 case bin=>exact w1 _ fun _=>w1 _ fun _=>zbN _
 case eq=>exact w1 _ fun _=>w1 _ fun _=>zbN _
 case un=>exact w1 _ fun _=>zbN _
 case cint=>exact w1 _ fun _=>zbN _
 case tostr=>exact w1 _ fun _=>zqp _
 case tobytes=>exact w1 _ fun _=>zjt _ _
 case faddr=>exact w1 _ fun _=>zbN _
 case iaddr=>exact w1 _ fun _=>w1 _ fun _=>zbN _
 case index=>exact w1 _ fun _=>w1 _ fun _=>zbN _
 case sindex=>exact w1 _ fun _=>w1 _ fun _=>zbN _
 case field=>exact w1 _ fun _=>zbN _
 case ext=>exact w1 _ fun _=>zbN _
 case len=>exact w1 _ fun _=>zbN _
 case slen=>exact w1 _ fun _=>zbN _
 case slice ck e x lo hi mx =>
  refine w1 _ fun _=>?_;cases zdc A lo <;> cases zdc A hi <;> cases zdc A mx <;> first | exact zac | exact zbN _
 case append=>exact w1 _ fun _=>w1 _ fun _=>zpd _ _ _ _ _
 case appendz=>exact w1 _ fun _=>w1 _ fun _=>znr _ _ _ _ _
 case copy=>exact w1 _ fun _=>w1 _ fun _=>sim_copy _ _ _
 case mkslice=>exact w1 _ fun _=>w1 _ fun _=>znp _ _ _ _ _
 case slice2=>exact w1 _ fun _=>w1 _ fun _=>w1 _ fun _=>zo8 _ _ _ _
 case clear=>exact w1 _ fun _=>zqv _ _
 case op1=>exact w1 _ fun _=>zbN _
 case mknz=>exact w1 _ fun _=>sim_mknz _ _
 case remark=>exact w1 _ fun _=>zo9 _ _
 case minmax=>exact w1 _ fun _=>ws _ fun _=>zbN _
 case call=>exact ws _ fun _=>hg _ _
 case callv =>
  refine w1 _ fun v=>ws _ fun _=>?_;cases v <;> first | exact zac | exact hg _ _
 case mkfn=>exact ws _ fun _=>zcS _
 case mkmap=>exact zqt _
 case lookup=>exact w1 _ fun _=>w1 _ fun _=>zpc _ _ _ _ _
 case mapset=>exact w1 _ fun _=>w1 _ fun _=>w1 _ fun _=>zpa _ _ _ _
 case mdrop=>exact w1 _ fun _=>w1 _ fun _=>znq _ _ _ _
 case maplen=>exact w1 _ fun _=>zpb _
 case aload=>exact w1 _ fun _=>zqw _ _
 case aadd=>exact w1 _ fun _=>w1 _ fun _=>sim_aadd _ _ _
theorem sim_ao {g:Sem'} {G:Ax.Sem'} (hg:Sims g G) (A:Fr) (o:AO):Sim (AO.run g A o) (o.run G A):=by
 unfold AO.run Ax.AO.run guarded Ax.guarded;cases o.gd with
 | none=>exact zqr hg A o.ins
 | some p =>
  obtain ⟨s,want⟩:=p;dsimp only;cases A.get s with
  | none=>exact zac
  | some v =>
   cases v with
   | bool b =>
    dsimp only;by_cases hb:b = want
    ·simp only [if_pos hb]; exact zqr hg A o.ins
    ·simp only [if_neg hb]; exact zcS _
   | tup vs =>
    cases vs with
    | nil=>exact zcS _
    | cons _ _=>exact zac
   | _=>exact zac
theorem zef {g:Sem'} {G:Ax.Sem'} (hg:Sims g G) (A:Fr) (o:AO) {k:V → M α} {k':V → Ax.M α} (h:∀ v,Sim (k v) (k' v)):Sim (step g o A k) (Ax.step G o A k'):=by
 have hr:=zeY (sim_ao hg A o) h;obtain ⟨d,gd,ins⟩:=o;cases gd with
 | some _=>exact hr
 | none =>
  cases ins <;> first | exact hr | skip
  rename_i x;show Sim (match x.ev A with | some v=>k v | none=>M.fail) (match x.ev A with | some v=>k' v | none=>Ax.M.fail);cases x.ev A with
  | none=>exact zac
  | some v=>exact h v
theorem sim_ops {g:Sem'} {G:Ax.Sem'} (hg:Sims g G) {k:Fr → M α} {k':Fr → Ax.M α} (h:∀ A,Sim (k A) (k' A)):∀ (l:List AO) (A:Fr),Sim (opsK g l A k) (Ax.opsK G l A k'):=by
 intro l
 induction l with
 | nil=>intro A; exact h A
 | cons o l ih=>intro A; exact zef hg A o fun v=>ih _
def absJ (js:List (Nat × Heap × Heap)):List (Nat × Ax.Heap × Ax.Heap):=js.map fun q=>(q.1,q.2.1.abs,q.2.2.abs)
theorem zoi {un:List (Nat × Nat)} {i:Nat} {a:V} {k:M α} {k':Ax.M α} (h:Sim k k'):∀ js,Sim (actsK un i a js k) (Ax.actsK un i a (absJ js) k'):=by
 intro js
 induction js with
 | nil=>exact h
 | cons q js ih =>
  obtain ⟨j,h1,h2⟩:=q;show Sim (if un.contains (i,j) then M.bind (M.unch a h1 h2) fun _=>actsK un i a js k else actsK un i a js k)
   (if un.contains (i,j) then (Ax.M.unch a h1.abs h2.abs).bind fun _=>Ax.actsK un i a (absJ js) k' else Ax.actsK un i a (absJ js) k')
  split
  ·exact zeY (zof _ _ _) fun _=>ih
  ·exact ih
theorem zqs {un:List (Nat × Nat)} {j:Nat} {h1 h2:Heap} {k:M α} {k':Ax.M α} (h:Sim k k'):∀ rs,Sim (readsK un j h1 h2 rs k) (Ax.readsK un j h1.abs h2.abs rs k'):=by
 intro rs
 induction rs with
 | nil=>exact h
 | cons q rs ih =>
  obtain ⟨i,a⟩:=q;show Sim (if un.contains (i,j) then M.bind (M.unch a h1 h2) fun _=>readsK un j h1 h2 rs k else readsK un j h1 h2 rs k)
   (if un.contains (i,j) then (Ax.M.unch a h1.abs h2.abs).bind fun _=>Ax.readsK un j h1.abs h2.abs rs k' else Ax.readsK un j h1.abs h2.abs rs k')
  split
  ·exact zeY (zof _ _ _) fun _=>ih
  ·exact ih
theorem zoh {f:Heap → M α} {f':Ax.Heap → Ax.M α} (h:∀ c,Sim (f c) (f' c.abs)):Sim (M.bind M.getH f) (Ax.M.getH.bind f'):=by
 intro c v c' e;exact h c c v c' e
theorem sim_draw {g:Sem'} {G:Ax.Sem'} (hg:Sims g G) {un:List (Nat × Nat)} {k:Fr → M α} {k':Fr → Ax.M α} (h:∀ A,Sim (k A) (k' A)):∀ (l:List AO) (p:Nat) (rs:List (Nat × V)) (js:List (Nat × Heap × Heap)) (A:Fr),
  Sim (drawK g un p rs js l A k) (Ax.drawK G un p rs (absJ js) l A k'):=by
 intro l
 induction l with
 | nil=>intro p rs js A; exact h A
 | cons o l ih =>
  intro p rs js A;unfold drawK Ax.drawK;cases hk:o.ins.kind with
  | read x =>
   dsimp only;split
   ·unfold with1' zbv.with1';cases x.ev A with
    | none=>exact zef hg A o fun v=>zoi (ih _ _ _ _) js
    | some a=>exact zef hg A o fun v=>zoi (ih _ _ _ _) js
   ·exact zef hg A o fun v=>ih _ _ _ _
  | act =>
   dsimp only;split
   ·exact zoh fun h1=>zef hg A o fun v=>zoh fun h2=>zqs (ih _ _ ((p,h1,h2) :: js) _) rs
   ·exact zef hg A o fun v=>ih _ _ _ _
  | pure=>exact zef hg A o fun v=>ih _ _ _ _
  | new=>exact zef hg A o fun v=>ih _ _ _ _
theorem zog {x:M Res} {y:Ax.M Res} {k:List V → M Res} {k':List V → Ax.M Res} (h:Sim x y) (hk:∀ L,Sim (k L) (k' L)):Sim (M.join x k) (Ax.M.join y k'):=by
 refine zeY h fun r=>?_;cases r with
 | nrm L=>exact hk L
 | ex id L=>exact zcS _
 | ret L=>exact zcS _
theorem sim_blk {id:Nat} {x:M Res} {y:Ax.M Res} {k:List V → M Res} {k':List V → Ax.M Res} (h:Sim x y) (hk:∀ L,Sim (k L) (k' L)):Sim (M.blk id x k) (Ax.M.blk id y k'):=by
 refine zeY h fun r=>?_;cases r with
 | nrm L=>exact hk L
 | ex i L =>
  dsimp only;by_cases e:i = id
  ·simp only [if_pos e]; exact hk L
  ·simp only [if_neg e]; exact zcS _
 | ret L=>exact zcS _
theorem sim_iter {body:List V → M Res} {b:List V → Ax.M Res} (h:∀ L,Sim (body L) (b L)) (L:List V):Sim (M.iter body L) (Ax.M.iter b L):=by
 have key:∀ (n:Nat) (L:List V),Sim (iterN body n L) (Ax.iterN b n L):=by
  intro n
  induction n with
  | zero=>intro L; exact zac
  | succ n ih=>intro L; exact zog (h L) ih
 intro c v c' e;exact zjO (key _ L c v c' e)
theorem sim_res {A:Fr}:∀ (rv:List RV) {k:List V → M α} {k':List V → Ax.M α},(∀ L,Sim (k L) (k' L)) → Sim (resK A rv k) (Ax.resK A rv k'):=by
 intro rv
 induction rv with
 | nil=>intro k k' h; exact h []
 | cons x rv ih =>
  intro k k' h;cases x with
  | tmp t =>
   simp only [resK,Ax.resK];cases A.get t with
   | none=>exact zac
   | some v=>exact ih fun vs=>h _
  | cell t n =>
   simp only [resK,Ax.resK];cases A.get t with
   | none=>exact zac
   | some v=>exact zeY (zll _ _) fun u=>ih fun vs=>h _
theorem sim_exec {g:Sem'} {G:Ax.Sem'} (hg:Sims g G) (rv:List RV):∀ (c:C) (cx:List (Nat × List Nat)) (J:List Nat) (A:Fr),Sim (execK g rv c cx J A) (Ax.execK G rv c cx J A):=by
 intro c
 induction c with
 | done=>intro cx J A; simp only [execK,Ax.execK]; cases zcf A J <;> first | exact zac | exact zcS _
 | bad=>intro cx J A; exact zac
 | ops l k ih=>intro cx J A; exact sim_ops hg (fun A'=>ih _ _ _) l A
 | draw l un k ih=>intro cx J A; exact sim_draw hg (fun A'=>ih _ _ _) l 0 [] [] A
 | cond x a b iha ihb =>
  intro cx J A;simp only [execK,Ax.execK];cases x.ev A with
  | none=>exact zac
  | some c=>exact zqu c (iha _ _ _) (ihb _ _ _)
 | condJ x a b J' W k iha ihb ihk =>
  intro cx J A;simp only [execK,Ax.execK];cases x.ev A with
  | none=>exact zac
  | some c=>exact zog (zqu c (iha _ _ _) (ihb _ _ _)) fun L=>ihk _ _ _
 | blk id a J' W k iha ihk=>intro cx J A; exact sim_blk (iha _ _ _) fun L=>ihk _ _ _
 | loop a K W iha =>
  intro cx J A;simp only [execK,Ax.execK];cases zcf A K with
  | none=>exact zac
  | some L=>exact sim_iter (fun L=>iha _ _ _) L
 | exit id =>
  intro cx J A;simp only [execK,Ax.execK];cases zj8 cx id with
  | none=>exact zac
  | some J=>dsimp only; cases zcf A J <;> first | exact zac | exact zcS _
 | ret=>intro cx J A; exact sim_res rv fun L=>zcS _
theorem sim_fin {x:M Res} {y:Ax.M Res} (h:Sim x y):Sim (fin x) (Ax.fin y):=by
 refine zeY h fun r=>?_;cases r with
 | ret L=>exact zcS _
 | _=>exact zac
end
theorem zaO {T:FuncId → Option Fn'} {f:FuncId} {ir:Fn'} (hT:T f = some ir) {args:List V} (hl:args.length ≤ ir.ntmps) {g:Sem'} (hg:Sims g (sem T)) {x:M Res} (hx:execK g ir.rv ir.body [] [] (params 0 args) = x):Sim (fin x) (sem T f args):=by
 intro c v c' h;refine zoj hT hl rfl ?_;exact sim_fin (hx ▸ sim_exec hg ir.rv ir.body [] [] (params 0 args)) c v c' h
theorem zam {α:Type} {p:Prop} [Decidable p] {x x':M α} {y:Ax.M α} (h:p → Sim x y) (k:Sim x' y):Sim (if p then x else x') y:=by
 by_cases hp:p
 ·rw [if_pos hp]; exact h hp
 ·rw [if_neg hp]; exact k
def noF:Fn':=⟨0,[],.bad⟩
end Go.Ax.Cc
/- CiS1 -/
namespace Go.Ax.Cc
open Go.Proofs
def zm4 (G:Sem') (t1 t0:V) (L:List V):M Res :=
 (M.lift (Ax.bin .lss (L.getD 0 .undef) (V.int .i64 64))).bind fun t7 =>
 M.ite t7
 (M.blk 1 (
 (M.lift (Ax.nilck t1)).bind fun t12 =>
 (M.lift (Ax.faddr 1470 t12)).bind fun t13 =>
 (G zbt [(V.int .i64 32)]).bind fun t11 =>
 (M.lift (Ax.iaddr (some 64) 1 t13 (L.getD 0 .undef))).bind fun t14 =>
 (mstore 1 t14 t11).bind fun _ =>
 M.pure (.nrm [])) fun _ =>
 (M.lift (Ax.bin .add (L.getD 0 .undef) (V.int .i64 1))).bind fun t15 =>
 M.pure (.nrm [t15]))
 (M.pure (.ex 0 []))
def zk6 (G:Sem'):M Res :=
 (G zbG [(V.int .i64 11)]).bind fun t3 =>
 (M.lift (Ax.build [(V.bool false),(V.bool false),(V.bool false),(V.bool false),(V.bool false),(V.bool false),(V.bool false),(V.bool false),(V.int .i64 0),(V.int .i64 0),(V.int .i64 0),(V.int .i64 0),(V.int .i64 0),(V.int .i64 0),(V.int .i64 0),(V.int .i64 0),(V.int .i64 0),(V.bool false),(V.int .i64 0),(V.int .i64 0),(V.int .i64 0),(V.int .i64 0),(V.int .i64 0),(V.int .i64 0),(V.int .i64 0),(V.int .i64 0),(V.int .i64 0),(V.int .i64 0),(V.int .i64 0),(V.int .i64 0),(V.int .i64 0),(V.int .i64 0),(V.int .i64 0),(V.int .i64 0),(V.int .i64 0),(V.int .i64 0),(V.int .i64 0),(V.int .i64 0),(V.bool false),(V.bool false),(V.int .u32 0),(V.int .i64 0),(V.int .i64 0),(V.int .i64 0),V.nils,(V.int .i64 0),V.nils,V.nils,(V.int .u32 0),V.nils,(V.bool false),(V.int .u32 0),(V.int .i64 0),(V.int .i64 0),(V.int .i64 0),V.nils,(V.int .i64 0),V.nils,V.nils,(V.int .u32 0),V.nils,(V.bool false),(V.int .u32 0),(V.int .i64 0),(V.int .i64 0),(V.int .i64 0),V.nils,(V.int .i64 0),V.nils,V.nils,(V.int .u32 0),V.nils,(V.bool false),(V.int .u32 0),(V.int .i64 0),(V.int .i64 0),(V.int .i64 0),V.nils,(V.int .i64 0),V.nils,V.nils,(V.int .u32 0),V.nils,(V.bool false),(V.int .u32 0),(V.int .i64 0),(V.int .i64 0),(V.int .i64 0),V.nils,(V.int .i64 0),V.nils,V.nils,(V.int .u32 0),V.nils,(V.bool false),(V.int .u32 0),(V.int .i64 0),(V.int .i64 0),(V.int .i64 0),V.nils,(V.int .i64 0),V.nils,V.nils,(V.int .u32 0),V.nils,(V.bool false),(V.int .u32 0),(V.int .i64 0),(V.int .i64 0),(V.int .i64 0),V.nils,(V.int .i64 0),V.nils,V.nils,(V.int .u32 0),V.nils,(V.bool false),(V.int .u32 0),(V.int .i64 0),(V.int .i64 0),(V.int .i64 0),V.nils,(V.int .i64 0),V.nils,V.nils,(V.int .u32 0),V.nils,(V.bool false),(V.int .u32 0),(V.int .i64 0),(V.int .i64 0),(V.int .i64 0),V.nils,(V.int .i64 0),V.nils,V.nils,(V.int .u32 0),V.nils,(V.bool false),(V.int .u32 0),(V.int .i64 0),(V.int .i64 0),(V.int .i64 0),V.nils,(V.int .i64 0),V.nils,V.nils,(V.int .u32 0),V.nils,(V.bool false),(V.int .u32 0),(V.int .i64 0),(V.int .i64 0),(V.int .i64 0),V.nils,(V.int .i64 0),V.nils,V.nils,(V.int .u32 0),V.nils,(V.bool false),(V.int .u32 0),(V.int .i64 0),(V.int .i64 0),(V.int .i64 0),V.nils,(V.int .i64 0),V.nils,V.nils,(V.int .u32 0),V.nils,(V.bool false),(V.int .u32 0),(V.int .i64 0),(V.int .i64 0),(V.int .i64 0),V.nils,(V.int .i64 0),V.nils,V.nils,(V.int .u32 0),V.nils,(V.bool false),(V.int .u32 0),(V.int .i64 0),(V.int .i64 0),(V.int .i64 0),V.nils,(V.int .i64 0),V.nils,V.nils,(V.int .u32 0),V.nils,(V.bool false),(V.int .u32 0),(V.int .i64 0),(V.int .i64 0),(V.int .i64 0),V.nils,(V.int .i64 0),V.nils,V.nils,(V.int .u32 0),V.nils,(V.bool false),(V.int .u32 0),(V.int .i64 0),(V.int .i64 0),(V.int .i64 0),V.nils,(V.int .i64 0),V.nils,V.nils,(V.int .u32 0),V.nils,(V.bool false),(V.int .u32 0),(V.int .i64 0),(V.int .i64 0),(V.int .i64 0),V.nils,(V.int .i64 0),V.nils,V.nils,(V.int .u32 0),V.nils,(V.bool false),(V.int .u32 0),(V.int .i64 0),(V.int .i64 0),(V.int .i64 0),V.nils,(V.int .i64 0),V.nils,V.nils,(V.int .u32 0),V.nils,(V.bool false),(V.int .u32 0),(V.int .i64 0),(V.int .i64 0),(V.int .i64 0),V.nils,(V.int .i64 0),V.nils,V.nils,(V.int .u32 0),V.nils,(V.bool false),(V.int .u32 0),(V.int .i64 0),(V.int .i64 0),(V.int .i64 0),V.nils,(V.int .i64 0),V.nils,V.nils,(V.int .u32 0),V.nils,(V.bool false),(V.int .u32 0),(V.int .i64 0),(V.int .i64 0),(V.int .i64 0),V.nils,(V.int .i64 0),V.nils,V.nils,(V.int .u32 0),V.nils,(V.bool false),(V.int .u32 0),(V.int .i64 0),(V.int .i64 0),(V.int .i64 0),V.nils,(V.int .i64 0),V.nils,V.nils,(V.int .u32 0),V.nils,(V.bool false),(V.int .u32 0),(V.int .i64 0),(V.int .i64 0),(V.int .i64 0),V.nils,(V.int .i64 0),V.nils,V.nils,(V.int .u32 0),V.nils,(V.bool false),(V.int .u32 0),(V.int .i64 0),(V.int .i64 0),(V.int .i64 0),V.nils,(V.int .i64 0),V.nils,V.nils,(V.int .u32 0),V.nils,V.nilp,V.nilp,V.nilp,V.nilp,V.nilp,V.nilp,V.nilp,V.nilp,V.nilp,V.nilp,V.nilp,V.nilp,V.nilp,V.nilp,V.nilp,V.nilp,V.nilp,V.nilp,V.nilp,V.nilp,V.nilp,V.nilp,V.nilp,V.nilp,V.nilp,V.nilp,V.nilp,V.nilp,V.nilp,V.nilp,V.nilp,V.nilp,V.nilp,V.nilp,V.nilp,V.nilp,V.nilp,V.nilp,V.nilp,V.nilp,V.nilp,V.nilp,V.nilp,V.nilp,V.nilp,V.nilp,V.nilp,V.nilp,V.nilp,V.nilp,V.nilp,V.nilp,V.nilp,V.nilp,V.nilp,V.nilp,V.nilp,V.nilp,V.nilp,V.nilp,V.nilp,V.nilp,V.nilp,V.nilp,(V.bool false),(V.bool false),(V.bool false),(V.bool false),(V.bool false),(V.bool false),(V.bool false),(V.bool false),(V.int .i64 0),(V.int .i64 0),(V.int .i64 0),(V.int .i64 0),(V.int .i64 0),(V.int .i64 0),(V.int .i64 0),(V.int .i64 0),(V.int .i64 0),(V.bool false),(V.int .i64 0),(V.int .i64 0),(V.int .i64 0),(V.int .i64 0),(V.int .i64 0),(V.int .i64 0),(V.int .i64 0),(V.int .i64 0),(V.int .i64 0),(V.int .i64 0),(V.int .i64 0),(V.int .i64 0),(V.int .i64 0),(V.int .i64 0),(V.int .i64 0),(V.int .i64 0),(V.int .i64 0),(V.int .i64 0),(V.int .i64 0),(V.int .i64 0),(V.bool false),(V.bool false),(V.int .u32 0),(V.int .i64 0),(V.int .i64 0),(V.int .i64 0),V.nils,(V.int .i64 0),V.nils,V.nils,(V.int .u32 0),V.nils,(V.bool false),(V.int .u32 0),(V.int .i64 0),(V.int .i64 0),(V.int .i64 0),V.nils,(V.int .i64 0),V.nils,V.nils,(V.int .u32 0),V.nils,(V.bool false),(V.int .u32 0),(V.int .i64 0),(V.int .i64 0),(V.int .i64 0),V.nils,(V.int .i64 0),V.nils,V.nils,(V.int .u32 0),V.nils,(V.bool false),(V.int .u32 0),(V.int .i64 0),(V.int .i64 0),(V.int .i64 0),V.nils,(V.int .i64 0),V.nils,V.nils,(V.int .u32 0),V.nils,(V.bool false),(V.int .u32 0),(V.int .i64 0),(V.int .i64 0),(V.int .i64 0),V.nils,(V.int .i64 0),V.nils,V.nils,(V.int .u32 0),V.nils,(V.bool false),(V.int .u32 0),(V.int .i64 0),(V.int .i64 0),(V.int .i64 0),V.nils,(V.int .i64 0),V.nils,V.nils,(V.int .u32 0),V.nils,(V.bool false),(V.int .u32 0),(V.int .i64 0),(V.int .i64 0),(V.int .i64 0),V.nils,(V.int .i64 0),V.nils,V.nils,(V.int .u32 0),V.nils,(V.bool false),(V.int .u32 0),(V.int .i64 0),(V.int .i64 0),(V.int .i64 0),V.nils,(V.int .i64 0),V.nils,V.nils,(V.int .u32 0),V.nils,(V.bool false),(V.int .u32 0),(V.int .i64 0),(V.int .i64 0),(V.int .i64 0),V.nils,(V.int .i64 0),V.nils,V.nils,(V.int .u32 0),V.nils,(V.bool false),(V.int .u32 0),(V.int .i64 0),(V.int .i64 0),(V.int .i64 0),V.nils,(V.int .i64 0),V.nils,V.nils,(V.int .u32 0),V.nils,(V.bool false),(V.int .u32 0),(V.int .i64 0),(V.int .i64 0),(V.int .i64 0),V.nils,(V.int .i64 0),V.nils,V.nils,(V.int .u32 0),V.nils,(V.bool false),(V.int .u32 0),(V.int .i64 0),(V.int .i64 0),(V.int .i64 0),V.nils,(V.int .i64 0),V.nils,V.nils,(V.int .u32 0),V.nils,(V.bool false),(V.int .u32 0),(V.int .i64 0),(V.int .i64 0),(V.int .i64 0),V.nils,(V.int .i64 0),V.nils,V.nils,(V.int .u32 0),V.nils,(V.bool false),(V.int .u32 0),(V.int .i64 0),(V.int .i64 0),(V.int .i64 0),V.nils,(V.int .i64 0),V.nils,V.nils,(V.int .u32 0),V.nils,(V.bool false),(V.int .u32 0),(V.int .i64 0),(V.int .i64 0),(V.int .i64 0),V.nils,(V.int .i64 0),V.nils,V.nils,(V.int .u32 0),V.nils,(V.bool false),(V.int .u32 0),(V.int .i64 0),(V.int .i64 0),(V.int .i64 0),V.nils,(V.int .i64 0),V.nils,V.nils,(V.int .u32 0),V.nils,(V.bool false),(V.int .u32 0),(V.int .i64 0),(V.int .i64 0),(V.int .i64 0),V.nils,(V.int .i64 0),V.nils,V.nils,(V.int .u32 0),V.nils,(V.bool false),(V.int .u32 0),(V.int .i64 0),(V.int .i64 0),(V.int .i64 0),V.nils,(V.int .i64 0),V.nils,V.nils,(V.int .u32 0),V.nils,(V.bool false),(V.int .u32 0),(V.int .i64 0),(V.int .i64 0),(V.int .i64 0),V.nils,(V.int .i64 0),V.nils,V.nils,(V.int .u32 0),V.nils,(V.bool false),(V.int .u32 0),(V.int .i64 0),(V.int .i64 0),(V.int .i64 0),V.nils,(V.int .i64 0),V.nils,V.nils,(V.int .u32 0),V.nils,(V.bool false),(V.int .u32 0),(V.int .i64 0),(V.int .i64 0),(V.int .i64 0),V.nils,(V.int .i64 0),V.nils,V.nils,(V.int .u32 0),V.nils,(V.bool false),(V.int .u32 0),(V.int .i64 0),(V.int .i64 0),(V.int .i64 0),V.nils,(V.int .i64 0),V.nils,V.nils,(V.int .u32 0),V.nils,(V.bool false),(V.int .u32 0),(V.int .i64 0),(V.int .i64 0),(V.int .i64 0),V.nils,(V.int .i64 0),V.nils,V.nils,(V.int .u32 0),V.nils,(V.bool false),(V.int .u32 0),(V.int .i64 0),(V.int .i64 0),(V.int .i64 0),V.nils,(V.int .i64 0),V.nils,V.nils,(V.int .u32 0),V.nils,V.nilp,V.nilp,V.nilp,V.nilp,V.nilp,V.nilp,V.nilp,V.nilp,V.nilp,V.nilp,V.nilp,V.nilp,V.nilp,V.nilp,V.nilp,V.nilp,V.nilp,V.nilp,V.nilp,V.nilp,V.nilp,V.nilp,V.nilp,V.nilp,V.nilp,V.nilp,V.nilp,V.nilp,V.nilp,V.nilp,V.nilp,V.nilp,V.nilp,V.nilp,V.nilp,V.nilp,V.nilp,V.nilp,V.nilp,V.nilp,V.nilp,V.nilp,V.nilp,V.nilp,V.nilp,V.nilp,V.nilp,V.nilp,V.nilp,V.nilp,V.nilp,V.nilp,V.nilp,V.nilp,V.nilp,V.nilp,V.nilp,V.nilp,V.nilp,V.nilp,V.nilp,V.nilp,V.nilp,V.nilp,(V.bool false),(V.bool false),(V.bool false),(V.bool false),(V.bool false),(V.bool false),(V.bool false),(V.bool false),(V.int .i64 0),(V.int .i64 0),(V.int .i64 0),(V.int .i64 0),(V.int .i64 0),(V.int .i64 0),(V.int .i64 0),(V.int .i64 0),(V.int .i64 0),(V.bool false),(V.int .i64 0),(V.int .i64 0),(V.int .i64 0),(V.int .i64 0),(V.int .i64 0),(V.int .i64 0),(V.int .i64 0),(V.int .i64 0),(V.int .i64 0),(V.int .i64 0),(V.int .i64 0),(V.int .i64 0),(V.int .i64 0),(V.int .i64 0),(V.int .i64 0),(V.int .i64 0),(V.int .i64 0),(V.int .i64 0),(V.int .i64 0),(V.int .i64 0),(V.bool false),(V.bool false),(V.int .u32 0),(V.int .i64 0),(V.int .i64 0),(V.int .i64 0),V.nils,(V.int .i64 0),V.nils,V.nils,(V.int .u32 0),V.nils,(V.bool false),(V.int .u32 0),(V.int .i64 0),(V.int .i64 0),(V.int .i64 0),V.nils,(V.int .i64 0),V.nils,V.nils,(V.int .u32 0),V.nils,(V.bool false),(V.int .u32 0),(V.int .i64 0),(V.int .i64 0),(V.int .i64 0),V.nils,(V.int .i64 0),V.nils,V.nils,(V.int .u32 0),V.nils,(V.bool false),(V.int .u32 0),(V.int .i64 0),(V.int .i64 0),(V.int .i64 0),V.nils,(V.int .i64 0),V.nils,V.nils,(V.int .u32 0),V.nils,(V.bool false),(V.int .u32 0),(V.int .i64 0),(V.int .i64 0),(V.int .i64 0),V.nils,(V.int .i64 0),V.nils,V.nils,(V.int .u32 0),V.nils,(V.bool false),(V.int .u32 0),(V.int .i64 0),(V.int .i64 0),(V.int .i64 0),V.nils,(V.int .i64 0),V.nils,V.nils,(V.int .u32 0),V.nils,(V.bool false),(V.int .u32 0),(V.int .i64 0),(V.int .i64 0),(V.int .i64 0),V.nils,(V.int .i64 0),V.nils,V.nils,(V.int .u32 0),V.nils,(V.bool false),(V.int .u32 0),(V.int .i64 0),(V.int .i64 0),(V.int .i64 0),V.nils,(V.int .i64 0),V.nils,V.nils,(V.int .u32 0),V.nils,(V.bool false),(V.int .u32 0),(V.int .i64 0),(V.int .i64 0),(V.int .i64 0),V.nils,(V.int .i64 0),V.nils,V.nils,(V.int .u32 0),V.nils,(V.bool false),(V.int .u32 0),(V.int .i64 0),(V.int .i64 0),(V.int .i64 0),V.nils,(V.int .i64 0),V.nils,V.nils,(V.int .u32 0),V.nils,(V.bool false),(V.int .u32 0),(V.int .i64 0),(V.int .i64 0),(V.int .i64 0),V.nils,(V.int .i64 0),V.nils,V.nils,(V.int .u32 0),V.nils,(V.bool false),(V.int .u32 0),(V.int .i64 0),(V.int .i64 0),(V.int .i64 0),V.nils,(V.int .i64 0),V.nils,V.nils,(V.int .u32 0),V.nils,(V.bool false),(V.int .u32 0),(V.int .i64 0),(V.int .i64 0),(V.int .i64 0),V.nils,(V.int .i64 0),V.nils,V.nils,(V.int .u32 0),V.nils,(V.bool false),(V.int .u32 0),(V.int .i64 0),(V.int .i64 0),(V.int .i64 0),V.nils,(V.int .i64 0),V.nils,V.nils,(V.int .u32 0),V.nils,(V.bool false),(V.int .u32 0),(V.int .i64 0),(V.int .i64 0),(V.int .i64 0),V.nils,(V.int .i64 0),V.nils,V.nils,(V.int .u32 0),V.nils,(V.bool false),(V.int .u32 0),(V.int .i64 0),(V.int .i64 0),(V.int .i64 0),V.nils,(V.int .i64 0),V.nils,V.nils,(V.int .u32 0),V.nils,(V.bool false),(V.int .u32 0),(V.int .i64 0),(V.int .i64 0),(V.int .i64 0),V.nils,(V.int .i64 0),V.nils,V.nils,(V.int .u32 0),V.nils,(V.bool false),(V.int .u32 0),(V.int .i64 0),(V.int .i64 0),(V.int .i64 0),V.nils,(V.int .i64 0),V.nils,V.nils,(V.int .u32 0),V.nils,(V.bool false),(V.int .u32 0),(V.int .i64 0),(V.int .i64 0),(V.int .i64 0),V.nils,(V.int .i64 0),V.nils,V.nils,(V.int .u32 0),V.nils,(V.bool false),(V.int .u32 0),(V.int .i64 0),(V.int .i64 0),(V.int .i64 0),V.nils,(V.int .i64 0),V.nils,V.nils,(V.int .u32 0),V.nils,(V.bool false),(V.int .u32 0),(V.int .i64 0),(V.int .i64 0),(V.int .i64 0),V.nils,(V.int .i64 0),V.nils,V.nils,(V.int .u32 0),V.nils,(V.bool false),(V.int .u32 0),(V.int .i64 0),(V.int .i64 0),(V.int .i64 0),V.nils,(V.int .i64 0),V.nils,V.nils,(V.int .u32 0),V.nils,(V.bool false),(V.int .u32 0),(V.int .i64 0),(V.int .i64 0),(V.int .i64 0),V.nils,(V.int .i64 0),V.nils,V.nils,(V.int .u32 0),V.nils,(V.bool false),(V.int .u32 0),(V.int .i64 0),(V.int .i64 0),(V.int .i64 0),V.nils,(V.int .i64 0),V.nils,V.nils,(V.int .u32 0),V.nils,V.nilp,V.nilp,V.nilp,V.nilp,V.nilp,V.nilp,V.nilp,V.nilp,V.nilp,V.nilp,V.nilp,V.nilp,V.nilp,V.nilp,V.nilp,V.nilp,V.nilp,V.nilp,V.nilp,V.nilp,V.nilp,V.nilp,V.nilp,V.nilp,V.nilp,V.nilp,V.nilp,V.nilp,V.nilp,V.nilp,V.nilp,V.nilp,V.nilp,V.nilp,V.nilp,V.nilp,V.nilp,V.nilp,V.nilp,V.nilp,V.nilp,V.nilp,V.nilp,V.nilp,V.nilp,V.nilp,V.nilp,V.nilp,V.nilp,V.nilp,V.nilp,V.nilp,V.nilp,V.nilp,V.nilp,V.nilp,V.nilp,V.nilp,V.nilp,V.nilp,V.nilp,V.nilp,V.nilp,V.nilp,(V.bool false),(V.bool false),(V.bool false),(V.bool false),(V.bool false),(V.bool false),(V.bool false),(V.bool false),(V.int .i64 0),(V.int .i64 0),(V.int .i64 0),(V.int .i64 0),(V.int .i64 0),(V.int .i64 0),(V.int .i64 0),(V.int .i64 0),(V.int .i64 0),(V.bool false),(V.int .i64 0),(V.int .i64 0),(V.int .i64 0),(V.int .i64 0),(V.int .i64 0),(V.int .i64 0),(V.int .i64 0),(V.int .i64 0),(V.int .i64 0),(V.int .i64 0),(V.int .i64 0),(V.int .i64 0),(V.int .i64 0),(V.int .i64 0),(V.int .i64 0),(V.int .i64 0),(V.int .i64 0),(V.int .i64 0),(V.int .i64 0),(V.int .i64 0),(V.bool false),(V.bool false),(V.int .u32 0),(V.int .i64 0),(V.int .i64 0),(V.int .i64 0),V.nils,(V.int .i64 0),V.nils,V.nils,(V.int .u32 0),V.nils,(V.bool false),(V.int .u32 0),(V.int .i64 0),(V.int .i64 0),(V.int .i64 0),V.nils,(V.int .i64 0),V.nils,V.nils,(V.int .u32 0),V.nils,(V.bool false),(V.int .u32 0),(V.int .i64 0),(V.int .i64 0),(V.int .i64 0),V.nils,(V.int .i64 0),V.nils,V.nils,(V.int .u32 0),V.nils,(V.bool false),(V.int .u32 0),(V.int .i64 0),(V.int .i64 0),(V.int .i64 0),V.nils,(V.int .i64 0),V.nils,V.nils,(V.int .u32 0),V.nils,(V.bool false),(V.int .u32 0),(V.int .i64 0),(V.int .i64 0),(V.int .i64 0),V.nils,(V.int .i64 0),V.nils,V.nils,(V.int .u32 0),V.nils,(V.bool false),(V.int .u32 0),(V.int .i64 0),(V.int .i64 0),(V.int .i64 0),V.nils,(V.int .i64 0),V.nils,V.nils,(V.int .u32 0),V.nils,(V.bool false),(V.int .u32 0),(V.int .i64 0),(V.int .i64 0),(V.int .i64 0),V.nils,(V.int .i64 0),V.nils,V.nils,(V.int .u32 0),V.nils,(V.bool false),(V.int .u32 0),(V.int .i64 0),(V.int .i64 0),(V.int .i64 0),V.nils,(V.int .i64 0),V.nils,V.nils,(V.int .u32 0),V.nils,(V.bool false),(V.int .u32 0),(V.int .i64 0),(V.int .i64 0),(V.int .i64 0),V.nils,(V.int .i64 0),V.nils,V.nils,(V.int .u32 0),V.nils,(V.bool false),(V.int .u32 0),(V.int .i64 0),(V.int .i64 0),(V.int .i64 0),V.nils,(V.int .i64 0),V.nils,V.nils,(V.int .u32 0),V.nils,(V.bool false),(V.int .u32 0),(V.int .i64 0),(V.int .i64 0),(V.int .i64 0),V.nils,(V.int .i64 0),V.nils,V.nils,(V.int .u32 0),V.nils,(V.bool false),(V.int .u32 0),(V.int .i64 0),(V.int .i64 0),(V.int .i64 0),V.nils,(V.int .i64 0),V.nils,V.nils,(V.int .u32 0),V.nils,(V.bool false),(V.int .u32 0),(V.int .i64 0),(V.int .i64 0),(V.int .i64 0),V.nils,(V.int .i64 0),V.nils,V.nils,(V.int .u32 0),V.nils,(V.bool false),(V.int .u32 0),(V.int .i64 0),(V.int .i64 0),(V.int .i64 0),V.nils,(V.int .i64 0),V.nils,V.nils,(V.int .u32 0),V.nils,(V.bool false),(V.int .u32 0),(V.int .i64 0),(V.int .i64 0),(V.int .i64 0),V.nils,(V.int .i64 0),V.nils,V.nils,(V.int .u32 0),V.nils,(V.bool false),(V.int .u32 0),(V.int .i64 0),(V.int .i64 0),(V.int .i64 0),V.nils,(V.int .i64 0),V.nils,V.nils,(V.int .u32 0),V.nils,(V.bool false),(V.int .u32 0),(V.int .i64 0),(V.int .i64 0),(V.int .i64 0),V.nils,(V.int .i64 0),V.nils,V.nils,(V.int .u32 0),V.nils,(V.bool false),(V.int .u32 0),(V.int .i64 0),(V.int .i64 0),(V.int .i64 0),V.nils,(V.int .i64 0),V.nils,V.nils,(V.int .u32 0),V.nils,(V.bool false),(V.int .u32 0),(V.int .i64 0),(V.int .i64 0),(V.int .i64 0),V.nils,(V.int .i64 0),V.nils,V.nils,(V.int .u32 0),V.nils,(V.bool false),(V.int .u32 0),(V.int .i64 0),(V.int .i64 0),(V.int .i64 0),V.nils,(V.int .i64 0),V.nils,V.nils,(V.int .u32 0),V.nils,(V.bool false),(V.int .u32 0),(V.int .i64 0),(V.int .i64 0),(V.int .i64 0),V.nils,(V.int .i64 0),V.nils,V.nils,(V.int .u32 0),V.nils,(V.bool false),(V.int .u32 0),(V.int .i64 0),(V.int .i64 0),(V.int .i64 0),V.nils,(V.int .i64 0),V.nils,V.nils,(V.int .u32 0),V.nils,(V.bool false),(V.int .u32 0),(V.int .i64 0),(V.int .i64 0),(V.int .i64 0),V.nils,(V.int .i64 0),V.nils,V.nils,(V.int .u32 0),V.nils,(V.bool false),(V.int .u32 0),(V.int .i64 0),(V.int .i64 0),(V.int .i64 0),V.nils,(V.int .i64 0),V.nils,V.nils,(V.int .u32 0),V.nils,V.nilp,V.nilp,V.nilp,V.nilp,V.nilp,V.nilp,V.nilp,V.nilp,V.nilp,V.nilp,V.nilp,V.nilp,V.nilp,V.nilp,V.nilp,V.nilp,V.nilp,V.nilp,V.nilp,V.nilp,V.nilp,V.nilp,V.nilp,V.nilp,V.nilp,V.nilp,V.nilp,V.nilp,V.nilp,V.nilp,V.nilp,V.nilp,V.nilp,V.nilp,V.nilp,V.nilp,V.nilp,V.nilp,V.nilp,V.nilp,V.nilp,V.nilp,V.nilp,V.nilp,V.nilp,V.nilp,V.nilp,V.nilp,V.nilp,V.nilp,V.nilp,V.nilp,V.nilp,V.nilp,V.nilp,V.nilp,V.nilp,V.nilp,V.nilp,V.nilp,V.nilp,V.nilp,V.nilp,V.nilp,(V.int .i64 0),V.nils,V.nilp,V.nilp,V.nilp,V.nilp,V.nilp,V.nilp,V.nilp,V.nilp,V.nilp,V.nilp,V.nilp,V.nilp,V.nilp,V.nilp,V.nilp,V.nilp,V.nilp,V.nilp,V.nilp,V.nilp,V.nilp,V.nilp,V.nilp,V.nilp,V.nilp,V.nilp,V.nilp,V.nilp,V.nilp,V.nilp,V.nilp,V.nilp,V.nilp,V.nilp,V.nilp,V.nilp,V.nilp,V.nilp,V.nilp,V.nilp,V.nilp,V.nilp,V.nilp,V.nilp,V.nilp,V.nilp,V.nilp,V.nilp,V.nilp,V.nilp,V.nilp,V.nilp,V.nilp,V.nilp,V.nilp,V.nilp,V.nilp,V.nilp,V.nilp,V.nilp,V.nilp,V.nilp,V.nilp,V.nilp,V.nilp] [(1534,1,t3)])).bind fun t4 =>
 (mbox ziA t4).bind fun t5 =>
 M.blk 0 (
 M.iter (zm4 G t5 V.nilp) [(V.int .i64 0)]) fun _ =>
 M.pure (.ret [t5])
def zgI:Fn':=(T zcc).getD noF
theorem znn:T zcc = some zgI:=by kernel_rfl
theorem zn2 (G:Sem'):execK G zgI.rv zgI.body [] [] (params 0 []) = zk6 G:=by kernel_rfl
def zix (G:Sem'):List V → M V
 | []=>fin (zk6 G)
 | _=>M.fail
theorem zpf {g:Sem'} (hg:Sims g (sem T)) (args:List V):Sim (zix g args) (sem T zcc args):=by
 unfold zix;split
 ·exact zaO znn (Nat.le_of_ble_eq_true (by kernel_rfl)) hg (zn2 g)
 ·exact zac
def zdh (G:Sem'):M Res :=
 (G zcc []).bind fun t9 =>
 (M.lift (eqr .ptr false t9 V.nilp)).bind fun t11 =>
 M.ite t11
 (M.pure (.ret [(V.bool false)]))
 ((mslit zaB 1 [(V.int .u8 0)] [(0,1,(V.int .u8 120))]).bind fun t14 =>
 (mremark zaB t14).bind fun t15 =>
 (M.lift (Ax.build [(V.int .i64 0),(V.int .i64 0),(V.int .i64 0),V.nils] [(0,1,(V.int .i64 1)),(1,1,(V.int .i64 5)),(3,1,t15)])).bind fun t16 =>
 (G zap [t9,t16]).bind fun t17 =>
 (M.lift (Ax.ext 0 t17)).bind fun t18 =>
 (M.lift (Ax.ext 1 t17)).bind fun t19 =>
 (G zbC [t9,(V.int .i64 2)]).bind fun t21 =>
 (M.lift (Ax.build [(V.int .i64 0),(V.int .i64 0),(V.int .i64 0),(V.int .i64 0),(V.int .i64 0),(V.int .i64 0),V.nils] [(0,1,(V.int .i64 1))])).bind fun t24 =>
 (G zaA [t24]).bind fun t25 =>
 (M.lift (Ax.build [(V.int .i64 0),(V.int .i64 0),(V.int .i64 0),V.nils] [(0,1,(V.int .i64 2)),(1,1,(V.int .i64 5)),(3,1,t25)])).bind fun t26 =>
 (G zap [t9,t26]).bind fun t27 =>
 (M.lift (Ax.ext 0 t27)).bind fun t28 =>
 (M.lift (Ax.ext 1 t27)).bind fun t29 =>
 (G zaX [t9,(V.int .i64 0)]).bind fun t32 =>
 (M.lift (Ax.ext 0 t32)).bind fun t33 =>
 (M.lift (Ax.ext 1 t32)).bind fun t34 =>
 (mbox zad (V.agg [(V.bool false),(V.bool false),(V.bool false),(V.bool false),(V.bool false),(V.bool false),(V.bool false),(V.bool false),(V.int .i64 0),(V.int .i64 0),(V.int .i64 0),(V.int .i64 0),(V.int .i64 0),(V.int .i64 0),(V.int .i64 0),(V.int .i64 0),(V.int .i64 0),(V.bool false),(V.int .i64 0),(V.int .i64 0),(V.int .i64 0),(V.int .i64 0),(V.int .i64 0),(V.int .i64 0),(V.int .i64 0),(V.int .i64 0),(V.int .i64 0),(V.int .i64 0),(V.int .i64 0),(V.int .i64 0),(V.int .i64 0),(V.int .i64 0),(V.int .i64 0),(V.int .i64 0),(V.int .i64 0),(V.int .i64 0),(V.int .i64 0),(V.int .i64 0),(V.bool false)])).bind fun t7 =>
 (mstore 39 t7 t33).bind fun _ =>
 (M.lift (Ax.bin .eql t19 (V.int .i64 0))).bind fun t36 =>
 (guarded [(0,t36)] (some (0,true)) (M.pure t21)).bind fun t38 =>
 (guarded [(0,t36)] (some (0,true)) (M.lift (Ax.bin .eql t38 (V.int .i64 1)))).bind fun t39 =>
 (M.lift (Ax.pick t36 t39 (V.bool false))).bind fun t40 =>
 (guarded [(0,t40)] (some (0,true)) (M.pure t29)).bind fun t42 =>
 (guarded [(0,t40)] (some (0,true)) (M.lift (Ax.bin .eql t42 (V.int .i64 0)))).bind fun t43 =>
 (M.lift (Ax.pick t40 t43 (V.bool false))).bind fun t44 =>
 (guarded [(0,t44)] (some (0,true)) (M.pure t9)).bind fun t46 =>
 (guarded [(0,t44)] (some (0,true)) (G zbB [t46,(V.int .i64 5)])).bind fun t47 =>
 (guarded [(0,t44)] (some (0,true)) (M.lift (Ax.bin .eql t47 (V.int .i64 1)))).bind fun t48 =>
 (M.lift (Ax.pick t44 t48 (V.bool false))).bind fun t49 =>
 (guarded [(0,t49)] (some (0,true)) (M.pure t34)).bind fun t51 =>
 (M.lift (Ax.pick t49 t51 (V.bool false))).bind fun t52 =>
 (guarded [(0,t52)] (some (0,true)) (M.lift (Ax.faddr 0 t7))).bind fun t54 =>
 (guarded [(0,t52)] (some (0,true)) (M.lift (Ax.faddr 0 t54))).bind fun t55 =>
 (guarded [(0,t52)] (some (0,true)) (M.lift (Ax.iaddr (some 8) 1 t55 (V.int .i64 0)))).bind fun t56 =>
 (guarded [(0,t52)] (some (0,true)) (mload none t56)).bind fun t57 =>
 (M.lift (Ax.pick t52 t57 (V.bool false))).bind fun t58 =>
 (guarded [(0,t58)] (some (0,true)) (M.lift (Ax.faddr 0 t7))).bind fun t60 =>
 (guarded [(0,t58)] (some (0,true)) (M.lift (Ax.faddr 8 t60))).bind fun t61 =>
 (guarded [(0,t58)] (some (0,true)) (M.lift (Ax.iaddr (some 8) 1 t61 (V.int .i64 0)))).bind fun t62 =>
 (guarded [(0,t58)] (some (0,true)) (mload none t62)).bind fun t63 =>
 (guarded [(0,t58)] (some (0,true)) (M.lift (Ax.bin .eql t63 (V.int .i64 5)))).bind fun t64 =>
 (M.lift (Ax.pick t58 t64 (V.bool false))).bind fun t65 =>
 M.pure (.ret [t65]))
def zca:Fn':=(T zaU).getD noF
theorem zeW:T zaU = some zca:=by kernel_rfl
theorem zfd (G:Sem'):execK G zca.rv zca.body [] [] (params 0 []) = zdh G:=by kernel_rfl
def zco (G:Sem'):List V → M V
 | []=>fin (zdh G)
 | _=>M.fail
theorem zfx {g:Sem'} (hg:Sims g (sem T)) (args:List V):Sim (zco g args) (sem T zaU args):=by
 unfold zco;split
 ·exact zaO zeW (Nat.le_of_ble_eq_true (by kernel_rfl)) hg (zfd g)
 ·exact zac
def zdg (G:Sem') (t0 t1 t2:V):M Res :=
 (M.lift (Ax.build [(V.int .i64 0),(V.int .i64 0),(V.int .i64 0),(V.int .i64 0),(V.int .i64 0),(V.int .i64 0),V.nils] [(0,1,(V.int .i64 1)),(1,1,t2)])).bind fun t15 =>
 (G zaA [t15]).bind fun t16 =>
 (M.lift (Ax.build [(V.int .i64 0),(V.int .i64 0),(V.int .i64 0),V.nils] [(0,1,(V.int .i64 2)),(1,1,t1),(3,1,t16)])).bind fun t17 =>
 (G zap [t0,t17]).bind fun t18 =>
 (M.lift (Ax.build [(V.int .i64 0),(V.int .i64 0),(V.int .i64 0),V.nils] [(0,1,(V.int .i64 5)),(1,1,t1),(2,1,(V.int .i64 32))])).bind fun t22 =>
 (G zap [t0,t22]).bind fun t23 =>
 (M.lift (Ax.ext 0 t23)).bind fun t24 =>
 (M.lift (Ax.ext 1 t23)).bind fun t25 =>
 (M.lift (Ax.bin .neq t25 (V.int .i64 0))).bind fun t27 =>
 (guarded [(0,t27)] (some (0,false)) (M.pure t24)).bind fun t29 =>
 (guarded [(0,t27)] (some (0,false)) (M.lift (vlen t29))).bind fun t30 =>
 (guarded [(0,t27)] (some (0,false)) (M.lift (Ax.bin .eql t30 (V.int .i64 0)))).bind fun t31 =>
 (M.lift (Ax.pick t27 (V.bool true) t31)).bind fun t32 =>
 M.ite t32
 (M.pure (.ret [(V.int .i64 0),(V.bool false)]))
 ((M.lift (vlen t24)).bind fun t36 =>
 (M.lift (Ax.bin .sub t36 (V.int .i64 1))).bind fun t37 =>
 (M.lift (Ax.iaddr none 3 t24 t37)).bind fun t38 =>
 (M.lift (Ax.faddr 2 t38)).bind fun t39 =>
 (mload none t39).bind fun t40 =>
 (G zay [t40]).bind fun t41 =>
 (M.lift (Ax.ext 0 t41)).bind fun t42 =>
 (M.lift (Ax.ext 1 t41)).bind fun t43 =>
 (mbox zab (V.agg [(V.int .i64 0),(V.int .i64 0),(V.int .i64 0),(V.int .i64 0),(V.int .i64 0),(V.int .i64 0),V.nils])).bind fun t10 =>
 (mstore 7 t10 t42).bind fun _ =>
 (M.lift (Ax.faddr 2 t10)).bind fun t44 =>
 (mload none t44).bind fun t45 =>
 (M.lift (Ax.bin .eql t43 (V.int .i64 0))).bind fun t47 =>
 (guarded [(0,t47)] (some (0,true)) (M.lift (Ax.faddr 0 t10))).bind fun t49 =>
 (guarded [(0,t47)] (some (0,true)) (mload none t49)).bind fun t50 =>
 (guarded [(0,t47)] (some (0,true)) (M.lift (Ax.bin .eql t50 (V.int .i64 17)))).bind fun t51 =>
 (M.lift (Ax.pick t47 t51 (V.bool false))).bind fun t52 =>
 (guarded [(0,t52)] (some (0,true)) (M.lift (Ax.faddr 1 t10))).bind fun t54 =>
 (guarded [(0,t52)] (some (0,true)) (mload none t54)).bind fun t55 =>
 (guarded [(0,t52)] (some (0,true)) (M.pure t2)).bind fun t56 =>
 (guarded [(0,t52)] (some (0,true)) (M.lift (Ax.bin .eql t55 t56))).bind fun t57 =>
 (M.lift (Ax.pick t52 t57 (V.bool false))).bind fun t58 =>
 M.pure (.ret [t45,t58]))
def zb9:Fn':=(T zaH).getD noF
theorem zeV:T zaH = some zb9:=by kernel_rfl
theorem zfc (G:Sem') (t0 t1 t2:V):execK G zb9.rv zb9.body [] [] (params 0 [t0,t1,t2]) = zdg G t0 t1 t2:=by kernel_rfl
def zcn (G:Sem'):List V → M V
 | [t0,t1,t2]=>fin (zdg G t0 t1 t2)
 | _=>M.fail
theorem zfw {g:Sem'} (hg:Sims g (sem T)) (args:List V):Sim (zcn g args) (sem T zaH args):=by
 unfold zcn;split
 ·exact zaO zeV (Nat.le_of_ble_eq_true (by kernel_rfl)) hg (zfc g _ _ _)
 ·exact zac
def f_desk_Desk_Room (G:Sem') (t0 t1:V):M Res :=
 (mbox zad (V.agg [(V.bool false),(V.bool false),(V.bool false),(V.bool false),(V.bool false),(V.bool false),(V.bool false),(V.bool false),(V.int .i64 0),(V.int .i64 0),(V.int .i64 0),(V.int .i64 0),(V.int .i64 0),(V.int .i64 0),(V.int .i64 0),(V.int .i64 0),(V.int .i64 0),(V.bool false),(V.int .i64 0),(V.int .i64 0),(V.int .i64 0),(V.int .i64 0),(V.int .i64 0),(V.int .i64 0),(V.int .i64 0),(V.int .i64 0),(V.int .i64 0),(V.int .i64 0),(V.int .i64 0),(V.int .i64 0),(V.int .i64 0),(V.int .i64 0),(V.int .i64 0),(V.int .i64 0),(V.int .i64 0),(V.int .i64 0),(V.int .i64 0),(V.int .i64 0),(V.bool false)])).bind fun t4 =>
 (M.lift (Ax.bin .lss t1 (V.int .i64 0))).bind fun t7 =>
 (guarded [(0,t7)] (some (0,false)) (M.pure t1)).bind fun t9 =>
 (guarded [(0,t7)] (some (0,false)) (M.lift (Ax.bin .geq t9 (V.int .i64 4)))).bind fun t10 =>
 (M.lift (Ax.pick t7 (V.bool true) t10)).bind fun t11 =>
 M.ite t11
 ((M.lift (Ax.build [(V.bool false),(V.bool false),(V.bool false),(V.bool false),(V.bool false),(V.bool false),(V.bool false),(V.bool false),(V.int .i64 0),(V.int .i64 0),(V.int .i64 0),(V.int .i64 0),(V.int .i64 0),(V.int .i64 0),(V.int .i64 0),(V.int .i64 0),(V.int .i64 0),(V.bool false),(V.int .i64 0),(V.int .i64 0),(V.int .i64 0),(V.int .i64 0),(V.int .i64 0),(V.int .i64 0),(V.int .i64 0),(V.int .i64 0),(V.int .i64 0),(V.int .i64 0),(V.int .i64 0),(V.int .i64 0),(V.int .i64 0),(V.int .i64 0),(V.int .i64 0),(V.int .i64 0),(V.int .i64 0),(V.int .i64 0),(V.int .i64 0),(V.int .i64 0),(V.bool false)] [])).bind fun t12 =>
 (mstore 39 t4 t12).bind fun _ =>
 (mload (some 39) t4).bind fun r0 =>
 M.pure (.ret [r0,(V.bool false)]))
 ((M.lift (Ax.nilck t0)).bind fun t15 =>
 (M.lift (Ax.faddr 0 t15)).bind fun t16 =>
 (M.lift (Ax.iaddr (some 4) 367 t16 t1)).bind fun t17 =>
 (M.lift (Ax.faddr 0 t17)).bind fun t18 =>
 (mload (some 39) t18).bind fun t19 =>
 (mstore 39 t4 t19).bind fun _ =>
 (mload (some 39) t4).bind fun r0 =>
 M.pure (.ret [r0,(V.bool true)]))
def ir_desk_Desk_Room:Fn':=(T zaX).getD noF
theorem tb_desk_Desk_Room:T zaX = some ir_desk_Desk_Room:=by kernel_rfl
theorem eq_desk_Desk_Room (G:Sem') (t0 t1:V):execK G ir_desk_Desk_Room.rv ir_desk_Desk_Room.body [] [] (params 0 [t0,t1]) = f_desk_Desk_Room G t0 t1:=by kernel_rfl
def zdN (G:Sem'):List V → M V
 | [t0,t1]=>fin (f_desk_Desk_Room G t0 t1)
 | _=>M.fail
theorem ziX {g:Sem'} (hg:Sims g (sem T)) (args:List V):Sim (zdN g args) (sem T zaX args):=by
 unfold zdN;split
 ·exact zaO tb_desk_Desk_Room (Nat.le_of_ble_eq_true (by kernel_rfl)) hg (eq_desk_Desk_Room g _ _)
 ·exact zac
def f_desk_Desk_Do (G:Sem') (t0 t1:V):M Res :=
 (mbox zbo t1).bind fun t3 =>
 (M.lift (Ax.faddr 0 t3)).bind fun t6 =>
 (mload none t6).bind fun t7 =>
 (M.lift (Ax.bin .lss t7 (V.int .i64 1))).bind fun t8 =>
 (guarded [(0,t8)] (some (0,false)) (M.lift (Ax.faddr 0 t3))).bind fun t10 =>
 (guarded [(0,t8)] (some (0,false)) (mload none t10)).bind fun t11 =>
 (guarded [(0,t8)] (some (0,false)) (M.lift (Ax.bin .gtr t11 (V.int .i64 5)))).bind fun t12 =>
 (M.lift (Ax.pick t8 (V.bool true) t12)).bind fun t13 =>
 (guarded [(0,t13)] (some (0,false)) (M.lift (Ax.faddr 0 t3))).bind fun t15 =>
 (guarded [(0,t13)] (some (0,false)) (mload none t15)).bind fun t16 =>
 (guarded [(0,t13)] (some (0,false)) (M.lift (Ax.bin .neq t16 (V.int .i64 3)))).bind fun t17 =>
 (guarded [(0,t13)] (some (0,false)) (M.pure t17)).bind fun t18 =>
 (guarded [(0,t18)] (some (0,true)) (M.lift (Ax.faddr 0 t3))).bind fun t19 =>
 (guarded [(0,t18)] (some (0,true)) (mload none t19)).bind fun t20 =>
 (guarded [(0,t18)] (some (0,true)) (M.lift (Ax.bin .neq t20 (V.int .i64 4)))).bind fun t21 =>
 (guarded [(0,t13)] (some (0,false)) (M.lift (Ax.pick t18 t21 (V.bool false)))).bind fun t22 =>
 (guarded [(0,t13)] (some (0,false)) (M.pure t22)).bind fun t23 =>
 (guarded [(0,t23)] (some (0,true)) (M.lift (Ax.faddr 1 t3))).bind fun t24 =>
 (guarded [(0,t23)] (some (0,true)) (mload none t24)).bind fun t25 =>
 (guarded [(0,t23)] (some (0,true)) (G zbu [t25])).bind fun t26 =>
 (guarded [(0,t23)] (some (0,true)) (M.lift (Ax.un .not t26))).bind fun t27 =>
 (guarded [(0,t13)] (some (0,false)) (M.lift (Ax.pick t23 t27 (V.bool false)))).bind fun t28 =>
 (M.lift (Ax.pick t13 (V.bool true) t28)).bind fun t29 =>
 M.ite t29
 (M.pure (.ret [V.nils,(V.int .i64 1)]))
 ((M.lift (Ax.faddr 0 t3)).bind fun t30 =>
 (mload none t30).bind fun t31 =>
 M.blk 0 (
 (M.lift (Ax.bin .eql t31 (V.int .i64 1))).bind fun t47 =>
 M.join (M.ite t47
 ((M.lift (Ax.faddr 1 t3)).bind fun t49 =>
 (mload none t49).bind fun t50 =>
 (M.lift (Ax.faddr 3 t3)).bind fun t51 =>
 (mload none t51).bind fun t52 =>
 (G zbc [t0,t50,t52]).bind fun t53 =>
 M.pure (.nrm []))
 ((M.lift (Ax.bin .eql t31 (V.int .i64 2))).bind fun t55 =>
 M.join (M.ite t55
 ((M.lift (Ax.faddr 1 t3)).bind fun t57 =>
 (mload none t57).bind fun t58 =>
 (M.lift (Ax.faddr 3 t3)).bind fun t59 =>
 (mload none t59).bind fun t60 =>
 (G zaQ [t0,t58,t60]).bind fun t61 =>
 M.pure (.nrm []))
 ((M.lift (Ax.bin .eql t31 (V.int .i64 3))).bind fun t63 =>
 M.join (M.ite t63
 ((M.lift (Ax.faddr 2 t3)).bind fun t64 =>
 (mload none t64).bind fun t65 =>
 (M.lift (Ax.bin .lss t65 (V.int .i64 0))).bind fun t66 =>
 (guarded [(0,t66)] (some (0,false)) (M.lift (Ax.faddr 2 t3))).bind fun t68 =>
 (guarded [(0,t66)] (some (0,false)) (mload none t68)).bind fun t69 =>
 (guarded [(0,t66)] (some (0,false)) (M.lift (Ax.bin .gtr t69 (V.int .i64 100000)))).bind fun t70 =>
 (M.lift (Ax.pick t66 (V.bool true) t70)).bind fun t71 =>
 M.ite t71
 (M.pure (.ret [V.nils,(V.int .i64 1)]))
 ((M.lift (Ax.faddr 2 t3)).bind fun t73 =>
 (mload none t73).bind fun t74 =>
 (G zaP [t0,t74]).bind fun t75 =>
 M.pure (.nrm [])))
 ((M.lift (Ax.bin .eql t31 (V.int .i64 4))).bind fun t77 =>
 M.ite t77
 ((M.lift (Ax.faddr 2 t3)).bind fun t78 =>
 (mload none t78).bind fun t79 =>
 (M.lift (Ax.bin .lss t79 (V.int .i64 0))).bind fun t80 =>
 (guarded [(0,t80)] (some (0,false)) (M.lift (Ax.faddr 2 t3))).bind fun t82 =>
 (guarded [(0,t80)] (some (0,false)) (mload none t82)).bind fun t83 =>
 (guarded [(0,t80)] (some (0,false)) (M.lift (Ax.bin .gtr t83 (V.int .i64 4294967295)))).bind fun t84 =>
 (M.lift (Ax.pick t80 (V.bool true) t84)).bind fun t85 =>
 M.ite t85
 (M.pure (.ret [V.nils,(V.int .i64 1)]))
 ((M.lift (Ax.nilck t0)).bind fun t87 =>
 (M.lift (Ax.faddr 1469 t87)).bind fun t88 =>
 (mload none t88).bind fun t89 =>
 (M.lift (vlen t89)).bind fun t90 =>
 (M.lift (Ax.bin .geq t90 (V.int .i64 16))).bind fun t91 =>
 M.ite t91
 (M.pure (.ret [V.nils,(V.int .i64 5)]))
 ((M.lift (Ax.nilck t0)).bind fun t94 =>
 (M.lift (Ax.faddr 1469 t94)).bind fun t95 =>
 (mload none t95).bind fun t96 =>
 (M.lift (Ax.faddr 2 t3)).bind fun t97 =>
 (mload none t97).bind fun t98 =>
 (M.lift (Ax.cint .u32 t98)).bind fun t99 =>
 (mslit zg6 1 [(V.int .u32 0)] [(0,1,t99)]).bind fun t100 =>
 (mappend zg6 1 4 t96 t100).bind fun t101 =>
 (M.lift (Ax.nilck t0)).bind fun t102 =>
 (M.lift (Ax.faddr 1469 t102)).bind fun t103 =>
 (mstore 1 t103 t101).bind fun _ =>
 M.pure (.nrm []))))
 ((M.lift (Ax.faddr 2 t3)).bind fun t32 =>
 (mload none t32).bind fun t33 =>
 (M.lift (Ax.bin .lss t33 (V.int .i64 0))).bind fun t34 =>
 (guarded [(0,t34)] (some (0,false)) (M.lift (Ax.faddr 2 t3))).bind fun t36 =>
 (guarded [(0,t34)] (some (0,false)) (mload none t36)).bind fun t37 =>
 (guarded [(0,t34)] (some (0,false)) (M.lift (Ax.bin .gtr t37 (V.int .i64 32)))).bind fun t38 =>
 (M.lift (Ax.pick t34 (V.bool true) t38)).bind fun t39 =>
 M.ite t39
 (M.pure (.ret [V.nils,(V.int .i64 1)]))
 ((M.lift (Ax.faddr 1 t3)).bind fun t41 =>
 (mload none t41).bind fun t42 =>
 (M.lift (Ax.faddr 2 t3)).bind fun t43 =>
 (mload none t43).bind fun t44 =>
 (G zaL [t0,t42,t44]).bind fun t45 =>
 M.pure (.ret [t45,(V.int .i64 0)]))))) fun _ =>
 M.pure (.nrm []))) fun _ =>
 M.pure (.nrm []))) fun _ =>
 M.pure (.nrm [])) fun _ =>
 M.pure (.ret [V.nils,(V.int .i64 0)]))
def ir_desk_Desk_Do:Fn':=(T zap).getD noF
theorem tb_desk_Desk_Do:T zap = some ir_desk_Desk_Do:=by kernel_rfl
theorem eq_desk_Desk_Do (G:Sem') (t0 t1:V):execK G ir_desk_Desk_Do.rv ir_desk_Desk_Do.body [] [] (params 0 [t0,t1]) = f_desk_Desk_Do G t0 t1:=by kernel_rfl
def zeB (G:Sem'):List V → M V
 | [t0,t1]=>fin (f_desk_Desk_Do G t0 t1)
 | _=>M.fail
theorem zkp {g:Sem'} (hg:Sims g (sem T)) (args:List V):Sim (zeB g args) (sem T zap args):=by
 unfold zeB;split
 ·exact zaO tb_desk_Desk_Do (Nat.le_of_ble_eq_true (by kernel_rfl)) hg (eq_desk_Desk_Do g _ _)
 ·exact zac
def zeP (G:Sem') (t0 t1:V):M Res :=
 (M.lift (Ax.nilck t0)).bind fun t6 =>
 (M.lift (Ax.faddr 1534 t6)).bind fun t7 =>
 (mload none t7).bind fun t8 =>
 (G zbH [t8,t1]).bind fun t10 =>
 M.pure (.ret [t10])
def zc8:Fn':=(T zbC).getD noF
theorem zg8:T zbC = some zc8:=by kernel_rfl
theorem zhN (G:Sem') (t0 t1:V):execK G zc8.rv zc8.body [] [] (params 0 [t0,t1]) = zeP G t0 t1:=by kernel_rfl
def zdt (G:Sem'):List V → M V
 | [t0,t1]=>fin (zeP G t0 t1)
 | _=>M.fail
theorem zh5 {g:Sem'} (hg:Sims g (sem T)) (args:List V):Sim (zdt g args) (sem T zbC args):=by
 unfold zdt;split
 ·exact zaO zg8 (Nat.le_of_ble_eq_true (by kernel_rfl)) hg (zhN g _ _)
 ·exact zac
def zeO (G:Sem') (t0 t1:V):M Res :=
 (G zbu [t1]).bind fun t6 =>
 (M.lift (Ax.un .not t6)).bind fun t7 =>
 M.ite t7
 (M.pure (.ret [(V.int .i64 0)]))
 ((M.lift (Ax.nilck t0)).bind fun t10 =>
 (M.lift (Ax.faddr 1470 t10)).bind fun t11 =>
 (M.lift (Ax.iaddr (some 64) 1 t11 t1)).bind fun t12 =>
 (mload none t12).bind fun t13 =>
 (G za6 [t13]).bind fun t14 =>
 M.pure (.ret [t14]))
def zc7:Fn':=(T zbB).getD noF
theorem zg7:T zbB = some zc7:=by kernel_rfl
theorem zhM (G:Sem') (t0 t1:V):execK G zc7.rv zc7.body [] [] (params 0 [t0,t1]) = zeO G t0 t1:=by kernel_rfl
def zds (G:Sem'):List V → M V
 | [t0,t1]=>fin (zeO G t0 t1)
 | _=>M.fail
theorem zh4 {g:Sem'} (hg:Sims g (sem T)) (args:List V):Sim (zds g args) (sem T zbB args):=by
 unfold zds;split
 ·exact zaO zg7 (Nat.le_of_ble_eq_true (by kernel_rfl)) hg (zhM g _ _)
 ·exact zac
def f_palanquinref16_Parse (G:Sem') (t0:V):M Res :=
 (mbox zab (V.agg [(V.int .i64 0),(V.int .i64 0),(V.int .i64 0),(V.int .i64 0),(V.int .i64 0),(V.int .i64 0),V.nils])).bind fun t2 =>
 (M.lift (vlen t0)).bind fun t7 =>
 (M.lift (Ax.bin .lss t7 (V.int .i64 11))).bind fun t8 =>
 M.ite t8
 ((M.lift (Ax.build [(V.int .i64 0),(V.int .i64 0),(V.int .i64 0),(V.int .i64 0),(V.int .i64 0),(V.int .i64 0),V.nils] [])).bind fun t9 =>
 (mstore 7 t2 t9).bind fun _ =>
 (mload (some 7) t2).bind fun r0 =>
 M.pure (.ret [r0,(V.int .i64 3)]))
 ((M.lift (Ax.iaddr none 1 t0 (V.int .i64 0))).bind fun t11 =>
 (mload none t11).bind fun t12 =>
 (M.lift (Ax.cint .i64 t12)).bind fun t13 =>
 (M.lift (Ax.iaddr none 1 t0 (V.int .i64 1))).bind fun t15 =>
 (mload none t15).bind fun t16 =>
 (M.lift (Ax.cint .i64 t16)).bind fun t17 =>
 (M.lift (Ax.iaddr none 1 t0 (V.int .i64 2))).bind fun t19 =>
 (mload none t19).bind fun t20 =>
 (M.lift (Ax.cint .i64 t20)).bind fun t21 =>
 M.getH.bind fun h0 =>
 (G zak [t0,(V.int .i64 3)]).bind fun t23 =>
 M.getH.bind fun h0' =>
 (M.unch t19 h0 h0').bind fun _ =>
 (M.unch t15 h0 h0').bind fun _ =>
 (M.unch t11 h0 h0').bind fun _ =>
 M.getH.bind fun h1 =>
 (G zak [t0,(V.int .i64 5)]).bind fun t25 =>
 M.getH.bind fun h1' =>
 (M.unch t19 h1 h1').bind fun _ =>
 (M.unch t15 h1 h1').bind fun _ =>
 (M.unch t11 h1 h1').bind fun _ =>
 M.getH.bind fun h2 =>
 (G zak [t0,(V.int .i64 7)]).bind fun t27 =>
 M.getH.bind fun h2' =>
 (M.unch t19 h2 h2').bind fun _ =>
 (M.unch t15 h2 h2').bind fun _ =>
 (M.unch t11 h2 h2').bind fun _ =>
 (M.lift (Ax.build [(V.int .i64 0),(V.int .i64 0),(V.int .i64 0),(V.int .i64 0),(V.int .i64 0),(V.int .i64 0),V.nils] [(0,1,t13),(1,1,t17),(2,1,t21),(3,1,t23),(4,1,t25),(5,1,t27),(6,1,V.nils)])).bind fun t28 =>
 (mbox zab (V.agg [(V.int .i64 0),(V.int .i64 0),(V.int .i64 0),(V.int .i64 0),(V.int .i64 0),(V.int .i64 0),V.nils])).bind fun t4 =>
 (mstore 7 t4 t28).bind fun _ =>
 (G zak [t0,(V.int .i64 9)]).bind fun t30 =>
 M.blk 0 (
 (M.lift (Ax.bin .gtr t30 (V.int .i64 200))).bind fun t33 =>
 M.ite t33
 ((M.lift (Ax.build [(V.int .i64 0),(V.int .i64 0),(V.int .i64 0),(V.int .i64 0),(V.int .i64 0),(V.int .i64 0),V.nils] [])).bind fun t34 =>
 (mstore 7 t2 t34).bind fun _ =>
 (mload (some 7) t2).bind fun r0 =>
 M.pure (.ret [r0,(V.int .i64 4)]))
 ((M.lift (vlen t0)).bind fun t38 =>
 (M.lift (Ax.bin .sub t38 (V.int .i64 11))).bind fun t39 =>
 (M.lift (Ax.bin .gtr t30 t39)).bind fun t40 =>
 M.ite t40
 ((M.lift (Ax.build [(V.int .i64 0),(V.int .i64 0),(V.int .i64 0),(V.int .i64 0),(V.int .i64 0),(V.int .i64 0),V.nils] [])).bind fun t41 =>
 (mstore 7 t2 t41).bind fun _ =>
 (mload (some 7) t2).bind fun r0 =>
 M.pure (.ret [r0,(V.int .i64 3)]))
 ((M.lift (vlen t0)).bind fun t45 =>
 (M.lift (Ax.bin .sub t45 (V.int .i64 11))).bind fun t46 =>
 (M.lift (Ax.bin .lss t30 t46)).bind fun t47 =>
 M.ite t47
 ((M.lift (Ax.build [(V.int .i64 0),(V.int .i64 0),(V.int .i64 0),(V.int .i64 0),(V.int .i64 0),(V.int .i64 0),V.nils] [])).bind fun t48 =>
 (mstore 7 t2 t48).bind fun _ =>
 (mload (some 7) t2).bind fun r0 =>
 M.pure (.ret [r0,(V.int .i64 2)]))
 (M.pure (.nrm []))))) fun _ =>
 (mslit zaB 0 [(V.int .u8 0)] []).bind fun t49 =>
 (M.lift (zbI .sl 1 t0 (some (V.int .i64 11)) none none)).bind fun t51 =>
 (mappend zaB 1 1 t49 t51).bind fun t52 =>
 (M.lift (Ax.faddr 6 t4)).bind fun t53 =>
 (mstore 1 t53 t52).bind fun _ =>
 (mload (some 7) t4).bind fun t54 =>
 (G zaj [t54]).bind fun t55 =>
 (M.lift (Ax.un .not t55)).bind fun t56 =>
 M.ite t56
 ((M.lift (Ax.build [(V.int .i64 0),(V.int .i64 0),(V.int .i64 0),(V.int .i64 0),(V.int .i64 0),(V.int .i64 0),V.nils] [])).bind fun t57 =>
 (mstore 7 t2 t57).bind fun _ =>
 (mload (some 7) t2).bind fun r0 =>
 M.pure (.ret [r0,(V.int .i64 2)]))
 ((mload (some 7) t4).bind fun t58 =>
 (mstore 7 t2 t58).bind fun _ =>
 (mload (some 7) t2).bind fun r0 =>
 M.pure (.ret [r0,(V.int .i64 0)])))
def ir_palanquinref16_Parse:Fn':=(T zay).getD noF
theorem tb_palanquinref16_Parse:T zay = some ir_palanquinref16_Parse:=by kernel_rfl
theorem eq_palanquinref16_Parse (G:Sem') (t0:V):execK G ir_palanquinref16_Parse.rv ir_palanquinref16_Parse.body [] [] (params 0 [t0]) = f_palanquinref16_Parse G t0:=by kernel_rfl
def zcl (G:Sem'):List V → M V
 | [t0]=>fin (f_palanquinref16_Parse G t0)
 | _=>M.fail
theorem zfu {g:Sem'} (hg:Sims g (sem T)) (args:List V):Sim (zcl g args) (sem T zay args):=by
 unfold zcl;split
 ·exact zaO tb_palanquinref16_Parse (Nat.le_of_ble_eq_true (by kernel_rfl)) hg (eq_palanquinref16_Parse g _)
 ·exact zac
def f_palanquinlaw27_says (G:Sem') (t0:V):M Res :=
 (mbox zab t0).bind fun t1 =>
 (mload (some 7) t1).bind fun t6 =>
 (G zaC [t6]).bind fun t7 =>
 (M.lift (Ax.ext 0 t7)).bind fun t8 =>
 (M.lift (Ax.ext 1 t7)).bind fun t9 =>
 M.pure (.ret [t8])
def ir_palanquinlaw27_says:Fn':=(T zaA).getD noF
theorem tb_palanquinlaw27_says:T zaA = some ir_palanquinlaw27_says:=by kernel_rfl
theorem eq_palanquinlaw27_says (G:Sem') (t0:V):execK G ir_palanquinlaw27_says.rv ir_palanquinlaw27_says.body [] [] (params 0 [t0]) = f_palanquinlaw27_says G t0:=by kernel_rfl
def zcx (G:Sem'):List V → M V
 | [t0]=>fin (f_palanquinlaw27_says G t0)
 | _=>M.fail
theorem zfI {g:Sem'} (hg:Sims g (sem T)) (args:List V):Sim (zcx g args) (sem T zaA args):=by
 unfold zcx;split
 ·exact zaO tb_palanquinlaw27_says (Nat.le_of_ble_eq_true (by kernel_rfl)) hg (eq_palanquinlaw27_says g _)
 ·exact zac
def f_room_Good_0 (G:Sem') (t18 t1:V) (L:List V):M Res :=
 (M.lift (Ax.bin .lss (L.getD 0 .undef) (V.int .i64 8))).bind fun t20 =>
 M.ite t20
 (M.blk 1 (
 (M.lift (Ax.index 8 1 none t18 (L.getD 0 .undef))).bind fun t22 =>
 (M.lift (Ax.un .not t22)).bind fun t24 =>
 (guarded [(0,t24)] (some (0,true)) (M.pure (L.getD 0 .undef))).bind fun t26 =>
 (guarded [(0,t24)] (some (0,true)) (M.lift (Ax.faddr 22 t1))).bind fun t27 =>
 (guarded [(0,t24)] (some (0,true)) (M.lift (Ax.iaddr (some 8) 1 t27 t26))).bind fun t28 =>
 (guarded [(0,t24)] (some (0,true)) (mload none t28)).bind fun t29 =>
 (guarded [(0,t24)] (some (0,true)) (M.lift (Ax.bin .neq t29 (V.int .i64 0)))).bind fun t30 =>
 (guarded [(0,t24)] (some (0,true)) (M.pure t30)).bind fun t31 =>
 (guarded [(0,t31)] (some (0,false)) (M.pure (L.getD 0 .undef))).bind fun t32 =>
 (guarded [(0,t31)] (some (0,false)) (M.lift (Ax.faddr 30 t1))).bind fun t33 =>
 (guarded [(0,t31)] (some (0,false)) (M.lift (Ax.iaddr (some 8) 1 t33 t32))).bind fun t34 =>
 (guarded [(0,t31)] (some (0,false)) (mload none t34)).bind fun t35 =>
 (guarded [(0,t31)] (some (0,false)) (M.lift (Ax.bin .neq t35 (V.int .i64 0)))).bind fun t36 =>
 (guarded [(0,t24)] (some (0,true)) (M.lift (Ax.pick t31 (V.bool true) t36))).bind fun t37 =>
 (M.lift (Ax.pick t24 t37 (V.bool false))).bind fun t38 =>
 (guarded [(0,t38)] (some (0,false)) (M.pure (L.getD 0 .undef))).bind fun t40 =>
 (guarded [(0,t38)] (some (0,false)) (M.lift (Ax.faddr 30 t1))).bind fun t41 =>
 (guarded [(0,t38)] (some (0,false)) (M.lift (Ax.iaddr (some 8) 1 t41 t40))).bind fun t42 =>
 (guarded [(0,t38)] (some (0,false)) (mload none t42)).bind fun t43 =>
 (guarded [(0,t38)] (some (0,false)) (M.lift (Ax.bin .lss t43 (V.int .i64 0)))).bind fun t44 =>
 (M.lift (Ax.pick t38 (V.bool true) t44)).bind fun t45 =>
 (guarded [(0,t45)] (some (0,false)) (M.pure (L.getD 0 .undef))).bind fun t47 =>
 (guarded [(0,t45)] (some (0,false)) (M.lift (Ax.faddr 30 t1))).bind fun t48 =>
 (guarded [(0,t45)] (some (0,false)) (M.lift (Ax.iaddr (some 8) 1 t48 t47))).bind fun t49 =>
 (guarded [(0,t45)] (some (0,false)) (mload none t49)).bind fun t50 =>
 (guarded [(0,t45)] (some (0,false)) (M.lift (Ax.faddr 16 t1))).bind fun t51 =>
 (guarded [(0,t45)] (some (0,false)) (M.lift (Ax.faddr 0 t51))).bind fun t52 =>
 (guarded [(0,t45)] (some (0,false)) (mload none t52)).bind fun t53 =>
 (guarded [(0,t45)] (some (0,false)) (M.lift (Ax.bin .gtr t50 t53))).bind fun t54 =>
 (M.lift (Ax.pick t45 (V.bool true) t54)).bind fun t55 =>
 M.ite t55
 (M.pure (.ret [(V.bool false)]))
 (M.pure (.nrm []))) fun _ =>
 (M.lift (Ax.bin .add (L.getD 0 .undef) (V.int .i64 1))).bind fun t56 =>
 M.pure (.nrm [t56]))
 (M.pure (.ex 0 []))
def f_room_Good (G:Sem') (t0:V):M Res :=
 (mbox zad t0).bind fun t1 =>
 (M.lift (Ax.faddr 0 t1)).bind fun t6 =>
 (mload (some 16) t6).bind fun t7 =>
 (G zaT [t7]).bind fun t8 =>
 (M.lift (Ax.un .not t8)).bind fun t9 =>
 (guarded [(0,t9)] (some (0,false)) (M.lift (Ax.faddr 16 t1))).bind fun t11 =>
 (guarded [(0,t9)] (some (0,false)) (mload (some 6) t11)).bind fun t12 =>
 (guarded [(0,t9)] (some (0,false)) (G za1 [t12])).bind fun t13 =>
 (guarded [(0,t9)] (some (0,false)) (M.lift (Ax.un .not t13))).bind fun t14 =>
 (M.lift (Ax.pick t9 (V.bool true) t14)).bind fun t15 =>
 M.ite t15
 (M.pure (.ret [(V.bool false)]))
 ((M.lift (Ax.faddr 0 t1)).bind fun t16 =>
 (M.lift (Ax.faddr 0 t16)).bind fun t17 =>
 (mload (some 8) t17).bind fun t18 =>
 M.blk 0 (
 M.iter (f_room_Good_0 G t18 t1) [(V.int .i64 0)]) fun _ =>
 (M.lift (Ax.faddr 0 t1)).bind fun t57 =>
 (mload (some 16) t57).bind fun t58 =>
 (G za0 [t58]).bind fun t59 =>
 (M.lift (Ax.faddr 16 t1)).bind fun t60 =>
 (M.lift (Ax.faddr 1 t60)).bind fun t61 =>
 (mload none t61).bind fun t62 =>
 (M.lift (Ax.un .not t62)).bind fun t63 =>
 (guarded [(0,t63)] (some (0,false)) (M.lift (Ax.faddr 16 t1))).bind fun t65 =>
 (guarded [(0,t63)] (some (0,false)) (M.lift (Ax.faddr 3 t65))).bind fun t66 =>
 (guarded [(0,t63)] (some (0,false)) (mload none t66)).bind fun t67 =>
 (guarded [(0,t63)] (some (0,false)) (M.pure t59)).bind fun t68 =>
 (guarded [(0,t63)] (some (0,false)) (M.lift (Ax.bin .andNot t67 t68))).bind fun t69 =>
 (guarded [(0,t63)] (some (0,false)) (M.lift (Ax.bin .eql t69 (V.int .i64 0)))).bind fun t70 =>
 (M.lift (Ax.pick t63 (V.bool true) t70)).bind fun t71 =>
 (guarded [(0,t71)] (some (0,true)) (M.lift (Ax.faddr 38 t1))).bind fun t73 =>
 (guarded [(0,t71)] (some (0,true)) (mload none t73)).bind fun t74 =>
 (guarded [(0,t71)] (some (0,true)) (M.lift (Ax.un .not t74))).bind fun t75 =>
 (guarded [(0,t71)] (some (0,true)) (M.pure t75)).bind fun t76 =>
 (guarded [(0,t76)] (some (0,false)) (M.pure t59)).bind fun t77 =>
 (guarded [(0,t76)] (some (0,false)) (M.lift (Ax.bin .eql t77 (V.int .i64 0)))).bind fun t78 =>
 (guarded [(0,t71)] (some (0,true)) (M.lift (Ax.pick t76 (V.bool true) t78))).bind fun t79 =>
 (M.lift (Ax.pick t71 t79 (V.bool false))).bind fun t80 =>
 M.pure (.ret [t80]))
def ir_room_Good:Fn':=(T zbl).getD noF
theorem tb_room_Good:T zbl = some ir_room_Good:=by kernel_rfl
theorem eq_room_Good (G:Sem') (t0:V):execK G ir_room_Good.rv ir_room_Good.body [] [] (params 0 [t0]) = f_room_Good G t0:=by kernel_rfl
def zgY (G:Sem'):List V → M V
 | [t0]=>fin (f_room_Good G t0)
 | _=>M.fail
theorem znx {g:Sem'} (hg:Sims g (sem T)) (args:List V):Sim (zgY g args) (sem T zbl args):=by
 unfold zgY;split
 ·exact zaO tb_room_Good (Nat.le_of_ble_eq_true (by kernel_rfl)) hg (eq_room_Good g _)
 ·exact zac
def zfp (G:Sem') (t0:V):M Res :=
 (M.lift (Ax.minmax true t0 [(V.int .i64 0)])).bind fun t4 =>
 (M.lift (Ax.minmax false t4 [(V.int .i64 100)])).bind fun t5 =>
 (mmkslice zcq 8 [(V.int .i64 0)] t5 t5).bind fun t6 =>
 (M.lift (Ax.build [V.nils] [(0,1,t6)])).bind fun t7 =>
 (mbox zej t7).bind fun t8 =>
 M.pure (.ret [t8])
def zdj:Fn':=(T zbG).getD noF
theorem zhU:T zbG = some zdj:=by kernel_rfl
theorem ziu (G:Sem') (t0:V):execK G zdj.rv zdj.body [] [] (params 0 [t0]) = zfp G t0:=by kernel_rfl
def zdG (G:Sem'):List V → M V
 | [t0]=>fin (zfp G t0)
 | _=>M.fail
theorem ziQ {g:Sem'} (hg:Sims g (sem T)) (args:List V):Sim (zdG g args) (sem T zbG args):=by
 unfold zdG;split
 ·exact zaO zhU (Nat.le_of_ble_eq_true (by kernel_rfl)) hg (ziu g _)
 ·exact zac
def zd5 (G:Sem') (t0:V):M Res :=
 (M.lift (Ax.minmax true t0 [(V.int .i64 1)])).bind fun t4 =>
 (M.lift (Ax.minmax false t4 [(V.int .i64 1000)])).bind fun t5 =>
 (M.lift (Ax.build [(V.int .i64 0),V.nils] [(0,1,t5)])).bind fun t6 =>
 (mbox zdx t6).bind fun t7 =>
 M.pure (.ret [t7])
def zcI:Fn':=(T zbt).getD noF
theorem zgm:T zbt = some zcI:=by kernel_rfl
theorem zgv (G:Sem') (t0:V):execK G zcI.rv zcI.body [] [] (params 0 [t0]) = zd5 G t0:=by kernel_rfl
def zcX (G:Sem'):List V → M V
 | [t0]=>fin (zd5 G t0)
 | _=>M.fail
theorem zgC {g:Sem'} (hg:Sims g (sem T)) (args:List V):Sim (zcX g args) (sem T zbt args):=by
 unfold zcX;split
 ·exact zaO zgm (Nat.le_of_ble_eq_true (by kernel_rfl)) hg (zgv g _)
 ·exact zac
def f_desk_addr (G:Sem') (t0:V):M Res :=
 (M.lift (Ax.bin .geq t0 (V.int .i64 0))).bind fun t4 =>
 (guarded [(0,t4)] (some (0,true)) (M.pure t0)).bind fun t6 =>
 (guarded [(0,t4)] (some (0,true)) (M.lift (Ax.bin .leq t6 (V.int .i64 63)))).bind fun t7 =>
 (M.lift (Ax.pick t4 t7 (V.bool false))).bind fun t8 =>
 M.pure (.ret [t8])
def ir_desk_addr:Fn':=(T zbu).getD noF
theorem tb_desk_addr:T zbu = some ir_desk_addr:=by kernel_rfl
theorem eq_desk_addr (G:Sem') (t0:V):execK G ir_desk_addr.rv ir_desk_addr.body [] [] (params 0 [t0]) = f_desk_addr G t0:=by kernel_rfl
def zg0 (G:Sem'):List V → M V
 | [t0]=>fin (f_desk_addr G t0)
 | _=>M.fail
theorem znz {g:Sem'} (hg:Sims g (sem T)) (args:List V):Sim (zg0 g args) (sem T zbu args):=by
 unfold zg0;split
 ·exact zaO tb_desk_addr (Nat.le_of_ble_eq_true (by kernel_rfl)) hg (eq_desk_addr g _)
 ·exact zac
def zdR (G:Sem') (t0 t1 t2:V):M Res :=
 (M.lift (vlen t2)).bind fun t12 =>
 (M.lift (Ax.bin .gtr t12 (V.int .i64 1200))).bind fun t13 =>
 M.ite t13
 ((M.lift (Ax.nilck t0)).bind fun t15 =>
 (M.lift (Ax.faddr 1534 t15)).bind fun t16 =>
 (mload none t16).bind fun t17 =>
 (G zaG [t17,(V.int .i64 1)]).bind fun t18 =>
 M.pure (.ret []))
 ((G zaK [t0,t1]).bind fun t22 =>
 (M.lift (Ax.ext 0 t22)).bind fun t23 =>
 (M.lift (Ax.ext 1 t22)).bind fun t24 =>
 (M.lift (Ax.ext 2 t22)).bind fun t25 =>
 (M.lift (Ax.un .not t25)).bind fun t27 =>
 M.ite t27
 ((M.lift (Ax.nilck t0)).bind fun t29 =>
 (M.lift (Ax.faddr 1534 t29)).bind fun t30 =>
 (mload none t30).bind fun t31 =>
 (G zaG [t31,(V.int .i64 2)]).bind fun t32 =>
 M.pure (.ret []))
 ((G zbA [t0,t23,t1]).bind fun t36 =>
 (G zk4 [t2]).bind fun t38 =>
 M.ite t38
 ((G zdQ [t0,t23,t24,t2]).bind fun t43 =>
 M.pure (.ret []))
 ((G zd4 [t23,t24,t2]).bind fun t48 =>
 (M.lift (Ax.ext 0 t48)).bind fun t49 =>
 (M.lift (Ax.ext 1 t48)).bind fun t50 =>
 (mbox zkk (V.agg [(V.bool false),(V.int .i64 0),(V.int .u16 0),(V.int .u32 0),(V.int .u32 0),V.nils,(V.int .i64 0),V.nils,(V.int .i64 0),V.nils,(V.int .i64 0),(V.int .i64 0),(V.bool false),(V.bool false),(V.int .i64 0),(V.int .u16 0),(V.bool false),(V.int .i64 0),(V.int .i64 0),V.nils,(V.int .i64 0),V.nils,V.nils,(V.bool false),(V.int .u32 0),(V.bool false),(V.bool false),(V.bool false),V.nils,V.nils,V.nils])).bind fun t9 =>
 (mstore 31 t9 t49).bind fun _ =>
 (M.lift (Ax.bin .neq t50 (V.int .i64 0))).bind fun t52 =>
 M.ite t52
 ((M.lift (Ax.nilck t0)).bind fun t54 =>
 (M.lift (Ax.faddr 1534 t54)).bind fun t55 =>
 (mload none t55).bind fun t56 =>
 (G zaG [t56,t50]).bind fun t58 =>
 M.pure (.ret []))
 ((mload (some 31) t9).bind fun t62 =>
 (G zei [t0,t23,t24,t62]).bind fun t63 =>
 M.pure (.ret [])))))
def zct:Fn':=(T zbc).getD noF
theorem zfG:T zbc = some zct:=by kernel_rfl
theorem zfY (G:Sem') (t0 t1 t2:V):execK G zct.rv zct.body [] [] (params 0 [t0,t1,t2]) = zdR G t0 t1 t2:=by kernel_rfl
def zcL (G:Sem'):List V → M V
 | [t0,t1,t2]=>fin (zdR G t0 t1 t2)
 | _=>M.fail
theorem zgp {g:Sem'} (hg:Sims g (sem T)) (args:List V):Sim (zcL g args) (sem T zbc args):=by
 unfold zcL;split
 ·exact zaO zfG (Nat.le_of_ble_eq_true (by kernel_rfl)) hg (zfY g _ _ _)
 ·exact zac
def f_desk_Desk_note (G:Sem') (t0 t1 t2:V):M Res :=
 (G zbr [t2]).bind fun t13 =>
 (M.lift (Ax.ext 0 t13)).bind fun t14 =>
 (M.lift (Ax.ext 1 t13)).bind fun t15 =>
 (mbox zae (V.agg [(V.int .i64 0),(V.int .i64 0),(V.int .i64 0),(V.int .i64 0),(V.int .i64 0),(V.int .i64 0),V.nils])).bind fun t6 =>
 (mstore 7 t6 t14).bind fun _ =>
 (M.lift (Ax.bin .eql t15 (V.int .i64 0))).bind fun t17 =>
 (guarded [(0,t17)] (some (0,true)) (M.lift (Ax.faddr 0 t6))).bind fun t19 =>
 (guarded [(0,t17)] (some (0,true)) (mload none t19)).bind fun t20 =>
 (guarded [(0,t17)] (some (0,true)) (M.lift (Ax.bin .gtr t20 (V.int .i64 9)))).bind fun t21 =>
 (M.lift (Ax.pick t17 t21 (V.bool false))).bind fun t22 =>
 M.join (M.ite t22
 (M.pure (.nrm [(V.int .i64 1)]))
 (M.pure (.nrm [t15]))) fun L0 =>
 (M.lift (Ax.bin .neq (L0.getD 0 .undef) (V.int .i64 0))).bind fun t24 =>
 M.ite t24
 ((G zcu [t0,t1,(L0.getD 0 .undef),(V.int .i64 0)]).bind fun t28 =>
 M.pure (.ret []))
 ((G zaK [t0,t1]).bind fun t32 =>
 (M.lift (Ax.ext 0 t32)).bind fun t33 =>
 (M.lift (Ax.ext 1 t32)).bind fun t34 =>
 (M.lift (Ax.ext 2 t32)).bind fun t35 =>
 M.join (M.ite t35
 ((G zbA [t0,t33,t1]).bind fun t40 =>
 M.pure (.nrm []))
 (M.pure (.nrm []))) fun _ =>
 M.blk 0 (
 (M.lift (Ax.faddr 0 t6)).bind fun t47 =>
 (mload none t47).bind fun t48 =>
 (M.lift (Ax.bin .eql t48 (V.int .i64 1))).bind fun t49 =>
 (guarded [(0,t49)] (some (0,true)) (M.pure t35)).bind fun t51 =>
 (M.lift (Ax.pick t49 t51 (V.bool false))).bind fun t52 =>
 M.join (M.ite t52
 (M.pure (.nrm [(V.int .i64 7)]))
 ((M.lift (Ax.faddr 0 t6)).bind fun t54 =>
 (mload none t54).bind fun t55 =>
 (M.lift (Ax.bin .eql t55 (V.int .i64 1))).bind fun t56 =>
 M.join (M.ite t56
 ((mload (some 7) t6).bind fun t59 =>
 (G zbx [t0,t1,t59]).bind fun t60 =>
 M.pure (.nrm [t60]))
 ((M.lift (Ax.un .not t35)).bind fun t63 =>
 M.join (M.ite t63
 (M.pure (.nrm [(V.int .i64 6)]))
 ((mload (some 7) t6).bind fun t44 =>
 (G zbZ [t0,t33,t34,t44]).bind fun t45 =>
 M.pure (.nrm [t45]))) fun L2 =>
 M.pure (.nrm [(L2.getD 0 .undef)]))) fun L3 =>
 M.pure (.nrm [(L3.getD 0 .undef)]))) fun L4 =>
 M.pure (.nrm [(L4.getD 0 .undef)])) fun L5 =>
 (M.lift (Ax.bin .neq (L5.getD 0 .undef) (V.int .i64 0))).bind fun t65 =>
 M.join (M.ite t65
 ((M.lift (Ax.faddr 0 t6)).bind fun t69 =>
 (mload none t69).bind fun t70 =>
 (G zcu [t0,t1,(L5.getD 0 .undef),t70]).bind fun t71 =>
 M.pure (.nrm []))
 (M.pure (.nrm []))) fun _ =>
 M.pure (.ret []))
def ir_desk_Desk_note:Fn':=(T zaQ).getD noF
theorem tb_desk_Desk_note:T zaQ = some ir_desk_Desk_note:=by kernel_rfl
theorem eq_desk_Desk_note (G:Sem') (t0 t1 t2:V):execK G ir_desk_Desk_note.rv ir_desk_Desk_note.body [] [] (params 0 [t0,t1,t2]) = f_desk_Desk_note G t0 t1 t2:=by kernel_rfl
def zdL (G:Sem'):List V → M V
 | [t0,t1,t2]=>fin (f_desk_Desk_note G t0 t1 t2)
 | _=>M.fail
theorem ziV {g:Sem'} (hg:Sims g (sem T)) (args:List V):Sim (zdL g args) (sem T zaQ args):=by
 unfold zdL;split
 ·exact zaO tb_desk_Desk_note (Nat.le_of_ble_eq_true (by kernel_rfl)) hg (eq_desk_Desk_note g _ _ _)
 ·exact zac
end Go.Ax.Cc
/- CiS2 -/
namespace Go.Ax.Cc
open Go.Proofs
def f_desk_Desk_tick_0 (G:Sem') (t0:V) (L:List V):M Res :=
 (M.lift (Ax.bin .lss (L.getD 0 .undef) (V.int .i64 4))).bind fun t16 =>
 M.ite t16
 (M.blk 1 (
 (M.lift (Ax.nilck t0)).bind fun t20 =>
 (M.lift (Ax.faddr 0 t20)).bind fun t21 =>
 (M.lift (Ax.iaddr (some 4) 367 t21 (L.getD 0 .undef))).bind fun t22 =>
 (M.lift (Ax.nilck t22)).bind fun t24 =>
 (M.lift (Ax.faddr 0 t24)).bind fun t25 =>
 (mload (some 39) t25).bind fun t26 =>
 (mbox zad (V.agg [(V.bool false),(V.bool false),(V.bool false),(V.bool false),(V.bool false),(V.bool false),(V.bool false),(V.bool false),(V.int .i64 0),(V.int .i64 0),(V.int .i64 0),(V.int .i64 0),(V.int .i64 0),(V.int .i64 0),(V.int .i64 0),(V.int .i64 0),(V.int .i64 0),(V.bool false),(V.int .i64 0),(V.int .i64 0),(V.int .i64 0),(V.int .i64 0),(V.int .i64 0),(V.int .i64 0),(V.int .i64 0),(V.int .i64 0),(V.int .i64 0),(V.int .i64 0),(V.int .i64 0),(V.int .i64 0),(V.int .i64 0),(V.int .i64 0),(V.int .i64 0),(V.int .i64 0),(V.int .i64 0),(V.int .i64 0),(V.int .i64 0),(V.int .i64 0),(V.bool false)])).bind fun t6 =>
 (mstore 39 t6 t26).bind fun _ =>
 (M.lift (Ax.nilck t22)).bind fun t30 =>
 (M.lift (Ax.faddr 0 t30)).bind fun t31 =>
 (mload (some 39) t31).bind fun t32 =>
 (M.lift (Ax.nilck t0)).bind fun t34 =>
 (M.lift (Ax.faddr 1468 t34)).bind fun t35 =>
 (mload none t35).bind fun t36 =>
 (G zbz [t32,t36]).bind fun t37 =>
 (M.lift (Ax.ext 0 t37)).bind fun t38 =>
 (M.lift (Ax.nilck t22)).bind fun t40 =>
 (M.lift (Ax.faddr 0 t40)).bind fun t41 =>
 (mstore 39 t41 t38).bind fun _ =>
 (M.lift (Ax.ext 1 t37)).bind fun t39 =>
 (mload (some 39) t6).bind fun t44 =>
 (G zaJ [t0,t22,t44]).bind fun t45 =>
 M.pure (.nrm [])) fun _ =>
 (M.lift (Ax.bin .add (L.getD 0 .undef) (V.int .i64 1))).bind fun t46 =>
 M.pure (.nrm [t46]))
 (M.pure (.ex 0 []))
def f_desk_Desk_tick (G:Sem') (t0 t1:V):M Res :=
 (M.lift (Ax.nilck t0)).bind fun t8 =>
 (M.lift (Ax.faddr 1468 t8)).bind fun t9 =>
 (mload none t9).bind fun t10 =>
 (M.lift (Ax.bin .add t10 t1)).bind fun t12 =>
 (M.lift (Ax.nilck t0)).bind fun t13 =>
 (M.lift (Ax.faddr 1468 t13)).bind fun t14 =>
 (mstore 1 t14 t12).bind fun _ =>
 M.blk 0 (
 M.iter (f_desk_Desk_tick_0 G t0) [(V.int .i64 0)]) fun _ =>
 M.pure (.ret [])
def ir_desk_Desk_tick:Fn':=(T zaP).getD noF
theorem tb_desk_Desk_tick:T zaP = some ir_desk_Desk_tick:=by kernel_rfl
theorem eq_desk_Desk_tick (G:Sem') (t0 t1:V):execK G ir_desk_Desk_tick.rv ir_desk_Desk_tick.body [] [] (params 0 [t0,t1]) = f_desk_Desk_tick G t0 t1:=by kernel_rfl
def zdJ (G:Sem'):List V → M V
 | [t0,t1]=>fin (f_desk_Desk_tick G t0 t1)
 | _=>M.fail
theorem ziT {g:Sem'} (hg:Sims g (sem T)) (args:List V):Sim (zdJ g args) (sem T zaP args):=by
 unfold zdJ;split
 ·exact zaO tb_desk_Desk_tick (Nat.le_of_ble_eq_true (by kernel_rfl)) hg (eq_desk_Desk_tick g _ _)
 ·exact zac
def f_desk_Desk_taken_0 (G:Sem') (t10 t0 t1 t6:V) (L:List V):M Res :=
 (M.lift (Ax.bin .lss (L.getD 1 .undef) t10)).bind fun t12 =>
 M.ite t12
 (M.blk 1 (
 (M.lift (Ax.nilck t0)).bind fun t16 =>
 (M.lift (Ax.faddr 1470 t16)).bind fun t17 =>
 (M.lift (Ax.iaddr (some 64) 1 t17 t1)).bind fun t18 =>
 (mload none t18).bind fun t19 =>
 (G zat [t19]).bind fun t20 =>
 (M.lift (Ax.ext 0 t20)).bind fun t21 =>
 (M.lift (Ax.ext 1 t20)).bind fun t22 =>
 (mbox zaZ (V.agg [(V.int .i64 0),(V.int .i64 0),V.nils])).bind fun t8 =>
 (mstore 3 t8 t21).bind fun _ =>
 (M.lift (Ax.un .not t22)).bind fun t24 =>
 M.ite t24
 (M.pure (.ex 0 [(L.getD 0 .undef)]))
 ((mload (some 3) t8).bind fun t26 =>
 (mslit zaZ 1 [(V.int .i64 0),(V.int .i64 0),V.nils] [(0,3,t26)]).bind fun t27 =>
 (mappend zaZ 3 40 (L.getD 0 .undef) t27).bind fun t28 =>
 M.pure (.nrm [t28]))) fun L0 =>
 (M.lift (Ax.bin .add (L.getD 1 .undef) (V.int .i64 1))).bind fun t29 =>
 M.pure (.nrm [(L0.getD 0 .undef),t29]))
 (M.pure (.ex 0 [(L.getD 0 .undef)]))
def f_desk_Desk_taken (G:Sem') (t0 t1 t2:V):M Res :=
 M.blk 0 (
 M.iter (f_desk_Desk_taken_0 G t2 t0 t1 V.nils) [V.nils,(V.int .i64 0)]) fun L1 =>
 M.pure (.ret [(L1.getD 0 .undef)])
def ir_desk_Desk_taken:Fn':=(T zaL).getD noF
theorem tb_desk_Desk_taken:T zaL = some ir_desk_Desk_taken:=by kernel_rfl
theorem eq_desk_Desk_taken (G:Sem') (t0 t1 t2:V):execK G ir_desk_Desk_taken.rv ir_desk_Desk_taken.body [] [] (params 0 [t0,t1,t2]) = f_desk_Desk_taken G t0 t1 t2:=by kernel_rfl
def zdr (G:Sem'):List V → M V
 | [t0,t1,t2]=>fin (f_desk_Desk_taken G t0 t1 t2)
 | _=>M.fail
theorem zh3 {g:Sem'} (hg:Sims g (sem T)) (args:List V):Sim (zdr g args) (sem T zaL args):=by
 unfold zdr;split
 ·exact zaO tb_desk_Desk_taken (Nat.le_of_ble_eq_true (by kernel_rfl)) hg (eq_desk_Desk_taken g _ _ _)
 ·exact zac
def zfq (G:Sem') (t0 t1:V):M Res :=
 (M.lift (Ax.bin .lss t1 (V.int .i64 0))).bind fun t6 =>
 (guarded [(0,t6)] (some (0,false)) (M.pure t1)).bind fun t8 =>
 (guarded [(0,t6)] (some (0,false)) (M.pure t0)).bind fun t9 =>
 (guarded [(0,t6)] (some (0,false)) (M.lift (Ax.nilck t9))).bind fun t10 =>
 (guarded [(0,t6)] (some (0,false)) (M.lift (Ax.faddr 0 t10))).bind fun t11 =>
 (guarded [(0,t6)] (some (0,false)) (mload none t11)).bind fun t12 =>
 (guarded [(0,t6)] (some (0,false)) (M.lift (vlen t12))).bind fun t13 =>
 (guarded [(0,t6)] (some (0,false)) (M.lift (Ax.bin .geq t8 t13))).bind fun t14 =>
 (M.lift (Ax.pick t6 (V.bool true) t14)).bind fun t15 =>
 M.ite t15
 (M.pure (.ret [(V.int .i64 0)]))
 ((M.lift (Ax.nilck t0)).bind fun t17 =>
 (M.lift (Ax.faddr 0 t17)).bind fun t18 =>
 (mload none t18).bind fun t19 =>
 (M.lift (Ax.iaddr none 1 t19 t1)).bind fun t21 =>
 (G za4 [t21]).bind fun t22 =>
 M.pure (.ret [t22]))
def zdk:Fn':=(T zbH).getD noF
theorem zhV:T zbH = some zdk:=by kernel_rfl
theorem ziv (G:Sem') (t0 t1:V):execK G zdk.rv zdk.body [] [] (params 0 [t0,t1]) = zfq G t0 t1:=by kernel_rfl
def zdH (G:Sem'):List V → M V
 | [t0,t1]=>fin (zfq G t0 t1)
 | _=>M.fail
theorem ziR {g:Sem'} (hg:Sims g (sem T)) (args:List V):Sim (zdH g args) (sem T zbH args):=by
 unfold zdH;split
 ·exact zaO zhV (Nat.le_of_ble_eq_true (by kernel_rfl)) hg (ziv g _ _)
 ·exact zac
def zc4 (G:Sem') (t0:V):M Res :=
 (M.lift (Ax.nilck t0)).bind fun t4 =>
 (M.lift (Ax.faddr 1 t4)).bind fun t5 =>
 (mload none t5).bind fun t6 =>
 (M.lift (vlen t6)).bind fun t7 =>
 M.pure (.ret [t7])
def zbU:Fn':=(T za6).getD noF
theorem zem:T za6 = some zbU:=by kernel_rfl
theorem zex (G:Sem') (t0:V):execK G zbU.rv zbU.body [] [] (params 0 [t0]) = zc4 G t0:=by kernel_rfl
def zb2 (G:Sem'):List V → M V
 | [t0]=>fin (zc4 G t0)
 | _=>M.fail
theorem zeF {g:Sem'} (hg:Sims g (sem T)) (args:List V):Sim (zb2 g args) (sem T za6 args):=by
 unfold zb2;split
 ·exact zaO zem (Nat.le_of_ble_eq_true (by kernel_rfl)) hg (zex g _)
 ·exact zac
def f_palanquinref16_two (G:Sem') (t0 t1:V):M Res :=
 (M.lift (Ax.iaddr none 1 t0 t1)).bind fun t7 =>
 (mload none t7).bind fun t8 =>
 (M.lift (Ax.cint .i64 t8)).bind fun t9 =>
 (M.lift (Ax.bin .shl t9 (V.int .u64 8))).bind fun t10 =>
 (M.lift (Ax.bin .add t1 (V.int .i64 1))).bind fun t13 =>
 (M.lift (Ax.iaddr none 1 t0 t13)).bind fun t14 =>
 (mload none t14).bind fun t15 =>
 (M.lift (Ax.cint .i64 t15)).bind fun t16 =>
 (M.lift (Ax.bin .or t10 t16)).bind fun t17 =>
 M.pure (.ret [t17])
def ir_palanquinref16_two:Fn':=(T zak).getD noF
theorem tb_palanquinref16_two:T zak = some ir_palanquinref16_two:=by kernel_rfl
theorem eq_palanquinref16_two (G:Sem') (t0 t1:V):execK G ir_palanquinref16_two.rv ir_palanquinref16_two.body [] [] (params 0 [t0,t1]) = f_palanquinref16_two G t0 t1:=by kernel_rfl
def zcJ (G:Sem'):List V → M V
 | [t0,t1]=>fin (f_palanquinref16_two G t0 t1)
 | _=>M.fail
theorem zgn {g:Sem'} (hg:Sims g (sem T)) (args:List V):Sim (zcJ g args) (sem T zak args):=by
 unfold zcJ;split
 ·exact zaO tb_palanquinref16_two (Nat.le_of_ble_eq_true (by kernel_rfl)) hg (eq_palanquinref16_two g _ _)
 ·exact zac
def f_palanquinref16_Good (G:Sem') (t0:V):M Res :=
 (mbox zab t0).bind fun t1 =>
 (M.lift (Ax.faddr 0 t1)).bind fun t5 =>
 (mload none t5).bind fun t6 =>
 (G zau [t6]).bind fun t7 =>
 (M.lift (Ax.bin .eql t7 (V.str ⟨#[]⟩))).bind fun t9 =>
 (guarded [(0,t9)] (some (0,false)) (M.lift (Ax.faddr 1 t1))).bind fun t11 =>
 (guarded [(0,t9)] (some (0,false)) (mload none t11)).bind fun t12 =>
 (guarded [(0,t9)] (some (0,false)) (G zai [t12,(V.int .i64 0),(V.int .i64 3)])).bind fun t13 =>
 (guarded [(0,t9)] (some (0,false)) (M.lift (Ax.un .not t13))).bind fun t14 =>
 (M.lift (Ax.pick t9 (V.bool true) t14)).bind fun t15 =>
 (guarded [(0,t15)] (some (0,false)) (M.lift (Ax.faddr 2 t1))).bind fun t17 =>
 (guarded [(0,t15)] (some (0,false)) (mload none t17)).bind fun t18 =>
 (guarded [(0,t15)] (some (0,false)) (G zai [t18,(V.int .i64 0),(V.int .i64 7)])).bind fun t19 =>
 (guarded [(0,t15)] (some (0,false)) (M.lift (Ax.un .not t19))).bind fun t20 =>
 (M.lift (Ax.pick t15 (V.bool true) t20)).bind fun t21 =>
 (guarded [(0,t21)] (some (0,false)) (M.lift (Ax.faddr 3 t1))).bind fun t23 =>
 (guarded [(0,t21)] (some (0,false)) (mload none t23)).bind fun t24 =>
 (guarded [(0,t21)] (some (0,false)) (G zai [t24,(V.int .i64 0),(V.int .i64 65535)])).bind fun t25 =>
 (guarded [(0,t21)] (some (0,false)) (M.lift (Ax.un .not t25))).bind fun t26 =>
 (M.lift (Ax.pick t21 (V.bool true) t26)).bind fun t27 =>
 (guarded [(0,t27)] (some (0,false)) (M.lift (Ax.faddr 4 t1))).bind fun t29 =>
 (guarded [(0,t27)] (some (0,false)) (mload none t29)).bind fun t30 =>
 (guarded [(0,t27)] (some (0,false)) (G zai [t30,(V.int .i64 0),(V.int .i64 65535)])).bind fun t31 =>
 (guarded [(0,t27)] (some (0,false)) (M.lift (Ax.un .not t31))).bind fun t32 =>
 (M.lift (Ax.pick t27 (V.bool true) t32)).bind fun t33 =>
 (guarded [(0,t33)] (some (0,false)) (M.lift (Ax.faddr 5 t1))).bind fun t35 =>
 (guarded [(0,t33)] (some (0,false)) (mload none t35)).bind fun t36 =>
 (guarded [(0,t33)] (some (0,false)) (G zai [t36,(V.int .i64 0),(V.int .i64 65535)])).bind fun t37 =>
 (guarded [(0,t33)] (some (0,false)) (M.lift (Ax.un .not t37))).bind fun t38 =>
 (M.lift (Ax.pick t33 (V.bool true) t38)).bind fun t39 =>
 (guarded [(0,t39)] (some (0,false)) (M.lift (Ax.faddr 6 t1))).bind fun t41 =>
 (guarded [(0,t39)] (some (0,false)) (mload none t41)).bind fun t42 =>
 (guarded [(0,t39)] (some (0,false)) (M.lift (vlen t42))).bind fun t43 =>
 (guarded [(0,t39)] (some (0,false)) (M.lift (Ax.bin .gtr t43 (V.int .i64 200)))).bind fun t44 =>
 (M.lift (Ax.pick t39 (V.bool true) t44)).bind fun t45 =>
 M.ite t45
 (M.pure (.ret [(V.bool false)]))
 ((G zag [t7,(V.int .u8 114)]).bind fun t47 =>
 (M.lift (Ax.un .not t47)).bind fun t48 =>
 (guarded [(0,t48)] (some (0,true)) (M.lift (Ax.faddr 1 t1))).bind fun t50 =>
 (guarded [(0,t48)] (some (0,true)) (mload none t50)).bind fun t51 =>
 (guarded [(0,t48)] (some (0,true)) (M.lift (Ax.bin .neq t51 (V.int .i64 0)))).bind fun t52 =>
 (M.lift (Ax.pick t48 t52 (V.bool false))).bind fun t53 =>
 (guarded [(0,t53)] (some (0,false)) (M.pure t7)).bind fun t55 =>
 (guarded [(0,t53)] (some (0,false)) (G zag [t55,(V.int .u8 115)])).bind fun t56 =>
 (guarded [(0,t53)] (some (0,false)) (M.lift (Ax.un .not t56))).bind fun t57 =>
 (guarded [(0,t53)] (some (0,false)) (M.pure t57)).bind fun t58 =>
 (guarded [(0,t58)] (some (0,true)) (M.lift (Ax.faddr 2 t1))).bind fun t59 =>
 (guarded [(0,t58)] (some (0,true)) (mload none t59)).bind fun t60 =>
 (guarded [(0,t58)] (some (0,true)) (M.lift (Ax.bin .neq t60 (V.int .i64 0)))).bind fun t61 =>
 (guarded [(0,t53)] (some (0,false)) (M.lift (Ax.pick t58 t61 (V.bool false)))).bind fun t62 =>
 (M.lift (Ax.pick t53 (V.bool true) t62)).bind fun t63 =>
 (guarded [(0,t63)] (some (0,false)) (M.pure t7)).bind fun t65 =>
 (guarded [(0,t63)] (some (0,false)) (G zag [t65,(V.int .u8 101)])).bind fun t66 =>
 (guarded [(0,t63)] (some (0,false)) (M.lift (Ax.un .not t66))).bind fun t67 =>
 (guarded [(0,t63)] (some (0,false)) (M.pure t67)).bind fun t68 =>
 (guarded [(0,t68)] (some (0,true)) (M.lift (Ax.faddr 3 t1))).bind fun t69 =>
 (guarded [(0,t68)] (some (0,true)) (mload none t69)).bind fun t70 =>
 (guarded [(0,t68)] (some (0,true)) (M.lift (Ax.bin .neq t70 (V.int .i64 0)))).bind fun t71 =>
 (guarded [(0,t63)] (some (0,false)) (M.lift (Ax.pick t68 t71 (V.bool false)))).bind fun t72 =>
 (M.lift (Ax.pick t63 (V.bool true) t72)).bind fun t73 =>
 (guarded [(0,t73)] (some (0,false)) (M.pure t7)).bind fun t75 =>
 (guarded [(0,t73)] (some (0,false)) (G zag [t75,(V.int .u8 110)])).bind fun t76 =>
 (guarded [(0,t73)] (some (0,false)) (M.lift (Ax.un .not t76))).bind fun t77 =>
 (guarded [(0,t73)] (some (0,false)) (M.pure t77)).bind fun t78 =>
 (guarded [(0,t78)] (some (0,true)) (M.lift (Ax.faddr 4 t1))).bind fun t79 =>
 (guarded [(0,t78)] (some (0,true)) (mload none t79)).bind fun t80 =>
 (guarded [(0,t78)] (some (0,true)) (M.lift (Ax.bin .neq t80 (V.int .i64 0)))).bind fun t81 =>
 (guarded [(0,t73)] (some (0,false)) (M.lift (Ax.pick t78 t81 (V.bool false)))).bind fun t82 =>
 (M.lift (Ax.pick t73 (V.bool true) t82)).bind fun t83 =>
 (guarded [(0,t83)] (some (0,false)) (M.pure t7)).bind fun t85 =>
 (guarded [(0,t83)] (some (0,false)) (G zag [t85,(V.int .u8 109)])).bind fun t86 =>
 (guarded [(0,t83)] (some (0,false)) (M.lift (Ax.un .not t86))).bind fun t87 =>
 (guarded [(0,t83)] (some (0,false)) (M.pure t87)).bind fun t88 =>
 (guarded [(0,t88)] (some (0,true)) (M.lift (Ax.faddr 5 t1))).bind fun t89 =>
 (guarded [(0,t88)] (some (0,true)) (mload none t89)).bind fun t90 =>
 (guarded [(0,t88)] (some (0,true)) (M.lift (Ax.bin .neq t90 (V.int .i64 0)))).bind fun t91 =>
 (guarded [(0,t83)] (some (0,false)) (M.lift (Ax.pick t88 t91 (V.bool false)))).bind fun t92 =>
 (M.lift (Ax.pick t83 (V.bool true) t92)).bind fun t93 =>
 (guarded [(0,t93)] (some (0,false)) (M.pure t7)).bind fun t95 =>
 (guarded [(0,t93)] (some (0,false)) (G zag [t95,(V.int .u8 98)])).bind fun t96 =>
 (guarded [(0,t93)] (some (0,false)) (M.lift (Ax.un .not t96))).bind fun t97 =>
 (guarded [(0,t93)] (some (0,false)) (M.pure t97)).bind fun t98 =>
 (guarded [(0,t98)] (some (0,true)) (M.lift (Ax.faddr 6 t1))).bind fun t99 =>
 (guarded [(0,t98)] (some (0,true)) (mload none t99)).bind fun t100 =>
 (guarded [(0,t98)] (some (0,true)) (M.lift (vlen t100))).bind fun t101 =>
 (guarded [(0,t98)] (some (0,true)) (M.lift (Ax.bin .gtr t101 (V.int .i64 0)))).bind fun t102 =>
 (guarded [(0,t93)] (some (0,false)) (M.lift (Ax.pick t98 t102 (V.bool false)))).bind fun t103 =>
 (M.lift (Ax.pick t93 (V.bool true) t103)).bind fun t104 =>
 M.ite t104
 (M.pure (.ret [(V.bool false)]))
 ((M.lift (Ax.faddr 4 t1)).bind fun t105 =>
 (mload none t105).bind fun t106 =>
 (M.lift (Ax.bin .lss t106 (V.int .i64 256))).bind fun t107 =>
 M.join (M.ite t107
 ((M.lift (Ax.faddr 4 t1)).bind fun t108 =>
 (mload none t108).bind fun t109 =>
 (M.lift (Ax.faddr 2 t1)).bind fun t110 =>
 (mload none t110).bind fun t111 =>
 (M.lift (Ax.cint .u64 t111)).bind fun t112 =>
 (M.lift (Ax.bin .shr t109 t112)).bind fun t113 =>
 (M.lift (Ax.bin .and t113 (V.int .i64 1))).bind fun t114 =>
 (M.lift (Ax.bin .eql t114 (V.int .i64 1))).bind fun t115 =>
 M.pure (.nrm [t115]))
 (M.pure (.nrm [(V.bool false)]))) fun L0 =>
 (M.lift (Ax.faddr 0 t1)).bind fun t116 =>
 (mload none t116).bind fun t117 =>
 M.blk 0 (
 (M.lift (Ax.bin .eql t117 (V.int .i64 4))).bind fun t119 =>
 M.ite t119
 ((M.lift (Ax.faddr 4 t1)).bind fun t120 =>
 (mload none t120).bind fun t121 =>
 (M.lift (Ax.bin .lss t121 (V.int .i64 3))).bind fun t122 =>
 (guarded [(0,t122)] (some (0,true)) (M.lift (Ax.faddr 6 t1))).bind fun t124 =>
 (guarded [(0,t122)] (some (0,true)) (mload none t124)).bind fun t125 =>
 (guarded [(0,t122)] (some (0,true)) (M.lift (vlen t125))).bind fun t126 =>
 (guarded [(0,t122)] (some (0,true)) (M.lift (Ax.bin .eql t126 (V.int .i64 4)))).bind fun t127 =>
 (M.lift (Ax.pick t122 t127 (V.bool false))).bind fun t128 =>
 M.pure (.ret [t128]))
 ((M.lift (Ax.bin .eql t117 (V.int .i64 5))).bind fun t130 =>
 M.ite t130
 ((M.lift (Ax.faddr 4 t1)).bind fun t131 =>
 (mload none t131).bind fun t132 =>
 (M.lift (Ax.bin .lss t132 (V.int .i64 4))).bind fun t133 =>
 (guarded [(0,t133)] (some (0,true)) (M.lift (Ax.faddr 5 t1))).bind fun t135 =>
 (guarded [(0,t133)] (some (0,true)) (mload none t135)).bind fun t136 =>
 (guarded [(0,t133)] (some (0,true)) (M.lift (Ax.bin .lss t136 (V.int .i64 8)))).bind fun t137 =>
 (M.lift (Ax.pick t133 t137 (V.bool false))).bind fun t138 =>
 M.pure (.ret [t138]))
 ((M.lift (Ax.bin .eql t117 (V.int .i64 7))).bind fun t140 =>
 M.join (M.ite t140
 (M.pure (.nrm [t140]))
 ((M.lift (Ax.bin .eql t117 (V.int .i64 21))).bind fun t141 =>
 M.pure (.nrm [t141]))) fun L1 =>
 M.ite (L1.getD 0 .undef)
 ((M.lift (Ax.faddr 4 t1)).bind fun t142 =>
 (mload none t142).bind fun t143 =>
 (M.lift (Ax.bin .lss t143 (V.int .i64 32))).bind fun t144 =>
 (guarded [(0,t144)] (some (0,true)) (M.lift (Ax.faddr 6 t1))).bind fun t146 =>
 (guarded [(0,t144)] (some (0,true)) (mload none t146)).bind fun t147 =>
 (guarded [(0,t144)] (some (0,true)) (M.lift (vlen t147))).bind fun t148 =>
 (guarded [(0,t144)] (some (0,true)) (M.lift (Ax.bin .gtr t148 (V.int .i64 0)))).bind fun t149 =>
 (M.lift (Ax.pick t144 t149 (V.bool false))).bind fun t150 =>
 M.pure (.ret [t150]))
 ((M.lift (Ax.bin .eql t117 (V.int .i64 17))).bind fun t152 =>
 M.ite t152
 ((M.lift (Ax.faddr 4 t1)).bind fun t153 =>
 (mload none t153).bind fun t154 =>
 (M.lift (Ax.bin .lss t154 (V.int .i64 256))).bind fun t155 =>
 (guarded [(0,t155)] (some (0,true)) (M.pure (L0.getD 0 .undef))).bind fun t157 =>
 (M.lift (Ax.pick t155 t157 (V.bool false))).bind fun t158 =>
 (guarded [(0,t158)] (some (0,true)) (M.lift (Ax.faddr 5 t1))).bind fun t160 =>
 (guarded [(0,t158)] (some (0,true)) (mload none t160)).bind fun t161 =>
 (guarded [(0,t158)] (some (0,true)) (M.lift (Ax.faddr 3 t1))).bind fun t162 =>
 (guarded [(0,t158)] (some (0,true)) (mload none t162)).bind fun t163 =>
 (guarded [(0,t158)] (some (0,true)) (M.lift (Ax.bin .geq t161 t163))).bind fun t164 =>
 (M.lift (Ax.pick t158 t164 (V.bool false))).bind fun t165 =>
 (guarded [(0,t165)] (some (0,true)) (mload (some 7) t1)).bind fun t167 =>
 (guarded [(0,t165)] (some (0,true)) (G za2 [t167])).bind fun t168 =>
 (M.lift (Ax.pick t165 t168 (V.bool false))).bind fun t169 =>
 M.pure (.ret [t169]))
 ((M.lift (Ax.bin .eql t117 (V.int .i64 18))).bind fun t171 =>
 M.ite t171
 ((M.lift (Ax.faddr 4 t1)).bind fun t172 =>
 (mload none t172).bind fun t173 =>
 (G zai [t173,(V.int .i64 1),(V.int .i64 13)]).bind fun t174 =>
 (guarded [(0,t174)] (some (0,true)) (M.lift (Ax.faddr 5 t1))).bind fun t176 =>
 (guarded [(0,t174)] (some (0,true)) (mload none t176)).bind fun t177 =>
 (guarded [(0,t174)] (some (0,true)) (M.lift (Ax.bin .leq t177 (V.int .i64 9)))).bind fun t178 =>
 (M.lift (Ax.pick t174 t178 (V.bool false))).bind fun t179 =>
 M.pure (.ret [t179]))
 ((M.lift (Ax.bin .eql t117 (V.int .i64 19))).bind fun t181 =>
 M.ite t181
 ((M.lift (Ax.faddr 4 t1)).bind fun t182 =>
 (mload none t182).bind fun t183 =>
 (M.lift (Ax.bin .lss t183 (V.int .i64 256))).bind fun t184 =>
 (guarded [(0,t184)] (some (0,true)) (M.pure (L0.getD 0 .undef))).bind fun t186 =>
 (M.lift (Ax.pick t184 t186 (V.bool false))).bind fun t187 =>
 (guarded [(0,t187)] (some (0,true)) (M.lift (Ax.faddr 5 t1))).bind fun t189 =>
 (guarded [(0,t187)] (some (0,true)) (mload none t189)).bind fun t190 =>
 (guarded [(0,t187)] (some (0,true)) (M.lift (Ax.bin .leq t190 (V.int .i64 63)))).bind fun t191 =>
 (M.lift (Ax.pick t187 t191 (V.bool false))).bind fun t192 =>
 M.pure (.ret [t192]))
 ((M.lift (Ax.bin .eql t117 (V.int .i64 20))).bind fun t194 =>
 M.ite t194
 ((M.lift (Ax.faddr 4 t1)).bind fun t195 =>
 (mload none t195).bind fun t196 =>
 (M.lift (Ax.bin .lss t196 (V.int .i64 256))).bind fun t197 =>
 (guarded [(0,t197)] (some (0,true)) (M.pure (L0.getD 0 .undef))).bind fun t199 =>
 (guarded [(0,t197)] (some (0,true)) (M.lift (Ax.un .not t199))).bind fun t200 =>
 (M.lift (Ax.pick t197 t200 (V.bool false))).bind fun t201 =>
 M.pure (.ret [t201]))
 ((M.lift (Ax.bin .eql t117 (V.int .i64 24))).bind fun t203 =>
 M.ite t203
 ((M.lift (Ax.faddr 6 t1)).bind fun t204 =>
 (mload none t204).bind fun t205 =>
 (M.lift (vlen t205)).bind fun t206 =>
 (M.lift (Ax.bin .eql t206 (V.int .i64 4))).bind fun t207 =>
 M.pure (.ret [t207]))
 (M.pure (.nrm [])))))))))) fun _ =>
 M.pure (.ret [(V.bool true)])))
def ir_palanquinref16_Good:Fn':=(T zaj).getD noF
theorem tb_palanquinref16_Good:T zaj = some ir_palanquinref16_Good:=by kernel_rfl
theorem eq_palanquinref16_Good (G:Sem') (t0:V):execK G ir_palanquinref16_Good.rv ir_palanquinref16_Good.body [] [] (params 0 [t0]) = f_palanquinref16_Good G t0:=by kernel_rfl
def zcw (G:Sem'):List V → M V
 | [t0]=>fin (f_palanquinref16_Good G t0)
 | _=>M.fail
theorem zfH {g:Sem'} (hg:Sims g (sem T)) (args:List V):Sim (zcw g args) (sem T zaj args):=by
 unfold zcw;split
 ·exact zaO tb_palanquinref16_Good (Nat.le_of_ble_eq_true (by kernel_rfl)) hg (eq_palanquinref16_Good g _)
 ·exact zac
def f_palanquinref16_Bytes (G:Sem') (t0:V):M Res :=
 (mbox zab t0).bind fun t1 =>
 (mload (some 7) t1).bind fun t5 =>
 (G zaj [t5]).bind fun t6 =>
 (M.lift (Ax.un .not t6)).bind fun t7 =>
 M.ite t7
 (M.pure (.ret [V.nils,(V.int .i64 1)]))
 ((M.lift (Ax.faddr 0 t1)).bind fun t8 =>
 (mload none t8).bind fun t9 =>
 (M.lift (Ax.cint .u8 t9)).bind fun t10 =>
 (M.lift (Ax.faddr 1 t1)).bind fun t11 =>
 (mload none t11).bind fun t12 =>
 (M.lift (Ax.cint .u8 t12)).bind fun t13 =>
 (M.lift (Ax.faddr 2 t1)).bind fun t14 =>
 (mload none t14).bind fun t15 =>
 (M.lift (Ax.cint .u8 t15)).bind fun t16 =>
 (mslit zaB 3 [(V.int .u8 0)] [(0,1,t10),(1,1,t13),(2,1,t16)]).bind fun t17 =>
 (M.lift (Ax.faddr 3 t1)).bind fun t19 =>
 (mload none t19).bind fun t20 =>
 (M.lift (Ax.cint .u64 t20)).bind fun t21 =>
 (G zav [t17,t21,(V.int .i64 2)]).bind fun t22 =>
 (M.lift (Ax.faddr 4 t1)).bind fun t24 =>
 (mload none t24).bind fun t25 =>
 (M.lift (Ax.cint .u64 t25)).bind fun t26 =>
 (G zav [t22,t26,(V.int .i64 2)]).bind fun t27 =>
 (M.lift (Ax.faddr 5 t1)).bind fun t29 =>
 (mload none t29).bind fun t30 =>
 (M.lift (Ax.cint .u64 t30)).bind fun t31 =>
 (G zav [t27,t31,(V.int .i64 2)]).bind fun t32 =>
 (M.lift (Ax.faddr 6 t1)).bind fun t34 =>
 (mload none t34).bind fun t35 =>
 (M.lift (vlen t35)).bind fun t36 =>
 (M.lift (Ax.cint .u64 t36)).bind fun t37 =>
 (M.lift (Ax.faddr 6 t1)).bind fun t39 =>
 (mload none t39).bind fun t40 =>
 M.getH.bind fun h0 =>
 (G zav [t32,t37,(V.int .i64 2)]).bind fun t38 =>
 M.getH.bind fun h0' =>
 (M.unch t39 h0 h0').bind fun _ =>
 (mappend zaB 1 1 t38 t40).bind fun t41 =>
 M.pure (.ret [t41,(V.int .i64 0)]))
def ir_palanquinref16_Bytes:Fn':=(T zaC).getD noF
theorem tb_palanquinref16_Bytes:T zaC = some ir_palanquinref16_Bytes:=by kernel_rfl
theorem eq_palanquinref16_Bytes (G:Sem') (t0:V):execK G ir_palanquinref16_Bytes.rv ir_palanquinref16_Bytes.body [] [] (params 0 [t0]) = f_palanquinref16_Bytes G t0:=by kernel_rfl
def zcm (G:Sem'):List V → M V
 | [t0]=>fin (f_palanquinref16_Bytes G t0)
 | _=>M.fail
theorem zfv {g:Sem'} (hg:Sims g (sem T)) (args:List V):Sim (zcm g args) (sem T zaC args):=by
 unfold zcm;split
 ·exact zaO tb_palanquinref16_Bytes (Nat.le_of_ble_eq_true (by kernel_rfl)) hg (eq_palanquinref16_Bytes g _)
 ·exact zac
def f_palanquinref1_U_0 (G:Sem') (t1 t6:V) (L:List V):M Res :=
 (M.lift (Ax.bin .geq (L.getD 1 .undef) (V.int .i64 0))).bind fun t15 =>
 M.ite t15
 (M.blk 1 (
 (M.lift (Ax.bin .mul (V.int .i64 8) (L.getD 1 .undef))).bind fun t21 =>
 (M.lift (Ax.cint .u64 t21)).bind fun t22 =>
 (M.lift (Ax.bin .shr t1 t22)).bind fun t23 =>
 (M.lift (Ax.cint .u8 t23)).bind fun t24 =>
 (mslit zaB 1 [(V.int .u8 0)] [(0,1,t24)]).bind fun t25 =>
 (mappend zaB 1 1 (L.getD 0 .undef) t25).bind fun t26 =>
 M.pure (.nrm [t26])) fun L0 =>
 (M.lift (Ax.bin .sub (L.getD 1 .undef) (V.int .i64 1))).bind fun t17 =>
 M.pure (.nrm [(L0.getD 0 .undef),t17]))
 (M.pure (.ex 0 [(L.getD 0 .undef)]))
def f_palanquinref1_U (G:Sem') (t0 t1 t2:V):M Res :=
 (mslit zaB 0 [(V.int .u8 0)] []).bind fun t9 =>
 (mappend zaB 1 1 t9 t0).bind fun t11 =>
 (M.lift (Ax.bin .sub t2 (V.int .i64 1))).bind fun t13 =>
 M.blk 0 (
 M.iter (f_palanquinref1_U_0 G t1 V.nils) [t11,t13]) fun L1 =>
 M.pure (.ret [(L1.getD 0 .undef)])
def ir_palanquinref1_U:Fn':=(T zav).getD noF
theorem tb_palanquinref1_U:T zav = some ir_palanquinref1_U:=by kernel_rfl
theorem eq_palanquinref1_U (G:Sem') (t0 t1 t2:V):execK G ir_palanquinref1_U.rv ir_palanquinref1_U.body [] [] (params 0 [t0,t1,t2]) = f_palanquinref1_U G t0 t1 t2:=by kernel_rfl
def zdp (G:Sem'):List V → M V
 | [t0,t1,t2]=>fin (f_palanquinref1_U G t0 t1 t2)
 | _=>M.fail
theorem zh1 {g:Sem'} (hg:Sims g (sem T)) (args:List V):Sim (zdp g args) (sem T zav args):=by
 unfold zdp;split
 ·exact zaO tb_palanquinref1_U (Nat.le_of_ble_eq_true (by kernel_rfl)) hg (eq_palanquinref1_U g _ _ _)
 ·exact zac
def f_slots_Good_0 (G:Sem') (t8 t1:V) (L:List V):M Res :=
 (M.lift (Ax.bin .lss (L.getD 0 .undef) (V.int .i64 8))).bind fun t10 =>
 M.ite t10
 (M.blk 1 (
 (M.lift (Ax.index 8 1 none t8 (L.getD 0 .undef))).bind fun t12 =>
 (M.lift (Ax.faddr 0 t1)).bind fun t14 =>
 (M.lift (Ax.iaddr (some 8) 1 t14 (L.getD 0 .undef))).bind fun t15 =>
 (mload none t15).bind fun t16 =>
 (M.lift (Ax.un .not t16)).bind fun t17 =>
 M.ite t17
 ((M.lift (Ax.bin .neq t12 (V.int .i64 0))).bind fun t19 =>
 M.ite t19
 (M.pure (.ret [(V.bool false)]))
 (M.pure (.ex 1 [])))
 ((mload (some 16) t1).bind fun t21 =>
 (G za8 [t21,t12]).bind fun t23 =>
 (M.lift (Ax.ext 0 t23)).bind fun t24 =>
 (M.lift (Ax.ext 1 t23)).bind fun t25 =>
 (M.lift (Ax.bin .neq t24 (L.getD 0 .undef))).bind fun t28 =>
 (guarded [(0,t28)] (some (0,false)) (M.pure t12)).bind fun t30 =>
 (guarded [(0,t28)] (some (0,false)) (G zbe [t30])).bind fun t31 =>
 (guarded [(0,t28)] (some (0,false)) (M.lift (Ax.un .not t31))).bind fun t32 =>
 (M.lift (Ax.pick t28 (V.bool true) t32)).bind fun t33 =>
 M.ite t33
 (M.pure (.ret [(V.bool false)]))
 (M.pure (.nrm [])))) fun _ =>
 (M.lift (Ax.bin .add (L.getD 0 .undef) (V.int .i64 1))).bind fun t34 =>
 M.pure (.nrm [t34]))
 (M.pure (.ex 0 []))
def f_slots_Good (G:Sem') (t0:V):M Res :=
 (mbox zah t0).bind fun t1 =>
 (M.lift (Ax.faddr 8 t1)).bind fun t7 =>
 (mload (some 8) t7).bind fun t8 =>
 M.blk 0 (
 M.iter (f_slots_Good_0 G t8 t1) [(V.int .i64 0)]) fun _ =>
 M.pure (.ret [(V.bool true)])
def ir_slots_Good:Fn':=(T zaT).getD noF
theorem tb_slots_Good:T zaT = some ir_slots_Good:=by kernel_rfl
theorem eq_slots_Good (G:Sem') (t0:V):execK G ir_slots_Good.rv ir_slots_Good.body [] [] (params 0 [t0]) = f_slots_Good G t0:=by kernel_rfl
def zf3 (G:Sem'):List V → M V
 | [t0]=>fin (f_slots_Good G t0)
 | _=>M.fail
theorem zmj {g:Sem'} (hg:Sims g (sem T)) (args:List V):Sim (zf3 g args) (sem T zaT args):=by
 unfold zf3;split
 ·exact zaO tb_slots_Good (Nat.le_of_ble_eq_true (by kernel_rfl)) hg (eq_slots_Good g _)
 ·exact zac
def f_rekey_Good (G:Sem') (t0:V):M Res :=
 (mbox zal t0).bind fun t1 =>
 (M.lift (Ax.faddr 0 t1)).bind fun t3 =>
 (mload none t3).bind fun t4 =>
 (M.lift (Ax.bin .lss t4 (V.int .i64 0))).bind fun t5 =>
 (guarded [(0,t5)] (some (0,false)) (M.lift (Ax.faddr 0 t1))).bind fun t7 =>
 (guarded [(0,t5)] (some (0,false)) (mload none t7)).bind fun t8 =>
 (guarded [(0,t5)] (some (0,false)) (M.lift (Ax.bin .gtr t8 (V.int .i64 65535)))).bind fun t9 =>
 (M.lift (Ax.pick t5 (V.bool true) t9)).bind fun t10 =>
 M.ite t10
 (M.pure (.ret [(V.bool false)]))
 ((M.lift (Ax.faddr 1 t1)).bind fun t11 =>
 (mload none t11).bind fun t12 =>
 (M.lift (Ax.un .not t12)).bind fun t13 =>
 M.ite t13
 ((mload (some 6) t1).bind fun t14 =>
 (M.lift (Ax.faddr 0 t1)).bind fun t15 =>
 (mload none t15).bind fun t16 =>
 (M.lift (Ax.build [(V.int .i64 0),(V.bool false),(V.int .i64 0),(V.int .i64 0),(V.int .i64 0),(V.int .i64 0)] [(0,1,t16)])).bind fun t17 =>
 (M.lift (eqr (.st [.int,.bool,.int,.int,.int,.int]) false t14 t17)).bind fun t18 =>
 M.pure (.ret [t18]))
 ((M.lift (Ax.faddr 2 t1)).bind fun t19 =>
 (mload none t19).bind fun t20 =>
 (M.lift (Ax.faddr 0 t1)).bind fun t21 =>
 (mload none t21).bind fun t22 =>
 (M.lift (Ax.bin .gtr t20 t22)).bind fun t23 =>
 (guarded [(0,t23)] (some (0,true)) (M.lift (Ax.faddr 2 t1))).bind fun t25 =>
 (guarded [(0,t23)] (some (0,true)) (mload none t25)).bind fun t26 =>
 (guarded [(0,t23)] (some (0,true)) (M.lift (Ax.bin .leq t26 (V.int .i64 65535)))).bind fun t27 =>
 (M.lift (Ax.pick t23 t27 (V.bool false))).bind fun t28 =>
 (guarded [(0,t28)] (some (0,true)) (M.lift (Ax.faddr 3 t1))).bind fun t30 =>
 (guarded [(0,t28)] (some (0,true)) (mload none t30)).bind fun t31 =>
 (guarded [(0,t28)] (some (0,true)) (M.lift (Ax.bin .geq t31 (V.int .i64 1)))).bind fun t32 =>
 (M.lift (Ax.pick t28 t32 (V.bool false))).bind fun t33 =>
 (guarded [(0,t33)] (some (0,true)) (M.lift (Ax.faddr 3 t1))).bind fun t35 =>
 (guarded [(0,t33)] (some (0,true)) (mload none t35)).bind fun t36 =>
 (guarded [(0,t33)] (some (0,true)) (M.lift (Ax.bin .leq t36 (V.int .i64 255)))).bind fun t37 =>
 (M.lift (Ax.pick t33 t37 (V.bool false))).bind fun t38 =>
 (guarded [(0,t38)] (some (0,true)) (M.lift (Ax.faddr 4 t1))).bind fun t40 =>
 (guarded [(0,t38)] (some (0,true)) (mload none t40)).bind fun t41 =>
 (guarded [(0,t38)] (some (0,true)) (M.lift (Ax.faddr 3 t1))).bind fun t42 =>
 (guarded [(0,t38)] (some (0,true)) (mload none t42)).bind fun t43 =>
 (guarded [(0,t38)] (some (0,true)) (M.lift (Ax.bin .andNot t41 t43))).bind fun t44 =>
 (guarded [(0,t38)] (some (0,true)) (M.lift (Ax.bin .eql t44 (V.int .i64 0)))).bind fun t45 =>
 (M.lift (Ax.pick t38 t45 (V.bool false))).bind fun t46 =>
 (guarded [(0,t46)] (some (0,true)) (M.lift (Ax.faddr 4 t1))).bind fun t48 =>
 (guarded [(0,t46)] (some (0,true)) (mload none t48)).bind fun t49 =>
 (guarded [(0,t46)] (some (0,true)) (M.lift (Ax.faddr 3 t1))).bind fun t50 =>
 (guarded [(0,t46)] (some (0,true)) (mload none t50)).bind fun t51 =>
 (guarded [(0,t46)] (some (0,true)) (M.lift (Ax.bin .neq t49 t51))).bind fun t52 =>
 (M.lift (Ax.pick t46 t52 (V.bool false))).bind fun t53 =>
 M.pure (.ret [t53])))
def ir_rekey_Good:Fn':=(T za1).getD noF
theorem tb_rekey_Good:T za1 = some ir_rekey_Good:=by kernel_rfl
theorem eq_rekey_Good (G:Sem') (t0:V):execK G ir_rekey_Good.rv ir_rekey_Good.body [] [] (params 0 [t0]) = f_rekey_Good G t0:=by kernel_rfl
def zf8 (G:Sem'):List V → M V
 | [t0]=>fin (f_rekey_Good G t0)
 | _=>M.fail
theorem zmo {g:Sem'} (hg:Sims g (sem T)) (args:List V):Sim (zf8 g args) (sem T za1 args):=by
 unfold zf8;split
 ·exact zaO tb_rekey_Good (Nat.le_of_ble_eq_true (by kernel_rfl)) hg (eq_rekey_Good g _)
 ·exact zac
def f_slots_Mask_0 (G:Sem') (t10 t2:V) (L:List V):M Res :=
 (M.lift (Ax.bin .lss (L.getD 1 .undef) (V.int .i64 8))).bind fun t12 =>
 M.ite t12
 (M.blk 1 (
 (M.lift (Ax.index 8 1 none t10 (L.getD 1 .undef))).bind fun t14 =>
 M.join (M.ite t14
 ((M.lift (Ax.bin .shl (V.int .i64 1) (L.getD 1 .undef))).bind fun t18 =>
 (M.lift (Ax.bin .or (L.getD 0 .undef) t18)).bind fun t19 =>
 M.pure (.nrm [t19]))
 (M.pure (.nrm [(L.getD 0 .undef)]))) fun L0 =>
 M.pure (.nrm [(L0.getD 0 .undef)])) fun L1 =>
 (M.lift (Ax.bin .add (L.getD 1 .undef) (V.int .i64 1))).bind fun t20 =>
 M.pure (.nrm [(L1.getD 0 .undef),t20]))
 (M.pure (.ex 0 [(L.getD 0 .undef)]))
def f_slots_Mask (G:Sem') (t0:V):M Res :=
 (mbox zah t0).bind fun t1 =>
 (mload (some 16) t1).bind fun t6 =>
 (G zaT [t6]).bind fun t7 =>
 (M.lift (Ax.un .not t7)).bind fun t8 =>
 M.ite t8
 (M.pure (.ret [(V.int .i64 0)]))
 ((M.lift (Ax.faddr 0 t1)).bind fun t9 =>
 (mload (some 8) t9).bind fun t10 =>
 M.blk 0 (
 M.iter (f_slots_Mask_0 G t10 (V.int .i64 0)) [(V.int .i64 0),(V.int .i64 0)]) fun L2 =>
 M.pure (.ret [(L2.getD 0 .undef)]))
def ir_slots_Mask:Fn':=(T za0).getD noF
theorem tb_slots_Mask:T za0 = some ir_slots_Mask:=by kernel_rfl
theorem eq_slots_Mask (G:Sem') (t0:V):execK G ir_slots_Mask.rv ir_slots_Mask.body [] [] (params 0 [t0]) = f_slots_Mask G t0:=by kernel_rfl
def zf2 (G:Sem'):List V → M V
 | [t0]=>fin (f_slots_Mask G t0)
 | _=>M.fail
theorem zmi {g:Sem'} (hg:Sims g (sem T)) (args:List V):Sim (zf2 g args) (sem T za0 args):=by
 unfold zf2;split
 ·exact zaO tb_slots_Mask (Nat.le_of_ble_eq_true (by kernel_rfl)) hg (eq_slots_Mask g _)
 ·exact zac
def f_post_Counts_One (G:Sem') (t0 t1:V):M Res :=
 (M.lift (Ax.bin .geq t1 (V.int .i64 0))).bind fun t5 =>
 (guarded [(0,t5)] (some (0,true)) (M.pure t1)).bind fun t7 =>
 (guarded [(0,t5)] (some (0,true)) (M.pure t0)).bind fun t8 =>
 (guarded [(0,t5)] (some (0,true)) (M.lift (Ax.nilck t8))).bind fun t9 =>
 (guarded [(0,t5)] (some (0,true)) (M.lift (Ax.faddr 0 t9))).bind fun t10 =>
 (guarded [(0,t5)] (some (0,true)) (mload none t10)).bind fun t11 =>
 (guarded [(0,t5)] (some (0,true)) (M.lift (vlen t11))).bind fun t12 =>
 (guarded [(0,t5)] (some (0,true)) (M.lift (Ax.bin .lss t7 t12))).bind fun t13 =>
 (M.lift (Ax.pick t5 t13 (V.bool false))).bind fun t14 =>
 M.join (M.ite t14
 ((M.lift (Ax.nilck t0)).bind fun t16 =>
 (M.lift (Ax.faddr 0 t16)).bind fun t17 =>
 (mload none t17).bind fun t18 =>
 (M.lift (Ax.iaddr none 1 t18 t1)).bind fun t20 =>
 (G zaE [t20,(V.int .i64 1)]).bind fun t21 =>
 M.pure (.nrm []))
 (M.pure (.nrm []))) fun _ =>
 M.pure (.ret [])
def ir_post_Counts_One:Fn':=(T zaG).getD noF
theorem tb_post_Counts_One:T zaG = some ir_post_Counts_One:=by kernel_rfl
theorem eq_post_Counts_One (G:Sem') (t0 t1:V):execK G ir_post_Counts_One.rv ir_post_Counts_One.body [] [] (params 0 [t0,t1]) = f_post_Counts_One G t0 t1:=by kernel_rfl
def zdo (G:Sem'):List V → M V
 | [t0,t1]=>fin (f_post_Counts_One G t0 t1)
 | _=>M.fail
theorem zh0 {g:Sem'} (hg:Sims g (sem T)) (args:List V):Sim (zdo g args) (sem T zaG args):=by
 unfold zdo;split
 ·exact zaO tb_post_Counts_One (Nat.le_of_ble_eq_true (by kernel_rfl)) hg (eq_post_Counts_One g _ _)
 ·exact zac
def f_desk_Desk_where_0 (G:Sem') (t1 t0:V) (L:List V):M Res :=
 (M.lift (Ax.bin .lss (L.getD 0 .undef) (V.int .i64 4))).bind fun t11 =>
 M.ite t11
 (M.blk 1 (
 (M.lift (Ax.nilck t0)).bind fun t16 =>
 (M.lift (Ax.faddr 0 t16)).bind fun t17 =>
 (M.lift (Ax.iaddr (some 4) 367 t17 (L.getD 0 .undef))).bind fun t18 =>
 (M.lift (Ax.faddr 0 t18)).bind fun t19 =>
 (M.lift (Ax.faddr 0 t19)).bind fun t20 =>
 (mload (some 16) t20).bind fun t21 =>
 (G zbf [t21,t1]).bind fun t23 =>
 (M.lift (Ax.ext 0 t23)).bind fun t24 =>
 (M.lift (Ax.ext 1 t23)).bind fun t25 =>
 M.ite t25
 ((M.lift (Ax.nilck t0)).bind fun t29 =>
 (M.lift (Ax.faddr 0 t29)).bind fun t30 =>
 (M.lift (Ax.iaddr (some 4) 367 t30 (L.getD 0 .undef))).bind fun t31 =>
 M.pure (.ret [t31,t24,(V.bool true)]))
 (M.pure (.nrm []))) fun _ =>
 (M.lift (Ax.bin .add (L.getD 0 .undef) (V.int .i64 1))).bind fun t33 =>
 M.pure (.nrm [t33]))
 (M.pure (.ex 0 []))
def f_desk_Desk_where (G:Sem') (t0 t1:V):M Res :=
 M.blk 0 (
 M.iter (f_desk_Desk_where_0 G t1 t0) [(V.int .i64 0)]) fun _ =>
 M.pure (.ret [V.nilp,(V.int .i64 0),(V.bool false)])
def ir_desk_Desk_where:Fn':=(T zaK).getD noF
theorem tb_desk_Desk_where:T zaK = some ir_desk_Desk_where:=by kernel_rfl
theorem eq_desk_Desk_where (G:Sem') (t0 t1:V):execK G ir_desk_Desk_where.rv ir_desk_Desk_where.body [] [] (params 0 [t0,t1]) = f_desk_Desk_where G t0 t1:=by kernel_rfl
def zdq (G:Sem'):List V → M V
 | [t0,t1]=>fin (f_desk_Desk_where G t0 t1)
 | _=>M.fail
theorem zh2 {g:Sem'} (hg:Sims g (sem T)) (args:List V):Sim (zdq g args) (sem T zaK args):=by
 unfold zdq;split
 ·exact zaO tb_desk_Desk_where (Nat.le_of_ble_eq_true (by kernel_rfl)) hg (eq_desk_Desk_where g _ _)
 ·exact zac
def f_note_Parse (G:Sem') (t0:V):M Res :=
 (mbox zcU t0).bind fun t1 =>
 (mbox zae (V.agg [(V.int .i64 0),(V.int .i64 0),(V.int .i64 0),(V.int .i64 0),(V.int .i64 0),(V.int .i64 0),V.nils])).bind fun t2 =>
 (mload none t1).bind fun t8 =>
 (M.lift (vlen t8)).bind fun t9 =>
 (M.lift (Ax.bin .lss t9 (V.int .i64 11))).bind fun t10 =>
 M.ite t10
 ((M.lift (Ax.build [(V.int .i64 0),(V.int .i64 0),(V.int .i64 0),(V.int .i64 0),(V.int .i64 0),(V.int .i64 0),V.nils] [])).bind fun t11 =>
 (mstore 7 t2 t11).bind fun _ =>
 (mload (some 7) t2).bind fun r0 =>
 M.pure (.ret [r0,(V.int .i64 3)]))
 ((M.pure (.fn zaN [t1])).bind fun t12 =>
 (mload none t1).bind fun t13 =>
 (M.lift (Ax.iaddr none 1 t13 (V.int .i64 0))).bind fun t14 =>
 (mload none t14).bind fun t15 =>
 (M.lift (Ax.cint .i64 t15)).bind fun t16 =>
 (mload none t1).bind fun t17 =>
 (M.lift (Ax.iaddr none 1 t17 (V.int .i64 1))).bind fun t18 =>
 (mload none t18).bind fun t19 =>
 (M.lift (Ax.cint .i64 t19)).bind fun t20 =>
 (mload none t1).bind fun t21 =>
 (M.lift (Ax.iaddr none 1 t21 (V.int .i64 2))).bind fun t22 =>
 (mload none t22).bind fun t23 =>
 (M.lift (Ax.cint .i64 t23)).bind fun t24 =>
 M.getH.bind fun h0 =>
 (callv G t12 [(V.int .i64 3)]).bind fun t26 =>
 M.getH.bind fun h0' =>
 (M.unch t22 h0 h0').bind fun _ =>
 (M.unch t1 h0 h0').bind fun _ =>
 (M.unch t18 h0 h0').bind fun _ =>
 (M.unch t1 h0 h0').bind fun _ =>
 (M.unch t14 h0 h0').bind fun _ =>
 (M.unch t1 h0 h0').bind fun _ =>
 M.getH.bind fun h1 =>
 (callv G t12 [(V.int .i64 5)]).bind fun t28 =>
 M.getH.bind fun h1' =>
 (M.unch t22 h1 h1').bind fun _ =>
 (M.unch t1 h1 h1').bind fun _ =>
 (M.unch t18 h1 h1').bind fun _ =>
 (M.unch t1 h1 h1').bind fun _ =>
 (M.unch t14 h1 h1').bind fun _ =>
 (M.unch t1 h1 h1').bind fun _ =>
 M.getH.bind fun h2 =>
 (callv G t12 [(V.int .i64 7)]).bind fun t30 =>
 M.getH.bind fun h2' =>
 (M.unch t22 h2 h2').bind fun _ =>
 (M.unch t1 h2 h2').bind fun _ =>
 (M.unch t18 h2 h2').bind fun _ =>
 (M.unch t1 h2 h2').bind fun _ =>
 (M.unch t14 h2 h2').bind fun _ =>
 (M.unch t1 h2 h2').bind fun _ =>
 (M.lift (Ax.build [(V.int .i64 0),(V.int .i64 0),(V.int .i64 0),(V.int .i64 0),(V.int .i64 0),(V.int .i64 0),V.nils] [(0,1,t16),(1,1,t20),(2,1,t24),(3,1,t26),(4,1,t28),(5,1,t30)])).bind fun t31 =>
 (mbox zae (V.agg [(V.int .i64 0),(V.int .i64 0),(V.int .i64 0),(V.int .i64 0),(V.int .i64 0),(V.int .i64 0),V.nils])).bind fun t5 =>
 (mstore 7 t5 t31).bind fun _ =>
 (mload none t1).bind fun t34 =>
 (M.lift (zbI .sl 1 t34 (some (V.int .i64 11)) none none)).bind fun t35 =>
 M.getH.bind fun h3 =>
 (callv G t12 [(V.int .i64 9)]).bind fun t33 =>
 M.getH.bind fun h3' =>
 (M.unch t1 h3 h3').bind fun _ =>
 M.blk 0 (
 (M.lift (Ax.bin .gtr t33 (V.int .i64 200))).bind fun t38 =>
 M.ite t38
 ((M.lift (Ax.build [(V.int .i64 0),(V.int .i64 0),(V.int .i64 0),(V.int .i64 0),(V.int .i64 0),(V.int .i64 0),V.nils] [])).bind fun t39 =>
 (mstore 7 t2 t39).bind fun _ =>
 (mload (some 7) t2).bind fun r0 =>
 M.pure (.ret [r0,(V.int .i64 4)]))
 ((M.lift (vlen t35)).bind fun t43 =>
 (M.lift (Ax.bin .gtr t33 t43)).bind fun t44 =>
 M.ite t44
 ((M.lift (Ax.build [(V.int .i64 0),(V.int .i64 0),(V.int .i64 0),(V.int .i64 0),(V.int .i64 0),(V.int .i64 0),V.nils] [])).bind fun t45 =>
 (mstore 7 t2 t45).bind fun _ =>
 (mload (some 7) t2).bind fun r0 =>
 M.pure (.ret [r0,(V.int .i64 3)]))
 ((M.lift (vlen t35)).bind fun t49 =>
 (M.lift (Ax.bin .lss t33 t49)).bind fun t50 =>
 M.ite t50
 ((M.lift (Ax.build [(V.int .i64 0),(V.int .i64 0),(V.int .i64 0),(V.int .i64 0),(V.int .i64 0),(V.int .i64 0),V.nils] [])).bind fun t51 =>
 (mstore 7 t2 t51).bind fun _ =>
 (mload (some 7) t2).bind fun r0 =>
 M.pure (.ret [r0,(V.int .i64 2)]))
 (M.pure (.nrm []))))) fun _ =>
 (G za7 [t35]).bind fun t53 =>
 (M.lift (Ax.faddr 6 t5)).bind fun t54 =>
 (mstore 1 t54 t53).bind fun _ =>
 (mload (some 7) t5).bind fun t55 =>
 (G zbb [t55]).bind fun t56 =>
 (M.lift (Ax.un .not t56)).bind fun t57 =>
 M.ite t57
 ((M.lift (Ax.build [(V.int .i64 0),(V.int .i64 0),(V.int .i64 0),(V.int .i64 0),(V.int .i64 0),(V.int .i64 0),V.nils] [])).bind fun t58 =>
 (mstore 7 t2 t58).bind fun _ =>
 (mload (some 7) t2).bind fun r0 =>
 M.pure (.ret [r0,(V.int .i64 2)]))
 ((mload (some 7) t5).bind fun t59 =>
 (mstore 7 t2 t59).bind fun _ =>
 (mload (some 7) t2).bind fun r0 =>
 M.pure (.ret [r0,(V.int .i64 0)])))
def ir_note_Parse:Fn':=(T zbr).getD noF
theorem tb_note_Parse:T zbr = some ir_note_Parse:=by kernel_rfl
theorem eq_note_Parse (G:Sem') (t0:V):execK G ir_note_Parse.rv ir_note_Parse.body [] [] (params 0 [t0]) = f_note_Parse G t0:=by kernel_rfl
def zf9 (G:Sem'):List V → M V
 | [t0]=>fin (f_note_Parse G t0)
 | _=>M.fail
theorem zmp {g:Sem'} (hg:Sims g (sem T)) (args:List V):Sim (zf9 g args) (sem T zbr args):=by
 unfold zf9;split
 ·exact zaO tb_note_Parse (Nat.le_of_ble_eq_true (by kernel_rfl)) hg (eq_note_Parse g _)
 ·exact zac
def zhJ (G:Sem') (t47 t8 t6:V) (L:List V):M Res :=
 (M.lift (Ax.bin .lss (L.getD 1 .undef) (V.int .i64 8))).bind fun t49 =>
 M.ite t49
 (M.blk 1 (
 (M.lift (Ax.index 8 1 none t47 (L.getD 1 .undef))).bind fun t51 =>
 M.join (M.ite t51
 ((M.lift (Ax.faddr 0 t8)).bind fun t55 =>
 (M.lift (Ax.faddr 8 t55)).bind fun t56 =>
 (M.lift (Ax.iaddr (some 8) 1 t56 (L.getD 1 .undef))).bind fun t57 =>
 (mload none t57).bind fun t58 =>
 (M.lift (Ax.cint .u8 t58)).bind fun t59 =>
 (mslit zaB 1 [(V.int .u8 0)] [(0,1,t59)]).bind fun t60 =>
 (mappend zaB 1 1 (L.getD 0 .undef) t60).bind fun t61 =>
 M.pure (.nrm [t61]))
 ((mslit zaB 1 [(V.int .u8 0)] [(0,1,(V.int .u8 255))]).bind fun t63 =>
 (mappend zaB 1 1 (L.getD 0 .undef) t63).bind fun t64 =>
 M.pure (.nrm [t64]))) fun L0 =>
 M.pure (.nrm [(L0.getD 0 .undef)])) fun L1 =>
 (M.lift (Ax.bin .add (L.getD 1 .undef) (V.int .i64 1))).bind fun t65 =>
 M.pure (.nrm [(L1.getD 0 .undef),t65]))
 (M.pure (.ex 0 [(L.getD 0 .undef)]))
def zfs (G:Sem') (t0 t1 t2:V):M Res :=
 (mbox zae t2).bind fun t5 =>
 (M.lift (Ax.faddr 1 t5)).bind fun t16 =>
 (mload none t16).bind fun t17 =>
 (M.lift (Ax.nilck t0)).bind fun t18 =>
 (M.lift (Ax.faddr 0 t18)).bind fun t19 =>
 (M.lift (Ax.iaddr (some 4) 367 t19 t17)).bind fun t20 =>
 (M.lift (Ax.nilck t20)).bind fun t23 =>
 (M.lift (Ax.faddr 0 t23)).bind fun t24 =>
 (mload (some 39) t24).bind fun t25 =>
 (M.lift (Ax.nilck t0)).bind fun t28 =>
 (M.lift (Ax.faddr 1468 t28)).bind fun t29 =>
 (mload none t29).bind fun t30 =>
 (G zc1 [t25,t1,t30]).bind fun t31 =>
 (M.lift (Ax.ext 0 t31)).bind fun t32 =>
 (mbox zad (V.agg [(V.bool false),(V.bool false),(V.bool false),(V.bool false),(V.bool false),(V.bool false),(V.bool false),(V.bool false),(V.int .i64 0),(V.int .i64 0),(V.int .i64 0),(V.int .i64 0),(V.int .i64 0),(V.int .i64 0),(V.int .i64 0),(V.int .i64 0),(V.int .i64 0),(V.bool false),(V.int .i64 0),(V.int .i64 0),(V.int .i64 0),(V.int .i64 0),(V.int .i64 0),(V.int .i64 0),(V.int .i64 0),(V.int .i64 0),(V.int .i64 0),(V.int .i64 0),(V.int .i64 0),(V.int .i64 0),(V.int .i64 0),(V.int .i64 0),(V.int .i64 0),(V.int .i64 0),(V.int .i64 0),(V.int .i64 0),(V.int .i64 0),(V.int .i64 0),(V.bool false)])).bind fun t8 =>
 (mstore 39 t8 t32).bind fun _ =>
 (M.lift (Ax.ext 1 t31)).bind fun t33 =>
 (M.lift (Ax.ext 2 t31)).bind fun t34 =>
 (M.lift (Ax.bin .neq t34 (V.int .i64 0))).bind fun t36 =>
 M.ite t36
 (M.pure (.ret [t34]))
 ((mload (some 39) t8).bind fun t39 =>
 (M.lift (Ax.nilck t20)).bind fun t40 =>
 (M.lift (Ax.faddr 0 t40)).bind fun t41 =>
 (mstore 39 t41 t39).bind fun _ =>
 (M.lift (Ax.faddr 0 t8)).bind fun t42 =>
 (mload (some 16) t42).bind fun t43 =>
 (G za0 [t43]).bind fun t44 =>
 (M.lift (Ax.faddr 0 t8)).bind fun t45 =>
 (M.lift (Ax.faddr 0 t45)).bind fun t46 =>
 (mload (some 8) t46).bind fun t47 =>
 M.blk 0 (
 M.iter (zhJ G t47 t8 (V.int .i64 0)) [V.nils,(V.int .i64 0)]) fun L2 =>
 (M.lift (Ax.faddr 1 t5)).bind fun t68 =>
 (mload none t68).bind fun t69 =>
 (M.lift (Ax.faddr 16 t8)).bind fun t71 =>
 (M.lift (Ax.faddr 0 t71)).bind fun t72 =>
 (mload none t72).bind fun t73 =>
 M.getH.bind fun h0 =>
 (G zbd [t20]).bind fun t76 =>
 M.getH.bind fun h0' =>
 (M.unch t72 h0 h0').bind fun _ =>
 (M.unch t68 h0 h0').bind fun _ =>
 (M.lift (Ax.build [(V.int .i64 0),(V.int .i64 0),(V.int .i64 0),(V.int .i64 0),(V.int .i64 0),(V.int .i64 0),V.nils] [(0,1,(V.int .i64 17)),(1,1,t69),(2,1,t33),(3,1,t73),(4,1,t44),(5,1,t76),(6,1,(L2.getD 0 .undef))])).bind fun t78 =>
 (G zaM [t0,t1,t78]).bind fun t79 =>
 (M.lift (Ax.faddr 16 t8)).bind fun t84 =>
 (M.lift (Ax.faddr 0 t84)).bind fun t85 =>
 (mload none t85).bind fun t86 =>
 (M.lift (Ax.build [(V.int .i64 0),(V.int .i64 0),(V.int .i64 0),(V.int .i64 0),(V.int .i64 0),(V.int .i64 0),V.nils] [(0,1,(V.int .i64 19)),(2,1,t33),(3,1,t86),(4,1,t44),(5,1,t1)])).bind fun t89 =>
 (G zaR [t0,t20,t33,t89]).bind fun t90 =>
 M.pure (.ret [(V.int .i64 0)]))
def zdl:Fn':=(T zbx).getD noF
theorem zhW:T zbx = some zdl:=by kernel_rfl
theorem ziw (G:Sem') (t0 t1 t2:V):execK G zdl.rv zdl.body [] [] (params 0 [t0,t1,t2]) = zfs G t0 t1 t2:=by kernel_rfl
def zdM (G:Sem'):List V → M V
 | [t0,t1,t2]=>fin (zfs G t0 t1 t2)
 | _=>M.fail
theorem ziW {g:Sem'} (hg:Sims g (sem T)) (args:List V):Sim (zdM g args) (sem T zbx args):=by
 unfold zdM;split
 ·exact zaO zhW (Nat.le_of_ble_eq_true (by kernel_rfl)) hg (ziw g _ _ _)
 ·exact zac
def f_room_Tick_0 (G:Sem') (t25 t6 t7 t1 t2 t4 t5:V) (L:List V):M Res :=
 (M.lift (Ax.bin .lss (L.getD 0 .undef) (V.int .i64 8))).bind fun t27 =>
 M.ite t27
 (M.blk 1 (
 (M.lift (Ax.index 8 1 none t25 (L.getD 0 .undef))).bind fun t29 =>
 (M.lift (Ax.faddr 22 t6)).bind fun t32 =>
 (M.lift (Ax.iaddr (some 8) 1 t32 (L.getD 0 .undef))).bind fun t33 =>
 (mload none t33).bind fun t34 =>
 (M.lift (Ax.bin .geq t1 t34)).bind fun t35 =>
 (guarded [(0,t35)] (some (0,true)) (M.pure t1)).bind fun t37 =>
 (guarded [(0,t35)] (some (0,true)) (M.lift (Ax.cint .u64 t37))).bind fun t38 =>
 (guarded [(0,t35)] (some (0,true)) (M.pure (L.getD 0 .undef))).bind fun t39 =>
 (guarded [(0,t35)] (some (0,true)) (M.lift (Ax.faddr 22 t6))).bind fun t40 =>
 (guarded [(0,t35)] (some (0,true)) (M.lift (Ax.iaddr (some 8) 1 t40 t39))).bind fun t41 =>
 (guarded [(0,t35)] (some (0,true)) (mload none t41)).bind fun t42 =>
 (guarded [(0,t35)] (some (0,true)) (M.lift (Ax.cint .u64 t42))).bind fun t43 =>
 (guarded [(0,t35)] (some (0,true)) (M.lift (Ax.bin .sub t38 t43))).bind fun t44 =>
 (guarded [(0,t35)] (some (0,true)) (M.lift (Ax.bin .geq t44 (V.int .u64 500)))).bind fun t45 =>
 (M.lift (Ax.pick t35 t45 (V.bool false))).bind fun t46 =>
 (guarded [(0,t29)] (some (0,true)) (M.lift (Ax.faddr 38 t2))).bind fun t49 =>
 (guarded [(0,t29)] (some (0,true)) (mload none t49)).bind fun t50 =>
 (guarded [(0,t29)] (some (0,true)) (M.lift (Ax.un .not t50))).bind fun t51 =>
 (M.lift (Ax.pick t29 t51 (V.bool false))).bind fun t52 =>
 (guarded [(0,t52)] (some (0,true)) (M.pure t46)).bind fun t54 =>
 (guarded [(0,t52)] (some (0,true)) (M.pure t54)).bind fun t55 =>
 (guarded [(0,t55)] (some (0,false)) (M.pure t7)).bind fun t56 =>
 (guarded [(0,t55)] (some (0,false)) (M.pure (L.getD 0 .undef))).bind fun t57 =>
 (guarded [(0,t55)] (some (0,false)) (M.lift (Ax.bin .shr t56 t57))).bind fun t58 =>
 (guarded [(0,t55)] (some (0,false)) (M.lift (Ax.bin .and t58 (V.int .i64 1)))).bind fun t59 =>
 (guarded [(0,t55)] (some (0,false)) (M.lift (Ax.bin .eql t59 (V.int .i64 1)))).bind fun t60 =>
 (guarded [(0,t52)] (some (0,true)) (M.lift (Ax.pick t55 (V.bool true) t60))).bind fun t61 =>
 (M.lift (Ax.pick t52 t61 (V.bool false))).bind fun t62 =>
 M.join (M.ite t62
 ((mload (some 39) t2).bind fun t63 =>
 (G zcR [t63,(L.getD 0 .undef),t1]).bind fun t66 =>
 (mstore 39 t2 t66).bind fun _ =>
 M.pure (.nrm []))
 (M.pure (.nrm []))) fun _ =>
 M.pure (.nrm [])) fun _ =>
 (M.lift (Ax.bin .add (L.getD 0 .undef) (V.int .i64 1))).bind fun t67 =>
 M.pure (.nrm [t67]))
 (M.pure (.ex 0 []))
def f_room_Tick_1 (G:Sem') (t70 t2 t4 t5:V) (L:List V):M Res :=
 (M.lift (Ax.bin .lss (L.getD 1 .undef) (V.int .i64 8))).bind fun t72 =>
 M.ite t72
 (M.blk 3 (
 (M.lift (Ax.index 8 1 none t70 (L.getD 1 .undef))).bind fun t74 =>
 (guarded [(0,t74)] (some (0,true)) (M.pure (L.getD 1 .undef))).bind fun t77 =>
 (guarded [(0,t74)] (some (0,true)) (M.lift (Ax.faddr 0 t2))).bind fun t78 =>
 (guarded [(0,t74)] (some (0,true)) (M.lift (Ax.faddr 0 t78))).bind fun t79 =>
 (guarded [(0,t74)] (some (0,true)) (M.lift (Ax.iaddr (some 8) 1 t79 t77))).bind fun t80 =>
 (guarded [(0,t74)] (some (0,true)) (mload none t80)).bind fun t81 =>
 (guarded [(0,t74)] (some (0,true)) (M.lift (Ax.un .not t81))).bind fun t82 =>
 (M.lift (Ax.pick t74 t82 (V.bool false))).bind fun t83 =>
 M.join (M.ite t83
 ((mslit zcp 1 [(V.int .i64 0)] [(0,1,(L.getD 1 .undef))]).bind fun t86 =>
 (mappend zcp 1 8 (L.getD 0 .undef) t86).bind fun t87 =>
 M.pure (.nrm [t87]))
 (M.pure (.nrm [(L.getD 0 .undef)]))) fun L3 =>
 M.pure (.nrm [(L3.getD 0 .undef)])) fun L4 =>
 (M.lift (Ax.bin .add (L.getD 1 .undef) (V.int .i64 1))).bind fun t88 =>
 M.pure (.nrm [(L4.getD 0 .undef),t88]))
 (M.pure (.ex 2 [(L.getD 0 .undef)]))
def f_room_Tick (G:Sem') (t0 t1:V):M Res :=
 (mbox zad t0).bind fun t2 =>
 (mbox zad (V.agg [(V.bool false),(V.bool false),(V.bool false),(V.bool false),(V.bool false),(V.bool false),(V.bool false),(V.bool false),(V.int .i64 0),(V.int .i64 0),(V.int .i64 0),(V.int .i64 0),(V.int .i64 0),(V.int .i64 0),(V.int .i64 0),(V.int .i64 0),(V.int .i64 0),(V.bool false),(V.int .i64 0),(V.int .i64 0),(V.int .i64 0),(V.int .i64 0),(V.int .i64 0),(V.int .i64 0),(V.int .i64 0),(V.int .i64 0),(V.int .i64 0),(V.int .i64 0),(V.int .i64 0),(V.int .i64 0),(V.int .i64 0),(V.int .i64 0),(V.int .i64 0),(V.int .i64 0),(V.int .i64 0),(V.int .i64 0),(V.int .i64 0),(V.int .i64 0),(V.bool false)])).bind fun t4 =>
 (mload (some 39) t2).bind fun t14 =>
 (G zbl [t14]).bind fun t15 =>
 (M.lift (Ax.un .not t15)).bind fun t16 =>
 M.ite t16
 ((mload (some 39) t2).bind fun t17 =>
 (mstore 39 t4 t17).bind fun _ =>
 (mload (some 39) t4).bind fun r0 =>
 M.pure (.ret [r0,V.nils]))
 ((mload (some 39) t2).bind fun t18 =>
 (M.lift (Ax.faddr 16 t2)).bind fun t19 =>
 (mload (some 6) t19).bind fun t20 =>
 M.getH.bind fun h0 =>
 (G zbq [t20,t1]).bind fun t22 =>
 M.getH.bind fun h0' =>
 (M.unch t2 h0 h0').bind fun _ =>
 (mbox zad (V.agg [(V.bool false),(V.bool false),(V.bool false),(V.bool false),(V.bool false),(V.bool false),(V.bool false),(V.bool false),(V.int .i64 0),(V.int .i64 0),(V.int .i64 0),(V.int .i64 0),(V.int .i64 0),(V.int .i64 0),(V.int .i64 0),(V.int .i64 0),(V.int .i64 0),(V.bool false),(V.int .i64 0),(V.int .i64 0),(V.int .i64 0),(V.int .i64 0),(V.int .i64 0),(V.int .i64 0),(V.int .i64 0),(V.int .i64 0),(V.int .i64 0),(V.int .i64 0),(V.int .i64 0),(V.int .i64 0),(V.int .i64 0),(V.int .i64 0),(V.int .i64 0),(V.int .i64 0),(V.int .i64 0),(V.int .i64 0),(V.int .i64 0),(V.int .i64 0),(V.bool false)])).bind fun t6 =>
 (mstore 39 t6 t18).bind fun _ =>
 (M.lift (Ax.faddr 0 t6)).bind fun t23 =>
 (M.lift (Ax.faddr 0 t23)).bind fun t24 =>
 (mload (some 8) t24).bind fun t25 =>
 M.blk 0 (
 M.iter (f_room_Tick_0 G t25 t6 t22 t1 t2 t4 V.nils) [(V.int .i64 0)]) fun _ =>
 (M.lift (Ax.faddr 0 t6)).bind fun t68 =>
 (M.lift (Ax.faddr 0 t68)).bind fun t69 =>
 (mload (some 8) t69).bind fun t70 =>
 M.blk 2 (
 M.iter (f_room_Tick_1 G t70 t2 t4 V.nils) [V.nils,(V.int .i64 0)]) fun L5 =>
 (mload (some 39) t2).bind fun t89 =>
 (mstore 39 t4 t89).bind fun _ =>
 (mload (some 39) t4).bind fun r0 =>
 M.pure (.ret [r0,(L5.getD 0 .undef)]))
def ir_room_Tick:Fn':=(T zbz).getD noF
theorem tb_room_Tick:T zbz = some ir_room_Tick:=by kernel_rfl
theorem eq_room_Tick (G:Sem') (t0 t1:V):execK G ir_room_Tick.rv ir_room_Tick.body [] [] (params 0 [t0,t1]) = f_room_Tick G t0 t1:=by kernel_rfl
def zgW (G:Sem'):List V → M V
 | [t0,t1]=>fin (f_room_Tick G t0 t1)
 | _=>M.fail
theorem znv {g:Sem'} (hg:Sims g (sem T)) (args:List V):Sim (zgW g args) (sem T zbz args):=by
 unfold zgW;split
 ·exact zaO tb_room_Tick (Nat.le_of_ble_eq_true (by kernel_rfl)) hg (eq_room_Tick g _ _)
 ·exact zac
def f_desk_Desk_went_0 (G:Sem') (t17 t1:V) (L:List V):M Res :=
 (M.lift (Ax.bin .lss (L.getD 1 .undef) (V.int .i64 8))).bind fun t19 =>
 M.ite t19
 (M.blk 1 (
 (M.lift (Ax.index 8 1 none t17 (L.getD 1 .undef))).bind fun t21 =>
 (guarded [(0,t21)] (some (0,true)) (M.pure t1)).bind fun t24 =>
 (guarded [(0,t21)] (some (0,true)) (M.pure (L.getD 1 .undef))).bind fun t25 =>
 (guarded [(0,t21)] (some (0,true)) (M.lift (Ax.nilck t24))).bind fun t26 =>
 (guarded [(0,t21)] (some (0,true)) (M.lift (Ax.faddr 0 t26))).bind fun t27 =>
 (guarded [(0,t21)] (some (0,true)) (M.lift (Ax.faddr 0 t27))).bind fun t28 =>
 (guarded [(0,t21)] (some (0,true)) (M.lift (Ax.faddr 0 t28))).bind fun t29 =>
 (guarded [(0,t21)] (some (0,true)) (M.lift (Ax.iaddr (some 8) 1 t29 t25))).bind fun t30 =>
 (guarded [(0,t21)] (some (0,true)) (mload none t30)).bind fun t31 =>
 (guarded [(0,t21)] (some (0,true)) (M.lift (Ax.un .not t31))).bind fun t32 =>
 (M.lift (Ax.pick t21 t32 (V.bool false))).bind fun t33 =>
 M.join (M.ite t33
 ((mslit zcp 1 [(V.int .i64 0)] [(0,1,(L.getD 1 .undef))]).bind fun t36 =>
 (mappend zcp 1 8 (L.getD 0 .undef) t36).bind fun t37 =>
 M.pure (.nrm [t37]))
 (M.pure (.nrm [(L.getD 0 .undef)]))) fun L0 =>
 M.pure (.nrm [(L0.getD 0 .undef)])) fun L1 =>
 (M.lift (Ax.bin .add (L.getD 1 .undef) (V.int .i64 1))).bind fun t38 =>
 M.pure (.nrm [(L1.getD 0 .undef),t38]))
 (M.pure (.ex 0 [(L.getD 0 .undef)]))
def f_desk_Desk_went_1 (G:Sem') (t1 t10:V) (L:List V):M Res :=
 (M.lift (Ax.bin .lss (L.getD 0 .undef) (V.int .i64 8))).bind fun t46 =>
 M.ite t46
 (M.blk 5 (
 (M.lift (Ax.nilck t1)).bind fun t54 =>
 (M.lift (Ax.faddr 303 t54)).bind fun t55 =>
 (M.lift (Ax.iaddr (some 8) 8 t55 t10)).bind fun t56 =>
 (M.lift (Ax.iaddr (some 8) 1 t56 (L.getD 0 .undef))).bind fun t57 =>
 (M.lift (Ax.nilck t1)).bind fun t58 =>
 (M.lift (Ax.faddr 303 t58)).bind fun t59 =>
 (M.lift (Ax.iaddr (some 8) 8 t59 (L.getD 0 .undef))).bind fun t60 =>
 (mstore 1 t57 V.nilp).bind fun _ =>
 (M.lift (Ax.iaddr (some 8) 1 t60 t10)).bind fun t61 =>
 (mstore 1 t61 V.nilp).bind fun _ =>
 M.pure (.nrm [])) fun _ =>
 (M.lift (Ax.bin .add (L.getD 0 .undef) (V.int .i64 1))).bind fun t62 =>
 M.pure (.nrm [t62]))
 (M.pure (.ex 4 []))
def f_desk_Desk_went_2 (G:Sem') (t40 t39 t1 t5 t0:V) (L:List V):M Res :=
 (M.lift (Ax.bin .lss (L.getD 0 .undef) t40)).bind fun t42 =>
 M.ite t42
 (M.blk 3 (
 (M.lift (Ax.iaddr none 1 t39 (L.getD 0 .undef))).bind fun t43 =>
 (mload none t43).bind fun t44 =>
 M.blk 4 (
 M.iter (f_desk_Desk_went_1 G t1 t44) [(V.int .i64 0)]) fun _ =>
 (M.lift (Ax.build [(V.bool false),(V.int .u32 0),(V.int .i64 0),(V.int .i64 0),(V.int .i64 0),V.nils,(V.int .i64 0),V.nils,V.nils,(V.int .u32 0),V.nils,(V.bool false),(V.int .u32 0),(V.int .i64 0),(V.int .i64 0),(V.int .i64 0),V.nils,(V.int .i64 0),V.nils,V.nils,(V.int .u32 0),V.nils,(V.bool false),(V.int .u32 0),(V.int .i64 0),(V.int .i64 0),(V.int .i64 0),V.nils,(V.int .i64 0),V.nils,V.nils,(V.int .u32 0),V.nils] [])).bind fun t65 =>
 (M.lift (Ax.nilck t1)).bind fun t66 =>
 (M.lift (Ax.faddr 39 t66)).bind fun t67 =>
 (M.lift (Ax.iaddr (some 8) 33 t67 t44)).bind fun t68 =>
 (mstore 33 t68 t65).bind fun _ =>
 (M.lift (Ax.faddr 0 t5)).bind fun t70 =>
 (M.lift (Ax.faddr 8 t70)).bind fun t71 =>
 (M.lift (Ax.iaddr (some 8) 1 t71 t44)).bind fun t72 =>
 (mload none t72).bind fun t73 =>
 (M.lift (Ax.nilck t0)).bind fun t76 =>
 (M.lift (Ax.faddr 1470 t76)).bind fun t77 =>
 (M.lift (Ax.iaddr (some 64) 1 t77 t73)).bind fun t78 =>
 (mload none t78).bind fun t79 =>
 (G zba [t79]).bind fun t80 =>
 (M.lift (Ax.build [(V.int .i64 0),(V.int .i64 0),(V.int .i64 0),(V.int .i64 0),(V.int .i64 0),(V.int .i64 0),V.nils] [(0,1,(V.int .i64 23))])).bind fun t83 =>
 (G zaM [t0,t73,t83]).bind fun t84 =>
 M.pure (.nrm [])) fun _ =>
 (M.lift (Ax.bin .add (L.getD 0 .undef) (V.int .i64 1))).bind fun t85 =>
 M.pure (.nrm [t85]))
 (M.pure (.ex 2 []))
def f_desk_Desk_went_3 (G:Sem') (t87 t86 t0 t1:V) (L:List V):M Res :=
 (M.lift (Ax.bin .lss (L.getD 0 .undef) t87)).bind fun t89 =>
 M.ite t89
 (M.blk 7 (
 (M.lift (Ax.iaddr none 1 t86 (L.getD 0 .undef))).bind fun t90 =>
 (mload none t90).bind fun t91 =>
 (M.lift (Ax.nilck t1)).bind fun t99 =>
 (M.lift (Ax.faddr 0 t99)).bind fun t100 =>
 (M.lift (Ax.faddr 0 t100)).bind fun t101 =>
 (mload (some 16) t101).bind fun t102 =>
 M.getH.bind fun h0 =>
 (G zbd [t1]).bind fun t97 =>
 M.getH.bind fun h0' =>
 (M.unch t101 h0 h0').bind fun _ =>
 (G za0 [t102]).bind fun t103 =>
 (M.lift (Ax.build [(V.int .i64 0),(V.int .i64 0),(V.int .i64 0),(V.int .i64 0),(V.int .i64 0),(V.int .i64 0),V.nils] [(0,1,(V.int .i64 20)),(2,1,t91),(3,1,t97),(4,1,t103)])).bind fun t104 =>
 (G zaR [t0,t1,t91,t104]).bind fun t105 =>
 M.pure (.nrm [])) fun _ =>
 (M.lift (Ax.bin .add (L.getD 0 .undef) (V.int .i64 1))).bind fun t106 =>
 M.pure (.nrm [t106]))
 (M.pure (.ex 6 []))
def f_desk_Desk_went (G:Sem') (t0 t1 t2:V):M Res :=
 (mbox zad t2).bind fun t5 =>
 (M.lift (Ax.faddr 0 t5)).bind fun t15 =>
 (M.lift (Ax.faddr 0 t15)).bind fun t16 =>
 (mload (some 8) t16).bind fun t17 =>
 M.blk 0 (
 M.iter (f_desk_Desk_went_0 G t17 t1) [V.nils,(V.int .i64 0)]) fun L2 =>
 (M.lift (vlen (L2.getD 0 .undef))).bind fun t40 =>
 M.blk 2 (
 M.iter (f_desk_Desk_went_2 G t40 (L2.getD 0 .undef) t1 t5 t0) [(V.int .i64 0)]) fun _ =>
 (M.lift (vlen (L2.getD 0 .undef))).bind fun t87 =>
 M.blk 6 (
 M.iter (f_desk_Desk_went_3 G t87 (L2.getD 0 .undef) t0 t1) [(V.int .i64 0)]) fun _ =>
 M.pure (.ret [])
def ir_desk_Desk_went:Fn':=(T zaJ).getD noF
theorem tb_desk_Desk_went:T zaJ = some ir_desk_Desk_went:=by kernel_rfl
theorem eq_desk_Desk_went (G:Sem') (t0 t1 t2:V):execK G ir_desk_Desk_went.rv ir_desk_Desk_went.body [] [] (params 0 [t0,t1,t2]) = f_desk_Desk_went G t0 t1 t2:=by kernel_rfl
def zdI (G:Sem'):List V → M V
 | [t0,t1,t2]=>fin (f_desk_Desk_went G t0 t1 t2)
 | _=>M.fail
theorem ziS {g:Sem'} (hg:Sims g (sem T)) (args:List V):Sim (zdI g args) (sem T zaJ args):=by
 unfold zdI;split
 ·exact zaO tb_desk_Desk_went (Nat.le_of_ble_eq_true (by kernel_rfl)) hg (eq_desk_Desk_went g _ _ _)
 ·exact zac
end Go.Ax.Cc
