/-
  Texts of mine, put together by program (wip/slim.py), for law_lockOpens: part 13.
-/
import Derived.Test.YtmmgnkjdppnboaaGreatZp12
noncomputable section
set_option linter.unusedVariables false
set_option linter.unusedSimpArgs false
set_option linter.defProp false
set_option maxRecDepth 100000
/- Lk22 -/
namespace Go.Ax.SU
open Go.Ax
theorem _root_.Go.Ax.App.low {ty e lo lo' n:Nat} {H:Heap} {v:V} {cells:List V} (h:App ty e lo H v cells n) (hl:lo' ≤ lo):App ty e lo' H v cells n:=by
 cases h with
 | opn h ho=>exact .opn h fun i hi=>⟨Nat.le_trans hl (ho i hi).1,(ho i hi).2⟩
 | lit h h0 h1=>exact .lit h (Nat.le_trans hl h0) h1
theorem zC_len:zC.length = 100:=by kernel_rfl
theorem build_ch {e sl st:Int} {v:V} (vc:v.cells = [v]) (vo:v.okc = true):fill zC [(0,1,.int .i64 e),(1,1,.int .i64 sl),(2,1,.int .i64 st),(3,1,v)] = some (.int .i64 e :: .int .i64 sl :: .int .i64 st :: v :: zW):=by
 have hw:zW.length = 96:=by kernel_rfl
 have ci:∀ (k:IntKind) (n:Int),(V.int k n).cells = [V.int k n]:=fun _ _=>rfl;have oi:∀ (k:IntKind) (n:Int),(V.int k n).okc = true:=fun _ _=>rfl;simp only [fill,zC,ci,oi,vc,vo,List.length_cons,List.length_nil,hw,splice,Nat.reduceAdd,Nat.reduceLeDiff,and_self,if_true,List.take_zero,List.nil_append,List.take_succ_cons,List.drop_succ_cons,List.drop_zero,List.cons_append,List.length_append,List.length_take,List.length_drop]
theorem zvg {cs:List V} (h:cs.length = 100):(if cs.length = 100 ∧ 100 ≤ (zC ++ []).length then some (splice (zC ++ []) 0 cs) else none) = some cs:=by
 have hz:=zC_len;rw [List.append_nil,if_pos ⟨h,by omega⟩];unfold splice;rw [List.take_zero,List.nil_append,List.drop_of_length_le (by omega),List.append_nil]
def isC (e sl:Int) (x:Ch):Bool:=decide (x.e = e) && decide (x.sl = sl)
def addD (D:List Ch) (e sl st:Int) (base:List Nat):List Ch × Nat :=
 if ¬ zct e st sl then (D,1) else if (D.findIdx? (isC e sl)).isSome then (D,7) else if 64 ≤ D.length then (D,5) else (D ++ [⟨e,sl,st.toNat,base,List.replicate 32 (false,0,0)⟩],0)
theorem zjb (e sl:Int) (cs:List (V × Ch)):(cs.map (·.2)).findIdx? (isC e sl) = cs.findIdx? (isK e sl):=by
 rw [List.findIdx?_map];rfl
theorem Add_r_ok {lo lb q id:Nat} {H:Heap} {cs:List (V × Ch)} {bv:V} {base:List Nat} (hD:DM lo H q id cs) (e sl st:Int) (hb:By lb H bv base) (b8:Ok8 base) (bl:base.length ≤ 1048576) :
  Ok (sem T zbi [.ptr q 0,.int .i64 e,.int .i64 sl,.int .i64 st,bv]) H fun r H'=>r = .int .i64 ((addD (cs.map (·.2)) e sl st base).2:Nat) ∧ AtS [q] H H' ∧
   ∃ cs',DM lo H' q id cs' ∧ cs'.map (·.2) = (addD (cs.map (·.2)) e sl st base).1:=by
 refine zfn ?_;unfold zds uL uT uNFM uNF uE uB uc ub;have hko:=@zbM _ _ _ _ (@zsn H e st sl);have hat:=@zbM _ _ _ _ (zno hD e sl);obtain ⟨lv,h1,h2,h3,h4⟩:=hD.mem;have hle:=hD.le;by_cases hy:zct e st sl
 ·have kv:kidv e st sl = .tup [.int .u64 (kidN e st sl:Nat),.int .i64 0]:=by unfold kidv; rw [if_pos hy]
  rw [kv] at hko;cases hf:cs.findIdx? (isK e sl) with
  | some i =>
   have ea:addD (cs.map (·.2)) e sl st base = (cs.map (·.2),7):=by unfold addD; rw [if_neg (fun h=>h hy),zjb,hf]; rfl
   have e1:atD e sl cs = (i:Nat):=by unfold atD; rw [hf]
   have d:decide ((0:Int) ≤ ((i:Nat):Int)) = true:=decide_eq_true (by omega);rw [e1] at hat;rw [ea];simp (maxSteps:=1000000) (disch:=first | omega | (simp only [RY] <;> omega) | decide) only [↓RD,RZ,eq_self,Int.reduceToNat,Int.reduceAdd,Int.reduceSub,Int.reduceMul,Nat.reduceAdd,Nat.reduceSub,Nat.reduceMul,Nat.reduceDiv,Nat.reduceMod,Nat.reduceBEq,Nat.reduceLeDiff,hko,hat,d];exact ⟨rfl,AtS.refl _ _,cs,hD,rfl⟩
  | none =>
   have e1:atD e sl cs = -1:=by unfold atD; rw [hf]
   rw [e1] at hat;have hvl:=h2.lc.vlen;by_cases h64:64 ≤ cs.length
   ·have ea:addD (cs.map (·.2)) e sl st base = (cs.map (·.2),5):=by unfold addD; rw [if_neg (fun h=>h hy),zjb,hf,if_neg (by decide),if_pos (by rw [List.length_map]; exact h64)]
    have d:decide ((64:Int) ≤ ((cs.length:Nat):Int)) = true:=decide_eq_true (by omega);have d':decide (64 ≤ cs.length) = true:=decide_eq_true h64;rw [ea];simp (maxSteps:=1000000) (disch:=first | omega | (simp only [RY] <;> omega) | decide) only [↓RD,RZ,eq_self,Int.reduceToNat,Int.reduceAdd,Int.reduceSub,Int.reduceMul,Nat.reduceAdd,Nat.reduceSub,Nat.reduceMul,Nat.reduceDiv,Nat.reduceMod,Nat.reduceBEq,Nat.reduceLeDiff,hko,hat,h1,hvl,d,d'];exact ⟨rfl,AtS.refl _ _,cs,hD,rfl⟩
   ·have ea:addD (cs.map (·.2)) e sl st base = (cs.map (·.2) ++ [⟨e,sl,st.toNat,base,List.replicate 32 (false,0,0)⟩],0):=by unfold addD; rw [if_neg (fun h=>h hy),zjb,hf,if_neg (by decide),if_neg (by rw [List.length_map]; exact h64)]
    have d:decide ((64:Int) ≤ ((cs.length:Nat):Int)) = false:=decide_eq_false (by omega);have d':decide (64 ≤ cs.length) = false:=decide_eq_false h64;rw [ea];have ez:fill (zeros zC 0) [] = some []:=rfl;have hq0:=hD.low;have hlq:=hD.loq;have s1:=Grow.new H ⟨tyCh,[],none⟩;have g1:(H.new ⟨tyCh,[],none⟩).get H.next = some ⟨tyCh,[],none⟩:=zab _ _;have n1:(H.new ⟨tyCh,[],none⟩).next = H.next + 1:=zaf _ _;have h1':=(s1.same q hq0).trans h1;simp (maxSteps:=1000000) (disch:=first | omega | (simp only [RY] <;> omega) | decide) only [↓RD,RZ,eq_self,Int.reduceToNat,Int.reduceAdd,Int.reduceSub,Int.reduceMul,Nat.reduceAdd,Nat.reduceSub,Nat.reduceMul,Nat.reduceDiv,Nat.reduceMod,Nat.reduceBEq,Nat.reduceLeDiff,hko,hat,h1,hvl,d,d',ez,h1'];generalize hz:H.next = z at *;generalize H.new _ = H1 at *;have hx1:App tyCh 100 z H1 (.sl z 0 0 (.fix 0)) [] 0:=.lit g1 (Nat.le_refl _) (by omega);have h21:=h2.lc.ext s1;rw [zaK];have hfl:((cs.map chC).flatten).length = cs.length * 100:=by
     have:=zkx (k:=100) (cs.map chC) fun x hx=>by
      obtain ⟨w,hw,rfl⟩:=List.mem_map.1 hx;exact zlk (hD.each w hw).1
     rw [List.length_map] at this;exact this
    refine zir hx1 (by omega) (znj h21.rc) hfl (by omega) (by omega) fun x2 H2 hx2 st2=>?_;rw [List.nil_append,Nat.zero_add] at hx2;have n2:=st2.next;have s02:Grow H H2:=AtS.new s1 st2.atS fun i hi=>by
     simp only [V.pid,Option.toList_some,List.mem_singleton] at hi;omega
    have hb2:=hb.ext s02;simp (maxSteps:=1000000) (disch:=first | omega | (simp only [RY] <;> omega) | decide) only [↓RD,RZ,eq_self,Int.reduceToNat,Int.reduceAdd,Int.reduceSub,Int.reduceMul,Nat.reduceAdd,Nat.reduceSub,Nat.reduceMul,Nat.reduceDiv,Nat.reduceMod,Nat.reduceBEq,Nat.reduceLeDiff];rw [zaK];refine znK hb2 (by omega) fun x3 H3 hx3 s3=>?_;obtain ⟨k,rfl⟩:∃ k:Nat,st = (k:Nat):=⟨st.toNat,by have:=hy.2.1.1; omega⟩;have vc:=hx3.by.cells1;have vo:=hx3.by.okc;have eb:=build_ch (e:=e) (sl:=sl) (st:=(k:Nat)) vc vo;have ec:(V.int .i64 e :: .int .i64 sl :: .int .i64 (k:Nat) :: x3 :: zW) = chC (x3,⟨e,sl,k,base,List.replicate 32 (false,0,0)⟩):=rfl;have hG:ChG ⟨e,sl,k,base,List.replicate 32 (false,0,0)⟩:=⟨List.length_replicate,fun w hw=>by
     obtain ⟨_,rfl⟩:=List.mem_replicate.1 hw;exact ⟨by decide,by decide⟩,b8,by show base.length ≤ _; omega,by show k ≤ 31; have:=hy.2.1.2; omega,⟨hy.1,⟨by omega,by omega⟩,hy.2.2⟩⟩
    have hl3:=zlk (p:=(x3,⟨e,sl,k,base,List.replicate 32 (false,0,0)⟩)) hG;have ef:=zvg hl3;rw [ec] at eb;have ek:((k:Nat):Int).toNat = k:=Int.toNat_natCast k;rw [ek];have o3:=hx3.by.own;generalize hp3:((x3,⟨e,sl,k,base,List.replicate 32 (false,0,0)⟩):V × Ch) = p3 at *;have e31:p3.1 = x3:=by rw [← hp3]
    have e32:p3.2 = ⟨e,sl,k,base,List.replicate 32 (false,0,0)⟩:=by rw [← hp3]
    have e33:p3.2.base = base:=by rw [e32]
    have n3:=s3.next;have s4:=Grow.new H3 ⟨tyCh,chC p3,none⟩;have n4:(H3.new ⟨tyCh,chC p3,none⟩).next = H3.next + 1:=zaf _ _;have hx24:=hx2.atS (Grow.atS (s3.trans s4) []) (by simp);have hya:=zqg (H:=H3) (ty:=tyCh) (o:=none) (cap:=.fix 1) (n:=1) (e:=100) (id:=H3.next) rfl (cs:=chC p3) (by rw [hl3]);simp (maxSteps:=1000000) (disch:=first | omega | (simp only [RY] <;> omega) | decide) only [↓RD,RZ,eq_self,Int.reduceToNat,Int.reduceAdd,Int.reduceSub,Int.reduceMul,Nat.reduceAdd,Nat.reduceSub,Nat.reduceMul,Nat.reduceDiv,Nat.reduceMod,Nat.reduceBEq,Nat.reduceLeDiff,eb,ef];rw [zaK];generalize H3.new ⟨tyCh,chC p3,none⟩ = H4 at *;refine zir (bytes:=816) hx24 (by omega) hya (by rw [hl3]) (by omega) (by omega) fun x4 H5 hx4 st5=>?_;have n5:=st5.next;have o2:=hx2.lc.own;have o4:=hx4.lc.own;have s05:Grow H H5:=AtS.new (s02.trans (s3.trans s4)) st5.atS fun i hi=>by
     have:=(o2 i (by simpa [zeF] using hi)).1;omega
    have g5:=(s05.same q (by omega)).trans h1;have vc4:=hx4.lc.cells1;have vo4:=hx4.lc.okc;simp (maxSteps:=1000000) (disch:=first | omega | (simp only [RY] <;> omega) | decide) only [↓RD,RZ,eq_self,Int.reduceToNat,Int.reduceAdd,Int.reduceSub,Int.reduceMul,Nat.reduceAdd,Nat.reduceSub,Nat.reduceMul,Nat.reduceDiv,Nat.reduceMod,Nat.reduceBEq,Nat.reduceLeDiff,g5,vc4,vo4];have a6:AtS [q] H5 (H5.set q (some ⟨tyRR,[.int .i64 (id:Nat),x4],none⟩)):=AtS.set _ (by simp) _;have hlv:x4.pid ≠ some q:=fun h=>by have:=(o4 q h).1; omega
    refine ⟨rfl,(Grow.atS s05 _).trans a6,cs ++ [p3],⟨by rw [zan]; omega,hlq,by rw [List.length_append]; show cs.length + 1 ≤ 64; omega,⟨x4,zal _ _ _,?_,hlv,fun p hp i hi hj=>?_⟩,fun p hp=>?_⟩,by rw [List.map_append]; show _ ++ [p3.2] = _; rw [e32]⟩
    ·have e:((cs ++ [p3]).map chC).flatten = (cs.map chC).flatten ++ chC p3:=by simp
     rw [e,List.length_append];exact (hx4.low (by omega)).atS a6 fun i hi h=>by simp only [List.mem_singleton] at h; subst h; exact hlv hi
    ·rcases List.mem_append.1 hp with hp | hp
     ·have h5:=((hD.each p hp).2.1.own i hi).2;have h6:=(o4 i hj).1;omega
     ·simp only [List.mem_singleton] at hp;subst hp;rw [e31] at hi;have h5:=o3 i hi;rcases st5.own i (by simp [hj]) with h6 | h6
      ·have:=(o2 i (by simpa [zeF] using h6)).2;omega
      ·omega
    ·rcases List.mem_append.1 hp with hp | hp
     ·obtain ⟨k1,k2,k3⟩:=hD.each p hp;exact ⟨k1,Lc.atS (k2.ext s05) a6 fun i hi h=>by simp only [List.mem_singleton] at h; subst h; exact k3 hi,k3⟩
     ·simp only [List.mem_singleton] at hp;subst hp;have hq3:x3.pid ≠ some q:=fun h=>by have:=(o3 q h).1; omega
      have h35:By lo H5 x3 base:=Lc.atS ((hx3.by.low (by omega)).ext s4) st5.atS fun i hi h=>by
       have:=(o2 i (by simpa [zeF] using h)).2;have:=(o3 i hi).1;omega
      rw [e31,e33];exact ⟨by rw [e32]; exact hG,Lc.atS h35 a6 fun i hi h=>by simp only [List.mem_singleton] at h; subst h; exact hq3 hi,hq3⟩
 ·have kv:kidv e st sl = .tup [.int .u64 0,.int .i64 1]:=by unfold kidv; rw [if_neg hy]
  rw [kv] at hko;have ea:addD (cs.map (·.2)) e sl st base = (cs.map (·.2),1):=by unfold addD; rw [if_pos hy]
  rw [ea];simp (maxSteps:=1000000) (disch:=first | omega | (simp only [RY] <;> omega) | decide) only [↓RD,RZ,eq_self,Int.reduceToNat,Int.reduceAdd,Int.reduceSub,Int.reduceMul,Nat.reduceAdd,Nat.reduceSub,Nat.reduceMul,Nat.reduceDiv,Nat.reduceMod,Nat.reduceBEq,Nat.reduceLeDiff,hko];exact ⟨rfl,AtS.refl _ _,cs,hD,rfl⟩
end Go.Ax.SU
/- Lk24 -/
namespace Go.Ax.SU
open Go.Ax
def pl2 (x:Ch):Int × Int:=(x.e,x.sl)
def place (x:Ch):(Int × Int) × (Nat × List Nat):=(pl2 x,(x.st,x.base))
def isOf (k:Nat) (x:Ch):Prop:=k < 16777216 ∧ ((k / 256:Nat):Int) = x.e ∧ ((k % 8:Nat):Int) = x.sl
theorem zja {e sl:Int} {s:Nat} (h:zct e 0 sl) (hs:s < 32):kidN e (s:Nat) sl < 16777216 ∧ ((kidN e (s:Nat) sl / 256:Nat):Int) = e ∧ kidN e (s:Nat) sl % 256 / 8 = s ∧ ((kidN e (s:Nat) sl % 8:Nat):Int) = sl:=by
 obtain ⟨h1,-,h3⟩:=h;obtain ⟨e',rfl⟩:∃ n:Nat,e = (n:Nat):=⟨e.toNat,by omega⟩;obtain ⟨l',rfl⟩:∃ n:Nat,sl = (n:Nat):=⟨sl.toNat,by omega⟩;have:kidN (e':Nat) (s:Nat) (l':Nat) = 256 * e' + 8 * s + l':=by unfold kidN; omega
 rw [this];refine ⟨by omega,by omega,by omega,by omega⟩
theorem kid_of {k:Nat} {x:Ch} (h:isOf k x):k = kidN x.e (k % 256 / 8:Nat) x.sl:=by
 obtain ⟨h1,h2,h3⟩:=h;rw [← h2,← h3];unfold kidN;omega
theorem nd_inj {α β:Type} {f:α → β}:∀ {l:List α},(l.map f).Nodup → ∀ {a b:α},a ∈ l → b ∈ l → f a = f b → a = b
 | [],_,_,_,h,_,_=>by cases h
 | c :: l,h,a,b,ha,hb,e=>by
  simp only [List.map_cons,List.nodup_cons] at h;rcases List.mem_cons.1 ha with ha1 | ha1
  ·rcases List.mem_cons.1 hb with hb1 | hb1
   ·rw [ha1,hb1]
   ·exact absurd (List.mem_map.2 ⟨b,hb1,by rw [← e,ha1]⟩) h.1
  ·rcases List.mem_cons.1 hb with hb1 | hb1
   ·exact absurd (List.mem_map.2 ⟨a,ha1,by rw [e,hb1]⟩) h.1
   ·exact nd_inj h.2 ha1 hb1 e
theorem zuW {e sl:Int} {x:Ch}:isC e sl x = true ↔ x.e = e ∧ x.sl = sl:=by unfold isC; simp
theorem zmN {D:List Ch} {e sl:Int} (h:D.findIdx? (isC e sl) = none):look (e,sl) (D.map place) = none ∧ ∀ x ∈ D,¬ (x.e = e ∧ x.sl = sl):=by
 have hn:∀ x ∈ D,¬ (x.e = e ∧ x.sl = sl):=fun x hx hk=>by
  have:=List.findIdx?_eq_none_iff.1 h x hx;rw [zuW.2 hk] at this;cases this
 refine ⟨?_,hn⟩;clear h
 induction D with
 | nil=>rfl
 | cons x D ih =>
  have h1:=hn x List.mem_cons_self;show look (e,sl) ((pl2 x,(x.st,x.base)) :: D.map place) = none;simp only [look];rw [if_neg (fun k=>h1 (by unfold pl2 at k; injection k with k1 k2; exact ⟨k1.symm,k2.symm⟩))];exact ih fun y hy=>hn y (List.mem_cons_of_mem _ hy)
theorem zmM {e sl:Int}:∀ {D:List Ch} {i:Nat},D.findIdx? (isC e sl) = some i → ∃ x,D[i]? = some x ∧ x.e = e ∧ x.sl = sl ∧ look (e,sl) (D.map place) = some (x.st,x.base)
 | [],i,h=>by cases h
 | y :: D,i,h=>by
  rw [List.findIdx?_cons] at h;by_cases hy:isC e sl y = true
  ·rw [if_pos hy] at h;injection h with h
   subst h;have hk:=zuW.1 hy;refine ⟨y,rfl,hk.1,hk.2,?_⟩;show look (e,sl) ((pl2 y,(y.st,y.base)) :: D.map place) = _;simp only [look];rw [if_pos (by unfold pl2; rw [hk.1,hk.2])]
  ·rw [if_neg hy] at h;cases hf:D.findIdx? (isC e sl) with
   | none=>rw [hf] at h; cases h
   | some j =>
    rw [hf] at h;injection h with h
    subst h;obtain ⟨x,h1,h2,h3,h4⟩:=zmM hf;refine ⟨x,by simpa using h1,h2,h3,?_⟩;show look (e,sl) ((pl2 y,(y.st,y.base)) :: D.map place) = _;simp only [look];rw [if_neg (fun k=>hy (zuW.2 (by unfold pl2 at k; injection k with k1 k2; exact ⟨k1.symm,k2.symm⟩)))];exact h4
theorem zpr {α β:Type} [DecidableEq α] {a:α} {b:β}:∀ {l:List (α × β)},look a l = none → putl a b l = l ++ [(a,b)]
 | [],_=>rfl
 | (k,v) :: l,h=>by
  simp only [look] at h;simp only [putl];by_cases e:a = k
  ·rw [if_pos e] at h; cases h
  ·rw [if_neg e] at h ⊢;rw [zpr h]; rfl
theorem zmp {α β:Type} [DecidableEq α] {a:α} {b:β}:∀ {l:List (α × β)},(l.map (·.1)).Nodup → ((putl a b l).map (·.1)).Nodup
 | [],_=>by simp [putl]
 | (k,v) :: l,h=>by
  simp only [List.map_cons,List.nodup_cons] at h;simp only [putl];by_cases e:a = k
  ·subst e;rw [if_pos rfl];simp only [List.map_cons,List.nodup_cons];exact h
  ·rw [if_neg e];simp only [List.map_cons,List.nodup_cons];refine ⟨fun hm=>?_,zmp h.2⟩;obtain ⟨p,hp,hk⟩:=List.mem_map.1 hm;rcases zkp hp with rfl | hp
   ·exact e hk
   ·exact h.1 (List.mem_map.2 ⟨p,hp,hk⟩)
theorem zmO {α β:Type} [DecidableEq α] {a:α} {f:α → Bool} (hf:f a = true):∀ l:List (α × β),look a (l.filter fun q=>f q.1) = look a l
 | []=>rfl
 | (k,v) :: l=>by
  rw [List.filter_cons];simp only [look];by_cases e:a = k
  ·subst e;simp only [hf,if_true,look]
  ·rw [if_neg e];cases hk:f k with
   | true=>simp only [hk,if_true,look]; rw [if_neg e]; exact zmO hf l
   | false=>simp only [hk,Bool.false_eq_true,if_false]; exact zmO hf l
structure Rel (n t:Nat) (R:Rc) (D:List Ch):Prop where
 ch:R.ch = D.map place
 nd:(D.map pl2).Nodup
 ws:∀ x ∈ D,x.ws.length = 32
 win:∀ x ∈ D,∀ s,s < 32 → x.ws.getD s (false,0,0) = winR R (kidN x.e (s:Nat) x.sl)
 wk:∀ p ∈ R.win,∃ x ∈ D,isOf p.1 x
 kk:∀ p ∈ R.ks,∃ x ∈ D,isOf p.1 x ∧ p.2 = drv R.id p.1 n t (zc0 x.base (p.1 % 256 / 8 - x.st))
 ko:∀ x ∈ D,zct x.e 0 x.sl
 nw:(R.win.map (·.1)).Nodup
 nk:(R.ks.map (·.1)).Nodup
theorem Rel.init (n t id:Nat):Rel n t ⟨id,[],[],[]⟩ []:=⟨rfl,List.nodup_nil,by simp,by simp,by simp,by simp,by simp,List.nodup_nil,List.nodup_nil⟩
theorem zsG (D:List Ch):(D.map place).map (·.1) = D.map pl2:=by rw [List.map_map]; rfl
theorem Rel.rcn {n t:Nat} {R:Rc} {D:List Ch} (h:Rel n t R D):RcN R:=⟨by rw [h.ch,zsG]; exact h.nd,h.nw,h.nk⟩
theorem Rel.has {n t:Nat} {R:Rc} {D:List Ch} (h:Rel n t R D) (e sl:Int):(look (e,sl) R.ch).isSome = (D.findIdx? (isC e sl)).isSome:=by
 rw [h.ch];cases hf:D.findIdx? (isC e sl) with
 | none=>rw [(zmN hf).1]; rfl
 | some i =>
  obtain ⟨x,_,_,_,h4⟩:=zmM hf;rw [h4]; rfl
theorem Rel.add {n t:Nat} {R:Rc} {D:List Ch} (h:Rel n t R D) (e sl st:Int) (base:List Nat) :
  (addR R e sl st base).2 = (addD D e sl st base).2 ∧ Rel n t (addR R e sl st base).1 (addD D e sl st base).1 ∧ (addR R e sl st base).1.id = R.id:=by
 unfold addR addD;rw [h.has];by_cases hk:zct e st sl
 ·have ck:¬ ¬ zct e st sl:=fun k=>k hk;rw [if_neg ck,if_neg ck];cases hf:D.findIdx? (isC e sl) with
  | some i=>exact ⟨rfl,h,rfl⟩
  | none =>
   obtain ⟨hl,hn⟩:=zmN hf;have c0:¬ ((none:Option Nat).isSome = true):=by simp
   rw [if_neg c0,if_neg c0];have hlen:R.ch.length = D.length:=by rw [h.ch,List.length_map]
   rw [hlen];by_cases h64:64 ≤ D.length
   ·rw [if_pos h64,if_pos h64];exact ⟨rfl,h,rfl⟩
   rw [if_neg h64,if_neg h64];refine ⟨rfl,⟨?_,?_,?_,?_,?_,?_,?_,h.nw,h.nk⟩,rfl⟩
   ·show putl (e,sl) (st.toNat,base) R.ch = _;rw [h.ch,zpr hl,List.map_append];rfl
   ·rw [List.map_append];refine List.nodup_append.2 ⟨h.nd,by simp,?_⟩;intro a ha b hb e';subst e';simp only [List.map_cons,List.map_nil,List.mem_singleton] at hb;obtain ⟨x,hx,hxe⟩:=List.mem_map.1 ha;rw [hb] at hxe;unfold pl2 at hxe;injection hxe with k1 k2
    exact hn x hx ⟨k1,k2⟩
   ·intro x hx;rcases List.mem_append.1 hx with hx | hx
    ·exact h.ws x hx
    ·simp only [List.mem_singleton] at hx;subst hx;exact List.length_replicate
   ·intro x hx s hs;rcases List.mem_append.1 hx with hx | hx
    ·exact h.win x hx s hs
    ·simp only [List.mem_singleton] at hx;subst hx;have hko:zct e 0 sl:=⟨hk.1,⟨by omega,by omega⟩,hk.2.2⟩;show (List.replicate 32 ((false,0,0):WS)).getD s (false,0,0) = (look (kidN e (s:Nat) sl) R.win).getD (false,0,0);have hln:look (kidN e (s:Nat) sl) R.win = none:=by
      cases hw:look (kidN e (s:Nat) sl) R.win with
      | none=>rfl
      | some w =>
       obtain ⟨x,hx,hxo⟩:=h.wk _ (zl0 hw);obtain ⟨_,p2,_,p4⟩:=zja hko hs;exact absurd ⟨hxo.2.1.symm.trans p2,hxo.2.2.symm.trans p4⟩ (hn x hx)
     rw [hln,List.getD_eq_getElem?_getD,List.getElem?_replicate];split <;> rfl
   ·intro p hp;obtain ⟨x,hx,k⟩:=h.wk p hp;exact ⟨x,List.mem_append_left _ hx,k⟩
   ·intro p hp;obtain ⟨x,hx,k⟩:=h.kk p hp;exact ⟨x,List.mem_append_left _ hx,k⟩
   ·intro x hx;rcases List.mem_append.1 hx with hx | hx
    ·exact h.ko x hx
    ·simp only [List.mem_singleton] at hx;subst hx;exact ⟨hk.1,⟨by omega,by omega⟩,hk.2.2⟩
 ·rw [if_pos hk,if_pos hk];exact ⟨rfl,h,rfl⟩
def zgg (e:Int) (x:Ch):Bool:=decide (e ≤ x.e)
theorem keepC_D (e:Int) (x:Ch):zqV e (pl2 x) = zgg e x:=by
 unfold zqV zgg pl2;by_cases h:x.e < e
 ·rw [decide_eq_true h,decide_eq_false (by omega)]; rfl
 ·rw [decide_eq_false h,decide_eq_true (by omega)]; rfl
theorem zqU {e:Int} {k:Nat} {x:Ch} (h:isOf k x):zks e k = zgg e x:=by
 obtain ⟨h1,h2,h3⟩:=h;have:ziW ((k:Nat):Int) = x.e:=by
  unfold ziW;rw [if_neg (by omega),Int.tdiv_eq_ediv_of_nonneg (by omega),wrap_u64,wrap_i64 (by omega) (by omega)];omega
 unfold zks zgg;rw [this];by_cases h:x.e < e
 ·rw [decide_eq_true h,decide_eq_false (by omega)]; rfl
 ·rw [decide_eq_false h,decide_eq_true (by omega)]; rfl
theorem Rel.drop {n t:Nat} {R:Rc} {D:List Ch} (h:Rel n t R D) (e:Int):Rel n t (dropR R e) (D.filter (zgg e)):=by
 have hsub:(D.filter (zgg e)).Sublist D:=List.filter_sublist;have hm:∀ x ∈ D.filter (zgg e),x ∈ D ∧ zgg e x = true:=fun x hx=>List.mem_filter.1 hx;refine ⟨?_,h.nd.sublist (hsub.map pl2),fun x hx=>h.ws x (hm x hx).1,?_,?_,?_,fun x hx=>h.ko x (hm x hx).1,?_,?_⟩
 ·show R.ch.filter (fun p=>zqV e p.1) = _;rw [h.ch,List.filter_map];congr 2;funext x;exact keepC_D e x
 ·intro x hx s hs;obtain ⟨h1,h2⟩:=hm x hx;rw [h.win x h1 s hs];obtain ⟨p1,p2,p3,p4⟩:=zja (h.ko x h1) hs;unfold winR;show _ = (look (kidN x.e (s:Nat) x.sl) (R.win.filter fun p=>zks e p.1)).getD _;rw [zmO (f:=zks e) ((zqU ⟨p1,p2,p4⟩).trans h2)]
 ·intro p hp;have hp:p ∈ R.win.filter fun p=>zks e p.1:=hp;obtain ⟨h1,h2⟩:=List.mem_filter.1 hp;obtain ⟨x,hx,hk⟩:=h.wk p h1;exact ⟨x,List.mem_filter.2 ⟨hx,(zqU hk).symm.trans h2⟩,hk⟩
 ·intro p hp;have hp:p ∈ R.ks.filter fun p=>zks e p.1:=hp;obtain ⟨h1,h2⟩:=List.mem_filter.1 hp;obtain ⟨x,hx,hk,h3⟩:=h.kk p h1;exact ⟨x,List.mem_filter.2 ⟨hx,(zqU hk).symm.trans h2⟩,hk,h3⟩
 ·show ((R.win.filter fun p=>zks e p.1).map fun p=>p.1).Nodup;exact h.nw.sublist (List.filter_sublist.map _)
 ·show ((R.ks.filter fun p=>zks e p.1).map fun p=>p.1).Nodup;exact h.nk.sublist (List.filter_sublist.map _)
def zkf (id n t:Nat) (D:List Ch) (m b:List Nat):List Ch × GR :=
 match parse b with
 | .err e=>(D,.err e)
 | .ok k c _ =>
  if 16777216 ≤ k then (D,.err 2) else
  match D.findIdx? (isC ((k / 256:Nat):Int) ((k % 8:Nat):Int)) with
  | none=>(D,.err 10)
  | some i =>
   match D[i]? with
   | none=>(D,.err 10)
   | some x =>
    if k % 256 / 8 < x.st then (D,.err 10) else
    if mayW (x.ws.getD (k % 256 / 8) (false,0,0)) c ≠ 0 then (D,.err (mayW (x.ws.getD (k % 256 / 8) (false,0,0)) c)) else
    match zjL (drv id k n t (zc0 x.base (k % 256 / 8 - x.st))) b m with
    | .err e=>(D,.err e)
    | .ok p _=>(D.set i { x with ws:=x.ws.set (k % 256 / 8) (ze9 (x.ws.getD (k % 256 / 8) (false,0,0)) c) },.got (k / 256) (k % 256 / 8) (k % 8) c p)
theorem Rel.keep {n t k:Nat} {R:Rc} {D:List Ch} {x:Ch} {B:List Nat} (h:Rel n t R D) (hx:x ∈ D) (hk:isOf k x) (hB:B = zc0 x.base (k % 256 / 8 - x.st)) :
  keyR R n t k B = drv R.id k n t B ∧ Rel n t (zig R n t k B) D:=by
 unfold keyR zig;cases hl:look k R.ks with
 | some K =>
  obtain ⟨y,hy,hyk,hK⟩:=h.kk _ (zl0 hl);have:y = x:=nd_inj h.nd hy hx (by unfold pl2; rw [← hyk.2.1,← hyk.2.2,← hk.2.1,← hk.2.2]);subst this;dsimp only at hK;rw [← hB] at hK;exact ⟨hK,h⟩
 | none =>
  refine ⟨rfl,⟨h.ch,h.nd,h.ws,h.win,h.wk,fun p hp=>?_,h.ko,h.nw,zmp h.nk⟩⟩;rcases zkp hp with rfl | hp
  ·exact ⟨x,hx,hk,by rw [hB]⟩
  ·exact h.kk p hp
theorem getD_set {l:List WS} {i j:Nat} {w z:WS} (hi:i < l.length):(l.set i w).getD j z = if i = j then w else l.getD j z:=by
 rw [List.getD_eq_getElem?_getD,List.getD_eq_getElem?_getD,List.getElem?_set];by_cases h:i = j
 ·subst h;rw [if_pos rfl,if_pos rfl,if_pos hi]; rfl
 ·rw [if_neg h,if_neg h]
theorem Rel.mark {n t k i:Nat} {R:Rc} {D:List Ch} {x:Ch} {w:WS} (h:Rel n t R D) (hi:D[i]? = some x) (hk:isOf k x) :
  Rel n t { R with win:=putl k w R.win } (D.set i { x with ws:=x.ws.set (k % 256 / 8) w }):=by
 obtain ⟨hil,hix⟩:=List.getElem?_eq_some_iff.1 hi;have hx:x ∈ D:=hix ▸ List.getElem_mem hil;have hs32:k % 256 / 8 < 32:=by omega
 have hkk:=kid_of hk;have hwl:=h.ws x hx;generalize hs:k % 256 / 8 = s at *;generalize hx':({ x with ws:=x.ws.set s w }:Ch) = x' at *;have e1:x'.e = x.e:=by subst hx'; rfl
 have e2:x'.sl = x.sl:=by subst hx'; rfl
 have e3:x'.st = x.st:=by subst hx'; rfl
 have e4:x'.base = x.base:=by subst hx'; rfl
 have e5:x'.ws = x.ws.set s w:=by subst hx'; rfl
 have ep:place x' = place x:=by unfold place pl2; rw [e1,e2,e3,e4]
 have ep2:pl2 x' = pl2 x:=by unfold pl2; rw [e1,e2]
 have hself:∀ {β:Type} (f:Ch → β),f x' = f x → (D.set i x').map f = D.map f:=fun f hf=>by
  rw [List.map_set,hf];refine List.ext_getElem? fun j=>?_;rw [List.getElem?_set];by_cases hij:i = j
  ·subst hij;rw [if_pos rfl,List.length_map,if_pos hil,List.getElem?_map,hi]; rfl
  ·rw [if_neg hij]
 have hmem:∀ y ∈ D.set i x',y = x' ∨ (y ∈ D ∧ pl2 y ≠ pl2 x):=fun y hy=>by
  obtain ⟨j,hj⟩:=List.getElem?_of_mem hy;rw [List.getElem?_set] at hj;by_cases hij:i = j
  ·rw [if_pos hij,if_pos hil] at hj;injection hj with hj
   exact .inl hj.symm
  ·rw [if_neg hij] at hj;refine .inr ⟨List.mem_of_getElem? hj,fun e=>hij ?_⟩;have hnd:=h.nd;obtain ⟨hjl,hje⟩:=List.getElem?_eq_some_iff.1 hj;refine (List.getElem?_inj (by rw [List.length_map]; exact hil) hnd).1 ?_;rw [List.getElem?_map,List.getElem?_map,hi,hj,Option.map_some,Option.map_some,e]
 have hmem':∀ y ∈ D,∃ y' ∈ D.set i x',y'.e = y.e ∧ y'.sl = y.sl ∧ y'.st = y.st ∧ y'.base = y.base:=fun y hy=>by
  obtain ⟨j,hj⟩:=List.getElem?_of_mem hy;by_cases hij:i = j
  ·subst hij;rw [hi] at hj;injection hj with hj
   subst hj;exact ⟨x',List.mem_of_getElem? (i:=i) (by rw [List.getElem?_set,if_pos rfl,if_pos hil]),e1,e2,e3,e4⟩
  ·exact ⟨y,List.mem_of_getElem? (i:=j) (by rw [List.getElem?_set,if_neg hij]; exact hj),rfl,rfl,rfl,rfl⟩
 refine ⟨?_,?_,?_,?_,?_,?_,?_,zmp h.nw,h.nk⟩
 ·rw [hself place ep]; exact h.ch
 ·rw [hself pl2 ep2]; exact h.nd
 ·intro y hy;rcases hmem y hy with rfl | ⟨hy,_⟩
  ·rw [e5,List.length_set]; exact hwl
  ·exact h.ws y hy
 ·intro y hy s' hs';show _ = (look (kidN y.e (s':Nat) y.sl) (putl k w R.win)).getD (false,0,0);rw [look_put];rcases hmem y hy with rfl | ⟨hy,hne⟩
  ·rw [e1,e2,e5,getD_set (by omega)];obtain ⟨p1,p2,p3,p4⟩:=zja (h.ko x hx) hs';by_cases hss:s = s'
   ·subst hss;rw [if_pos rfl,if_pos hkk.symm]; rfl
   ·rw [if_neg hss,if_neg (fun e=>hss (by rw [← hs,← e]; exact p3))];exact h.win x hx s' hs'
  ·obtain ⟨p1,p2,p3,p4⟩:=zja (h.ko y hy) hs';rw [if_neg (fun e=>hne (by unfold pl2; rw [← hk.2.1,← hk.2.2,← e,p2,p4]))];exact h.win y hy s' hs'
 ·intro p hp;rcases zkp hp with rfl | hp
  ·obtain ⟨y,hy,y1,y2,_⟩:=hmem' x hx;exact ⟨y,hy,hk.1,hk.2.1.trans y1.symm,hk.2.2.trans y2.symm⟩
  ·obtain ⟨z,hz,hzk⟩:=h.wk p hp;obtain ⟨y,hy,y1,y2,_⟩:=hmem' z hz;exact ⟨y,hy,hzk.1,hzk.2.1.trans y1.symm,hzk.2.2.trans y2.symm⟩
 ·intro p hp;obtain ⟨z,hz,hzk,hzd⟩:=h.kk p hp;obtain ⟨y,hy,y1,y2,y3,y4⟩:=hmem' z hz;exact ⟨y,hy,⟨hzk.1,hzk.2.1.trans y1.symm,hzk.2.2.trans y2.symm⟩,by rw [y3,y4]; exact hzd⟩
 ·intro y hy;rcases hmem y hy with rfl | ⟨hy,_⟩
  ·rw [e1,e2]; exact h.ko x hx
  ·exact h.ko y hy
theorem Rel.open {n t:Nat} {R:Rc} {D:List Ch} (h:Rel n t R D) (m b:List Nat) :
  (zfC R n t m b).2 = (zkf R.id n t D m b).2 ∧ Rel n t (zfC R n t m b).1 (zkf R.id n t D m b).1 ∧ (zfC R n t m b).1.id = R.id:=by
 unfold zfC zkf;cases hp:parse b with
 | err e=>exact ⟨rfl,h,rfl⟩
 | ok k c hn =>
  dsimp only;by_cases h1:16777216 ≤ k
  ·rw [if_pos h1,if_pos h1]; exact ⟨rfl,h,rfl⟩
  rw [if_neg h1,if_neg h1,h.ch];cases hf:D.findIdx? (isC ((k / 256:Nat):Int) ((k % 8:Nat):Int)) with
  | none=>rw [(zmN hf).1]; exact ⟨rfl,h,rfl⟩
  | some i =>
   obtain ⟨x,hi,hxe,hxs,hl⟩:=zmM hf;have hxm:x ∈ D:=List.mem_of_getElem? hi;have hk:isOf k x:=⟨by omega,hxe.symm,hxs.symm⟩;rw [hl];dsimp only;rw [hi];dsimp only;by_cases h2:k % 256 / 8 < x.st
   ·rw [if_pos h2,if_pos h2]; exact ⟨rfl,h,rfl⟩
   rw [if_neg h2,if_neg h2];have hw:=h.win x hxm (k % 256 / 8) (by omega);rw [← kid_of hk] at hw;rw [hw];by_cases h3:mayW (winR R k) c ≠ 0
   ·rw [if_pos h3,if_pos h3]; exact ⟨rfl,h,rfl⟩
   rw [if_neg h3,if_neg h3];obtain ⟨k1,k2⟩:=h.keep hxm hk rfl;rw [k1];cases zjL (drv R.id k n t (zc0 x.base (k % 256 / 8 - x.st))) b m with
   | err e=>exact ⟨rfl,k2,zrW _ _ _ _ _⟩
   | ok p c' =>
    have k3:=k2.mark (w:=ze9 (winR R k) c) hi hk;rw [zpR] at k3;exact ⟨rfl,k3,zrW _ _ _ _ _⟩
end Go.Ax.SU
/- Lk23 -/
namespace Go.Ax.SU
open Go.Ax
theorem zvm {lo q id:Nat} {H:Heap} {cs:List (V × Ch)} (hD:DM lo H q id cs) (e:Int) :
  Ok (M.iter (za5 (sem T) (.int .i64 e) (.ptr q 0)) [.nils,.int .i64 0]) H fun r H'=>∃ lv,r = .ex 0 [lv] ∧ Grow H H' ∧ App tyCh 100 H.next H' lv (((cs.filter fun p=>zgg e p.2).map chC).flatten) (cs.filter fun p=>zgg e p.2).length:=by
 obtain ⟨lv0,h1,h2,h3,h4⟩:=hD.mem;have hg:∀ p ∈ cs,ChG p.2:=fun p hp=>(hD.each p hp).1;have hle:=hD.le;have hq0:=hD.low;refine zaE (fun j L H'=>∃ lv,L = [lv,.int .i64 (j:Nat)] ∧ Grow H H' ∧ App tyCh 100 H.next H' lv ((((cs.take j).filter fun p=>zgg e p.2).map chC).flatten) ((cs.take j).filter fun p=>zgg e p.2).length) cs.length ?_ ?_ ?_
 ·exact ⟨.nils,rfl,Grow.refl _,.nil⟩
 ·rintro j _ H1 hj ⟨lv,rfl,s1,ha⟩;have n1:=s1.next;have g1:=(s1.same q hq0).trans h1;have hD1:=hD.grow s1;obtain ⟨lv0',g1',g2,_,_⟩:=hD1.mem;have elv:lv0' = lv0:=by
   rw [g1] at g1';injection g1' with g1'
   injection g1' with _ g1' _
   injection g1' with _ g1'
   injection g1' with g1' _
   exact g1'.symm
  subst elv;have hvl:=g2.lc.vlen;have d1:decide (((j:Nat):Int) < ((cs.length:Nat):Int)) = true:=decide_eq_true (by omega);have d1':decide (j < cs.length) = true:=decide_eq_true hj;obtain ⟨p,hp,hl⟩:=zse g2.lc hg hj;have hlen:=zlk (hg _ (List.getElem_mem hj));have fa:=@hl.fa;have c0:(chC cs[j])[0]? = some (.int .i64 cs[j].2.e):=rfl;have l0:∀ {f:V → M Res} {Q:Res → Heap → Prop},@OkB V Res (mload none (Ax.fa p 0)) H1 ⟨f⟩ ⟨Q⟩ ↔ Ok (f (.int .i64 cs[j].2.e)) H1 Q:=fun {f Q}=>(hl.ld (by omega)).trans (by rw [c0]; exact Iff.rfl);have lA:=hl.all;rw [hlen] at lA;have w1:IntKind.i64.wrap (((j:Nat):Int) + 1) = ((j + 1:Nat):Int):=by rw [wrap_i64 (by omega) (by omega)]; omega
  have tk:cs.take (j + 1) = cs.take j ++ [cs[j]]:=by rw [List.take_add_one,List.getElem?_eq_getElem hj]; rfl
  unfold za5 uL uS uFM uNFM uB uI uc ug;by_cases hk:e ≤ cs[j].2.e
  ·have d2:decide (e ≤ cs[j].2.e) = true:=decide_eq_true hk;have ef:=zvg hlen;have hf:(cs.take (j + 1)).filter (fun p=>zgg e p.2) = (cs.take j).filter (fun p=>zgg e p.2) ++ [cs[j]]:=by
    rw [tk,List.filter_append,List.filter_cons,List.filter_nil,if_pos (by unfold zgg; exact d2)]
   have s4:=Grow.new H1 ⟨tyCh,chC cs[j],none⟩;have n4:(H1.new ⟨tyCh,chC cs[j],none⟩).next = H1.next + 1:=zaf _ _;have ha4:=ha.atS (Grow.atS s4 []) (by simp);have hya:=zqg (H:=H1) (ty:=tyCh) (o:=none) (cap:=.fix 1) (n:=1) (e:=100) (id:=H1.next) rfl (cs:=chC cs[j]) (by rw [hlen]);have hfl:((cs.take j).filter fun p=>zgg e p.2).length ≤ 64:=Nat.le_trans (List.length_filter_le _ _) (by rw [List.length_take]; omega);have o2:=ha.lc.own;simp (disch:=omega) only [↓RD,RZ,g1,hvl,d1,d1',hp,fa,l0,d2,lA,ef];rw [zaK];generalize H1.new ⟨tyCh,chC cs[j],none⟩ = H4 at *;refine zir (bytes:=816) ha4 (by omega) hya (by rw [hlen]) (by omega) (by omega) fun x H5 hx st5=>?_;have s05:Grow H H5:=AtS.new (s1.trans s4) st5.atS fun i hi=>(o2 i (by simpa [zeF] using hi)).1;simp (disch:=omega) only [↓RD,RZ,w1];refine ⟨x,rfl,s05,?_⟩;rw [hf,List.map_append,List.flatten_append,List.length_append];have e1:([cs[j]].map chC).flatten = chC cs[j]:=by simp
   rw [e1];exact hx
  ·have d2:decide (e ≤ cs[j].2.e) = false:=decide_eq_false hk;have hf:(cs.take (j + 1)).filter (fun p=>zgg e p.2) = (cs.take j).filter (fun p=>zgg e p.2):=by
    rw [tk,List.filter_append,List.filter_cons,List.filter_nil,if_neg (by unfold zgg; rw [d2]; decide),List.append_nil]
   simp (disch:=omega) only [↓RD,RZ,g1,hvl,d1,d1',hp,fa,l0,d2,w1];refine ⟨lv,rfl,s1,?_⟩;rw [hf];exact ha
 ·rintro _ H1 ⟨lv,rfl,s1,ha⟩;have g1:=(s1.same q hq0).trans h1;have hD1:=hD.grow s1;obtain ⟨lv0',g1',g2,_,_⟩:=hD1.mem;have elv:lv0' = lv0:=by
   rw [g1] at g1';injection g1' with g1'
   injection g1' with _ g1' _
   injection g1' with _ g1'
   injection g1' with g1' _
   exact g1'.symm
  subst elv;have hvl:=g2.lc.vlen;have d1:decide (((cs.length:Nat):Int) < ((cs.length:Nat):Int)) = false:=decide_eq_false (by omega);have d1':decide (cs.length < cs.length) = false:=decide_eq_false (by omega);unfold za5 uL uS uFM uNFM uB uI uc ug;rw [List.take_length] at ha;simp (disch:=omega) only [↓RD,RZ,g1,hvl,d1,d1'];exact ⟨lv,rfl,s1,ha⟩
theorem zv2 {lo q id:Nat} {H:Heap} {cs:List (V × Ch)} (hD:DM lo H q id cs) (e:Int) :
  Ok (sem T zbb [.ptr q 0,.int .i64 e]) H fun r H'=>r = .tup [] ∧ AtS [q] H H' ∧ DM lo H' q id (cs.filter fun p=>zgg e p.2):=by
 refine ze7 ?_;unfold zdi uNF uc ug;obtain ⟨lv0,h1,h2,h3,h4⟩:=hD.mem;have hq0:=hD.low;have hlq:=hD.loq;simp (maxSteps:=1000000) (disch:=first | omega | (simp only [RY] <;> omega) | decide) only [↓RD,RZ,eq_self,Int.reduceToNat,Int.reduceAdd,Int.reduceSub,Int.reduceMul,Nat.reduceAdd,Nat.reduceSub,Nat.reduceMul,Nat.reduceDiv,Nat.reduceMod,Nat.reduceBEq,Nat.reduceLeDiff];refine zas (zvm hD e) ?_;rintro _ H1 ⟨lv,rfl,s1,ha⟩;have g1:=(s1.same q hq0).trans h1;have n1:=s1.next;have vc:=ha.lc.cells1;have vo:=ha.lc.okc;simp (maxSteps:=1000000) (disch:=first | omega | (simp only [RY] <;> omega) | decide) only [↓RD,RZ,eq_self,Int.reduceToNat,Int.reduceAdd,Int.reduceSub,Int.reduceMul,Nat.reduceAdd,Nat.reduceSub,Nat.reduceMul,Nat.reduceDiv,Nat.reduceMod,Nat.reduceBEq,Nat.reduceLeDiff,g1,vc,vo];have a1:AtS [q] H1 (H1.set q (some ⟨tyRR,[.int .i64 (id:Nat),lv],none⟩)):=AtS.set _ (by simp) _;have hlv:lv.pid ≠ some q:=fun h=>by have:=(ha.lc.own q h).1; omega
 refine ⟨rfl,(Grow.atS s1 _).trans a1,⟨by rw [zan]; omega,hlq,?_,⟨lv,zal _ _ _,?_,hlv,fun p hp i hi hj=>?_⟩,fun p hp=>?_⟩⟩
 ·exact Nat.le_trans (List.length_filter_le _ _) hD.le
 ·exact (ha.low (by omega)).atS a1 fun i hi h=>by simp only [List.mem_singleton] at h; subst h; exact hlv hi
 ·have hpm:=(List.mem_filter.1 hp).1;have h5:=((hD.each p hpm).2.1.own i hi).2;have h6:=(ha.lc.own i hj).1;omega
 ·have hpm:=(List.mem_filter.1 hp).1;obtain ⟨k1,k2,k3⟩:=hD.each p hpm;exact ⟨k1,Lc.atS (k2.ext s1) a1 fun i hi h=>by simp only [List.mem_singleton] at h; subst h; exact k3 hi,k3⟩
end Go.Ax.SU
/- Lk14 -/
namespace Go.Ax.SU
open Go.Ax
theorem okb_ldr {n:Option Nat} {H:Heap} {p c:V} {f:V → M Res} {Q:Res → Heap → Prop} (h:LdR n H p c) (k:Ok (f c) H Q):Ok ((mload n p).bind f) H Q:=by
 have:=(h f Q).2 k
 rwa [zaK] at this
theorem zga {β:Type} {H:Heap} {ty:TypeId} {n:Nat} {zs cs:List V} {f:V → V → M β} {Q:β → Heap → Prop} (hz:zs.length = n) (hl:cs.length = n) (k:∀ q H',q = H.next → H'.get q = some ⟨ty,cs,none⟩ → Grow H H' → H'.next = H.next + 1 → Ok (f (.ptr q 0) .undef) H' Q) :
  Ok ((mbox ty (.agg zs)).bind fun t=>(mstore n t (.agg cs)).bind fun u=>f t u) H Q:=by
 refine zao (zaQ rfl ?_);rw [zaj];have g:=zab H ⟨ty,zs,none⟩;refine zao (zki g (by rw [zaj]; exact hl) (by show 0 + n ≤ zs.length; omega) rfl ?_);refine k _ _ rfl ?_ ((Grow.new _ _).set (Nat.le_refl _) _) rfl;rw [zal,zaj];congr 2;unfold splice;rw [List.take_zero,List.nil_append,List.drop_of_length_le (by show zs.length ≤ 0 + cs.length; omega),List.append_nil]
theorem By.free {v:V} {l:List Nat} (h:∀ H,By 0 H v l):∀ i,v.pid ≠ some i:=fun i hi=>by
 have:=((h H0).own i hi).2;exact absurd this (Nat.not_lt_zero _)
theorem RsM.ty {H:Heap} {q:Nat} {id slot:Int} {x:SS} (h:RsM H q id slot x):∃ b,H.get q = some b ∧ b.ty ≠ zaR ∧ b.ty ≠ zaT ∧ b.ty ≠ zav:=by
 obtain ⟨h0,h1⟩:=h;cases x with
 | none=>exact ⟨_,h1,show tyRS ≠ zaR by decide,show tyRS ≠ zaT by decide,show tyRS ≠ zav by decide⟩
 | some w =>
  obtain ⟨K,e,st,c⟩:=w;obtain ⟨_,R,tv,sv,h3,_⟩:=h1;exact ⟨_,h3,show tyRS ≠ zaR by decide,show tyRS ≠ zaT by decide,show tyRS ≠ zav by decide⟩
end Go.Ax.SU
/- Lk25 -/
namespace Go.Ax.SU
open Go.Ax
theorem zjI {k:Nat}:∀ (es:List (List V)),(∀ x ∈ es,x.length = k) → ∀ (i:Nat) (hi:i < es.length) (o:Nat) (x:List V),o + x.length ≤ k → splice es.flatten (i * k + o) x = (es.set i (splice es[i] o x)).flatten
 | [],_,i,hi,_,_,_=>absurd hi (Nat.not_lt_zero _)
 | y :: es,h,0,hi,o,x,hx=>by
  have hy:=h y List.mem_cons_self;show splice (y ++ es.flatten) (0 * k + o) x = (splice y o x :: es).flatten;rw [Nat.zero_mul,Nat.zero_add,List.flatten_cons];unfold splice;rw [List.take_append_of_le_length (by omega),List.drop_append_of_le_length (by omega)];simp only [List.append_assoc]
 | y :: es,h,i + 1,hi,o,x,hx=>by
  have hy:=h y List.mem_cons_self;have hi':i < es.length:=by simpa using hi
  have ih:=zjI es (fun z hz=>h z (List.mem_cons_of_mem _ hz)) i hi' o x hx;have e:(i + 1) * k + o = y.length + (i * k + o):=by rw [Nat.succ_mul,hy]; omega
  show splice (y ++ es.flatten) ((i + 1) * k + o) x = (y :: es.set i (splice es[i] o x)).flatten;rw [List.flatten_cons,← ih,e];unfold splice;rw [List.take_length_add_append,Nat.add_assoc,List.drop_length_add_append,List.append_assoc,List.append_assoc,List.append_assoc]
theorem zpg (a b c d:V) (l x:List V) (o:Nat):splice (a :: b :: c :: d :: l) (4 + o) x = a :: b :: c :: d :: splice l o x:=by
 unfold splice;rw [Nat.add_comm 4 o,show o + 4 + x.length = (o + x.length) + 4 by omega];rfl
theorem _root_.Go.Ax.App.at0 {ty e lo n:Nat} {H:Heap} {v:V} {cells:List V} (h:App ty e lo H v cells n) (hn:0 < n):∃ id,v = .sl id 0 n (.opn e) ∧ H.get id = some ⟨ty,cells,some e⟩ ∧ lo ≤ id ∧ id < H.next:=by
 cases h with
 | opn h ho =>
  rcases h with ⟨_,_,rfl⟩ | ⟨id,rfl,hg,hl⟩
  ·omega
  ·exact ⟨id,rfl,hg,(ho id rfl).1,(ho id rfl).2⟩
 | lit h h0 h1=>omega
theorem zoX {cs:List (V × Ch)} (hg:∀ p ∈ cs,ChG p.2):∀ x ∈ cs.map chC,x.length = 100:=fun x hx=>by
 obtain ⟨w,hw,rfl⟩:=List.mem_map.1 hx;exact zlk (hg w hw)
theorem ch_at {cs:List (V × Ch)} (hg:∀ p ∈ cs,ChG p.2) {i:Nat} (hi:i < cs.length):(((cs.map chC).flatten).drop (i * 100)).take 100 = chC cs[i] ∧ i * 100 + 100 ≤ ((cs.map chC).flatten).length :=
 flat_at (k:=100) (cs.map chC) (zoX hg) i (chC cs[i]) (by rw [List.getElem?_map,List.getElem?_eq_getElem hi]; rfl)
theorem zvu {cs:List (V × Ch)} (hg:∀ p ∈ cs,ChG p.2) {i o:Nat} {v:V} (hi:i < cs.length) (ho:o < 100) (h:(chC cs[i])[o]? = some v):((cs.map chC).flatten)[i * 100 + o]? = some v:=by
 rw [← (ch_at hg hi).1,List.getElem?_take_of_lt ho,List.getElem?_drop] at h;exact h
theorem ztA (ws:List WS):∀ x ∈ ws.map wsC,x.length = 3:=fun x hx=>by
 obtain ⟨w,_,rfl⟩:=List.mem_map.1 hx;rfl
theorem getD_at {ws:List WS} {s:Nat} (h:s < ws.length):ws.getD s (false,0,0) = ws[s]:=by
 rw [List.getD_eq_getElem?_getD,List.getElem?_eq_getElem h]; rfl
theorem ch_w {cs:List (V × Ch)} (hg:∀ p ∈ cs,ChG p.2) {i s:Nat} (hi:i < cs.length) (hs:s < 32):ldc (some 3) ((cs.map chC).flatten) (i * 100 + 4 + s * 3) = some (wsv (cs[i].2.ws.getD s (false,0,0))):=by
 obtain ⟨h1,h2⟩:=ch_at hg hi;have hw:=(hg _ (List.getElem_mem hi)).ws;have h3:=flat_at (k:=3) (cs[i].2.ws.map wsC) (ztA _) s (wsC cs[i].2.ws[s]) (by rw [List.getElem?_map,List.getElem?_eq_getElem (by omega)]; rfl);simp only [ldc];rw [if_pos (by omega)];have e1:(((cs.map chC).flatten).drop (i * 100 + 4 + s * 3)).take 3 = ((chC cs[i]).drop (4 + s * 3)).take 3:=by
  rw [← h1,List.drop_take,List.take_take,List.drop_drop,Nat.min_eq_left (by omega),Nat.add_assoc]
 have e2:(chC cs[i]).drop (4 + s * 3) = ((cs[i].2.ws.map wsC).flatten).drop (s * 3):=by
  unfold chC;rw [Nat.add_comm 4];rfl
 rw [e1,e2,h3.1,getD_at (by omega)];rfl
theorem ch_set {cs:List (V × Ch)} (hg:∀ p ∈ cs,ChG p.2) {i s:Nat} (hi:i < cs.length) (hs:s < 32) (w:WS) :
  splice ((cs.map chC).flatten) (i * 100 + 4 + s * 3) (wsC w) = ((cs.set i (cs[i].1,{ cs[i].2 with ws:=cs[i].2.ws.set s w })).map chC).flatten:=by
 have hw:=(hg _ (List.getElem_mem hi)).ws;have hil:i < (cs.map chC).length:=by rw [List.length_map]; exact hi
 have hsl:s < (cs[i].2.ws.map wsC).length:=by rw [List.length_map]; omega
 have h1:=zjI (cs.map chC) (zoX hg) i hil (4 + s * 3) (wsC w) (by rw [ztB]; omega);rw [← Nat.add_assoc] at h1;rw [h1,List.map_set];congr 2;rw [List.getElem_map];have h2:=zjI (k:=3) (cs[i].2.ws.map wsC) (ztA _) s hsl 0 (wsC w) (by rw [ztB]; omega);rw [Nat.add_zero] at h2;unfold chC;rw [zpg,h2,List.map_set];have h3:splice (cs[i].2.ws.map wsC)[s] 0 (wsC w) = wsC w:=by
  rw [List.getElem_map];rfl
 rw [h3]
theorem OpenD_ok {lo lo1 lo2 q id n t:Nat} {H:Heap} {cs:List (V × Ch)} {mv bv:V} {m b:List Nat} (hD:DM lo H q id cs) (hsz:szs id = some (n,t)) (hm:By lo1 H mv m) (m8:Ok8 m) (hb:By lo2 H bv b) (b8:Ok8 b) (ml:m.length ≤ 137438953472) (bl:b.length ≤ 1099511627776) :
  Ok (sem T zba [.ptr q 0,mv,bv]) H fun r H'=>grv H H' r (zkf id n t (cs.map (·.2)) m b).2 ∧ AtS [q] H H' ∧ ∃ cs',DM lo H' q id cs' ∧ cs'.map (·.2) = (zkf id n t (cs.map (·.2)) m b).1:=by
 refine ze6 ?_;unfold zdh uL uS uT uF uFM uNFM uNF uE uB uI uG uH uO uc uq;refine zao (zaQ rfl ?_);rw [zaj];have s0:=Grow.new H ⟨zaq,[.int .i64 0,.int .i64 0,.int .i64 0,.int .u64 0,.nils],none⟩;have g0:(H.new ⟨zaq,[.int .i64 0,.int .i64 0,.int .i64 0,.int .u64 0,.nils],none⟩).get H.next = some ⟨zaq,[.int .i64 0,.int .i64 0,.int .i64 0,.int .u64 0,.nils],none⟩:=zab _ _;have n0:(H.new ⟨zaq,[.int .i64 0,.int .i64 0,.int .i64 0,.int .u64 0,.nils],none⟩).next = H.next + 1:=zaf _ _;have hq0:=hD.low;have hlq:=hD.loq;generalize hgg:H.next = g at *;generalize H.new _ = H0 at *;have hD0:=hD.grow s0;have hb0:=hb.ext s0;have hm0:=hm.ext s0;have hg:∀ p ∈ cs,ChG p.2:=fun p hp=>(hD.each p hp).1;have fin:∀ (H1:Heap) (cs0:List V),Grow H H1 → AtS [q] H (H1.set g (some ⟨zaq,cs0,none⟩)) ∧ ∃ cs',DM lo (H1.set g (some ⟨zaq,cs0,none⟩)) q id cs' ∧ cs'.map (·.2) = cs.map (·.2):=fun H1 cs0 h1 =>
  ⟨Grow.atS (h1.set (by omega) _) _,cs,hD.grow (h1.set (by omega) _),rfl⟩
 have hpar:=@zbM _ _ _ _ (zjC hb0 b8 (by omega));cases hp:parse b with
 | err e =>
  have eo:zkf id n t (cs.map (·.2)) m b = (cs.map (·.2),.err e):=by unfold zkf; rw [hp]
  rw [hp] at hpar;have e0:=neqz (zov hp);rw [eo];simp (maxSteps:=1000000) (disch:=first | omega | (simp only [RY] <;> omega) | decide) only [↓RD,RZ,eq_self,Int.reduceToNat,Int.reduceAdd,Int.reduceSub,Int.reduceMul,Nat.reduceAdd,Nat.reduceSub,Nat.reduceMul,Nat.reduceDiv,Nat.reduceMod,Nat.reduceBEq,Nat.reduceLeDiff,hpar,phv,e0,Bool.not_false,g0];obtain ⟨f1,f2⟩:=fin H0 [.int .i64 0,.int .i64 0,.int .i64 0,.int .u64 0,.nils] s0;exact ⟨rfl,f1,f2⟩
 | ok k ct hl =>
  rw [hp] at hpar;obtain ⟨p1,p2,p3,p4⟩:=zow hp b8;have hpt:=@zbM _ _ _ _ (@ztr H0 k p3);by_cases h1:16777216 ≤ k
  ·have eo:zkf id n t (cs.map (·.2)) m b = (cs.map (·.2),.err 2):=by unfold zkf; rw [hp]; dsimp only; rw [if_pos h1]
   have ep:zgG k = .tup [.int .i64 0,.int .i64 0,.int .i64 0,.bool false]:=by unfold zgG; rw [if_pos h1]
   rw [ep] at hpt;rw [eo];simp (maxSteps:=1000000) (disch:=first | omega | (simp only [RY] <;> omega) | decide) only [↓RD,RZ,eq_self,Int.reduceToNat,Int.reduceAdd,Int.reduceSub,Int.reduceMul,Nat.reduceAdd,Nat.reduceSub,Nat.reduceMul,Nat.reduceDiv,Nat.reduceMod,Nat.reduceBEq,Nat.reduceLeDiff,hpar,phv,hpt,g0];obtain ⟨f1,f2⟩:=fin H0 [.int .i64 0,.int .i64 0,.int .i64 0,.int .u64 0,.nils] s0;exact ⟨rfl,f1,f2⟩
  have ep:zgG k = .tup [.int .i64 (k / 256:Nat),.int .i64 (k % 256 / 8:Nat),.int .i64 (k % 8:Nat),.bool true]:=by unfold zgG; rw [if_neg h1]
  rw [ep] at hpt;have hat:=@zbM _ _ _ _ (zno hD0 ((k / 256:Nat):Int) ((k % 8:Nat):Int));cases hf:cs.findIdx? (isK ((k / 256:Nat):Int) ((k % 8:Nat):Int)) with
  | none =>
   have eo:zkf id n t (cs.map (·.2)) m b = (cs.map (·.2),.err 10):=by unfold zkf; rw [hp]; dsimp only; rw [if_neg h1,zjb,hf]
   have e1:atD ((k / 256:Nat):Int) ((k % 8:Nat):Int) cs = -1:=by unfold atD; rw [hf]
   rw [e1] at hat;rw [eo];simp (maxSteps:=1000000) (disch:=first | omega | (simp only [RY] <;> omega) | decide) only [↓RD,RZ,eq_self,Int.reduceToNat,Int.reduceAdd,Int.reduceSub,Int.reduceMul,Nat.reduceAdd,Nat.reduceSub,Nat.reduceMul,Nat.reduceDiv,Nat.reduceMod,Nat.reduceBEq,Nat.reduceLeDiff,hpar,phv,hpt,hat,g0];obtain ⟨f1,f2⟩:=fin H0 [.int .i64 0,.int .i64 0,.int .i64 0,.int .u64 0,.nils] s0;exact ⟨rfl,f1,f2⟩
  | some i =>
   have hi:i < cs.length:=(List.findIdx?_eq_some_iff_getElem.1 hf).1;have e1:atD ((k / 256:Nat):Int) ((k % 8:Nat):Int) cs = (i:Nat):=by unfold atD; rw [hf]
   rw [e1] at hat;have d0:decide (((i:Nat):Int) < 0) = false:=decide_eq_false (by omega);obtain ⟨lv,m1,m2,m3,m4⟩:=hD0.mem;obtain ⟨a,rfl,ga,a1,a2⟩:=m2.at0 (by omega);have hle:=hD.le;have hia:∀ {a':Nat} {kk:IntKind},Ax.iaddr none 100 (.sl a' 0 cs.length (.opn 100)) (.int kk ((i:Nat):Int)) = some (.ptr a' (i * 100)):=fun {a' kk}=>by rw [zl2 (by omega) (by omega),Int.toNat_natCast,Nat.zero_add]
   have c2:=zvu hg hi (o:=2) (by decide) rfl;have c3:=zvu hg hi (o:=3) (by decide) rfl;have hs32:k % 256 / 8 < 32:=by omega
   have cw:=ch_w hg hi hs32;have cset:=fun w=>ch_set hg hi hs32 w;have hiw:∀ {a':Nat} {kk:IntKind},Ax.iaddr (some 32) 3 (.ptr a' (i * 100 + 4)) (.int kk ((k % 256 / 8:Nat):Int)) = some (.ptr a' (i * 100 + 4 + k % 256 / 8 * 3)):=fun {a' kk}=>by
    simp only [Ax.iaddr];rw [if_pos (by omega),Int.toNat_natCast]
   have hfl:=(ch_at hg hi).2;obtain ⟨hGi,hBi,hQi⟩:=hD.each _ (List.getElem_mem hi);have eo0:zkf id n t (cs.map (·.2)) m b = if k % 256 / 8 < cs[i].2.st then (cs.map (·.2),.err 10) else
     if mayW (cs[i].2.ws.getD (k % 256 / 8) (false,0,0)) ct ≠ 0 then (cs.map (·.2),.err (mayW (cs[i].2.ws.getD (k % 256 / 8) (false,0,0)) ct)) else
     match zjL (drv id k n t (zc0 cs[i].2.base (k % 256 / 8 - cs[i].2.st))) b m with
     | .err e=>(cs.map (·.2),.err e)
     | .ok p _=>((cs.map (·.2)).set i { cs[i].2 with ws:=cs[i].2.ws.set (k % 256 / 8) (ze9 (cs[i].2.ws.getD (k % 256 / 8) (false,0,0)) ct) },.got (k / 256) (k % 256 / 8) (k % 8) ct p):=by
    unfold zkf;rw [hp];dsimp only;rw [if_neg h1,zjb,hf];dsimp only;rw [List.getElem?_map,List.getElem?_eq_getElem hi];rfl
   have hmem:=List.getElem_mem hi;have hwl:(cs[i].2.ws.getD (k % 256 / 8) (false,0,0)) ∈ cs[i].2.ws:=by rw [getD_at (by rw [hGi.ws]; exact hs32)]; exact List.getElem_mem _
   have hwr:=hGi.wr _ hwl;generalize hW:cs[i].2.ws.getD (k % 256 / 8) (false,0,0) = W at *;generalize hcc:cs[i] = px at *;generalize hss:k % 256 / 8 = s at *;by_cases h2:s < px.2.st
   ·rw [if_pos h2] at eo0;have d:decide (((s:Nat):Int) < ((px.2.st:Nat):Int)) = true:=decide_eq_true (by omega);have d':decide (s < px.2.st) = true:=decide_eq_true h2;rw [eo0];simp (maxSteps:=1000000) (disch:=first | omega | (simp only [RY] <;> omega) | decide) only [↓RD,RZ,eq_self,Int.reduceToNat,Int.reduceAdd,Int.reduceSub,Int.reduceMul,Nat.reduceAdd,Nat.reduceSub,Nat.reduceMul,Nat.reduceDiv,Nat.reduceMod,Nat.reduceBEq,Nat.reduceLeDiff,hpar,phv,hpt,hat,d0,m1,hia,ga,c2,d,d',g0];obtain ⟨f1,f2⟩:=fin H0 [.int .i64 0,.int .i64 0,.int .i64 0,.int .u64 0,.nils] s0;exact ⟨rfl,f1,f2⟩
   rw [if_neg h2] at eo0;have d:decide (((s:Nat):Int) < ((px.2.st:Nat):Int)) = false:=decide_eq_false (by omega);have d':decide (s < px.2.st) = false:=decide_eq_false h2;simp (disch:=omega) only [↓RD,RZ,hpar,phv,hpt,hat,d0,m1,hia,ga,c2,d,d',hiw,cw];refine zag (zuJ (n:=ct) hwr p4) ?_;rintro r1 H1 ⟨s1,hy,hn⟩;by_cases h3:mayW W ct = 0
   ·rw [if_neg (fun h=>h h3)] at eo0;have hr:=hy h3;subst hr;clear hy hn;have mW:=zuK (n:=ct) hwr p4 h3;generalize hMW:ze9 W ct = W' at *;refine za0 rfl ?_;refine za0 rfl ?_;refine zga (cs:=wsC W') rfl rfl fun b7 H2 eb7 gb7 s2 nb7=>?_;have n1:=s1.next;have s02:=s0.trans (s1.trans s2);have m12:=((s1.trans s2).same q hD0.low).trans m1;have ga2:=((s1.trans s2).same a a2).trans ga;have w1:IntKind.i64.wrap (((s:Nat):Int) - ((px.2.st:Nat):Int)) = ((s - px.2.st:Nat):Int):=by rw [wrap_i64 (by omega) (by omega)]; omega
    simp (disch:=omega) only [↓RD,RZ,beq_self_eq_true,Bool.not_true,m12,hia,ga2,c2,c3,w1];refine zag (ztt (hBi.ext s02) hGi.b8 hGi.bl (by omega)) ?_;rintro _ H3 ⟨v3,rfl,hv3,s3⟩;have B8:=zmb hGi.b8 (s - px.2.st);have Bl:=zje (m:=1099511627) hGi.bl (by decide) (s - px.2.st);generalize hB:zc0 px.2.base (s - px.2.st) = B at *;have s03:=s02.trans s3;have m13:=(s3.same q (by have:=s02.next; omega)).trans m12;simp (disch:=omega) only [↓RD,RZ,m13];refine zag (znn (id:=(id:Nat)) (by omega) p3 hv3 B8 (by omega)) ?_;rintro _ H4 ⟨s4,⟨h4 | h4,_⟩ | ⟨n',t',R,tv,sv,h4,h5,rfl,hk4,hlow⟩⟩
    ·omega
    ·rw [Int.toNat_natCast,hsz] at h4; cases h4
    rw [Int.toNat_natCast,hsz] at h5;injection h5 with h5
    injection h5 with e5 e6
    subst e5 e6;rw [Int.toNat_natCast] at hk4;refine za0 rfl ?_;refine za0 rfl ?_;refine zga zgT (zgh _ _ _ _ _) fun b8' H5 eb8 gb8 s5 nb8=>?_;have l8:=ld261 R tv sv k t;have s05:=s03.trans (s4.trans s5);simp (disch:=omega) only [↓RD,RZ,gb8,l8];refine zag (zvY (K:=drv id k n t B) (hk4.grow s5) (hb.ext s05) b8 (hm.ext s05) m8 ml bl) ?_;rintro r6 H6 ⟨s6,h6⟩;have s06:=s05.trans s6;have g6:H6.get g = some ⟨zaq,[.int .i64 0,.int .i64 0,.int .i64 0,.int .u64 0,.nils],none⟩:=((((s1.trans s2).trans s3).trans ((s4.trans s5).trans s6)).same g (by omega)).trans g0;cases hop:zjL (drv id k n t B) b m with
    | err e =>
     rw [hop] at h6 eo0;have h6:r6 = _:=h6;subst h6;have e6:=neqz (zrO hop);rw [eo0];simp (maxSteps:=1000000) (disch:=first | omega | (simp only [RY] <;> omega) | decide) only [↓RD,RZ,eq_self,Int.reduceToNat,Int.reduceAdd,Int.reduceSub,Int.reduceMul,Nat.reduceAdd,Nat.reduceSub,Nat.reduceMul,Nat.reduceDiv,Nat.reduceMod,Nat.reduceBEq,Nat.reduceLeDiff,e6,Bool.not_false,g6];obtain ⟨f1,f2⟩:=fin H6 [.int .i64 0,.int .i64 0,.int .i64 0,.int .u64 0,.nils] s06;exact ⟨rfl,f1,f2⟩
    | ok p c' =>
     rw [hop] at h6 eo0;obtain ⟨v6,rfl,hv6⟩:=h6;have b67:H6.get b7 = some ⟨tyRW,wsC W',none⟩:=((s3.trans ((s4.trans s5).trans s6)).same b7 (by omega)).trans gb7;have n6:=s6.next;have ez:fill (zeros zC 0) [] = some []:=rfl;have s7:=Grow.new H6 ⟨tyCh,[],none⟩;have gz:(H6.new ⟨tyCh,[],none⟩).get H6.next = some ⟨tyCh,[],none⟩:=zab _ _;have n7:(H6.new ⟨tyCh,[],none⟩).next = H6.next + 1:=zaf _ _;have s16:=(s1.trans s2).trans (s3.trans ((s4.trans s5).trans s6));have n16:=s16.next;have m17:=((s16.trans s7).same q hD0.low).trans m1;have m16:=(s16.same q hD0.low).trans m1;simp (disch:=omega) only [↓RD,RZ,beq_self_eq_true,Bool.not_true,ez,m17,m16];rw [zaK];generalize hz:H6.next = z at *;have g7:=(s7.same g (by omega)).trans g6;have b77:=(s7.same b7 (by have:=s2.next; have:=s3.next; have:=s4.next; have:=s5.next; omega)).trans b67;have m27:=m2.atS (Grow.atS (s16.trans s7) []) (by simp);have hv7:=hv6.ext s7;generalize H6.new _ = H7 at *;have hx1:App tyCh 100 z H7 (.sl z 0 0 (.fix 0)) [] 0:=.lit gz (Nat.le_refl _) (by omega);have hfl2:((cs.map chC).flatten).length = cs.length * 100:=by
      have:=zkx (k:=100) (cs.map chC) (zoX hg);rw [List.length_map] at this;exact this
     refine zir (bytes:=816) hx1 (by omega) (znj m27.lc.rc) hfl2 (by omega) (by omega) fun x4 H8 hx4 st8=>?_;rw [List.nil_append,Nat.zero_add] at hx4;obtain ⟨a',rfl,ga8,a3,a4⟩:=hx4.at0 (by omega);have n8:=st8.next;have hz8:∀ j,j < H7.next → j ≠ z → H8.get j = H7.get j:=fun j h h'=>st8.same j h (by simpa [V.pid] using h');have m18:=(hz8 q (by omega) (by omega)).trans m17;have g8:=(hz8 g (by omega) (by omega)).trans g7;have b87:=(hz8 b7 (by have:=s2.next; have:=s3.next; have:=s4.next; have:=s5.next; omega) (by have:=s2.next; have:=s3.next; have:=s4.next; have:=s5.next; omega)).trans b77;have m19:(H8.set q (some ⟨tyRR,[.int .i64 (id:Nat),.sl a' 0 cs.length (.opn 100)],none⟩)).get q = _:=zal _ _ _;have ga9:(H8.set q (some ⟨tyRR,[.int .i64 (id:Nat),.sl a' 0 cs.length (.opn 100)],none⟩)).get a' = _:=(zai _ _ (by omega)).trans ga8;have b97:(H8.set q (some ⟨tyRR,[.int .i64 (id:Nat),.sl a' 0 cs.length (.opn 100)],none⟩)).get b7 = _:=(zai _ _ (by omega)).trans b87;have g9:(H8.set q (some ⟨tyRR,[.int .i64 (id:Nat),.sl a' 0 cs.length (.opn 100)],none⟩)).get g = _:=(zai _ _ (by omega)).trans g8;have l9:ldc (some 3) (wsC W') 0 = some (.agg (wsC W')):=rfl;simp (maxSteps:=1000000) (disch:=first | omega | (simp only [RY] <;> omega) | decide) only [↓RD,RZ,eq_self,Int.reduceToNat,Int.reduceAdd,Int.reduceSub,Int.reduceMul,Nat.reduceAdd,Nat.reduceSub,Nat.reduceMul,Nat.reduceDiv,Nat.reduceMod,Nat.reduceBEq,Nat.reduceLeDiff,m18,b87,l9,hia,hiw];rw [ga8];refine zrx.2 ⟨⟨rfl,by show _ + 3 ≤ _; omega,rfl⟩,?_⟩;rw [zaj,cset];have vc:=hv6.cells1;have vo:=hv6.okc;have hG':ChG { px.2 with ws:=px.2.ws.set s W' }:=⟨by show (px.2.ws.set s W').length = 32; rw [List.length_set]; exact hGi.ws,fun w hw=>by
      rcases List.mem_or_eq_of_mem_set hw with hw | rfl
      ·exact hGi.wr w hw
      ·exact mW,hGi.b8,hGi.bl,hGi.st,hGi.ko⟩
     simp (maxSteps:=1000000) (disch:=first | omega | (simp only [RY] <;> omega) | decide) only [↓RD,RZ,eq_self,Int.reduceToNat,Int.reduceAdd,Int.reduceSub,Int.reduceMul,Nat.reduceAdd,Nat.reduceSub,Nat.reduceMul,Nat.reduceDiv,Nat.reduceMod,Nat.reduceBEq,Nat.reduceLeDiff,g8,vc,vo];have ecs:(cs.map (·.2)).set i { px.2 with ws:=px.2.ws.set s W' } = (cs.set i (px.1,{ px.2 with ws:=px.2.ws.set s W' })).map (·.2):=by rw [List.map_set]
     have K:∀ B1 B2 B3:Option Blk,(∀ j,j ≠ q → j ≠ a' → j ≠ g → (((H8.set q B1).set a' B2).set g B3).get j = H8.get j) ∧ (((H8.set q B1).set a' B2).set g B3).get q = B1 ∧ (((H8.set q B1).set a' B2).set g B3).get a' = B2 ∧ (((H8.set q B1).set a' B2).set g B3).next = H8.next:=fun B1 B2 B3 =>
      ⟨fun j j1 j2 j3=>by rw [zai _ _ j3,zai _ _ j2,zai _ _ j1],by rw [zai _ _ (by omega),zai _ _ (by omega),zal],by rw [zai _ _ (by omega),zal],rfl⟩
     rw [eo0,ecs];generalize hpx:((px.1,{ px.2 with ws:=px.2.ws.set s W' }):V × Ch) = px' at *;have e31:px'.1 = px.1:=by rw [← hpx]
     have e32:px'.2.base = px.2.base:=by rw [← hpx]
     have hG2:ChG px'.2:=by rw [← hpx]; exact hG'
     obtain ⟨k1,kq,ka,kn⟩:=K (some ⟨tyRR,[.int .i64 (id:Nat),.sl a' 0 cs.length (.opn 100)],none⟩) (some ⟨tyCh,((cs.set i px').map chC).flatten,some 100⟩) (some ⟨zaq,[.int .i64 (k / 256:Nat),.int .i64 (s:Nat),.int .i64 (k % 8:Nat),.int .u64 (ct:Nat),v6],none⟩);generalize ((H8.set q (some ⟨tyRR,[.int .i64 (id:Nat),.sl a' 0 cs.length (.opn 100)],none⟩)).set a' (some ⟨tyCh,((cs.set i px').map chC).flatten,some 100⟩)).set g (some ⟨zaq,[.int .i64 (k / 256:Nat),.int .i64 (s:Nat),.int .i64 (k % 8:Nat),.int .u64 (ct:Nat),v6],none⟩) = H11 at *;have s08:Grow H H8:=AtS.new (s06.trans s7) st8.atS fun j hj=>by
      simp only [V.pid,Option.toList_some,List.mem_singleton] at hj;have:=s06.next;omega
     have n08:=s08.next;have a11:AtS [q,a',g] H8 H11:=⟨by omega,fun j _ hj=>k1 j (fun e=>hj (by simp [e])) (fun e=>hj (by simp [e])) (fun e=>hj (by simp [e]))⟩;have n06:=s06.next;have hown:∀ {v:V} {l:List Nat},By lo H v l → v.pid ≠ some q → By lo H11 v l:=fun {v l} hv hvq=>Lc.atS (hv.ext s08) a11 fun j hj h=>by
      have:=(hv.own j hj).2;simp only [List.mem_cons,List.not_mem_nil,or_false] at h;rcases h with rfl | rfl | rfl
      ·exact hvq hj
      ·omega
      ·omega
     have hset:∀ p ∈ cs.set i px',ChG p.2 ∧ By lo H p.1 p.2.base ∧ p.1.pid ≠ some q:=fun p hp=>by
      rcases List.mem_or_eq_of_mem_set hp with hp | rfl
      ·exact hD.each p hp
      ·rw [e31,e32]; exact ⟨hG2,hBi,hQi⟩
     have hg':∀ p ∈ cs.set i px',ChG p.2:=fun p hp=>(hset p hp).1;have hfl3:(((cs.set i px').map chC).flatten).length = cs.length * 100:=by
      have:=zkx (k:=100) ((cs.set i px').map chC) (zoX hg');rw [List.length_map,List.length_set] at this;exact this
     refine ⟨⟨v6,rfl,?_⟩,⟨by omega,fun j hj hjq=>?_⟩,cs.set i px',⟨by omega,hlq,by rw [List.length_set]; exact hle,⟨_,kq,?_,fun e=>?_,fun p hp j hj e=>?_⟩,fun p hp=>?_⟩,rfl⟩
     ·refine (Lc.atS (Lc.atS hv7 st8.atS fun j hj h=>?_) a11 fun j hj h=>?_).low (by have:=s05.next; omega)
      ·simp only [V.pid,Option.toList_some,List.mem_singleton] at h;have:=(hv6.own j hj).2;omega
      ·have h5:=hv6.own j hj;have:=(s1.trans s2).next;have:=s3.next;have:=(s4.trans s5).next;simp only [List.mem_cons,List.not_mem_nil,or_false] at h;omega
     ·have hjq:j ≠ q:=fun e=>hjq (by simp [e]);rw [k1 j hjq (by omega) (by omega)];exact s08.same j (by omega)
     ·rw [List.length_set];exact .opn (.inr ⟨a',rfl,ka,hfl3⟩) fun j hj=>by
       simp only [V.pid,Option.some.injEq] at hj;omega
     ·simp only [V.pid,Option.some.injEq] at e;omega
     ·simp only [V.pid,Option.some.injEq] at e;have:=((hset p hp).2.1.own j hj).2;omega
     ·obtain ⟨q1,q2,q3⟩:=hset p hp;exact ⟨q1,hown q2 q3,q3⟩
   ·rw [if_pos h3] at eo0;have hr:=hn h3;subst hr;have e0:=neqz h3;rw [eo0];refine za0 rfl ?_;refine za0 rfl ?_;refine zga (cs:=wsC (false,0,0)) rfl rfl fun b7 H2 eb7 gb7 s2 nb7=>?_;have g2:=((s1.trans s2).same g (by omega)).trans g0;simp (maxSteps:=1000000) (disch:=first | omega | (simp only [RY] <;> omega) | decide) only [↓RD,RZ,eq_self,Int.reduceToNat,Int.reduceAdd,Int.reduceSub,Int.reduceMul,Nat.reduceAdd,Nat.reduceSub,Nat.reduceMul,Nat.reduceDiv,Nat.reduceMod,Nat.reduceBEq,Nat.reduceLeDiff,e0,Bool.not_false,g2];obtain ⟨f1,f2⟩:=fin H2 [.int .i64 0,.int .i64 0,.int .i64 0,.int .u64 0,.nils] (s0.trans (s1.trans s2));exact ⟨rfl,f1,f2⟩
end Go.Ax.SU
/- Lk26 -/
namespace Go.Ax.SU
open Go.Ax
/-! Turns,as data. -/
structure Tn where
 op:Int
 e:Int
 sl:Int
 st:Int
 c:Nat
 at':Int
 by':Nat
 b:List Nat
 base:List Nat
structure TnR (cells:List V) (x:Tn):Prop where
 ex:∃ bv zv,cells = [.int .i64 x.op,.int .i64 x.e,.int .i64 x.sl,.int .i64 x.st,.int .u64 (x.c:Nat),.int .i64 x.at',.int .u8 (x.by':Nat),bv,zv] ∧ ∀ H,By 0 H bv x.b ∧ By 0 H zv x.base
 b8:Ok8 x.b
 z8:Ok8 x.base
 zl:x.base.length ≤ 1048576
 cr:x.c < 18446744073709551616
 byr:x.by' < 256
 atr:-9223372036854775808 ≤ x.at' ∧ x.at' ≤ 9223372036854775807
theorem TnR.len {cells:List V} {x:Tn} (h:TnR cells x):cells.length = 9:=by
 obtain ⟨bv,zv,e,_⟩:=h.ex;rw [e]; rfl
theorem sh_tn {vs:List V} (h:Sh.Ty (.st [.int .i64,.int .i64,.int .i64,.int .i64,.int .u64,.int .i64,.int .u8,.sl (.int .u8),.sl (.int .u8)]) vs) (hb:V.blks vs ≤ 1048576):∃ x,TnR vs x:=by
 obtain ⟨a0,b0,rfl,h0,a1,b1,rfl,h1,a2,b2,rfl,h2,a3,b3,rfl,h3,a4,b4,rfl,h4,a5,b5,rfl,h5,a6,b6,rfl,h6,a7,b7,rfl,h7,a8,b8,rfl,h8,hz⟩:=h;have:b8 = []:=hz;subst this;obtain ⟨op,rfl,_⟩:=znR h0;obtain ⟨e,rfl,_⟩:=znR h1;obtain ⟨sl,rfl,_⟩:=znR h2;obtain ⟨st,rfl,_⟩:=znR h3;obtain ⟨c,rfl,hc⟩:=sh_u64 h4;obtain ⟨at',rfl,ha⟩:=znR h5;obtain ⟨by',rfl,hy⟩:=sh_u8 h6;obtain ⟨bv,b,rfl,k3,r3⟩:=sh_u8s h7;obtain ⟨zv,z,rfl,k4,r4⟩:=sh_u8s h8;have b4:=k4.blk (fun x=>by simp [by8,V.blk]);simp only [V.blks,List.cons_append,List.nil_append] at hb;exact ⟨⟨op,e,sl,st,c,at',by',b,z⟩,⟨bv,zv,rfl,fun H=>⟨k3.lc 0,k4.lc 0⟩⟩,r3,r4,by show z.length ≤ _; omega,hc,hy,ha⟩
theorem sh_tns {vs:List V} (h:Sh.Ty (.sl (.st [.int .i64,.int .i64,.int .i64,.int .i64,.int .u64,.int .i64,.int .u8,.sl (.int .u8),.sl (.int .u8)])) vs) (hb:V.blks vs ≤ 1048576):∃ (v:V) (cs:List (List V × Tn)),vs = [v] ∧ (∀ w ∈ cs,TnR w.1 w.2) ∧ ∀ H,Lc 9 0 H v (cs.map (·.1)).flatten cs.length:=by
 rcases h with rfl | ⟨es,rfl,_,hes⟩
 ·exact ⟨.nils,[],rfl,fun w h=>(by cases h),fun H=>Lc.nil⟩
 ·simp only [V.blks,V.blk] at hb;have hfl:=zvB es;obtain ⟨cs,rfl,hcs⟩:=zuP (f:=fun w:List V × Tn=>w.1) (p:=fun w=>TnR w.1 w.2) es fun x hx=>by
   obtain ⟨m,h1⟩:=sh_tn (hes x hx) (by have:=hfl x hx; omega);exact ⟨(x,m),rfl,h1⟩
  refine ⟨_,cs,rfl,hcs,fun H=>?_⟩;have:=rs_lc (lo:=0) (H:=H) (e:=9) (es:=cs.map (·.1)) fun x hx=>by
   obtain ⟨w,hw,rfl⟩:=List.mem_map.1 hx;exact (hcs w hw).len
  rw [List.length_map] at this ⊢;exact this
theorem tns_at {H:Heap} {v:V} {cs:List (List V × Tn)} (h:Lc 9 0 H v (cs.map (·.1)).flatten cs.length) (hc:∀ w ∈ cs,TnR w.1 w.2) {i:Nat} (hi:i < cs.length):∃ p,(∀ {k:IntKind},Ax.iaddr none 9 v (.int k (i:Nat)) = some p) ∧ LdR (some 9) H p (.agg cs[i].1):=by
 have hlen:∀ x ∈ cs.map (·.1),x.length = 9:=fun x hx=>by
  obtain ⟨w,hw,rfl⟩:=List.mem_map.1 hx;exact (hc w hw).len
 obtain ⟨p,hp,hl⟩:=h.at (i:=(i:Nat)) (by omega) (by omega);have e:((cs.map (·.1)).flatten.drop ((i:Int).toNat * 9)).take 9 = cs[i].1:=by
  rw [Int.toNat_natCast,(flat_at _ hlen i cs[i].1 (by rw [List.getElem?_map,List.getElem?_eq_getElem hi]; rfl)).1]
 rw [e] at hl;have h5:cs[i].1.length = 9:=hlen _ (List.mem_map.2 ⟨_,List.getElem_mem hi,rfl⟩);have:=hl.all;rw [h5] at this;exact ⟨p,hp,this⟩
/-! What is got. -/
theorem ztq {lo1 lo2:Nat} {H:Heap} {e st sl c:Int} {v v':V} {p:List Nat} (hv:By lo1 H v p) (hv':By lo2 H v' p) :
  Ok (sem T zbP [.agg [.int .i64 e,.int .i64 st,.int .i64 sl,.int .u64 c,v],.agg [.int .i64 e,.int .i64 st,.int .i64 sl,.int .u64 c,v']]) H fun r H'=>r = .bool true ∧ Grow H H':=by
 refine zgX ?_;unfold zey uL uFM uB uG uH uO;have s1:=Grow.new H ⟨zaq,[.int .i64 e,.int .i64 st,.int .i64 sl,.int .u64 c,v],none⟩;have g1:(H.new ⟨zaq,[.int .i64 e,.int .i64 st,.int .i64 sl,.int .u64 c,v],none⟩).get H.next = some ⟨zaq,[.int .i64 e,.int .i64 st,.int .i64 sl,.int .u64 c,v],none⟩:=zab _ _;have n1:(H.new ⟨zaq,[.int .i64 e,.int .i64 st,.int .i64 sl,.int .u64 c,v],none⟩).next = H.next + 1:=zaf _ _;refine zao (zaQ (by simp [V.okc,hv.okc]) ?_);rw [zaj];generalize hq:H.next = q at *;generalize H.new _ = H1 at *;have s2:=Grow.new H1 ⟨zaq,[.int .i64 e,.int .i64 st,.int .i64 sl,.int .u64 c,v'],none⟩;have g2:(H1.new ⟨zaq,[.int .i64 e,.int .i64 st,.int .i64 sl,.int .u64 c,v'],none⟩).get H1.next = some ⟨zaq,[.int .i64 e,.int .i64 st,.int .i64 sl,.int .u64 c,v'],none⟩:=zab _ _;refine zao (zaQ (by simp [V.okc,hv'.okc]) ?_);rw [zaj];have g12:=(s2.same q (by omega)).trans g1;rw [n1] at g2 ⊢;generalize H1.new _ = H2 at *;have t1:=@zbM _ _ _ _ (zka (hv.ext (s1.trans s2)));have t2:=@zbM _ _ _ _ (zka (hv'.ext (s1.trans s2)));simp (disch:=omega) only [↓RD,RZ,g12,g2,t1,t2,beq_self_eq_true];exact s1.trans s2
def gE:GR → Nat
 | .err _=>0
 | .got e _ _ _ _=>e
def gSt:GR → Nat
 | .err _=>0
 | .got _ st _ _ _=>st
def gSl:GR → Nat
 | .err _=>0
 | .got _ _ sl _ _=>sl
def gC:GR → Nat
 | .err _=>0
 | .got _ _ _ c _=>c
def gP:GR → List Nat
 | .err _=>[]
 | .got _ _ _ _ p=>p
def gEr:GR → Nat
 | .err e=>e
 | .got _ _ _ _ _=>0
theorem grv_as {H0 H:Heap} {r:V} {g:GR} (h:grv H0 H r g):∃ v,r = .tup [.agg [.int .i64 (gE g:Nat),.int .i64 (gSt g:Nat),.int .i64 (gSl g:Nat),.int .u64 (gC g:Nat),v],.int .i64 (gEr g:Nat)] ∧ By H0.next H v (gP g):=by
 cases g with
 | err e=>exact ⟨.nils,h,Lc.nil⟩
 | got e st sl c p=>exact h
theorem zo3 {e sl:Int} {cs:List (V × Ch)}:decide (0 ≤ atD e sl cs) = ((cs.map (·.2)).findIdx? (isC e sl)).isSome:=by
 rw [zjb];unfold atD;cases cs.findIdx? (isK e sl) with
 | none=>rfl
 | some i=>simp
theorem zoT (b:Bool):Ax.eqr .bool true (.bool b) (.bool b) = some (.bool false):=by cases b <;> rfl
end Go.Ax.SU
/- Lk27 -/
namespace Go.Ax.SU
open Go.Ax
theorem max0 (a:Int):Ax.minmax true (.int .i64 0) [.int .i64 a] = some (.int .i64 ((a.toNat:Nat):Int)):=by
 by_cases h:0 ≤ a
 ·have e:((a.toNat:Nat):Int) = a:=Int.toNat_of_nonneg h;rw [e];simp [Ax.minmax,Ax.min2];omega
 ·have e:a.toNat = 0:=Int.toNat_of_nonpos (by omega);rw [e];have h':¬ 0 < a:=by omega
  simp [Ax.minmax,Ax.min2,h,h']
theorem zpx {H:Heap} {c q n t id:Nat} {tv:V} {cs:List (List V × Tn)} (hsz:szs id = some (n,t)) (hc:∀ w ∈ cs,TnR w.1 w.2) (hv:∀ H,Lc 9 0 H tv (cs.map (·.1)).flatten cs.length) (hR:RcM H c ⟨id,[],[],[]⟩) (hD:DM q H q id []) (hcq:c + 4 ≤ q) :
  Ok (M.iter (zbv (sem T) tv (.int .i64 (id:Nat)) (.ptr (c + 3) 0) (.ptr q 0)) [.int .i64 0]) H fun r H'=>r = .ex 0 [] ∨ r = .ret [.bool true]:=by
 refine zaE (fun i L H'=>L = [.int .i64 (i:Nat)] ∧ ∃ R ds,RcM H' c R ∧ DM q H' q id ds ∧ Rel n t R (ds.map (·.2)) ∧ R.id = id) (min cs.length 30) ?_ ?_ ?_
 ·exact ⟨rfl,_,[],hR,hD,Rel.init n t id,rfl⟩
 ·rintro i _ H1 hi ⟨rfl,R,ds,hR1,hD1,hr1,hid1⟩;have hvl:=(hv H1).vlen;have hi1:i < cs.length:=by omega
  obtain ⟨p,hp,hl⟩:=tns_at (hv H1) hc hi1;obtain ⟨⟨bv,zv,ecs,hb⟩,b8,z8,zl,cr,byr,atr⟩:=hc _ (List.getElem_mem hi1);rw [ecs] at hl;generalize cs[i].2 = X at *;have d1:decide (((i:Nat):Int) < ((cs.length:Nat):Int)) = true:=decide_eq_true (by omega);have d2:decide (((i:Nat):Int) < 30) = true:=decide_eq_true (by omega);have d2':decide (i < 30) = true:=decide_eq_true (by omega);have d1':decide (i < cs.length) = true:=decide_eq_true (by omega);have wi:IntKind.i64.wrap (((i:Nat):Int) + 1) = ((i + 1:Nat):Int):=by rw [wrap_i64 (by omega) (by omega)]; omega
  unfold zbv uL uM uS uT uF uFM uE uB uI uIM uG uH uO uU uc ub uq ug;simp (disch:=omega) only [↓RD,RZ,hvl,d1,d1',d2,d2',hp];rw [zaK];refine okb_ldr hl ?_;refine zga rfl rfl fun b0 H2 eb g2 s2 n2=>?_;have hR2:=hR1.grow s2;have hD2:=hD1.grow s2;have htop:=hR1.top;have hq1:=hD1.low;have bl:=(hb H2).1.vlen;simp (disch:=omega) only [↓RD,RZ,g2,bl];by_cases h1:1000 < X.b.length
  ·have e1:decide ((1000:Int) < ((X.b.length:Nat):Int)) = true:=decide_eq_true (by omega);have e1':decide (1000 < X.b.length) = true:=decide_eq_true h1;simp (disch:=omega) only [↓RD,RZ,e1,e1'];exact .inr trivial
  have e1:decide ((1000:Int) < ((X.b.length:Nat):Int)) = false:=decide_eq_false (by omega);have e1':decide (1000 < X.b.length) = false:=decide_eq_false h1;simp (disch:=omega) only [↓RD,RZ,e1,e1',g2];by_cases o0:X.op = 0
  ·have e0:(X.op == 0) = true:=by rw [o0]; rfl
   simp (disch:=omega) only [↓RD,RZ,e0,g2];refine zag (zv6 hR2 X.e X.sl X.st (hb _).2 z8 (by omega)) ?_;rintro _ H3 ⟨rfl,hR3,a3⟩;have e3:H3.get b0 = H2.get b0:=a3.same b0 (by omega) (by simp; omega);have hD3:=hD2.atS a3 (fun i hi=>by simp at hi; omega);have n3:=a3.next;simp (disch:=omega) only [↓RD,RZ,e3];refine zag (Add_r_ok hD3 X.e X.sl X.st (hb _).2 z8 zl) ?_;rintro _ H5 ⟨rfl,a5,ds5,hD5,eds⟩;have hR5:=hR3.atS a5 (fun i hi=>by simp at hi; omega) (fun i hi=>by simp only [List.mem_singleton] at hi; subst hi; exact hD3.odd);obtain ⟨er,hr5,hid5⟩:=hr1.add X.e X.sl X.st X.base;rw [← eds] at hr5;rw [er];have g5:H5.get b0 = _:=((a5.same b0 (by omega) (by simp; omega)).trans e3).trans g2;have hid5':=hid5.trans hid1;generalize (addR R X.e X.sl X.st X.base).1 = R5 at *;simp (disch:=omega) only [↓RD,RZ,beq_self_eq_true,Bool.not_true,g5];have w3:=@zbM _ _ _ _ (zso hR5 X.e X.sl);have w4:=@zbM _ _ _ _ (zno hD5 X.e X.sl);have w5:=hr5.has X.e X.sl;rw [← zo3] at w5;rw [w5] at w3;have eb:=zoT (decide (0 ≤ atD X.e X.sl ds5));simp (disch:=omega) only [↓RD,RZ,w3,w4,eb];exact ⟨rfl,_,ds5,hR5,hD5,hr5,hid5'⟩
  have e0:(X.op == 0) = false:=by simpa using o0
  by_cases o1:X.op = 1
  ·have e1o:(X.op == 1) = true:=by rw [o1]; rfl
   simp (disch:=omega) only [↓RD,RZ,e0,e1o,g2];refine zag (Drop_ok hR2 hr1.rcn X.e) ?_;rintro _ H3 ⟨rfl,hR3,a3⟩;have e3:H3.get b0 = H2.get b0:=a3.same b0 (by omega) (by simp; omega);have hD3:=hD2.atS a3 (fun i hi=>by simp at hi; omega);have n3:=a3.next;have g3:=e3.trans g2;simp (disch:=omega) only [↓RD,RZ,g3];refine zag (zv2 hD3 X.e) ?_;rintro _ H5 ⟨rfl,a5,hD5⟩;have hR5:=hR3.atS a5 (fun i hi=>by simp at hi; omega) (fun i hi=>by simp only [List.mem_singleton] at hi; subst hi; exact hD3.odd);have hr5:=hr1.drop X.e;have eds:(ds.map (·.2)).filter (zgg X.e) = (ds.filter fun p=>zgg X.e p.2).map (·.2):=by rw [List.filter_map]; rfl
   rw [eds] at hr5;have g5:H5.get b0 = _:=(a5.same b0 (by omega) (by simp; omega)).trans g3;have hid5':(dropR R X.e).id = id:=hid1;generalize (ds.filter fun p=>zgg X.e p.2) = ds5 at *;generalize dropR R X.e = R5 at *;simp (disch:=omega) only [↓RD,RZ,g5];have w3:=@zbM _ _ _ _ (zso hR5 X.e X.sl);have w4:=@zbM _ _ _ _ (zno hD5 X.e X.sl);have w5:=hr5.has X.e X.sl;rw [← zo3] at w5;rw [w5] at w3;have eb:=zoT (decide (0 ≤ atD X.e X.sl ds5));simp (disch:=omega) only [↓RD,RZ,w3,w4,eb];exact ⟨rfl,_,ds5,hR5,hD5,hr5,hid5'⟩
  have e1o:(X.op == 1) = false:=by simpa using o1
  simp (disch:=omega) only [↓RD,RZ,e0,e1o,g2];rw [zdN];refine zas (Q:=fun r H'=>Grow H2 H' ∧ (r = .ex 1 [] ∨ ∃ xv B,r = .nrm [xv] ∧ By 0 H' xv B ∧ Ok8 B ∧ B.length ≤ 4000 ∧ ∀ j,xv.pid = some j → c + 4 ≤ j)) ?_ ?_
  ·by_cases o3:X.op = 3
   ·have e3o:(X.op == 3) = true:=by rw [o3]; rfl
    have hko:=@zbM _ _ _ _ (@zsn H2 X.e X.st X.sl);by_cases hy:zct X.e X.st X.sl
    ·have kv:kidv X.e X.st X.sl = .tup [.int .u64 (kidN X.e X.st X.sl:Nat),.int .i64 0]:=by unfold kidv; rw [if_pos hy]
     have kl:=zqT hy;rw [kv] at hko;simp (disch:=omega) only [↓RD,RZ,e3o,g2,hko,beq_self_eq_true,Bool.not_true];refine zag (znn (id:=(id:Nat)) (by omega) (by omega) (hb _).2 z8 (by omega)) ?_;rintro _ H4 ⟨s4,⟨h4 | h4,_⟩ | ⟨n',t',R',tv',sv',h4,h5,rfl,hk4,hlow⟩⟩
     ·omega
     ·rw [Int.toNat_natCast,hsz] at h4; cases h4
     rw [Int.toNat_natCast,hsz] at h5;injection h5 with h5
     injection h5 with e5 e6
     subst e5 e6;rw [Int.toNat_natCast] at hk4;generalize kidN X.e X.st X.sl = k at *;refine za0 rfl ?_;refine za0 rfl ?_;refine zga zgT (zgh _ _ _ _ _) fun b8' H5 eb8 gb8 s5 nb8=>?_;have l8:=ld261 R' tv' sv' k t;have n4:=s4.next;have g5:=((s4.trans s5).same b0 (by omega)).trans g2;simp (disch:=omega) only [↓RD,RZ,gb8,l8,g5];refine zag (zvX (K:=drv id k n t X.base) (hk4.grow s5) cr (Lc.nil:By 0 _ .nils []) Ok8.nil (hb _).1 b8 (by decide)) ?_;rintro _ H6 ⟨s6,h6⟩;rw [if_neg h1] at h6;obtain ⟨v,rfl,hv6⟩:=h6;have g6:=(s6.same b0 (by have:=s5.next; omega)).trans g5;have n5:=s5.next;have n6:=s6.next;have hgk:=hk4.good;have B8:=seal_8 (c:=X.c) (m:=[]) hgk.ws b8;have Bl:=zkc (k:=drv id k n t X.base) hgk.t X.c [] X.b;have hh1:=zqX (drv id k n t X.base).kid X.c;have hh2:=zoO (drv id k n t X.base).kid X.c;have ht:=hgk.t;have Bl0:0 < (zed (drv id k n t X.base) X.c [] X.b).length:=by omega
     have Bl1:(zed (drv id k n t X.base) X.c [] X.b).length ≤ 4000:=by omega
     clear hh1 hh2 Bl;generalize zed (drv id k n t X.base) X.c [] X.b = B at *;obtain ⟨w0,cap,o,ew,gw,hwi,hwi2,hcap⟩:=Ab.blk hv6 Bl0;subst ew;have vlw:Ax.vlen (.sl w0 0 B.length cap) = some (.int .i64 (B.length:Nat)):=rfl;have mx:=max0 X.at';obtain ⟨z,hz⟩:∃ z,X.at'.toNat % B.length = z:=⟨_,rfl⟩;have hzl:z < B.length:=by rw [← hz]; exact Nat.mod_lt _ Bl0
     have ez:((X.at'.toNat:Nat):Int) % ((B.length:Nat):Int) = ((z:Nat):Int):=by rw [← hz]; rfl
     generalize X.at'.toNat = at0 at *;obtain ⟨P,hP⟩:∃ P,B.length - 1 - z = P:=⟨_,rfl⟩;have hPl:P < B.length:=by omega
     have wa:IntKind.i64.wrap (((B.length:Nat):Int) - 1) = ((B.length - 1:Nat):Int):=by rw [wrap_i64 (by omega) (by omega)]; omega
     have wb:IntKind.i64.wrap (((B.length - 1:Nat):Int) - ((z:Nat):Int)) = ((P:Nat):Int):=by rw [wrap_i64 (by omega) (by omega)]; omega
     have bz:=bg (l:=B) (i:=P) hPl;have xz:=zfA (B8.getD P) byr;replace xz:Ax.bin .xor (by8 (B.getD P 0)) (.int .u8 (X.by':Nat)) = _:=xz;have mz:=zkr (l:=B) (i:=P) (y:=B.getD P 0 ^^^ X.by') hPl;have mlen:(B.map by8).length = B.length:=List.length_map ..;simp (disch:=omega) only [↓RD,RZ,vlw,mx,ez,wa,wb,g6,gw,bz,xz,mz,mlen,zcZ,zaP];have g8:(H6.set w0 (some ⟨zad,(B.set P (B.getD P 0 ^^^ X.by')).map by8,o⟩)).get w0 = _:=zal _ _ _;have C8:Ok8 (B.set P (B.getD P 0 ^^^ X.by')):=fun y hy=>by
      rcases List.mem_or_eq_of_mem_set hy with hy | rfl
      ·exact B8 y hy
      ·exact za6 (B8.getD P) byr
     have hcv:=by_sl (lo:=0) (n:=B.length) (l:=B.set P (B.getD P 0 ^^^ X.by')) g8 (List.length_set ..) (Nat.zero_le _) (by rw [zan]; omega) hcap;exact ⟨by omega,(s4.trans (s5.trans s6)).set (by omega) _,.inr ⟨_,_,rfl,hcv,C8,by rw [List.length_set]; exact Bl1,fun j hj=>by
      simp only [V.pid,Option.some.injEq] at hj;omega⟩⟩
    ·have kv:kidv X.e X.st X.sl = .tup [.int .u64 0,.int .i64 1]:=by unfold kidv; rw [if_neg hy]
     rw [kv] at hko;simp (disch:=omega) only [↓RD,RZ,e3o,g2,hko];exact ⟨Grow.refl _,.inl trivial⟩
   ·have e3o:(X.op == 3) = false:=by simpa using o3
    simp (disch:=omega) only [↓RD,RZ,e3o];exact ⟨Grow.refl _,.inr ⟨bv,X.b,rfl,(hb _).1,b8,by omega,fun j hj=>absurd hj (By.free (fun H=>(hb H).1) j)⟩⟩
  ·rintro r3 H3 ⟨s3,rfl | ⟨xv,B,rfl,hx,B8,Bl,hxp⟩⟩
   ·simp (disch:=omega) only [↓RD,RZ];exact ⟨rfl,R,ds,hR2.grow s3,hD2.grow s3,hr1,hid1⟩
   ·have hR3:=hR2.grow s3;have hD3:=hD2.grow s3;have g3:=(s3.same b0 (by omega)).trans g2;have n3:=s3.next;simp (disch:=omega) only [↓RD,RZ];refine zag (zo5 hR3 (by rw [hid1]; exact hsz) (Lc.nil:By 0 _ .nils []) Ok8.nil hx B8 (by decide) (by omega) (fun j hj=>by cases hj) (fun j hj=>.inr (hxp j hj))) ?_;rintro _ H4 ⟨hg4,hR4,a4⟩;have hD4:=hD3.atS a4 (fun j hj=>by simp at hj; omega);have hx4:=Lc.atS hx a4 fun j hj h=>by have:=hxp j hj; simp at h; omega
    have g4:H4.get b0 = _:=(a4.same b0 (by omega) (by simp; omega)).trans g3;obtain ⟨v4,rfl,hv4⟩:=grv_as hg4;have n4:=a4.next;refine za0 rfl ?_;refine za0 rfl ?_;refine zga rfl rfl fun b5 H5 eb5 gb5 s5 nb5=>?_;refine zag (OpenD_ok (hD4.grow s5) hsz (Lc.nil:By 0 _ .nils []) Ok8.nil (hx4.ext s5) B8 (by decide) (by omega)) ?_;rintro _ H6 ⟨hg6,a6,ds5,hD6,eds⟩;obtain ⟨v6,rfl,hv6⟩:=grv_as hg6;have n5:=s5.next;have n6:=a6.next;have hR6:=(hR4.grow s5).atS a6 (fun j hj=>by simp at hj; omega) (fun j hj=>by simp only [List.mem_singleton] at hj; subst hj; exact (hD4.grow s5).odd);obtain ⟨er,hr5,hid5⟩:=hr1.open [] B;rw [hid1] at er hr5;rw [← eds] at hr5;have hid5':=hid5.trans hid1;rw [er] at gb5 hv4 ⊢;generalize (zkf id n t (ds.map (·.2)) [] B).2 = G at *;generalize (zfC R n t [] B).1 = R5 at *;refine za0 rfl ?_;refine za0 rfl ?_;refine zga rfl rfl fun b7 H7 eb7 gb7 s7 nb7=>?_;have gb57:=(s7.same b5 (by omega)).trans ((a6.same b5 (by omega) (by simp; omega)).trans gb5);have hv47:=(Lc.atS (hv4.ext s5) a6 fun j hj h=>by have:=(hv4.own j hj).1; simp at h; omega).ext s7;have sg:=ztq (e:=(gE G:Nat)) (st:=(gSt G:Nat)) (sl:=(gSl G:Nat)) (c:=(gC G:Nat)) hv47 (hv6.ext s7);have g7:=(s7.same b0 (by omega)).trans ((a6.same b0 (by omega) (by simp; omega)).trans ((s5.same b0 (by omega)).trans g4));simp (disch:=first | omega | (simp only [RY] <;> omega) | decide) only [↓RD,RZ,Nat.reduceAdd,beq_self_eq_true,Bool.not_true,gb57,gb7];refine zag sg ?_;rintro _ H8 ⟨rfl,s8⟩;have hR5:=(hR6.grow s7).grow s8;have hD5:=(hD6.grow s7).grow s8;have g8:=(s8.same b0 (by have:=s7.next; omega)).trans g7;simp (disch:=omega) only [↓RD,RZ,g8];have w3:=@zbM _ _ _ _ (zso hR5 X.e X.sl);have w4:=@zbM _ _ _ _ (zno hD5 X.e X.sl);have w5:=hr5.has X.e X.sl;rw [← zo3] at w5;rw [w5] at w3;have eb:=zoT (decide (0 ≤ atD X.e X.sl ds5));simp (disch:=omega) only [↓RD,RZ,w3,w4,eb];exact ⟨rfl,_,ds5,hR5,hD5,hr5,hid5'⟩
 ·rintro _ H1 ⟨rfl,R,ds,hR1,hD1,hr1,hid1⟩;have hvl:=(hv H1).vlen;unfold zbv uL uM uS uT uF uFM uE uB uI uIM uG uH uO uU uc ub uq ug;by_cases h1:cs.length ≤ 30
  ·have d1:decide (((min cs.length 30:Nat):Int) < ((cs.length:Nat):Int)) = false:=decide_eq_false (by omega);have d1':decide (min cs.length 30 < cs.length) = false:=decide_eq_false (by omega);simp (disch:=omega) only [↓RD,RZ,hvl,d1,d1'];exact .inl trivial
  ·have d1:decide (((min cs.length 30:Nat):Int) < ((cs.length:Nat):Int)) = true:=decide_eq_true (by omega);have d1':decide (min cs.length 30 < cs.length) = true:=decide_eq_true (by omega);have d2:decide (((min cs.length 30:Nat):Int) < 30) = false:=decide_eq_false (by omega);have d2':decide (min cs.length 30 < 30) = false:=decide_eq_false (by omega);simp (disch:=omega) only [↓RD,RZ,hvl,d1,d1',d2,d2'];exact .inl trivial
end Go.Ax.SU
/- Lk15 -/
namespace Go.Ax.SU
open Go.Ax
end Go.Ax.SU
namespace Go.Ax
open SU
end Go.Ax
/- Lk28 -/
namespace Go.Ax.SU
open Go.Ax
theorem zsJ {H:Heap} {id:Int} {tv:V} {cs:List (List V × Tn)} (hid:-9223372036854775808 ≤ id) (hc:∀ w ∈ cs,TnR w.1 w.2) (hv:∀ H,Lc 9 0 H tv (cs.map (·.1)).flatten cs.length) :
  Ok (sem T zbF [.int .i64 id,tv]) H fun r H'=>r = .bool true:=by
 refine zge ?_;unfold zd9 uL uE uB uG uH uO uc;have hsr:=fun H=>@zbM _ _ _ _ (@zqn H id hid);refine zag (zjD id hid) ?_;rintro _ H1 ⟨s1,⟨hz,rfl⟩ | ⟨n,t,c,h0,hsz,rfl,hR,hc0⟩⟩
 ·rw [zok hz] at hsr;simp (maxSteps:=1000000) (disch:=first | omega | (simp only [RY] <;> omega) | decide) only [↓RD,RZ,eq_self,Int.reduceToNat,Int.reduceAdd,Int.reduceSub,Int.reduceMul,Nat.reduceAdd,Nat.reduceSub,Nat.reduceMul,Nat.reduceDiv,Nat.reduceMod,Nat.reduceBEq,Nat.reduceLeDiff,hsr];refine zag zn9 ?_;rintro _ H2 ⟨rfl,s2⟩;have e1:Ax.eqr .ptr true .nilp .nilp = some (.bool false):=rfl;have e2:Ax.eqr .bool true (.bool false) (.bool false) = some (.bool false):=rfl;simp (maxSteps:=1000000) (disch:=first | omega | (simp only [RY] <;> omega) | decide) only [↓RD,RZ,eq_self,Int.reduceToNat,Int.reduceAdd,Int.reduceSub,Int.reduceMul,Nat.reduceAdd,Nat.reduceSub,Nat.reduceMul,Nat.reduceDiv,Nat.reduceMod,Nat.reduceBEq,Nat.reduceLeDiff,e1,e2]
 ·rw [zlU h0 hsz] at hsr;have e1:Ax.eqr .ptr true (.ptr (c + 3) 0) .nilp = some (.bool true):=rfl;have e2:Ax.eqr .bool true (.bool true) (.bool true) = some (.bool false):=rfl;simp (maxSteps:=1000000) (disch:=first | omega | (simp only [RY] <;> omega) | decide) only [↓RD,RZ,eq_self,Int.reduceToNat,Int.reduceAdd,Int.reduceSub,Int.reduceMul,Nat.reduceAdd,Nat.reduceSub,Nat.reduceMul,Nat.reduceDiv,Nat.reduceMod,Nat.reduceBEq,Nat.reduceLeDiff,hsr];refine zag zn9 ?_;rintro _ H2 ⟨rfl,s2⟩;obtain ⟨i,rfl⟩:∃ i:Nat,id = (i:Nat):=⟨id.toNat,by omega⟩;rw [Int.toNat_natCast] at hsz hR;have hR2:=hR.grow s2;simp (maxSteps:=1000000) (disch:=first | omega | (simp only [RY] <;> omega) | decide) only [↓RD,RZ,eq_self,Int.reduceToNat,Int.reduceAdd,Int.reduceSub,Int.reduceMul,Nat.reduceAdd,Nat.reduceSub,Nat.reduceMul,Nat.reduceDiv,Nat.reduceMod,Nat.reduceBEq,Nat.reduceLeDiff,e1,e2];have s3:=Grow.new H2 ⟨tyRR,[.int .i64 (i:Nat),.nils],none⟩;have g3:(H2.new ⟨tyRR,[.int .i64 (i:Nat),.nils],none⟩).get H2.next = some ⟨tyRR,[.int .i64 (i:Nat),.nils],none⟩:=zab _ _;have n3:(H2.new ⟨tyRR,[.int .i64 (i:Nat),.nils],none⟩).next = H2.next + 1:=zaf _ _;have hD:DM H2.next (H2.new ⟨tyRR,[.int .i64 (i:Nat),.nils],none⟩) H2.next i []:=⟨by omega,Nat.le_refl _,by decide,⟨.nils,g3,App.nil,(by simp [V.pid]),(by simp)⟩,(by simp)⟩;refine zas (zpx hsz hc hv (hR2.grow s3) hD hR2.top) ?_;rintro _ H4 (rfl | rfl)
  ·simp (maxSteps:=1000000) (disch:=first | omega | (simp only [RY] <;> omega) | decide) only [↓RD,RZ,eq_self,Int.reduceToNat,Int.reduceAdd,Int.reduceSub,Int.reduceMul,Nat.reduceAdd,Nat.reduceSub,Nat.reduceMul,Nat.reduceDiv,Nat.reduceMod,Nat.reduceBEq,Nat.reduceLeDiff]
  ·simp (maxSteps:=1000000) (disch:=first | omega | (simp only [RY] <;> omega) | decide) only [↓RD,RZ,eq_self,Int.reduceToNat,Int.reduceAdd,Int.reduceSub,Int.reduceMul,Nat.reduceAdd,Nat.reduceSub,Nat.reduceMul,Nat.reduceDiv,Nat.reduceMod,Nat.reduceBEq,Nat.reduceLeDiff]
end Go.Ax.SU
namespace Go.Ax
open SU
theorem law_lockOpens (us:List V) (h:zvU [.int .i64,.sl (.st [.int .i64,.int .i64,.int .i64,.int .i64,.int .u64,.int .i64,.int .u8,.sl (.int .u8),.sl (.int .u8)])] us) (hb:V.blks us ≤ 1048576):∃ H',sem T zbF us H0 = some (.bool true,H'):=by
 obtain ⟨a1,a2,rfl⟩:∃ a1 a2,us = [a1,a2]:=by
  rcases us with _ | ⟨a1,_ | ⟨a2,_ | ⟨a3,us⟩⟩⟩
  ·cases h
  ·cases h.2
  ·exact ⟨a1,a2,rfl⟩
  ·cases h.2.2
 obtain ⟨id,hi,hi1,hi2⟩:=znR h.1;simp only [V.blks] at hb;obtain ⟨v,cs,e3,hcs,hv⟩:=sh_tns h.2.1 (by simp only [V.blks]; omega);cases hi; cases e3;obtain ⟨r,H',h1,rfl⟩:=zsJ (H:=H0) hi1 hcs hv;exact ⟨H',h1⟩
end Go.Ax
