/-
  Texts of mine, put together by program (wip/slim.py), for law_worldKnown: part 9.
-/
import Derived.Test.YtjabaappgopdmaaGreatZw8
import Derived.Test.YtjabaappgopdmaaGreatProg
import Derived.Tactics
import Derived.Tactics2
import Derived.LoopTactic
import Derived.RegionTactic
import Derived.RegionCalls
import Derived.ChangeAlike
import Derived.Maps.OwnSet
noncomputable section
set_option linter.unusedVariables false
set_option linter.unusedSimpArgs false
set_option linter.defProp false
set_option maxRecDepth 100000
/- Drop1 -/
namespace Go.Ax
open Go.Proofs
def zjv{fn:Func}{t u v x:Tmp} (h:fn.results = #[.tmp t,.tmp u,.tmp v,.tmp x]) (tmps:Array Value) (P:Program) (w:World) :
  (Go.results fn tmps).run P w = .ok (.tuple #[tmps.getD t Go.undef,tmps.getD u Go.undef,tmps.getD v Go.undef,tmps.getD x Go.undef]) w:=by
 simp[Go.results,h]
def ziH{w w':World}{a:Addr} (h:w'.heap[a.block]?=w.heap[a.block]?):w'.cell? a=w.cell? a:=by simp[World.cell?,h]
set_option maxRecDepth 100000 in
set_option maxHeartbeats 1600000 in
def zrg(k:Int)(w:World):Calls Tryz.prog 64 #[.int .u64 k] w λe w'=>∃a b c,e = .returned (.tuple #[.int .i64 (zlJ k),a,b,c])/\w'=w:=by
 go_enter Tryz.func64,Tryz.ntmps64
 go_wp2
 ·rename_i h;refine bodyPost_ret (zjv rfl _ _ _) rfl ?_;rw[zlJ,if_pos h];exact⟨_,_,_,rfl,rfl⟩
 ·rename_i h;refine bodyPost_ret (zjv rfl _ _ _) rfl ?_;rw[zlJ,if_neg (by omega),Go.IntWalk.i64_left];exact⟨_,_,_,rfl,rfl⟩
set_option maxRecDepth 100000 in
set_option maxHeartbeats 3200000 in
theorem d_drop(rb ro:Nat)(n:Int)(w:World)(R:Nat->World->Prop)(h0:R 0 w)
  (hR:∀i w,i<3->R i w->∃bm es clock,w.cell? ⟨rb,ro+(i+1),none⟩=some (.map (some bm))/\w.heap[bm]?=some (.map es clock)/\Goes (i==0) es.toList clock/\rb≠bm /\
   ∀r seen c0 w',Drp w bm r clock (es.toList.filter λe=>zaI (i==0) n e.key) seen c0 w'->R (i+1) w') :
  Calls Tryz.prog 186 #[.pointer (some ⟨rb,ro,none⟩),.int .i64 n] w λe w'=>e = .returned (.tuple #[])/\R 3 w':=by
 have hp:=zrg;obtain⟨bm0,es0,ck0,c0,hb0,g0,hne0,k0⟩:=hR 0 w (by decide) h0;have hrg0:=run_range_map (P:=Tryz.prog) w 314 _ _ bm0 es0 ck0 Tryz.underlying314 hb0
 go_enter Tryz.func186,Tryz.ntmps186
 go_wp2
 go_loopw [4] (λ_ wr=>∃seen c1,Drp w bm0 w.heap.size ck0 (es0.toList.filter (stay (λe=>zaI true n e.key) seen)) seen c1 wr) (λ_ wr=>wr.rangeLeft bm0 w.heap.size)
 case atStart=>exact⟨_,_,Drp.start hb0⟩
 case round=>
  obtain⟨seen,sc,d⟩:=hrel;have hlt:rb<w.heap.size:=(zlV c0).1
  go_wp2_with (first|(at_next;refine zdP rfl _ rfl rfl d g0.born g0.nodup ?_ ?_)|go_in)
  ·intro hall;have R1:=k0 _ _ _ wr (by rw[<-znt hall.all];exact d);clear d hall hlt
   rename World=>w1
   obtain⟨bm1,es1,ck1,c1,hb1,g1,hne1,k1⟩:=hR 1 w1 (by decide) R1;have hrg1:=run_range_map (P:=Tryz.prog) w1 315 _ _ bm1 es1 ck1 Tryz.underlying315 hb1
   go_wp2
   go_loopw [5] (λ_ wr=>∃seen c1,Drp w1 bm1 w1.heap.size ck1 (es1.toList.filter (stay (λe=>zaI false n e.key) seen)) seen c1 wr) (λ_ wr=>wr.rangeLeft bm1 w1.heap.size)
   case atStart=>exact⟨_,_,Drp.start hb1⟩
   case round=>
    obtain⟨seen,sc,d⟩:=hrel;have hlt:rb<w1.heap.size:=(zlV c1).1
    go_wp2_with (first|(at_next;refine zdP rfl _ rfl rfl d g1.born g1.nodup ?_ ?_)|go_in)
    ·intro hall;have R2:=k1 _ _ _ wr (by rw[<-znt hall.all];exact d);clear d hall hlt
     rename World=>w2
     obtain⟨bm2,es2,ck2,c2,hb2,g2,hne2,k2⟩:=hR 2 w2 (by decide) R2;have hrg2:=run_range_map (P:=Tryz.prog) w2 316 _ _ bm2 es2 ck2 Tryz.underlying316 hb2
     go_wp2
     go_loopw [10] (λ_ wr=>∃seen c1,Drp w2 bm2 w2.heap.size ck2 (es2.toList.filter (stay (λe=>zaI false n e.key) seen)) seen c1 wr) (λ_ wr=>wr.rangeLeft bm2 w2.heap.size)
     case atStart=>exact⟨_,_,Drp.start hb2⟩
     case round=>
      obtain⟨seen,sc,d⟩:=hrel;have hlt:rb<w2.heap.size:=(zlV c2).1
      go_wp2_with (first|(at_next;refine zdP rfl _ rfl rfl d g2.born g2.nodup ?_ ?_)|go_in)
      ·intro hall;have R3:=k2 _ _ _ wr (by rw[<-znt hall.all];exact d);clear d hall hlt
       go_wp2
       go_end0
       exact⟨rfl,R3⟩
      ·rintro⟨K,X,b⟩ w1' he d1 hen;obtain⟨ka,rfl⟩:∃k,K = .int .u64 k:=g2.keyK rfl _ he.mem;have cr:w1'.cell? ⟨rb,ro+3,none⟩=some (.map (some bm2)):=(ziH (d1.old rb hlt hne2)).trans c2;have hmem:(⟨.int .u64 ka,X,b⟩:MapEntry)∈es2.toList.filter (stay (λe=>zaI false n e.key) seen):=ybn.2 ⟨he.mem,by simp only[stay,he.new,ya9,ycT]⟩;obtain⟨wd,hd0,hd1,hd2,hd3,d2⟩:=d1.strikes (P:=Tryz.prog) (ty:=0) Tryz.underlying316 (mk:=.int) (by kernel_rfl) (g2.alone _ he.mem) (g2.apart.filter _) (λx hx=>g2.uniq he.mem x (ybn.1 hx).1) hmem;clear hmem
       go_wp2_with (first|(go_at_call 64;refine(zrg ka _).mono ?_;rintro e w'' ⟨pa,pb,pc,rfl,rfl⟩)|go_in)
       ·rename_i hlt';have hk:zaI false n (.int .u64 ka)=false:=by simp[zaI,hlt']
        rw[zg1 (keep:=λe=>zaI false n e.key) (e:=⟨.int .u64 ka,X,b⟩) (g2.uniq he.mem) hk]at d2;have d3:∀w',(w'=wd\/w'=wd.drew\/w'=wd.drew.drew)->Drp w2 bm2 w2.heap.size ck2 (es2.toList.filter (stay (λe=>zaI false n e.key) (seen.push b))) (seen.push b) ck2 w':=by
         rintro _ (rfl|rfl|rfl)
         ·exact d2
         ·exact d2.drew
         ·exact d2.drew.drew
        refine⟨⟨_,_,d3 _ (by simp)⟩,?_⟩;rw[(d3 _ (by simp)).left,d.left];exact zeN he.mem he.new
       ·rename_i hlt';have hk:zaI false n (.int .u64 ka)=true:=by simp[zaI];omega
        rw[zkE (keep:=λe=>zaI false n e.key) (e:=⟨.int .u64 ka,X,b⟩) (g2.uniq he.mem) hk]at d1;refine⟨⟨_,_,d1⟩,?_⟩;rw[(d1).left,d.left];exact zeN he.mem he.new
    ·rintro⟨K,X,b⟩ w1' he d1 hen;obtain⟨ka,rfl⟩:∃k,K = .int .u64 k:=g1.keyK rfl _ he.mem;have cr:w1'.cell? ⟨rb,ro+2,none⟩=some (.map (some bm1)):=(ziH (d1.old rb hlt hne1)).trans c1;have hmem:(⟨.int .u64 ka,X,b⟩:MapEntry)∈es1.toList.filter (stay (λe=>zaI false n e.key) seen):=ybn.2 ⟨he.mem,by simp only[stay,he.new,ya9,ycT]⟩;obtain⟨wd,hd0,hd1,hd2,hd3,d2⟩:=d1.strikes (P:=Tryz.prog) (ty:=0) Tryz.underlying315 (mk:=.int) (by kernel_rfl) (g1.alone _ he.mem) (g1.apart.filter _) (λx hx=>g1.uniq he.mem x (ybn.1 hx).1) hmem;clear hmem
     go_wp2_with (first|(go_at_call 64;refine(zrg ka _).mono ?_;rintro e w'' ⟨pa,pb,pc,rfl,rfl⟩)|go_in)
     ·rename_i hlt';have hk:zaI false n (.int .u64 ka)=false:=by simp[zaI,hlt']
      rw[zg1 (keep:=λe=>zaI false n e.key) (e:=⟨.int .u64 ka,X,b⟩) (g1.uniq he.mem) hk]at d2;have d3:∀w',(w'=wd\/w'=wd.drew\/w'=wd.drew.drew)->Drp w1 bm1 w1.heap.size ck1 (es1.toList.filter (stay (λe=>zaI false n e.key) (seen.push b))) (seen.push b) ck1 w':=by
       rintro _ (rfl|rfl|rfl)
       ·exact d2
       ·exact d2.drew
       ·exact d2.drew.drew
      refine⟨⟨_,_,d3 _ (by simp)⟩,?_⟩;rw[(d3 _ (by simp)).left,d.left];exact zeN he.mem he.new
     ·rename_i hlt';have hk:zaI false n (.int .u64 ka)=true:=by simp[zaI];omega
      rw[zkE (keep:=λe=>zaI false n e.key) (e:=⟨.int .u64 ka,X,b⟩) (g1.uniq he.mem) hk]at d1;refine⟨⟨_,_,d1⟩,?_⟩;rw[(d1).left,d.left];exact zeN he.mem he.new
  ·rintro⟨K,X,b⟩ w1' he d1 hen;obtain⟨ka,kb,rfl⟩:∃a b,K = .agg #[.int .i64 a,.int .i64 b]:=g0.keyP rfl _ he.mem;have cr:w1'.cell? ⟨rb,ro+1,none⟩=some (.map (some bm0)):=(ziH (d1.old rb hlt hne0)).trans c0;have cr2:(w1'.alloc (.cells #[.int .i64 ka,.int .i64 kb] 320)).cell? ⟨rb,ro+1,none⟩=some (.map (some bm0)):=(ziH ((d1.alloc _).old rb hlt hne0)).trans c0;have hmem:(⟨.agg #[.int .i64 ka,.int .i64 kb],X,b⟩:MapEntry)∈es0.toList.filter (stay (λe=>zaI true n e.key) seen):=ybn.2 ⟨he.mem,by simp only[stay,he.new,ya9,ycT]⟩;obtain⟨wd,hd0,hd1,hd2,hd3,d2⟩:=(d1.alloc (.cells #[.int .i64 ka,.int .i64 kb] 320)).strikes (P:=Tryz.prog) (ty:=0) Tryz.underlying314 (mk:=.st [.int,.int]) (by kernel_rfl) (g0.alone _ he.mem) (g0.apart.filter _) (λx hx=>g0.uniq he.mem x (ybn.1 hx).1) hmem;clear hmem
   go_wp2
   ·rename_i hlt'
    go_region
    go_wp2
    have hk:zaI true n (.agg #[.int .i64 ka,.int .i64 kb])=false:=by simp[zaI,hlt']
    rw[zg1 (keep:=λe=>zaI true n e.key) (e:=⟨.agg #[.int .i64 ka,.int .i64 kb],X,b⟩) (g0.uniq he.mem) hk]at d2;have d3:∀w',(w'=wd\/w'=wd.drew\/w'=wd.drew.drew)->Drp w bm0 w.heap.size ck0 (es0.toList.filter (stay (λe=>zaI true n e.key) (seen.push b))) (seen.push b) ck0 w':=by
     rintro _ (rfl|rfl|rfl)
     ·exact d2
     ·exact d2.drew
     ·exact d2.drew.drew
    refine⟨⟨_,_,d3 _ (by simp)⟩,?_⟩;rw[(d3 _ (by simp)).left,d.left];exact zeN he.mem he.new
   ·rename_i hlt';have hk:zaI true n (.agg #[.int .i64 ka,.int .i64 kb])=true:=by simp[zaI];omega
    rw[zkE (keep:=λe=>zaI true n e.key) (e:=⟨.agg #[.int .i64 ka,.int .i64 kb],X,b⟩) (g0.uniq he.mem) hk]at d1;refine⟨⟨_,_,(d1.alloc (.cells #[.int .i64 ka,.int .i64 kb] 320))⟩,?_⟩;rw[((d1.alloc (.cells #[.int .i64 ka,.int .i64 kb] 320))).left,d.left];exact zeN he.mem he.new
end Go.Ax
