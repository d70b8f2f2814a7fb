/-
  Texts of mine, put together by program (wip/slim.py), for law_deskFull: part 10.
-/
import Derived.Test.YthghlbdejdideaaGreatZf9
noncomputable section
set_option linter.unusedVariables false
set_option linter.unusedSimpArgs false
set_option linter.defProp false
set_option maxRecDepth 100000
/- CiS6 -/
namespace Go.Ax.Cc
open Go.Proofs
def zrJ (G:Sem') (t0:V):M Res :=
 (M.lift (Ax.bin .and t0 (V.int .u8 8))).bind fun t4 =>
 (M.lift (Ax.bin .eql t4 (V.int .u8 0))).bind fun t5 =>
 M.ite t5
 (M.pure (.ret [(V.int .i64 0)]))
 ((M.lift (Ax.bin .and t0 (V.int .u8 7))).bind fun t7 =>
 (M.lift (Ax.cint .i64 t7)).bind fun t8 =>
 (M.lift (Ax.bin .add t8 (V.int .i64 1))).bind fun t9 =>
 M.pure (.ret [t9]))
def zlh:Fn':=(T zeb).getD noF
theorem zw3:T zeb = some zlh:=by kernel_rfl
theorem zxF (G:Sem') (t0:V):execK G zlh.rv zlh.body [] [] (params 0 [t0]) = zrJ G t0:=by kernel_rfl
def zmS (G:Sem'):List V → M V
 | [t0]=>fin (zrJ G t0)
 | _=>M.fail
theorem zyO {g:Sem'} (hg:Sims g (sem T)) (args:List V):Sim (zmS g args) (sem T zeb args):=by
 unfold zmS;split
 ·exact zaf zw3 (Nat.le_of_ble_eq_true (by kernel_rfl)) hg (zxF g _)
 ·exact zaa
def zs6 (G:Sem') (t15 t14 t4 t5:V) (L:List V):M Res :=
 (M.lift (Ax.bin .lss (L.getD 1 .undef) t15)).bind fun t17 =>
 M.ite t17
 (M.blk 1 (
 (M.lift (Ax.iaddr none 1 t14 (L.getD 1 .undef))).bind fun t18 =>
 (mload none t18).bind fun t19 =>
 (M.lift (Ax.bin .shl (L.getD 0 .undef) (V.int .u64 8))).bind fun t21 =>
 (M.lift (Ax.cint .u64 t19)).bind fun t23 =>
 (M.lift (Ax.bin .or t21 t23)).bind fun t24 =>
 M.pure (.nrm [t24])) fun L0 =>
 (M.lift (Ax.bin .add (L.getD 1 .undef) (V.int .i64 1))).bind fun t25 =>
 M.pure (.nrm [(L0.getD 0 .undef),t25]))
 (M.pure (.ex 0 [(L.getD 0 .undef)]))
def zom (G:Sem') (t0 t1:V):M Res :=
 (M.lift (Ax.bin .and t0 (V.int .u8 8))).bind fun t10 =>
 (M.lift (Ax.bin .eql t10 (V.int .u8 0))).bind fun t11 =>
 M.ite t11
 ((M.lift (Ax.cint .u64 t0)).bind fun t13 =>
 M.pure (.ret [t13,(V.bool true)]))
 ((M.lift (vlen t1)).bind fun t15 =>
 M.blk 0 (
 M.iter (zs6 G t15 t1 (V.int .u64 0) (V.bool false)) [(V.int .u64 0),(V.int .i64 0)]) fun L1 =>
 (M.lift (Ax.iaddr none 1 t1 (V.int .i64 0))).bind fun t28 =>
 (mload none t28).bind fun t29 =>
 (M.lift (Ax.bin .neq t29 (V.int .u8 0))).bind fun t30 =>
 (guarded [(0,t30)] (some (0,true)) (M.pure (L1.getD 0 .undef))).bind fun t32 =>
 (guarded [(0,t30)] (some (0,true)) (M.lift (Ax.bin .geq t32 (V.int .u64 8)))).bind fun t33 =>
 (M.lift (Ax.pick t30 t33 (V.bool false))).bind fun t34 =>
 M.pure (.ret [(L1.getD 0 .undef),t34]))
def zi7:Fn':=(T zde).getD noF
theorem zuf:T zde = some zi7:=by kernel_rfl
theorem zuU (G:Sem') (t0 t1:V):execK G zi7.rv zi7.body [] [] (params 0 [t0,t1]) = zom G t0 t1:=by kernel_rfl
def zkr (G:Sem'):List V → M V
 | [t0,t1]=>fin (zom G t0 t1)
 | _=>M.fail
theorem zvu {g:Sem'} (hg:Sims g (sem T)) (args:List V):Sim (zkr g args) (sem T zde args):=by
 unfold zkr;split
 ·exact zaf zuf (Nat.le_of_ble_eq_true (by kernel_rfl)) hg (zuU g _ _)
 ·exact zaa
def zDf (G:Sem') (t0 t1:V):M Res :=
 (mbox zbC t0).bind fun t2 =>
 (mbox zeX t1).bind fun t3 =>
 (M.lift (Ax.faddr 7 t2)).bind fun t5 =>
 (mload none t5).bind fun t6 =>
 (M.pure (.fn zih [t3])).bind fun t7 =>
 (G zaJ [t6,t7]).bind fun t8 =>
 M.pure (.ret [t8])
def zvV:Fn':=(T zj7).getD noF
theorem zE2:T zj7 = some zvV:=by kernel_rfl
theorem zF7 (G:Sem') (t0 t1:V):execK G zvV.rv zvV.body [] [] (params 0 [t0,t1]) = zDf G t0 t1:=by kernel_rfl
def zzI (G:Sem'):List V → M V
 | [t0,t1]=>fin (zDf G t0 t1)
 | _=>M.fail
theorem s_rtp_at {g:Sem'} (hg:Sims g (sem T)) (args:List V):Sim (zzI g args) (sem T zj7 args):=by
 unfold zzI;split
 ·exact zaf zE2 (Nat.le_of_ble_eq_true (by kernel_rfl)) hg (zF7 g _ _)
 ·exact zaa
def zwm (G:Sem') (t0:V):M Res :=
 (mappend zaj 1 1 V.nils t0).bind fun t4 =>
 (M.lift (Ax.build [V.nils,(V.int .i64 0)] [(0,1,t4)])).bind fun t5 =>
 (mbox zwT t5).bind fun t6 =>
 M.pure (.ret [t6])
def zoa:Fn':=(T zhb).getD noF
theorem zAe:T zhb = some zoa:=by kernel_rfl
theorem zBx (G:Sem') (t0:V):execK G zoa.rv zoa.body [] [] (params 0 [t0]) = zwm G t0:=by kernel_rfl
def zqR (G:Sem'):List V → M V
 | [t0]=>fin (zwm G t0)
 | _=>M.fail
theorem zCl {g:Sem'} (hg:Sims g (sem T)) (args:List V):Sim (zqR g args) (sem T zhb args):=by
 unfold zqR;split
 ·exact zaf zAe (Nat.le_of_ble_eq_true (by kernel_rfl)) hg (zBx g _)
 ·exact zaa
def zkj (G:Sem') (t0:V):M Res :=
 (G zam [t0,(V.int .i64 1)]).bind fun t4 =>
 (M.lift (Ax.bin .eql t4 (V.int .i64 1))).bind fun t5 =>
 M.pure (.ret [t5])
def zgi:Fn':=(T zaC).getD noF
theorem zph:T zaC = some zgi:=by kernel_rfl
theorem zpy (G:Sem') (t0:V):execK G zgi.rv zgi.body [] [] (params 0 [t0]) = zkj G t0:=by kernel_rfl
def zgT (G:Sem'):List V → M V
 | [t0]=>fin (zkj G t0)
 | _=>M.fail
theorem zp1 {g:Sem'} (hg:Sims g (sem T)) (args:List V):Sim (zgT g args) (sem T zaC args):=by
 unfold zgT;split
 ·exact zaf zph (Nat.le_of_ble_eq_true (by kernel_rfl)) hg (zpy g _)
 ·exact zaa
def zki (G:Sem') (t0 t1:V):M Res :=
 (M.lift (Ax.nilck t0)).bind fun t8 =>
 (M.lift (Ax.faddr 1 t8)).bind fun t9 =>
 (mload none t9).bind fun t10 =>
 (M.lift (Ax.bin .neq t10 (V.int .i64 0))).bind fun t11 =>
 M.ite t11
 (M.pure (.ret [(V.int .i64 0)]))
 ((M.lift (Ax.nilck t0)).bind fun t14 =>
 (M.lift (Ax.faddr 0 t14)).bind fun t15 =>
 (mload none t15).bind fun t16 =>
 (G zbW [t16,t1]).bind fun t18 =>
 (M.lift (Ax.ext 0 t18)).bind fun t19 =>
 (M.lift (Ax.ext 1 t18)).bind fun t20 =>
 (M.lift (Ax.nilck t0)).bind fun t23 =>
 (M.lift (Ax.faddr 1 t23)).bind fun t24 =>
 (mstore 1 t24 t20).bind fun _ =>
 (M.lift (Ax.cint .i64 t19)).bind fun t26 =>
 M.pure (.ret [t26]))
def zgh:Fn':=(T zam).getD noF
theorem zpg:T zam = some zgh:=by kernel_rfl
theorem zpx (G:Sem') (t0 t1:V):execK G zgh.rv zgh.body [] [] (params 0 [t0,t1]) = zki G t0 t1:=by kernel_rfl
def zgS (G:Sem'):List V → M V
 | [t0,t1]=>fin (zki G t0 t1)
 | _=>M.fail
theorem zp0 {g:Sem'} (hg:Sims g (sem T)) (args:List V):Sim (zgS g args) (sem T zam args):=by
 unfold zgS;split
 ·exact zaf zpg (Nat.le_of_ble_eq_true (by kernel_rfl)) hg (zpx g _ _)
 ·exact zaa
def zkg (G:Sem') (t18 t0 t3 t2:V) (L:List V):M Res :=
 (M.lift (Ax.bin .lss (L.getD 0 .undef) t18)).bind fun t20 =>
 M.ite t20
 (M.blk 1 (
 (M.lift (Ax.faddr 2 t3)).bind fun t22 =>
 (mload none t22).bind fun t23 =>
 (M.lift (Ax.faddr 1 t3)).bind fun t26 =>
 (mload none t26).bind fun t27 =>
 M.getH.bind fun h0 =>
 (G zbo [t0,t27,(V.int .i64 2)]).bind fun t28 =>
 M.getH.bind fun h0' =>
 (M.unch t22 h0 h0').bind fun _ =>
 (M.lift (Ax.iaddr none 5 t23 (L.getD 0 .undef))).bind fun t29 =>
 (M.lift (Ax.faddr 2 t29)).bind fun t30 =>
 (mstore 1 t30 t28).bind fun _ =>
 M.pure (.nrm [])) fun _ =>
 (M.lift (Ax.bin .add (L.getD 0 .undef) (V.int .i64 1))).bind fun t31 =>
 M.pure (.nrm [t31]))
 (M.pure (.ex 0 []))
def zkf (G:Sem') (t34 t3 t0 t2:V) (L:List V):M Res :=
 (M.lift (Ax.bin .lss (L.getD 0 .undef) t34)).bind fun t36 =>
 M.ite t36
 (M.blk 3 (
 (M.lift (Ax.faddr 2 t3)).bind fun t38 =>
 (mload none t38).bind fun t39 =>
 M.getH.bind fun h1 =>
 (G zb6 [t0]).bind fun t42 =>
 M.getH.bind fun h1' =>
 (M.unch t38 h1 h1').bind fun _ =>
 (M.lift (Ax.iaddr none 5 t39 (L.getD 0 .undef))).bind fun t43 =>
 (M.lift (Ax.faddr 3 t43)).bind fun t44 =>
 (mstore 1 t44 t42).bind fun _ =>
 M.pure (.nrm [])) fun _ =>
 (M.lift (Ax.bin .add (L.getD 0 .undef) (V.int .i64 1))).bind fun t45 =>
 M.pure (.nrm [t45]))
 (M.pure (.ex 2 []))
def zke (G:Sem') (t56 t0 t3 t2:V) (L:List V):M Res :=
 (M.lift (Ax.bin .lss (L.getD 0 .undef) t56)).bind fun t58 =>
 M.ite t58
 (M.blk 5 (
 (M.lift (Ax.faddr 4 t3)).bind fun t59 =>
 (mload none t59).bind fun t60 =>
 (M.lift (Ax.faddr 3 t3)).bind fun t62 =>
 (mload none t62).bind fun t63 =>
 M.getH.bind fun h2 =>
 (G zcc [t0,t63]).bind fun t64 =>
 M.getH.bind fun h2' =>
 (M.unch t59 h2 h2').bind fun _ =>
 (mslit zeX 1 [(V.int .i64 0)] [(0,1,t64)]).bind fun t65 =>
 (mappend zeX 1 8 t60 t65).bind fun t66 =>
 (M.lift (Ax.faddr 4 t3)).bind fun t67 =>
 (mstore 1 t67 t66).bind fun _ =>
 M.pure (.nrm [])) fun _ =>
 (M.lift (Ax.bin .add (L.getD 0 .undef) (V.int .i64 1))).bind fun t68 =>
 M.pure (.nrm [t68]))
 (M.pure (.ex 4 []))
def zkd (G:Sem') (t71 t0 t3 t2:V) (L:List V):M Res :=
 (M.lift (Ax.bin .lss (L.getD 0 .undef) t71)).bind fun t73 =>
 M.ite t73
 (M.blk 7 (
 (M.lift (Ax.faddr 2 t3)).bind fun t75 =>
 (mload none t75).bind fun t76 =>
 (M.lift (Ax.faddr 3 t3)).bind fun t79 =>
 (mload none t79).bind fun t80 =>
 M.getH.bind fun h3 =>
 (G zbo [t0,t80,(V.int .i64 4)]).bind fun t81 =>
 M.getH.bind fun h3' =>
 (M.unch t75 h3 h3').bind fun _ =>
 (M.lift (Ax.iaddr none 5 t76 (L.getD 0 .undef))).bind fun t82 =>
 (M.lift (Ax.faddr 4 t82)).bind fun t83 =>
 (mstore 1 t83 t81).bind fun _ =>
 M.pure (.nrm [])) fun _ =>
 (M.lift (Ax.bin .add (L.getD 0 .undef) (V.int .i64 1))).bind fun t84 =>
 M.pure (.nrm [t84]))
 (M.pure (.ex 6 []))
def zkc (G:Sem') (t88 t0 t3 t2:V) (L:List V):M Res :=
 (M.lift (Ax.bin .lss (L.getD 0 .undef) t88)).bind fun t90 =>
 M.ite t90
 (M.blk 9 (
 (M.lift (Ax.faddr 5 t3)).bind fun t91 =>
 (mload none t91).bind fun t92 =>
 M.getH.bind fun h4 =>
 (G zam [t0,(V.int .i64 16)]).bind fun t94 =>
 M.getH.bind fun h4' =>
 (M.unch t91 h4 h4').bind fun _ =>
 M.getH.bind fun h5 =>
 (G zam [t0,(V.int .i64 16)]).bind fun t97 =>
 M.getH.bind fun h5' =>
 (M.unch t91 h5 h5').bind fun _ =>
 (M.lift (Ax.bin .add t94 (V.int .i64 1))).bind fun t95 =>
 (M.lift (Ax.bin .add t97 (V.int .i64 1))).bind fun t98 =>
 (M.lift (Ax.build [(V.int .i64 0),(V.int .i64 0)] [(0,1,t95),(1,1,t98)])).bind fun t99 =>
 (mslit zyh 1 [(V.int .i64 0),(V.int .i64 0)] [(0,2,t99)]).bind fun t100 =>
 (mappend zyh 2 16 t92 t100).bind fun t101 =>
 (M.lift (Ax.faddr 5 t3)).bind fun t102 =>
 (mstore 1 t102 t101).bind fun _ =>
 M.pure (.nrm [])) fun _ =>
 (M.lift (Ax.bin .add (L.getD 0 .undef) (V.int .i64 1))).bind fun t103 =>
 M.pure (.nrm [t103]))
 (M.pure (.ex 8 []))
def zgx (G:Sem') (t0:V):M Res :=
 (mbox zan (V.agg [(V.int .i64 0),(V.int .i64 0),V.nils,(V.int .i64 0),V.nils,V.nils])).bind fun t2 =>
 (G zam [t0,(V.int .i64 6)]).bind fun t8 =>
 (G zam [t0,(V.int .i64 5)]).bind fun t10 =>
 (M.lift (Ax.bin .add t10 (V.int .i64 1))).bind fun t11 =>
 (M.lift (Ax.build [(V.int .i64 0),(V.int .i64 0),V.nils,(V.int .i64 0),V.nils,V.nils] [(0,1,t8),(1,1,t11)])).bind fun t12 =>
 (mbox zan (V.agg [(V.int .i64 0),(V.int .i64 0),V.nils,(V.int .i64 0),V.nils,V.nils])).bind fun t3 =>
 (mstore 6 t3 t12).bind fun _ =>
 (G zbA [t0]).bind fun t14 =>
 (M.lift (Ax.faddr 2 t3)).bind fun t15 =>
 (mstore 1 t15 t14).bind fun _ =>
 (M.lift (Ax.faddr 2 t3)).bind fun t16 =>
 (mload none t16).bind fun t17 =>
 (M.lift (vlen t17)).bind fun t18 =>
 M.blk 0 (
 M.iter (zkg G t18 t0 t3 t2) [(V.int .i64 0)]) fun _ =>
 (M.lift (Ax.faddr 2 t3)).bind fun t32 =>
 (mload none t32).bind fun t33 =>
 (M.lift (vlen t33)).bind fun t34 =>
 M.blk 2 (
 M.iter (zkf G t34 t3 t0 t2) [(V.int .i64 0)]) fun _ =>
 (M.lift (Ax.faddr 1 t3)).bind fun t47 =>
 (mload none t47).bind fun t48 =>
 (M.lift (Ax.bin .add t48 (V.int .i64 1))).bind fun t49 =>
 (G zcc [t0,t49]).bind fun t50 =>
 (M.lift (Ax.faddr 3 t3)).bind fun t51 =>
 (mstore 1 t51 t50).bind fun _ =>
 (M.lift (Ax.faddr 3 t3)).bind fun t52 =>
 (mload none t52).bind fun t53 =>
 (M.lift (Ax.bin .gtr t53 (V.int .i64 0))).bind fun t54 =>
 M.join (M.ite t54
 ((M.lift (Ax.faddr 1 t3)).bind fun t55 =>
 (mload none t55).bind fun t56 =>
 M.blk 4 (
 M.iter (zke G t56 t0 t3 t2) [(V.int .i64 0)]) fun _ =>
 (M.lift (Ax.faddr 2 t3)).bind fun t69 =>
 (mload none t69).bind fun t70 =>
 (M.lift (vlen t70)).bind fun t71 =>
 M.blk 6 (
 M.iter (zkd G t71 t0 t3 t2) [(V.int .i64 0)]) fun _ =>
 M.pure (.nrm []))
 (M.pure (.nrm []))) fun _ =>
 (G zaC [t0]).bind fun t86 =>
 M.join (M.ite t86
 ((mload (some 6) t3).bind fun t87 =>
 (G zcT [t87]).bind fun t88 =>
 M.blk 8 (
 M.iter (zkc G t88 t0 t3 t2) [(V.int .i64 0)]) fun _ =>
 M.pure (.nrm []))
 (M.pure (.nrm []))) fun _ =>
 (mload (some 6) t3).bind fun t104 =>
 (mstore 6 t2 t104).bind fun _ =>
 (mload (some 6) t2).bind fun r0 =>
 M.pure (.ret [r0])
def zdQ:Fn':=(T zbB).getD noF
theorem zkC:T zbB = some zdQ:=by kernel_rfl
theorem zkK (G:Sem') (t0:V):execK G zdQ.rv zdQ.body [] [] (params 0 [t0]) = zgx G t0:=by kernel_rfl
def zee (G:Sem'):List V → M V
 | [t0]=>fin (zgx G t0)
 | _=>M.fail
theorem zk2 {g:Sem'} (hg:Sims g (sem T)) (args:List V):Sim (zee g args) (sem T zbB args):=by
 unfold zee;split
 ·exact zaf zkC (Nat.le_of_ble_eq_true (by kernel_rfl)) hg (zkK g _)
 ·exact zaa
def zwk (G:Sem') (t70 t69:V) (L:List V):M Res :=
 (M.lift (Ax.bin .lss (L.getD 0 .undef) t70)).bind fun t72 =>
 M.ite t72
 (M.blk 1 (
 (M.lift (Ax.iaddr none 2 t69 (L.getD 0 .undef))).bind fun t73 =>
 (mload (some 2) t73).bind fun t74 =>
 (mbox zyh (V.agg [(V.int .i64 0),(V.int .i64 0)])).bind fun t6 =>
 (mstore 2 t6 t74).bind fun _ =>
 (M.lift (zbr (.arr 2) 1 t6 none none none)).bind fun t75 =>
 (G zbt [t75,(V.int .i64 2),(V.int .i64 1),(V.int .i64 65536)]).bind fun t76 =>
 (M.lift (Ax.un .not t76)).bind fun t77 =>
 M.ite t77
 (M.pure (.ret [(V.bool false)]))
 (M.pure (.nrm []))) fun _ =>
 (M.lift (Ax.bin .add (L.getD 0 .undef) (V.int .i64 1))).bind fun t78 =>
 M.pure (.nrm [t78]))
 (M.pure (.ex 0 []))
def zrX (G:Sem') (t0:V):M Res :=
 (mbox zan t0).bind fun t1 =>
 (M.lift (Ax.faddr 1 t1)).bind fun t7 =>
 (mload none t7).bind fun t8 =>
 (M.lift (Ax.faddr 3 t1)).bind fun t9 =>
 (mload none t9).bind fun t10 =>
 (M.lift (Ax.bin .eql t10 (V.int .i64 0))).bind fun t11 =>
 M.join (M.ite t11
 (M.pure (.nrm [(V.int .i64 0)]))
 (M.pure (.nrm [t8]))) fun L0 =>
 (M.lift (Ax.faddr 0 t1)).bind fun t12 =>
 (mload none t12).bind fun t13 =>
 (M.lift (Ax.bin .lss t13 (V.int .i64 0))).bind fun t14 =>
 (guarded [(0,t14)] (some (0,false)) (M.lift (Ax.faddr 0 t1))).bind fun t16 =>
 (guarded [(0,t14)] (some (0,false)) (mload none t16)).bind fun t17 =>
 (guarded [(0,t14)] (some (0,false)) (M.lift (Ax.bin .geq t17 (V.int .i64 64)))).bind fun t18 =>
 (M.lift (Ax.pick t14 (V.bool true) t18)).bind fun t19 =>
 (guarded [(0,t19)] (some (0,false)) (M.lift (Ax.faddr 1 t1))).bind fun t21 =>
 (guarded [(0,t19)] (some (0,false)) (mload none t21)).bind fun t22 =>
 (guarded [(0,t19)] (some (0,false)) (M.lift (Ax.bin .lss t22 (V.int .i64 1)))).bind fun t23 =>
 (M.lift (Ax.pick t19 (V.bool true) t23)).bind fun t24 =>
 (guarded [(0,t24)] (some (0,false)) (M.lift (Ax.faddr 1 t1))).bind fun t26 =>
 (guarded [(0,t24)] (some (0,false)) (mload none t26)).bind fun t27 =>
 (guarded [(0,t24)] (some (0,false)) (M.lift (Ax.bin .gtr t27 (V.int .i64 32)))).bind fun t28 =>
 (M.lift (Ax.pick t24 (V.bool true) t28)).bind fun t29 =>
 (guarded [(0,t29)] (some (0,false)) (M.lift (Ax.faddr 3 t1))).bind fun t31 =>
 (guarded [(0,t29)] (some (0,false)) (mload none t31)).bind fun t32 =>
 (guarded [(0,t29)] (some (0,false)) (M.lift (Ax.bin .lss t32 (V.int .i64 0)))).bind fun t33 =>
 (M.lift (Ax.pick t29 (V.bool true) t33)).bind fun t34 =>
 (guarded [(0,t34)] (some (0,false)) (M.lift (Ax.faddr 3 t1))).bind fun t36 =>
 (guarded [(0,t34)] (some (0,false)) (mload none t36)).bind fun t37 =>
 (guarded [(0,t34)] (some (0,false)) (M.lift (Ax.faddr 1 t1))).bind fun t38 =>
 (guarded [(0,t34)] (some (0,false)) (mload none t38)).bind fun t39 =>
 (guarded [(0,t34)] (some (0,false)) (M.lift (Ax.bin .gtr t37 t39))).bind fun t40 =>
 (M.lift (Ax.pick t34 (V.bool true) t40)).bind fun t41 =>
 (guarded [(0,t41)] (some (0,false)) (M.lift (Ax.faddr 4 t1))).bind fun t43 =>
 (guarded [(0,t41)] (some (0,false)) (mload none t43)).bind fun t44 =>
 (guarded [(0,t41)] (some (0,false)) (M.pure (L0.getD 0 .undef))).bind fun t45 =>
 (guarded [(0,t41)] (some (0,false)) (M.lift (Ax.faddr 3 t1))).bind fun t46 =>
 (guarded [(0,t41)] (some (0,false)) (mload none t46)).bind fun t47 =>
 (guarded [(0,t41)] (some (0,false)) (M.lift (Ax.bin .sub t47 (V.int .i64 1)))).bind fun t48 =>
 (guarded [(0,t41)] (some (0,false)) (G zbt [t44,t45,(V.int .i64 0),t48])).bind fun t49 =>
 (guarded [(0,t41)] (some (0,false)) (M.lift (Ax.un .not t49))).bind fun t50 =>
 (M.lift (Ax.pick t41 (V.bool true) t50)).bind fun t51 =>
 (guarded [(0,t51)] (some (0,false)) (mload (some 6) t1)).bind fun t53 =>
 (guarded [(0,t51)] (some (0,false)) (G zdZ [t53])).bind fun t54 =>
 (guarded [(0,t51)] (some (0,false)) (M.lift (Ax.un .not t54))).bind fun t55 =>
 (M.lift (Ax.pick t51 (V.bool true) t55)).bind fun t56 =>
 M.ite t56
 (M.pure (.ret [(V.bool false)]))
 ((M.lift (Ax.faddr 5 t1)).bind fun t57 =>
 (mload none t57).bind fun t58 =>
 (M.lift (vlen t58)).bind fun t59 =>
 (M.lift (Ax.bin .neq t59 (V.int .i64 0))).bind fun t61 =>
 (guarded [(0,t61)] (some (0,true)) (M.pure t59)).bind fun t63 =>
 (guarded [(0,t61)] (some (0,true)) (mload (some 6) t1)).bind fun t64 =>
 (guarded [(0,t61)] (some (0,true)) (G zcT [t64])).bind fun t65 =>
 (guarded [(0,t61)] (some (0,true)) (M.lift (Ax.bin .neq t63 t65))).bind fun t66 =>
 (M.lift (Ax.pick t61 t66 (V.bool false))).bind fun t67 =>
 M.ite t67
 (M.pure (.ret [(V.bool false)]))
 ((M.lift (Ax.faddr 5 t1)).bind fun t68 =>
 (mload none t68).bind fun t69 =>
 (M.lift (vlen t69)).bind fun t70 =>
 M.blk 0 (
 M.iter (zwk G t70 t69) [(V.int .i64 0)]) fun _ =>
 (M.lift (Ax.faddr 2 t1)).bind fun t79 =>
 (mload none t79).bind fun t80 =>
 (M.pure (.fn zd3 [t1])).bind fun t81 =>
 (G zal [t80,t81]).bind fun t82 =>
 (M.lift (Ax.un .not t82)).bind fun t83 =>
 M.pure (.ret [t83])))
def zlm:Fn':=(T zcY).getD noF
theorem zw8:T zcY = some zlm:=by kernel_rfl
theorem zxK (G:Sem') (t0:V):execK G zlm.rv zlm.body [] [] (params 0 [t0]) = zrX G t0:=by kernel_rfl
def zmX (G:Sem'):List V → M V
 | [t0]=>fin (zrX G t0)
 | _=>M.fail
theorem zyT {g:Sem'} (hg:Sims g (sem T)) (args:List V):Sim (zmX g args) (sem T zcY args):=by
 unfold zmX;split
 ·exact zaf zw8 (Nat.le_of_ble_eq_true (by kernel_rfl)) hg (zxK g _)
 ·exact zaa
def zpI (G:Sem') (t0 t1:V):M Res :=
 (mbox zb7 t0).bind fun t2 =>
 (mbox zan t1).bind fun t3 =>
 (mbox zan (V.agg [(V.int .i64 0),(V.int .i64 0),V.nils,(V.int .i64 0),V.nils,V.nils])).bind fun t4 =>
 (M.lift (Ax.faddr 4 t2)).bind fun t5 =>
 (mload none t5).bind fun t6 =>
 M.ite t6
 ((M.lift (Ax.faddr 5 t2)).bind fun t7 =>
 (mload (some 6) t7).bind fun t8 =>
 (mstore 6 t4 t8).bind fun _ =>
 (mload (some 6) t4).bind fun r0 =>
 M.pure (.ret [r0]))
 ((mload (some 6) t3).bind fun t9 =>
 (mstore 6 t4 t9).bind fun _ =>
 (mload (some 6) t4).bind fun r0 =>
 M.pure (.ret [r0]))
def zj4:Fn':=(T zc2).getD noF
theorem zvj:T zc2 = some zj4:=by kernel_rfl
theorem zwt (G:Sem') (t0 t1:V):execK G zj4.rv zj4.body [] [] (params 0 [t0,t1]) = zpI G t0 t1:=by kernel_rfl
def zlz (G:Sem'):List V → M V
 | [t0,t1]=>fin (zpI G t0 t1)
 | _=>M.fail
theorem zxk {g:Sem'} (hg:Sims g (sem T)) (args:List V):Sim (zlz g args) (sem T zc2 args):=by
 unfold zlz;split
 ·exact zaf zvj (Nat.le_of_ble_eq_true (by kernel_rfl)) hg (zwt g _ _)
 ·exact zaa
def zlY (G:Sem') (t0 t1:V):M Res :=
 (mbox zan t0).bind fun t2 =>
 (mbox zaw (V.agg [(V.int .i64 0),(V.int .i64 0),V.nils,V.nils,V.nils])).bind fun t4 =>
 (M.lift (Ax.bin .lss t1 (V.int .i64 0))).bind fun t8 =>
 (guarded [(0,t8)] (some (0,false)) (M.pure t1)).bind fun t10 =>
 (guarded [(0,t8)] (some (0,false)) (M.lift (Ax.bin .geq t10 (V.int .i64 64)))).bind fun t11 =>
 (M.lift (Ax.pick t8 (V.bool true) t11)).bind fun t12 =>
 M.ite t12
 ((M.lift (Ax.build [(V.int .i64 0),(V.int .i64 0),V.nils,V.nils,V.nils] [])).bind fun t13 =>
 (mstore 5 t4 t13).bind fun _ =>
 (mload (some 5) t4).bind fun r0 =>
 M.pure (.ret [r0,(V.bool false)]))
 ((M.lift (Ax.bin .add t1 (V.int .i64 64))).bind fun t15 =>
 (M.lift (Ax.faddr 0 t2)).bind fun t16 =>
 (mload none t16).bind fun t17 =>
 (M.lift (Ax.bin .sub t15 t17)).bind fun t18 =>
 (M.lift (Ax.bin .rem t18 (V.int .i64 64))).bind fun t19 =>
 (M.lift (Ax.faddr 2 t2)).bind fun t21 =>
 (mload none t21).bind fun t22 =>
 (M.lift (vlen t22)).bind fun t23 =>
 (M.lift (Ax.bin .geq t19 t23)).bind fun t24 =>
 M.ite t24
 ((M.lift (Ax.build [(V.int .i64 0),(V.int .i64 0),V.nils,V.nils,V.nils] [])).bind fun t25 =>
 (mstore 5 t4 t25).bind fun _ =>
 (mload (some 5) t4).bind fun r0 =>
 M.pure (.ret [r0,(V.bool false)]))
 ((M.lift (Ax.faddr 2 t2)).bind fun t26 =>
 (mload none t26).bind fun t27 =>
 (M.lift (Ax.iaddr none 5 t27 t19)).bind fun t29 =>
 (mload (some 5) t29).bind fun t30 =>
 (G zd0 [t30]).bind fun t31 =>
 (mstore 5 t4 t31).bind fun _ =>
 (mload (some 5) t4).bind fun r0 =>
 M.pure (.ret [r0,(V.bool true)])))
def zhw:Fn':=(T zcv).getD noF
theorem zq9:T zcv = some zhw:=by kernel_rfl
theorem zsd (G:Sem') (t0 t1:V):execK G zhw.rv zhw.body [] [] (params 0 [t0,t1]) = zlY G t0 t1:=by kernel_rfl
def ziJ (G:Sem'):List V → M V
 | [t0,t1]=>fin (zlY G t0 t1)
 | _=>M.fail
theorem zsU {g:Sem'} (hg:Sims g (sem T)) (args:List V):Sim (ziJ g args) (sem T zcv args):=by
 unfold ziJ;split
 ·exact zaf zq9 (Nat.le_of_ble_eq_true (by kernel_rfl)) hg (zsd g _ _)
 ·exact zaa
def zjJ (G:Sem') (t0 t1:V):M Res :=
 (M.lift (Ax.nilck t0)).bind fun t5 =>
 (M.lift (Ax.faddr 1 t5)).bind fun t6 =>
 (mload none t6).bind fun t7 =>
 (M.lift (Ax.bin .eql t7 (V.int .i64 0))).bind fun t8 =>
 M.join (M.ite t8
 ((M.lift (Ax.nilck t0)).bind fun t11 =>
 (M.lift (Ax.faddr 1 t11)).bind fun t12 =>
 (mstore 1 t12 t1).bind fun _ =>
 M.pure (.nrm []))
 (M.pure (.nrm []))) fun _ =>
 M.pure (.ret [])
def zfG:Fn':=(T za5).getD noF
theorem znG:T za5 = some zfG:=by kernel_rfl
theorem zoD (G:Sem') (t0 t1:V):execK G zfG.rv zfG.body [] [] (params 0 [t0,t1]) = zjJ G t0 t1:=by kernel_rfl
def zgp (G:Sem'):List V → M V
 | [t0,t1]=>fin (zjJ G t0 t1)
 | _=>M.fail
theorem zpo {g:Sem'} (hg:Sims g (sem T)) (args:List V):Sim (zgp g args) (sem T za5 args):=by
 unfold zgp;split
 ·exact zaf znG (Nat.le_of_ble_eq_true (by kernel_rfl)) hg (zoD g _ _)
 ·exact zaa
def zny (G:Sem') (t8 t0 t2 t6:V) (L:List V):M Res :=
 (M.lift (Ax.bin .lss (L.getD 1 .undef) t8)).bind fun t10 =>
 M.ite t10
 (M.blk 1 (
 (G zam [t0,t2]).bind fun t14 =>
 (mslit zeX 1 [(V.int .i64 0)] [(0,1,t14)]).bind fun t15 =>
 (mappend zeX 1 8 (L.getD 0 .undef) t15).bind fun t16 =>
 M.pure (.nrm [t16])) fun L0 =>
 (M.lift (Ax.bin .add (L.getD 1 .undef) (V.int .i64 1))).bind fun t17 =>
 M.pure (.nrm [(L0.getD 0 .undef),t17]))
 (M.pure (.ex 0 [(L.getD 0 .undef)]))
def zjI (G:Sem') (t0 t1 t2:V):M Res :=
 M.blk 0 (
 M.iter (zny G t1 t0 t2 V.nils) [V.nils,(V.int .i64 0)]) fun L1 =>
 M.pure (.ret [(L1.getD 0 .undef)])
def zfF:Fn':=(T zbo).getD noF
theorem znF:T zbo = some zfF:=by kernel_rfl
theorem zoC (G:Sem') (t0 t1 t2:V):execK G zfF.rv zfF.body [] [] (params 0 [t0,t1,t2]) = zjI G t0 t1 t2:=by kernel_rfl
def zgo (G:Sem'):List V → M V
 | [t0,t1,t2]=>fin (zjI G t0 t1 t2)
 | _=>M.fail
theorem zpn {g:Sem'} (hg:Sims g (sem T)) (args:List V):Sim (zgo g args) (sem T zbo args):=by
 unfold zgo;split
 ·exact zaf znF (Nat.le_of_ble_eq_true (by kernel_rfl)) hg (zoC g _ _ _)
 ·exact zaa
def zot (G:Sem') (t0:V) (L:List V):M Res :=
 (M.lift (Ax.bin .gtr (L.getD 1 .undef) (V.int .i64 0))).bind fun t8 =>
 M.ite t8
 (M.blk 1 (
 (M.lift (vlen (L.getD 0 .undef))).bind fun t12 =>
 (M.lift (Ax.bin .geq t12 (V.int .i64 16))).bind fun t13 =>
 M.ite t13
 ((G za5 [t0,(V.int .i64 4)]).bind fun t15 =>
 M.pure (.ret [V.nils]))
 ((M.lift (Ax.bin .mul (V.int .i64 4) (L.getD 1 .undef))).bind fun t19 =>
 (G zam [t0,t19]).bind fun t20 =>
 (M.lift (Ax.bin .add t20 (V.int .i64 1))).bind fun t21 =>
 (mslit zeX 1 [(V.int .i64 0)] [(0,1,t21)]).bind fun t22 =>
 (mappend zeX 1 8 (L.getD 0 .undef) t22).bind fun t23 =>
 M.pure (.nrm [t23]))) fun L0 =>
 (G zam [t0,(V.int .i64 2)]).bind fun t10 =>
 M.pure (.nrm [(L0.getD 0 .undef),t10]))
 (M.pure (.ex 0 [(L.getD 0 .undef)]))
def zkh (G:Sem') (t0:V):M Res :=
 (G zam [t0,(V.int .i64 2)]).bind fun t6 =>
 M.blk 0 (
 M.iter (zot G t0) [V.nils,t6]) fun L1 =>
 M.pure (.ret [(L1.getD 0 .undef)])
def zgg:Fn':=(T zcC).getD noF
theorem zpf:T zcC = some zgg:=by kernel_rfl
theorem zpw (G:Sem') (t0:V):execK G zgg.rv zgg.body [] [] (params 0 [t0]) = zkh G t0:=by kernel_rfl
def zgR (G:Sem'):List V → M V
 | [t0]=>fin (zkh G t0)
 | _=>M.fail
theorem zpZ {g:Sem'} (hg:Sims g (sem T)) (args:List V):Sim (zgR g args) (sem T zcC args):=by
 unfold zgR;split
 ·exact zaf zpf (Nat.le_of_ble_eq_true (by kernel_rfl)) hg (zpw g _)
 ·exact zaa
def zkW (G:Sem') (t0:V):M Res :=
 (M.lift (Ax.nilck t0)).bind fun t4 =>
 (M.lift (Ax.faddr 0 t4)).bind fun t5 =>
 (mload none t5).bind fun t6 =>
 (M.lift (vlen t6)).bind fun t7 =>
 (M.lift (Ax.bin .mul (V.int .i64 8) t7)).bind fun t8 =>
 (M.lift (Ax.nilck t0)).bind fun t10 =>
 (M.lift (Ax.faddr 1 t10)).bind fun t11 =>
 (mload none t11).bind fun t12 =>
 (M.lift (Ax.bin .sub t8 t12)).bind fun t13 =>
 M.pure (.ret [t13])
def zgI:Fn':=(T zcd).getD noF
theorem zpU:T zcd = some zgI:=by kernel_rfl
theorem zqt (G:Sem') (t0:V):execK G zgI.rv zgI.body [] [] (params 0 [t0]) = zkW G t0:=by kernel_rfl
def zhG (G:Sem'):List V → M V
 | [t0]=>fin (zkW G t0)
 | _=>M.fail
theorem zrh {g:Sem'} (hg:Sims g (sem T)) (args:List V):Sim (zhG g args) (sem T zcd args):=by
 unfold zhG;split
 ·exact zaf zpU (Nat.le_of_ble_eq_true (by kernel_rfl)) hg (zqt g _)
 ·exact zaa
def zew (G:Sem') (t0 t1:V):M Res :=
 (G zbh [t0,t1]).bind fun t7 =>
 (M.lift (Ax.bin .geq t7 (V.int .i64 0))).bind fun t8 =>
 M.pure (.ret [t8])
def zcG:Fn':=(T zaS).getD noF
theorem zhH:T zaS = some zcG:=by kernel_rfl
theorem zhL (G:Sem') (t0 t1:V):execK G zcG.rv zcG.body [] [] (params 0 [t0,t1]) = zew G t0 t1:=by kernel_rfl
def zcU (G:Sem'):List V → M V
 | [t0,t1]=>fin (zew G t0 t1)
 | _=>M.fail
theorem zhV {g:Sem'} (hg:Sims g (sem T)) (args:List V):Sim (zcU g args) (sem T zaS args):=by
 unfold zcU;split
 ·exact zaf zhH (Nat.le_of_ble_eq_true (by kernel_rfl)) hg (zhL g _ _)
 ·exact zaa
def zfw (G:Sem') (t0:V):M Res :=
 (M.lift (eqr .sl false t0 V.nils)).bind fun t4 =>
 M.ite t4
 (M.pure (.ret [V.nils]))
 ((mslit zfz 0 [(V.int .u16 0)] []).bind fun t5 =>
 (mappend zfz 1 2 t5 t0).bind fun t7 =>
 M.pure (.ret [t7]))
def zdd:Fn':=(T zbj).getD noF
theorem ziZ:T zbj = some zdd:=by kernel_rfl
theorem zji (G:Sem') (t0:V):execK G zdd.rv zdd.body [] [] (params 0 [t0]) = zfw G t0:=by kernel_rfl
def zdp (G:Sem'):List V → M V
 | [t0]=>fin (zfw G t0)
 | _=>M.fail
theorem zjO {g:Sem'} (hg:Sims g (sem T)) (args:List V):Sim (zdp g args) (sem T zbj args):=by
 unfold zdp;split
 ·exact zaf ziZ (Nat.le_of_ble_eq_true (by kernel_rfl)) hg (zji g _)
 ·exact zaa
def zhJ (G:Sem') (t0:V) (L:List V):M Res :=
 (M.lift (Ax.bin .lss (L.getD 0 .undef) (L.getD 1 .undef))).bind fun t9 =>
 M.ite t9
 (M.blk 1 (
 (M.lift (Ax.iaddr none 1 t0 (L.getD 1 .undef))).bind fun t20 =>
 (mload none t20).bind fun t21 =>
 (M.lift (Ax.iaddr none 1 t0 (L.getD 0 .undef))).bind fun t24 =>
 (mload none t24).bind fun t25 =>
 (M.lift (Ax.iaddr none 1 t0 (L.getD 0 .undef))).bind fun t26 =>
 (mstore 1 t26 t21).bind fun _ =>
 (M.lift (Ax.iaddr none 1 t0 (L.getD 1 .undef))).bind fun t27 =>
 (mstore 1 t27 t25).bind fun _ =>
 M.pure (.nrm [])) fun _ =>
 (M.lift (Ax.bin .add (L.getD 0 .undef) (V.int .i64 1))).bind fun t11 =>
 (M.lift (Ax.bin .sub (L.getD 1 .undef) (V.int .i64 1))).bind fun t13 =>
 M.pure (.nrm [t11,t13]))
 (M.pure (.ex 0 []))
def zeG (G:Sem') (t0:V):M Res :=
 (M.lift (vlen t0)).bind fun t5 =>
 (M.lift (Ax.bin .sub t5 (V.int .i64 1))).bind fun t6 =>
 M.blk 0 (
 M.iter (zhJ G t0) [(V.int .i64 0),t6]) fun _ =>
 M.pure (.ret [])
def zcJ:Fn':=(T za6).getD noF
theorem zhS:T za6 = some zcJ:=by kernel_rfl
theorem zio (G:Sem') (t0:V):execK G zcJ.rv zcJ.body [] [] (params 0 [t0]) = zeG G t0:=by kernel_rfl
def zc3 (G:Sem'):List V → M V
 | [t0]=>fin (zeG G t0)
 | _=>M.fail
theorem ziQ {g:Sem'} (hg:Sims g (sem T)) (args:List V):Sim (zc3 g args) (sem T za6 args):=by
 unfold zc3;split
 ·exact zaf zhS (Nat.le_of_ble_eq_true (by kernel_rfl)) hg (zio g _)
 ·exact zaa
def zze (G:Sem') (t26 t25 t2 t3:V) (L:List V):M Res :=
 (M.lift (Ax.bin .lss (L.getD 1 .undef) t26)).bind fun t28 =>
 M.ite t28
 (M.blk 1 (
 (M.lift (Ax.iaddr none 1 t25 (L.getD 1 .undef))).bind fun t29 =>
 (mload none t29).bind fun t30 =>
 (G zep [(L.getD 0 .undef),t30,(V.int .i64 4)]).bind fun t33 =>
 M.pure (.nrm [t33])) fun L0 =>
 (M.lift (Ax.bin .add (L.getD 1 .undef) (V.int .i64 1))).bind fun t34 =>
 M.pure (.nrm [(L0.getD 0 .undef),t34]))
 (M.pure (.ex 0 [(L.getD 0 .undef)]))
def zv0 (G:Sem') (t0:V):M Res :=
 (mbox zbC t0).bind fun t1 =>
 (mload (some 10) t1).bind fun t8 =>
 (G zii [t8]).bind fun t9 =>
 (M.lift (Ax.un .not t9)).bind fun t10 =>
 M.ite t10
 (M.pure (.ret [V.nils,(V.int .i64 1)]))
 ((mload (some 10) t1).bind fun t11 =>
 (M.lift (Ax.faddr 2 t1)).bind fun t13 =>
 (mload none t13).bind fun t14 =>
 (M.lift (Ax.cint .u32 t14)).bind fun t15 =>
 M.getH.bind fun h0 =>
 (G zgW [t11]).bind fun t12 =>
 M.getH.bind fun h0' =>
 (M.unch t13 h0 h0').bind fun _ =>
 (G zep [t12,t15,(V.int .i64 2)]).bind fun t16 =>
 (M.lift (Ax.faddr 3 t1)).bind fun t18 =>
 (mload none t18).bind fun t19 =>
 (M.lift (Ax.faddr 4 t1)).bind fun t21 =>
 (mload none t21).bind fun t22 =>
 M.getH.bind fun h1 =>
 (G zep [t16,t19,(V.int .i64 4)]).bind fun t20 =>
 M.getH.bind fun h1' =>
 (M.unch t21 h1 h1').bind fun _ =>
 (G zep [t20,t22,(V.int .i64 4)]).bind fun t23 =>
 (M.lift (Ax.faddr 5 t1)).bind fun t24 =>
 (mload none t24).bind fun t25 =>
 (M.lift (vlen t25)).bind fun t26 =>
 M.blk 0 (
 M.iter (zze G t26 t25 V.nils (V.int .i64 0)) [t23,(V.int .i64 0)]) fun L1 =>
 (M.lift (Ax.faddr 6 t1)).bind fun t35 =>
 (mload none t35).bind fun t36 =>
 (M.lift (Ax.bin .neq t36 (V.int .i64 0))).bind fun t37 =>
 M.join (M.ite t37
 ((mload (some 10) t1).bind fun t38 =>
 (G zer [t38]).bind fun t39 =>
 (M.lift (Ax.faddr 6 t1)).bind fun t41 =>
 (mload none t41).bind fun t42 =>
 (M.lift (Ax.cint .u32 t42)).bind fun t43 =>
 (G zep [(L1.getD 0 .undef),t43,(V.int .i64 2)]).bind fun t44 =>
 (M.lift (vlen t39)).bind fun t46 =>
 (M.lift (Ax.bin .quo t46 (V.int .i64 4))).bind fun t47 =>
 (M.lift (Ax.cint .u32 t47)).bind fun t48 =>
 (G zep [t44,t48,(V.int .i64 2)]).bind fun t49 =>
 (mappend zaj 1 1 t49 t39).bind fun t52 =>
 M.pure (.nrm [t52]))
 (M.pure (.nrm [(L1.getD 0 .undef)]))) fun L2 =>
 (M.lift (vlen (L2.getD 0 .undef))).bind fun t54 =>
 (M.lift (Ax.faddr 9 t1)).bind fun t55 =>
 (mload none t55).bind fun t56 =>
 (M.lift (vlen t56)).bind fun t57 =>
 (M.lift (Ax.bin .add t54 t57)).bind fun t58 =>
 (M.lift (Ax.faddr 8 t1)).bind fun t59 =>
 (mload none t59).bind fun t60 =>
 (M.lift (Ax.bin .add t58 t60)).bind fun t61 =>
 (M.lift (Ax.bin .gtr t61 (V.int .i64 1200))).bind fun t62 =>
 M.ite t62
 (M.pure (.ret [V.nils,(V.int .i64 4)]))
 ((M.lift (Ax.faddr 9 t1)).bind fun t64 =>
 (mload none t64).bind fun t65 =>
 (mappend zaj 1 1 (L2.getD 0 .undef) t65).bind fun t66 =>
 (M.lift (Ax.faddr 8 t1)).bind fun t67 =>
 (mload none t67).bind fun t68 =>
 (M.lift (Ax.bin .gtr t68 (V.int .i64 0))).bind fun t69 =>
 M.join (M.ite t69
 ((M.lift (Ax.faddr 8 t1)).bind fun t71 =>
 (mload none t71).bind fun t72 =>
 (mappendz zaj 1 [(V.int .u8 0)] t66 t72).bind fun t73 =>
 (M.lift (vlen t73)).bind fun t76 =>
 (M.lift (Ax.bin .sub t76 (V.int .i64 1))).bind fun t77 =>
 (M.lift (Ax.faddr 8 t1)).bind fun t78 =>
 (mload none t78).bind fun t79 =>
 (M.lift (Ax.cint .u8 t79)).bind fun t80 =>
 (M.lift (Ax.iaddr none 1 t73 t77)).bind fun t81 =>
 (mstore 1 t81 t80).bind fun _ =>
 M.pure (.nrm [t73]))
 (M.pure (.nrm [t66]))) fun L3 =>
 M.pure (.ret [(L3.getD 0 .undef),(V.int .i64 0)])))
def znS:Fn':=(T zfI).getD noF
theorem zzW:T zfI = some znS:=by kernel_rfl
theorem zBf (G:Sem') (t0:V):execK G znS.rv znS.body [] [] (params 0 [t0]) = zv0 G t0:=by kernel_rfl
def zqx (G:Sem'):List V → M V
 | [t0]=>fin (zv0 G t0)
 | _=>M.fail
theorem zB1 {g:Sem'} (hg:Sims g (sem T)) (args:List V):Sim (zqx g args) (sem T zfI args):=by
 unfold zqx;split
 ·exact zaf zzW (Nat.le_of_ble_eq_true (by kernel_rfl)) hg (zBf g _)
 ·exact zaa
def zrW (G:Sem') (t0 t1:V):M Res :=
 (mbox zb7 t0).bind fun t2 =>
 (mbox zan t1).bind fun t3 =>
 (mload (some 19) t2).bind fun t9 =>
 (mload (some 6) t3).bind fun t10 =>
 (G zha [t9,t10]).bind fun t11 =>
 (M.lift (Ax.ext 0 t11)).bind fun t12 =>
 (M.lift (Ax.ext 1 t11)).bind fun t13 =>
 (mbox zaw (V.agg [(V.int .i64 0),(V.int .i64 0),V.nils,V.nils,V.nils])).bind fun t5 =>
 (mstore 5 t5 t12).bind fun _ =>
 (mload (some 19) t2).bind fun t14 =>
 (mload (some 6) t3).bind fun t15 =>
 (G zc2 [t14,t15]).bind fun t16 =>
 (mbox zan (V.agg [(V.int .i64 0),(V.int .i64 0),V.nils,(V.int .i64 0),V.nils,V.nils])).bind fun t7 =>
 (mstore 6 t7 t16).bind fun _ =>
 M.blk 0 (
 (M.lift (Ax.un .not t13)).bind fun t19 =>
 (guarded [(0,t19)] (some (0,false)) (M.lift (Ax.faddr 4 t2))).bind fun t21 =>
 (guarded [(0,t19)] (some (0,false)) (mload none t21)).bind fun t22 =>
 (guarded [(0,t19)] (some (0,false)) (M.lift (Ax.un .not t22))).bind fun t23 =>
 (guarded [(0,t19)] (some (0,false)) (M.pure t23)).bind fun t24 =>
 (guarded [(0,t24)] (some (0,true)) (M.lift (Ax.faddr 5 t2))).bind fun t25 =>
 (guarded [(0,t24)] (some (0,true)) (mload (some 6) t25)).bind fun t26 =>
 (guarded [(0,t24)] (some (0,true)) (G zfd [t26])).bind fun t27 =>
 (guarded [(0,t24)] (some (0,true)) (M.lift (Ax.un .not t27))).bind fun t28 =>
 (guarded [(0,t19)] (some (0,false)) (M.lift (Ax.pick t24 t28 (V.bool false)))).bind fun t29 =>
 (M.lift (Ax.pick t19 (V.bool true) t29)).bind fun t30 =>
 M.ite t30
 (M.pure (.ret [(V.bool false)]))
 ((M.lift (Ax.faddr 11 t2)).bind fun t32 =>
 (mload none t32).bind fun t33 =>
 (M.lift (Ax.un .not t33)).bind fun t34 =>
 (guarded [(0,t34)] (some (0,true)) (M.lift (Ax.faddr 12 t2))).bind fun t36 =>
 (guarded [(0,t34)] (some (0,true)) (mload none t36)).bind fun t37 =>
 (guarded [(0,t34)] (some (0,true)) (M.lift (Ax.bin .neq t37 (V.int .u32 0)))).bind fun t38 =>
 (M.lift (Ax.pick t34 t38 (V.bool false))).bind fun t39 =>
 (guarded [(0,t39)] (some (0,false)) (M.lift (Ax.faddr 12 t2))).bind fun t41 =>
 (guarded [(0,t39)] (some (0,false)) (mload none t41)).bind fun t42 =>
 (guarded [(0,t39)] (some (0,false)) (M.lift (Ax.cint .u64 t42))).bind fun t43 =>
 (guarded [(0,t39)] (some (0,false)) (M.lift (Ax.faddr 1 t7))).bind fun t44 =>
 (guarded [(0,t39)] (some (0,false)) (mload none t44)).bind fun t45 =>
 (guarded [(0,t39)] (some (0,false)) (M.lift (Ax.bin .shr t43 t45))).bind fun t46 =>
 (guarded [(0,t39)] (some (0,false)) (M.lift (Ax.bin .neq t46 (V.int .u64 0)))).bind fun t47 =>
 (M.lift (Ax.pick t39 (V.bool true) t47)).bind fun t48 =>
 M.ite t48
 (M.pure (.ret [(V.bool false)]))
 ((M.lift (Ax.faddr 13 t2)).bind fun t50 =>
 (mload none t50).bind fun t51 =>
 (guarded [(0,t51)] (some (0,true)) (M.lift (Ax.faddr 16 t2))).bind fun t53 =>
 (guarded [(0,t51)] (some (0,true)) (mload none t53)).bind fun t54 =>
 (guarded [(0,t51)] (some (0,true)) (M.lift (Ax.faddr 1 t7))).bind fun t55 =>
 (guarded [(0,t51)] (some (0,true)) (mload none t55)).bind fun t56 =>
 (guarded [(0,t51)] (some (0,true)) (G zbt [t54,t56,(V.int .i64 0),(V.int .i64 3)])).bind fun t57 =>
 (guarded [(0,t51)] (some (0,true)) (M.lift (Ax.un .not t57))).bind fun t58 =>
 (M.lift (Ax.pick t51 t58 (V.bool false))).bind fun t59 =>
 (guarded [(0,t59)] (some (0,false)) (M.lift (Ax.faddr 13 t2))).bind fun t61 =>
 (guarded [(0,t59)] (some (0,false)) (mload none t61)).bind fun t62 =>
 (guarded [(0,t59)] (some (0,false)) (M.lift (Ax.un .not t62))).bind fun t63 =>
 (guarded [(0,t59)] (some (0,false)) (M.pure t63)).bind fun t64 =>
 (guarded [(0,t64)] (some (0,true)) (M.lift (Ax.faddr 16 t2))).bind fun t65 =>
 (guarded [(0,t64)] (some (0,true)) (mload none t65)).bind fun t66 =>
 (guarded [(0,t64)] (some (0,true)) (M.lift (Ax.faddr 2 t5))).bind fun t67 =>
 (guarded [(0,t64)] (some (0,true)) (mload none t67)).bind fun t68 =>
 (guarded [(0,t64)] (some (0,true)) (G zbl [t66,t68])).bind fun t69 =>
 (guarded [(0,t64)] (some (0,true)) (M.lift (Ax.un .not t69))).bind fun t70 =>
 (guarded [(0,t59)] (some (0,false)) (M.lift (Ax.pick t64 t70 (V.bool false)))).bind fun t71 =>
 (M.lift (Ax.pick t59 (V.bool true) t71)).bind fun t72 =>
 M.ite t72
 (M.pure (.ret [(V.bool false)]))
 ((M.lift (Ax.faddr 14 t2)).bind fun t74 =>
 (mload none t74).bind fun t75 =>
 (guarded [(0,t75)] (some (0,true)) (M.lift (Ax.faddr 17 t2))).bind fun t77 =>
 (guarded [(0,t75)] (some (0,true)) (mload none t77)).bind fun t78 =>
 (guarded [(0,t75)] (some (0,true)) (G zdJ [t78,(V.int .i64 16),(V.int .i64 4096)])).bind fun t79 =>
 (guarded [(0,t75)] (some (0,true)) (M.lift (Ax.un .not t79))).bind fun t80 =>
 (M.lift (Ax.pick t75 t80 (V.bool false))).bind fun t81 =>
 (guarded [(0,t81)] (some (0,false)) (M.lift (Ax.faddr 14 t2))).bind fun t83 =>
 (guarded [(0,t81)] (some (0,false)) (mload none t83)).bind fun t84 =>
 (guarded [(0,t81)] (some (0,false)) (M.lift (Ax.un .not t84))).bind fun t85 =>
 (guarded [(0,t81)] (some (0,false)) (M.pure t85)).bind fun t86 =>
 (guarded [(0,t86)] (some (0,true)) (M.lift (Ax.faddr 17 t2))).bind fun t87 =>
 (guarded [(0,t86)] (some (0,true)) (mload none t87)).bind fun t88 =>
 (guarded [(0,t86)] (some (0,true)) (M.lift (Ax.faddr 3 t5))).bind fun t89 =>
 (guarded [(0,t86)] (some (0,true)) (mload none t89)).bind fun t90 =>
 (guarded [(0,t86)] (some (0,true)) (G zbl [t88,t90])).bind fun t91 =>
 (guarded [(0,t86)] (some (0,true)) (M.lift (Ax.un .not t91))).bind fun t92 =>
 (guarded [(0,t81)] (some (0,false)) (M.lift (Ax.pick t86 t92 (V.bool false)))).bind fun t93 =>
 (M.lift (Ax.pick t81 (V.bool true) t93)).bind fun t94 =>
 M.ite t94
 (M.pure (.ret [(V.bool false)]))
 (M.pure (.nrm [])))))) fun _ =>
 (M.lift (Ax.faddr 15 t2)).bind fun t95 =>
 (mload none t95).bind fun t96 =>
 M.ite t96
 ((M.lift (Ax.faddr 18 t2)).bind fun t97 =>
 (mload none t97).bind fun t98 =>
 (M.lift (Ax.faddr 3 t7)).bind fun t99 =>
 (mload none t99).bind fun t100 =>
 (G zbt [t98,t100,(V.int .i64 0),(V.int .i64 255)]).bind fun t101 =>
 M.pure (.ret [t101]))
 ((M.lift (Ax.faddr 18 t2)).bind fun t102 =>
 (mload none t102).bind fun t103 =>
 (M.lift (Ax.faddr 4 t5)).bind fun t104 =>
 (mload none t104).bind fun t105 =>
 (G zbl [t103,t105]).bind fun t106 =>
 M.pure (.ret [t106]))
def zll:Fn':=(T zff).getD noF
theorem zw7:T zff = some zll:=by kernel_rfl
theorem zxJ (G:Sem') (t0 t1:V):execK G zll.rv zll.body [] [] (params 0 [t0,t1]) = zrW G t0 t1:=by kernel_rfl
def zmW (G:Sem'):List V → M V
 | [t0,t1]=>fin (zrW G t0 t1)
 | _=>M.fail
theorem zyS {g:Sem'} (hg:Sims g (sem T)) (args:List V):Sim (zmW g args) (sem T zff args):=by
 unfold zmW;split
 ·exact zaf zw7 (Nat.le_of_ble_eq_true (by kernel_rfl)) hg (zxJ g _ _)
 ·exact zaa
def zkQ (G:Sem') (t0 t1 t2 t3 t4:V):M Res :=
 (mbox zbC t2).bind fun t7 =>
 (mbox zb7 t3).bind fun t8 =>
 (M.lift (Ax.faddr 4 t8)).bind fun t15 =>
 (mload none t15).bind fun t16 =>
 (guarded [(0,t16)] (some (0,true)) (M.lift (Ax.faddr 0 t8))).bind fun t18 =>
 (guarded [(0,t16)] (some (0,true)) (mload none t18)).bind fun t19 =>
 (M.lift (Ax.pick t16 t19 (V.bool false))).bind fun t20 =>
 (M.lift (Ax.nilck t0)).bind fun t23 =>
 (M.lift (Ax.faddr 3 t23)).bind fun t24 =>
 (mload (some 3) t24).bind fun t25 =>
 (G zjT [t25,t1,t20]).bind fun t28 =>
 (M.lift (Ax.ext 0 t28)).bind fun t29 =>
 (M.lift (Ax.ext 1 t28)).bind fun t30 =>
 (M.lift (Ax.ext 2 t28)).bind fun t31 =>
 (mbox zd5 (V.agg [(V.bool false),(V.int .i64 0),(V.int .i64 0)])).bind fun t12 =>
 (mstore 3 t12 t29).bind fun _ =>
 (mload (some 3) t12).bind fun t33 =>
 (M.lift (Ax.nilck t0)).bind fun t34 =>
 (M.lift (Ax.faddr 3 t34)).bind fun t35 =>
 (mstore 3 t35 t33).bind fun _ =>
 (guarded [(0,t30)] (some (0,true)) (M.pure t20)).bind fun t38 =>
 (M.lift (Ax.pick t30 t38 (V.bool false))).bind fun t39 =>
 M.join (M.ite t39
 ((G zc5 [t0]).bind fun t41 =>
 M.pure (.nrm []))
 (M.pure (.nrm []))) fun _ =>
 M.join (M.ite t31
 ((M.lift (Ax.nilck t0)).bind fun t45 =>
 (M.lift (Ax.faddr 6 t45)).bind fun t46 =>
 (mload (some 7) t46).bind fun t47 =>
 (M.lift (Ax.faddr 3 t7)).bind fun t48 =>
 (mload none t48).bind fun t49 =>
 (M.lift (Ax.faddr 3 t8)).bind fun t50 =>
 (mload none t50).bind fun t51 =>
 (G zfS [t47,t49,t51,t4]).bind fun t53 =>
 (M.lift (Ax.nilck t0)).bind fun t54 =>
 (M.lift (Ax.faddr 6 t54)).bind fun t55 =>
 (mstore 7 t55 t53).bind fun _ =>
 M.pure (.nrm []))
 (M.pure (.nrm []))) fun _ =>
 M.pure (.ret [t30])
def zgC:Fn':=(T zcM).getD noF
theorem zpO:T zcM = some zgC:=by kernel_rfl
theorem zqn (G:Sem') (t0 t1 t2 t3 t4:V):execK G zgC.rv zgC.body [] [] (params 0 [t0,t1,t2,t3,t4]) = zkQ G t0 t1 t2 t3 t4:=by kernel_rfl
def zhA (G:Sem'):List V → M V
 | [t0,t1,t2,t3,t4]=>fin (zkQ G t0 t1 t2 t3 t4)
 | _=>M.fail
theorem zrb {g:Sem'} (hg:Sims g (sem T)) (args:List V):Sim (zhA g args) (sem T zcM args):=by
 unfold zhA;split
 ·exact zaf zpO (Nat.le_of_ble_eq_true (by kernel_rfl)) hg (zqn g _ _ _ _ _)
 ·exact zaa
def zok (G:Sem') (t0 t1 t2 t3:V):M Res :=
 (mbox zb7 t1).bind fun t5 =>
 (mbox zan t2).bind fun t6 =>
 (M.lift (Ax.nilck t0)).bind fun t12 =>
 (M.lift (Ax.faddr 15 t12)).bind fun t13 =>
 (mload none t13).bind fun t14 =>
 M.ite t14
 (M.pure (.ret [(V.int .i64 2)]))
 ((mload (some 6) t6).bind fun t16 =>
 (M.lift (Ax.nilck t0)).bind fun t19 =>
 (M.lift (Ax.faddr 1 t19)).bind fun t20 =>
 (mload none t20).bind fun t21 =>
 (M.lift (Ax.nilck t0)).bind fun t23 =>
 (M.lift (Ax.faddr 2 t23)).bind fun t24 =>
 (mload none t24).bind fun t25 =>
 (G zg8 [t16,t3,t21,t25]).bind fun t26 =>
 (M.lift (Ax.ext 0 t26)).bind fun t27 =>
 (M.lift (Ax.ext 1 t26)).bind fun t28 =>
 M.blk 0 (
 (M.lift (Ax.un .not t28)).bind fun t31 =>
 M.ite t31
 (M.pure (.ret [(V.int .i64 3)]))
 ((mload (some 19) t5).bind fun t33 =>
 (G zjS [t33,t27]).bind fun t35 =>
 (M.lift (Ax.un .not t35)).bind fun t36 =>
 M.ite t36
 (M.pure (.ret [(V.int .i64 4)]))
 ((M.lift (Ax.faddr 0 t5)).bind fun t38 =>
 (mload none t38).bind fun t39 =>
 (guarded [(0,t39)] (some (0,true)) (M.pure t0)).bind fun t41 =>
 (guarded [(0,t39)] (some (0,true)) (M.lift (Ax.nilck t41))).bind fun t42 =>
 (guarded [(0,t39)] (some (0,true)) (M.lift (Ax.faddr 13 t42))).bind fun t43 =>
 (guarded [(0,t39)] (some (0,true)) (mload none t43)).bind fun t44 =>
 (guarded [(0,t39)] (some (0,true)) (M.lift (Ax.faddr 3 t5))).bind fun t45 =>
 (guarded [(0,t39)] (some (0,true)) (mload none t45)).bind fun t46 =>
 (guarded [(0,t39)] (some (0,true)) (M.lift (Ax.faddr 17 t5))).bind fun t47 =>
 (guarded [(0,t39)] (some (0,true)) (mload none t47)).bind fun t48 =>
 (guarded [(0,t39)] (some (0,true)) (G zil [t44,t46,t48])).bind fun t49 =>
 (guarded [(0,t39)] (some (0,true)) (M.lift (Ax.un .not t49))).bind fun t50 =>
 (M.lift (Ax.pick t39 t50 (V.bool false))).bind fun t51 =>
 M.ite t51
 ((M.lift (Ax.nilck t0)).bind fun t53 =>
 (M.lift (Ax.faddr 15 t53)).bind fun t54 =>
 (mstore 1 t54 (V.bool true)).bind fun _ =>
 M.pure (.ret [(V.int .i64 5)]))
 ((M.lift (Ax.faddr 0 t5)).bind fun t56 =>
 (mload none t56).bind fun t57 =>
 (M.lift (Ax.un .not t57)).bind fun t58 =>
 (guarded [(0,t58)] (some (0,true)) (M.pure t0)).bind fun t60 =>
 (guarded [(0,t58)] (some (0,true)) (M.lift (Ax.nilck t60))).bind fun t61 =>
 (guarded [(0,t58)] (some (0,true)) (M.lift (Ax.faddr 13 t61))).bind fun t62 =>
 (guarded [(0,t58)] (some (0,true)) (mload none t62)).bind fun t63 =>
 (guarded [(0,t58)] (some (0,true)) (M.lift (Ax.faddr 3 t5))).bind fun t64 =>
 (guarded [(0,t58)] (some (0,true)) (mload none t64)).bind fun t65 =>
 (guarded [(0,t58)] (some (0,true)) (G zfK [t63,t65])).bind fun t66 =>
 (guarded [(0,t58)] (some (0,true)) (M.lift (Ax.un .not t66))).bind fun t67 =>
 (M.lift (Ax.pick t58 t67 (V.bool false))).bind fun t68 =>
 M.ite t68
 (M.pure (.ret [(V.int .i64 6)]))
 (M.pure (.nrm [])))))) fun _ =>
 M.pure (.ret [(V.int .i64 0)]))
def zi5:Fn':=(T zdW).getD noF
theorem zud:T zdW = some zi5:=by kernel_rfl
theorem zuS (G:Sem') (t0 t1 t2 t3:V):execK G zi5.rv zi5.body [] [] (params 0 [t0,t1,t2,t3]) = zok G t0 t1 t2 t3:=by kernel_rfl
def zkp (G:Sem'):List V → M V
 | [t0,t1,t2,t3]=>fin (zok G t0 t1 t2 t3)
 | _=>M.fail
theorem zvs {g:Sem'} (hg:Sims g (sem T)) (args:List V):Sim (zkp g args) (sem T zdW args):=by
 unfold zkp;split
 ·exact zaf zud (Nat.le_of_ble_eq_true (by kernel_rfl)) hg (zuS g _ _ _ _)
 ·exact zaa
def zxZ (G:Sem') (t0 t1 t2 t3:V):M Res :=
 (mbox ziM t0).bind fun t4 =>
 (mbox ziM (V.agg [(V.bool false),(V.int .u16 0),(V.int .u32 0),(V.int .u32 0),(V.int .u16 0),(V.int .u16 0),(V.int .i64 0)])).bind fun t8 =>
 (M.lift (Ax.faddr 0 t4)).bind fun t14 =>
 (mload none t14).bind fun t15 =>
 M.join (M.ite t15
 ((M.lift (Ax.faddr 1 t4)).bind fun t16 =>
 (mload none t16).bind fun t17 =>
 (M.lift (Ax.bin .add t17 (V.int .u16 1))).bind fun t18 =>
 M.pure (.nrm [t18]))
 (M.pure (.nrm [(V.int .u16 0)]))) fun L0 =>
 (M.lift (Ax.faddr 3 t4)).bind fun t20 =>
 (mload none t20).bind fun t21 =>
 (M.lift (Ax.bin .add t1 t21)).bind fun t22 =>
 (M.lift (Ax.faddr 5 t4)).bind fun t24 =>
 (mload none t24).bind fun t25 =>
 (M.lift (Ax.bin .add t2 t25)).bind fun t26 =>
 (M.lift (Ax.faddr 2 t4)).bind fun t28 =>
 (mload none t28).bind fun t29 =>
 (M.lift (Ax.bin .sub t22 t29)).bind fun t30 =>
 (M.lift (Ax.faddr 0 t4)).bind fun t31 =>
 (mload none t31).bind fun t32 =>
 (M.lift (Ax.un .not t32)).bind fun t33 =>
 (guarded [(0,t33)] (some (0,false)) (M.pure t30)).bind fun t35 =>
 (guarded [(0,t33)] (some (0,false)) (M.lift (Ax.bin .geq t35 (V.int .u32 1)))).bind fun t36 =>
 (guarded [(0,t33)] (some (0,false)) (M.pure t36)).bind fun t37 =>
 (guarded [(0,t37)] (some (0,true)) (M.pure t30)).bind fun t38 =>
 (guarded [(0,t37)] (some (0,true)) (M.lift (Ax.bin .lss t38 (V.int .u32 2147483648)))).bind fun t39 =>
 (guarded [(0,t33)] (some (0,false)) (M.lift (Ax.pick t37 t39 (V.bool false)))).bind fun t40 =>
 (M.lift (Ax.pick t33 (V.bool true) t40)).bind fun t41 =>
 M.join (M.ite t41
 ((M.lift (Ax.faddr 2 t4)).bind fun t43 =>
 (mstore 1 t43 t22).bind fun _ =>
 M.pure (.nrm []))
 (M.pure (.nrm []))) fun _ =>
 (M.lift (Ax.faddr 4 t4)).bind fun t45 =>
 (mload none t45).bind fun t46 =>
 (M.lift (Ax.bin .sub t26 t46)).bind fun t47 =>
 (M.lift (Ax.faddr 0 t4)).bind fun t48 =>
 (mload none t48).bind fun t49 =>
 (M.lift (Ax.un .not t49)).bind fun t50 =>
 (guarded [(0,t50)] (some (0,false)) (M.pure t47)).bind fun t52 =>
 (guarded [(0,t50)] (some (0,false)) (M.lift (Ax.bin .geq t52 (V.int .u16 1)))).bind fun t53 =>
 (guarded [(0,t50)] (some (0,false)) (M.pure t53)).bind fun t54 =>
 (guarded [(0,t54)] (some (0,true)) (M.pure t47)).bind fun t55 =>
 (guarded [(0,t54)] (some (0,true)) (M.lift (Ax.bin .lss t55 (V.int .u16 32768)))).bind fun t56 =>
 (guarded [(0,t50)] (some (0,false)) (M.lift (Ax.pick t54 t56 (V.bool false)))).bind fun t57 =>
 (M.lift (Ax.pick t50 (V.bool true) t57)).bind fun t58 =>
 M.join (M.ite t58
 ((M.lift (Ax.faddr 4 t4)).bind fun t60 =>
 (mstore 1 t60 t26).bind fun _ =>
 M.pure (.nrm []))
 (M.pure (.nrm []))) fun _ =>
 (M.lift (Ax.faddr 0 t4)).bind fun t63 =>
 (mstore 1 t63 (V.bool true)).bind fun _ =>
 (M.lift (Ax.faddr 1 t4)).bind fun t64 =>
 (mstore 1 t64 (L0.getD 0 .undef)).bind fun _ =>
 (M.lift (Ax.faddr 6 t4)).bind fun t65 =>
 (mstore 1 t65 t3).bind fun _ =>
 (mload (some 7) t4).bind fun t66 =>
 (mstore 7 t8 t66).bind fun _ =>
 (mload (some 7) t8).bind fun r0 =>
 M.pure (.ret [r0,(L0.getD 0 .undef),t22,t26])
def zp3:Fn':=(T zif).getD noF
theorem zBI:T zif = some zp3:=by kernel_rfl
theorem zCD (G:Sem') (t0 t1 t2 t3:V):execK G zp3.rv zp3.body [] [] (params 0 [t0,t1,t2,t3]) = zxZ G t0 t1 t2 t3:=by kernel_rfl
def ztt (G:Sem'):List V → M V
 | [t0,t1,t2,t3]=>fin (zxZ G t0 t1 t2 t3)
 | _=>M.fail
theorem zDR {g:Sem'} (hg:Sims g (sem T)) (args:List V):Sim (ztt g args) (sem T zif args):=by
 unfold ztt;split
 ·exact zaf zBI (Nat.le_of_ble_eq_true (by kernel_rfl)) hg (zCD g _ _ _ _)
 ·exact zaa
def zA5 (G:Sem') (t0 t1 t2:V):M Res :=
 (mbox zbC t0).bind fun t3 =>
 (mbox zbC (V.agg [(V.bool false),(V.int .i64 0),(V.int .u16 0),(V.int .u32 0),(V.int .u32 0),V.nils,(V.int .i64 0),V.nils,(V.int .i64 0),V.nils])).bind fun t6 =>
 (mload (some 10) t3).bind fun t9 =>
 (G zfV [t9]).bind fun t10 =>
 (mstore 10 t3 t10).bind fun _ =>
 (mload (some 10) t3).bind fun t11 =>
 (G zj7 [t11,t1]).bind fun t13 =>
 (M.lift (Ax.bin .lss t13 (V.int .i64 0))).bind fun t15 =>
 M.ite t15
 ((mload (some 10) t3).bind fun t16 =>
 (mstore 10 t6 t16).bind fun _ =>
 (mload (some 10) t6).bind fun r0 =>
 M.pure (.ret [r0,(V.bool false)]))
 ((M.lift (Ax.faddr 7 t3)).bind fun t17 =>
 (mload none t17).bind fun t18 =>
 M.getH.bind fun h0 =>
 (G zaI [t2]).bind fun t21 =>
 M.getH.bind fun h0' =>
 (M.unch t17 h0 h0').bind fun _ =>
 (M.lift (Ax.iaddr none 2 t18 t13)).bind fun t22 =>
 (M.lift (Ax.faddr 1 t22)).bind fun t23 =>
 (mstore 1 t23 t21).bind fun _ =>
 (mload (some 10) t3).bind fun t24 =>
 (mstore 10 t6 t24).bind fun _ =>
 (mload (some 10) t6).bind fun r0 =>
 M.pure (.ret [r0,(V.bool true)]))
def zs2:Fn':=(T zjR).getD noF
theorem zDE:T zjR = some zs2:=by kernel_rfl
theorem zEu (G:Sem') (t0 t1 t2:V):execK G zs2.rv zs2.body [] [] (params 0 [t0,t1,t2]) = zA5 G t0 t1 t2:=by kernel_rfl
def zwB (G:Sem'):List V → M V
 | [t0,t1,t2]=>fin (zA5 G t0 t1 t2)
 | _=>M.fail
theorem zFl {g:Sem'} (hg:Sims g (sem T)) (args:List V):Sim (zwB g args) (sem T zjR args):=by
 unfold zwB;split
 ·exact zaf zDE (Nat.le_of_ble_eq_true (by kernel_rfl)) hg (zEu g _ _ _)
 ·exact zaa
end Go.Ax.Cc
/- CiS7 -/
namespace Go.Ax.Cc
open Go.Proofs
def zow (G:Sem') (t0 t1:V):M Res :=
 (G zaI [t0]).bind fun t7 =>
 (M.lift (vlen t7)).bind fun t9 =>
 (M.lift (Ax.bin .geq t9 (V.int .i64 3))).bind fun t10 =>
 M.join (M.ite t10
 ((M.lift (Ax.bin .shr t1 (V.int .u64 8))).bind fun t14 =>
 (M.lift (Ax.cint .u8 t14)).bind fun t15 =>
 (M.lift (Ax.cint .u8 t1)).bind fun t17 =>
 (M.lift (Ax.iaddr none 1 t7 (V.int .i64 1))).bind fun t18 =>
 (mstore 1 t18 t15).bind fun _ =>
 (M.lift (Ax.iaddr none 1 t7 (V.int .i64 2))).bind fun t19 =>
 (mstore 1 t19 t17).bind fun _ =>
 M.pure (.nrm []))
 (M.pure (.nrm []))) fun _ =>
 M.pure (.ret [t7])
def zjd:Fn':=(T zd1).getD noF
theorem zul:T zd1 = some zjd:=by kernel_rfl
theorem zu0 (G:Sem') (t0 t1:V):execK G zjd.rv zjd.body [] [] (params 0 [t0,t1]) = zow G t0 t1:=by kernel_rfl
def zky (G:Sem'):List V → M V
 | [t0,t1]=>fin (zow G t0 t1)
 | _=>M.fail
theorem zvB {g:Sem'} (hg:Sims g (sem T)) (args:List V):Sim (zky g args) (sem T zd1 args):=by
 unfold zky;split
 ·exact zaf zul (Nat.le_of_ble_eq_true (by kernel_rfl)) hg (zu0 g _ _)
 ·exact zaa
def zoj (G:Sem') (t0 t1 t2:V):M Res :=
 (G zdG [t0,t1]).bind fun t9 =>
 (M.lift (Ax.bin .geq t9 (V.int .i64 0))).bind fun t11 =>
 M.join (M.ite t11
 ((M.lift (Ax.nilck t0)).bind fun t14 =>
 (M.lift (Ax.faddr 0 t14)).bind fun t15 =>
 (mload none t15).bind fun t16 =>
 (M.lift (Ax.bin .add t9 (V.int .i64 1))).bind fun t19 =>
 (G zaz [t16,t9,t19]).bind fun t20 =>
 (M.lift (Ax.nilck t0)).bind fun t21 =>
 (M.lift (Ax.faddr 0 t21)).bind fun t22 =>
 (mstore 1 t22 t20).bind fun _ =>
 M.pure (.nrm []))
 (M.pure (.nrm []))) fun _ =>
 (M.lift (Ax.nilck t0)).bind fun t25 =>
 (M.lift (Ax.faddr 0 t25)).bind fun t26 =>
 (mload none t26).bind fun t27 =>
 M.getH.bind fun h0 =>
 (G zaI [t2]).bind fun t30 =>
 M.getH.bind fun h0' =>
 (M.unch t26 h0 h0').bind fun _ =>
 (M.lift (Ax.build [(V.int .u16 0),V.nils] [(0,1,t1),(1,1,t30)])).bind fun t31 =>
 (mslit zjL 1 [(V.int .u16 0),V.nils] [(0,2,t31)]).bind fun t32 =>
 (mappend zjL 2 32 t27 t32).bind fun t33 =>
 (M.lift (Ax.nilck t0)).bind fun t34 =>
 (M.lift (Ax.faddr 0 t34)).bind fun t35 =>
 (mstore 1 t35 t33).bind fun _ =>
 (M.lift (Ax.nilck t0)).bind fun t37 =>
 (M.lift (Ax.faddr 0 t37)).bind fun t38 =>
 (mload none t38).bind fun t39 =>
 (M.lift (vlen t39)).bind fun t40 =>
 (M.lift (Ax.bin .gtr t40 (V.int .i64 64))).bind fun t41 =>
 M.join (M.ite t41
 ((M.lift (Ax.nilck t0)).bind fun t44 =>
 (M.lift (Ax.faddr 0 t44)).bind fun t45 =>
 (mload none t45).bind fun t46 =>
 (G zaz [t46,(V.int .i64 0),(V.int .i64 1)]).bind fun t47 =>
 (M.lift (Ax.nilck t0)).bind fun t48 =>
 (M.lift (Ax.faddr 0 t48)).bind fun t49 =>
 (mstore 1 t49 t47).bind fun _ =>
 M.pure (.nrm []))
 (M.pure (.nrm []))) fun _ =>
 M.pure (.ret [])
def zi4:Fn':=(T zdV).getD noF
theorem zuc:T zdV = some zi4:=by kernel_rfl
theorem zuR (G:Sem') (t0 t1 t2:V):execK G zi4.rv zi4.body [] [] (params 0 [t0,t1,t2]) = zoj G t0 t1 t2:=by kernel_rfl
def zko (G:Sem'):List V → M V
 | [t0,t1,t2]=>fin (zoj G t0 t1 t2)
 | _=>M.fail
theorem zvr {g:Sem'} (hg:Sims g (sem T)) (args:List V):Sim (zko g args) (sem T zdV args):=by
 unfold zko;split
 ·exact zaf zuc (Nat.le_of_ble_eq_true (by kernel_rfl)) hg (zuR g _ _ _)
 ·exact zaa
def f_post_Post_desk_Out_Add (G:Sem') (t0 t1:V):M Res :=
 (mbox zbD t1).bind fun t3 =>
 (M.lift (Ax.nilck t0)).bind fun t6 =>
 (M.lift (Ax.faddr 1 t6)).bind fun t7 =>
 (mload none t7).bind fun t8 =>
 (M.lift (vlen t8)).bind fun t9 =>
 (M.lift (Ax.nilck t0)).bind fun t11 =>
 (M.lift (Ax.faddr 0 t11)).bind fun t12 =>
 (mload none t12).bind fun t13 =>
 (M.lift (Ax.bin .geq t9 t13)).bind fun t14 =>
 M.ite t14
 (M.pure (.ret [(V.bool false)]))
 ((M.lift (Ax.nilck t0)).bind fun t17 =>
 (M.lift (Ax.faddr 1 t17)).bind fun t18 =>
 (mload none t18).bind fun t19 =>
 (mload (some 3) t3).bind fun t20 =>
 (mslit zbD 1 [(V.int .i64 0),(V.int .i64 0),V.nils] [(0,3,t20)]).bind fun t21 =>
 (mappend zbD 3 40 t19 t21).bind fun t22 =>
 (M.lift (Ax.nilck t0)).bind fun t23 =>
 (M.lift (Ax.faddr 1 t23)).bind fun t24 =>
 (mstore 1 t24 t22).bind fun _ =>
 M.pure (.ret [(V.bool true)]))
def ir_post_Post_desk_Out_Add:Fn':=(T zaH).getD noF
theorem tb_post_Post_desk_Out_Add:T zaH = some ir_post_Post_desk_Out_Add:=by kernel_rfl
theorem eq_post_Post_desk_Out_Add (G:Sem') (t0 t1:V):execK G ir_post_Post_desk_Out_Add.rv ir_post_Post_desk_Out_Add.body [] [] (params 0 [t0,t1]) = f_post_Post_desk_Out_Add G t0 t1:=by kernel_rfl
def zeA (G:Sem'):List V → M V
 | [t0,t1]=>fin (f_post_Post_desk_Out_Add G t0 t1)
 | _=>M.fail
theorem zlG {g:Sem'} (hg:Sims g (sem T)) (args:List V):Sim (zeA g args) (sem T zaH args):=by
 unfold zeA;split
 ·exact zaf tb_post_Post_desk_Out_Add (Nat.le_of_ble_eq_true (by kernel_rfl)) hg (eq_post_Post_desk_Out_Add g _ _)
 ·exact zaa
def zxv (G:Sem') (t18 t17:V) (L:List V):M Res :=
 (M.lift (Ax.bin .lss (L.getD 1 .undef) t18)).bind fun t20 =>
 M.ite t20
 (M.blk 1 (
 (M.lift (Ax.iaddr none 16 t17 (L.getD 1 .undef))).bind fun t21 =>
 (mload (some 16) t21).bind fun t22 =>
 (mbox za2 (V.agg [(V.int .i64 0),(V.int .u32 0),(V.int .u32 0),(V.int .u64 0),(V.int .u32 0),(V.int .u32 0),(V.int .u32 0),V.nils,V.nils,V.nils,(V.int .i64 0),(V.int .u32 0),V.nils,(V.int .i64 0),(V.int .i64 0),V.nils])).bind fun t6 =>
 (mstore 16 t6 t22).bind fun _ =>
 (mload (some 16) t6).bind fun t24 =>
 (G zgY [t24]).bind fun t25 =>
 (M.lift (Ax.ext 0 t25)).bind fun t26 =>
 (M.lift (Ax.ext 1 t25)).bind fun t27 =>
 (M.lift (Ax.ext 2 t25)).bind fun t28 =>
 (M.lift (vlen (L.getD 0 .undef))).bind fun t30 =>
 (M.lift (Ax.bin .add t30 (V.int .i64 4))).bind fun t31 =>
 (M.lift (vlen t26)).bind fun t33 =>
 (M.lift (Ax.bin .add t31 t33)).bind fun t34 =>
 (M.lift (Ax.bin .gtr t34 (V.int .i64 1200))).bind fun t35 =>
 M.ite t35
 (M.pure (.ret [V.nils,(V.int .i64 4)]))
 ((M.lift (Ax.bin .or (V.int .i64 128) t28)).bind fun t38 =>
 (M.lift (Ax.cint .u8 t38)).bind fun t39 =>
 (M.lift (Ax.cint .u8 t27)).bind fun t41 =>
 (mslit zaj 2 [(V.int .u8 0)] [(0,1,t39),(1,1,t41)]).bind fun t42 =>
 (mappend zaj 1 1 (L.getD 0 .undef) t42).bind fun t43 =>
 (M.lift (vlen t26)).bind fun t46 =>
 (M.lift (Ax.bin .quo t46 (V.int .i64 4))).bind fun t47 =>
 (M.lift (Ax.cint .u64 t47)).bind fun t48 =>
 (G zbL [t43,t48,(V.int .i64 2)]).bind fun t49 =>
 (mappend zaj 1 1 t49 t26).bind fun t51 =>
 M.pure (.nrm [t51]))) fun L0 =>
 (M.lift (Ax.bin .add (L.getD 1 .undef) (V.int .i64 1))).bind fun t52 =>
 M.pure (.nrm [(L0.getD 0 .undef),t52]))
 (M.pure (.ex 0 [(L.getD 0 .undef)]))
def ztZ (G:Sem') (t0:V):M Res :=
 (M.lift (vlen t0)).bind fun t11 =>
 (M.lift (Ax.bin .eql t11 (V.int .i64 0))).bind fun t12 =>
 (guarded [(0,t12)] (some (0,false)) (M.pure t0)).bind fun t14 =>
 (guarded [(0,t12)] (some (0,false)) (G zar [t14,(V.fn zes [])])).bind fun t15 =>
 (M.lift (Ax.pick t12 (V.bool true) t15)).bind fun t16 =>
 M.ite t16
 (M.pure (.ret [V.nils,(V.int .i64 1)]))
 ((M.lift (vlen t0)).bind fun t18 =>
 M.blk 0 (
 M.iter (zxv G t18 t0) [V.nils,(V.int .i64 0)]) fun L1 =>
 M.pure (.ret [(L1.getD 0 .undef),(V.int .i64 0)]))
def zmr:Fn':=(T zfZ).getD noF
theorem zyt:T zfZ = some zmr:=by kernel_rfl
theorem zzz (G:Sem') (t0:V):execK G zmr.rv zmr.body [] [] (params 0 [t0]) = ztZ G t0:=by kernel_rfl
def zoT (G:Sem'):List V → M V
 | [t0]=>fin (ztZ G t0)
 | _=>M.fail
theorem zAw {g:Sem'} (hg:Sims g (sem T)) (args:List V):Sim (zoT g args) (sem T zfZ args):=by
 unfold zoT;split
 ·exact zaf zyt (Nat.le_of_ble_eq_true (by kernel_rfl)) hg (zzz g _)
 ·exact zaa
def f_note_of (G:Sem') (t0:V):M Res :=
 (mbox ze4 (V.agg [(V.int .i64 0),(V.int .i64 0),(V.int .i64 0),(V.int .i64 0),(V.int .i64 0),(V.int .i64 0),(V.int .i64 0)])).bind fun t2 =>
 M.blk 0 (
 (M.lift (Ax.bin .eql t0 (V.int .i64 1))).bind fun t6 =>
 M.ite t6
 ((M.lift (Ax.build [(V.int .i64 0),(V.int .i64 0),(V.int .i64 0),(V.int .i64 0),(V.int .i64 0),(V.int .i64 0),(V.int .i64 0)] [(0,1,(V.int .i64 3))])).bind fun t7 =>
 (mstore 7 t2 t7).bind fun _ =>
 (mload (some 7) t2).bind fun r0 =>
 M.pure (.ret [r0,(V.bool true)]))
 ((M.lift (Ax.bin .eql t0 (V.int .i64 2))).bind fun t9 =>
 M.join (M.ite t9
 (M.pure (.nrm [t9]))
 ((M.lift (Ax.bin .eql t0 (V.int .i64 9))).bind fun t10 =>
 M.join (M.ite t10
 (M.pure (.nrm [t10]))
 ((M.lift (Ax.bin .eql t0 (V.int .i64 23))).bind fun t11 =>
 M.pure (.nrm [t11]))) fun L0 =>
 M.pure (.nrm [(L0.getD 0 .undef)]))) fun L1 =>
 M.ite (L1.getD 0 .undef)
 ((M.lift (Ax.build [(V.int .i64 0),(V.int .i64 0),(V.int .i64 0),(V.int .i64 0),(V.int .i64 0),(V.int .i64 0),(V.int .i64 0)] [])).bind fun t12 =>
 (mstore 7 t2 t12).bind fun _ =>
 (mload (some 7) t2).bind fun r0 =>
 M.pure (.ret [r0,(V.bool true)]))
 ((M.lift (Ax.bin .eql t0 (V.int .i64 3))).bind fun t14 =>
 M.join (M.ite t14
 (M.pure (.nrm [t14]))
 ((M.lift (Ax.bin .eql t0 (V.int .i64 6))).bind fun t15 =>
 M.pure (.nrm [t15]))) fun L2 =>
 M.ite (L2.getD 0 .undef)
 ((M.lift (Ax.build [(V.int .i64 0),(V.int .i64 0),(V.int .i64 0),(V.int .i64 0),(V.int .i64 0),(V.int .i64 0),(V.int .i64 0)] [(1,1,(V.int .i64 7))])).bind fun t16 =>
 (mstore 7 t2 t16).bind fun _ =>
 (mload (some 7) t2).bind fun r0 =>
 M.pure (.ret [r0,(V.bool true)]))
 ((M.lift (Ax.bin .eql t0 (V.int .i64 4))).bind fun t18 =>
 M.ite t18
 ((M.lift (Ax.build [(V.int .i64 0),(V.int .i64 0),(V.int .i64 0),(V.int .i64 0),(V.int .i64 0),(V.int .i64 0),(V.int .i64 0)] [(3,1,(V.int .i64 2)),(4,1,(V.int .i64 65535)),(5,1,(V.int .i64 4)),(6,1,(V.int .i64 4))])).bind fun t19 =>
 (mstore 7 t2 t19).bind fun _ =>
 (mload (some 7) t2).bind fun r0 =>
 M.pure (.ret [r0,(V.bool true)]))
 ((M.lift (Ax.bin .eql t0 (V.int .i64 5))).bind fun t21 =>
 M.ite t21
 ((M.lift (Ax.build [(V.int .i64 0),(V.int .i64 0),(V.int .i64 0),(V.int .i64 0),(V.int .i64 0),(V.int .i64 0),(V.int .i64 0)] [(1,1,(V.int .i64 7)),(3,1,(V.int .i64 3)),(4,1,(V.int .i64 7))])).bind fun t22 =>
 (mstore 7 t2 t22).bind fun _ =>
 (mload (some 7) t2).bind fun r0 =>
 M.pure (.ret [r0,(V.bool true)]))
 ((M.lift (Ax.bin .eql t0 (V.int .i64 7))).bind fun t24 =>
 M.join (M.ite t24
 (M.pure (.nrm [t24]))
 ((M.lift (Ax.bin .eql t0 (V.int .i64 21))).bind fun t25 =>
 M.pure (.nrm [t25]))) fun L3 =>
 M.ite (L3.getD 0 .undef)
 ((M.lift (Ax.build [(V.int .i64 0),(V.int .i64 0),(V.int .i64 0),(V.int .i64 0),(V.int .i64 0),(V.int .i64 0),(V.int .i64 0)] [(1,1,(V.int .i64 7)),(2,1,(V.int .i64 65535)),(3,1,(V.int .i64 31)),(5,1,(V.int .i64 1)),(6,1,(V.int .i64 200))])).bind fun t26 =>
 (mstore 7 t2 t26).bind fun _ =>
 (mload (some 7) t2).bind fun r0 =>
 M.pure (.ret [r0,(V.bool true)]))
 ((M.lift (Ax.bin .eql t0 (V.int .i64 8))).bind fun t28 =>
 M.join (M.ite t28
 (M.pure (.nrm [t28]))
 ((M.lift (Ax.bin .eql t0 (V.int .i64 22))).bind fun t29 =>
 M.pure (.nrm [t29]))) fun L4 =>
 M.ite (L4.getD 0 .undef)
 ((M.lift (Ax.build [(V.int .i64 0),(V.int .i64 0),(V.int .i64 0),(V.int .i64 0),(V.int .i64 0),(V.int .i64 0),(V.int .i64 0)] [(2,1,(V.int .i64 65535))])).bind fun t30 =>
 (mstore 7 t2 t30).bind fun _ =>
 (mload (some 7) t2).bind fun r0 =>
 M.pure (.ret [r0,(V.bool true)]))
 ((M.lift (Ax.bin .eql t0 (V.int .i64 17))).bind fun t32 =>
 M.ite t32
 ((M.lift (Ax.build [(V.int .i64 0),(V.int .i64 0),(V.int .i64 0),(V.int .i64 0),(V.int .i64 0),(V.int .i64 0),(V.int .i64 0)] [(0,1,(V.int .i64 3)),(1,1,(V.int .i64 7)),(2,1,(V.int .i64 65535)),(3,1,(V.int .i64 255)),(4,1,(V.int .i64 65535)),(5,1,(V.int .i64 8)),(6,1,(V.int .i64 8))])).bind fun t33 =>
 (mstore 7 t2 t33).bind fun _ =>
 (mload (some 7) t2).bind fun r0 =>
 M.pure (.ret [r0,(V.bool true)]))
 ((M.lift (Ax.bin .eql t0 (V.int .i64 18))).bind fun t35 =>
 M.ite t35
 ((M.lift (Ax.build [(V.int .i64 0),(V.int .i64 0),(V.int .i64 0),(V.int .i64 0),(V.int .i64 0),(V.int .i64 0),(V.int .i64 0)] [(3,1,(V.int .i64 13)),(4,1,(V.int .i64 9))])).bind fun t36 =>
 (mstore 7 t2 t36).bind fun _ =>
 (mload (some 7) t2).bind fun r0 =>
 M.pure (.ret [r0,(V.bool true)]))
 ((M.lift (Ax.bin .eql t0 (V.int .i64 19))).bind fun t38 =>
 M.ite t38
 ((M.lift (Ax.build [(V.int .i64 0),(V.int .i64 0),(V.int .i64 0),(V.int .i64 0),(V.int .i64 0),(V.int .i64 0),(V.int .i64 0)] [(1,1,(V.int .i64 7)),(2,1,(V.int .i64 65535)),(3,1,(V.int .i64 255)),(4,1,(V.int .i64 63))])).bind fun t39 =>
 (mstore 7 t2 t39).bind fun _ =>
 (mload (some 7) t2).bind fun r0 =>
 M.pure (.ret [r0,(V.bool true)]))
 ((M.lift (Ax.bin .eql t0 (V.int .i64 20))).bind fun t41 =>
 M.ite t41
 ((M.lift (Ax.build [(V.int .i64 0),(V.int .i64 0),(V.int .i64 0),(V.int .i64 0),(V.int .i64 0),(V.int .i64 0),(V.int .i64 0)] [(1,1,(V.int .i64 7)),(2,1,(V.int .i64 65535)),(3,1,(V.int .i64 255))])).bind fun t42 =>
 (mstore 7 t2 t42).bind fun _ =>
 (mload (some 7) t2).bind fun r0 =>
 M.pure (.ret [r0,(V.bool true)]))
 ((M.lift (Ax.bin .eql t0 (V.int .i64 24))).bind fun t44 =>
 M.ite t44
 ((M.lift (Ax.build [(V.int .i64 0),(V.int .i64 0),(V.int .i64 0),(V.int .i64 0),(V.int .i64 0),(V.int .i64 0),(V.int .i64 0)] [(1,1,(V.int .i64 7)),(5,1,(V.int .i64 4)),(6,1,(V.int .i64 4))])).bind fun t45 =>
 (mstore 7 t2 t45).bind fun _ =>
 (mload (some 7) t2).bind fun r0 =>
 M.pure (.ret [r0,(V.bool true)]))
 (M.pure (.nrm [])))))))))))))) fun _ =>
 (M.lift (Ax.build [(V.int .i64 0),(V.int .i64 0),(V.int .i64 0),(V.int .i64 0),(V.int .i64 0),(V.int .i64 0),(V.int .i64 0)] [])).bind fun t46 =>
 (mstore 7 t2 t46).bind fun _ =>
 (mload (some 7) t2).bind fun r0 =>
 M.pure (.ret [r0,(V.bool false)])
def ir_note_of:Fn':=(T zet).getD noF
theorem tb_note_of:T zet = some ir_note_of:=by kernel_rfl
theorem eq_note_of (G:Sem') (t0:V):execK G ir_note_of.rv ir_note_of.body [] [] (params 0 [t0]) = f_note_of G t0:=by kernel_rfl
def zwE (G:Sem'):List V → M V
 | [t0]=>fin (f_note_of G t0)
 | _=>M.fail
theorem zFo {g:Sem'} (hg:Sims g (sem T)) (args:List V):Sim (zwE g args) (sem T zet args):=by
 unfold zwE;split
 ·exact zaf tb_note_of (Nat.le_of_ble_eq_true (by kernel_rfl)) hg (eq_note_of g _)
 ·exact zaa
def f_note_within (G:Sem') (t0 t1:V):M Res :=
 (M.lift (Ax.bin .geq t0 (V.int .i64 0))).bind fun t6 =>
 (guarded [(0,t6)] (some (0,true)) (M.pure t0)).bind fun t8 =>
 (guarded [(0,t6)] (some (0,true)) (M.pure t1)).bind fun t9 =>
 (guarded [(0,t6)] (some (0,true)) (M.lift (Ax.bin .leq t8 t9))).bind fun t10 =>
 (M.lift (Ax.pick t6 t10 (V.bool false))).bind fun t11 =>
 M.pure (.ret [t11])
def ir_note_within:Fn':=(T zaW).getD noF
theorem tb_note_within:T zaW = some ir_note_within:=by kernel_rfl
theorem eq_note_within (G:Sem') (t0 t1:V):execK G ir_note_within.rv ir_note_within.body [] [] (params 0 [t0,t1]) = f_note_within G t0 t1:=by kernel_rfl
def zmR (G:Sem'):List V → M V
 | [t0,t1]=>fin (f_note_within G t0 t1)
 | _=>M.fail
theorem zyN {g:Sem'} (hg:Sims g (sem T)) (args:List V):Sim (zmR g args) (sem T zaW args):=by
 unfold zmR;split
 ·exact zaf tb_note_within (Nat.le_of_ble_eq_true (by kernel_rfl)) hg (eq_note_within g _ _)
 ·exact zaa
def zuN (G:Sem') (t8 t7 t1:V) (L:List V):M Res :=
 (M.lift (Ax.bin .lss (L.getD 0 .undef) t8)).bind fun t10 =>
 M.ite t10
 (M.blk 1 (
 (M.lift (Ax.iaddr none 1 t7 (L.getD 0 .undef))).bind fun t12 =>
 (mload none t12).bind fun t13 =>
 (M.lift (Ax.faddr 4 t1)).bind fun t14 =>
 (mload none t14).bind fun t15 =>
 (M.lift (Ax.bin .shr t15 (L.getD 0 .undef))).bind fun t17 =>
 (M.lift (Ax.bin .and t17 (V.int .i64 1))).bind fun t18 =>
 (M.lift (Ax.bin .eql t18 (V.int .i64 1))).bind fun t19 =>
 (guarded [(0,t19)] (some (0,true)) (M.pure t13)).bind fun t22 =>
 (guarded [(0,t19)] (some (0,true)) (M.lift (Ax.bin .gtr t22 (V.int .u8 63)))).bind fun t23 =>
 (M.lift (Ax.pick t19 t23 (V.bool false))).bind fun t24 =>
 (guarded [(0,t24)] (some (0,false)) (M.pure t19)).bind fun t26 =>
 (guarded [(0,t24)] (some (0,false)) (M.lift (Ax.un .not t26))).bind fun t27 =>
 (guarded [(0,t24)] (some (0,false)) (M.pure t27)).bind fun t28 =>
 (guarded [(0,t28)] (some (0,true)) (M.pure t13)).bind fun t29 =>
 (guarded [(0,t28)] (some (0,true)) (M.lift (Ax.bin .neq t29 (V.int .u8 255)))).bind fun t30 =>
 (guarded [(0,t24)] (some (0,false)) (M.lift (Ax.pick t28 t30 (V.bool false)))).bind fun t31 =>
 (M.lift (Ax.pick t24 (V.bool true) t31)).bind fun t32 =>
 M.ite t32
 (M.pure (.ret [(V.bool false)]))
 (M.pure (.nrm []))) fun _ =>
 (M.lift (Ax.bin .add (L.getD 0 .undef) (V.int .i64 1))).bind fun t33 =>
 M.pure (.nrm [t33]))
 (M.pure (.ex 0 []))
def zpG (G:Sem') (t0:V):M Res :=
 (mbox zag t0).bind fun t1 =>
 (M.lift (Ax.faddr 6 t1)).bind fun t6 =>
 (mload none t6).bind fun t7 =>
 (M.lift (vlen t7)).bind fun t8 =>
 M.blk 0 (
 M.iter (zuN G t8 t7 t1) [(V.int .i64 0)]) fun _ =>
 (M.lift (Ax.faddr 5 t1)).bind fun t34 =>
 (mload none t34).bind fun t35 =>
 (M.lift (Ax.faddr 3 t1)).bind fun t36 =>
 (mload none t36).bind fun t37 =>
 (M.lift (Ax.bin .geq t35 t37)).bind fun t38 =>
 (guarded [(0,t38)] (some (0,true)) (M.lift (Ax.faddr 4 t1))).bind fun t40 =>
 (guarded [(0,t38)] (some (0,true)) (mload none t40)).bind fun t41 =>
 (guarded [(0,t38)] (some (0,true)) (M.lift (Ax.faddr 2 t1))).bind fun t42 =>
 (guarded [(0,t38)] (some (0,true)) (mload none t42)).bind fun t43 =>
 (guarded [(0,t38)] (some (0,true)) (M.lift (Ax.bin .shr t41 t43))).bind fun t44 =>
 (guarded [(0,t38)] (some (0,true)) (M.lift (Ax.bin .and t44 (V.int .i64 1)))).bind fun t45 =>
 (guarded [(0,t38)] (some (0,true)) (M.lift (Ax.bin .eql t45 (V.int .i64 1)))).bind fun t46 =>
 (M.lift (Ax.pick t38 t46 (V.bool false))).bind fun t47 =>
 M.pure (.ret [t47])
def zj2:Fn':=(T zdI).getD noF
theorem zvh:T zdI = some zj2:=by kernel_rfl
theorem zwr (G:Sem') (t0:V):execK G zj2.rv zj2.body [] [] (params 0 [t0]) = zpG G t0:=by kernel_rfl
def zlu (G:Sem'):List V → M V
 | [t0]=>fin (zpG G t0)
 | _=>M.fail
theorem zxf {g:Sem'} (hg:Sims g (sem T)) (args:List V):Sim (zlu g args) (sem T zdI args):=by
 unfold zlu;split
 ·exact zaf zvh (Nat.le_of_ble_eq_true (by kernel_rfl)) hg (zwr g _)
 ·exact zaa
def f_note_Bytes_0 (G:Sem') (t30 t29 t2 t3:V) (L:List V):M Res :=
 (M.lift (Ax.bin .lss (L.getD 1 .undef) t30)).bind fun t32 =>
 M.ite t32
 (M.blk 1 (
 (M.lift (Ax.iaddr none 1 t29 (L.getD 1 .undef))).bind fun t33 =>
 (mload none t33).bind fun t34 =>
 (M.lift (Ax.bin .shr t34 (V.int .u64 8))).bind fun t37 =>
 (M.lift (Ax.cint .u8 t37)).bind fun t38 =>
 (M.lift (Ax.cint .u8 t34)).bind fun t40 =>
 (mslit zaj 2 [(V.int .u8 0)] [(0,1,t38),(1,1,t40)]).bind fun t41 =>
 (mappend zaj 1 1 (L.getD 0 .undef) t41).bind fun t42 =>
 M.pure (.nrm [t42])) fun L0 =>
 (M.lift (Ax.bin .add (L.getD 1 .undef) (V.int .i64 1))).bind fun t43 =>
 M.pure (.nrm [(L0.getD 0 .undef),t43]))
 (M.pure (.ex 0 [(L.getD 0 .undef)]))
def f_note_Bytes (G:Sem') (t0:V):M Res :=
 (mbox zag t0).bind fun t1 =>
 (mload (some 7) t1).bind fun t7 =>
 (G zce [t7]).bind fun t8 =>
 (M.lift (Ax.un .not t8)).bind fun t9 =>
 M.ite t9
 (M.pure (.ret [V.nils,(V.int .i64 1)]))
 ((M.lift (Ax.faddr 0 t1)).bind fun t10 =>
 (mload none t10).bind fun t11 =>
 (M.lift (Ax.cint .u8 t11)).bind fun t12 =>
 (M.lift (Ax.faddr 1 t1)).bind fun t13 =>
 (mload none t13).bind fun t14 =>
 (M.lift (Ax.cint .u8 t14)).bind fun t15 =>
 (M.lift (Ax.faddr 2 t1)).bind fun t16 =>
 (mload none t16).bind fun t17 =>
 (M.lift (Ax.cint .u8 t17)).bind fun t18 =>
 (mslit zaj 3 [(V.int .u8 0)] [(0,1,t12),(1,1,t15),(2,1,t18)]).bind fun t19 =>
 (M.lift (Ax.faddr 3 t1)).bind fun t20 =>
 (mload none t20).bind fun t21 =>
 (M.lift (Ax.faddr 4 t1)).bind fun t22 =>
 (mload none t22).bind fun t23 =>
 (M.lift (Ax.faddr 5 t1)).bind fun t24 =>
 (mload none t24).bind fun t25 =>
 (M.lift (Ax.faddr 6 t1)).bind fun t26 =>
 (mload none t26).bind fun t27 =>
 (M.lift (vlen t27)).bind fun t28 =>
 (mslit zeX 4 [(V.int .i64 0)] [(0,1,t21),(1,1,t23),(2,1,t25),(3,1,t28)]).bind fun t29 =>
 (M.lift (vlen t29)).bind fun t30 =>
 M.blk 0 (
 M.iter (f_note_Bytes_0 G t30 t29 V.nils (V.int .i64 0)) [t19,(V.int .i64 0)]) fun L1 =>
 (M.lift (Ax.faddr 6 t1)).bind fun t45 =>
 (mload none t45).bind fun t46 =>
 (mappend zaj 1 1 (L1.getD 0 .undef) t46).bind fun t47 =>
 M.pure (.ret [t47,(V.int .i64 0)]))
def ir_note_Bytes:Fn':=(T zcq).getD noF
theorem tb_note_Bytes:T zcq = some ir_note_Bytes:=by kernel_rfl
theorem eq_note_Bytes (G:Sem') (t0:V):execK G ir_note_Bytes.rv ir_note_Bytes.body [] [] (params 0 [t0]) = f_note_Bytes G t0:=by kernel_rfl
def zo1 (G:Sem'):List V → M V
 | [t0]=>fin (f_note_Bytes G t0)
 | _=>M.fail
theorem zAE {g:Sem'} (hg:Sims g (sem T)) (args:List V):Sim (zo1 g args) (sem T zcq args):=by
 unfold zo1;split
 ·exact zaf tb_note_Bytes (Nat.le_of_ble_eq_true (by kernel_rfl)) hg (eq_note_Bytes g _)
 ·exact zaa
def ztS (G:Sem') (t0 t1:V):M Res :=
 (mbox zav t0).bind fun t2 =>
 (mbox zav (V.agg [(V.bool false),(V.bool false),(V.bool false),(V.bool false),(V.bool false),(V.bool false),(V.bool false),(V.bool false),(V.int .i64 0),(V.int .i64 0),(V.int .i64 0),(V.int .i64 0),(V.int .i64 0),(V.int .i64 0),(V.int .i64 0),(V.int .i64 0)])).bind fun t4 =>
 (mload (some 16) t2).bind fun t10 =>
 (G zbs [t10]).bind fun t11 =>
 (M.lift (Ax.un .not t11)).bind fun t12 =>
 (guarded [(0,t12)] (some (0,false)) (M.pure t1)).bind fun t14 =>
 (guarded [(0,t12)] (some (0,false)) (G zb8 [t14])).bind fun t15 =>
 (guarded [(0,t12)] (some (0,false)) (M.lift (Ax.un .not t15))).bind fun t16 =>
 (M.lift (Ax.pick t12 (V.bool true) t16)).bind fun t17 =>
 M.ite t17
 ((mload (some 16) t2).bind fun t18 =>
 (mstore 16 t4 t18).bind fun _ =>
 (mload (some 16) t4).bind fun r0 =>
 M.pure (.ret [r0,(V.int .i64 0),(V.int .i64 1)]))
 ((mload (some 16) t2).bind fun t20 =>
 (G zbM [t20,t1]).bind fun t22 =>
 (M.lift (Ax.ext 0 t22)).bind fun t23 =>
 (M.lift (Ax.ext 1 t22)).bind fun t24 =>
 M.ite t24
 ((mload (some 16) t2).bind fun t26 =>
 (mstore 16 t4 t26).bind fun _ =>
 (mload (some 16) t4).bind fun r0 =>
 M.pure (.ret [r0,(V.int .i64 0),(V.int .i64 7)]))
 ((M.lift (Ax.faddr 0 t2)).bind fun t27 =>
 (M.lift (zbr (.arr 8) 1 t27 none none none)).bind fun t28 =>
 (G zbp [t28,(V.bool false)]).bind fun t29 =>
 (M.lift (Ax.bin .lss t29 (V.int .i64 0))).bind fun t31 =>
 M.ite t31
 ((mload (some 16) t2).bind fun t32 =>
 (mstore 16 t4 t32).bind fun _ =>
 (mload (some 16) t4).bind fun r0 =>
 M.pure (.ret [r0,(V.int .i64 0),(V.int .i64 5)]))
 ((M.lift (Ax.faddr 0 t2)).bind fun t36 =>
 (M.lift (Ax.iaddr (some 8) 1 t36 t29)).bind fun t37 =>
 (mstore 1 t37 (V.bool true)).bind fun _ =>
 (M.lift (Ax.faddr 8 t2)).bind fun t38 =>
 (M.lift (Ax.iaddr (some 8) 1 t38 t29)).bind fun t39 =>
 (mstore 1 t39 t1).bind fun _ =>
 (mload (some 16) t2).bind fun t40 =>
 (mstore 16 t4 t40).bind fun _ =>
 (mload (some 16) t4).bind fun r0 =>
 M.pure (.ret [r0,t29,(V.int .i64 0)]))))
def zmk:Fn':=(T zfU).getD noF
theorem zym:T zfU = some zmk:=by kernel_rfl
theorem zzs (G:Sem') (t0 t1:V):execK G zmk.rv zmk.body [] [] (params 0 [t0,t1]) = ztS G t0 t1:=by kernel_rfl
def zoK (G:Sem'):List V → M V
 | [t0,t1]=>fin (ztS G t0 t1)
 | _=>M.fail
theorem zAn {g:Sem'} (hg:Sims g (sem T)) (args:List V):Sim (zoK g args) (sem T zfU args):=by
 unfold zoK;split
 ·exact zaf zym (Nat.le_of_ble_eq_true (by kernel_rfl)) hg (zzs g _ _)
 ·exact zaa
def zt4 (G:Sem') (t0 t1:V):M Res :=
 (mbox zbX t0).bind fun t2 =>
 (mbox zbX (V.agg [(V.int .i64 0),(V.bool false),(V.int .i64 0),(V.int .i64 0),(V.int .i64 0),(V.int .i64 0)])).bind fun t4 =>
 M.blk 0 (
 (mload (some 6) t2).bind fun t7 =>
 (G zcX [t7]).bind fun t8 =>
 (M.lift (Ax.un .not t8)).bind fun t9 =>
 (guarded [(0,t9)] (some (0,false)) (M.pure t1)).bind fun t11 =>
 (guarded [(0,t9)] (some (0,false)) (G zeR [t11])).bind fun t12 =>
 (guarded [(0,t9)] (some (0,false)) (M.lift (Ax.un .not t12))).bind fun t13 =>
 (M.lift (Ax.pick t9 (V.bool true) t13)).bind fun t14 =>
 M.ite t14
 ((mload (some 6) t2).bind fun t15 =>
 (mstore 6 t4 t15).bind fun _ =>
 (mload (some 6) t4).bind fun r0 =>
 M.pure (.ret [r0,(V.int .i64 1)]))
 ((M.lift (Ax.faddr 1 t2)).bind fun t17 =>
 (mload none t17).bind fun t18 =>
 (M.lift (Ax.un .not t18)).bind fun t19 =>
 M.ite t19
 ((mload (some 6) t2).bind fun t20 =>
 (mstore 6 t4 t20).bind fun _ =>
 (mload (some 6) t4).bind fun r0 =>
 M.pure (.ret [r0,(V.int .i64 0)]))
 ((M.lift (Ax.faddr 3 t2)).bind fun t22 =>
 (mload none t22).bind fun t23 =>
 (M.lift (Ax.bin .shr t23 t1)).bind fun t25 =>
 (M.lift (Ax.bin .and t25 (V.int .i64 1))).bind fun t26 =>
 (M.lift (Ax.bin .eql t26 (V.int .i64 1))).bind fun t27 =>
 M.ite t27
 ((mload (some 6) t2).bind fun t28 =>
 (mstore 6 t4 t28).bind fun _ =>
 (mload (some 6) t4).bind fun r0 =>
 M.pure (.ret [r0,(V.int .i64 7)]))
 (M.pure (.nrm []))))) fun _ =>
 (M.lift (Ax.faddr 3 t2)).bind fun t29 =>
 (mload none t29).bind fun t30 =>
 (M.lift (Ax.bin .shl (V.int .i64 1) t1)).bind fun t32 =>
 (M.lift (Ax.bin .or t30 t32)).bind fun t33 =>
 (M.lift (Ax.faddr 3 t2)).bind fun t34 =>
 (mstore 1 t34 t33).bind fun _ =>
 (mload (some 6) t2).bind fun t35 =>
 (mstore 6 t4 t35).bind fun _ =>
 (mload (some 6) t4).bind fun r0 =>
 M.pure (.ret [r0,(V.int .i64 0)])
def zmw:Fn':=(T zf3).getD noF
theorem zyy:T zf3 = some zmw:=by kernel_rfl
theorem zzE (G:Sem') (t0 t1:V):execK G zmw.rv zmw.body [] [] (params 0 [t0,t1]) = zt4 G t0 t1:=by kernel_rfl
def zoY (G:Sem'):List V → M V
 | [t0,t1]=>fin (zt4 G t0 t1)
 | _=>M.fail
theorem zAB {g:Sem'} (hg:Sims g (sem T)) (args:List V):Sim (zoY g args) (sem T zf3 args):=by
 unfold zoY;split
 ·exact zaf zyy (Nat.le_of_ble_eq_true (by kernel_rfl)) hg (zzE g _ _)
 ·exact zaa
def zpF (G:Sem') (t0:V):M Res :=
 (mbox zbX t0).bind fun t1 =>
 (M.lift (Ax.faddr 1 t1)).bind fun t3 =>
 (mload none t3).bind fun t4 =>
 M.ite t4
 ((M.lift (Ax.faddr 2 t1)).bind fun t5 =>
 (mload none t5).bind fun t6 =>
 M.pure (.ret [t6]))
 ((M.lift (Ax.faddr 0 t1)).bind fun t7 =>
 (mload none t7).bind fun t8 =>
 M.pure (.ret [t8]))
def zj1:Fn':=(T zdH).getD noF
theorem zvg:T zdH = some zj1:=by kernel_rfl
theorem zwq (G:Sem') (t0:V):execK G zj1.rv zj1.body [] [] (params 0 [t0]) = zpF G t0:=by kernel_rfl
def zls (G:Sem'):List V → M V
 | [t0]=>fin (zpF G t0)
 | _=>M.fail
theorem zxe {g:Sem'} (hg:Sims g (sem T)) (args:List V):Sim (zls g args) (sem T zdH args):=by
 unfold zls;split
 ·exact zaf zvg (Nat.le_of_ble_eq_true (by kernel_rfl)) hg (zwq g _)
 ·exact zaa
def zrz (G:Sem') (t0:V):M Res :=
 (mbox zav t0).bind fun t1 =>
 (M.lift (Ax.faddr 0 t1)).bind fun t5 =>
 (M.lift (zbr (.arr 8) 1 t5 none none none)).bind fun t6 =>
 (G zbp [t6,(V.bool true)]).bind fun t7 =>
 (M.lift (Ax.bin .lss t7 (V.int .i64 0))).bind fun t9 =>
 (guarded [(0,t9)] (some (0,false)) (mload (some 16) t1)).bind fun t11 =>
 (guarded [(0,t9)] (some (0,false)) (G zbs [t11])).bind fun t12 =>
 (guarded [(0,t9)] (some (0,false)) (M.lift (Ax.un .not t12))).bind fun t13 =>
 (M.lift (Ax.pick t9 (V.bool true) t13)).bind fun t14 =>
 M.ite t14
 (M.pure (.ret [(V.int .i64 0),(V.bool false)]))
 (M.pure (.ret [t7,(V.bool true)]))
def zk8:Fn':=(T ze6).getD noF
theorem zwU:T ze6 = some zk8:=by kernel_rfl
theorem zxw (G:Sem') (t0:V):execK G zk8.rv zk8.body [] [] (params 0 [t0]) = zrz G t0:=by kernel_rfl
def zmI (G:Sem'):List V → M V
 | [t0]=>fin (zrz G t0)
 | _=>M.fail
theorem zyE {g:Sem'} (hg:Sims g (sem T)) (args:List V):Sim (zmI g args) (sem T ze6 args):=by
 unfold zmI;split
 ·exact zaf zwU (Nat.le_of_ble_eq_true (by kernel_rfl)) hg (zxw g _)
 ·exact zaa
def ztU (G:Sem') (t0 t1:V):M Res :=
 (mbox zav t0).bind fun t2 =>
 (mbox zav (V.agg [(V.bool false),(V.bool false),(V.bool false),(V.bool false),(V.bool false),(V.bool false),(V.bool false),(V.bool false),(V.int .i64 0),(V.int .i64 0),(V.int .i64 0),(V.int .i64 0),(V.int .i64 0),(V.int .i64 0),(V.int .i64 0),(V.int .i64 0)])).bind fun t4 =>
 M.blk 0 (
 (mload (some 16) t2).bind fun t7 =>
 (G zbs [t7]).bind fun t8 =>
 (M.lift (Ax.un .not t8)).bind fun t9 =>
 (guarded [(0,t9)] (some (0,false)) (M.pure t1)).bind fun t11 =>
 (guarded [(0,t9)] (some (0,false)) (G zfT [t11])).bind fun t12 =>
 (guarded [(0,t9)] (some (0,false)) (M.lift (Ax.un .not t12))).bind fun t13 =>
 (M.lift (Ax.pick t9 (V.bool true) t13)).bind fun t14 =>
 M.ite t14
 ((mload (some 16) t2).bind fun t15 =>
 (mstore 16 t4 t15).bind fun _ =>
 (mload (some 16) t4).bind fun r0 =>
 M.pure (.ret [r0,(V.int .i64 1)]))
 ((M.lift (Ax.faddr 0 t2)).bind fun t18 =>
 (M.lift (Ax.iaddr (some 8) 1 t18 t1)).bind fun t19 =>
 (mload none t19).bind fun t20 =>
 (M.lift (Ax.un .not t20)).bind fun t21 =>
 M.ite t21
 ((mload (some 16) t2).bind fun t22 =>
 (mstore 16 t4 t22).bind fun _ =>
 (mload (some 16) t4).bind fun r0 =>
 M.pure (.ret [r0,(V.int .i64 6)]))
 (M.pure (.nrm [])))) fun _ =>
 (M.lift (Ax.faddr 0 t2)).bind fun t25 =>
 (M.lift (Ax.iaddr (some 8) 1 t25 t1)).bind fun t26 =>
 (mstore 1 t26 (V.bool false)).bind fun _ =>
 (M.lift (Ax.faddr 8 t2)).bind fun t27 =>
 (M.lift (Ax.iaddr (some 8) 1 t27 t1)).bind fun t28 =>
 (mstore 1 t28 (V.int .i64 0)).bind fun _ =>
 (mload (some 16) t2).bind fun t29 =>
 (mstore 16 t4 t29).bind fun _ =>
 (mload (some 16) t4).bind fun r0 =>
 M.pure (.ret [r0,(V.int .i64 0)])
def zmm:Fn':=(T zeQ).getD noF
theorem zyo:T zeQ = some zmm:=by kernel_rfl
theorem zzu (G:Sem') (t0 t1:V):execK G zmm.rv zmm.body [] [] (params 0 [t0,t1]) = ztU G t0 t1:=by kernel_rfl
def zoN (G:Sem'):List V → M V
 | [t0,t1]=>fin (ztU G t0 t1)
 | _=>M.fail
theorem zAq {g:Sem'} (hg:Sims g (sem T)) (args:List V):Sim (zoN g args) (sem T zeQ args):=by
 unfold zoN;split
 ·exact zaf zyo (Nat.le_of_ble_eq_true (by kernel_rfl)) hg (zzu g _ _)
 ·exact zaa
def znk (G:Sem') (t0 t1 t2:V):M Res :=
 (mbox zwS t1).bind fun t4 =>
 (mbox zeX t2).bind fun t5 =>
 (M.lift (Ax.nilck t0)).bind fun t11 =>
 (M.lift (Ax.faddr 1469 t11)).bind fun t12 =>
 (mload none t12).bind fun t13 =>
 (M.pure (.fn zcS [t4,t5])).bind fun t14 =>
 (G za0 [t13,t14]).bind fun t15 =>
 (M.lift (Ax.bin .lss t15 (V.int .i64 0))).bind fun t17 =>
 M.ite t17
 (M.pure (.ret [(V.int .u32 0),(V.bool false)]))
 ((M.lift (Ax.nilck t0)).bind fun t19 =>
 (M.lift (Ax.faddr 1469 t19)).bind fun t20 =>
 (mload none t20).bind fun t21 =>
 (M.lift (Ax.iaddr none 1 t21 t15)).bind fun t23 =>
 (mload none t23).bind fun t24 =>
 (M.lift (Ax.nilck t0)).bind fun t27 =>
 (M.lift (Ax.faddr 1469 t27)).bind fun t28 =>
 (mload none t28).bind fun t29 =>
 (M.lift (Ax.bin .add t15 (V.int .i64 1))).bind fun t32 =>
 (G zbe [t29,t15,t32]).bind fun t33 =>
 (M.lift (Ax.nilck t0)).bind fun t34 =>
 (M.lift (Ax.faddr 1469 t34)).bind fun t35 =>
 (mstore 1 t35 t33).bind fun _ =>
 M.pure (.ret [t24,(V.bool true)]))
def zib:Fn':=(T zdA).getD noF
theorem zsx:T zdA = some zib:=by kernel_rfl
theorem ztp (G:Sem') (t0 t1 t2:V):execK G zib.rv zib.body [] [] (params 0 [t0,t1,t2]) = znk G t0 t1 t2:=by kernel_rfl
def zjA (G:Sem'):List V → M V
 | [t0,t1,t2]=>fin (znk G t0 t1 t2)
 | _=>M.fail
theorem zuF {g:Sem'} (hg:Sims g (sem T)) (args:List V):Sim (zjA g args) (sem T zdA args):=by
 unfold zjA;split
 ·exact zaf zsx (Nat.le_of_ble_eq_true (by kernel_rfl)) hg (ztp g _ _ _)
 ·exact zaa
def zx9 (G:Sem') (t0:V):M Res :=
 (G zik []).bind fun t4 =>
 (M.lift (Ax.build [(V.int .u32 0),(V.int .i64 0),(V.int .i64 0),(V.bool false),(V.int .i64 0),(V.int .i64 0),(V.bool false),(V.int .u16 0),(V.int .u32 0),(V.int .u32 0),(V.int .u16 0),(V.int .u16 0),(V.int .i64 0),V.nils,V.nilp,(V.bool false)] [(0,1,t0),(1,1,(V.int .i64 3)),(2,1,(V.int .i64 7)),(14,1,t4)])).bind fun t5 =>
 (mbox zzR t5).bind fun t6 =>
 M.pure (.ret [t6])
def zqd:Fn':=(T zim).getD noF
theorem zBS:T zim = some zqd:=by kernel_rfl
theorem zCN (G:Sem') (t0:V):execK G zqd.rv zqd.body [] [] (params 0 [t0]) = zx9 G t0:=by kernel_rfl
def ztD (G:Sem'):List V → M V
 | [t0]=>fin (zx9 G t0)
 | _=>M.fail
theorem zD1 {g:Sem'} (hg:Sims g (sem T)) (args:List V):Sim (ztD g args) (sem T zim args):=by
 unfold ztD;split
 ·exact zaf zBS (Nat.le_of_ble_eq_true (by kernel_rfl)) hg (zCN g _)
 ·exact zaa
def zlQ (G:Sem') (t0 t1 t2:V):M Res :=
 (M.lift (Ax.bin .lss t1 (V.int .i64 0))).bind fun t8 =>
 (guarded [(0,t8)] (some (0,false)) (M.pure t1)).bind fun t10 =>
 (guarded [(0,t8)] (some (0,false)) (M.lift (Ax.bin .gtr t10 (V.int .i64 3)))).bind fun t11 =>
 (M.lift (Ax.pick t8 (V.bool true) t11)).bind fun t12 =>
 (guarded [(0,t12)] (some (0,false)) (M.pure t2)).bind fun t14 =>
 (guarded [(0,t12)] (some (0,false)) (M.lift (Ax.bin .lss t14 (V.int .i64 0)))).bind fun t15 =>
 (M.lift (Ax.pick t12 (V.bool true) t15)).bind fun t16 =>
 (guarded [(0,t16)] (some (0,false)) (M.pure t2)).bind fun t18 =>
 (guarded [(0,t16)] (some (0,false)) (M.lift (Ax.bin .gtr t18 (V.int .i64 7)))).bind fun t19 =>
 (M.lift (Ax.pick t16 (V.bool true) t19)).bind fun t20 =>
 M.ite t20
 (M.pure (.ret [(V.int .i64 1)]))
 ((M.lift (Ax.nilck t0)).bind fun t25 =>
 (M.lift (Ax.faddr 1 t25)).bind fun t26 =>
 (mstore 1 t26 t1).bind fun _ =>
 (M.lift (Ax.nilck t0)).bind fun t27 =>
 (M.lift (Ax.faddr 2 t27)).bind fun t28 =>
 (mstore 1 t28 t2).bind fun _ =>
 M.pure (.ret [(V.int .i64 0)]))
def zho:Fn':=(T zc7).getD noF
theorem zq1:T zc7 = some zho:=by kernel_rfl
theorem zr5 (G:Sem') (t0 t1 t2:V):execK G zho.rv zho.body [] [] (params 0 [t0,t1,t2]) = zlQ G t0 t1 t2:=by kernel_rfl
def zix (G:Sem'):List V → M V
 | [t0,t1,t2]=>fin (zlQ G t0 t1 t2)
 | _=>M.fail
theorem zsI {g:Sem'} (hg:Sims g (sem T)) (args:List V):Sim (zix g args) (sem T zc7 args):=by
 unfold zix;split
 ·exact zaf zq1 (Nat.le_of_ble_eq_true (by kernel_rfl)) hg (zr5 g _ _ _)
 ·exact zaa
def zwf (G:Sem') (t0 t1 t2:V):M Res :=
 (mbox zbX t0).bind fun t3 =>
 (mbox zbX (V.agg [(V.int .i64 0),(V.bool false),(V.int .i64 0),(V.int .i64 0),(V.int .i64 0),(V.int .i64 0)])).bind fun t6 =>
 M.blk 0 (
 (mload (some 6) t3).bind fun t10 =>
 (G zcX [t10]).bind fun t11 =>
 (M.lift (Ax.un .not t11)).bind fun t12 =>
 (guarded [(0,t12)] (some (0,false)) (M.pure t1)).bind fun t14 =>
 (guarded [(0,t12)] (some (0,false)) (G zeR [t14])).bind fun t15 =>
 (guarded [(0,t12)] (some (0,false)) (M.lift (Ax.un .not t15))).bind fun t16 =>
 (M.lift (Ax.pick t12 (V.bool true) t16)).bind fun t17 =>
 M.ite t17
 ((mload (some 6) t3).bind fun t18 =>
 (mstore 6 t6 t18).bind fun _ =>
 (mload (some 6) t6).bind fun r0 =>
 M.pure (.ret [r0,(V.bool false),(V.int .i64 1)]))
 ((M.lift (Ax.faddr 1 t3)).bind fun t20 =>
 (mload none t20).bind fun t21 =>
 (M.lift (Ax.un .not t21)).bind fun t22 =>
 (guarded [(0,t22)] (some (0,false)) (M.lift (Ax.faddr 2 t3))).bind fun t24 =>
 (guarded [(0,t22)] (some (0,false)) (mload none t24)).bind fun t25 =>
 (guarded [(0,t22)] (some (0,false)) (M.pure t2)).bind fun t26 =>
 (guarded [(0,t22)] (some (0,false)) (M.lift (Ax.bin .neq t25 t26))).bind fun t27 =>
 (M.lift (Ax.pick t22 (V.bool true) t27)).bind fun t28 =>
 M.ite t28
 ((mload (some 6) t3).bind fun t29 =>
 (mstore 6 t6 t29).bind fun _ =>
 (mload (some 6) t6).bind fun r0 =>
 M.pure (.ret [r0,(V.bool false),(V.int .i64 12)]))
 ((M.lift (Ax.faddr 3 t3)).bind fun t31 =>
 (mload none t31).bind fun t32 =>
 (M.lift (Ax.bin .shr t32 t1)).bind fun t34 =>
 (M.lift (Ax.bin .and t34 (V.int .i64 1))).bind fun t35 =>
 (M.lift (Ax.bin .eql t35 (V.int .i64 0))).bind fun t36 =>
 M.ite t36
 ((mload (some 6) t3).bind fun t37 =>
 (mstore 6 t6 t37).bind fun _ =>
 (mload (some 6) t6).bind fun r0 =>
 M.pure (.ret [r0,(V.bool false),(V.int .i64 6)]))
 ((M.lift (Ax.faddr 4 t3)).bind fun t39 =>
 (mload none t39).bind fun t40 =>
 (M.lift (Ax.bin .shr t40 t1)).bind fun t42 =>
 (M.lift (Ax.bin .and t42 (V.int .i64 1))).bind fun t43 =>
 (M.lift (Ax.bin .eql t43 (V.int .i64 1))).bind fun t44 =>
 M.ite t44
 ((mload (some 6) t3).bind fun t45 =>
 (mstore 6 t6 t45).bind fun _ =>
 (mload (some 6) t6).bind fun r0 =>
 M.pure (.ret [r0,(V.bool false),(V.int .i64 7)]))
 (M.pure (.nrm [])))))) fun _ =>
 (M.lift (Ax.faddr 4 t3)).bind fun t46 =>
 (mload none t46).bind fun t47 =>
 (M.lift (Ax.bin .shl (V.int .i64 1) t1)).bind fun t49 =>
 (M.lift (Ax.bin .or t47 t49)).bind fun t50 =>
 (M.lift (Ax.faddr 4 t3)).bind fun t51 =>
 (mstore 1 t51 t50).bind fun _ =>
 (M.lift (Ax.faddr 4 t3)).bind fun t52 =>
 (mload none t52).bind fun t53 =>
 (M.lift (Ax.faddr 3 t3)).bind fun t54 =>
 (mload none t54).bind fun t55 =>
 (M.lift (Ax.bin .eql t53 t55)).bind fun t56 =>
 M.ite t56
 ((M.lift (Ax.faddr 2 t3)).bind fun t57 =>
 (mload none t57).bind fun t58 =>
 (M.lift (Ax.build [(V.int .i64 0),(V.bool false),(V.int .i64 0),(V.int .i64 0),(V.int .i64 0),(V.int .i64 0)] [(0,1,t58)])).bind fun t59 =>
 (mstore 6 t6 t59).bind fun _ =>
 (mload (some 6) t6).bind fun r0 =>
 M.pure (.ret [r0,(V.bool true),(V.int .i64 0)]))
 ((mload (some 6) t3).bind fun t60 =>
 (mstore 6 t6 t60).bind fun _ =>
 (mload (some 6) t6).bind fun r0 =>
 M.pure (.ret [r0,(V.bool false),(V.int .i64 0)]))
def zn5:Fn':=(T zg7).getD noF
theorem zz9:T zg7 = some zn5:=by kernel_rfl
theorem zBs (G:Sem') (t0 t1 t2:V):execK G zn5.rv zn5.body [] [] (params 0 [t0,t1,t2]) = zwf G t0 t1 t2:=by kernel_rfl
def zqK (G:Sem'):List V → M V
 | [t0,t1,t2]=>fin (zwf G t0 t1 t2)
 | _=>M.fail
theorem zCe {g:Sem'} (hg:Sims g (sem T)) (args:List V):Sim (zqK g args) (sem T zg7 args):=by
 unfold zqK;split
 ·exact zaf zz9 (Nat.le_of_ble_eq_true (by kernel_rfl)) hg (zBs g _ _ _)
 ·exact zaa
def zrG (G:Sem') (t0 t1 t2:V):M Res :=
 (mbox zbX t0).bind fun t3 =>
 (mbox zbX (V.agg [(V.int .i64 0),(V.bool false),(V.int .i64 0),(V.int .i64 0),(V.int .i64 0),(V.int .i64 0)])).bind fun t6 =>
 (mload (some 6) t3).bind fun t9 =>
 (G zdH [t9]).bind fun t10 =>
 (M.lift (Ax.bin .add t10 (V.int .i64 1))).bind fun t11 =>
 M.blk 0 (
 (mload (some 6) t3).bind fun t13 =>
 (G zcX [t13]).bind fun t14 =>
 (M.lift (Ax.un .not t14)).bind fun t15 =>
 (guarded [(0,t15)] (some (0,false)) (M.pure t1)).bind fun t17 =>
 (guarded [(0,t15)] (some (0,false)) (M.lift (Ax.bin .lss t17 (V.int .i64 0)))).bind fun t18 =>
 (M.lift (Ax.pick t15 (V.bool true) t18)).bind fun t19 =>
 (guarded [(0,t19)] (some (0,false)) (M.pure t1)).bind fun t21 =>
 (guarded [(0,t19)] (some (0,false)) (M.lift (Ax.bin .gtr t21 (V.int .i64 255)))).bind fun t22 =>
 (M.lift (Ax.pick t19 (V.bool true) t22)).bind fun t23 =>
 M.ite t23
 ((mload (some 6) t3).bind fun t24 =>
 (mstore 6 t6 t24).bind fun _ =>
 (mload (some 6) t6).bind fun r0 =>
 M.pure (.ret [r0,(V.int .i64 1)]))
 ((M.lift (Ax.bin .gtr t11 (V.int .i64 65535))).bind fun t27 =>
 M.ite t27
 ((mload (some 6) t3).bind fun t28 =>
 (mstore 6 t6 t28).bind fun _ =>
 (mload (some 6) t6).bind fun r0 =>
 M.pure (.ret [r0,(V.int .i64 11)]))
 ((M.lift (Ax.bin .eql t1 (V.int .i64 0))).bind fun t31 =>
 M.ite t31
 ((M.lift (Ax.build [(V.int .i64 0),(V.bool false),(V.int .i64 0),(V.int .i64 0),(V.int .i64 0),(V.int .i64 0)] [(0,1,t11)])).bind fun t33 =>
 (mstore 6 t6 t33).bind fun _ =>
 (mload (some 6) t6).bind fun r0 =>
 M.pure (.ret [r0,(V.int .i64 0)]))
 (M.pure (.nrm []))))) fun _ =>
 (M.lift (Ax.faddr 0 t3)).bind fun t34 =>
 (mload none t34).bind fun t35 =>
 (M.lift (Ax.build [(V.int .i64 0),(V.bool false),(V.int .i64 0),(V.int .i64 0),(V.int .i64 0),(V.int .i64 0)] [(0,1,t35),(1,1,(V.bool true)),(2,1,t11),(3,1,t1),(5,1,t2)])).bind fun t39 =>
 (mstore 6 t6 t39).bind fun _ =>
 (mload (some 6) t6).bind fun r0 =>
 M.pure (.ret [r0,(V.int .i64 0)])
def zlf:Fn':=(T zfb).getD noF
theorem zw1:T zfb = some zlf:=by kernel_rfl
theorem zxD (G:Sem') (t0 t1 t2:V):execK G zlf.rv zlf.body [] [] (params 0 [t0,t1,t2]) = zrG G t0 t1 t2:=by kernel_rfl
def zmP (G:Sem'):List V → M V
 | [t0,t1,t2]=>fin (zrG G t0 t1 t2)
 | _=>M.fail
theorem zyL {g:Sem'} (hg:Sims g (sem T)) (args:List V):Sim (zmP g args) (sem T zfb args):=by
 unfold zmP;split
 ·exact zaf zw1 (Nat.le_of_ble_eq_true (by kernel_rfl)) hg (zxD g _ _ _)
 ·exact zaa
def zv2 (G:Sem') (t0 t1 t2:V):M Res :=
 M.blk 0 (
 (M.lift (Ax.bin .eql t0 (V.int .i64 200))).bind fun t9 =>
 M.ite t9
 (M.pure (.ret [(V.int .i64 1)]))
 ((M.lift (Ax.bin .eql t0 (V.int .i64 201))).bind fun t12 =>
 M.ite t12
 (M.pure (.ret [(V.int .i64 2)]))
 ((M.lift (Ax.bin .eql t0 (V.int .i64 205))).bind fun t15 =>
 (guarded [(0,t15)] (some (0,true)) (M.pure t1)).bind fun t17 =>
 (guarded [(0,t15)] (some (0,true)) (M.lift (Ax.bin .eql t17 (V.int .i64 1)))).bind fun t18 =>
 (M.lift (Ax.pick t15 t18 (V.bool false))).bind fun t19 =>
 M.ite t19
 (M.pure (.ret [(V.int .i64 3)]))
 ((M.lift (Ax.bin .eql t0 (V.int .i64 206))).bind fun t22 =>
 (guarded [(0,t22)] (some (0,true)) (M.pure t1)).bind fun t24 =>
 (guarded [(0,t22)] (some (0,true)) (M.lift (Ax.bin .eql t24 (V.int .i64 1)))).bind fun t25 =>
 (M.lift (Ax.pick t22 t25 (V.bool false))).bind fun t26 =>
 M.ite t26
 (M.pure (.ret [(V.int .i64 4)]))
 ((M.lift (Ax.bin .eql t0 (V.int .i64 206))).bind fun t29 =>
 (guarded [(0,t29)] (some (0,true)) (M.pure t1)).bind fun t31 =>
 (guarded [(0,t29)] (some (0,true)) (M.lift (Ax.bin .eql t31 (V.int .i64 4)))).bind fun t32 =>
 (M.lift (Ax.pick t29 t32 (V.bool false))).bind fun t33 =>
 M.ite t33
 (M.pure (.ret [(V.int .i64 5)]))
 ((M.lift (Ax.bin .eql t0 (V.int .i64 206))).bind fun t36 =>
 (guarded [(0,t36)] (some (0,true)) (M.pure t1)).bind fun t38 =>
 (guarded [(0,t36)] (some (0,true)) (M.lift (Ax.bin .eql t38 (V.int .i64 15)))).bind fun t39 =>
 (M.lift (Ax.pick t36 t39 (V.bool false))).bind fun t40 =>
 (guarded [(0,t40)] (some (0,true)) (M.pure t2)).bind fun t42 =>
 (guarded [(0,t40)] (some (0,true)) (M.lift (vlen t42))).bind fun t43 =>
 (guarded [(0,t40)] (some (0,true)) (M.lift (Ax.bin .geq t43 (V.int .i64 12)))).bind fun t44 =>
 (M.lift (Ax.pick t40 t44 (V.bool false))).bind fun t45 =>
 (guarded [(0,t45)] (some (0,true)) (M.pure t2)).bind fun t47 =>
 (guarded [(0,t45)] (some (0,true)) (M.lift (zbr .sl 1 t47 (some (V.int .i64 8)) (some (V.int .i64 12)) none))).bind fun t48 =>
 (guarded [(0,t45)] (some (0,true)) (mtostr t48)).bind fun t49 =>
 (guarded [(0,t45)] (some (0,true)) (M.lift (Ax.bin .eql t49 (V.str ⟨#[82,69,77,66]⟩)))).bind fun t50 =>
 (M.lift (Ax.pick t45 t50 (V.bool false))).bind fun t51 =>
 M.ite t51
 (M.pure (.ret [(V.int .i64 6)]))
 (M.pure (.nrm [])))))))) fun _ =>
 M.pure (.ret [(V.int .i64 7)])
def znU:Fn':=(T zfJ).getD noF
theorem zzY:T zfJ = some znU:=by kernel_rfl
theorem zBh (G:Sem') (t0 t1 t2:V):execK G znU.rv znU.body [] [] (params 0 [t0,t1,t2]) = zv2 G t0 t1 t2:=by kernel_rfl
def zqz (G:Sem'):List V → M V
 | [t0,t1,t2]=>fin (zv2 G t0 t1 t2)
 | _=>M.fail
theorem zB3 {g:Sem'} (hg:Sims g (sem T)) (args:List V):Sim (zqz g args) (sem T zfJ args):=by
 unfold zqz;split
 ·exact zaf zzY (Nat.le_of_ble_eq_true (by kernel_rfl)) hg (zBh g _ _ _)
 ·exact zaa
def zkP (G:Sem') (t0:V):M Res :=
 (G zaO [t0,(V.int .i64 4)]).bind fun t4 =>
 (M.lift (Ax.cint .u32 t4)).bind fun t5 =>
 M.pure (.ret [t5])
def zgB:Fn':=(T zaq).getD noF
theorem zpN:T zaq = some zgB:=by kernel_rfl
theorem zqm (G:Sem') (t0:V):execK G zgB.rv zgB.body [] [] (params 0 [t0]) = zkP G t0:=by kernel_rfl
def zhz (G:Sem'):List V → M V
 | [t0]=>fin (zkP G t0)
 | _=>M.fail
theorem zra {g:Sem'} (hg:Sims g (sem T)) (args:List V):Sim (zhz g args) (sem T zaq args):=by
 unfold zhz;split
 ·exact zaf zpN (Nat.le_of_ble_eq_true (by kernel_rfl)) hg (zqm g _)
 ·exact zaa
def zqh (G:Sem') (t27 t26 t4:V) (L:List V):M Res :=
 (M.lift (Ax.bin .lss (L.getD 1 .undef) t27)).bind fun t29 =>
 M.ite t29
 (M.blk 1 (
 (M.lift (Ax.iaddr none 1 t26 (L.getD 1 .undef))).bind fun t30 =>
 (mload none t30).bind fun t31 =>
 (M.lift (Ax.bin .shl (L.getD 0 .undef) (V.int .u64 8))).bind fun t33 =>
 (M.lift (Ax.cint .u64 t31)).bind fun t35 =>
 (M.lift (Ax.bin .or t33 t35)).bind fun t36 =>
 M.pure (.nrm [t36])) fun L0 =>
 (M.lift (Ax.bin .add (L.getD 1 .undef) (V.int .i64 1))).bind fun t37 =>
 M.pure (.nrm [(L0.getD 0 .undef),t37]))
 (M.pure (.ex 0 [(L.getD 0 .undef)]))
def zlL (G:Sem') (t0 t1:V):M Res :=
 (M.lift (Ax.nilck t0)).bind fun t9 =>
 (M.lift (Ax.faddr 0 t9)).bind fun t10 =>
 (mload none t10).bind fun t11 =>
 (M.lift (vlen t11)).bind fun t12 =>
 (M.lift (Ax.bin .lss t12 t1)).bind fun t14 =>
 M.ite t14
 ((M.lift (Ax.nilck t0)).bind fun t17 =>
 (M.lift (Ax.faddr 1 t17)).bind fun t18 =>
 (mstore 1 t18 (V.bool true)).bind fun _ =>
 (M.lift (Ax.nilck t0)).bind fun t19 =>
 (M.lift (Ax.faddr 0 t19)).bind fun t20 =>
 (mstore 1 t20 V.nils).bind fun _ =>
 M.pure (.ret [(V.int .u64 0)]))
 ((M.lift (Ax.nilck t0)).bind fun t22 =>
 (M.lift (Ax.faddr 0 t22)).bind fun t23 =>
 (mload none t23).bind fun t24 =>
 (M.lift (zbr .sl 1 t24 none (some t1) none)).bind fun t26 =>
 (M.lift (vlen t26)).bind fun t27 =>
 M.blk 0 (
 M.iter (zqh G t27 t26 (V.int .u64 0)) [(V.int .u64 0),(V.int .i64 0)]) fun L1 =>
 (M.lift (Ax.nilck t0)).bind fun t40 =>
 (M.lift (Ax.faddr 0 t40)).bind fun t41 =>
 (mload none t41).bind fun t42 =>
 (M.lift (zbr .sl 1 t42 (some t1) none none)).bind fun t44 =>
 (M.lift (Ax.nilck t0)).bind fun t45 =>
 (M.lift (Ax.faddr 0 t45)).bind fun t46 =>
 (mstore 1 t46 t44).bind fun _ =>
 M.pure (.ret [(L1.getD 0 .undef)]))
def zhk:Fn':=(T zaO).getD noF
theorem zqX:T zaO = some zhk:=by kernel_rfl
theorem zr1 (G:Sem') (t0 t1:V):execK G zhk.rv zhk.body [] [] (params 0 [t0,t1]) = zlL G t0 t1:=by kernel_rfl
def zir (G:Sem'):List V → M V
 | [t0,t1]=>fin (zlL G t0 t1)
 | _=>M.fail
theorem zsC {g:Sem'} (hg:Sims g (sem T)) (args:List V):Sim (zir g args) (sem T zaO args):=by
 unfold zir;split
 ·exact zaf zqX (Nat.le_of_ble_eq_true (by kernel_rfl)) hg (zr1 g _ _)
 ·exact zaa
def znx (G:Sem') (t7 t0 t4:V) (L:List V):M Res :=
 (M.lift (Ax.bin .lss (L.getD 1 .undef) t7)).bind fun t9 =>
 M.ite t9
 (M.blk 1 (
 (G zaq [t0]).bind fun t11 =>
 (G zaO [t0,(V.int .i64 1)]).bind fun t13 =>
 (M.lift (Ax.cint .u8 t13)).bind fun t14 =>
 (G zaO [t0,(V.int .i64 3)]).bind fun t16 =>
 (M.lift (Ax.cint .u32 t16)).bind fun t17 =>
 (M.lift (Ax.build [(V.int .u32 0),(V.int .u8 0),(V.int .u32 0),(V.int .u32 0),(V.int .u32 0),(V.int .u32 0),(V.int .u32 0)] [(0,1,t11),(1,1,t14),(2,1,t17)])).bind fun t18 =>
 (mbox zhh (V.agg [(V.int .u32 0),(V.int .u8 0),(V.int .u32 0),(V.int .u32 0),(V.int .u32 0),(V.int .u32 0),(V.int .u32 0)])).bind fun t6 =>
 (mstore 7 t6 t18).bind fun _ =>
 (G zaq [t0]).bind fun t20 =>
 (G zaq [t0]).bind fun t22 =>
 (G zaq [t0]).bind fun t24 =>
 (G zaq [t0]).bind fun t26 =>
 (M.lift (Ax.faddr 3 t6)).bind fun t27 =>
 (mstore 1 t27 t20).bind fun _ =>
 (M.lift (Ax.faddr 4 t6)).bind fun t28 =>
 (mstore 1 t28 t22).bind fun _ =>
 (M.lift (Ax.faddr 5 t6)).bind fun t29 =>
 (mstore 1 t29 t24).bind fun _ =>
 (M.lift (Ax.faddr 6 t6)).bind fun t30 =>
 (mstore 1 t30 t26).bind fun _ =>
 (mload (some 7) t6).bind fun t32 =>
 (mslit zhh 1 [(V.int .u32 0),(V.int .u8 0),(V.int .u32 0),(V.int .u32 0),(V.int .u32 0),(V.int .u32 0),(V.int .u32 0)] [(0,7,t32)]).bind fun t33 =>
 (mappend zhh 7 28 (L.getD 0 .undef) t33).bind fun t34 =>
 M.pure (.nrm [t34])) fun L0 =>
 (M.lift (Ax.bin .add (L.getD 1 .undef) (V.int .i64 1))).bind fun t35 =>
 M.pure (.nrm [(L0.getD 0 .undef),t35]))
 (M.pure (.ex 0 [(L.getD 0 .undef)]))
def zjF (G:Sem') (t0 t1:V):M Res :=
 M.blk 0 (
 M.iter (znx G t1 t0 V.nils) [V.nils,(V.int .i64 0)]) fun L1 =>
 M.pure (.ret [(L1.getD 0 .undef)])
def zfC:Fn':=(T zbT).getD noF
theorem znC:T zbT = some zfC:=by kernel_rfl
theorem zoz (G:Sem') (t0 t1:V):execK G zfC.rv zfC.body [] [] (params 0 [t0,t1]) = zjF G t0 t1:=by kernel_rfl
def zgj (G:Sem'):List V → M V
 | [t0,t1]=>fin (zjF G t0 t1)
 | _=>M.fail
theorem zpi {g:Sem'} (hg:Sims g (sem T)) (args:List V):Sim (zgj g args) (sem T zbT args):=by
 unfold zgj;split
 ·exact zaf znC (Nat.le_of_ble_eq_true (by kernel_rfl)) hg (zoz g _ _)
 ·exact zaa
def zoh (G:Sem') (t1 t0:V) (L:List V):M Res :=
 M.ite (L.getD 0 .undef)
 (M.blk 2 (
 (M.lift (Ax.nilck t1)).bind fun t28 =>
 (M.lift (Ax.faddr 8 t28)).bind fun t29 =>
 (mload none t29).bind fun t30 =>
 M.getH.bind fun h0 =>
 (G zaO [t0,(V.int .i64 2)]).bind fun t32 =>
 M.getH.bind fun h0' =>
 (M.unch t29 h0 h0').bind fun _ =>
 M.getH.bind fun h1 =>
 (G zaO [t0,(V.int .i64 2)]).bind fun t35 =>
 M.getH.bind fun h1' =>
 (M.unch t29 h1 h1').bind fun _ =>
 (M.lift (Ax.cint .u16 t32)).bind fun t33 =>
 (M.lift (Ax.cint .u16 t35)).bind fun t36 =>
 (M.lift (Ax.build [(V.int .u16 0),(V.int .u16 0)] [(0,1,t33),(1,1,t36)])).bind fun t37 =>
 (mslit zkL 1 [(V.int .u16 0),(V.int .u16 0)] [(0,2,t37)]).bind fun t38 =>
 (mappend zkL 2 4 t30 t38).bind fun t39 =>
 (M.lift (Ax.nilck t1)).bind fun t40 =>
 (M.lift (Ax.faddr 8 t40)).bind fun t41 =>
 (mstore 1 t41 t39).bind fun _ =>
 M.pure (.nrm [])) fun _ =>
 (M.lift (Ax.nilck t0)).bind fun t21 =>
 (M.lift (Ax.faddr 0 t21)).bind fun t22 =>
 (mload none t22).bind fun t23 =>
 (M.lift (vlen t23)).bind fun t24 =>
 (M.lift (Ax.bin .gtr t24 (V.int .i64 0))).bind fun t25 =>
 M.pure (.nrm [t25]))
 (M.pure (.ex 1 []))
def zog (G:Sem') (t1 t0:V) (L:List V):M Res :=
 M.ite (L.getD 0 .undef)
 (M.blk 4 (
 (M.lift (Ax.nilck t1)).bind fun t53 =>
 (M.lift (Ax.faddr 9 t53)).bind fun t54 =>
 (mload none t54).bind fun t55 =>
 M.getH.bind fun h2 =>
 (G zaq [t0]).bind fun t57 =>
 M.getH.bind fun h2' =>
 (M.unch t54 h2 h2').bind fun _ =>
 M.getH.bind fun h3 =>
 (G zaO [t0,(V.int .i64 1)]).bind fun t59 =>
 M.getH.bind fun h3' =>
 (M.unch t54 h3 h3').bind fun _ =>
 (M.lift (Ax.cint .u8 t59)).bind fun t60 =>
 (M.lift (Ax.build [(V.int .u32 0),(V.int .u8 0)] [(0,1,t57),(1,1,t60)])).bind fun t61 =>
 (mslit zl3 1 [(V.int .u32 0),(V.int .u8 0)] [(0,2,t61)]).bind fun t62 =>
 (mappend zl3 2 8 t55 t62).bind fun t63 =>
 (M.lift (Ax.nilck t1)).bind fun t64 =>
 (M.lift (Ax.faddr 9 t64)).bind fun t65 =>
 (mstore 1 t65 t63).bind fun _ =>
 (G zaO [t0,(V.int .i64 3)]).bind fun t67 =>
 (M.lift (Ax.bin .neq t67 (V.int .u64 0))).bind fun t68 =>
 M.join (M.ite t68
 ((M.lift (Ax.nilck t0)).bind fun t70 =>
 (M.lift (Ax.faddr 1 t70)).bind fun t71 =>
 (mstore 1 t71 (V.bool true)).bind fun _ =>
 M.pure (.nrm []))
 (M.pure (.nrm []))) fun _ =>
 M.pure (.nrm [])) fun _ =>
 (M.lift (Ax.nilck t0)).bind fun t46 =>
 (M.lift (Ax.faddr 0 t46)).bind fun t47 =>
 (mload none t47).bind fun t48 =>
 (M.lift (vlen t48)).bind fun t49 =>
 (M.lift (Ax.bin .gtr t49 (V.int .i64 0))).bind fun t50 =>
 M.pure (.nrm [t50]))
 (M.pure (.ex 3 []))
def zof (G:Sem') (t93 t1 t0:V) (L:List V):M Res :=
 (M.lift (Ax.bin .lss (L.getD 0 .undef) t93)).bind fun t95 =>
 M.ite t95
 (M.blk 6 (
 (M.lift (Ax.nilck t1)).bind fun t98 =>
 (M.lift (Ax.faddr 12 t98)).bind fun t99 =>
 (mload none t99).bind fun t100 =>
 M.getH.bind fun h4 =>
 (G zaq [t0]).bind fun t102 =>
 M.getH.bind fun h4' =>
 (M.unch t99 h4 h4').bind fun _ =>
 (mslit zej 1 [(V.int .u32 0)] [(0,1,t102)]).bind fun t103 =>
 (mappend zej 1 4 t100 t103).bind fun t104 =>
 (M.lift (Ax.nilck t1)).bind fun t105 =>
 (M.lift (Ax.faddr 12 t105)).bind fun t106 =>
 (mstore 1 t106 t104).bind fun _ =>
 M.pure (.nrm [])) fun _ =>
 (M.lift (Ax.bin .add (L.getD 0 .undef) (V.int .i64 1))).bind fun t107 =>
 M.pure (.nrm [t107]))
 (M.pure (.ex 5 []))
def zj8 (G:Sem') (t0 t1:V):M Res :=
 (G zaq [t0]).bind fun t10 =>
 (M.lift (Ax.nilck t1)).bind fun t11 =>
 (M.lift (Ax.faddr 2 t11)).bind fun t12 =>
 (mstore 1 t12 t10).bind fun _ =>
 (M.lift (Ax.nilck t1)).bind fun t14 =>
 (M.lift (Ax.faddr 0 t14)).bind fun t15 =>
 (mload none t15).bind fun t16 =>
 M.blk 0 (
 (M.lift (Ax.bin .eql t16 (V.int .i64 3))).bind fun t18 =>
 M.join (M.ite t18
 (M.blk 1 (
 M.iter (zoh G t1 t0) [(V.bool true)]) fun _ =>
 M.pure (.nrm []))
 ((M.lift (Ax.bin .eql t16 (V.int .i64 5))).bind fun t43 =>
 M.join (M.ite t43
 (M.blk 3 (
 M.iter (zog G t1 t0) [(V.bool true)]) fun _ =>
 M.pure (.nrm []))
 ((M.lift (Ax.bin .eql t16 (V.int .i64 6))).bind fun t73 =>
 M.join (M.ite t73
 ((G zaq [t0]).bind fun t75 =>
 (G zaO [t0,(V.int .i64 1)]).bind fun t77 =>
 (M.lift (Ax.cint .i64 t77)).bind fun t78 =>
 (G zaO [t0,(V.int .i64 3)]).bind fun t80 =>
 (M.lift (Ax.bin .shr t80 (V.int .u64 18))).bind fun t84 =>
 (M.lift (Ax.cint .i64 t84)).bind fun t85 =>
 (M.lift (Ax.bin .and t80 (V.int .u64 262143))).bind fun t87 =>
 (M.lift (Ax.cint .u32 t87)).bind fun t88 =>
 (M.lift (Ax.nilck t1)).bind fun t89 =>
 (M.lift (Ax.faddr 10 t89)).bind fun t90 =>
 (mstore 1 t90 t85).bind fun _ =>
 (M.lift (Ax.nilck t1)).bind fun t91 =>
 (M.lift (Ax.faddr 11 t91)).bind fun t92 =>
 (mstore 1 t92 t88).bind fun _ =>
 M.blk 5 (
 M.iter (zof G t78 t1 t0) [(V.int .i64 0)]) fun _ =>
 M.pure (.nrm []))
 (M.pure (.nrm []))) fun _ =>
 M.pure (.nrm []))) fun _ =>
 M.pure (.nrm []))) fun _ =>
 M.pure (.nrm [])) fun _ =>
 M.pure (.ret [])
def zgd:Fn':=(T zcz).getD noF
theorem zpc:T zcz = some zgd:=by kernel_rfl
theorem zpt (G:Sem') (t0 t1:V):execK G zgd.rv zgd.body [] [] (params 0 [t0,t1]) = zj8 G t0 t1:=by kernel_rfl
def zgN (G:Sem'):List V → M V
 | [t0,t1]=>fin (zj8 G t0 t1)
 | _=>M.fail
theorem zpV {g:Sem'} (hg:Sims g (sem T)) (args:List V):Sim (zgN g args) (sem T zcz args):=by
 unfold zgN;split
 ·exact zaf zpc (Nat.le_of_ble_eq_true (by kernel_rfl)) hg (zpt g _ _)
 ·exact zaa
end Go.Ax.Cc
/- CiS8 -/
namespace Go.Ax.Cc
open Go.Proofs
def zzk (G:Sem') (t5 t2:V) (L:List V):M Res :=
 (M.lift (Ax.bin .lss (L.getD 1 .undef) (V.int .u16 16))).bind fun t19 =>
 M.ite t19
 (M.blk 3 (
 (M.lift (Ax.faddr 1 t5)).bind fun t21 =>
 (mload none t21).bind fun t22 =>
 (M.lift (Ax.bin .shr t22 (L.getD 1 .undef))).bind fun t24 =>
 (M.lift (Ax.bin .and t24 (V.int .u16 1))).bind fun t25 =>
 (M.lift (Ax.bin .eql t25 (V.int .u16 1))).bind fun t26 =>
 M.join (M.ite t26
 ((M.lift (Ax.faddr 0 t5)).bind fun t28 =>
 (mload none t28).bind fun t29 =>
 (M.lift (Ax.bin .add t29 (L.getD 1 .undef))).bind fun t31 =>
 (M.lift (Ax.bin .add t31 (V.int .u16 1))).bind fun t32 =>
 (mslit zfz 1 [(V.int .u16 0)] [(0,1,t32)]).bind fun t33 =>
 (mappend zfz 1 2 (L.getD 0 .undef) t33).bind fun t34 =>
 M.pure (.nrm [t34]))
 (M.pure (.nrm [(L.getD 0 .undef)]))) fun L0 =>
 M.pure (.nrm [(L0.getD 0 .undef)])) fun L1 =>
 (M.lift (Ax.bin .add (L.getD 1 .undef) (V.int .u16 1))).bind fun t35 =>
 M.pure (.nrm [(L1.getD 0 .undef),t35]))
 (M.pure (.ex 2 [(L.getD 0 .undef)]))
def zzj (G:Sem') (t8 t7 t2:V) (L:List V):M Res :=
 (M.lift (Ax.bin .lss (L.getD 1 .undef) t8)).bind fun t10 =>
 M.ite t10
 (M.blk 1 (
 (M.lift (Ax.iaddr none 2 t7 (L.getD 1 .undef))).bind fun t11 =>
 (mload (some 2) t11).bind fun t12 =>
 (mbox zkL (V.agg [(V.int .u16 0),(V.int .u16 0)])).bind fun t5 =>
 (mstore 2 t5 t12).bind fun _ =>
 (M.lift (Ax.faddr 0 t5)).bind fun t14 =>
 (mload none t14).bind fun t15 =>
 (mslit zfz 1 [(V.int .u16 0)] [(0,1,t15)]).bind fun t16 =>
 (mappend zfz 1 2 (L.getD 0 .undef) t16).bind fun t17 =>
 M.blk 2 (
 M.iter (zzk G t5 t2) [t17,(V.int .u16 0)]) fun L2 =>
 M.pure (.nrm [(L2.getD 0 .undef)])) fun L3 =>
 (M.lift (Ax.bin .add (L.getD 1 .undef) (V.int .i64 1))).bind fun t36 =>
 M.pure (.nrm [(L3.getD 0 .undef),t36]))
 (M.pure (.ex 0 [(L.getD 0 .undef)]))
def zv7 (G:Sem') (t0:V):M Res :=
 (M.lift (vlen t0)).bind fun t8 =>
 M.blk 0 (
 M.iter (zzj G t8 t0 V.nils) [V.nils,(V.int .i64 0)]) fun L4 =>
 M.pure (.ret [(L4.getD 0 .undef)])
def znX:Fn':=(T zg1).getD noF
theorem zz1:T zg1 = some znX:=by kernel_rfl
theorem zBk (G:Sem') (t0:V):execK G znX.rv znX.body [] [] (params 0 [t0]) = zv7 G t0:=by kernel_rfl
def zqC (G:Sem'):List V → M V
 | [t0]=>fin (zv7 G t0)
 | _=>M.fail
theorem zB6 {g:Sem'} (hg:Sims g (sem T)) (args:List V):Sim (zqC g args) (sem T zg1 args):=by
 unfold zqC;split
 ·exact zaf zz1 (Nat.le_of_ble_eq_true (by kernel_rfl)) hg (zBk g _)
 ·exact zaa
def zoi (G:Sem') (t0 t1:V):M Res :=
 (G zdG [t0,t1]).bind fun t9 =>
 (M.lift (Ax.bin .lss t9 (V.int .i64 0))).bind fun t11 =>
 M.ite t11
 (M.pure (.ret [V.nils,(V.bool false)]))
 ((M.lift (Ax.nilck t0)).bind fun t13 =>
 (M.lift (Ax.faddr 0 t13)).bind fun t14 =>
 (mload none t14).bind fun t15 =>
 (M.lift (Ax.iaddr none 2 t15 t9)).bind fun t17 =>
 (M.lift (Ax.faddr 1 t17)).bind fun t18 =>
 (mload none t18).bind fun t19 =>
 (G zaI [t19]).bind fun t20 =>
 M.pure (.ret [t20,(V.bool true)]))
def zi3:Fn':=(T zdU).getD noF
theorem zub:T zdU = some zi3:=by kernel_rfl
theorem zuQ (G:Sem') (t0 t1:V):execK G zi3.rv zi3.body [] [] (params 0 [t0,t1]) = zoi G t0 t1:=by kernel_rfl
def zkn (G:Sem'):List V → M V
 | [t0,t1]=>fin (zoi G t0 t1)
 | _=>M.fail
theorem zvq {g:Sem'} (hg:Sims g (sem T)) (args:List V):Sim (zkn g args) (sem T zdU args):=by
 unfold zkn;split
 ·exact zaf zub (Nat.le_of_ble_eq_true (by kernel_rfl)) hg (zuQ g _ _)
 ·exact zaa
def zlR (G:Sem') (t0:V):M Res :=
 (M.lift (Ax.nilck t0)).bind fun t5 =>
 (M.lift (Ax.faddr 3 t5)).bind fun t6 =>
 (mload (some 3) t6).bind fun t7 =>
 (G zf4 [t7]).bind fun t8 =>
 (M.lift (Ax.ext 0 t8)).bind fun t9 =>
 (M.lift (Ax.ext 1 t8)).bind fun t10 =>
 M.pure (.ret [t9,t10])
def zhp:Fn':=(T zcs).getD noF
theorem zq2:T zcs = some zhp:=by kernel_rfl
theorem zr6 (G:Sem') (t0:V):execK G zhp.rv zhp.body [] [] (params 0 [t0]) = zlR G t0:=by kernel_rfl
def ziy (G:Sem'):List V → M V
 | [t0]=>fin (zlR G t0)
 | _=>M.fail
theorem zsJ {g:Sem'} (hg:Sims g (sem T)) (args:List V):Sim (ziy g args) (sem T zcs args):=by
 unfold ziy;split
 ·exact zaf zq2 (Nat.le_of_ble_eq_true (by kernel_rfl)) hg (zr6 g _)
 ·exact zaa
def zm9 (G:Sem') (t0:V):M Res :=
 (M.lift (Ax.nilck t0)).bind fun t5 =>
 (M.lift (Ax.faddr 3 t5)).bind fun t6 =>
 (M.lift (Ax.faddr 1 t6)).bind fun t7 =>
 (mload none t7).bind fun t8 =>
 (M.lift (Ax.nilck t0)).bind fun t10 =>
 (M.lift (Ax.faddr 3 t10)).bind fun t11 =>
 (M.lift (Ax.faddr 0 t11)).bind fun t12 =>
 (mload none t12).bind fun t13 =>
 M.pure (.ret [t8,t13])
def zh0:Fn':=(T zdv).getD noF
theorem zsm:T zdv = some zh0:=by kernel_rfl
theorem zte (G:Sem') (t0:V):execK G zh0.rv zh0.body [] [] (params 0 [t0]) = zm9 G t0:=by kernel_rfl
def zjn (G:Sem'):List V → M V
 | [t0]=>fin (zm9 G t0)
 | _=>M.fail
theorem zus {g:Sem'} (hg:Sims g (sem T)) (args:List V):Sim (zjn g args) (sem T zdv args):=by
 unfold zjn;split
 ·exact zaf zsm (Nat.le_of_ble_eq_true (by kernel_rfl)) hg (zte g _)
 ·exact zaa
def zyb (G:Sem') (t0 t1:V):M Res :=
 (mbox zd5 t0).bind fun t2 =>
 (mbox zd5 (V.agg [(V.bool false),(V.int .i64 0),(V.int .i64 0)])).bind fun t4 =>
 (mload (some 3) t2).bind fun t6 =>
 (G zeF [t6]).bind fun t7 =>
 (M.lift (Ax.un .not t7)).bind fun t8 =>
 (guarded [(0,t8)] (some (0,false)) (M.pure t1)).bind fun t10 =>
 (guarded [(0,t8)] (some (0,false)) (G zds [t10])).bind fun t11 =>
 (guarded [(0,t8)] (some (0,false)) (M.lift (Ax.un .not t11))).bind fun t12 =>
 (M.lift (Ax.pick t8 (V.bool true) t12)).bind fun t13 =>
 M.ite t13
 ((mload (some 3) t2).bind fun t14 =>
 (mstore 3 t4 t14).bind fun _ =>
 (mload (some 3) t4).bind fun r0 =>
 M.pure (.ret [r0,(V.int .i64 1)]))
 ((M.lift (Ax.faddr 2 t2)).bind fun t16 =>
 (mstore 1 t16 t1).bind fun _ =>
 (mload (some 3) t2).bind fun t17 =>
 (mstore 3 t4 t17).bind fun _ =>
 (mload (some 3) t4).bind fun r0 =>
 M.pure (.ret [r0,(V.int .i64 0)]))
def zqf:Fn':=(T zin).getD noF
theorem zBU:T zin = some zqf:=by kernel_rfl
theorem zCP (G:Sem') (t0 t1:V):execK G zqf.rv zqf.body [] [] (params 0 [t0,t1]) = zyb G t0 t1:=by kernel_rfl
def ztF (G:Sem'):List V → M V
 | [t0,t1]=>fin (zyb G t0 t1)
 | _=>M.fail
theorem zD3 {g:Sem'} (hg:Sims g (sem T)) (args:List V):Sim (ztF g args) (sem T zin args):=by
 unfold ztF;split
 ·exact zaf zBU (Nat.le_of_ble_eq_true (by kernel_rfl)) hg (zCP g _ _)
 ·exact zaa
def zA4 (G:Sem') (t0:V) (L:List V):M Res :=
 (M.lift (vlen (L.getD 0 .undef))).bind fun t11 =>
 (M.lift (Ax.bin .gtr t11 (V.int .i64 0))).bind fun t12 =>
 M.ite t12
 (M.blk 1 (
 (M.lift (Ax.iaddr none 1 (L.getD 0 .undef) (V.int .i64 0))).bind fun t14 =>
 (mload none t14).bind fun t15 =>
 (M.lift (Ax.bin .eql t15 (V.int .u8 0))).bind fun t16 =>
 M.ite t16
 ((M.lift (zbr .sl 1 (L.getD 0 .undef) (some (V.int .i64 1)) none none)).bind fun t18 =>
 M.pure (.ex 1 [t18,(L.getD 1 .undef)]))
 ((M.lift (Ax.bin .eql t0 (V.int .i64 48862))).bind fun t20 =>
 (guarded [(0,t20)] (some (0,true)) (M.pure (L.getD 0 .undef))).bind fun t22 =>
 (guarded [(0,t20)] (some (0,true)) (M.lift (Ax.iaddr none 1 t22 (V.int .i64 0)))).bind fun t23 =>
 (guarded [(0,t20)] (some (0,true)) (mload none t23)).bind fun t24 =>
 (guarded [(0,t20)] (some (0,true)) (M.lift (Ax.bin .shr t24 (V.int .u64 4)))).bind fun t25 =>
 (guarded [(0,t20)] (some (0,true)) (M.lift (Ax.bin .eql t25 (V.int .u8 15)))).bind fun t26 =>
 (M.lift (Ax.pick t20 t26 (V.bool false))).bind fun t27 =>
 M.ite t27
 (M.pure (.ex 0 [(L.getD 1 .undef)]))
 ((G ze8 [t0,(L.getD 0 .undef)]).bind fun t31 =>
 (M.lift (Ax.ext 0 t31)).bind fun t32 =>
 (M.lift (Ax.ext 1 t31)).bind fun t33 =>
 (M.lift (Ax.ext 2 t31)).bind fun t34 =>
 (mbox zek (V.agg [(V.int .i64 0),V.nils])).bind fun t7 =>
 (mstore 2 t7 t32).bind fun _ =>
 (M.lift (Ax.un .not t34)).bind fun t36 =>
 M.ite t36
 (M.pure (.ret [V.nils,(V.bool false)]))
 ((mload (some 2) t7).bind fun t38 =>
 (mslit zek 1 [(V.int .i64 0),V.nils] [(0,2,t38)]).bind fun t39 =>
 (mappend zek 2 32 (L.getD 1 .undef) t39).bind fun t40 =>
 (M.lift (zbr .sl 1 (L.getD 0 .undef) (some t33) none none)).bind fun t43 =>
 M.pure (.nrm [t43,t40]))))) fun L0 =>
 M.pure (.nrm [(L0.getD 0 .undef),(L0.getD 1 .undef)]))
 (M.pure (.ex 0 [(L.getD 1 .undef)]))
def zx0 (G:Sem') (t0 t1:V):M Res :=
 M.blk 0 (
 M.iter (zA4 G t0) [t1,V.nils]) fun L1 =>
 M.pure (.ret [(L1.getD 0 .undef),(V.bool true)])
def zp4:Fn':=(T zig).getD noF
theorem zBJ:T zig = some zp4:=by kernel_rfl
theorem zCE (G:Sem') (t0 t1:V):execK G zp4.rv zp4.body [] [] (params 0 [t0,t1]) = zx0 G t0 t1:=by kernel_rfl
def ztu (G:Sem'):List V → M V
 | [t0,t1]=>fin (zx0 G t0 t1)
 | _=>M.fail
theorem zDS {g:Sem'} (hg:Sims g (sem T)) (args:List V):Sim (ztu g args) (sem T zig args):=by
 unfold ztu;split
 ·exact zaf zBJ (Nat.le_of_ble_eq_true (by kernel_rfl)) hg (zCE g _ _)
 ·exact zaa
def zgu (G:Sem') (t7 t1 t0:V) (L:List V):M Res :=
 (M.lift (Ax.bin .lss (L.getD 0 .undef) t7)).bind fun t9 =>
 M.ite t9
 (M.blk 1 (
 (M.lift (Ax.iaddr none 2 t0 (L.getD 0 .undef))).bind fun t14 =>
 (mload (some 2) t14).bind fun t15 =>
 (callv G t1 [t15]).bind fun t16 =>
 M.ite t16
 (M.pure (.ret [(L.getD 0 .undef)]))
 (M.pure (.nrm []))) fun _ =>
 (M.lift (Ax.bin .add (L.getD 0 .undef) (V.int .i64 1))).bind fun t18 =>
 M.pure (.nrm [t18]))
 (M.pure (.ex 0 []))
def zdO (G:Sem') (t0 t1:V):M Res :=
 (M.lift (vlen t0)).bind fun t7 =>
 M.blk 0 (
 M.iter (zgu G t7 t1 t0) [(V.int .i64 0)]) fun _ =>
 M.pure (.ret [(V.int .i64 (-1))])
def zca:Fn':=(T zaJ).getD noF
theorem zgA:T zaJ = some zca:=by kernel_rfl
theorem zgL (G:Sem') (t0 t1:V):execK G zca.rv zca.body [] [] (params 0 [t0,t1]) = zdO G t0 t1:=by kernel_rfl
def zcl (G:Sem'):List V → M V
 | [t0,t1]=>fin (zdO G t0 t1)
 | _=>M.fail
theorem zhf {g:Sem'} (hg:Sims g (sem T)) (args:List V):Sim (zcl g args) (sem T zaJ args):=by
 unfold zcl;split
 ·exact zaf zgA (Nat.le_of_ble_eq_true (by kernel_rfl)) hg (zgL g _ _)
 ·exact zaa
def zx1 (G:Sem') (t0 t1:V):M Res :=
 (mbox zek t0).bind fun t2 =>
 (M.lift (Ax.faddr 0 t2)).bind fun t4 =>
 (mload none t4).bind fun t5 =>
 (mload none t1).bind fun t6 =>
 (M.lift (Ax.bin .eql t5 t6)).bind fun t7 =>
 M.pure (.ret [t7])
def zp5:Fn':=(T zih).getD noF
theorem zBK:T zih = some zp5:=by kernel_rfl
theorem zCF (G:Sem') (t0 t1:V):execK G zp5.rv zp5.body [] [] (params 0 [t0,t1]) = zx1 G t0 t1:=by kernel_rfl
def ztv (G:Sem'):List V → M V
 | [t0,t1]=>fin (zx1 G t0 t1)
 | _=>M.fail
theorem zDT {g:Sem'} (hg:Sims g (sem T)) (args:List V):Sim (ztv g args) (sem T zih args):=by
 unfold ztv;split
 ·exact zaf zBK (Nat.le_of_ble_eq_true (by kernel_rfl)) hg (zCF g _ _)
 ·exact zaa
def zps (G:Sem') (t19 t0:V) (L:List V):M Res :=
 (M.lift (Ax.bin .lss (L.getD 1 .undef) t19)).bind fun t21 =>
 M.ite t21
 (M.blk 2 (
 (M.lift (Ax.bin .shl (L.getD 0 .undef) (V.int .u64 1))).bind fun t23 =>
 (M.lift (Ax.nilck t0)).bind fun t25 =>
 (M.lift (Ax.faddr 0 t25)).bind fun t26 =>
 (mload none t26).bind fun t27 =>
 (M.lift (Ax.nilck t0)).bind fun t29 =>
 (M.lift (Ax.faddr 1 t29)).bind fun t30 =>
 (mload none t30).bind fun t31 =>
 (M.lift (Ax.bin .quo t31 (V.int .i64 8))).bind fun t32 =>
 (M.lift (Ax.iaddr none 1 t27 t32)).bind fun t33 =>
 (mload none t33).bind fun t34 =>
 (M.lift (Ax.nilck t0)).bind fun t36 =>
 (M.lift (Ax.faddr 1 t36)).bind fun t37 =>
 (mload none t37).bind fun t38 =>
 (M.lift (Ax.bin .rem t38 (V.int .i64 8))).bind fun t39 =>
 (M.lift (Ax.bin .sub (V.int .i64 7) t39)).bind fun t40 =>
 (M.lift (Ax.bin .shr t34 t40)).bind fun t41 =>
 (M.lift (Ax.bin .and t41 (V.int .u8 1))).bind fun t42 =>
 (M.lift (Ax.cint .u64 t42)).bind fun t43 =>
 (M.lift (Ax.bin .or t23 t43)).bind fun t44 =>
 (M.lift (Ax.nilck t0)).bind fun t46 =>
 (M.lift (Ax.faddr 1 t46)).bind fun t47 =>
 (mload none t47).bind fun t48 =>
 (M.lift (Ax.bin .add t48 (V.int .i64 1))).bind fun t49 =>
 (M.lift (Ax.nilck t0)).bind fun t50 =>
 (M.lift (Ax.faddr 1 t50)).bind fun t51 =>
 (mstore 1 t51 t49).bind fun _ =>
 M.pure (.nrm [t44])) fun L1 =>
 (M.lift (Ax.bin .add (L.getD 1 .undef) (V.int .i64 1))).bind fun t52 =>
 M.pure (.nrm [(L1.getD 0 .undef),t52]))
 (M.pure (.ex 1 [(L.getD 0 .undef)]))
def zkV (G:Sem') (t0 t1:V):M Res :=
 M.blk 0 (
 (M.lift (Ax.bin .lss t1 (V.int .i64 0))).bind fun t9 =>
 (guarded [(0,t9)] (some (0,false)) (M.pure t1)).bind fun t11 =>
 (guarded [(0,t9)] (some (0,false)) (M.lift (Ax.bin .gtr t11 (V.int .i64 64)))).bind fun t12 =>
 (M.lift (Ax.pick t9 (V.bool true) t12)).bind fun t13 =>
 M.ite t13
 (M.pure (.ret [(V.int .u64 0),(V.int .i64 1)]))
 ((G zcd [t0]).bind fun t17 =>
 (M.lift (Ax.bin .gtr t1 t17)).bind fun t18 =>
 M.ite t18
 (M.pure (.ret [(V.int .u64 0),(V.int .i64 3)]))
 (M.pure (.nrm [])))) fun _ =>
 M.blk 1 (
 M.iter (zps G t1 t0) [(V.int .u64 0),(V.int .i64 0)]) fun L2 =>
 M.pure (.ret [(L2.getD 0 .undef),(V.int .i64 0)])
def zgH:Fn':=(T zbW).getD noF
theorem zpT:T zbW = some zgH:=by kernel_rfl
theorem zqs (G:Sem') (t0 t1:V):execK G zgH.rv zgH.body [] [] (params 0 [t0,t1]) = zkV G t0 t1:=by kernel_rfl
def zhF (G:Sem'):List V → M V
 | [t0,t1]=>fin (zkV G t0 t1)
 | _=>M.fail
theorem zrg {g:Sem'} (hg:Sims g (sem T)) (args:List V):Sim (zhF g args) (sem T zbW args):=by
 unfold zhF;split
 ·exact zaf zpT (Nat.le_of_ble_eq_true (by kernel_rfl)) hg (zqs g _ _)
 ·exact zaa
def zkb (G:Sem') (t0:V) (L:List V):M Res :=
 (M.lift (Ax.nilck t0)).bind fun t8 =>
 (M.lift (Ax.faddr 1 t8)).bind fun t9 =>
 (mload none t9).bind fun t10 =>
 (M.lift (Ax.bin .eql t10 (V.int .i64 0))).bind fun t11 =>
 M.ite t11
 (M.blk 1 (
 (M.lift (vlen (L.getD 0 .undef))).bind fun t14 =>
 (M.lift (Ax.bin .sub t14 (V.int .i64 1))).bind fun t15 =>
 (M.lift (Ax.iaddr none 5 (L.getD 0 .undef) t15)).bind fun t16 =>
 (M.lift (Ax.faddr 0 t16)).bind fun t17 =>
 (mload none t17).bind fun t18 =>
 (M.lift (vlen (L.getD 0 .undef))).bind fun t21 =>
 (M.lift (Ax.bin .sub t21 (V.int .i64 1))).bind fun t22 =>
 (M.lift (Ax.iaddr none 5 (L.getD 0 .undef) t22)).bind fun t23 =>
 (M.lift (Ax.faddr 1 t23)).bind fun t24 =>
 (mload none t24).bind fun t25 =>
 (M.lift (Ax.build [(V.int .i64 0),(V.int .i64 0),V.nils,V.nils,V.nils] [(0,1,t18),(1,1,t25)])).bind fun t26 =>
 (mbox zaw (V.agg [(V.int .i64 0),(V.int .i64 0),V.nils,V.nils,V.nils])).bind fun t4 =>
 (mstore 5 t4 t26).bind fun _ =>
 (G zam [t0,(V.int .i64 2)]).bind fun t28 =>
 M.blk 2 (
 (M.lift (Ax.bin .eql t28 (V.int .i64 3))).bind fun t30 =>
 M.ite t30
 (M.pure (.ret [(L.getD 0 .undef)]))
 ((M.lift (Ax.bin .eql t28 (V.int .i64 1))).bind fun t33 =>
 M.join (M.ite t33
 ((M.lift (Ax.faddr 1 t4)).bind fun t34 =>
 (mload none t34).bind fun t35 =>
 (M.lift (Ax.bin .add t35 (V.int .i64 1))).bind fun t36 =>
 (M.lift (Ax.faddr 1 t4)).bind fun t37 =>
 (mstore 1 t37 t36).bind fun _ =>
 M.pure (.nrm []))
 ((M.lift (Ax.bin .eql t28 (V.int .i64 2))).bind fun t39 =>
 M.join (M.ite t39
 ((M.lift (Ax.faddr 0 t4)).bind fun t40 =>
 (mload none t40).bind fun t41 =>
 (M.lift (Ax.bin .add t41 (V.int .i64 1))).bind fun t42 =>
 (M.lift (Ax.faddr 0 t4)).bind fun t43 =>
 (mstore 1 t43 t42).bind fun _ =>
 (M.lift (Ax.faddr 1 t4)).bind fun t44 =>
 (mstore 1 t44 (V.int .i64 0)).bind fun _ =>
 M.pure (.nrm []))
 (M.pure (.nrm []))) fun _ =>
 M.pure (.nrm []))) fun _ =>
 M.pure (.nrm []))) fun _ =>
 (M.lift (Ax.faddr 0 t4)).bind fun t45 =>
 (mload none t45).bind fun t46 =>
 (M.lift (Ax.bin .gtr t46 (V.int .i64 3))).bind fun t47 =>
 (guarded [(0,t47)] (some (0,false)) (M.lift (Ax.faddr 1 t4))).bind fun t49 =>
 (guarded [(0,t47)] (some (0,false)) (mload none t49)).bind fun t50 =>
 (guarded [(0,t47)] (some (0,false)) (M.lift (Ax.bin .gtr t50 (V.int .i64 7)))).bind fun t51 =>
 (M.lift (Ax.pick t47 (V.bool true) t51)).bind fun t52 =>
 (guarded [(0,t52)] (some (0,false)) (M.pure (L.getD 0 .undef))).bind fun t54 =>
 (guarded [(0,t52)] (some (0,false)) (M.lift (vlen t54))).bind fun t55 =>
 (guarded [(0,t52)] (some (0,false)) (M.lift (Ax.bin .geq t55 (V.int .i64 64)))).bind fun t56 =>
 (M.lift (Ax.pick t52 (V.bool true) t56)).bind fun t57 =>
 M.join (M.ite t57
 ((G za5 [t0,(V.int .i64 2)]).bind fun t59 =>
 M.pure (.nrm []))
 (M.pure (.nrm []))) fun _ =>
 (mload (some 5) t4).bind fun t61 =>
 (mslit zaw 1 [(V.int .i64 0),(V.int .i64 0),V.nils,V.nils,V.nils] [(0,5,t61)]).bind fun t62 =>
 (mappend zaw 5 88 (L.getD 0 .undef) t62).bind fun t63 =>
 M.pure (.nrm [t63])) fun L4 =>
 M.pure (.nrm [(L4.getD 0 .undef)]))
 (M.pure (.ex 0 [(L.getD 0 .undef)]))
def zgw (G:Sem') (t0:V):M Res :=
 (M.lift (Ax.build [(V.int .i64 0),(V.int .i64 0),V.nils,V.nils,V.nils] [])).bind fun t5 =>
 (mslit zaw 1 [(V.int .i64 0),(V.int .i64 0),V.nils,V.nils,V.nils] [(0,5,t5)]).bind fun t6 =>
 M.blk 0 (
 M.iter (zkb G t0) [t6]) fun L5 =>
 M.pure (.ret [(L5.getD 0 .undef)])
def zdP:Fn':=(T zbA).getD noF
theorem zkB:T zbA = some zdP:=by kernel_rfl
theorem zkJ (G:Sem') (t0:V):execK G zdP.rv zdP.body [] [] (params 0 [t0]) = zgw G t0:=by kernel_rfl
def zed (G:Sem'):List V → M V
 | [t0]=>fin (zgw G t0)
 | _=>M.fail
theorem zk1 {g:Sem'} (hg:Sims g (sem T)) (args:List V):Sim (zed g args) (sem T zbA args):=by
 unfold zed;split
 ·exact zaf zkB (Nat.le_of_ble_eq_true (by kernel_rfl)) hg (zkJ g _)
 ·exact zaa
def zmC (G:Sem') (t0:V) (L:List V):M Res :=
 (G zaC [t0]).bind fun t5 =>
 M.ite t5
 (M.blk 1 (
 (M.lift (vlen (L.getD 0 .undef))).bind fun t7 =>
 (M.lift (Ax.bin .geq t7 (V.int .i64 8))).bind fun t8 =>
 M.ite t8
 ((G za5 [t0,(V.int .i64 4)]).bind fun t10 =>
 M.pure (.ret [V.nils]))
 ((G zam [t0,(V.int .i64 4)]).bind fun t13 =>
 (M.lift (Ax.bin .add t13 (V.int .i64 1))).bind fun t14 =>
 (mslit zeX 1 [(V.int .i64 0)] [(0,1,t14)]).bind fun t15 =>
 (mappend zeX 1 8 (L.getD 0 .undef) t15).bind fun t16 =>
 M.pure (.nrm [t16]))) fun L0 =>
 M.pure (.nrm [(L0.getD 0 .undef)]))
 (M.pure (.ex 0 [(L.getD 0 .undef)]))
def ziU (G:Sem') (t0:V):M Res :=
 M.blk 0 (
 M.iter (zmC G t0) [V.nils]) fun L1 =>
 M.pure (.ret [(L1.getD 0 .undef)])
def zfj:Fn':=(T zb6).getD noF
theorem zno:T zb6 = some zfj:=by kernel_rfl
theorem znz (G:Sem') (t0:V):execK G zfj.rv zfj.body [] [] (params 0 [t0]) = ziU G t0:=by kernel_rfl
def zfN (G:Sem'):List V → M V
 | [t0]=>fin (ziU G t0)
 | _=>M.fail
theorem znK {g:Sem'} (hg:Sims g (sem T)) (args:List V):Sim (zfN g args) (sem T zb6 args):=by
 unfold zfN;split
 ·exact zaf zno (Nat.le_of_ble_eq_true (by kernel_rfl)) hg (znz g _)
 ·exact zaa
def zkU (G:Sem') (t0 t1:V):M Res :=
 (M.lift (Ax.nilck t0)).bind fun t8 =>
 (M.lift (Ax.faddr 1 t8)).bind fun t9 =>
 (mload none t9).bind fun t10 =>
 (M.lift (Ax.bin .neq t10 (V.int .i64 0))).bind fun t11 =>
 M.ite t11
 (M.pure (.ret [(V.int .i64 0)]))
 ((M.lift (Ax.nilck t0)).bind fun t14 =>
 (M.lift (Ax.faddr 0 t14)).bind fun t15 =>
 (mload none t15).bind fun t16 =>
 (M.lift (Ax.cint .u64 t1)).bind fun t18 =>
 (G zcj [t16,t18]).bind fun t19 =>
 (M.lift (Ax.ext 0 t19)).bind fun t20 =>
 (M.lift (Ax.ext 1 t19)).bind fun t21 =>
 (M.lift (Ax.nilck t0)).bind fun t24 =>
 (M.lift (Ax.faddr 1 t24)).bind fun t25 =>
 (mstore 1 t25 t21).bind fun _ =>
 (M.lift (Ax.cint .i64 t20)).bind fun t27 =>
 M.pure (.ret [t27]))
def zgG:Fn':=(T zcc).getD noF
theorem zpS:T zcc = some zgG:=by kernel_rfl
theorem zqr (G:Sem') (t0 t1:V):execK G zgG.rv zgG.body [] [] (params 0 [t0,t1]) = zkU G t0 t1:=by kernel_rfl
def zhE (G:Sem'):List V → M V
 | [t0,t1]=>fin (zkU G t0 t1)
 | _=>M.fail
theorem zrf {g:Sem'} (hg:Sims g (sem T)) (args:List V):Sim (zhE g args) (sem T zcc args):=by
 unfold zhE;split
 ·exact zaf zpS (Nat.le_of_ble_eq_true (by kernel_rfl)) hg (zqr g _ _)
 ·exact zaa
def zrT (G:Sem') (t8 t7 t2:V) (L:List V):M Res :=
 (M.lift (Ax.bin .lss (L.getD 1 .undef) t8)).bind fun t10 =>
 M.ite t10
 (M.blk 1 (
 (M.lift (Ax.iaddr none 5 t7 (L.getD 1 .undef))).bind fun t11 =>
 (mload (some 5) t11).bind fun t12 =>
 (mbox zaw (V.agg [(V.int .i64 0),(V.int .i64 0),V.nils,V.nils,V.nils])).bind fun t5 =>
 (mstore 5 t5 t12).bind fun _ =>
 (M.lift (Ax.faddr 0 t5)).bind fun t14 =>
 (mload none t14).bind fun t15 =>
 (M.lift (Ax.bin .add t15 (V.int .i64 1))).bind fun t16 =>
 (M.lift (Ax.minmax true (L.getD 0 .undef) [t16])).bind fun t17 =>
 M.pure (.nrm [t17])) fun L0 =>
 (M.lift (Ax.bin .add (L.getD 1 .undef) (V.int .i64 1))).bind fun t18 =>
 M.pure (.nrm [(L0.getD 0 .undef),t18]))
 (M.pure (.ex 0 [(L.getD 0 .undef)]))
def znm (G:Sem') (t0:V):M Res :=
 (mbox zan t0).bind fun t1 =>
 (M.lift (Ax.faddr 2 t1)).bind fun t6 =>
 (mload none t6).bind fun t7 =>
 (M.lift (vlen t7)).bind fun t8 =>
 M.blk 0 (
 M.iter (zrT G t8 t7 (V.int .i64 0)) [(V.int .i64 0),(V.int .i64 0)]) fun L1 =>
 M.pure (.ret [(L1.getD 0 .undef)])
def zid:Fn':=(T zcT).getD noF
theorem zsz:T zcT = some zid:=by kernel_rfl
theorem ztr (G:Sem') (t0:V):execK G zid.rv zid.body [] [] (params 0 [t0]) = znm G t0:=by kernel_rfl
def zjC (G:Sem'):List V → M V
 | [t0]=>fin (znm G t0)
 | _=>M.fail
theorem zuH {g:Sem'} (hg:Sims g (sem T)) (args:List V):Sim (zjC g args) (sem T zcT args):=by
 unfold zjC;split
 ·exact zaf zsz (Nat.le_of_ble_eq_true (by kernel_rfl)) hg (ztr g _)
 ·exact zaa
def zos (G:Sem') (t0 t1 t2 t3:V):M Res :=
 (mbox zeX t2).bind fun t6 =>
 (mbox zeX t3).bind fun t7 =>
 (M.lift (vlen t0)).bind fun t10 =>
 (M.lift (Ax.bin .eql t10 t1)).bind fun t12 =>
 (guarded [(0,t12)] (some (0,true)) (M.pure t0)).bind fun t14 =>
 (guarded [(0,t12)] (some (0,true)) (M.pure (.fn zda [t6,t7]))).bind fun t15 =>
 (guarded [(0,t12)] (some (0,true)) (G zbf [t14,t15])).bind fun t16 =>
 (guarded [(0,t12)] (some (0,true)) (M.lift (Ax.un .not t16))).bind fun t17 =>
 (M.lift (Ax.pick t12 t17 (V.bool false))).bind fun t18 =>
 M.pure (.ret [t18])
def zja:Fn':=(T zbt).getD noF
theorem zui:T zbt = some zja:=by kernel_rfl
theorem zuX (G:Sem') (t0 t1 t2 t3:V):execK G zja.rv zja.body [] [] (params 0 [t0,t1,t2,t3]) = zos G t0 t1 t2 t3:=by kernel_rfl
def zkv (G:Sem'):List V → M V
 | [t0,t1,t2,t3]=>fin (zos G t0 t1 t2 t3)
 | _=>M.fail
theorem zvy {g:Sem'} (hg:Sims g (sem T)) (args:List V):Sim (zkv g args) (sem T zbt args):=by
 unfold zkv;split
 ·exact zaf zui (Nat.le_of_ble_eq_true (by kernel_rfl)) hg (zuX g _ _ _ _)
 ·exact zaa
def zs8 (G:Sem') (t11 t10 t3:V) (L:List V):M Res :=
 (M.lift (Ax.bin .lss (L.getD 0 .undef) t11)).bind fun t13 =>
 M.ite t13
 (M.blk 1 (
 (M.lift (Ax.iaddr none 5 t10 (L.getD 0 .undef))).bind fun t15 =>
 (mload (some 5) t15).bind fun t16 =>
 (mbox zaw (V.agg [(V.int .i64 0),(V.int .i64 0),V.nils,V.nils,V.nils])).bind fun t5 =>
 (mstore 5 t5 t16).bind fun _ =>
 (mload (some 5) t3).bind fun t18 =>
 (mload (some 5) t5).bind fun t19 =>
 (G zfe [t18,t19]).bind fun t20 =>
 (M.lift (Ax.ext 0 t20)).bind fun t21 =>
 (M.lift (Ax.ext 1 t20)).bind fun t22 =>
 (M.lift (Ax.un .not t22)).bind fun t24 =>
 (guarded [(0,t24)] (some (0,false)) (M.pure (L.getD 0 .undef))).bind fun t26 =>
 (guarded [(0,t24)] (some (0,false)) (M.lift (Ax.bin .eql t26 (V.int .i64 0)))).bind fun t27 =>
 (guarded [(0,t24)] (some (0,false)) (M.pure t27)).bind fun t28 =>
 (guarded [(0,t28)] (some (0,true)) (M.pure t21)).bind fun t29 =>
 (guarded [(0,t28)] (some (0,true)) (M.lift (Ax.bin .neq t29 (V.int .i64 0)))).bind fun t30 =>
 (guarded [(0,t24)] (some (0,false)) (M.lift (Ax.pick t28 t30 (V.bool false)))).bind fun t31 =>
 (M.lift (Ax.pick t24 (V.bool true) t31)).bind fun t32 =>
 (guarded [(0,t32)] (some (0,false)) (M.lift (Ax.faddr 0 t5))).bind fun t34 =>
 (guarded [(0,t32)] (some (0,false)) (mload none t34)).bind fun t35 =>
 (guarded [(0,t32)] (some (0,false)) (M.lift (Ax.bin .gtr t35 (V.int .i64 3)))).bind fun t36 =>
 (M.lift (Ax.pick t32 (V.bool true) t36)).bind fun t37 =>
 (guarded [(0,t37)] (some (0,false)) (M.lift (Ax.faddr 1 t5))).bind fun t39 =>
 (guarded [(0,t37)] (some (0,false)) (mload none t39)).bind fun t40 =>
 (guarded [(0,t37)] (some (0,false)) (M.lift (Ax.bin .gtr t40 (V.int .i64 7)))).bind fun t41 =>
 (M.lift (Ax.pick t37 (V.bool true) t41)).bind fun t42 =>
 M.ite t42
 (M.pure (.ret [(V.bool false)]))
 ((mload (some 5) t5).bind fun t43 =>
 (mstore 5 t3 t43).bind fun _ =>
 M.pure (.nrm []))) fun _ =>
 (M.lift (Ax.bin .add (L.getD 0 .undef) (V.int .i64 1))).bind fun t44 =>
 M.pure (.nrm [t44]))
 (M.pure (.ex 0 []))
def zou (G:Sem') (t0:V):M Res :=
 (mbox zan t0).bind fun t1 =>
 (M.lift (Ax.build [(V.int .i64 0),(V.int .i64 0),V.nils,V.nils,V.nils] [])).bind fun t8 =>
 (mbox zaw (V.agg [(V.int .i64 0),(V.int .i64 0),V.nils,V.nils,V.nils])).bind fun t3 =>
 (mstore 5 t3 t8).bind fun _ =>
 (M.lift (Ax.faddr 2 t1)).bind fun t9 =>
 (mload none t9).bind fun t10 =>
 (M.lift (vlen t10)).bind fun t11 =>
 M.blk 0 (
 M.iter (zs8 G t11 t10 t3) [(V.int .i64 0)]) fun _ =>
 (M.lift (Ax.faddr 2 t1)).bind fun t45 =>
 (mload none t45).bind fun t46 =>
 (M.lift (vlen t46)).bind fun t47 =>
 (M.lift (Ax.bin .geq t47 (V.int .i64 1))).bind fun t48 =>
 (guarded [(0,t48)] (some (0,true)) (M.lift (Ax.faddr 2 t1))).bind fun t50 =>
 (guarded [(0,t48)] (some (0,true)) (mload none t50)).bind fun t51 =>
 (guarded [(0,t48)] (some (0,true)) (M.lift (vlen t51))).bind fun t52 =>
 (guarded [(0,t48)] (some (0,true)) (M.lift (Ax.bin .leq t52 (V.int .i64 64)))).bind fun t53 =>
 (M.lift (Ax.pick t48 t53 (V.bool false))).bind fun t54 =>
 M.pure (.ret [t54])
def zjb:Fn':=(T zdZ).getD noF
theorem zuj:T zdZ = some zjb:=by kernel_rfl
theorem zuY (G:Sem') (t0:V):execK G zjb.rv zjb.body [] [] (params 0 [t0]) = zou G t0:=by kernel_rfl
def zkw (G:Sem'):List V → M V
 | [t0]=>fin (zou G t0)
 | _=>M.fail
theorem zvz {g:Sem'} (hg:Sims g (sem T)) (args:List V):Sim (zkw g args) (sem T zdZ args):=by
 unfold zkw;split
 ·exact zaf zuj (Nat.le_of_ble_eq_true (by kernel_rfl)) hg (zuY g _)
 ·exact zaa
def zbN (G:Sem') (t0 t1:V):M Res :=
 (G zao [t0,t1]).bind fun t7 =>
 (M.lift (Ax.bin .geq t7 (V.int .i64 0))).bind fun t8 =>
 M.pure (.ret [t8])
def za3:Fn':=(T zal).getD noF
theorem zdh:T zal = some za3:=by kernel_rfl
theorem zdk (G:Sem') (t0 t1:V):execK G za3.rv za3.body [] [] (params 0 [t0,t1]) = zbN G t0 t1:=by kernel_rfl
def za4 (G:Sem'):List V → M V
 | [t0,t1]=>fin (zbN G t0 t1)
 | _=>M.fail
theorem zdl {g:Sem'} (hg:Sims g (sem T)) (args:List V):Sim (za4 g args) (sem T zal args):=by
 unfold za4;split
 ·exact zaf zdh (Nat.le_of_ble_eq_true (by kernel_rfl)) hg (zdk g _ _)
 ·exact zaa
def zoy (G:Sem') (t0 t1:V):M Res :=
 (mbox zaw t0).bind fun t2 =>
 (mload (some 6) t1).bind fun t4 =>
 (mload (some 5) t2).bind fun t5 =>
 (G zbR [t4,t5]).bind fun t6 =>
 (M.lift (Ax.un .not t6)).bind fun t7 =>
 M.pure (.ret [t7])
def zjf:Fn':=(T zd3).getD noF
theorem zun:T zd3 = some zjf:=by kernel_rfl
theorem zu2 (G:Sem') (t0 t1:V):execK G zjf.rv zjf.body [] [] (params 0 [t0,t1]) = zoy G t0 t1:=by kernel_rfl
def zkA (G:Sem'):List V → M V
 | [t0,t1]=>fin (zoy G t0 t1)
 | _=>M.fail
theorem zvD {g:Sem'} (hg:Sims g (sem T)) (args:List V):Sim (zkA g args) (sem T zd3 args):=by
 unfold zkA;split
 ·exact zaf zun (Nat.le_of_ble_eq_true (by kernel_rfl)) hg (zu2 g _ _)
 ·exact zaa
def zhx (G:Sem') (t0 t1:V):M Res :=
 (mbox zan t0).bind fun t2 =>
 (mbox zaw t1).bind fun t3 =>
 (M.lift (Ax.faddr 2 t3)).bind fun t5 =>
 (mload none t5).bind fun t6 =>
 (M.lift (Ax.faddr 1 t2)).bind fun t7 =>
 (mload none t7).bind fun t8 =>
 (G zbt [t6,t8,(V.int .i64 0),(V.int .i64 3)]).bind fun t9 =>
 (guarded [(0,t9)] (some (0,true)) (M.lift (Ax.faddr 3 t3))).bind fun t11 =>
 (guarded [(0,t9)] (some (0,true)) (mload none t11)).bind fun t12 =>
 (guarded [(0,t9)] (some (0,true)) (G zdJ [t12,(V.int .i64 8),(V.int .i64 16)])).bind fun t13 =>
 (M.lift (Ax.pick t9 t13 (V.bool false))).bind fun t14 =>
 (guarded [(0,t14)] (some (0,true)) (M.lift (Ax.faddr 4 t3))).bind fun t16 =>
 (guarded [(0,t14)] (some (0,true)) (mload none t16)).bind fun t17 =>
 (guarded [(0,t14)] (some (0,true)) (M.lift (Ax.faddr 3 t2))).bind fun t18 =>
 (guarded [(0,t14)] (some (0,true)) (mload none t18)).bind fun t19 =>
 (guarded [(0,t14)] (some (0,true)) (G zbt [t17,t19,(V.int .i64 0),(V.int .i64 15)])).bind fun t20 =>
 (M.lift (Ax.pick t14 t20 (V.bool false))).bind fun t21 =>
 M.pure (.ret [t21])
def zen:Fn':=(T zbR).getD noF
theorem zlC:T zbR = some zen:=by kernel_rfl
theorem zlZ (G:Sem') (t0 t1:V):execK G zen.rv zen.body [] [] (params 0 [t0,t1]) = zhx G t0 t1:=by kernel_rfl
def zeW (G:Sem'):List V → M V
 | [t0,t1]=>fin (zhx G t0 t1)
 | _=>M.fail
theorem zmd {g:Sem'} (hg:Sims g (sem T)) (args:List V):Sim (zeW g args) (sem T zbR args):=by
 unfold zeW;split
 ·exact zaf zlC (Nat.le_of_ble_eq_true (by kernel_rfl)) hg (zlZ g _ _)
 ·exact zaa
def zov (G:Sem') (t0:V):M Res :=
 (mbox zaw t0).bind fun t1 =>
 (mbox zaw (V.agg [(V.int .i64 0),(V.int .i64 0),V.nils,V.nils,V.nils])).bind fun t2 =>
 (M.lift (Ax.faddr 2 t1)).bind fun t3 =>
 (mload none t3).bind fun t4 =>
 (M.lift (Ax.faddr 3 t1)).bind fun t6 =>
 (mload none t6).bind fun t7 =>
 (M.lift (Ax.faddr 4 t1)).bind fun t9 =>
 (mload none t9).bind fun t10 =>
 M.getH.bind fun h0 =>
 (G zbm [t4]).bind fun t5 =>
 M.getH.bind fun h0' =>
 (M.unch t9 h0 h0').bind fun _ =>
 (M.unch t6 h0 h0').bind fun _ =>
 M.getH.bind fun h1 =>
 (G zbm [t7]).bind fun t8 =>
 M.getH.bind fun h1' =>
 (M.unch t9 h1 h1').bind fun _ =>
 (G zbm [t10]).bind fun t11 =>
 (M.lift (Ax.faddr 2 t1)).bind fun t12 =>
 (mstore 1 t12 t5).bind fun _ =>
 (M.lift (Ax.faddr 3 t1)).bind fun t13 =>
 (mstore 1 t13 t8).bind fun _ =>
 (M.lift (Ax.faddr 4 t1)).bind fun t14 =>
 (mstore 1 t14 t11).bind fun _ =>
 (mload (some 5) t1).bind fun t15 =>
 (mstore 5 t2 t15).bind fun _ =>
 (mload (some 5) t2).bind fun r0 =>
 M.pure (.ret [r0])
def zjc:Fn':=(T zd0).getD noF
theorem zuk:T zd0 = some zjc:=by kernel_rfl
theorem zuZ (G:Sem') (t0:V):execK G zjc.rv zjc.body [] [] (params 0 [t0]) = zov G t0:=by kernel_rfl
def zkx (G:Sem'):List V → M V
 | [t0]=>fin (zov G t0)
 | _=>M.fail
theorem zvA {g:Sem'} (hg:Sims g (sem T)) (args:List V):Sim (zkx g args) (sem T zd0 args):=by
 unfold zkx;split
 ·exact zaf zuk (Nat.le_of_ble_eq_true (by kernel_rfl)) hg (zuZ g _)
 ·exact zaa
def ziT (G:Sem') (t7 t1 t0:V) (L:List V):M Res :=
 (M.lift (Ax.bin .lss (L.getD 0 .undef) t7)).bind fun t9 =>
 M.ite t9
 (M.blk 1 (
 (M.lift (Ax.iaddr none 1 t0 (L.getD 0 .undef))).bind fun t14 =>
 (mload none t14).bind fun t15 =>
 (M.lift (Ax.bin .eql t1 t15)).bind fun t16 =>
 M.ite t16
 (M.pure (.ret [(L.getD 0 .undef)]))
 (M.pure (.nrm []))) fun _ =>
 (M.lift (Ax.bin .add (L.getD 0 .undef) (V.int .i64 1))).bind fun t18 =>
 M.pure (.nrm [t18]))
 (M.pure (.ex 0 []))
def zfu (G:Sem') (t0 t1:V):M Res :=
 (M.lift (vlen t0)).bind fun t7 =>
 M.blk 0 (
 M.iter (ziT G t7 t1 t0) [(V.int .i64 0)]) fun _ =>
 M.pure (.ret [(V.int .i64 (-1))])
def zdb:Fn':=(T zbh).getD noF
theorem ziX:T zbh = some zdb:=by kernel_rfl
theorem zjg (G:Sem') (t0 t1:V):execK G zdb.rv zdb.body [] [] (params 0 [t0,t1]) = zfu G t0 t1:=by kernel_rfl
def zdn (G:Sem'):List V → M V
 | [t0,t1]=>fin (zfu G t0 t1)
 | _=>M.fail
theorem zjM {g:Sem'} (hg:Sims g (sem T)) (args:List V):Sim (zdn g args) (sem T zbh args):=by
 unfold zdn;split
 ·exact zaf ziX (Nat.le_of_ble_eq_true (by kernel_rfl)) hg (zjg g _ _)
 ·exact zaa
def zx2 (G:Sem') (t0:V):M Res :=
 (mbox zbC t0).bind fun t1 =>
 M.blk 0 (
 (M.lift (Ax.faddr 1 t1)).bind fun t4 =>
 (mload none t4).bind fun t5 =>
 (M.lift (Ax.bin .lss t5 (V.int .i64 0))).bind fun t6 =>
 (guarded [(0,t6)] (some (0,false)) (M.lift (Ax.faddr 1 t1))).bind fun t8 =>
 (guarded [(0,t6)] (some (0,false)) (mload none t8)).bind fun t9 =>
 (guarded [(0,t6)] (some (0,false)) (M.lift (Ax.bin .gtr t9 (V.int .i64 127)))).bind fun t10 =>
 (M.lift (Ax.pick t6 (V.bool true) t10)).bind fun t11 =>
 (guarded [(0,t11)] (some (0,false)) (M.lift (Ax.faddr 5 t1))).bind fun t13 =>
 (guarded [(0,t11)] (some (0,false)) (mload none t13)).bind fun t14 =>
 (guarded [(0,t11)] (some (0,false)) (M.lift (vlen t14))).bind fun t15 =>
 (guarded [(0,t11)] (some (0,false)) (M.lift (Ax.bin .gtr t15 (V.int .i64 15)))).bind fun t16 =>
 (M.lift (Ax.pick t11 (V.bool true) t16)).bind fun t17 =>
 (guarded [(0,t17)] (some (0,false)) (M.lift (Ax.faddr 8 t1))).bind fun t19 =>
 (guarded [(0,t17)] (some (0,false)) (mload none t19)).bind fun t20 =>
 (guarded [(0,t17)] (some (0,false)) (M.lift (Ax.bin .lss t20 (V.int .i64 0)))).bind fun t21 =>
 (M.lift (Ax.pick t17 (V.bool true) t21)).bind fun t22 =>
 (guarded [(0,t22)] (some (0,false)) (M.lift (Ax.faddr 8 t1))).bind fun t24 =>
 (guarded [(0,t22)] (some (0,false)) (mload none t24)).bind fun t25 =>
 (guarded [(0,t22)] (some (0,false)) (M.lift (Ax.bin .gtr t25 (V.int .i64 255)))).bind fun t26 =>
 (M.lift (Ax.pick t22 (V.bool true) t26)).bind fun t27 =>
 M.ite t27
 (M.pure (.ret [(V.bool false)]))
 ((M.lift (Ax.faddr 6 t1)).bind fun t29 =>
 (mload none t29).bind fun t30 =>
 (M.lift (Ax.bin .eql t30 (V.int .i64 0))).bind fun t31 =>
 M.ite t31
 ((M.lift (Ax.faddr 7 t1)).bind fun t32 =>
 (mload none t32).bind fun t33 =>
 (M.lift (vlen t33)).bind fun t34 =>
 (M.lift (Ax.bin .eql t34 (V.int .i64 0))).bind fun t35 =>
 M.pure (.ret [t35]))
 ((M.lift (Ax.faddr 6 t1)).bind fun t37 =>
 (mload none t37).bind fun t38 =>
 (M.lift (Ax.bin .neq t38 (V.int .i64 48862))).bind fun t39 =>
 (guarded [(0,t39)] (some (0,true)) (M.lift (Ax.faddr 6 t1))).bind fun t41 =>
 (guarded [(0,t39)] (some (0,true)) (mload none t41)).bind fun t42 =>
 (guarded [(0,t39)] (some (0,true)) (M.lift (Ax.bin .neq t42 (V.int .i64 4096)))).bind fun t43 =>
 (M.lift (Ax.pick t39 t43 (V.bool false))).bind fun t44 =>
 M.ite t44
 (M.pure (.ret [(V.bool false)]))
 (M.pure (.nrm []))))) fun _ =>
 (M.lift (Ax.faddr 7 t1)).bind fun t45 =>
 (mload none t45).bind fun t46 =>
 (M.pure (.fn zfW [t1])).bind fun t47 =>
 (G zaL [t46,t47]).bind fun t48 =>
 (M.lift (Ax.un .not t48)).bind fun t49 =>
 M.pure (.ret [t49])
def zp6:Fn':=(T zii).getD noF
theorem zBL:T zii = some zp6:=by kernel_rfl
theorem zCG (G:Sem') (t0:V):execK G zp6.rv zp6.body [] [] (params 0 [t0]) = zx2 G t0:=by kernel_rfl
def ztw (G:Sem'):List V → M V
 | [t0]=>fin (zx2 G t0)
 | _=>M.fail
theorem zDU {g:Sem'} (hg:Sims g (sem T)) (args:List V):Sim (ztw g args) (sem T zii args):=by
 unfold ztw;split
 ·exact zaf zBL (Nat.le_of_ble_eq_true (by kernel_rfl)) hg (zCG g _)
 ·exact zaa
def zCB (G:Sem') (t1 t6:V) (L:List V):M Res :=
 (M.lift (Ax.bin .geq (L.getD 1 .undef) (V.int .i64 0))).bind fun t11 =>
 M.ite t11
 (M.blk 1 (
 (M.lift (Ax.bin .mul (V.int .i64 8) (L.getD 1 .undef))).bind fun t17 =>
 (M.lift (Ax.bin .shr t1 t17)).bind fun t18 =>
 (M.lift (Ax.cint .u8 t18)).bind fun t19 =>
 (mslit zaj 1 [(V.int .u8 0)] [(0,1,t19)]).bind fun t20 =>
 (mappend zaj 1 1 (L.getD 0 .undef) t20).bind fun t21 =>
 M.pure (.nrm [t21])) fun L0 =>
 (M.lift (Ax.bin .sub (L.getD 1 .undef) (V.int .i64 1))).bind fun t13 =>
 M.pure (.nrm [(L0.getD 0 .undef),t13]))
 (M.pure (.ex 0 [(L.getD 0 .undef)]))
def zA2 (G:Sem') (t0 t1 t2:V):M Res :=
 (M.lift (Ax.bin .sub t2 (V.int .i64 1))).bind fun t9 =>
 M.blk 0 (
 M.iter (zCB G t1 V.nils) [t0,t9]) fun L1 =>
 M.pure (.ret [(L1.getD 0 .undef)])
def zs0:Fn':=(T zep).getD noF
theorem zDC:T zep = some zs0:=by kernel_rfl
theorem zEs (G:Sem') (t0 t1 t2:V):execK G zs0.rv zs0.body [] [] (params 0 [t0,t1,t2]) = zA2 G t0 t1 t2:=by kernel_rfl
def zwz (G:Sem'):List V → M V
 | [t0,t1,t2]=>fin (zA2 G t0 t1 t2)
 | _=>M.fail
theorem zFj {g:Sem'} (hg:Sims g (sem T)) (args:List V):Sim (zwz g args) (sem T zep args):=by
 unfold zwz;split
 ·exact zaf zDC (Nat.le_of_ble_eq_true (by kernel_rfl)) hg (zEs g _ _ _)
 ·exact zaa
def zvY (G:Sem') (t0:V):M Res :=
 (mbox zbC t0).bind fun t1 =>
 (M.lift (Ax.faddr 5 t1)).bind fun t5 =>
 (mload none t5).bind fun t6 =>
 (M.lift (vlen t6)).bind fun t7 =>
 (M.lift (Ax.bin .or (V.int .i64 128) t7)).bind fun t8 =>
 (M.lift (Ax.cint .u8 t8)).bind fun t9 =>
 (M.lift (Ax.faddr 1 t1)).bind fun t10 =>
 (mload none t10).bind fun t11 =>
 (M.lift (Ax.cint .u8 t11)).bind fun t12 =>
 (M.lift (Ax.faddr 8 t1)).bind fun t13 =>
 (mload none t13).bind fun t14 =>
 (M.lift (Ax.bin .gtr t14 (V.int .i64 0))).bind fun t15 =>
 M.join (M.ite t15
 ((M.lift (Ax.bin .or t9 (V.int .u8 32))).bind fun t17 =>
 M.pure (.nrm [t17]))
 (M.pure (.nrm [t9]))) fun L0 =>
 (M.lift (Ax.faddr 6 t1)).bind fun t18 =>
 (mload none t18).bind fun t19 =>
 (M.lift (Ax.bin .neq t19 (V.int .i64 0))).bind fun t20 =>
 M.join (M.ite t20
 ((M.lift (Ax.bin .or (L0.getD 0 .undef) (V.int .u8 16))).bind fun t22 =>
 M.pure (.nrm [t22]))
 (M.pure (.nrm [(L0.getD 0 .undef)]))) fun L1 =>
 (M.lift (Ax.faddr 0 t1)).bind fun t23 =>
 (mload none t23).bind fun t24 =>
 M.join (M.ite t24
 ((M.lift (Ax.bin .or t12 (V.int .u8 128))).bind fun t26 =>
 M.pure (.nrm [t26]))
 (M.pure (.nrm [t12]))) fun L2 =>
 (mslit zaj 2 [(V.int .u8 0)] [(0,1,(L1.getD 0 .undef)),(1,1,(L2.getD 0 .undef))]).bind fun t29 =>
 M.pure (.ret [t29])
def znQ:Fn':=(T zgW).getD noF
theorem zzU:T zgW = some znQ:=by kernel_rfl
theorem zBd (G:Sem') (t0:V):execK G znQ.rv znQ.body [] [] (params 0 [t0]) = zvY G t0:=by kernel_rfl
def zqv (G:Sem'):List V → M V
 | [t0]=>fin (zvY G t0)
 | _=>M.fail
theorem zBZ {g:Sem'} (hg:Sims g (sem T)) (args:List V):Sim (zqv g args) (sem T zgW args):=by
 unfold zqv;split
 ·exact zaf zzU (Nat.le_of_ble_eq_true (by kernel_rfl)) hg (zBd g _)
 ·exact zaa
def zuM (G:Sem') (t8 t7 t1 t2:V) (L:List V):M Res :=
 (M.lift (Ax.bin .lss (L.getD 1 .undef) t8)).bind fun t10 =>
 M.ite t10
 (M.blk 1 (
 (M.lift (Ax.iaddr none 2 t7 (L.getD 1 .undef))).bind fun t11 =>
 (mload (some 2) t11).bind fun t12 =>
 (mbox zek (V.agg [(V.int .i64 0),V.nils])).bind fun t5 =>
 (mstore 2 t5 t12).bind fun _ =>
 (M.lift (Ax.faddr 6 t1)).bind fun t13 =>
 (mload none t13).bind fun t14 =>
 (M.lift (Ax.bin .eql t14 (V.int .i64 48862))).bind fun t15 =>
 M.join (M.ite t15
 ((M.lift (Ax.faddr 0 t5)).bind fun t17 =>
 (mload none t17).bind fun t18 =>
 (M.lift (Ax.bin .shl t18 (V.int .u64 4))).bind fun t19 =>
 (M.lift (Ax.faddr 1 t5)).bind fun t20 =>
 (mload none t20).bind fun t21 =>
 (M.lift (vlen t21)).bind fun t22 =>
 (M.lift (Ax.bin .sub t22 (V.int .i64 1))).bind fun t23 =>
 (M.lift (Ax.bin .or t19 t23)).bind fun t24 =>
 (M.lift (Ax.cint .u8 t24)).bind fun t25 =>
 (mslit zaj 1 [(V.int .u8 0)] [(0,1,t25)]).bind fun t26 =>
 (mappend zaj 1 1 (L.getD 0 .undef) t26).bind fun t27 =>
 M.pure (.nrm [t27]))
 ((M.lift (Ax.faddr 0 t5)).bind fun t29 =>
 (mload none t29).bind fun t30 =>
 (M.lift (Ax.cint .u8 t30)).bind fun t31 =>
 (M.lift (Ax.faddr 1 t5)).bind fun t32 =>
 (mload none t32).bind fun t33 =>
 (M.lift (vlen t33)).bind fun t34 =>
 (M.lift (Ax.cint .u8 t34)).bind fun t35 =>
 (mslit zaj 2 [(V.int .u8 0)] [(0,1,t31),(1,1,t35)]).bind fun t36 =>
 (mappend zaj 1 1 (L.getD 0 .undef) t36).bind fun t37 =>
 M.pure (.nrm [t37]))) fun L0 =>
 (M.lift (Ax.faddr 1 t5)).bind fun t39 =>
 (mload none t39).bind fun t40 =>
 (mappend zaj 1 1 (L0.getD 0 .undef) t40).bind fun t41 =>
 M.pure (.nrm [t41])) fun L1 =>
 (M.lift (Ax.bin .add (L.getD 1 .undef) (V.int .i64 1))).bind fun t42 =>
 M.pure (.nrm [(L1.getD 0 .undef),t42]))
 (M.pure (.ex 0 [(L.getD 0 .undef)]))
def zuL (G:Sem') (t2:V) (L:List V):M Res :=
 (M.lift (vlen (L.getD 0 .undef))).bind fun t44 =>
 (M.lift (Ax.bin .rem t44 (V.int .i64 4))).bind fun t45 =>
 (M.lift (Ax.bin .neq t45 (V.int .i64 0))).bind fun t46 =>
 M.ite t46
 (M.blk 3 (
 (mslit zaj 1 [(V.int .u8 0)] [(0,1,(V.int .u8 0))]).bind fun t48 =>
 (mappend zaj 1 1 (L.getD 0 .undef) t48).bind fun t49 =>
 M.pure (.nrm [t49])) fun L3 =>
 M.pure (.nrm [(L3.getD 0 .undef)]))
 (M.pure (.ex 2 [(L.getD 0 .undef)]))
def zpC (G:Sem') (t0:V):M Res :=
 (mbox zbC t0).bind fun t1 =>
 (M.lift (Ax.faddr 7 t1)).bind fun t6 =>
 (mload none t6).bind fun t7 =>
 (M.lift (vlen t7)).bind fun t8 =>
 M.blk 0 (
 M.iter (zuM G t8 t7 t1 V.nils) [V.nils,(V.int .i64 0)]) fun L2 =>
 M.blk 2 (
 M.iter (zuL G V.nils) [(L2.getD 0 .undef)]) fun L4 =>
 M.pure (.ret [(L4.getD 0 .undef)])
def zjY:Fn':=(T zer).getD noF
theorem zvd:T zer = some zjY:=by kernel_rfl
theorem zwn (G:Sem') (t0:V):execK G zjY.rv zjY.body [] [] (params 0 [t0]) = zpC G t0:=by kernel_rfl
def zlp (G:Sem'):List V → M V
 | [t0]=>fin (zpC G t0)
 | _=>M.fail
theorem zxb {g:Sem'} (hg:Sims g (sem T)) (args:List V):Sim (zlp g args) (sem T zer args):=by
 unfold zlp;split
 ·exact zaf zvd (Nat.le_of_ble_eq_true (by kernel_rfl)) hg (zwn g _)
 ·exact zaa
def zwj (G:Sem') (t0 t1:V):M Res :=
 (mbox zb7 t0).bind fun t2 =>
 (mbox zan t1).bind fun t3 =>
 (mbox zaw (V.agg [(V.int .i64 0),(V.int .i64 0),V.nils,V.nils,V.nils])).bind fun t4 =>
 (mload (some 19) t2).bind fun t7 =>
 (mload (some 6) t3).bind fun t8 =>
 (G zc2 [t7,t8]).bind fun t9 =>
 (mbox zan (V.agg [(V.int .i64 0),(V.int .i64 0),V.nils,(V.int .i64 0),V.nils,V.nils])).bind fun t6 =>
 (mstore 6 t6 t9).bind fun _ =>
 (mload (some 6) t6).bind fun t10 =>
 (G zcY [t10]).bind fun t11 =>
 (M.lift (Ax.un .not t11)).bind fun t12 =>
 M.ite t12
 ((M.lift (Ax.build [(V.int .i64 0),(V.int .i64 0),V.nils,V.nils,V.nils] [])).bind fun t13 =>
 (mstore 5 t4 t13).bind fun _ =>
 (mload (some 5) t4).bind fun r0 =>
 M.pure (.ret [r0,(V.bool false)]))
 ((mload (some 6) t6).bind fun t14 =>
 (M.lift (Ax.faddr 2 t2)).bind fun t15 =>
 (mload none t15).bind fun t16 =>
 (G zcv [t14,t16]).bind fun t17 =>
 (M.lift (Ax.ext 0 t17)).bind fun t18 =>
 (M.lift (Ax.ext 1 t17)).bind fun t19 =>
 (mstore 5 t4 t18).bind fun _ =>
 (mload (some 5) t4).bind fun r0 =>
 M.pure (.ret [r0,t19]))
def zn8:Fn':=(T zha).getD noF
theorem zAc:T zha = some zn8:=by kernel_rfl
theorem zBv (G:Sem') (t0 t1:V):execK G zn8.rv zn8.body [] [] (params 0 [t0,t1]) = zwj G t0 t1:=by kernel_rfl
def zqP (G:Sem'):List V → M V
 | [t0,t1]=>fin (zwj G t0 t1)
 | _=>M.fail
theorem zCj {g:Sem'} (hg:Sims g (sem T)) (args:List V):Sim (zqP g args) (sem T zha args):=by
 unfold zqP;split
 ·exact zaf zAc (Nat.le_of_ble_eq_true (by kernel_rfl)) hg (zBv g _ _)
 ·exact zaa
def zrU (G:Sem') (t0:V):M Res :=
 (mbox zan t0).bind fun t1 =>
 (M.lift (Ax.faddr 0 t1)).bind fun t3 =>
 (mload none t3).bind fun t4 =>
 (M.lift (Ax.bin .eql t4 (V.int .i64 0))).bind fun t5 =>
 (guarded [(0,t5)] (some (0,true)) (M.lift (Ax.faddr 1 t1))).bind fun t7 =>
 (guarded [(0,t5)] (some (0,true)) (mload none t7)).bind fun t8 =>
 (guarded [(0,t5)] (some (0,true)) (M.lift (Ax.bin .eql t8 (V.int .i64 0)))).bind fun t9 =>
 (M.lift (Ax.pick t5 t9 (V.bool false))).bind fun t10 =>
 (guarded [(0,t10)] (some (0,true)) (M.lift (Ax.faddr 3 t1))).bind fun t12 =>
 (guarded [(0,t10)] (some (0,true)) (mload none t12)).bind fun t13 =>
 (guarded [(0,t10)] (some (0,true)) (M.lift (Ax.bin .eql t13 (V.int .i64 0)))).bind fun t14 =>
 (M.lift (Ax.pick t10 t14 (V.bool false))).bind fun t15 =>
 (guarded [(0,t15)] (some (0,true)) (M.lift (Ax.faddr 2 t1))).bind fun t17 =>
 (guarded [(0,t15)] (some (0,true)) (mload none t17)).bind fun t18 =>
 (guarded [(0,t15)] (some (0,true)) (M.lift (vlen t18))).bind fun t19 =>
 (guarded [(0,t15)] (some (0,true)) (M.lift (Ax.faddr 4 t1))).bind fun t20 =>
 (guarded [(0,t15)] (some (0,true)) (mload none t20)).bind fun t21 =>
 (guarded [(0,t15)] (some (0,true)) (M.lift (vlen t21))).bind fun t22 =>
 (guarded [(0,t15)] (some (0,true)) (M.lift (Ax.bin .add t19 t22))).bind fun t23 =>
 (guarded [(0,t15)] (some (0,true)) (M.lift (Ax.faddr 5 t1))).bind fun t24 =>
 (guarded [(0,t15)] (some (0,true)) (mload none t24)).bind fun t25 =>
 (guarded [(0,t15)] (some (0,true)) (M.lift (vlen t25))).bind fun t26 =>
 (guarded [(0,t15)] (some (0,true)) (M.lift (Ax.bin .add t23 t26))).bind fun t27 =>
 (guarded [(0,t15)] (some (0,true)) (M.lift (Ax.bin .eql t27 (V.int .i64 0)))).bind fun t28 =>
 (M.lift (Ax.pick t15 t28 (V.bool false))).bind fun t29 =>
 M.pure (.ret [t29])
def zlj:Fn':=(T zfd).getD noF
theorem zw5:T zfd = some zlj:=by kernel_rfl
theorem zxH (G:Sem') (t0:V):execK G zlj.rv zlj.body [] [] (params 0 [t0]) = zrU G t0:=by kernel_rfl
def zmU (G:Sem'):List V → M V
 | [t0]=>fin (zrU G t0)
 | _=>M.fail
theorem zyQ {g:Sem'} (hg:Sims g (sem T)) (args:List V):Sim (zmU g args) (sem T zfd args):=by
 unfold zmU;split
 ·exact zaf zw5 (Nat.le_of_ble_eq_true (by kernel_rfl)) hg (zxH g _)
 ·exact zaa
def zlK (G:Sem') (t12 t0 t1:V) (L:List V):M Res :=
 (M.lift (Ax.bin .lss (L.getD 0 .undef) t12)).bind fun t14 =>
 M.ite t14
 (M.blk 1 (
 (M.lift (Ax.iaddr none 1 t0 (L.getD 0 .undef))).bind fun t18 =>
 (mload none t18).bind fun t19 =>
 (M.lift (Ax.iaddr none 1 t1 (L.getD 0 .undef))).bind fun t22 =>
 (mload none t22).bind fun t23 =>
 (M.lift (Ax.bin .neq t19 t23)).bind fun t24 =>
 M.ite t24
 (M.pure (.ret [(V.bool false)]))
 (M.pure (.nrm []))) fun _ =>
 (M.lift (Ax.bin .add (L.getD 0 .undef) (V.int .i64 1))).bind fun t25 =>
 M.pure (.nrm [t25]))
 (M.pure (.ex 0 []))
def zhN (G:Sem') (t0 t1:V):M Res :=
 (M.lift (vlen t0)).bind fun t7 =>
 (M.lift (vlen t1)).bind fun t9 =>
 (M.lift (Ax.bin .neq t7 t9)).bind fun t10 =>
 M.ite t10
 (M.pure (.ret [(V.bool false)]))
 ((M.lift (vlen t0)).bind fun t12 =>
 M.blk 0 (
 M.iter (zlK G t12 t0 t1) [(V.int .i64 0)]) fun _ =>
 M.pure (.ret [(V.bool true)]))
def zeL:Fn':=(T zbl).getD noF
theorem zl4:T zbl = some zeL:=by kernel_rfl
theorem zmD (G:Sem') (t0 t1:V):execK G zeL.rv zeL.body [] [] (params 0 [t0,t1]) = zhN G t0 t1:=by kernel_rfl
def zfm (G:Sem'):List V → M V
 | [t0,t1]=>fin (zhN G t0 t1)
 | _=>M.fail
theorem znp {g:Sem'} (hg:Sims g (sem T)) (args:List V):Sim (zfm g args) (sem T zbl args):=by
 unfold zfm;split
 ·exact zaf zl4 (Nat.le_of_ble_eq_true (by kernel_rfl)) hg (zmD g _ _)
 ·exact zaa
def zpJ (G:Sem') (t0 t1 t2:V):M Res :=
 (M.lift (vlen t0)).bind fun t8 =>
 (M.lift (Ax.bin .leq t8 t1)).bind fun t10 =>
 (guarded [(0,t10)] (some (0,true)) (M.pure t0)).bind fun t12 =>
 (guarded [(0,t10)] (some (0,true)) (M.pure t0)).bind fun t13 =>
 (guarded [(0,t10)] (some (0,true)) (M.lift (vlen t13))).bind fun t14 =>
 (guarded [(0,t10)] (some (0,true)) (M.pure t2)).bind fun t15 =>
 (guarded [(0,t10)] (some (0,true)) (G zbt [t12,t14,(V.int .i64 1),t15])).bind fun t16 =>
 (M.lift (Ax.pick t10 t16 (V.bool false))).bind fun t17 =>
 M.pure (.ret [t17])
def zj5:Fn':=(T zdJ).getD noF
theorem zvk:T zdJ = some zj5:=by kernel_rfl
theorem zwu (G:Sem') (t0 t1 t2:V):execK G zj5.rv zj5.body [] [] (params 0 [t0,t1,t2]) = zpJ G t0 t1 t2:=by kernel_rfl
def zlA (G:Sem'):List V → M V
 | [t0,t1,t2]=>fin (zpJ G t0 t1 t2)
 | _=>M.fail
theorem zxl {g:Sem'} (hg:Sims g (sem T)) (args:List V):Sim (zlA g args) (sem T zdJ args):=by
 unfold zlA;split
 ·exact zaf zvk (Nat.le_of_ble_eq_true (by kernel_rfl)) hg (zwu g _ _ _)
 ·exact zaa
def zBc (G:Sem') (t0 t1 t2:V):M Res :=
 (mbox zd5 t0).bind fun t3 =>
 (mbox zd5 (V.agg [(V.bool false),(V.int .i64 0),(V.int .i64 0)])).bind fun t6 =>
 M.blk 0 (
 (mload (some 3) t3).bind fun t10 =>
 (G zeF [t10]).bind fun t11 =>
 (M.lift (Ax.un .not t11)).bind fun t12 =>
 M.ite t12
 ((mload (some 3) t3).bind fun t13 =>
 (mstore 3 t6 t13).bind fun _ =>
 (mload (some 3) t6).bind fun r0 =>
 M.pure (.ret [r0,(V.bool false),(V.bool false)]))
 ((M.lift (Ax.faddr 2 t3)).bind fun t16 =>
 (mload none t16).bind fun t17 =>
 (M.lift (Ax.bin .eql t1 t17)).bind fun t18 =>
 (guarded [(0,t18)] (some (0,true)) (M.pure t2)).bind fun t20 =>
 (M.lift (Ax.pick t18 t20 (V.bool false))).bind fun t21 =>
 (guarded [(0,t21)] (some (0,true)) (mload (some 3) t3)).bind fun t23 =>
 (guarded [(0,t21)] (some (0,true)) (M.pure t1)).bind fun t24 =>
 (guarded [(0,t21)] (some (0,true)) (G zci [t23,t24])).bind fun t25 =>
 (guarded [(0,t21)] (some (0,true)) (M.lift (Ax.un .not t25))).bind fun t26 =>
 (M.lift (Ax.pick t21 t26 (V.bool false))).bind fun t27 =>
 M.ite t27
 ((M.lift (Ax.faddr 0 t3)).bind fun t29 =>
 (mstore 1 t29 (V.bool true)).bind fun _ =>
 (M.lift (Ax.faddr 1 t3)).bind fun t30 =>
 (mstore 1 t30 t1).bind fun _ =>
 (mload (some 3) t3).bind fun t31 =>
 (mstore 3 t6 t31).bind fun _ =>
 (mload (some 3) t6).bind fun r0 =>
 M.pure (.ret [r0,(V.bool true),(V.bool true)]))
 (M.pure (.nrm [])))) fun _ =>
 (mload (some 3) t3).bind fun t32 =>
 (mload (some 3) t3).bind fun t33 =>
 M.getH.bind fun h0 =>
 (G zci [t33,t1]).bind fun t35 =>
 M.getH.bind fun h0' =>
 (M.unch t3 h0 h0').bind fun _ =>
 (mstore 3 t6 t32).bind fun _ =>
 (mload (some 3) t6).bind fun r0 =>
 M.pure (.ret [r0,t35,(V.bool false)])
def zs5:Fn':=(T zjT).getD noF
theorem zDH:T zjT = some zs5:=by kernel_rfl
theorem zEx (G:Sem') (t0 t1 t2:V):execK G zs5.rv zs5.body [] [] (params 0 [t0,t1,t2]) = zBc G t0 t1 t2:=by kernel_rfl
def zwF (G:Sem'):List V → M V
 | [t0,t1,t2]=>fin (zBc G t0 t1 t2)
 | _=>M.fail
theorem zFp {g:Sem'} (hg:Sims g (sem T)) (args:List V):Sim (zwF g args) (sem T zjT args):=by
 unfold zwF;split
 ·exact zaf zDH (Nat.le_of_ble_eq_true (by kernel_rfl)) hg (zEx g _ _ _)
 ·exact zaa
end Go.Ax.Cc
/- CiS9 -/
namespace Go.Ax.Cc
open Go.Proofs
def zlO (G:Sem') (t0:V):M Res :=
 (M.lift (Ax.nilck t0)).bind fun t4 =>
 (M.lift (Ax.faddr 13 t4)).bind fun t5 =>
 (mstore 1 t5 V.nils).bind fun _ =>
 (M.lift (Ax.nilck t0)).bind fun t6 =>
 (M.lift (Ax.faddr 15 t6)).bind fun t7 =>
 (mstore 1 t7 (V.bool false)).bind fun _ =>
 M.pure (.ret [])
def zhm:Fn':=(T zc5).getD noF
theorem zqZ:T zc5 = some zhm:=by kernel_rfl
theorem zr3 (G:Sem') (t0:V):execK G zhm.rv zhm.body [] [] (params 0 [t0]) = zlO G t0:=by kernel_rfl
def ziv (G:Sem'):List V → M V
 | [t0]=>fin (zlO G t0)
 | _=>M.fail
theorem zsG {g:Sem'} (hg:Sims g (sem T)) (args:List V):Sim (ziv g args) (sem T zc5 args):=by
 unfold ziv;split
 ·exact zaf zqZ (Nat.le_of_ble_eq_true (by kernel_rfl)) hg (zr3 g _)
 ·exact zaa
def ztQ (G:Sem') (t0 t1 t2 t3:V):M Res :=
 (mbox ziM t0).bind fun t4 =>
 (mbox ziM (V.agg [(V.bool false),(V.int .u16 0),(V.int .u32 0),(V.int .u32 0),(V.int .u16 0),(V.int .u16 0),(V.int .i64 0)])).bind fun t8 =>
 (M.lift (Ax.faddr 3 t4)).bind fun t9 =>
 (mstore 1 t9 (V.int .u32 0)).bind fun _ =>
 (M.lift (Ax.faddr 5 t4)).bind fun t10 =>
 (mstore 1 t10 (V.int .u16 0)).bind fun _ =>
 (M.lift (Ax.faddr 0 t4)).bind fun t11 =>
 (mload none t11).bind fun t12 =>
 M.join (M.ite t12
 ((M.lift (Ax.faddr 2 t4)).bind fun t13 =>
 (mload none t13).bind fun t14 =>
 (M.lift (Ax.faddr 6 t4)).bind fun t15 =>
 (mload none t15).bind fun t16 =>
 M.getH.bind fun h0 =>
 (G zfR [t16,t3]).bind fun t18 =>
 M.getH.bind fun h0' =>
 (M.unch t13 h0 h0').bind fun _ =>
 (M.lift (Ax.bin .mul (V.int .u32 90) t18)).bind fun t19 =>
 (M.lift (Ax.bin .add t14 t19)).bind fun t20 =>
 (M.lift (Ax.bin .sub t20 t1)).bind fun t22 =>
 (M.lift (Ax.faddr 3 t4)).bind fun t23 =>
 (mstore 1 t23 t22).bind fun _ =>
 (M.lift (Ax.faddr 4 t4)).bind fun t24 =>
 (mload none t24).bind fun t25 =>
 (M.lift (Ax.bin .add t25 (V.int .u16 1))).bind fun t26 =>
 (M.lift (Ax.bin .sub t26 t2)).bind fun t28 =>
 (M.lift (Ax.faddr 5 t4)).bind fun t29 =>
 (mstore 1 t29 t28).bind fun _ =>
 M.pure (.nrm []))
 (M.pure (.nrm []))) fun _ =>
 (mload (some 7) t4).bind fun t30 =>
 (mstore 7 t8 t30).bind fun _ =>
 (mload (some 7) t8).bind fun r0 =>
 M.pure (.ret [r0])
def zmi:Fn':=(T zfS).getD noF
theorem zyk:T zfS = some zmi:=by kernel_rfl
theorem zzq (G:Sem') (t0 t1 t2 t3:V):execK G zmi.rv zmi.body [] [] (params 0 [t0,t1,t2,t3]) = ztQ G t0 t1 t2 t3:=by kernel_rfl
def zoG (G:Sem'):List V → M V
 | [t0,t1,t2,t3]=>fin (ztQ G t0 t1 t2 t3)
 | _=>M.fail
theorem zAj {g:Sem'} (hg:Sims g (sem T)) (args:List V):Sim (zoG g args) (sem T zfS args):=by
 unfold zoG;split
 ·exact zaf zyk (Nat.le_of_ble_eq_true (by kernel_rfl)) hg (zzq g _ _ _ _)
 ·exact zaa
def zzo (G:Sem') (t22 t4 t1 t2 t3 t8 t9:V) (L:List V):M Res :=
 (M.lift (Ax.bin .lss (L.getD 4 .undef) t22)).bind fun t24 =>
 M.ite t24
 (M.blk 1 (
 (mload (some 6) t4).bind fun t27 =>
 (G zd2 [t27,(L.getD 4 .undef)]).bind fun t29 =>
 (M.lift (Ax.ext 0 t29)).bind fun t30 =>
 (M.lift (Ax.ext 1 t29)).bind fun t31 =>
 (M.lift (Ax.ext 2 t29)).bind fun t32 =>
 (M.lift (Ax.un .not t32)).bind fun t34 =>
 (guarded [(0,t34)] (some (0,false)) (M.pure t1)).bind fun t36 =>
 (guarded [(0,t34)] (some (0,false)) (M.pure (L.getD 4 .undef))).bind fun t37 =>
 (guarded [(0,t34)] (some (0,false)) (M.lift (Ax.bin .shr t36 t37))).bind fun t38 =>
 (guarded [(0,t34)] (some (0,false)) (M.lift (Ax.bin .and t38 (V.int .u32 1)))).bind fun t39 =>
 (guarded [(0,t34)] (some (0,false)) (M.lift (Ax.bin .eql t39 (V.int .u32 0)))).bind fun t40 =>
 (M.lift (Ax.pick t34 (V.bool true) t40)).bind fun t41 =>
 (guarded [(0,t41)] (some (0,false)) (M.pure t30)).bind fun t43 =>
 (guarded [(0,t41)] (some (0,false)) (M.pure t2)).bind fun t44 =>
 (guarded [(0,t41)] (some (0,false)) (M.lift (Ax.bin .gtr t43 t44))).bind fun t45 =>
 (M.lift (Ax.pick t41 (V.bool true) t45)).bind fun t46 =>
 (guarded [(0,t46)] (some (0,false)) (M.pure t31)).bind fun t48 =>
 (guarded [(0,t46)] (some (0,false)) (M.pure t3)).bind fun t49 =>
 (guarded [(0,t46)] (some (0,false)) (M.lift (Ax.bin .gtr t48 t49))).bind fun t50 =>
 (M.lift (Ax.pick t46 (V.bool true) t50)).bind fun t51 =>
 M.ite t51
 (M.pure (.ex 1 [(L.getD 0 .undef),(L.getD 1 .undef),(L.getD 2 .undef),(L.getD 3 .undef)]))
 ((M.lift (Ax.un .not (L.getD 3 .undef))).bind fun t53 =>
 (guarded [(0,t53)] (some (0,false)) (M.pure t30)).bind fun t55 =>
 (guarded [(0,t53)] (some (0,false)) (M.pure (L.getD 1 .undef))).bind fun t56 =>
 (guarded [(0,t53)] (some (0,false)) (M.lift (Ax.bin .gtr t55 t56))).bind fun t57 =>
 (M.lift (Ax.pick t53 (V.bool true) t57)).bind fun t58 =>
 (guarded [(0,t58)] (some (0,false)) (M.pure t30)).bind fun t60 =>
 (guarded [(0,t58)] (some (0,false)) (M.pure (L.getD 1 .undef))).bind fun t61 =>
 (guarded [(0,t58)] (some (0,false)) (M.lift (Ax.bin .eql t60 t61))).bind fun t62 =>
 (guarded [(0,t58)] (some (0,false)) (M.pure t62)).bind fun t63 =>
 (guarded [(0,t63)] (some (0,true)) (M.pure t31)).bind fun t64 =>
 (guarded [(0,t63)] (some (0,true)) (M.pure (L.getD 2 .undef))).bind fun t65 =>
 (guarded [(0,t63)] (some (0,true)) (M.lift (Ax.bin .gtr t64 t65))).bind fun t66 =>
 (guarded [(0,t58)] (some (0,false)) (M.lift (Ax.pick t63 t66 (V.bool false)))).bind fun t67 =>
 (M.lift (Ax.pick t58 (V.bool true) t67)).bind fun t68 =>
 M.join (M.ite t68
 (M.pure (.nrm [(L.getD 4 .undef),t30,t31,(V.bool true)]))
 (M.pure (.nrm [(L.getD 0 .undef),(L.getD 1 .undef),(L.getD 2 .undef),(L.getD 3 .undef)]))) fun L0 =>
 M.pure (.nrm [(L0.getD 0 .undef),(L0.getD 1 .undef),(L0.getD 2 .undef),(L0.getD 3 .undef)]))) fun L1 =>
 (M.lift (Ax.bin .add (L.getD 4 .undef) (V.int .i64 1))).bind fun t72 =>
 M.pure (.nrm [(L1.getD 0 .undef),(L1.getD 1 .undef),(L1.getD 2 .undef),(L1.getD 3 .undef),t72]))
 (M.pure (.ex 0 [(L.getD 0 .undef),(L.getD 3 .undef)]))
def zwh (G:Sem') (t0 t1 t2 t3:V):M Res :=
 (mbox zan t0).bind fun t4 =>
 (mload (some 6) t4).bind fun t18 =>
 (G zcY [t18]).bind fun t19 =>
 (M.lift (Ax.un .not t19)).bind fun t20 =>
 M.ite t20
 (M.pure (.ret [(V.int .i64 0),(V.bool false)]))
 ((M.lift (Ax.faddr 1 t4)).bind fun t21 =>
 (mload none t21).bind fun t22 =>
 M.blk 0 (
 M.iter (zzo G t22 t4 t1 t2 t3 (V.int .i64 0) (V.bool false)) [(V.int .i64 0),(V.int .i64 0),(V.int .i64 0),(V.bool false),(V.int .i64 0)]) fun L2 =>
 M.pure (.ret [(L2.getD 0 .undef),(L2.getD 1 .undef)]))
def zn6:Fn':=(T zg8).getD noF
theorem zAa:T zg8 = some zn6:=by kernel_rfl
theorem zBt (G:Sem') (t0 t1 t2 t3:V):execK G zn6.rv zn6.body [] [] (params 0 [t0,t1,t2,t3]) = zwh G t0 t1 t2 t3:=by kernel_rfl
def zqL (G:Sem'):List V → M V
 | [t0,t1,t2,t3]=>fin (zwh G t0 t1 t2 t3)
 | _=>M.fail
theorem zCf {g:Sem'} (hg:Sims g (sem T)) (args:List V):Sim (zqL g args) (sem T zg8 args):=by
 unfold zqL;split
 ·exact zaf zAa (Nat.le_of_ble_eq_true (by kernel_rfl)) hg (zBt g _ _ _ _)
 ·exact zaa
def zBa (G:Sem') (t0 t1:V):M Res :=
 (mbox zb7 t0).bind fun t2 =>
 (M.lift (Ax.bin .geq t1 (V.int .i64 0))).bind fun t6 =>
 (guarded [(0,t6)] (some (0,true)) (M.pure t1)).bind fun t8 =>
 (guarded [(0,t6)] (some (0,true)) (M.lift (Ax.faddr 16 t2))).bind fun t9 =>
 (guarded [(0,t6)] (some (0,true)) (mload none t9)).bind fun t10 =>
 (guarded [(0,t6)] (some (0,true)) (M.lift (vlen t10))).bind fun t11 =>
 (guarded [(0,t6)] (some (0,true)) (M.lift (Ax.bin .lss t8 t11))).bind fun t12 =>
 (M.lift (Ax.pick t6 t12 (V.bool false))).bind fun t13 =>
 (guarded [(0,t13)] (some (0,true)) (M.lift (Ax.faddr 16 t2))).bind fun t15 =>
 (guarded [(0,t13)] (some (0,true)) (mload none t15)).bind fun t16 =>
 (guarded [(0,t13)] (some (0,true)) (M.pure t1)).bind fun t17 =>
 (guarded [(0,t13)] (some (0,true)) (M.lift (Ax.iaddr none 1 t16 t17))).bind fun t18 =>
 (guarded [(0,t13)] (some (0,true)) (mload none t18)).bind fun t19 =>
 (guarded [(0,t13)] (some (0,true)) (M.lift (Ax.bin .neq t19 (V.int .i64 0)))).bind fun t20 =>
 (M.lift (Ax.pick t13 t20 (V.bool false))).bind fun t21 =>
 M.pure (.ret [t21])
def zs4:Fn':=(T zjS).getD noF
theorem zDG:T zjS = some zs4:=by kernel_rfl
theorem zEw (G:Sem') (t0 t1:V):execK G zs4.rv zs4.body [] [] (params 0 [t0,t1]) = zBa G t0 t1:=by kernel_rfl
def zwD (G:Sem'):List V → M V
 | [t0,t1]=>fin (zBa G t0 t1)
 | _=>M.fail
theorem zFn {g:Sem'} (hg:Sims g (sem T)) (args:List V):Sim (zwD g args) (sem T zjS args):=by
 unfold zwD;split
 ·exact zaf zDG (Nat.le_of_ble_eq_true (by kernel_rfl)) hg (zEw g _ _)
 ·exact zaa
def zA8 (G:Sem') (t10 t9 t0 t1:V) (L:List V):M Res :=
 (M.lift (Ax.bin .lss (L.getD 0 .undef) t10)).bind fun t12 =>
 M.ite t12
 (M.blk 1 (
 (M.lift (Ax.iaddr none 1 t9 (L.getD 0 .undef))).bind fun t13 =>
 (mload none t13).bind fun t14 =>
 (M.lift (Ax.bin .lss t14 (V.int .i64 1))).bind fun t16 =>
 (guarded [(0,t16)] (some (0,false)) (M.pure t14)).bind fun t18 =>
 (guarded [(0,t16)] (some (0,false)) (M.lift (Ax.bin .gtr t18 (V.int .i64 4096)))).bind fun t19 =>
 (M.lift (Ax.pick t16 (V.bool true) t19)).bind fun t20 =>
 (guarded [(0,t20)] (some (0,false)) (M.pure t0)).bind fun t22 =>
 (guarded [(0,t20)] (some (0,false)) (M.pure t1)).bind fun t23 =>
 (guarded [(0,t20)] (some (0,false)) (M.pure t14)).bind fun t24 =>
 (guarded [(0,t20)] (some (0,false)) (M.lift (Ax.cint .u16 t24))).bind fun t25 =>
 (guarded [(0,t20)] (some (0,false)) (M.lift (Ax.bin .sub t23 t25))).bind fun t26 =>
 (guarded [(0,t20)] (some (0,false)) (G zfK [t22,t26])).bind fun t27 =>
 (guarded [(0,t20)] (some (0,false)) (M.lift (Ax.un .not t27))).bind fun t28 =>
 (M.lift (Ax.pick t20 (V.bool true) t28)).bind fun t29 =>
 M.ite t29
 (M.pure (.ret [(V.bool false)]))
 (M.pure (.nrm []))) fun _ =>
 (M.lift (Ax.bin .add (L.getD 0 .undef) (V.int .i64 1))).bind fun t30 =>
 M.pure (.nrm [t30]))
 (M.pure (.ex 0 []))
def zx7 (G:Sem') (t0 t1 t2:V):M Res :=
 (M.lift (vlen t2)).bind fun t10 =>
 M.blk 0 (
 M.iter (zA8 G t10 t2 t0 t1) [(V.int .i64 0)]) fun _ =>
 M.pure (.ret [(V.bool true)])
def zqb:Fn':=(T zil).getD noF
theorem zBQ:T zil = some zqb:=by kernel_rfl
theorem zCL (G:Sem') (t0 t1 t2:V):execK G zqb.rv zqb.body [] [] (params 0 [t0,t1,t2]) = zx7 G t0 t1 t2:=by kernel_rfl
def ztB (G:Sem'):List V → M V
 | [t0,t1,t2]=>fin (zx7 G t0 t1 t2)
 | _=>M.fail
theorem zDZ {g:Sem'} (hg:Sims g (sem T)) (args:List V):Sim (ztB g args) (sem T zil args):=by
 unfold ztB;split
 ·exact zaf zBQ (Nat.le_of_ble_eq_true (by kernel_rfl)) hg (zCL g _ _ _)
 ·exact zaa
def zxt (G:Sem') (t18 t1 t2:V) (L:List V):M Res :=
 (M.lift (Ax.bin .lss (L.getD 0 .undef) t18)).bind fun t20 =>
 M.ite t20
 (M.blk 1 (
 (M.lift (Ax.faddr 7 t1)).bind fun t22 =>
 (mload none t22).bind fun t23 =>
 (M.lift (Ax.faddr 7 t1)).bind fun t25 =>
 (mload none t25).bind fun t26 =>
 (M.lift (Ax.iaddr none 2 t26 (L.getD 0 .undef))).bind fun t28 =>
 (M.lift (Ax.faddr 1 t28)).bind fun t29 =>
 (mload none t29).bind fun t30 =>
 M.getH.bind fun h2 =>
 (G zaI [t30]).bind fun t31 =>
 M.getH.bind fun h2' =>
 (M.unch t22 h2 h2').bind fun _ =>
 (M.lift (Ax.iaddr none 2 t23 (L.getD 0 .undef))).bind fun t32 =>
 (M.lift (Ax.faddr 1 t32)).bind fun t33 =>
 (mstore 1 t33 t31).bind fun _ =>
 M.pure (.nrm [])) fun _ =>
 (M.lift (Ax.bin .add (L.getD 0 .undef) (V.int .i64 1))).bind fun t34 =>
 M.pure (.nrm [t34]))
 (M.pure (.ex 0 []))
def ztV (G:Sem') (t0:V):M Res :=
 (mbox zbC t0).bind fun t1 =>
 (mbox zbC (V.agg [(V.bool false),(V.int .i64 0),(V.int .u16 0),(V.int .u32 0),(V.int .u32 0),V.nils,(V.int .i64 0),V.nils,(V.int .i64 0),V.nils])).bind fun t2 =>
 (M.lift (Ax.faddr 5 t1)).bind fun t4 =>
 (mload none t4).bind fun t5 =>
 (M.lift (Ax.faddr 9 t1)).bind fun t7 =>
 (mload none t7).bind fun t8 =>
 (M.lift (Ax.faddr 7 t1)).bind fun t10 =>
 (mload none t10).bind fun t11 =>
 M.getH.bind fun h0 =>
 (G zbi [t5]).bind fun t6 =>
 M.getH.bind fun h0' =>
 (M.unch t10 h0 h0').bind fun _ =>
 (M.unch t7 h0 h0').bind fun _ =>
 M.getH.bind fun h1 =>
 (G zaI [t8]).bind fun t9 =>
 M.getH.bind fun h1' =>
 (M.unch t10 h1 h1').bind fun _ =>
 (G za7 [t11]).bind fun t12 =>
 (M.lift (Ax.faddr 5 t1)).bind fun t13 =>
 (mstore 1 t13 t6).bind fun _ =>
 (M.lift (Ax.faddr 9 t1)).bind fun t14 =>
 (mstore 1 t14 t9).bind fun _ =>
 (M.lift (Ax.faddr 7 t1)).bind fun t15 =>
 (mstore 1 t15 t12).bind fun _ =>
 (M.lift (Ax.faddr 7 t1)).bind fun t16 =>
 (mload none t16).bind fun t17 =>
 (M.lift (vlen t17)).bind fun t18 =>
 M.blk 0 (
 M.iter (zxt G t18 t1 t2) [(V.int .i64 0)]) fun _ =>
 (mload (some 10) t1).bind fun t35 =>
 (mstore 10 t2 t35).bind fun _ =>
 (mload (some 10) t2).bind fun r0 =>
 M.pure (.ret [r0])
def zmn:Fn':=(T zfV).getD noF
theorem zyp:T zfV = some zmn:=by kernel_rfl
theorem zzv (G:Sem') (t0:V):execK G zmn.rv zmn.body [] [] (params 0 [t0]) = ztV G t0:=by kernel_rfl
def zoP (G:Sem'):List V → M V
 | [t0]=>fin (ztV G t0)
 | _=>M.fail
theorem zAs {g:Sem'} (hg:Sims g (sem T)) (args:List V):Sim (zoP g args) (sem T zfV args):=by
 unfold zoP;split
 ·exact zaf zyp (Nat.le_of_ble_eq_true (by kernel_rfl)) hg (zzv g _)
 ·exact zaa
def zpE (G:Sem') (t0 t1:V):M Res :=
 (mbox zfz t1).bind fun t3 =>
 (M.lift (Ax.nilck t0)).bind fun t6 =>
 (M.lift (Ax.faddr 0 t6)).bind fun t7 =>
 (mload none t7).bind fun t8 =>
 (M.pure (.fn zdt [t3])).bind fun t9 =>
 (G zaG [t8,t9]).bind fun t10 =>
 M.pure (.ret [t10])
def zj0:Fn':=(T zdG).getD noF
theorem zvf:T zdG = some zj0:=by kernel_rfl
theorem zwp (G:Sem') (t0 t1:V):execK G zj0.rv zj0.body [] [] (params 0 [t0,t1]) = zpE G t0 t1:=by kernel_rfl
def zlr (G:Sem'):List V → M V
 | [t0,t1]=>fin (zpE G t0 t1)
 | _=>M.fail
theorem zxd {g:Sem'} (hg:Sims g (sem T)) (args:List V):Sim (zlr g args) (sem T zdG args):=by
 unfold zlr;split
 ·exact zaf zvf (Nat.le_of_ble_eq_true (by kernel_rfl)) hg (zwp g _ _)
 ·exact zaa
def zdi (G:Sem') (t0 t1 t2:V):M Res :=
 (M.lift (vlen t0)).bind fun t12 =>
 (M.lift (zbr .sl 2 t0 (some t1) (some t2) (some t12))).bind fun t13 =>
 (M.lift (Ax.bin .eql t1 t2)).bind fun t16 =>
 M.ite t16
 (M.pure (.ret [t0]))
 ((M.lift (vlen t0)).bind fun t19 =>
 (M.lift (zbr .sl 2 t0 none (some t1) none)).bind fun t22 =>
 (M.lift (zbr .sl 2 t0 (some t2) none none)).bind fun t25 =>
 (mappend zjL 2 32 t22 t25).bind fun t26 =>
 (M.lift (vlen t26)).bind fun t29 =>
 (mslice2 2 t26 t29 t19).bind fun t31 =>
 (mclear [(V.int .u16 0),V.nils] t31).bind fun _ =>
 M.pure (.ret [t26]))
def zb0:Fn':=(T zaz).getD noF
theorem zfO:T zaz = some zb0:=by kernel_rfl
theorem zf6 (G:Sem') (t0 t1 t2:V):execK G zb0.rv zb0.body [] [] (params 0 [t0,t1,t2]) = zdi G t0 t1 t2:=by kernel_rfl
def zb3 (G:Sem'):List V → M V
 | [t0,t1,t2]=>fin (zdi G t0 t1 t2)
 | _=>M.fail
theorem zgb {g:Sem'} (hg:Sims g (sem T)) (args:List V):Sim (zb3 g args) (sem T zaz args):=by
 unfold zb3;split
 ·exact zaf zfO (Nat.le_of_ble_eq_true (by kernel_rfl)) hg (zf6 g _ _ _)
 ·exact zaa
def zck (G:Sem') (t0 t1:V):M Res :=
 (G zay [t0,t1]).bind fun t7 =>
 (M.lift (Ax.bin .geq t7 (V.int .i64 0))).bind fun t8 =>
 M.pure (.ret [t8])
def zbq:Fn':=(T zar).getD noF
theorem zeg:T zar = some zbq:=by kernel_rfl
theorem zeh (G:Sem') (t0 t1:V):execK G zbq.rv zbq.body [] [] (params 0 [t0,t1]) = zck G t0 t1:=by kernel_rfl
def zby (G:Sem'):List V → M V
 | [t0,t1]=>fin (zck G t0 t1)
 | _=>M.fail
theorem zel {g:Sem'} (hg:Sims g (sem T)) (args:List V):Sim (zby g args) (sem T zar args):=by
 unfold zby;split
 ·exact zaf zeg (Nat.le_of_ble_eq_true (by kernel_rfl)) hg (zeh g _ _)
 ·exact zaa
def zpD (G:Sem') (t0:V):M Res :=
 (mbox za2 t0).bind fun t1 =>
 (mload (some 16) t1).bind fun t3 =>
 (G zg2 [t3]).bind fun t4 =>
 (M.lift (Ax.un .not t4)).bind fun t5 =>
 M.pure (.ret [t5])
def zjZ:Fn':=(T zes).getD noF
theorem zve:T zes = some zjZ:=by kernel_rfl
theorem zwo (G:Sem') (t0:V):execK G zjZ.rv zjZ.body [] [] (params 0 [t0]) = zpD G t0:=by kernel_rfl
def zlq (G:Sem'):List V → M V
 | [t0]=>fin (zpD G t0)
 | _=>M.fail
theorem zxc {g:Sem'} (hg:Sims g (sem T)) (args:List V):Sim (zlq g args) (sem T zes args):=by
 unfold zlq;split
 ·exact zaf zve (Nat.le_of_ble_eq_true (by kernel_rfl)) hg (zwo g _)
 ·exact zaa
def zv8 (G:Sem') (t0:V):M Res :=
 (mbox za2 t0).bind fun t1 =>
 (M.lift (Ax.faddr 0 t1)).bind fun t3 =>
 (mload none t3).bind fun t4 =>
 (M.lift (Ax.bin .lss t4 (V.int .i64 1))).bind fun t5 =>
 (guarded [(0,t5)] (some (0,false)) (M.lift (Ax.faddr 0 t1))).bind fun t7 =>
 (guarded [(0,t5)] (some (0,false)) (mload none t7)).bind fun t8 =>
 (guarded [(0,t5)] (some (0,false)) (M.lift (Ax.bin .gtr t8 (V.int .i64 7)))).bind fun t9 =>
 (M.lift (Ax.pick t5 (V.bool true) t9)).bind fun t10 =>
 (guarded [(0,t10)] (some (0,false)) (mload (some 16) t1)).bind fun t12 =>
 (guarded [(0,t10)] (some (0,false)) (mload (some 16) t1)).bind fun t13 =>
 M.getH.bind fun h0 =>
 (guarded [(0,t10)] (some (0,false)) (G zgZ [t13])).bind fun t14 =>
 M.getH.bind fun h0' =>
 (M.unch t1 h0 h0').bind fun _ =>
 (guarded [(0,t10)] (some (0,false)) (G zfX [t12,t14])).bind fun t15 =>
 (guarded [(0,t10)] (some (0,false)) (M.lift (Ax.un .not t15))).bind fun t16 =>
 (M.lift (Ax.pick t10 (V.bool true) t16)).bind fun t17 =>
 M.ite t17
 (M.pure (.ret [(V.bool false)]))
 ((M.lift (Ax.faddr 0 t1)).bind fun t18 =>
 (mload none t18).bind fun t19 =>
 M.blk 0 (
 (M.lift (Ax.bin .eql t19 (V.int .i64 1))).bind fun t21 =>
 M.join (M.ite t21
 (M.pure (.nrm [t21]))
 ((M.lift (Ax.bin .eql t19 (V.int .i64 2))).bind fun t22 =>
 M.pure (.nrm [t22]))) fun L0 =>
 M.ite (L0.getD 0 .undef)
 ((M.lift (Ax.faddr 7 t1)).bind fun t23 =>
 (mload none t23).bind fun t24 =>
 (M.lift (vlen t24)).bind fun t25 =>
 (M.lift (Ax.bin .leq t25 (V.int .i64 31))).bind fun t26 =>
 (guarded [(0,t26)] (some (0,true)) (M.lift (Ax.faddr 7 t1))).bind fun t28 =>
 (guarded [(0,t26)] (some (0,true)) (mload none t28)).bind fun t29 =>
 (guarded [(0,t26)] (some (0,true)) (G zau [t29,(V.fn zfa [])])).bind fun t30 =>
 (guarded [(0,t26)] (some (0,true)) (M.lift (Ax.un .not t30))).bind fun t31 =>
 (M.lift (Ax.pick t26 t31 (V.bool false))).bind fun t32 =>
 M.pure (.ret [t32]))
 ((M.lift (Ax.bin .eql t19 (V.int .i64 3))).bind fun t34 =>
 M.ite t34
 ((M.lift (Ax.faddr 8 t1)).bind fun t35 =>
 (mload none t35).bind fun t36 =>
 (M.lift (vlen t36)).bind fun t37 =>
 (M.lift (Ax.bin .gtr t37 (V.int .i64 0))).bind fun t38 =>
 M.pure (.ret [t38]))
 ((M.lift (Ax.bin .eql t19 (V.int .i64 5))).bind fun t40 =>
 M.ite t40
 ((M.lift (Ax.faddr 9 t1)).bind fun t41 =>
 (mload none t41).bind fun t42 =>
 (M.lift (vlen t42)).bind fun t43 =>
 (M.lift (Ax.bin .gtr t43 (V.int .i64 0))).bind fun t44 =>
 M.pure (.ret [t44]))
 ((M.lift (Ax.bin .eql t19 (V.int .i64 6))).bind fun t46 =>
 M.ite t46
 ((M.lift (Ax.faddr 12 t1)).bind fun t47 =>
 (mload none t47).bind fun t48 =>
 (M.lift (vlen t48)).bind fun t49 =>
 (M.lift (Ax.bin .leq t49 (V.int .i64 255))).bind fun t50 =>
 (guarded [(0,t50)] (some (0,true)) (M.lift (Ax.faddr 10 t1))).bind fun t52 =>
 (guarded [(0,t50)] (some (0,true)) (mload none t52)).bind fun t53 =>
 (guarded [(0,t50)] (some (0,true)) (M.lift (Ax.bin .geq t53 (V.int .i64 0)))).bind fun t54 =>
 (M.lift (Ax.pick t50 t54 (V.bool false))).bind fun t55 =>
 (guarded [(0,t55)] (some (0,true)) (M.lift (Ax.faddr 10 t1))).bind fun t57 =>
 (guarded [(0,t55)] (some (0,true)) (mload none t57)).bind fun t58 =>
 (guarded [(0,t55)] (some (0,true)) (M.lift (Ax.bin .leq t58 (V.int .i64 63)))).bind fun t59 =>
 (M.lift (Ax.pick t55 t59 (V.bool false))).bind fun t60 =>
 (guarded [(0,t60)] (some (0,true)) (M.lift (Ax.faddr 11 t1))).bind fun t62 =>
 (guarded [(0,t60)] (some (0,true)) (mload none t62)).bind fun t63 =>
 (guarded [(0,t60)] (some (0,true)) (M.lift (Ax.bin .lss t63 (V.int .u32 262144)))).bind fun t64 =>
 (M.lift (Ax.pick t60 t64 (V.bool false))).bind fun t65 =>
 M.pure (.ret [t65]))
 ((M.lift (Ax.bin .eql t19 (V.int .i64 7))).bind fun t67 =>
 M.ite t67
 ((M.lift (Ax.faddr 13 t1)).bind fun t68 =>
 (mload none t68).bind fun t69 =>
 (M.lift (Ax.bin .geq t69 (V.int .i64 192))).bind fun t70 =>
 (guarded [(0,t70)] (some (0,true)) (M.lift (Ax.faddr 13 t1))).bind fun t72 =>
 (guarded [(0,t70)] (some (0,true)) (mload none t72)).bind fun t73 =>
 (guarded [(0,t70)] (some (0,true)) (M.lift (Ax.bin .leq t73 (V.int .i64 223)))).bind fun t74 =>
 (M.lift (Ax.pick t70 t74 (V.bool false))).bind fun t75 =>
 (guarded [(0,t75)] (some (0,true)) (M.lift (Ax.faddr 14 t1))).bind fun t77 =>
 (guarded [(0,t75)] (some (0,true)) (mload none t77)).bind fun t78 =>
 (guarded [(0,t75)] (some (0,true)) (M.lift (Ax.bin .geq t78 (V.int .i64 0)))).bind fun t79 =>
 (M.lift (Ax.pick t75 t79 (V.bool false))).bind fun t80 =>
 (guarded [(0,t80)] (some (0,true)) (M.lift (Ax.faddr 14 t1))).bind fun t82 =>
 (guarded [(0,t80)] (some (0,true)) (mload none t82)).bind fun t83 =>
 (guarded [(0,t80)] (some (0,true)) (M.lift (Ax.bin .leq t83 (V.int .i64 31)))).bind fun t84 =>
 (M.lift (Ax.pick t80 t84 (V.bool false))).bind fun t85 =>
 (guarded [(0,t85)] (some (0,true)) (M.lift (Ax.faddr 15 t1))).bind fun t87 =>
 (guarded [(0,t85)] (some (0,true)) (mload none t87)).bind fun t88 =>
 (guarded [(0,t85)] (some (0,true)) (M.lift (vlen t88))).bind fun t89 =>
 (guarded [(0,t85)] (some (0,true)) (M.lift (Ax.bin .rem t89 (V.int .i64 4)))).bind fun t90 =>
 (guarded [(0,t85)] (some (0,true)) (M.lift (Ax.bin .eql t90 (V.int .i64 0)))).bind fun t91 =>
 (M.lift (Ax.pick t85 t91 (V.bool false))).bind fun t92 =>
 (guarded [(0,t92)] (some (0,true)) (M.lift (Ax.faddr 13 t1))).bind fun t94 =>
 (guarded [(0,t92)] (some (0,true)) (mload none t94)).bind fun t95 =>
 (guarded [(0,t92)] (some (0,true)) (M.lift (Ax.faddr 14 t1))).bind fun t96 =>
 (guarded [(0,t92)] (some (0,true)) (mload none t96)).bind fun t97 =>
 (guarded [(0,t92)] (some (0,true)) (M.lift (Ax.faddr 15 t1))).bind fun t98 =>
 (guarded [(0,t92)] (some (0,true)) (mload none t98)).bind fun t99 =>
 (guarded [(0,t92)] (some (0,true)) (G zfJ [t95,t97,t99])).bind fun t100 =>
 (guarded [(0,t92)] (some (0,true)) (M.lift (Ax.bin .eql t100 (V.int .i64 7)))).bind fun t101 =>
 (M.lift (Ax.pick t92 t101 (V.bool false))).bind fun t102 =>
 M.pure (.ret [t102]))
 (M.pure (.nrm []))))))) fun _ =>
 M.pure (.ret [(V.bool true)]))
def znY:Fn':=(T zg2).getD noF
theorem zz2:T zg2 = some znY:=by kernel_rfl
theorem zBl (G:Sem') (t0:V):execK G znY.rv znY.body [] [] (params 0 [t0]) = zv8 G t0:=by kernel_rfl
def zqD (G:Sem'):List V → M V
 | [t0]=>fin (zv8 G t0)
 | _=>M.fail
theorem zB7 {g:Sem'} (hg:Sims g (sem T)) (args:List V):Sim (zqD g args) (sem T zg2 args):=by
 unfold zqD;split
 ·exact zaf zz2 (Nat.le_of_ble_eq_true (by kernel_rfl)) hg (zBl g _)
 ·exact zaa
def zzi (G:Sem') (t32 t31 t3 t4:V) (L:List V):M Res :=
 (M.lift (Ax.bin .lss (L.getD 1 .undef) t32)).bind fun t34 =>
 M.ite t34
 (M.blk 2 (
 (M.lift (Ax.iaddr none 1 t31 (L.getD 1 .undef))).bind fun t35 =>
 (mload none t35).bind fun t36 =>
 (M.lift (Ax.cint .u64 t36)).bind fun t39 =>
 (G zbL [(L.getD 0 .undef),t39,(V.int .i64 4)]).bind fun t40 =>
 M.pure (.nrm [t40])) fun L0 =>
 (M.lift (Ax.bin .add (L.getD 1 .undef) (V.int .i64 1))).bind fun t41 =>
 M.pure (.nrm [(L0.getD 0 .undef),t41]))
 (M.pure (.ex 1 [(L.getD 0 .undef)]))
def zzh (G:Sem') (t77 t76:V) (L:List V):M Res :=
 (M.lift (Ax.bin .lss (L.getD 1 .undef) t77)).bind fun t79 =>
 M.ite t79
 (M.blk 5 (
 (M.lift (Ax.iaddr none 2 t76 (L.getD 1 .undef))).bind fun t80 =>
 (mload (some 2) t80).bind fun t81 =>
 (mbox zkL (V.agg [(V.int .u16 0),(V.int .u16 0)])).bind fun t8 =>
 (mstore 2 t8 t81).bind fun _ =>
 (M.lift (Ax.faddr 0 t8)).bind fun t83 =>
 (mload none t83).bind fun t84 =>
 (M.lift (Ax.cint .u64 t84)).bind fun t85 =>
 (M.lift (Ax.faddr 1 t8)).bind fun t87 =>
 (mload none t87).bind fun t88 =>
 (M.lift (Ax.cint .u64 t88)).bind fun t89 =>
 M.getH.bind fun h2 =>
 (G zbL [(L.getD 0 .undef),t85,(V.int .i64 2)]).bind fun t86 =>
 M.getH.bind fun h2' =>
 (M.unch t87 h2 h2').bind fun _ =>
 (G zbL [t86,t89,(V.int .i64 2)]).bind fun t90 =>
 M.pure (.nrm [t90])) fun L3 =>
 (M.lift (Ax.bin .add (L.getD 1 .undef) (V.int .i64 1))).bind fun t91 =>
 M.pure (.nrm [(L3.getD 0 .undef),t91]))
 (M.pure (.ex 4 [(L.getD 0 .undef)]))
def zzg (G:Sem') (t97 t96:V) (L:List V):M Res :=
 (M.lift (Ax.bin .lss (L.getD 1 .undef) t97)).bind fun t99 =>
 M.ite t99
 (M.blk 7 (
 (M.lift (Ax.iaddr none 2 t96 (L.getD 1 .undef))).bind fun t100 =>
 (mload (some 2) t100).bind fun t101 =>
 (mbox zl3 (V.agg [(V.int .u32 0),(V.int .u8 0)])).bind fun t10 =>
 (mstore 2 t10 t101).bind fun _ =>
 (M.lift (Ax.faddr 0 t10)).bind fun t103 =>
 (mload none t103).bind fun t104 =>
 (M.lift (Ax.cint .u64 t104)).bind fun t105 =>
 (M.lift (Ax.faddr 1 t10)).bind fun t107 =>
 (mload none t107).bind fun t108 =>
 M.getH.bind fun h3 =>
 (G zbL [(L.getD 0 .undef),t105,(V.int .i64 4)]).bind fun t106 =>
 M.getH.bind fun h3' =>
 (M.unch t107 h3 h3').bind fun _ =>
 (mslit zaj 4 [(V.int .u8 0)] [(0,1,t108),(1,1,(V.int .u8 0)),(2,1,(V.int .u8 0)),(3,1,(V.int .u8 0))]).bind fun t109 =>
 (mappend zaj 1 1 t106 t109).bind fun t110 =>
 M.pure (.nrm [t110])) fun L5 =>
 (M.lift (Ax.bin .add (L.getD 1 .undef) (V.int .i64 1))).bind fun t111 =>
 M.pure (.nrm [(L5.getD 0 .undef),t111]))
 (M.pure (.ex 6 [(L.getD 0 .undef)]))
def zzf (G:Sem') (t135 t134:V) (L:List V):M Res :=
 (M.lift (Ax.bin .lss (L.getD 1 .undef) t135)).bind fun t137 =>
 M.ite t137
 (M.blk 9 (
 (M.lift (Ax.iaddr none 1 t134 (L.getD 1 .undef))).bind fun t138 =>
 (mload none t138).bind fun t139 =>
 (M.lift (Ax.cint .u64 t139)).bind fun t142 =>
 (G zbL [(L.getD 0 .undef),t142,(V.int .i64 4)]).bind fun t143 =>
 M.pure (.nrm [t143])) fun L7 =>
 (M.lift (Ax.bin .add (L.getD 1 .undef) (V.int .i64 1))).bind fun t144 =>
 M.pure (.nrm [(L7.getD 0 .undef),t144]))
 (M.pure (.ex 8 [(L.getD 0 .undef)]))
def zv1 (G:Sem') (t0:V):M Res :=
 (mbox za2 t0).bind fun t1 =>
 (M.lift (Ax.faddr 1 t1)).bind fun t13 =>
 (mload none t13).bind fun t14 =>
 (M.lift (Ax.cint .u64 t14)).bind fun t15 =>
 (G zbL [V.nils,t15,(V.int .i64 4)]).bind fun t16 =>
 (M.lift (Ax.faddr 0 t1)).bind fun t17 =>
 (mload none t17).bind fun t18 =>
 M.blk 0 (
 (M.lift (Ax.bin .eql t18 (V.int .i64 1))).bind fun t20 =>
 M.ite t20
 ((M.lift (Ax.faddr 3 t1)).bind fun t22 =>
 (mload none t22).bind fun t23 =>
 (G zbL [t16,t23,(V.int .i64 8)]).bind fun t24 =>
 (M.lift (Ax.faddr 4 t1)).bind fun t25 =>
 (mload none t25).bind fun t26 =>
 (M.lift (Ax.faddr 5 t1)).bind fun t27 =>
 (mload none t27).bind fun t28 =>
 (M.lift (Ax.faddr 6 t1)).bind fun t29 =>
 (mload none t29).bind fun t30 =>
 (mslit zej 3 [(V.int .u32 0)] [(0,1,t26),(1,1,t28),(2,1,t30)]).bind fun t31 =>
 (M.lift (vlen t31)).bind fun t32 =>
 M.blk 1 (
 M.iter (zzi G t32 t31 (V.int .i64 0) (V.int .i64 0)) [t24,(V.int .i64 0)]) fun L1 =>
 (M.lift (Ax.faddr 7 t1)).bind fun t43 =>
 (mload none t43).bind fun t44 =>
 (M.lift (Ax.faddr 7 t1)).bind fun t46 =>
 (mload none t46).bind fun t47 =>
 (M.lift (vlen t47)).bind fun t48 =>
 M.getH.bind fun h0 =>
 (G zea [(L1.getD 0 .undef),t44]).bind fun t45 =>
 M.getH.bind fun h0' =>
 (M.unch t46 h0 h0').bind fun _ =>
 M.pure (.ret [t45,(V.int .i64 200),t48]))
 ((M.lift (Ax.bin .eql t18 (V.int .i64 2))).bind fun t50 =>
 M.ite t50
 ((M.lift (Ax.faddr 7 t1)).bind fun t52 =>
 (mload none t52).bind fun t53 =>
 (M.lift (Ax.faddr 7 t1)).bind fun t55 =>
 (mload none t55).bind fun t56 =>
 (M.lift (vlen t56)).bind fun t57 =>
 M.getH.bind fun h1 =>
 (G zea [t16,t53]).bind fun t54 =>
 M.getH.bind fun h1' =>
 (M.unch t55 h1 h1').bind fun _ =>
 M.pure (.ret [t54,(V.int .i64 201),t57]))
 ((M.lift (Ax.bin .eql t18 (V.int .i64 7))).bind fun t59 =>
 M.ite t59
 ((M.lift (Ax.faddr 15 t1)).bind fun t60 =>
 (mload none t60).bind fun t61 =>
 (M.lift (Ax.faddr 13 t1)).bind fun t62 =>
 (mload none t62).bind fun t63 =>
 (M.lift (Ax.faddr 14 t1)).bind fun t64 =>
 (mload none t64).bind fun t65 =>
 M.pure (.ret [t61,t63,t65]))
 (M.pure (.nrm [t16]))))) fun L2 =>
 (M.lift (Ax.faddr 2 t1)).bind fun t67 =>
 (mload none t67).bind fun t68 =>
 (M.lift (Ax.cint .u64 t68)).bind fun t69 =>
 (G zbL [(L2.getD 0 .undef),t69,(V.int .i64 4)]).bind fun t70 =>
 (M.lift (Ax.faddr 0 t1)).bind fun t71 =>
 (mload none t71).bind fun t72 =>
 M.blk 3 (
 (M.lift (Ax.bin .eql t72 (V.int .i64 3))).bind fun t74 =>
 M.ite t74
 ((M.lift (Ax.faddr 8 t1)).bind fun t75 =>
 (mload none t75).bind fun t76 =>
 (M.lift (vlen t76)).bind fun t77 =>
 M.blk 4 (
 M.iter (zzh G t77 t76) [t70,(V.int .i64 0)]) fun L4 =>
 M.pure (.ret [(L4.getD 0 .undef),(V.int .i64 205),(V.int .i64 1)]))
 ((M.lift (Ax.bin .eql t72 (V.int .i64 5))).bind fun t94 =>
 M.ite t94
 ((M.lift (Ax.faddr 9 t1)).bind fun t95 =>
 (mload none t95).bind fun t96 =>
 (M.lift (vlen t96)).bind fun t97 =>
 M.blk 6 (
 M.iter (zzg G t97 t96) [t70,(V.int .i64 0)]) fun L6 =>
 M.pure (.ret [(L6.getD 0 .undef),(V.int .i64 206),(V.int .i64 4)]))
 ((M.lift (Ax.bin .eql t72 (V.int .i64 6))).bind fun t114 =>
 M.ite t114
 ((M.lift (Ax.faddr 12 t1)).bind fun t117 =>
 (mload none t117).bind fun t118 =>
 (M.lift (vlen t118)).bind fun t119 =>
 (M.lift (Ax.cint .u8 t119)).bind fun t120 =>
 M.getH.bind fun h4 =>
 (mappend zaj 1 1 t70 (V.str ⟨#[82,69,77,66]⟩)).bind fun t116 =>
 M.getH.bind fun h4' =>
 (M.unch t117 h4 h4').bind fun _ =>
 (mslit zaj 1 [(V.int .u8 0)] [(0,1,t120)]).bind fun t121 =>
 (mappend zaj 1 1 t116 t121).bind fun t122 =>
 (M.lift (Ax.faddr 10 t1)).bind fun t124 =>
 (mload none t124).bind fun t125 =>
 (M.lift (Ax.cint .u64 t125)).bind fun t126 =>
 (M.lift (Ax.bin .shl t126 (V.int .u64 18))).bind fun t127 =>
 (M.lift (Ax.faddr 11 t1)).bind fun t128 =>
 (mload none t128).bind fun t129 =>
 (M.lift (Ax.cint .u64 t129)).bind fun t130 =>
 (M.lift (Ax.bin .or t127 t130)).bind fun t131 =>
 (G zbL [t122,t131,(V.int .i64 3)]).bind fun t132 =>
 (M.lift (Ax.faddr 12 t1)).bind fun t133 =>
 (mload none t133).bind fun t134 =>
 (M.lift (vlen t134)).bind fun t135 =>
 M.blk 8 (
 M.iter (zzf G t135 t134) [t132,(V.int .i64 0)]) fun L8 =>
 M.pure (.ret [(L8.getD 0 .undef),(V.int .i64 206),(V.int .i64 15)]))
 (M.pure (.nrm [t70]))))) fun L9 =>
 M.pure (.ret [(L9.getD 0 .undef),(V.int .i64 206),(V.int .i64 1)])
def znT:Fn':=(T zgY).getD noF
theorem zzX:T zgY = some znT:=by kernel_rfl
theorem zBg (G:Sem') (t0:V):execK G znT.rv znT.body [] [] (params 0 [t0]) = zv1 G t0:=by kernel_rfl
def zqy (G:Sem'):List V → M V
 | [t0]=>fin (zv1 G t0)
 | _=>M.fail
theorem zB2 {g:Sem'} (hg:Sims g (sem T)) (args:List V):Sim (zqy g args) (sem T zgY args):=by
 unfold zqy;split
 ·exact zaf zzX (Nat.le_of_ble_eq_true (by kernel_rfl)) hg (zBg g _)
 ·exact zaa
def zA6 (G:Sem') (t1 t6:V) (L:List V):M Res :=
 (M.lift (Ax.bin .geq (L.getD 1 .undef) (V.int .i64 0))).bind fun t11 =>
 M.ite t11
 (M.blk 1 (
 (M.lift (Ax.bin .mul (V.int .i64 8) (L.getD 1 .undef))).bind fun t17 =>
 (M.lift (Ax.bin .shr t1 t17)).bind fun t18 =>
 (M.lift (Ax.cint .u8 t18)).bind fun t19 =>
 (mslit zaj 1 [(V.int .u8 0)] [(0,1,t19)]).bind fun t20 =>
 (mappend zaj 1 1 (L.getD 0 .undef) t20).bind fun t21 =>
 M.pure (.nrm [t21])) fun L0 =>
 (M.lift (Ax.bin .sub (L.getD 1 .undef) (V.int .i64 1))).bind fun t13 =>
 M.pure (.nrm [(L0.getD 0 .undef),t13]))
 (M.pure (.ex 0 [(L.getD 0 .undef)]))
def zx4 (G:Sem') (t0 t1 t2:V):M Res :=
 (M.lift (Ax.bin .sub t2 (V.int .i64 1))).bind fun t9 =>
 M.blk 0 (
 M.iter (zA6 G t1 V.nils) [t0,t9]) fun L1 =>
 M.pure (.ret [(L1.getD 0 .undef)])
def zp8:Fn':=(T zbL).getD noF
theorem zBN:T zbL = some zp8:=by kernel_rfl
theorem zCI (G:Sem') (t0 t1 t2:V):execK G zp8.rv zp8.body [] [] (params 0 [t0,t1,t2]) = zx4 G t0 t1 t2:=by kernel_rfl
def zty (G:Sem'):List V → M V
 | [t0,t1,t2]=>fin (zx4 G t0 t1 t2)
 | _=>M.fail
theorem zDW {g:Sem'} (hg:Sims g (sem T)) (args:List V):Sim (zty g args) (sem T zbL args):=by
 unfold zty;split
 ·exact zaf zBN (Nat.le_of_ble_eq_true (by kernel_rfl)) hg (zCI g _ _ _)
 ·exact zaa
def zkI (G:Sem') (t7 t1 t0:V) (L:List V):M Res :=
 (M.lift (Ax.bin .lss (L.getD 0 .undef) t7)).bind fun t9 =>
 M.ite t9
 (M.blk 1 (
 (M.lift (Ax.iaddr none 1 t0 (L.getD 0 .undef))).bind fun t14 =>
 (mload none t14).bind fun t15 =>
 (M.lift (eqr .bool false t1 t15)).bind fun t16 =>
 M.ite t16
 (M.pure (.ret [(L.getD 0 .undef)]))
 (M.pure (.nrm []))) fun _ =>
 (M.lift (Ax.bin .add (L.getD 0 .undef) (V.int .i64 1))).bind fun t18 =>
 M.pure (.nrm [t18]))
 (M.pure (.ex 0 []))
def zhc (G:Sem') (t0 t1:V):M Res :=
 (M.lift (vlen t0)).bind fun t7 =>
 M.blk 0 (
 M.iter (zkI G t7 t1 t0) [(V.int .i64 0)]) fun _ =>
 M.pure (.ret [(V.int .i64 (-1))])
def zd9:Fn':=(T zbp).getD noF
theorem zkZ:T zbp = some zd9:=by kernel_rfl
theorem zlo (G:Sem') (t0 t1:V):execK G zd9.rv zd9.body [] [] (params 0 [t0,t1]) = zhc G t0 t1:=by kernel_rfl
def zey (G:Sem'):List V → M V
 | [t0,t1]=>fin (zhc G t0 t1)
 | _=>M.fail
theorem zlE {g:Sem'} (hg:Sims g (sem T)) (args:List V):Sim (zey g args) (sem T zbp args):=by
 unfold zey;split
 ·exact zaf zkZ (Nat.le_of_ble_eq_true (by kernel_rfl)) hg (zlo g _ _)
 ·exact zaa
def zt2 (G:Sem') (t0:V):M Res :=
 (M.lift (Ax.bin .geq t0 (V.int .i64 0))).bind fun t4 =>
 (guarded [(0,t4)] (some (0,true)) (M.pure t0)).bind fun t6 =>
 (guarded [(0,t4)] (some (0,true)) (M.lift (Ax.bin .lss t6 (V.int .i64 8)))).bind fun t7 =>
 (M.lift (Ax.pick t4 t7 (V.bool false))).bind fun t8 =>
 M.pure (.ret [t8])
def zmu:Fn':=(T zeR).getD noF
theorem zyw:T zeR = some zmu:=by kernel_rfl
theorem zzC (G:Sem') (t0:V):execK G zmu.rv zmu.body [] [] (params 0 [t0]) = zt2 G t0:=by kernel_rfl
def zoW (G:Sem'):List V → M V
 | [t0]=>fin (zt2 G t0)
 | _=>M.fail
theorem zAz {g:Sem'} (hg:Sims g (sem T)) (args:List V):Sim (zoW g args) (sem T zeR args):=by
 unfold zoW;split
 ·exact zaf zyw (Nat.le_of_ble_eq_true (by kernel_rfl)) hg (zzC g _)
 ·exact zaa
def ztR (G:Sem') (t0:V):M Res :=
 (M.lift (Ax.bin .geq t0 (V.int .i64 0))).bind fun t4 =>
 (guarded [(0,t4)] (some (0,true)) (M.pure t0)).bind fun t6 =>
 (guarded [(0,t4)] (some (0,true)) (M.lift (Ax.bin .lss t6 (V.int .i64 8)))).bind fun t7 =>
 (M.lift (Ax.pick t4 t7 (V.bool false))).bind fun t8 =>
 M.pure (.ret [t8])
def zmj:Fn':=(T zfT).getD noF
theorem zyl:T zfT = some zmj:=by kernel_rfl
theorem zzr (G:Sem') (t0:V):execK G zmj.rv zmj.body [] [] (params 0 [t0]) = ztR G t0:=by kernel_rfl
def zoH (G:Sem'):List V → M V
 | [t0]=>fin (ztR G t0)
 | _=>M.fail
theorem zAk {g:Sem'} (hg:Sims g (sem T)) (args:List V):Sim (zoH g args) (sem T zfT args):=by
 unfold zoH;split
 ·exact zaf zyl (Nat.le_of_ble_eq_true (by kernel_rfl)) hg (zzr g _)
 ·exact zaa
def zhg (G:Sem') (t7 t1 t0:V) (L:List V):M Res :=
 (M.lift (Ax.bin .lss (L.getD 0 .undef) t7)).bind fun t9 =>
 M.ite t9
 (M.blk 1 (
 (M.lift (Ax.iaddr none 1 t0 (L.getD 0 .undef))).bind fun t14 =>
 (mload none t14).bind fun t15 =>
 (callv G t1 [t15]).bind fun t16 =>
 M.ite t16
 (M.pure (.ret [(L.getD 0 .undef)]))
 (M.pure (.nrm []))) fun _ =>
 (M.lift (Ax.bin .add (L.getD 0 .undef) (V.int .i64 1))).bind fun t18 =>
 M.pure (.nrm [t18]))
 (M.pure (.ex 0 []))
def zef (G:Sem') (t0 t1:V):M Res :=
 (M.lift (vlen t0)).bind fun t7 =>
 M.blk 0 (
 M.iter (zhg G t7 t1 t0) [(V.int .i64 0)]) fun _ =>
 M.pure (.ret [(V.int .i64 (-1))])
def zcn:Fn':=(T za0).getD noF
theorem zhi:T za0 = some zcn:=by kernel_rfl
theorem zhy (G:Sem') (t0 t1:V):execK G zcn.rv zcn.body [] [] (params 0 [t0,t1]) = zef G t0 t1:=by kernel_rfl
def zcH (G:Sem'):List V → M V
 | [t0,t1]=>fin (zef G t0 t1)
 | _=>M.fail
theorem zhI {g:Sem'} (hg:Sims g (sem T)) (args:List V):Sim (zcH g args) (sem T za0 args):=by
 unfold zcH;split
 ·exact zaf zhi (Nat.le_of_ble_eq_true (by kernel_rfl)) hg (zhy g _ _)
 ·exact zaa
def zkT (G:Sem') (t0 t1 t2:V):M Res :=
 (mload none t1).bind fun t8 =>
 (mload none t2).bind fun t9 =>
 (G zb2 [t8,t9,t0]).bind fun t11 =>
 (M.lift (Ax.ext 0 t11)).bind fun t12 =>
 (M.lift (Ax.ext 1 t11)).bind fun t13 =>
 (M.lift (Ax.un .not t13)).bind fun t15 =>
 M.pure (.ret [t15])
def zgF:Fn':=(T zcS).getD noF
theorem zpR:T zcS = some zgF:=by kernel_rfl
theorem zqq (G:Sem') (t0 t1 t2:V):execK G zgF.rv zgF.body [] [] (params 0 [t0,t1,t2]) = zkT G t0 t1 t2:=by kernel_rfl
def zhD (G:Sem'):List V → M V
 | [t0,t1,t2]=>fin (zkT G t0 t1 t2)
 | _=>M.fail
theorem zre {g:Sem'} (hg:Sims g (sem T)) (args:List V):Sim (zhD g args) (sem T zcS args):=by
 unfold zhD;split
 ·exact zaf zpR (Nat.le_of_ble_eq_true (by kernel_rfl)) hg (zqq g _ _ _)
 ·exact zaa
def ze2 (G:Sem') (t0 t1 t2:V):M Res :=
 (M.lift (vlen t0)).bind fun t12 =>
 (M.lift (zbr .sl 1 t0 (some t1) (some t2) (some t12))).bind fun t13 =>
 (M.lift (Ax.bin .eql t1 t2)).bind fun t16 =>
 M.ite t16
 (M.pure (.ret [t0]))
 ((M.lift (vlen t0)).bind fun t19 =>
 (M.lift (zbr .sl 1 t0 none (some t1) none)).bind fun t22 =>
 (M.lift (zbr .sl 1 t0 (some t2) none none)).bind fun t25 =>
 (mappend zej 1 4 t22 t25).bind fun t26 =>
 (M.lift (vlen t26)).bind fun t29 =>
 (mslice2 1 t26 t29 t19).bind fun t31 =>
 (mclear [(V.int .u32 0)] t31).bind fun _ =>
 M.pure (.ret [t26]))
def zcZ:Fn':=(T zbe).getD noF
theorem ziO:T zbe = some zcZ:=by kernel_rfl
theorem ziV (G:Sem') (t0 t1 t2:V):execK G zcZ.rv zcZ.body [] [] (params 0 [t0,t1,t2]) = ze2 G t0 t1 t2:=by kernel_rfl
def zdf (G:Sem'):List V → M V
 | [t0,t1,t2]=>fin (ze2 G t0 t1 t2)
 | _=>M.fail
theorem zi0 {g:Sem'} (hg:Sims g (sem T)) (args:List V):Sim (zdf g args) (sem T zbe args):=by
 unfold zdf;split
 ·exact zaf ziO (Nat.le_of_ble_eq_true (by kernel_rfl)) hg (ziV g _ _ _)
 ·exact zaa
def zx5 (G:Sem'):M Res :=
 (M.lift (Ax.build [V.nils] [])).bind fun t1 =>
 (mbox zzQ t1).bind fun t2 =>
 M.pure (.ret [t2])
def zp9:Fn':=(T zik).getD noF
theorem zBO:T zik = some zp9:=by kernel_rfl
theorem zCJ (G:Sem'):execK G zp9.rv zp9.body [] [] (params 0 []) = zx5 G:=by kernel_rfl
def ztz (G:Sem'):List V → M V
 | []=>fin (zx5 G)
 | _=>M.fail
theorem zDX {g:Sem'} (hg:Sims g (sem T)) (args:List V):Sim (ztz g args) (sem T zik args):=by
 unfold ztz;split
 ·exact zaf zBO (Nat.le_of_ble_eq_true (by kernel_rfl)) hg (zCJ g)
 ·exact zaa
def zt6 (G:Sem') (t0:V):M Res :=
 (mbox zd5 t0).bind fun t1 =>
 (mload (some 3) t1).bind fun t4 =>
 (G zeF [t4]).bind fun t5 =>
 (M.lift (Ax.un .not t5)).bind fun t6 =>
 (guarded [(0,t6)] (some (0,false)) (mload (some 3) t1)).bind fun t8 =>
 (guarded [(0,t6)] (some (0,false)) (M.lift (Ax.faddr 2 t1))).bind fun t9 =>
 (guarded [(0,t6)] (some (0,false)) (mload none t9)).bind fun t10 =>
 (guarded [(0,t6)] (some (0,false)) (G zci [t8,t10])).bind fun t11 =>
 (M.lift (Ax.pick t6 (V.bool true) t11)).bind fun t12 =>
 M.ite t12
 (M.pure (.ret [(V.int .i64 0),(V.bool false)]))
 ((M.lift (Ax.faddr 2 t1)).bind fun t13 =>
 (mload none t13).bind fun t14 =>
 M.pure (.ret [t14,(V.bool true)]))
def zmy:Fn':=(T zf4).getD noF
theorem zyA:T zf4 = some zmy:=by kernel_rfl
theorem zzG (G:Sem') (t0:V):execK G zmy.rv zmy.body [] [] (params 0 [t0]) = zt6 G t0:=by kernel_rfl
def zo2 (G:Sem'):List V → M V
 | [t0]=>fin (zt6 G t0)
 | _=>M.fail
theorem zAF {g:Sem'} (hg:Sims g (sem T)) (args:List V):Sim (zo2 g args) (sem T zf4 args):=by
 unfold zo2;split
 ·exact zaf zyA (Nat.le_of_ble_eq_true (by kernel_rfl)) hg (zzG g _)
 ·exact zaa
def zwl (G:Sem') (t0:V):M Res :=
 (mbox zd5 t0).bind fun t1 =>
 (M.lift (Ax.faddr 1 t1)).bind fun t3 =>
 (mload none t3).bind fun t4 =>
 (G zds [t4]).bind fun t5 =>
 (guarded [(0,t5)] (some (0,true)) (M.lift (Ax.faddr 2 t1))).bind fun t7 =>
 (guarded [(0,t5)] (some (0,true)) (mload none t7)).bind fun t8 =>
 (guarded [(0,t5)] (some (0,true)) (G zds [t8])).bind fun t9 =>
 (M.lift (Ax.pick t5 t9 (V.bool false))).bind fun t10 =>
 (guarded [(0,t10)] (some (0,true)) (M.lift (Ax.faddr 0 t1))).bind fun t12 =>
 (guarded [(0,t10)] (some (0,true)) (mload none t12)).bind fun t13 =>
 (guarded [(0,t10)] (some (0,true)) (M.pure t13)).bind fun t14 =>
 (guarded [(0,t14)] (some (0,false)) (M.lift (Ax.faddr 1 t1))).bind fun t15 =>
 (guarded [(0,t14)] (some (0,false)) (mload none t15)).bind fun t16 =>
 (guarded [(0,t14)] (some (0,false)) (M.lift (Ax.bin .eql t16 (V.int .i64 0)))).bind fun t17 =>
 (guarded [(0,t10)] (some (0,true)) (M.lift (Ax.pick t14 (V.bool true) t17))).bind fun t18 =>
 (M.lift (Ax.pick t10 t18 (V.bool false))).bind fun t19 =>
 M.pure (.ret [t19])
def zn9:Fn':=(T zeF).getD noF
theorem zAd:T zeF = some zn9:=by kernel_rfl
theorem zBw (G:Sem') (t0:V):execK G zn9.rv zn9.body [] [] (params 0 [t0]) = zwl G t0:=by kernel_rfl
def zqQ (G:Sem'):List V → M V
 | [t0]=>fin (zwl G t0)
 | _=>M.fail
theorem zCk {g:Sem'} (hg:Sims g (sem T)) (args:List V):Sim (zqQ g args) (sem T zeF args):=by
 unfold zqQ;split
 ·exact zaf zAd (Nat.le_of_ble_eq_true (by kernel_rfl)) hg (zBw g _)
 ·exact zaa
def zrY (G:Sem') (t0:V):M Res :=
 (M.lift (Ax.bin .geq t0 (V.int .i64 0))).bind fun t4 =>
 (guarded [(0,t4)] (some (0,true)) (M.pure t0)).bind fun t6 =>
 (guarded [(0,t4)] (some (0,true)) (M.lift (Ax.bin .lss t6 (V.int .i64 3)))).bind fun t7 =>
 (M.lift (Ax.pick t4 t7 (V.bool false))).bind fun t8 =>
 M.pure (.ret [t8])
def zln:Fn':=(T zds).getD noF
theorem zw9:T zds = some zln:=by kernel_rfl
theorem zxL (G:Sem') (t0:V):execK G zln.rv zln.body [] [] (params 0 [t0]) = zrY G t0:=by kernel_rfl
def zmY (G:Sem'):List V → M V
 | [t0]=>fin (zrY G t0)
 | _=>M.fail
theorem zyU {g:Sem'} (hg:Sims g (sem T)) (args:List V):Sim (zmY g args) (sem T zds args):=by
 unfold zmY;split
 ·exact zaf zw9 (Nat.le_of_ble_eq_true (by kernel_rfl)) hg (zxL g _)
 ·exact zaa
def zrB (G:Sem') (t0 t1:V):M Res :=
 (mbox zek (V.agg [(V.int .i64 0),V.nils])).bind fun t4 =>
 (M.lift (Ax.iaddr none 1 t1 (V.int .i64 0))).bind fun t11 =>
 (mload none t11).bind fun t12 =>
 (M.lift (Ax.cint .i64 t12)).bind fun t13 =>
 (M.lift (Ax.build [(V.int .i64 0),V.nils] [(0,1,t13)])).bind fun t14 =>
 (mbox zek (V.agg [(V.int .i64 0),V.nils])).bind fun t7 =>
 (mstore 2 t7 t14).bind fun _ =>
 (M.lift (Ax.bin .eql t0 (V.int .i64 48862))).bind fun t16 =>
 M.join (M.ite t16
 ((M.lift (Ax.iaddr none 1 t1 (V.int .i64 0))).bind fun t18 =>
 (mload none t18).bind fun t19 =>
 (M.lift (Ax.bin .shr t19 (V.int .u64 4))).bind fun t20 =>
 (M.lift (Ax.cint .i64 t20)).bind fun t21 =>
 (M.lift (Ax.faddr 0 t7)).bind fun t22 =>
 (mstore 1 t22 t21).bind fun _ =>
 (M.lift (Ax.iaddr none 1 t1 (V.int .i64 0))).bind fun t24 =>
 (mload none t24).bind fun t25 =>
 (M.lift (Ax.bin .and t25 (V.int .u8 15))).bind fun t26 =>
 (M.lift (Ax.cint .i64 t26)).bind fun t27 =>
 (M.lift (Ax.bin .add t27 (V.int .i64 1))).bind fun t28 =>
 M.pure (.nrm [(V.int .i64 1),t28]))
 ((M.lift (vlen t1)).bind fun t30 =>
 (M.lift (Ax.bin .gtr t30 (V.int .i64 1))).bind fun t31 =>
 M.join (M.ite t31
 ((M.lift (Ax.iaddr none 1 t1 (V.int .i64 1))).bind fun t33 =>
 (mload none t33).bind fun t34 =>
 (M.lift (Ax.cint .i64 t34)).bind fun t35 =>
 M.pure (.nrm [t35]))
 (M.pure (.nrm [(V.int .i64 0)]))) fun L0 =>
 M.pure (.nrm [(V.int .i64 2),(L0.getD 0 .undef)]))) fun L1 =>
 (M.lift (Ax.faddr 0 t7)).bind fun t36 =>
 (mload none t36).bind fun t37 =>
 (M.lift (Ax.bin .eql t37 (V.int .i64 0))).bind fun t38 =>
 (guarded [(0,t38)] (some (0,false)) (M.pure t1)).bind fun t40 =>
 (guarded [(0,t38)] (some (0,false)) (M.lift (vlen t40))).bind fun t41 =>
 (guarded [(0,t38)] (some (0,false)) (M.pure (L1.getD 0 .undef))).bind fun t42 =>
 (guarded [(0,t38)] (some (0,false)) (M.pure (L1.getD 1 .undef))).bind fun t43 =>
 (guarded [(0,t38)] (some (0,false)) (M.lift (Ax.bin .add t42 t43))).bind fun t44 =>
 (guarded [(0,t38)] (some (0,false)) (M.lift (Ax.bin .lss t41 t44))).bind fun t45 =>
 (M.lift (Ax.pick t38 (V.bool true) t45)).bind fun t46 =>
 M.ite t46
 ((M.lift (Ax.build [(V.int .i64 0),V.nils] [])).bind fun t47 =>
 (mstore 2 t4 t47).bind fun _ =>
 (mload (some 2) t4).bind fun r0 =>
 M.pure (.ret [r0,(V.int .i64 0),(V.bool false)]))
 ((M.lift (Ax.bin .add (L1.getD 0 .undef) (L1.getD 1 .undef))).bind fun t52 =>
 (M.lift (zbr .sl 1 t1 (some (L1.getD 0 .undef)) (some t52) none)).bind fun t53 =>
 (G zaI [t53]).bind fun t54 =>
 (M.lift (Ax.faddr 1 t7)).bind fun t55 =>
 (mstore 1 t55 t54).bind fun _ =>
 (mload (some 2) t7).bind fun t56 =>
 (M.lift (Ax.bin .add (L1.getD 0 .undef) (L1.getD 1 .undef))).bind fun t59 =>
 (mstore 2 t4 t56).bind fun _ =>
 (mload (some 2) t4).bind fun r0 =>
 M.pure (.ret [r0,t59,(V.bool true)]))
def zla:Fn':=(T ze8).getD noF
theorem zwW:T ze8 = some zla:=by kernel_rfl
theorem zxy (G:Sem') (t0 t1:V):execK G zla.rv zla.body [] [] (params 0 [t0,t1]) = zrB G t0 t1:=by kernel_rfl
def zmK (G:Sem'):List V → M V
 | [t0,t1]=>fin (zrB G t0 t1)
 | _=>M.fail
theorem zyG {g:Sem'} (hg:Sims g (sem T)) (args:List V):Sim (zmK g args) (sem T ze8 args):=by
 unfold zmK;split
 ·exact zaf zwW (Nat.le_of_ble_eq_true (by kernel_rfl)) hg (zxy g _ _)
 ·exact zaa
def zjK (G:Sem') (t0 t1:V):M Res :=
 (M.lift (Ax.bin .lss t1 (V.int .u64 1))).bind fun t13 =>
 (guarded [(0,t13)] (some (0,false)) (M.pure t1)).bind fun t15 =>
 (guarded [(0,t13)] (some (0,false)) (M.lift (Ax.bin .gtr t15 (V.int .u64 4294967296)))).bind fun t16 =>
 (M.lift (Ax.pick t13 (V.bool true) t16)).bind fun t17 =>
 M.ite t17
 (M.pure (.ret [(V.int .u64 0),(V.int .i64 1)]))
 ((M.lift (Ax.nilck t0)).bind fun t19 =>
 (M.lift (Ax.faddr 1 t19)).bind fun t20 =>
 (mload none t20).bind fun t21 =>
 (G zf5 [t1]).bind fun t24 =>
 (M.lift (Ax.ext 0 t24)).bind fun t25 =>
 (M.lift (Ax.ext 1 t24)).bind fun t26 =>
 (M.lift (Ax.bin .sub t25 (V.int .i64 1))).bind fun t30 =>
 (G zbW [t0,t30]).bind fun t31 =>
 (M.lift (Ax.ext 0 t31)).bind fun t32 =>
 (M.lift (Ax.ext 1 t31)).bind fun t33 =>
 (M.lift (Ax.bin .neq t33 (V.int .i64 0))).bind fun t35 =>
 (guarded [(0,t35)] (some (0,false)) (M.pure t32)).bind fun t37 =>
 (guarded [(0,t35)] (some (0,false)) (M.pure t26)).bind fun t38 =>
 (guarded [(0,t35)] (some (0,false)) (M.lift (Ax.bin .lss t37 t38))).bind fun t39 =>
 (M.lift (Ax.pick t35 (V.bool true) t39)).bind fun t40 =>
 M.ite t40
 (M.pure (.ret [t32,t33]))
 ((G zbW [t0,(V.int .i64 1)]).bind fun t45 =>
 (M.lift (Ax.ext 0 t45)).bind fun t46 =>
 (M.lift (Ax.ext 1 t45)).bind fun t47 =>
 (M.lift (Ax.bin .neq t47 (V.int .i64 0))).bind fun t49 =>
 M.ite t49
 ((M.lift (Ax.nilck t0)).bind fun t52 =>
 (M.lift (Ax.faddr 1 t52)).bind fun t53 =>
 (mstore 1 t53 t21).bind fun _ =>
 M.pure (.ret [(V.int .u64 0),t47]))
 ((M.lift (Ax.bin .shl t32 (V.int .u64 1))).bind fun t56 =>
 (M.lift (Ax.bin .add t56 t46)).bind fun t58 =>
 (M.lift (Ax.bin .sub t58 t26)).bind fun t60 =>
 M.pure (.ret [t60,(V.int .i64 0)]))))
def zfH:Fn':=(T zcj).getD noF
theorem znH:T zcj = some zfH:=by kernel_rfl
theorem zoE (G:Sem') (t0 t1:V):execK G zfH.rv zfH.body [] [] (params 0 [t0,t1]) = zjK G t0 t1:=by kernel_rfl
def zgq (G:Sem'):List V → M V
 | [t0,t1]=>fin (zjK G t0 t1)
 | _=>M.fail
theorem zpp {g:Sem'} (hg:Sims g (sem T)) (args:List V):Sim (zgq g args) (sem T zcj args):=by
 unfold zgq;split
 ·exact zaf znH (Nat.le_of_ble_eq_true (by kernel_rfl)) hg (zoE g _ _)
 ·exact zaa
def ze3 (G:Sem') (t0 t1:V):M Res :=
 (G zbu [t0,t1]).bind fun t7 =>
 (M.lift (Ax.bin .geq t7 (V.int .i64 0))).bind fun t8 =>
 M.pure (.ret [t8])
def zc0:Fn':=(T zbf).getD noF
theorem ziP:T zbf = some zc0:=by kernel_rfl
theorem ziW (G:Sem') (t0 t1:V):execK G zc0.rv zc0.body [] [] (params 0 [t0,t1]) = ze3 G t0 t1:=by kernel_rfl
def zdg (G:Sem'):List V → M V
 | [t0,t1]=>fin (ze3 G t0 t1)
 | _=>M.fail
theorem zi1 {g:Sem'} (hg:Sims g (sem T)) (args:List V):Sim (zdg g args) (sem T zbf args):=by
 unfold zdg;split
 ·exact zaf ziP (Nat.le_of_ble_eq_true (by kernel_rfl)) hg (ziW g _ _)
 ·exact zaa
def zlX (G:Sem') (t0 t1 t2:V):M Res :=
 (mload none t1).bind fun t6 =>
 (M.lift (Ax.bin .lss t0 t6)).bind fun t7 =>
 (guarded [(0,t7)] (some (0,false)) (M.pure t0)).bind fun t9 =>
 (guarded [(0,t7)] (some (0,false)) (mload none t2)).bind fun t10 =>
 (guarded [(0,t7)] (some (0,false)) (M.lift (Ax.bin .gtr t9 t10))).bind fun t11 =>
 (M.lift (Ax.pick t7 (V.bool true) t11)).bind fun t12 =>
 M.pure (.ret [t12])
def zhv:Fn':=(T zda).getD noF
theorem zq8:T zda = some zhv:=by kernel_rfl
theorem zsc (G:Sem') (t0 t1 t2:V):execK G zhv.rv zhv.body [] [] (params 0 [t0,t1,t2]) = zlX G t0 t1 t2:=by kernel_rfl
def ziI (G:Sem'):List V → M V
 | [t0,t1,t2]=>fin (zlX G t0 t1 t2)
 | _=>M.fail
theorem zsT {g:Sem'} (hg:Sims g (sem T)) (args:List V):Sim (ziI g args) (sem T zda args):=by
 unfold ziI;split
 ·exact zaf zq8 (Nat.le_of_ble_eq_true (by kernel_rfl)) hg (zsc g _ _ _)
 ·exact zaa
end Go.Ax.Cc
/- CiS10 -/
namespace Go.Ax.Cc
open Go.Proofs
def zrV (G:Sem') (t0 t1:V):M Res :=
 (mbox zaw t0).bind fun t2 =>
 (mbox zaw t1).bind fun t3 =>
 M.blk 0 (
 (M.lift (Ax.faddr 0 t3)).bind fun t7 =>
 (mload none t7).bind fun t8 =>
 (M.lift (Ax.faddr 0 t2)).bind fun t9 =>
 (mload none t9).bind fun t10 =>
 (M.lift (Ax.bin .eql t8 t10)).bind fun t11 =>
 (guarded [(0,t11)] (some (0,true)) (M.lift (Ax.faddr 1 t3))).bind fun t13 =>
 (guarded [(0,t11)] (some (0,true)) (mload none t13)).bind fun t14 =>
 (guarded [(0,t11)] (some (0,true)) (M.lift (Ax.faddr 1 t2))).bind fun t15 =>
 (guarded [(0,t11)] (some (0,true)) (mload none t15)).bind fun t16 =>
 (guarded [(0,t11)] (some (0,true)) (M.lift (Ax.bin .eql t14 t16))).bind fun t17 =>
 (M.lift (Ax.pick t11 t17 (V.bool false))).bind fun t18 =>
 M.ite t18
 (M.pure (.ret [(V.int .i64 0),(V.bool true)]))
 ((M.lift (Ax.faddr 0 t3)).bind fun t20 =>
 (mload none t20).bind fun t21 =>
 (M.lift (Ax.faddr 0 t2)).bind fun t22 =>
 (mload none t22).bind fun t23 =>
 (M.lift (Ax.bin .eql t21 t23)).bind fun t24 =>
 (guarded [(0,t24)] (some (0,true)) (M.lift (Ax.faddr 1 t3))).bind fun t26 =>
 (guarded [(0,t24)] (some (0,true)) (mload none t26)).bind fun t27 =>
 (guarded [(0,t24)] (some (0,true)) (M.lift (Ax.faddr 1 t2))).bind fun t28 =>
 (guarded [(0,t24)] (some (0,true)) (mload none t28)).bind fun t29 =>
 (guarded [(0,t24)] (some (0,true)) (M.lift (Ax.bin .add t29 (V.int .i64 1)))).bind fun t30 =>
 (guarded [(0,t24)] (some (0,true)) (M.lift (Ax.bin .eql t27 t30))).bind fun t31 =>
 (M.lift (Ax.pick t24 t31 (V.bool false))).bind fun t32 =>
 M.ite t32
 (M.pure (.ret [(V.int .i64 1),(V.bool true)]))
 ((M.lift (Ax.faddr 0 t3)).bind fun t34 =>
 (mload none t34).bind fun t35 =>
 (M.lift (Ax.faddr 0 t2)).bind fun t36 =>
 (mload none t36).bind fun t37 =>
 (M.lift (Ax.bin .add t37 (V.int .i64 1))).bind fun t38 =>
 (M.lift (Ax.bin .eql t35 t38)).bind fun t39 =>
 (guarded [(0,t39)] (some (0,true)) (M.lift (Ax.faddr 1 t3))).bind fun t41 =>
 (guarded [(0,t39)] (some (0,true)) (mload none t41)).bind fun t42 =>
 (guarded [(0,t39)] (some (0,true)) (M.lift (Ax.bin .eql t42 (V.int .i64 0)))).bind fun t43 =>
 (M.lift (Ax.pick t39 t43 (V.bool false))).bind fun t44 =>
 M.ite t44
 (M.pure (.ret [(V.int .i64 2),(V.bool true)]))
 (M.pure (.nrm []))))) fun _ =>
 M.pure (.ret [(V.int .i64 0),(V.bool false)])
def zlk:Fn':=(T zfe).getD noF
theorem zw6:T zfe = some zlk:=by kernel_rfl
theorem zxI (G:Sem') (t0 t1:V):execK G zlk.rv zlk.body [] [] (params 0 [t0,t1]) = zrV G t0 t1:=by kernel_rfl
def zmV (G:Sem'):List V → M V
 | [t0,t1]=>fin (zrV G t0 t1)
 | _=>M.fail
theorem zyR {g:Sem'} (hg:Sims g (sem T)) (args:List V):Sim (zmV g args) (sem T zfe args):=by
 unfold zmV;split
 ·exact zaf zw6 (Nat.le_of_ble_eq_true (by kernel_rfl)) hg (zxI g _ _)
 ·exact zaa
def zdC (G:Sem') (t7 t1 t0:V) (L:List V):M Res :=
 (M.lift (Ax.bin .lss (L.getD 0 .undef) t7)).bind fun t9 =>
 M.ite t9
 (M.blk 1 (
 (M.lift (Ax.iaddr none 5 t0 (L.getD 0 .undef))).bind fun t14 =>
 (mload (some 5) t14).bind fun t15 =>
 (callv G t1 [t15]).bind fun t16 =>
 M.ite t16
 (M.pure (.ret [(L.getD 0 .undef)]))
 (M.pure (.nrm []))) fun _ =>
 (M.lift (Ax.bin .add (L.getD 0 .undef) (V.int .i64 1))).bind fun t18 =>
 M.pure (.nrm [t18]))
 (M.pure (.ex 0 []))
def zbZ (G:Sem') (t0 t1:V):M Res :=
 (M.lift (vlen t0)).bind fun t7 =>
 M.blk 0 (
 M.iter (zdC G t7 t1 t0) [(V.int .i64 0)]) fun _ =>
 M.pure (.ret [(V.int .i64 (-1))])
def zbc:Fn':=(T zao).getD noF
theorem zdD:T zao = some zbc:=by kernel_rfl
theorem zdL (G:Sem') (t0 t1:V):execK G zbc.rv zbc.body [] [] (params 0 [t0,t1]) = zbZ G t0 t1:=by kernel_rfl
def zbg (G:Sem'):List V → M V
 | [t0,t1]=>fin (zbZ G t0 t1)
 | _=>M.fail
theorem zdN {g:Sem'} (hg:Sims g (sem T)) (args:List V):Sim (zbg g args) (sem T zao args):=by
 unfold zbg;split
 ·exact zaf zdD (Nat.le_of_ble_eq_true (by kernel_rfl)) hg (zdL g _ _)
 ·exact zaa
def zhO (G:Sem') (t0:V):M Res :=
 (M.lift (eqr .sl false t0 V.nils)).bind fun t4 =>
 M.ite t4
 (M.pure (.ret [V.nils]))
 ((mslit zeX 0 [(V.int .i64 0)] []).bind fun t5 =>
 (mappend zeX 1 8 t5 t0).bind fun t7 =>
 M.pure (.ret [t7]))
def zeM:Fn':=(T zbm).getD noF
theorem zl5:T zbm = some zeM:=by kernel_rfl
theorem zmE (G:Sem') (t0:V):execK G zeM.rv zeM.body [] [] (params 0 [t0]) = zhO G t0:=by kernel_rfl
def zfn (G:Sem'):List V → M V
 | [t0]=>fin (zhO G t0)
 | _=>M.fail
theorem znq {g:Sem'} (hg:Sims g (sem T)) (args:List V):Sim (zfn g args) (sem T zbm args):=by
 unfold zfn;split
 ·exact zaf zl5 (Nat.le_of_ble_eq_true (by kernel_rfl)) hg (zmE g _)
 ·exact zaa
def zdj (G:Sem') (t0 t1:V):M Res :=
 (G zaJ [t0,t1]).bind fun t7 =>
 (M.lift (Ax.bin .geq t7 (V.int .i64 0))).bind fun t8 =>
 M.pure (.ret [t8])
def zb1:Fn':=(T zaL).getD noF
theorem zfP:T zaL = some zb1:=by kernel_rfl
theorem zf7 (G:Sem') (t0 t1:V):execK G zb1.rv zb1.body [] [] (params 0 [t0,t1]) = zdj G t0 t1:=by kernel_rfl
def zb4 (G:Sem'):List V → M V
 | [t0,t1]=>fin (zdj G t0 t1)
 | _=>M.fail
theorem zgc {g:Sem'} (hg:Sims g (sem T)) (args:List V):Sim (zb4 g args) (sem T zaL args):=by
 unfold zb4;split
 ·exact zaf zfP (Nat.le_of_ble_eq_true (by kernel_rfl)) hg (zf7 g _ _)
 ·exact zaa
def ztW (G:Sem') (t0 t1:V):M Res :=
 (mbox zek t0).bind fun t2 =>
 (M.lift (Ax.faddr 6 t1)).bind fun t4 =>
 (mload none t4).bind fun t5 =>
 (mload (some 2) t2).bind fun t6 =>
 (G ze7 [t5,t6]).bind fun t7 =>
 (M.lift (Ax.un .not t7)).bind fun t8 =>
 M.pure (.ret [t8])
def zmo:Fn':=(T zfW).getD noF
theorem zyq:T zfW = some zmo:=by kernel_rfl
theorem zzw (G:Sem') (t0 t1:V):execK G zmo.rv zmo.body [] [] (params 0 [t0,t1]) = ztW G t0 t1:=by kernel_rfl
def zoQ (G:Sem'):List V → M V
 | [t0,t1]=>fin (ztW G t0 t1)
 | _=>M.fail
theorem zAt {g:Sem'} (hg:Sims g (sem T)) (args:List V):Sim (zoQ g args) (sem T zfW args):=by
 unfold zoQ;split
 ·exact zaf zyq (Nat.le_of_ble_eq_true (by kernel_rfl)) hg (zzw g _ _)
 ·exact zaa
def zrA (G:Sem') (t0 t1:V):M Res :=
 (mbox zek t1).bind fun t3 =>
 (M.lift (Ax.bin .eql t0 (V.int .i64 48862))).bind fun t6 =>
 M.ite t6
 ((M.lift (Ax.faddr 0 t3)).bind fun t7 =>
 (mload none t7).bind fun t8 =>
 (M.lift (Ax.bin .geq t8 (V.int .i64 1))).bind fun t9 =>
 (guarded [(0,t9)] (some (0,true)) (M.lift (Ax.faddr 0 t3))).bind fun t11 =>
 (guarded [(0,t9)] (some (0,true)) (mload none t11)).bind fun t12 =>
 (guarded [(0,t9)] (some (0,true)) (M.lift (Ax.bin .leq t12 (V.int .i64 14)))).bind fun t13 =>
 (M.lift (Ax.pick t9 t13 (V.bool false))).bind fun t14 =>
 (guarded [(0,t14)] (some (0,true)) (M.lift (Ax.faddr 1 t3))).bind fun t16 =>
 (guarded [(0,t14)] (some (0,true)) (mload none t16)).bind fun t17 =>
 (guarded [(0,t14)] (some (0,true)) (M.lift (vlen t17))).bind fun t18 =>
 (guarded [(0,t14)] (some (0,true)) (M.lift (Ax.bin .geq t18 (V.int .i64 1)))).bind fun t19 =>
 (M.lift (Ax.pick t14 t19 (V.bool false))).bind fun t20 =>
 (guarded [(0,t20)] (some (0,true)) (M.lift (Ax.faddr 1 t3))).bind fun t22 =>
 (guarded [(0,t20)] (some (0,true)) (mload none t22)).bind fun t23 =>
 (guarded [(0,t20)] (some (0,true)) (M.lift (vlen t23))).bind fun t24 =>
 (guarded [(0,t20)] (some (0,true)) (M.lift (Ax.bin .leq t24 (V.int .i64 16)))).bind fun t25 =>
 (M.lift (Ax.pick t20 t25 (V.bool false))).bind fun t26 =>
 M.pure (.ret [t26]))
 ((M.lift (Ax.faddr 0 t3)).bind fun t27 =>
 (mload none t27).bind fun t28 =>
 (M.lift (Ax.bin .geq t28 (V.int .i64 1))).bind fun t29 =>
 (guarded [(0,t29)] (some (0,true)) (M.lift (Ax.faddr 0 t3))).bind fun t31 =>
 (guarded [(0,t29)] (some (0,true)) (mload none t31)).bind fun t32 =>
 (guarded [(0,t29)] (some (0,true)) (M.lift (Ax.bin .leq t32 (V.int .i64 255)))).bind fun t33 =>
 (M.lift (Ax.pick t29 t33 (V.bool false))).bind fun t34 =>
 (guarded [(0,t34)] (some (0,true)) (M.lift (Ax.faddr 1 t3))).bind fun t36 =>
 (guarded [(0,t34)] (some (0,true)) (mload none t36)).bind fun t37 =>
 (guarded [(0,t34)] (some (0,true)) (M.lift (vlen t37))).bind fun t38 =>
 (guarded [(0,t34)] (some (0,true)) (M.lift (Ax.bin .leq t38 (V.int .i64 255)))).bind fun t39 =>
 (M.lift (Ax.pick t34 t39 (V.bool false))).bind fun t40 =>
 M.pure (.ret [t40]))
def zk9:Fn':=(T ze7).getD noF
theorem zwV:T ze7 = some zk9:=by kernel_rfl
theorem zxx (G:Sem') (t0 t1:V):execK G zk9.rv zk9.body [] [] (params 0 [t0,t1]) = zrA G t0 t1:=by kernel_rfl
def zmJ (G:Sem'):List V → M V
 | [t0,t1]=>fin (zrA G t0 t1)
 | _=>M.fail
theorem zyF {g:Sem'} (hg:Sims g (sem T)) (args:List V):Sim (zmJ g args) (sem T ze7 args):=by
 unfold zmJ;split
 ·exact zaf zwV (Nat.le_of_ble_eq_true (by kernel_rfl)) hg (zxx g _ _)
 ·exact zaa
def znn (G:Sem') (t0 t1:V):M Res :=
 (mbox zd5 t0).bind fun t2 =>
 (M.lift (Ax.faddr 0 t2)).bind fun t5 =>
 (mload none t5).bind fun t6 =>
 (guarded [(0,t6)] (some (0,true)) (M.lift (Ax.faddr 1 t2))).bind fun t8 =>
 (guarded [(0,t6)] (some (0,true)) (mload none t8)).bind fun t9 =>
 (guarded [(0,t6)] (some (0,true)) (M.pure t1)).bind fun t10 =>
 (guarded [(0,t6)] (some (0,true)) (M.lift (Ax.bin .eql t9 t10))).bind fun t11 =>
 (M.lift (Ax.pick t6 t11 (V.bool false))).bind fun t12 =>
 M.pure (.ret [t12])
def zie:Fn':=(T zci).getD noF
theorem zsA:T zci = some zie:=by kernel_rfl
theorem zts (G:Sem') (t0 t1:V):execK G zie.rv zie.body [] [] (params 0 [t0,t1]) = znn G t0 t1:=by kernel_rfl
def zjD (G:Sem'):List V → M V
 | [t0,t1]=>fin (znn G t0 t1)
 | _=>M.fail
theorem zuI {g:Sem'} (hg:Sims g (sem T)) (args:List V):Sim (zjD g args) (sem T zci args):=by
 unfold zjD;split
 ·exact zaf zsA (Nat.le_of_ble_eq_true (by kernel_rfl)) hg (zts g _ _)
 ·exact zaa
def ztP (G:Sem') (t0 t1:V):M Res :=
 (M.lift (Ax.bin .leq t1 t0)).bind fun t7 =>
 M.ite t7
 (M.pure (.ret [(V.int .u32 1)]))
 ((M.lift (Ax.cint .u64 t1)).bind fun t9 =>
 (M.lift (Ax.cint .u64 t0)).bind fun t11 =>
 (M.lift (Ax.bin .sub t9 t11)).bind fun t12 =>
 (M.lift (Ax.minmax false t12 [(V.int .u64 100000)])).bind fun t13 =>
 (M.lift (Ax.cint .u32 t13)).bind fun t14 =>
 M.pure (.ret [t14]))
def zmh:Fn':=(T zfR).getD noF
theorem zyj:T zfR = some zmh:=by kernel_rfl
theorem zzp (G:Sem') (t0 t1:V):execK G zmh.rv zmh.body [] [] (params 0 [t0,t1]) = ztP G t0 t1:=by kernel_rfl
def zoF (G:Sem'):List V → M V
 | [t0,t1]=>fin (ztP G t0 t1)
 | _=>M.fail
theorem zAi {g:Sem'} (hg:Sims g (sem T)) (args:List V):Sim (zoF g args) (sem T zfR args):=by
 unfold zoF;split
 ·exact zaf zyj (Nat.le_of_ble_eq_true (by kernel_rfl)) hg (zzp g _ _)
 ·exact zaa
def zs9 (G:Sem') (t24 t23 t1:V) (L:List V):M Res :=
 (M.lift (Ax.bin .lss (L.getD 3 .undef) t24)).bind fun t26 =>
 M.ite t26
 (M.blk 1 (
 (M.lift (Ax.iaddr none 5 t23 (L.getD 3 .undef))).bind fun t27 =>
 (mload (some 5) t27).bind fun t28 =>
 (mbox zaw (V.agg [(V.int .i64 0),(V.int .i64 0),V.nils,V.nils,V.nils])).bind fun t8 =>
 (mstore 5 t8 t28).bind fun _ =>
 (M.lift (Ax.faddr 2 t8)).bind fun t29 =>
 (mload none t29).bind fun t30 =>
 (M.lift (Ax.iaddr none 1 t30 t1)).bind fun t32 =>
 (mload none t32).bind fun t33 =>
 (M.lift (Ax.bin .neq t33 (V.int .i64 0))).bind fun t34 =>
 M.join (M.ite t34
 ((M.lift (Ax.faddr 0 t8)).bind fun t36 =>
 (mload none t36).bind fun t37 =>
 (M.lift (Ax.minmax true (L.getD 0 .undef) [t37])).bind fun t38 =>
 (M.lift (Ax.faddr 1 t8)).bind fun t40 =>
 (mload none t40).bind fun t41 =>
 (M.lift (Ax.minmax true (L.getD 1 .undef) [t41])).bind fun t42 =>
 M.pure (.nrm [t38,t42,(V.bool true)]))
 (M.pure (.nrm [(L.getD 0 .undef),(L.getD 1 .undef),(L.getD 2 .undef)]))) fun L0 =>
 M.pure (.nrm [(L0.getD 0 .undef),(L0.getD 1 .undef),(L0.getD 2 .undef)])) fun L1 =>
 (M.lift (Ax.bin .add (L.getD 3 .undef) (V.int .i64 1))).bind fun t43 =>
 M.pure (.nrm [(L1.getD 0 .undef),(L1.getD 1 .undef),(L1.getD 2 .undef),t43]))
 (M.pure (.ex 0 [(L.getD 0 .undef),(L.getD 1 .undef),(L.getD 2 .undef)]))
def zox (G:Sem') (t0 t1:V):M Res :=
 (mbox zan t0).bind fun t2 =>
 (mload (some 6) t2).bind fun t9 =>
 (G zcY [t9]).bind fun t10 =>
 (M.lift (Ax.un .not t10)).bind fun t11 =>
 (guarded [(0,t11)] (some (0,false)) (M.pure t1)).bind fun t13 =>
 (guarded [(0,t11)] (some (0,false)) (M.lift (Ax.bin .lss t13 (V.int .i64 0)))).bind fun t14 =>
 (M.lift (Ax.pick t11 (V.bool true) t14)).bind fun t15 =>
 (guarded [(0,t15)] (some (0,false)) (M.pure t1)).bind fun t17 =>
 (guarded [(0,t15)] (some (0,false)) (M.lift (Ax.faddr 1 t2))).bind fun t18 =>
 (guarded [(0,t15)] (some (0,false)) (mload none t18)).bind fun t19 =>
 (guarded [(0,t15)] (some (0,false)) (M.lift (Ax.bin .geq t17 t19))).bind fun t20 =>
 (M.lift (Ax.pick t15 (V.bool true) t20)).bind fun t21 =>
 M.ite t21
 (M.pure (.ret [(V.int .i64 0),(V.int .i64 0),(V.bool false)]))
 ((M.lift (Ax.faddr 2 t2)).bind fun t22 =>
 (mload none t22).bind fun t23 =>
 (M.lift (vlen t23)).bind fun t24 =>
 M.blk 0 (
 M.iter (zs9 G t24 t23 t1) [(V.int .i64 0),(V.int .i64 0),(V.bool false),(V.int .i64 0)]) fun L2 =>
 M.pure (.ret [(L2.getD 0 .undef),(L2.getD 1 .undef),(L2.getD 2 .undef)]))
def zje:Fn':=(T zd2).getD noF
theorem zum:T zd2 = some zje:=by kernel_rfl
theorem zu1 (G:Sem') (t0 t1:V):execK G zje.rv zje.body [] [] (params 0 [t0,t1]) = zox G t0 t1:=by kernel_rfl
def zkz (G:Sem'):List V → M V
 | [t0,t1]=>fin (zox G t0 t1)
 | _=>M.fail
theorem zvC {g:Sem'} (hg:Sims g (sem T)) (args:List V):Sim (zkz g args) (sem T zd2 args):=by
 unfold zkz;split
 ·exact zaf zum (Nat.le_of_ble_eq_true (by kernel_rfl)) hg (zu1 g _ _)
 ·exact zaa
def zfv (G:Sem') (t0:V):M Res :=
 (M.lift (eqr .sl false t0 V.nils)).bind fun t4 =>
 M.ite t4
 (M.pure (.ret [V.nils]))
 ((mslit zej 0 [(V.int .u32 0)] []).bind fun t5 =>
 (mappend zej 1 4 t5 t0).bind fun t7 =>
 M.pure (.ret [t7]))
def zdc:Fn':=(T zbi).getD noF
theorem ziY:T zbi = some zdc:=by kernel_rfl
theorem zjh (G:Sem') (t0:V):execK G zdc.rv zdc.body [] [] (params 0 [t0]) = zfv G t0:=by kernel_rfl
def zdo (G:Sem'):List V → M V
 | [t0]=>fin (zfv G t0)
 | _=>M.fail
theorem zjN {g:Sem'} (hg:Sims g (sem T)) (args:List V):Sim (zdo g args) (sem T zbi args):=by
 unfold zdo;split
 ·exact zaf ziY (Nat.le_of_ble_eq_true (by kernel_rfl)) hg (zjh g _)
 ·exact zaa
def zeH (G:Sem') (t0:V):M Res :=
 (M.lift (eqr .sl false t0 V.nils)).bind fun t4 =>
 M.ite t4
 (M.pure (.ret [V.nils]))
 ((mslit zek 0 [(V.int .i64 0),V.nils] []).bind fun t5 =>
 (mappend zek 2 32 t5 t0).bind fun t7 =>
 M.pure (.ret [t7]))
def zcK:Fn':=(T za7).getD noF
theorem zhT:T za7 = some zcK:=by kernel_rfl
theorem ziq (G:Sem') (t0:V):execK G zcK.rv zcK.body [] [] (params 0 [t0]) = zeH G t0:=by kernel_rfl
def zc4 (G:Sem'):List V → M V
 | [t0]=>fin (zeH G t0)
 | _=>M.fail
theorem ziR {g:Sem'} (hg:Sims g (sem T)) (args:List V):Sim (zc4 g args) (sem T za7 args):=by
 unfold zc4;split
 ·exact zaf zhT (Nat.le_of_ble_eq_true (by kernel_rfl)) hg (ziq g _)
 ·exact zaa
def ze1 (G:Sem') (t7 t1 t0:V) (L:List V):M Res :=
 (M.lift (Ax.bin .lss (L.getD 0 .undef) t7)).bind fun t9 =>
 M.ite t9
 (M.blk 1 (
 (M.lift (Ax.iaddr none 2 t0 (L.getD 0 .undef))).bind fun t14 =>
 (mload (some 2) t14).bind fun t15 =>
 (callv G t1 [t15]).bind fun t16 =>
 M.ite t16
 (M.pure (.ret [(L.getD 0 .undef)]))
 (M.pure (.nrm []))) fun _ =>
 (M.lift (Ax.bin .add (L.getD 0 .undef) (V.int .i64 1))).bind fun t18 =>
 M.pure (.nrm [t18]))
 (M.pure (.ex 0 []))
def zcW (G:Sem') (t0 t1:V):M Res :=
 (M.lift (vlen t0)).bind fun t7 =>
 M.blk 0 (
 M.iter (ze1 G t7 t1 t0) [(V.int .i64 0)]) fun _ =>
 M.pure (.ret [(V.int .i64 (-1))])
def zbK:Fn':=(T zaG).getD noF
theorem zfh:T zaG = some zbK:=by kernel_rfl
theorem zfl (G:Sem') (t0 t1:V):execK G zbK.rv zbK.body [] [] (params 0 [t0,t1]) = zcW G t0 t1:=by kernel_rfl
def zbQ (G:Sem'):List V → M V
 | [t0,t1]=>fin (zcW G t0 t1)
 | _=>M.fail
theorem zfy {g:Sem'} (hg:Sims g (sem T)) (args:List V):Sim (zbQ g args) (sem T zaG args):=by
 unfold zbQ;split
 ·exact zaf zfh (Nat.le_of_ble_eq_true (by kernel_rfl)) hg (zfl g _ _)
 ·exact zaa
def zm6 (G:Sem') (t0 t1:V):M Res :=
 (mbox zjL t0).bind fun t2 =>
 (M.lift (Ax.faddr 0 t2)).bind fun t4 =>
 (mload none t4).bind fun t5 =>
 (mload none t1).bind fun t6 =>
 (M.lift (Ax.bin .eql t5 t6)).bind fun t7 =>
 M.pure (.ret [t7])
def zhX:Fn':=(T zdt).getD noF
theorem zsj:T zdt = some zhX:=by kernel_rfl
theorem ztb (G:Sem') (t0 t1:V):execK G zhX.rv zhX.body [] [] (params 0 [t0,t1]) = zm6 G t0 t1:=by kernel_rfl
def zjj (G:Sem'):List V → M V
 | [t0,t1]=>fin (zm6 G t0 t1)
 | _=>M.fail
theorem zuo {g:Sem'} (hg:Sims g (sem T)) (args:List V):Sim (zjj g args) (sem T zdt args):=by
 unfold zjj;split
 ·exact zaf zsj (Nat.le_of_ble_eq_true (by kernel_rfl)) hg (ztb g _ _)
 ·exact zaa
def zeC (G:Sem') (t7 t1 t0:V) (L:List V):M Res :=
 (M.lift (Ax.bin .lss (L.getD 0 .undef) t7)).bind fun t9 =>
 M.ite t9
 (M.blk 1 (
 (M.lift (Ax.iaddr none 16 t0 (L.getD 0 .undef))).bind fun t14 =>
 (mload (some 16) t14).bind fun t15 =>
 (callv G t1 [t15]).bind fun t16 =>
 M.ite t16
 (M.pure (.ret [(L.getD 0 .undef)]))
 (M.pure (.nrm []))) fun _ =>
 (M.lift (Ax.bin .add (L.getD 0 .undef) (V.int .i64 1))).bind fun t18 =>
 M.pure (.nrm [t18]))
 (M.pure (.ex 0 []))
def zcE (G:Sem') (t0 t1:V):M Res :=
 (M.lift (vlen t0)).bind fun t7 =>
 M.blk 0 (
 M.iter (zeC G t7 t1 t0) [(V.int .i64 0)]) fun _ =>
 M.pure (.ret [(V.int .i64 (-1))])
def zbE:Fn':=(T zay).getD noF
theorem zeJ:T zay = some zbE:=by kernel_rfl
theorem zeT (G:Sem') (t0 t1:V):execK G zbE.rv zbE.body [] [] (params 0 [t0,t1]) = zcE G t0 t1:=by kernel_rfl
def zbH (G:Sem'):List V → M V
 | [t0,t1]=>fin (zcE G t0 t1)
 | _=>M.fail
theorem zeY {g:Sem'} (hg:Sims g (sem T)) (args:List V):Sim (zbH g args) (sem T zay args):=by
 unfold zbH;split
 ·exact zaf zeJ (Nat.le_of_ble_eq_true (by kernel_rfl)) hg (zeT g _ _)
 ·exact zaa
def ztX (G:Sem') (t0 t1:V):M Res :=
 (mbox za2 t0).bind fun t2 =>
 (mbox za2 t1).bind fun t3 =>
 (M.lift (Ax.faddr 1 t2)).bind fun t5 =>
 (mload none t5).bind fun t6 =>
 (M.lift (Ax.faddr 1 t3)).bind fun t7 =>
 (mload none t7).bind fun t8 =>
 (M.lift (Ax.bin .eql t6 t8)).bind fun t9 =>
 (guarded [(0,t9)] (some (0,true)) (M.lift (Ax.faddr 2 t2))).bind fun t11 =>
 (guarded [(0,t9)] (some (0,true)) (mload none t11)).bind fun t12 =>
 (guarded [(0,t9)] (some (0,true)) (M.lift (Ax.faddr 2 t3))).bind fun t13 =>
 (guarded [(0,t9)] (some (0,true)) (mload none t13)).bind fun t14 =>
 (guarded [(0,t9)] (some (0,true)) (M.lift (Ax.bin .eql t12 t14))).bind fun t15 =>
 (M.lift (Ax.pick t9 t15 (V.bool false))).bind fun t16 =>
 (guarded [(0,t16)] (some (0,true)) (M.lift (Ax.faddr 3 t2))).bind fun t18 =>
 (guarded [(0,t16)] (some (0,true)) (mload none t18)).bind fun t19 =>
 (guarded [(0,t16)] (some (0,true)) (M.lift (Ax.faddr 3 t3))).bind fun t20 =>
 (guarded [(0,t16)] (some (0,true)) (mload none t20)).bind fun t21 =>
 (guarded [(0,t16)] (some (0,true)) (M.lift (Ax.bin .eql t19 t21))).bind fun t22 =>
 (M.lift (Ax.pick t16 t22 (V.bool false))).bind fun t23 =>
 (guarded [(0,t23)] (some (0,true)) (M.lift (Ax.faddr 4 t2))).bind fun t25 =>
 (guarded [(0,t23)] (some (0,true)) (mload none t25)).bind fun t26 =>
 (guarded [(0,t23)] (some (0,true)) (M.lift (Ax.faddr 4 t3))).bind fun t27 =>
 (guarded [(0,t23)] (some (0,true)) (mload none t27)).bind fun t28 =>
 (guarded [(0,t23)] (some (0,true)) (M.lift (Ax.bin .eql t26 t28))).bind fun t29 =>
 (M.lift (Ax.pick t23 t29 (V.bool false))).bind fun t30 =>
 (guarded [(0,t30)] (some (0,true)) (M.lift (Ax.faddr 5 t2))).bind fun t32 =>
 (guarded [(0,t30)] (some (0,true)) (mload none t32)).bind fun t33 =>
 (guarded [(0,t30)] (some (0,true)) (M.lift (Ax.faddr 5 t3))).bind fun t34 =>
 (guarded [(0,t30)] (some (0,true)) (mload none t34)).bind fun t35 =>
 (guarded [(0,t30)] (some (0,true)) (M.lift (Ax.bin .eql t33 t35))).bind fun t36 =>
 (M.lift (Ax.pick t30 t36 (V.bool false))).bind fun t37 =>
 (guarded [(0,t37)] (some (0,true)) (M.lift (Ax.faddr 6 t2))).bind fun t39 =>
 (guarded [(0,t37)] (some (0,true)) (mload none t39)).bind fun t40 =>
 (guarded [(0,t37)] (some (0,true)) (M.lift (Ax.faddr 6 t3))).bind fun t41 =>
 (guarded [(0,t37)] (some (0,true)) (mload none t41)).bind fun t42 =>
 (guarded [(0,t37)] (some (0,true)) (M.lift (Ax.bin .eql t40 t42))).bind fun t43 =>
 (M.lift (Ax.pick t37 t43 (V.bool false))).bind fun t44 =>
 (guarded [(0,t44)] (some (0,true)) (M.lift (Ax.faddr 10 t2))).bind fun t46 =>
 (guarded [(0,t44)] (some (0,true)) (mload none t46)).bind fun t47 =>
 (guarded [(0,t44)] (some (0,true)) (M.lift (Ax.faddr 10 t3))).bind fun t48 =>
 (guarded [(0,t44)] (some (0,true)) (mload none t48)).bind fun t49 =>
 (guarded [(0,t44)] (some (0,true)) (M.lift (Ax.bin .eql t47 t49))).bind fun t50 =>
 (M.lift (Ax.pick t44 t50 (V.bool false))).bind fun t51 =>
 (guarded [(0,t51)] (some (0,true)) (M.lift (Ax.faddr 11 t2))).bind fun t53 =>
 (guarded [(0,t51)] (some (0,true)) (mload none t53)).bind fun t54 =>
 (guarded [(0,t51)] (some (0,true)) (M.lift (Ax.faddr 11 t3))).bind fun t55 =>
 (guarded [(0,t51)] (some (0,true)) (mload none t55)).bind fun t56 =>
 (guarded [(0,t51)] (some (0,true)) (M.lift (Ax.bin .eql t54 t56))).bind fun t57 =>
 (M.lift (Ax.pick t51 t57 (V.bool false))).bind fun t58 =>
 (guarded [(0,t58)] (some (0,true)) (M.lift (Ax.faddr 13 t2))).bind fun t60 =>
 (guarded [(0,t58)] (some (0,true)) (mload none t60)).bind fun t61 =>
 (guarded [(0,t58)] (some (0,true)) (M.lift (Ax.faddr 13 t3))).bind fun t62 =>
 (guarded [(0,t58)] (some (0,true)) (mload none t62)).bind fun t63 =>
 (guarded [(0,t58)] (some (0,true)) (M.lift (Ax.bin .eql t61 t63))).bind fun t64 =>
 (M.lift (Ax.pick t58 t64 (V.bool false))).bind fun t65 =>
 (guarded [(0,t65)] (some (0,true)) (M.lift (Ax.faddr 14 t2))).bind fun t67 =>
 (guarded [(0,t65)] (some (0,true)) (mload none t67)).bind fun t68 =>
 (guarded [(0,t65)] (some (0,true)) (M.lift (Ax.faddr 14 t3))).bind fun t69 =>
 (guarded [(0,t65)] (some (0,true)) (mload none t69)).bind fun t70 =>
 (guarded [(0,t65)] (some (0,true)) (M.lift (Ax.bin .eql t68 t70))).bind fun t71 =>
 (M.lift (Ax.pick t65 t71 (V.bool false))).bind fun t72 =>
 (guarded [(0,t72)] (some (0,true)) (M.lift (Ax.faddr 7 t2))).bind fun t74 =>
 (guarded [(0,t72)] (some (0,true)) (mload none t74)).bind fun t75 =>
 (guarded [(0,t72)] (some (0,true)) (M.lift (vlen t75))).bind fun t76 =>
 (guarded [(0,t72)] (some (0,true)) (M.lift (Ax.faddr 7 t3))).bind fun t77 =>
 (guarded [(0,t72)] (some (0,true)) (mload none t77)).bind fun t78 =>
 (guarded [(0,t72)] (some (0,true)) (M.lift (vlen t78))).bind fun t79 =>
 (guarded [(0,t72)] (some (0,true)) (M.lift (Ax.bin .eql t76 t79))).bind fun t80 =>
 (M.lift (Ax.pick t72 t80 (V.bool false))).bind fun t81 =>
 (guarded [(0,t81)] (some (0,true)) (M.lift (Ax.faddr 8 t2))).bind fun t83 =>
 (guarded [(0,t81)] (some (0,true)) (mload none t83)).bind fun t84 =>
 (guarded [(0,t81)] (some (0,true)) (M.lift (vlen t84))).bind fun t85 =>
 (guarded [(0,t81)] (some (0,true)) (M.lift (Ax.faddr 8 t3))).bind fun t86 =>
 (guarded [(0,t81)] (some (0,true)) (mload none t86)).bind fun t87 =>
 (guarded [(0,t81)] (some (0,true)) (M.lift (vlen t87))).bind fun t88 =>
 (guarded [(0,t81)] (some (0,true)) (M.lift (Ax.bin .eql t85 t88))).bind fun t89 =>
 (M.lift (Ax.pick t81 t89 (V.bool false))).bind fun t90 =>
 (guarded [(0,t90)] (some (0,true)) (M.lift (Ax.faddr 9 t2))).bind fun t92 =>
 (guarded [(0,t90)] (some (0,true)) (mload none t92)).bind fun t93 =>
 (guarded [(0,t90)] (some (0,true)) (M.lift (vlen t93))).bind fun t94 =>
 (guarded [(0,t90)] (some (0,true)) (M.lift (Ax.faddr 9 t3))).bind fun t95 =>
 (guarded [(0,t90)] (some (0,true)) (mload none t95)).bind fun t96 =>
 (guarded [(0,t90)] (some (0,true)) (M.lift (vlen t96))).bind fun t97 =>
 (guarded [(0,t90)] (some (0,true)) (M.lift (Ax.bin .eql t94 t97))).bind fun t98 =>
 (M.lift (Ax.pick t90 t98 (V.bool false))).bind fun t99 =>
 (guarded [(0,t99)] (some (0,true)) (M.lift (Ax.faddr 12 t2))).bind fun t101 =>
 (guarded [(0,t99)] (some (0,true)) (mload none t101)).bind fun t102 =>
 (guarded [(0,t99)] (some (0,true)) (M.lift (vlen t102))).bind fun t103 =>
 (guarded [(0,t99)] (some (0,true)) (M.lift (Ax.faddr 12 t3))).bind fun t104 =>
 (guarded [(0,t99)] (some (0,true)) (mload none t104)).bind fun t105 =>
 (guarded [(0,t99)] (some (0,true)) (M.lift (vlen t105))).bind fun t106 =>
 (guarded [(0,t99)] (some (0,true)) (M.lift (Ax.bin .eql t103 t106))).bind fun t107 =>
 (M.lift (Ax.pick t99 t107 (V.bool false))).bind fun t108 =>
 (guarded [(0,t108)] (some (0,true)) (M.lift (Ax.faddr 15 t2))).bind fun t110 =>
 (guarded [(0,t108)] (some (0,true)) (mload none t110)).bind fun t111 =>
 (guarded [(0,t108)] (some (0,true)) (M.lift (vlen t111))).bind fun t112 =>
 (guarded [(0,t108)] (some (0,true)) (M.lift (Ax.faddr 15 t3))).bind fun t113 =>
 (guarded [(0,t108)] (some (0,true)) (mload none t113)).bind fun t114 =>
 (guarded [(0,t108)] (some (0,true)) (M.lift (vlen t114))).bind fun t115 =>
 (guarded [(0,t108)] (some (0,true)) (M.lift (Ax.bin .eql t112 t115))).bind fun t116 =>
 (M.lift (Ax.pick t108 t116 (V.bool false))).bind fun t117 =>
 M.pure (.ret [t117])
def zmp:Fn':=(T zfX).getD noF
theorem zyr:T zfX = some zmp:=by kernel_rfl
theorem zzx (G:Sem') (t0 t1:V):execK G zmp.rv zmp.body [] [] (params 0 [t0,t1]) = ztX G t0 t1:=by kernel_rfl
def zoR (G:Sem'):List V → M V
 | [t0,t1]=>fin (ztX G t0 t1)
 | _=>M.fail
theorem zAu {g:Sem'} (hg:Sims g (sem T)) (args:List V):Sim (zoR g args) (sem T zfX args):=by
 unfold zoR;split
 ·exact zaf zyr (Nat.le_of_ble_eq_true (by kernel_rfl)) hg (zzx g _ _)
 ·exact zaa
def zv5 (G:Sem') (t0:V):M Res :=
 (mbox za2 t0).bind fun t1 =>
 (mbox za2 (V.agg [(V.int .i64 0),(V.int .u32 0),(V.int .u32 0),(V.int .u64 0),(V.int .u32 0),(V.int .u32 0),(V.int .u32 0),V.nils,V.nils,V.nils,(V.int .i64 0),(V.int .u32 0),V.nils,(V.int .i64 0),(V.int .i64 0),V.nils])).bind fun t2 =>
 (M.lift (Ax.faddr 0 t1)).bind fun t4 =>
 (mload none t4).bind fun t5 =>
 (M.lift (Ax.faddr 1 t1)).bind fun t6 =>
 (mload none t6).bind fun t7 =>
 (M.lift (Ax.build [(V.int .i64 0),(V.int .u32 0),(V.int .u32 0),(V.int .u64 0),(V.int .u32 0),(V.int .u32 0),(V.int .u32 0),V.nils,V.nils,V.nils,(V.int .i64 0),(V.int .u32 0),V.nils,(V.int .i64 0),(V.int .i64 0),V.nils] [(0,1,t5),(1,1,t7)])).bind fun t8 =>
 (mbox za2 (V.agg [(V.int .i64 0),(V.int .u32 0),(V.int .u32 0),(V.int .u64 0),(V.int .u32 0),(V.int .u32 0),(V.int .u32 0),V.nils,V.nils,V.nils,(V.int .i64 0),(V.int .u32 0),V.nils,(V.int .i64 0),(V.int .i64 0),V.nils])).bind fun t3 =>
 (mstore 16 t3 t8).bind fun _ =>
 (M.lift (Ax.faddr 0 t1)).bind fun t9 =>
 (mload none t9).bind fun t10 =>
 M.blk 0 (
 (M.lift (Ax.bin .eql t10 (V.int .i64 1))).bind fun t22 =>
 M.join (M.ite t22
 ((M.lift (Ax.faddr 3 t1)).bind fun t23 =>
 (mload none t23).bind fun t24 =>
 (M.lift (Ax.faddr 4 t1)).bind fun t25 =>
 (mload none t25).bind fun t26 =>
 (M.lift (Ax.faddr 5 t1)).bind fun t27 =>
 (mload none t27).bind fun t28 =>
 (M.lift (Ax.faddr 6 t1)).bind fun t29 =>
 (mload none t29).bind fun t30 =>
 (M.lift (Ax.faddr 7 t1)).bind fun t31 =>
 (mload none t31).bind fun t32 =>
 (M.lift (Ax.faddr 3 t3)).bind fun t33 =>
 M.getH.bind fun h0 =>
 (mstore 1 t33 t24).bind fun _ =>
 M.getH.bind fun h0' =>
 (M.unch t31 h0 h0').bind fun _ =>
 (M.unch t29 h0 h0').bind fun _ =>
 (M.unch t27 h0 h0').bind fun _ =>
 (M.unch t25 h0 h0').bind fun _ =>
 (M.lift (Ax.faddr 4 t3)).bind fun t34 =>
 M.getH.bind fun h1 =>
 (mstore 1 t34 t26).bind fun _ =>
 M.getH.bind fun h1' =>
 (M.unch t31 h1 h1').bind fun _ =>
 (M.unch t29 h1 h1').bind fun _ =>
 (M.unch t27 h1 h1').bind fun _ =>
 (M.lift (Ax.faddr 5 t3)).bind fun t35 =>
 M.getH.bind fun h2 =>
 (mstore 1 t35 t28).bind fun _ =>
 M.getH.bind fun h2' =>
 (M.unch t31 h2 h2').bind fun _ =>
 (M.unch t29 h2 h2').bind fun _ =>
 (M.lift (Ax.faddr 6 t3)).bind fun t36 =>
 M.getH.bind fun h3 =>
 (mstore 1 t36 t30).bind fun _ =>
 M.getH.bind fun h3' =>
 (M.unch t31 h3 h3').bind fun _ =>
 (M.lift (Ax.faddr 7 t3)).bind fun t37 =>
 (mstore 1 t37 t32).bind fun _ =>
 M.pure (.nrm []))
 ((M.lift (Ax.bin .eql t10 (V.int .i64 2))).bind fun t39 =>
 M.join (M.ite t39
 ((M.lift (Ax.faddr 7 t1)).bind fun t40 =>
 (mload none t40).bind fun t41 =>
 (M.lift (Ax.faddr 7 t3)).bind fun t42 =>
 (mstore 1 t42 t41).bind fun _ =>
 M.pure (.nrm []))
 ((M.lift (Ax.bin .eql t10 (V.int .i64 3))).bind fun t44 =>
 M.join (M.ite t44
 ((M.lift (Ax.faddr 2 t1)).bind fun t45 =>
 (mload none t45).bind fun t46 =>
 (M.lift (Ax.faddr 8 t1)).bind fun t47 =>
 (mload none t47).bind fun t48 =>
 (M.lift (Ax.faddr 2 t3)).bind fun t49 =>
 M.getH.bind fun h4 =>
 (mstore 1 t49 t46).bind fun _ =>
 M.getH.bind fun h4' =>
 (M.unch t47 h4 h4').bind fun _ =>
 (M.lift (Ax.faddr 8 t3)).bind fun t50 =>
 (mstore 1 t50 t48).bind fun _ =>
 M.pure (.nrm []))
 ((M.lift (Ax.bin .eql t10 (V.int .i64 4))).bind fun t52 =>
 M.join (M.ite t52
 ((M.lift (Ax.faddr 2 t1)).bind fun t53 =>
 (mload none t53).bind fun t54 =>
 (M.lift (Ax.faddr 2 t3)).bind fun t55 =>
 (mstore 1 t55 t54).bind fun _ =>
 M.pure (.nrm []))
 ((M.lift (Ax.bin .eql t10 (V.int .i64 5))).bind fun t57 =>
 M.join (M.ite t57
 ((M.lift (Ax.faddr 2 t1)).bind fun t58 =>
 (mload none t58).bind fun t59 =>
 (M.lift (Ax.faddr 9 t1)).bind fun t60 =>
 (mload none t60).bind fun t61 =>
 (M.lift (Ax.faddr 2 t3)).bind fun t62 =>
 M.getH.bind fun h5 =>
 (mstore 1 t62 t59).bind fun _ =>
 M.getH.bind fun h5' =>
 (M.unch t60 h5 h5').bind fun _ =>
 (M.lift (Ax.faddr 9 t3)).bind fun t63 =>
 (mstore 1 t63 t61).bind fun _ =>
 M.pure (.nrm []))
 ((M.lift (Ax.bin .eql t10 (V.int .i64 6))).bind fun t65 =>
 M.join (M.ite t65
 ((M.lift (Ax.faddr 2 t1)).bind fun t66 =>
 (mload none t66).bind fun t67 =>
 (M.lift (Ax.faddr 10 t1)).bind fun t68 =>
 (mload none t68).bind fun t69 =>
 (M.lift (Ax.faddr 11 t1)).bind fun t70 =>
 (mload none t70).bind fun t71 =>
 (M.lift (Ax.faddr 12 t1)).bind fun t72 =>
 (mload none t72).bind fun t73 =>
 (M.lift (Ax.faddr 2 t3)).bind fun t74 =>
 M.getH.bind fun h6 =>
 (mstore 1 t74 t67).bind fun _ =>
 M.getH.bind fun h6' =>
 (M.unch t72 h6 h6').bind fun _ =>
 (M.unch t70 h6 h6').bind fun _ =>
 (M.unch t68 h6 h6').bind fun _ =>
 (M.lift (Ax.faddr 10 t3)).bind fun t75 =>
 M.getH.bind fun h7 =>
 (mstore 1 t75 t69).bind fun _ =>
 M.getH.bind fun h7' =>
 (M.unch t72 h7 h7').bind fun _ =>
 (M.unch t70 h7 h7').bind fun _ =>
 (M.lift (Ax.faddr 11 t3)).bind fun t76 =>
 M.getH.bind fun h8 =>
 (mstore 1 t76 t71).bind fun _ =>
 M.getH.bind fun h8' =>
 (M.unch t72 h8 h8').bind fun _ =>
 (M.lift (Ax.faddr 12 t3)).bind fun t77 =>
 (mstore 1 t77 t73).bind fun _ =>
 M.pure (.nrm []))
 ((M.lift (Ax.faddr 1 t3)).bind fun t11 =>
 (mstore 1 t11 (V.int .u32 0)).bind fun _ =>
 (M.lift (Ax.faddr 13 t1)).bind fun t12 =>
 (mload none t12).bind fun t13 =>
 (M.lift (Ax.faddr 14 t1)).bind fun t14 =>
 (mload none t14).bind fun t15 =>
 (M.lift (Ax.faddr 15 t1)).bind fun t16 =>
 (mload none t16).bind fun t17 =>
 (M.lift (Ax.faddr 13 t3)).bind fun t18 =>
 M.getH.bind fun h9 =>
 (mstore 1 t18 t13).bind fun _ =>
 M.getH.bind fun h9' =>
 (M.unch t16 h9 h9').bind fun _ =>
 (M.unch t14 h9 h9').bind fun _ =>
 (M.lift (Ax.faddr 14 t3)).bind fun t19 =>
 M.getH.bind fun h10 =>
 (mstore 1 t19 t15).bind fun _ =>
 M.getH.bind fun h10' =>
 (M.unch t16 h10 h10').bind fun _ =>
 (M.lift (Ax.faddr 15 t3)).bind fun t20 =>
 (mstore 1 t20 t17).bind fun _ =>
 M.pure (.nrm []))) fun _ =>
 M.pure (.nrm []))) fun _ =>
 M.pure (.nrm []))) fun _ =>
 M.pure (.nrm []))) fun _ =>
 M.pure (.nrm []))) fun _ =>
 M.pure (.nrm []))) fun _ =>
 M.pure (.nrm [])) fun _ =>
 (mload (some 16) t3).bind fun t78 =>
 (mstore 16 t2 t78).bind fun _ =>
 (mload (some 16) t2).bind fun r0 =>
 M.pure (.ret [r0])
def znV:Fn':=(T zgZ).getD noF
theorem zzZ:T zgZ = some znV:=by kernel_rfl
theorem zBi (G:Sem') (t0:V):execK G znV.rv znV.body [] [] (params 0 [t0]) = zv5 G t0:=by kernel_rfl
def zqA (G:Sem'):List V → M V
 | [t0]=>fin (zv5 G t0)
 | _=>M.fail
theorem zB4 {g:Sem'} (hg:Sims g (sem T)) (args:List V):Sim (zqA g args) (sem T zgZ args):=by
 unfold zqA;split
 ·exact zaf zzZ (Nat.le_of_ble_eq_true (by kernel_rfl)) hg (zBi g _)
 ·exact zaa
def zcw (G:Sem') (t0 t1:V):M Res :=
 (G zaF [t0,t1]).bind fun t7 =>
 (M.lift (Ax.bin .geq t7 (V.int .i64 0))).bind fun t8 =>
 M.pure (.ret [t8])
def zbz:Fn':=(T zau).getD noF
theorem zeB:T zau = some zbz:=by kernel_rfl
theorem zeD (G:Sem') (t0 t1:V):execK G zbz.rv zbz.body [] [] (params 0 [t0,t1]) = zcw G t0 t1:=by kernel_rfl
def zbG (G:Sem'):List V → M V
 | [t0,t1]=>fin (zcw G t0 t1)
 | _=>M.fail
theorem zeK {g:Sem'} (hg:Sims g (sem T)) (args:List V):Sim (zbG g args) (sem T zau args):=by
 unfold zbG;split
 ·exact zaf zeB (Nat.le_of_ble_eq_true (by kernel_rfl)) hg (zeD g _ _)
 ·exact zaa
def zrE (G:Sem') (t0:V):M Res :=
 (mbox zhh t0).bind fun t1 =>
 (M.lift (Ax.faddr 2 t1)).bind fun t3 =>
 (mload none t3).bind fun t4 =>
 (M.lift (Ax.bin .geq t4 (V.int .u32 16777216))).bind fun t5 =>
 M.pure (.ret [t5])
def zld:Fn':=(T zfa).getD noF
theorem zwZ:T zfa = some zld:=by kernel_rfl
theorem zxB (G:Sem') (t0:V):execK G zld.rv zld.body [] [] (params 0 [t0]) = zrE G t0:=by kernel_rfl
def zmN (G:Sem'):List V → M V
 | [t0]=>fin (zrE G t0)
 | _=>M.fail
theorem zyJ {g:Sem'} (hg:Sims g (sem T)) (args:List V):Sim (zmN g args) (sem T zfa args):=by
 unfold zmN;split
 ·exact zaf zwZ (Nat.le_of_ble_eq_true (by kernel_rfl)) hg (zxB g _)
 ·exact zaa
def zv4 (G:Sem') (t39 t38 t4:V) (L:List V):M Res :=
 (M.lift (Ax.bin .lss (L.getD 1 .undef) t39)).bind fun t41 =>
 M.ite t41
 (M.blk 3 (
 (M.lift (Ax.iaddr none 1 t38 (L.getD 1 .undef))).bind fun t42 =>
 (mload none t42).bind fun t43 =>
 (M.lift (Ax.cint .u64 t43)).bind fun t46 =>
 (G zbL [(L.getD 0 .undef),t46,(V.int .i64 4)]).bind fun t47 =>
 M.pure (.nrm [t47])) fun L0 =>
 (M.lift (Ax.bin .add (L.getD 1 .undef) (V.int .i64 1))).bind fun t48 =>
 M.pure (.nrm [(L0.getD 0 .undef),t48]))
 (M.pure (.ex 2 [(L.getD 0 .undef)]))
def zv3 (G:Sem') (t10 t9 t4:V) (L:List V):M Res :=
 (M.lift (Ax.bin .lss (L.getD 1 .undef) t10)).bind fun t12 =>
 M.ite t12
 (M.blk 1 (
 (M.lift (Ax.iaddr none 7 t9 (L.getD 1 .undef))).bind fun t13 =>
 (mload (some 7) t13).bind fun t14 =>
 (mbox zhh (V.agg [(V.int .u32 0),(V.int .u8 0),(V.int .u32 0),(V.int .u32 0),(V.int .u32 0),(V.int .u32 0),(V.int .u32 0)])).bind fun t6 =>
 (mstore 7 t6 t14).bind fun _ =>
 (M.lift (Ax.faddr 0 t6)).bind fun t16 =>
 (mload none t16).bind fun t17 =>
 (M.lift (Ax.cint .u64 t17)).bind fun t18 =>
 (G zbL [(L.getD 0 .undef),t18,(V.int .i64 4)]).bind fun t19 =>
 (M.lift (Ax.faddr 1 t6)).bind fun t21 =>
 (mload none t21).bind fun t22 =>
 (mslit zaj 1 [(V.int .u8 0)] [(0,1,t22)]).bind fun t23 =>
 (mappend zaj 1 1 t19 t23).bind fun t24 =>
 (M.lift (Ax.faddr 2 t6)).bind fun t26 =>
 (mload none t26).bind fun t27 =>
 (M.lift (Ax.cint .u64 t27)).bind fun t28 =>
 (G zbL [t24,t28,(V.int .i64 3)]).bind fun t29 =>
 (M.lift (Ax.faddr 3 t6)).bind fun t30 =>
 (mload none t30).bind fun t31 =>
 (M.lift (Ax.faddr 4 t6)).bind fun t32 =>
 (mload none t32).bind fun t33 =>
 (M.lift (Ax.faddr 5 t6)).bind fun t34 =>
 (mload none t34).bind fun t35 =>
 (M.lift (Ax.faddr 6 t6)).bind fun t36 =>
 (mload none t36).bind fun t37 =>
 (mslit zej 4 [(V.int .u32 0)] [(0,1,t31),(1,1,t33),(2,1,t35),(3,1,t37)]).bind fun t38 =>
 (M.lift (vlen t38)).bind fun t39 =>
 M.blk 2 (
 M.iter (zv4 G t39 t38 t4) [t29,(V.int .i64 0)]) fun L1 =>
 M.pure (.nrm [(L1.getD 0 .undef)])) fun L2 =>
 (M.lift (Ax.bin .add (L.getD 1 .undef) (V.int .i64 1))).bind fun t49 =>
 M.pure (.nrm [(L2.getD 0 .undef),t49]))
 (M.pure (.ex 0 [(L.getD 0 .undef)]))
def zrD (G:Sem') (t0 t1:V):M Res :=
 (M.lift (vlen t1)).bind fun t10 =>
 M.blk 0 (
 M.iter (zv3 G t10 t1 V.nils) [t0,(V.int .i64 0)]) fun L3 =>
 M.pure (.ret [(L3.getD 0 .undef)])
def zlc:Fn':=(T zea).getD noF
theorem zwY:T zea = some zlc:=by kernel_rfl
theorem zxA (G:Sem') (t0 t1:V):execK G zlc.rv zlc.body [] [] (params 0 [t0,t1]) = zrD G t0 t1:=by kernel_rfl
def zmM (G:Sem'):List V → M V
 | [t0,t1]=>fin (zrD G t0 t1)
 | _=>M.fail
theorem zyI {g:Sem'} (hg:Sims g (sem T)) (args:List V):Sim (zmM g args) (sem T zea args):=by
 unfold zmM;split
 ·exact zaf zwY (Nat.le_of_ble_eq_true (by kernel_rfl)) hg (zxA g _ _)
 ·exact zaa
def zt7 (G:Sem') (t0:V):M Res :=
 (G zcr [t0]).bind fun t6 =>
 (M.lift (Ax.bin .shl (V.int .u64 1) t6)).bind fun t9 =>
 (M.lift (Ax.bin .sub t9 t0)).bind fun t11 =>
 M.pure (.ret [t6,t11])
def zmz:Fn':=(T zf5).getD noF
theorem zyB:T zf5 = some zmz:=by kernel_rfl
theorem zzH (G:Sem') (t0:V):execK G zmz.rv zmz.body [] [] (params 0 [t0]) = zt7 G t0:=by kernel_rfl
def zo3 (G:Sem'):List V → M V
 | [t0]=>fin (zt7 G t0)
 | _=>M.fail
theorem zAG {g:Sem'} (hg:Sims g (sem T)) (args:List V):Sim (zo3 g args) (sem T zf5 args):=by
 unfold zo3;split
 ·exact zaf zyB (Nat.le_of_ble_eq_true (by kernel_rfl)) hg (zzH g _)
 ·exact zaa
def zjQ (G:Sem') (t7 t1 t0:V) (L:List V):M Res :=
 (M.lift (Ax.bin .lss (L.getD 0 .undef) t7)).bind fun t9 =>
 M.ite t9
 (M.blk 1 (
 (M.lift (Ax.iaddr none 1 t0 (L.getD 0 .undef))).bind fun t14 =>
 (mload none t14).bind fun t15 =>
 (callv G t1 [t15]).bind fun t16 =>
 M.ite t16
 (M.pure (.ret [(L.getD 0 .undef)]))
 (M.pure (.nrm []))) fun _ =>
 (M.lift (Ax.bin .add (L.getD 0 .undef) (V.int .i64 1))).bind fun t18 =>
 M.pure (.nrm [t18]))
 (M.pure (.ex 0 []))
def zf9 (G:Sem') (t0 t1:V):M Res :=
 (M.lift (vlen t0)).bind fun t7 =>
 M.blk 0 (
 M.iter (zjQ G t7 t1 t0) [(V.int .i64 0)]) fun _ =>
 M.pure (.ret [(V.int .i64 (-1))])
def zdE:Fn':=(T zbu).getD noF
theorem zjU:T zbu = some zdE:=by kernel_rfl
theorem zkk (G:Sem') (t0 t1:V):execK G zdE.rv zdE.body [] [] (params 0 [t0,t1]) = zf9 G t0 t1:=by kernel_rfl
def zdR (G:Sem'):List V → M V
 | [t0,t1]=>fin (zf9 G t0 t1)
 | _=>M.fail
theorem zkD {g:Sem'} (hg:Sims g (sem T)) (args:List V):Sim (zdR g args) (sem T zbu args):=by
 unfold zdR;split
 ·exact zaf zjU (Nat.le_of_ble_eq_true (by kernel_rfl)) hg (zkk g _ _)
 ·exact zaa
def ze0 (G:Sem') (t7 t1 t0:V) (L:List V):M Res :=
 (M.lift (Ax.bin .lss (L.getD 0 .undef) t7)).bind fun t9 =>
 M.ite t9
 (M.blk 1 (
 (M.lift (Ax.iaddr none 7 t0 (L.getD 0 .undef))).bind fun t14 =>
 (mload (some 7) t14).bind fun t15 =>
 (callv G t1 [t15]).bind fun t16 =>
 M.ite t16
 (M.pure (.ret [(L.getD 0 .undef)]))
 (M.pure (.nrm []))) fun _ =>
 (M.lift (Ax.bin .add (L.getD 0 .undef) (V.int .i64 1))).bind fun t18 =>
 M.pure (.nrm [t18]))
 (M.pure (.ex 0 []))
def zcV (G:Sem') (t0 t1:V):M Res :=
 (M.lift (vlen t0)).bind fun t7 =>
 M.blk 0 (
 M.iter (ze0 G t7 t1 t0) [(V.int .i64 0)]) fun _ =>
 M.pure (.ret [(V.int .i64 (-1))])
def zbJ:Fn':=(T zaF).getD noF
theorem zfg:T zaF = some zbJ:=by kernel_rfl
theorem zfk (G:Sem') (t0 t1:V):execK G zbJ.rv zbJ.body [] [] (params 0 [t0,t1]) = zcV G t0 t1:=by kernel_rfl
def zbP (G:Sem'):List V → M V
 | [t0,t1]=>fin (zcV G t0 t1)
 | _=>M.fail
theorem zfx {g:Sem'} (hg:Sims g (sem T)) (args:List V):Sim (zbP g args) (sem T zaF args):=by
 unfold zbP;split
 ·exact zaf zfg (Nat.le_of_ble_eq_true (by kernel_rfl)) hg (zfk g _ _)
 ·exact zaa
end Go.Ax.Cc
/- CiS -/
namespace Go.Ax.Cc
open Go.Proofs
def disp (G:Sem') (f:FuncId) (args:List V):M V :=
 if f < 226 then (if f < 136 then (if f < 85 then (if f < 51 then (if f < 25 then (if f < 18 then (if f < 16 then (if f = zeS then ztE G args else M.fail) else (if f < 17 then (if f = zbn then zfs G args else M.fail) else (if f = zco then zfr G args else M.fail))) else (if f < 19 then (if f = zdB then zjB G args else M.fail) else (if f < 24 then (if f = zaY then zly G args else M.fail) else (if f = zbb then ziH G args else M.fail)))) else (if f < 46 then (if f < 26 then (if f = zaU then ziG G args else M.fail) else (if f < 27 then (if f = zaP then zfp G args else M.fail) else (if f = zaK then zfM G args else M.fail))) else (if f < 49 then (if f < 48 then (if f = zeE then zqJ G args else M.fail) else (if f = zdu then zjk G args else M.fail)) else (if f < 50 then (if f = zcA then zgO G args else M.fail) else (if f = zcg then zqO G args else M.fail))))) else (if f < 61 then (if f < 54 then (if f < 52 then (if f = zbV then zgn G args else M.fail) else (if f < 53 then (if f = zbk then zjx G args else M.fail) else (if f = zcO then zjt G args else M.fail))) else (if f < 59 then (if f < 58 then (if f = zba then ziA G args else M.fail) else (if f = zbw then zjl G args else M.fail)) else (if f < 60 then (if f = zaN then zez G args else M.fail) else (if f = zai then zgk G args else M.fail)))) else (if f < 68 then (if f < 62 then (if f = zak then zfL G args else M.fail) else (if f < 66 then (if f = zaQ then zfq G args else M.fail) else (if f = zaD then zit G args else M.fail))) else (if f < 83 then (if f < 82 then (if f = zcf then zjm G args else M.fail) else (if f = zbs then zoM G args else M.fail)) else (if f < 84 then (if f = zcX then zoZ G args else M.fail) else (if f = zdm then zoL G args else M.fail)))))) else (if f < 98 then (if f < 91 then (if f < 88 then (if f < 86 then (if f = zax then zis G args else M.fail) else (if f < 87 then (if f = za9 then ziz G args else M.fail) else (if f = zb5 then ziD G args else M.fail))) else (if f < 89 then (if f = zij then zwC G args else M.fail) else (if f < 90 then (if f = zcB then zgQ G args else M.fail) else (if f = zcN then zhC G args else M.fail)))) else (if f < 94 then (if f < 92 then (if f = zc8 then ziB G args else M.fail) else (if f < 93 then (if f = zcp then zo0 G args else M.fail) else (if f = zbx then zlx G args else M.fail))) else (if f < 96 then (if f < 95 then (if f = zcR then zjz G args else M.fail) else (if f = zcP then zjv G args else M.fail)) else (if f < 97 then (if f = zg3 then zqF G args else M.fail) else (if f = zch then zjr G args else M.fail))))) else (if f < 129 then (if f < 103 then (if f < 101 then (if f = zaB then zec G args else M.fail) else (if f < 102 then (if f = zaM then zex G args else M.fail) else (if f = zas then zeV G args else M.fail))) else (if f < 105 then (if f < 104 then (if f = zah then zgP G args else M.fail) else (if f = zae then zgl G args else M.fail)) else (if f < 128 then (if f = zbF then zfo G args else M.fail) else (if f = zbM then zoI G args else M.fail)))) else (if f < 132 then (if f < 130 then (if f = zb8 then zoJ G args else M.fail) else (if f < 131 then (if f = zaT then zeU G args else M.fail) else (if f = zb9 then zoO G args else M.fail))) else (if f < 134 then (if f < 133 then (if f = zf1 then zoV G args else M.fail) else (if f = zfY then zoS G args else M.fail)) else (if f < 135 then (if f = zc9 then ziF G args else M.fail) else (if f = zcQ then zjy G args else M.fail))))))) else (if f < 163 then (if f < 149 then (if f < 142 then (if f < 139 then (if f < 137 then (if f = zdz then zjw G args else M.fail) else (if f < 138 then (if f = zg0 then zqB G args else M.fail) else (if f = zgX then zqw G args else M.fail))) else (if f < 140 then (if f = zcb then zhB G args else M.fail) else (if f < 141 then (if f = zeu then zlw G args else M.fail) else (if f = zg9 then zqN G args else M.fail)))) else (if f < 145 then (if f < 143 then (if f = zgJ then ztx G args else M.fail) else (if f < 144 then (if f = zev then zlB G args else M.fail) else (if f = zfK then ztA G args else M.fail))) else (if f < 147 then (if f < 146 then (if f = zgK then ztC G args else M.fail) else (if f = zc6 then ziw G args else M.fail)) else (if f < 148 then (if f = za1 then zju G args else M.fail) else (if f = zbU then zgm G args else M.fail))))) else (if f < 156 then (if f < 152 then (if f < 150 then (if f = zbd then zlv G args else M.fail) else (if f < 151 then (if f = zaI then zmZ G args else M.fail) else (if f = zce then zqM G args else M.fail))) else (if f < 154 then (if f < 153 then (if f = zaV then zks G args else M.fail) else (if f = zg5 then zqH G args else M.fail)) else (if f < 155 then (if f = zdr then zmT G args else M.fail) else (if f = zcD then zku G args else M.fail)))) else (if f < 159 then (if f < 157 then (if f = zf0 then zoU G args else M.fail) else (if f < 158 then (if f = zg4 then zqG G args else M.fail) else (if f = zdx then zjp G args else M.fail))) else (if f < 161 then (if f < 160 then (if f = zdy then zjs G args else M.fail) else (if f = zdY then zkt G args else M.fail)) else (if f < 162 then (if f = zg6 then zqI G args else M.fail) else (if f = zf2 then zoX G args else M.fail)))))) else (if f < 212 then (if f < 205 then (if f < 201 then (if f < 164 then (if f = zdq then zmO G args else M.fail) else (if f < 200 then (if f = zbv then zdS G args else M.fail) else (if f = zd7 then zqE G args else M.fail))) else (if f < 203 then (if f < 202 then (if f = ze9 then zmL G args else M.fail) else (if f = zb2 then zjq G args else M.fail)) else (if f < 204 then (if f = zdw then zjo G args else M.fail) else (if f = zcu then ziE G args else M.fail)))) else (if f < 208 then (if f < 206 then (if f = zdX then zkq G args else M.fail) else (if f < 207 then (if f = zfc then zmQ G args else M.fail) else (if f = zct then ziC G args else M.fail))) else (if f < 210 then (if f < 209 then (if f = zcr then ziu G args else M.fail) else (if f = zeq then zwA G args else M.fail)) else (if f < 211 then (if f = zdT then zkm G args else M.fail) else (if f = zeb then zmS G args else M.fail))))) else (if f < 219 then (if f < 215 then (if f < 213 then (if f = zde then zkr G args else M.fail) else (if f < 214 then (if f = zj7 then zzI G args else M.fail) else (if f = zhb then zqR G args else M.fail))) else (if f < 217 then (if f < 216 then (if f = zaC then zgT G args else M.fail) else (if f = zam then zgS G args else M.fail)) else (if f < 218 then (if f = zbB then zee G args else M.fail) else (if f = zcY then zmX G args else M.fail)))) else (if f < 222 then (if f < 220 then (if f = zc2 then zlz G args else M.fail) else (if f < 221 then (if f = zcv then ziJ G args else M.fail) else (if f = za5 then zgp G args else M.fail))) else (if f < 224 then (if f < 223 then (if f = zbo then zgo G args else M.fail) else (if f = zcC then zgR G args else M.fail)) else (if f < 225 then (if f = zcd then zhG G args else M.fail) else (if f = zaS then zcU G args else M.fail)))))))) else (if f < 306 then (if f < 279 then (if f < 239 then (if f < 232 then (if f < 229 then (if f < 227 then (if f = zbj then zdp G args else M.fail) else (if f < 228 then (if f = za6 then zc3 G args else M.fail) else (if f = zfI then zqx G args else M.fail))) else (if f < 230 then (if f = zff then zmW G args else M.fail) else (if f < 231 then (if f = zcM then zhA G args else M.fail) else (if f = zdW then zkp G args else M.fail)))) else (if f < 235 then (if f < 233 then (if f = zif then ztt G args else M.fail) else (if f < 234 then (if f = zjR then zwB G args else M.fail) else (if f = zd1 then zky G args else M.fail))) else (if f < 237 then (if f < 236 then (if f = zdV then zko G args else M.fail) else (if f = zaH then zeA G args else M.fail)) else (if f < 238 then (if f = zfZ then zoT G args else M.fail) else (if f = zet then zwE G args else M.fail))))) else (if f < 246 then (if f < 242 then (if f < 240 then (if f = zaW then zmR G args else M.fail) else (if f < 241 then (if f = zdI then zlu G args else M.fail) else (if f = zcq then zo1 G args else M.fail))) else (if f < 244 then (if f < 243 then (if f = zfU then zoK G args else M.fail) else (if f = zf3 then zoY G args else M.fail)) else (if f < 245 then (if f = zdH then zls G args else M.fail) else (if f = ze6 then zmI G args else M.fail)))) else (if f < 249 then (if f < 247 then (if f = zeQ then zoN G args else M.fail) else (if f < 248 then (if f = zdA then zjA G args else M.fail) else (if f = zim then ztD G args else M.fail))) else (if f < 251 then (if f < 250 then (if f = zc7 then zix G args else M.fail) else (if f = zg7 then zqK G args else M.fail)) else (if f < 278 then (if f = zfb then zmP G args else M.fail) else (if f = zfJ then zqz G args else M.fail)))))) else (if f < 292 then (if f < 285 then (if f < 282 then (if f < 280 then (if f = zaq then zhz G args else M.fail) else (if f < 281 then (if f = zaO then zir G args else M.fail) else (if f = zbT then zgj G args else M.fail))) else (if f < 283 then (if f = zcz then zgN G args else M.fail) else (if f < 284 then (if f = zg1 then zqC G args else M.fail) else (if f = zdU then zkn G args else M.fail)))) else (if f < 288 then (if f < 286 then (if f = zcs then ziy G args else M.fail) else (if f < 287 then (if f = zdv then zjn G args else M.fail) else (if f = zin then ztF G args else M.fail))) else (if f < 290 then (if f < 289 then (if f = zig then ztu G args else M.fail) else (if f = zaJ then zcl G args else M.fail)) else (if f < 291 then (if f = zih then ztv G args else M.fail) else (if f = zbW then zhF G args else M.fail))))) else (if f < 299 then (if f < 295 then (if f < 293 then (if f = zbA then zed G args else M.fail) else (if f < 294 then (if f = zb6 then zfN G args else M.fail) else (if f = zcc then zhE G args else M.fail))) else (if f < 297 then (if f < 296 then (if f = zcT then zjC G args else M.fail) else (if f = zbt then zkv G args else M.fail)) else (if f < 298 then (if f = zdZ then zkw G args else M.fail) else (if f = zal then za4 G args else M.fail)))) else (if f < 302 then (if f < 300 then (if f = zd3 then zkA G args else M.fail) else (if f < 301 then (if f = zbR then zeW G args else M.fail) else (if f = zd0 then zkx G args else M.fail))) else (if f < 304 then (if f < 303 then (if f = zbh then zdn G args else M.fail) else (if f = zii then ztw G args else M.fail)) else (if f < 305 then (if f = zep then zwz G args else M.fail) else (if f = zgW then zqv G args else M.fail))))))) else (if f < 336 then (if f < 319 then (if f < 312 then (if f < 309 then (if f < 307 then (if f = zer then zlp G args else M.fail) else (if f < 308 then (if f = zha then zqP G args else M.fail) else (if f = zfd then zmU G args else M.fail))) else (if f < 310 then (if f = zbl then zfm G args else M.fail) else (if f < 311 then (if f = zdJ then zlA G args else M.fail) else (if f = zjT then zwF G args else M.fail)))) else (if f < 315 then (if f < 313 then (if f = zc5 then ziv G args else M.fail) else (if f < 314 then (if f = zfS then zoG G args else M.fail) else (if f = zg8 then zqL G args else M.fail))) else (if f < 317 then (if f < 316 then (if f = zjS then zwD G args else M.fail) else (if f = zil then ztB G args else M.fail)) else (if f < 318 then (if f = zfV then zoP G args else M.fail) else (if f = zdG then zlr G args else M.fail))))) else (if f < 326 then (if f < 322 then (if f < 320 then (if f = zaz then zb3 G args else M.fail) else (if f < 321 then (if f = zar then zby G args else M.fail) else (if f = zes then zlq G args else M.fail))) else (if f < 324 then (if f < 323 then (if f = zg2 then zqD G args else M.fail) else (if f = zgY then zqy G args else M.fail)) else (if f < 325 then (if f = zbL then zty G args else M.fail) else (if f = zbp then zey G args else M.fail)))) else (if f < 329 then (if f < 327 then (if f = zeR then zoW G args else M.fail) else (if f < 328 then (if f = zfT then zoH G args else M.fail) else (if f = za0 then zcH G args else M.fail))) else (if f < 331 then (if f < 330 then (if f = zcS then zhD G args else M.fail) else (if f = zbe then zdf G args else M.fail)) else (if f < 335 then (if f = zik then ztz G args else M.fail) else (if f = zf4 then zo2 G args else M.fail)))))) else (if f < 350 then (if f < 343 then (if f < 339 then (if f < 337 then (if f = zeF then zqQ G args else M.fail) else (if f < 338 then (if f = zds then zmY G args else M.fail) else (if f = ze8 then zmK G args else M.fail))) else (if f < 341 then (if f < 340 then (if f = zcj then zgq G args else M.fail) else (if f = zbf then zdg G args else M.fail)) else (if f < 342 then (if f = zda then ziI G args else M.fail) else (if f = zfe then zmV G args else M.fail)))) else (if f < 346 then (if f < 344 then (if f = zao then zbg G args else M.fail) else (if f < 345 then (if f = zbm then zfn G args else M.fail) else (if f = zaL then zb4 G args else M.fail))) else (if f < 348 then (if f < 347 then (if f = zfW then zoQ G args else M.fail) else (if f = ze7 then zmJ G args else M.fail)) else (if f < 349 then (if f = zci then zjD G args else M.fail) else (if f = zfR then zoF G args else M.fail))))) else (if f < 357 then (if f < 353 then (if f < 351 then (if f = zd2 then zkz G args else M.fail) else (if f < 352 then (if f = zbi then zdo G args else M.fail) else (if f = za7 then zc4 G args else M.fail))) else (if f < 355 then (if f < 354 then (if f = zaG then zbQ G args else M.fail) else (if f = zdt then zjj G args else M.fail)) else (if f < 356 then (if f = zay then zbH G args else M.fail) else (if f = zfX then zoR G args else M.fail)))) else (if f < 360 then (if f < 358 then (if f = zgZ then zqA G args else M.fail) else (if f < 359 then (if f = zau then zbG G args else M.fail) else (if f = zfa then zmN G args else M.fail))) else (if f < 363 then (if f < 362 then (if f = zea then zmM G args else M.fail) else (if f = zf5 then zo3 G args else M.fail)) else (if f < 364 then (if f = zbu then zdR G args else M.fail) else (if f = zaF then zbP G args else M.fail))))))))
theorem zE6 {g:Sem'} (hg:Sims g (sem T)):Sims (disp g) (sem T):=fun f args =>
 (zab (fun _=>(zab (fun _=>(zab (fun _=>(zab (fun _=>(zab (fun _=>(zab (fun _=>(zab (fun _=>(zab (fun e=>e ▸ zD2 hg args) zaa)) (zab (fun _=>(zab (fun e=>e ▸ znv hg args) zaa)) (zab (fun e=>e ▸ znu hg args) zaa)))) (zab (fun _=>(zab (fun e=>e ▸ zuG hg args) zaa)) (zab (fun _=>(zab (fun e=>e ▸ zxj hg args) zaa)) (zab (fun e=>e ▸ zsS hg args) zaa))))) (zab (fun _=>(zab (fun _=>(zab (fun e=>e ▸ zsR hg args) zaa)) (zab (fun _=>(zab (fun e=>e ▸ zns hg args) zaa)) (zab (fun e=>e ▸ znJ hg args) zaa)))) (zab (fun _=>(zab (fun _=>(zab (fun e=>e ▸ zCd hg args) zaa)) (zab (fun e=>e ▸ zup hg args) zaa))) (zab (fun _=>(zab (fun e=>e ▸ zpW hg args) zaa)) (zab (fun e=>e ▸ zCi hg args) zaa)))))) (zab (fun _=>(zab (fun _=>(zab (fun _=>(zab (fun e=>e ▸ zpm hg args) zaa)) (zab (fun _=>(zab (fun e=>e ▸ zuC hg args) zaa)) (zab (fun e=>e ▸ zuy hg args) zaa)))) (zab (fun _=>(zab (fun _=>(zab (fun e=>e ▸ zsL hg args) zaa)) (zab (fun e=>e ▸ zuq hg args) zaa))) (zab (fun _=>(zab (fun e=>e ▸ zlF hg args) zaa)) (zab (fun e=>e ▸ zpj hg args) zaa))))) (zab (fun _=>(zab (fun _=>(zab (fun e=>e ▸ znI hg args) zaa)) (zab (fun _=>(zab (fun e=>e ▸ znt hg args) zaa)) (zab (fun e=>e ▸ zsE hg args) zaa)))) (zab (fun _=>(zab (fun _=>(zab (fun e=>e ▸ zur hg args) zaa)) (zab (fun e=>e ▸ zAp hg args) zaa))) (zab (fun _=>(zab (fun e=>e ▸ zAC hg args) zaa)) (zab (fun e=>e ▸ zAo hg args) zaa))))))) (zab (fun _=>(zab (fun _=>(zab (fun _=>(zab (fun _=>(zab (fun e=>e ▸ zsD hg args) zaa)) (zab (fun _=>(zab (fun e=>e ▸ zsK hg args) zaa)) (zab (fun e=>e ▸ zsO hg args) zaa)))) (zab (fun _=>(zab (fun e=>e ▸ zFm hg args) zaa)) (zab (fun _=>(zab (fun e=>e ▸ zpY hg args) zaa)) (zab (fun e=>e ▸ zrd hg args) zaa))))) (zab (fun _=>(zab (fun _=>(zab (fun e=>e ▸ zsM hg args) zaa)) (zab (fun _=>(zab (fun e=>e ▸ zAD hg args) zaa)) (zab (fun e=>e ▸ zxi hg args) zaa)))) (zab (fun _=>(zab (fun _=>(zab (fun e=>e ▸ zuE hg args) zaa)) (zab (fun e=>e ▸ zuA hg args) zaa))) (zab (fun _=>(zab (fun e=>e ▸ zB9 hg args) zaa)) (zab (fun e=>e ▸ zuw hg args) zaa)))))) (zab (fun _=>(zab (fun _=>(zab (fun _=>(zab (fun e=>e ▸ zk0 hg args) zaa)) (zab (fun _=>(zab (fun e=>e ▸ zlD hg args) zaa)) (zab (fun e=>e ▸ zmc hg args) zaa)))) (zab (fun _=>(zab (fun _=>(zab (fun e=>e ▸ zpX hg args) zaa)) (zab (fun e=>e ▸ zpk hg args) zaa))) (zab (fun _=>(zab (fun e=>e ▸ znr hg args) zaa)) (zab (fun e=>e ▸ zAl hg args) zaa))))) (zab (fun _=>(zab (fun _=>(zab (fun e=>e ▸ zAm hg args) zaa)) (zab (fun _=>(zab (fun e=>e ▸ zmb hg args) zaa)) (zab (fun e=>e ▸ zAr hg args) zaa)))) (zab (fun _=>(zab (fun _=>(zab (fun e=>e ▸ zAy hg args) zaa)) (zab (fun e=>e ▸ zAv hg args) zaa))) (zab (fun _=>(zab (fun e=>e ▸ zsQ hg args) zaa)) (zab (fun e=>e ▸ zuD hg args) zaa)))))))) (zab (fun _=>(zab (fun _=>(zab (fun _=>(zab (fun _=>(zab (fun _=>(zab (fun e=>e ▸ zuB hg args) zaa)) (zab (fun _=>(zab (fun e=>e ▸ zB5 hg args) zaa)) (zab (fun e=>e ▸ zB0 hg args) zaa)))) (zab (fun _=>(zab (fun e=>e ▸ zrc hg args) zaa)) (zab (fun _=>(zab (fun e=>e ▸ zxh hg args) zaa)) (zab (fun e=>e ▸ zCh hg args) zaa))))) (zab (fun _=>(zab (fun _=>(zab (fun e=>e ▸ zDV hg args) zaa)) (zab (fun _=>(zab (fun e=>e ▸ zxm hg args) zaa)) (zab (fun e=>e ▸ zDY hg args) zaa)))) (zab (fun _=>(zab (fun _=>(zab (fun e=>e ▸ zD0 hg args) zaa)) (zab (fun e=>e ▸ zsH hg args) zaa))) (zab (fun _=>(zab (fun e=>e ▸ zuz hg args) zaa)) (zab (fun e=>e ▸ zpl hg args) zaa)))))) (zab (fun _=>(zab (fun _=>(zab (fun _=>(zab (fun e=>e ▸ zxg hg args) zaa)) (zab (fun _=>(zab (fun e=>e ▸ zyV hg args) zaa)) (zab (fun e=>e ▸ zCg hg args) zaa)))) (zab (fun _=>(zab (fun _=>(zab (fun e=>e ▸ zvv hg args) zaa)) (zab (fun e=>e ▸ zCb hg args) zaa))) (zab (fun _=>(zab (fun e=>e ▸ zyP hg args) zaa)) (zab (fun e=>e ▸ zvx hg args) zaa))))) (zab (fun _=>(zab (fun _=>(zab (fun e=>e ▸ zAx hg args) zaa)) (zab (fun _=>(zab (fun e=>e ▸ zCa hg args) zaa)) (zab (fun e=>e ▸ zuu hg args) zaa)))) (zab (fun _=>(zab (fun _=>(zab (fun e=>e ▸ zux hg args) zaa)) (zab (fun e=>e ▸ zvw hg args) zaa))) (zab (fun _=>(zab (fun e=>e ▸ zCc hg args) zaa)) (zab (fun e=>e ▸ zAA hg args) zaa))))))) (zab (fun _=>(zab (fun _=>(zab (fun _=>(zab (fun _=>(zab (fun e=>e ▸ zyK hg args) zaa)) (zab (fun _=>(zab (fun e=>e ▸ zkE hg args) zaa)) (zab (fun e=>e ▸ zB8 hg args) zaa)))) (zab (fun _=>(zab (fun _=>(zab (fun e=>e ▸ zyH hg args) zaa)) (zab (fun e=>e ▸ zuv hg args) zaa))) (zab (fun _=>(zab (fun e=>e ▸ zut hg args) zaa)) (zab (fun e=>e ▸ zsP hg args) zaa))))) (zab (fun _=>(zab (fun _=>(zab (fun e=>e ▸ zvt hg args) zaa)) (zab (fun _=>(zab (fun e=>e ▸ zyM hg args) zaa)) (zab (fun e=>e ▸ zsN hg args) zaa)))) (zab (fun _=>(zab (fun _=>(zab (fun e=>e ▸ zsF hg args) zaa)) (zab (fun e=>e ▸ zFk hg args) zaa))) (zab (fun _=>(zab (fun e=>e ▸ zvp hg args) zaa)) (zab (fun e=>e ▸ zyO hg args) zaa)))))) (zab (fun _=>(zab (fun _=>(zab (fun _=>(zab (fun e=>e ▸ zvu hg args) zaa)) (zab (fun _=>(zab (fun e=>e ▸ s_rtp_at hg args) zaa)) (zab (fun e=>e ▸ zCl hg args) zaa)))) (zab (fun _=>(zab (fun _=>(zab (fun e=>e ▸ zp1 hg args) zaa)) (zab (fun e=>e ▸ zp0 hg args) zaa))) (zab (fun _=>(zab (fun e=>e ▸ zk2 hg args) zaa)) (zab (fun e=>e ▸ zyT hg args) zaa))))) (zab (fun _=>(zab (fun _=>(zab (fun e=>e ▸ zxk hg args) zaa)) (zab (fun _=>(zab (fun e=>e ▸ zsU hg args) zaa)) (zab (fun e=>e ▸ zpo hg args) zaa)))) (zab (fun _=>(zab (fun _=>(zab (fun e=>e ▸ zpn hg args) zaa)) (zab (fun e=>e ▸ zpZ hg args) zaa))) (zab (fun _=>(zab (fun e=>e ▸ zrh hg args) zaa)) (zab (fun e=>e ▸ zhV hg args) zaa))))))))) (zab (fun _=>(zab (fun _=>(zab (fun _=>(zab (fun _=>(zab (fun _=>(zab (fun _=>(zab (fun e=>e ▸ zjO hg args) zaa)) (zab (fun _=>(zab (fun e=>e ▸ ziQ hg args) zaa)) (zab (fun e=>e ▸ zB1 hg args) zaa)))) (zab (fun _=>(zab (fun e=>e ▸ zyS hg args) zaa)) (zab (fun _=>(zab (fun e=>e ▸ zrb hg args) zaa)) (zab (fun e=>e ▸ zvs hg args) zaa))))) (zab (fun _=>(zab (fun _=>(zab (fun e=>e ▸ zDR hg args) zaa)) (zab (fun _=>(zab (fun e=>e ▸ zFl hg args) zaa)) (zab (fun e=>e ▸ zvB hg args) zaa)))) (zab (fun _=>(zab (fun _=>(zab (fun e=>e ▸ zvr hg args) zaa)) (zab (fun e=>e ▸ zlG hg args) zaa))) (zab (fun _=>(zab (fun e=>e ▸ zAw hg args) zaa)) (zab (fun e=>e ▸ zFo hg args) zaa)))))) (zab (fun _=>(zab (fun _=>(zab (fun _=>(zab (fun e=>e ▸ zyN hg args) zaa)) (zab (fun _=>(zab (fun e=>e ▸ zxf hg args) zaa)) (zab (fun e=>e ▸ zAE hg args) zaa)))) (zab (fun _=>(zab (fun _=>(zab (fun e=>e ▸ zAn hg args) zaa)) (zab (fun e=>e ▸ zAB hg args) zaa))) (zab (fun _=>(zab (fun e=>e ▸ zxe hg args) zaa)) (zab (fun e=>e ▸ zyE hg args) zaa))))) (zab (fun _=>(zab (fun _=>(zab (fun e=>e ▸ zAq hg args) zaa)) (zab (fun _=>(zab (fun e=>e ▸ zuF hg args) zaa)) (zab (fun e=>e ▸ zD1 hg args) zaa)))) (zab (fun _=>(zab (fun _=>(zab (fun e=>e ▸ zsI hg args) zaa)) (zab (fun e=>e ▸ zCe hg args) zaa))) (zab (fun _=>(zab (fun e=>e ▸ zyL hg args) zaa)) (zab (fun e=>e ▸ zB3 hg args) zaa))))))) (zab (fun _=>(zab (fun _=>(zab (fun _=>(zab (fun _=>(zab (fun e=>e ▸ zra hg args) zaa)) (zab (fun _=>(zab (fun e=>e ▸ zsC hg args) zaa)) (zab (fun e=>e ▸ zpi hg args) zaa)))) (zab (fun _=>(zab (fun e=>e ▸ zpV hg args) zaa)) (zab (fun _=>(zab (fun e=>e ▸ zB6 hg args) zaa)) (zab (fun e=>e ▸ zvq hg args) zaa))))) (zab (fun _=>(zab (fun _=>(zab (fun e=>e ▸ zsJ hg args) zaa)) (zab (fun _=>(zab (fun e=>e ▸ zus hg args) zaa)) (zab (fun e=>e ▸ zD3 hg args) zaa)))) (zab (fun _=>(zab (fun _=>(zab (fun e=>e ▸ zDS hg args) zaa)) (zab (fun e=>e ▸ zhf hg args) zaa))) (zab (fun _=>(zab (fun e=>e ▸ zDT hg args) zaa)) (zab (fun e=>e ▸ zrg hg args) zaa)))))) (zab (fun _=>(zab (fun _=>(zab (fun _=>(zab (fun e=>e ▸ zk1 hg args) zaa)) (zab (fun _=>(zab (fun e=>e ▸ znK hg args) zaa)) (zab (fun e=>e ▸ zrf hg args) zaa)))) (zab (fun _=>(zab (fun _=>(zab (fun e=>e ▸ zuH hg args) zaa)) (zab (fun e=>e ▸ zvy hg args) zaa))) (zab (fun _=>(zab (fun e=>e ▸ zvz hg args) zaa)) (zab (fun e=>e ▸ zdl hg args) zaa))))) (zab (fun _=>(zab (fun _=>(zab (fun e=>e ▸ zvD hg args) zaa)) (zab (fun _=>(zab (fun e=>e ▸ zmd hg args) zaa)) (zab (fun e=>e ▸ zvA hg args) zaa)))) (zab (fun _=>(zab (fun _=>(zab (fun e=>e ▸ zjM hg args) zaa)) (zab (fun e=>e ▸ zDU hg args) zaa))) (zab (fun _=>(zab (fun e=>e ▸ zFj hg args) zaa)) (zab (fun e=>e ▸ zBZ hg args) zaa)))))))) (zab (fun _=>(zab (fun _=>(zab (fun _=>(zab (fun _=>(zab (fun _=>(zab (fun e=>e ▸ zxb hg args) zaa)) (zab (fun _=>(zab (fun e=>e ▸ zCj hg args) zaa)) (zab (fun e=>e ▸ zyQ hg args) zaa)))) (zab (fun _=>(zab (fun e=>e ▸ znp hg args) zaa)) (zab (fun _=>(zab (fun e=>e ▸ zxl hg args) zaa)) (zab (fun e=>e ▸ zFp hg args) zaa))))) (zab (fun _=>(zab (fun _=>(zab (fun e=>e ▸ zsG hg args) zaa)) (zab (fun _=>(zab (fun e=>e ▸ zAj hg args) zaa)) (zab (fun e=>e ▸ zCf hg args) zaa)))) (zab (fun _=>(zab (fun _=>(zab (fun e=>e ▸ zFn hg args) zaa)) (zab (fun e=>e ▸ zDZ hg args) zaa))) (zab (fun _=>(zab (fun e=>e ▸ zAs hg args) zaa)) (zab (fun e=>e ▸ zxd hg args) zaa)))))) (zab (fun _=>(zab (fun _=>(zab (fun _=>(zab (fun e=>e ▸ zgb hg args) zaa)) (zab (fun _=>(zab (fun e=>e ▸ zel hg args) zaa)) (zab (fun e=>e ▸ zxc hg args) zaa)))) (zab (fun _=>(zab (fun _=>(zab (fun e=>e ▸ zB7 hg args) zaa)) (zab (fun e=>e ▸ zB2 hg args) zaa))) (zab (fun _=>(zab (fun e=>e ▸ zDW hg args) zaa)) (zab (fun e=>e ▸ zlE hg args) zaa))))) (zab (fun _=>(zab (fun _=>(zab (fun e=>e ▸ zAz hg args) zaa)) (zab (fun _=>(zab (fun e=>e ▸ zAk hg args) zaa)) (zab (fun e=>e ▸ zhI hg args) zaa)))) (zab (fun _=>(zab (fun _=>(zab (fun e=>e ▸ zre hg args) zaa)) (zab (fun e=>e ▸ zi0 hg args) zaa))) (zab (fun _=>(zab (fun e=>e ▸ zDX hg args) zaa)) (zab (fun e=>e ▸ zAF hg args) zaa))))))) (zab (fun _=>(zab (fun _=>(zab (fun _=>(zab (fun _=>(zab (fun e=>e ▸ zCk hg args) zaa)) (zab (fun _=>(zab (fun e=>e ▸ zyU hg args) zaa)) (zab (fun e=>e ▸ zyG hg args) zaa)))) (zab (fun _=>(zab (fun _=>(zab (fun e=>e ▸ zpp hg args) zaa)) (zab (fun e=>e ▸ zi1 hg args) zaa))) (zab (fun _=>(zab (fun e=>e ▸ zsT hg args) zaa)) (zab (fun e=>e ▸ zyR hg args) zaa))))) (zab (fun _=>(zab (fun _=>(zab (fun e=>e ▸ zdN hg args) zaa)) (zab (fun _=>(zab (fun e=>e ▸ znq hg args) zaa)) (zab (fun e=>e ▸ zgc hg args) zaa)))) (zab (fun _=>(zab (fun _=>(zab (fun e=>e ▸ zAt hg args) zaa)) (zab (fun e=>e ▸ zyF hg args) zaa))) (zab (fun _=>(zab (fun e=>e ▸ zuI hg args) zaa)) (zab (fun e=>e ▸ zAi hg args) zaa)))))) (zab (fun _=>(zab (fun _=>(zab (fun _=>(zab (fun e=>e ▸ zvC hg args) zaa)) (zab (fun _=>(zab (fun e=>e ▸ zjN hg args) zaa)) (zab (fun e=>e ▸ ziR hg args) zaa)))) (zab (fun _=>(zab (fun _=>(zab (fun e=>e ▸ zfy hg args) zaa)) (zab (fun e=>e ▸ zuo hg args) zaa))) (zab (fun _=>(zab (fun e=>e ▸ zeY hg args) zaa)) (zab (fun e=>e ▸ zAu hg args) zaa))))) (zab (fun _=>(zab (fun _=>(zab (fun e=>e ▸ zB4 hg args) zaa)) (zab (fun _=>(zab (fun e=>e ▸ zeK hg args) zaa)) (zab (fun e=>e ▸ zyJ hg args) zaa)))) (zab (fun _=>(zab (fun _=>(zab (fun e=>e ▸ zyI hg args) zaa)) (zab (fun e=>e ▸ zAG hg args) zaa))) (zab (fun _=>(zab (fun e=>e ▸ zkD hg args) zaa)) (zab (fun e=>e ▸ zfx hg args) zaa)))))))))
def cs:Nat → Sem'
 | 0=>fun _ _=>M.fail
 | n + 1=>disp (cs n)
theorem sims_cs:∀ n,Sims (cs n) (sem T)
 | 0=>fun _ _=>zaa
 | n + 1=>zE6 (sims_cs n)
end Go.Ax.Cc
/- Dk17 -/
namespace Go.Ax.SU
open Go.Ax
def zT:Tb:=⟨List.replicate 8 false,List.replicate 8 0⟩
def pre1:Option (V × Cc.Heap):=Cc.cs 80 zeS [] ⟨.e,0⟩
def pre2:Option (V × V × Cc.Heap):=pre1.bind fun q=>(Cc.cs 80 zbn [] q.2).map fun r=>(q.1,r.1,r.2)
def zF9 (a : Nat) (h : Cc.Heap) (v : V) : Bool :=
  match v with
  | V.ptr d 0 =>
    match h.get d with
    | some ⟨ty, D, none⟩ => decide (ty = tyDk) && (decide (D.length = 1535) && (((List.range 4).all fun i => Cc.sames ((D.drop (i * 367)).take 16) (tC zT)) &&
      (match D[1470 + a]?, D[1534]? with
       | some (V.ptr p 0), some (V.ptr C 0) =>
         match h.get p, h.get C with
         | some ⟨tp, [V.int .i64 n, V.nils], none⟩, some ⟨tc, [V.sl cs 0 11 _], none⟩ =>
           match h.get cs with
           | some ⟨ta, ns, _⟩ => decide (tp = tyPo) && (decide (n = 32) && (decide (tc = zkX) && (decide (ta = zfA) && (Cc.sames ns ((List.replicate 11 0).map c64) && (decide (d < h.next) && (decide (p < h.next) && (decide (C < h.next) && (decide (cs < h.next) &&
               (decide (d ≠ p) && (decide (C ≠ p) && (decide (cs ≠ p) && (decide (d ≠ cs) && decide (C ≠ cs)))))))))))))
           | _ => false
         | _, _ => false
       | _, _ => false)))
    | _ => false
  | _ => false
def preOk (a:Nat):Bool:=match pre2 with | some (v,V.bool true,h)=>zF9 a h v | _=>false
theorem zT_ok:TbO zT:=⟨rfl,rfl⟩
theorem zF8 {a:Nat} (ha:a < 64) {h:Cc.Heap} {v:V} (hd:zF9 a h v = true):∃ d D p C cs,v = .ptr d 0 ∧ DS h.next h.abs d p C cs a D (fun _=>zT) [] (List.replicate 11 0):=by
 unfold zF9 at hd;split at hd
 case h_2=>cases hd
 rename_i d;split at hd
 case h_2=>cases hd
 rename_i ty D hg;simp only [Bool.and_eq_true,decide_eq_true_eq] at hd;obtain ⟨h1,h2,h3,hd⟩:=hd;subst h1;split at hd
 case h_2=>cases hd
 rename_i p C hpo hco;split at hd
 case h_2=>cases hd
 rename_i tp n tc cs cap hp hC;split at hd
 case h_2=>cases hd
 rename_i ta ns o hcs;simp only [Bool.and_eq_true,decide_eq_true_eq] at hd;obtain ⟨e1,e2,e3,e4,e5,l1,l2,l3,l4,n1,n2,n3,n4,n5⟩:=hd;have e5:=Cc.sames_eq e5;subst e1 e2 e3 e4 e5;refine ⟨d,D,p,C,cs,rfl,⟨⟨hg,h2,fun i hi=>⟨?_,zT_ok⟩⟩,⟨⟨cap,hC⟩,⟨o,hcs⟩,rfl,by decide⟩,⟨l2,Nat.le_refl _,by decide,⟨.nils,hp,App.nil,by simp⟩,by simp⟩,l1,l3,l4,n1,n2,n3,n4,n5,ha,hpo,hco⟩⟩;have h4:=Cc.sames_eq (List.all_eq_true.1 h3 i (List.mem_range.2 hi));simp only [ldc];rw [if_pos (by omega),h4]
theorem pre_ds {a:Nat} (ha:a < 64) (h:preOk a = true):∃ d D p C cs H1 H2,sem T zeS [] H0 = some (.ptr d 0,H1) ∧ sem T zbn [] H1 = some (.bool true,H2) ∧ DS H2.next H2 d p C cs a D (fun _=>zT) [] (List.replicate 11 0):=by
 unfold preOk at h;split at h
 case h_2=>cases h
 rename_i v hh hp;unfold pre2 at hp;rw [Option.bind_eq_some_iff] at hp;obtain ⟨⟨v1,h1⟩,hp1,hp2⟩:=hp;rw [Option.map_eq_some_iff] at hp2;obtain ⟨⟨v2,h2⟩,hp2,e⟩:=hp2;injection e with e1 e
 injection e with e2 e3
 dsimp only at e1 e2 e3 hp2;subst e1 e2 e3;obtain ⟨d,D,p,C,cs,rfl,hds⟩:=zF8 ha h;refine ⟨d,D,p,C,cs,h1.abs,h2.abs,?_,Cc.sims_cs 80 _ _ _ _ _ hp2,hds⟩;exact Cc.sims_cs 80 _ _ _ _ _ hp1
theorem pre_9:preOk 9 = true:=by kernel_rfl
end Go.Ax.SU
