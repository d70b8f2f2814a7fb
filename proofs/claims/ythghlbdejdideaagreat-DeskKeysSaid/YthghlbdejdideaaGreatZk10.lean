/-
  Texts of mine, put together by program (wip/slim.py), for law_deskKeys: part 10.
-/
import Derived.Test.YthghlbdejdideaaGreatZk9
noncomputable section
set_option linter.unusedVariables false
set_option linter.unusedSimpArgs false
set_option linter.defProp false
set_option maxRecDepth 100000
/- CiS4 -/
namespace Go.Ax.Cc
open Go.Proofs
def zxE (G:Sem') (L:List V):M Res :=
 (M.lift (vlen (L.getD 0 .undef))).bind fun t17 =>
 (M.lift (Ax.bin .gtr t17 (V.int .i64 0))).bind fun t18 =>
 M.ite t18
 (M.blk 2 (
 (M.lift (vlen (L.getD 0 .undef))).bind fun t20 =>
 (M.lift (Ax.bin .lss t20 (V.int .i64 4))).bind fun t21 =>
 M.ite t21
 (M.pure (.ret [V.nils,(V.int .i64 3)]))
 ((M.lift (Ax.iaddr none 1 (L.getD 0 .undef) (V.int .i64 0))).bind fun t23 =>
 (mload none t23).bind fun t24 =>
 (M.lift (Ax.bin .andNot t24 (V.int .u8 31))).bind fun t25 =>
 (M.lift (Ax.bin .neq t25 (V.int .u8 128))).bind fun t26 =>
 (guarded [(0,t26)] (some (0,false)) (M.pure (L.getD 0 .undef))).bind fun t28 =>
 (guarded [(0,t26)] (some (0,false)) (G zit [t28])).bind fun t29 =>
 (guarded [(0,t26)] (some (0,false)) (M.lift (Ax.un .not t29))).bind fun t30 =>
 (M.lift (Ax.pick t26 (V.bool true) t30)).bind fun t31 =>
 M.ite t31
 (M.pure (.ret [V.nils,(V.int .i64 2)]))
 ((M.lift (Ax.iaddr none 1 (L.getD 0 .undef) (V.int .i64 2))).bind fun t33 =>
 (mload none t33).bind fun t34 =>
 (M.lift (Ax.cint .i64 t34)).bind fun t35 =>
 (M.lift (Ax.bin .shl t35 (V.int .u64 8))).bind fun t36 =>
 (M.lift (Ax.iaddr none 1 (L.getD 0 .undef) (V.int .i64 3))).bind fun t38 =>
 (mload none t38).bind fun t39 =>
 (M.lift (Ax.cint .i64 t39)).bind fun t40 =>
 (M.lift (Ax.bin .or t36 t40)).bind fun t41 =>
 (M.lift (Ax.bin .mul (V.int .i64 4) t41)).bind fun t42 =>
 (M.lift (Ax.bin .add (V.int .i64 4) t42)).bind fun t43 =>
 (M.lift (vlen (L.getD 0 .undef))).bind fun t45 =>
 (M.lift (Ax.bin .lss t45 t43)).bind fun t47 =>
 M.ite t47
 (M.pure (.ret [V.nils,(V.int .i64 3)]))
 ((M.lift (Ax.iaddr none 1 (L.getD 0 .undef) (V.int .i64 1))).bind fun t50 =>
 (mload none t50).bind fun t51 =>
 (M.lift (Ax.cint .i64 t51)).bind fun t52 =>
 (M.lift (Ax.iaddr none 1 (L.getD 0 .undef) (V.int .i64 0))).bind fun t54 =>
 (mload none t54).bind fun t55 =>
 (M.lift (Ax.bin .and t55 (V.int .u8 31))).bind fun t56 =>
 (M.lift (Ax.cint .i64 t56)).bind fun t57 =>
 (M.lift (zbo .sl 1 (L.getD 0 .undef) (some (V.int .i64 4)) (some t43) none)).bind fun t60 =>
 (G zfh [t52,t57,t60]).bind fun t61 =>
 (M.lift (Ax.ext 0 t61)).bind fun t62 =>
 (mbox za3 (V.agg [(V.int .i64 0),(V.int .u32 0),(V.int .u32 0),(V.int .u64 0),(V.int .u32 0),(V.int .u32 0),(V.int .u32 0),V.nils,V.nils,V.nils,(V.int .i64 0),(V.int .u32 0),V.nils,(V.int .i64 0),(V.int .i64 0),V.nils])).bind fun t6 =>
 (mstore 16 t6 t62).bind fun _ =>
 (M.lift (Ax.ext 1 t61)).bind fun t63 =>
 (M.lift (Ax.un .not t63)).bind fun t65 =>
 M.ite t65
 (M.pure (.ret [V.nils,(V.int .i64 2)]))
 ((mload (some 16) t6).bind fun t67 =>
 (mslit za3 1 [(V.int .i64 0),(V.int .u32 0),(V.int .u32 0),(V.int .u64 0),(V.int .u32 0),(V.int .u32 0),(V.int .u32 0),V.nils,V.nils,V.nils,(V.int .i64 0),(V.int .u32 0),V.nils,(V.int .i64 0),(V.int .i64 0),V.nils] [(0,16,t67)]).bind fun t68 =>
 (mappend za3 16 192 (L.getD 1 .undef) t68).bind fun t69 =>
 (M.lift (zbo .sl 1 (L.getD 0 .undef) (some t43) none none)).bind fun t72 =>
 M.pure (.nrm [t72,t69])))))) fun L1 =>
 M.pure (.nrm [(L1.getD 0 .undef),(L1.getD 1 .undef)]))
 (M.pure (.ex 1 [(L.getD 1 .undef)]))
def zua (G:Sem') (t0:V):M Res :=
 M.blk 0 (
 (M.lift (vlen t0)).bind fun t10 =>
 (M.lift (Ax.bin .gtr t10 (V.int .i64 1200))).bind fun t11 =>
 M.ite t11
 (M.pure (.ret [V.nils,(V.int .i64 4)]))
 ((M.lift (vlen t0)).bind fun t14 =>
 (M.lift (Ax.bin .eql t14 (V.int .i64 0))).bind fun t15 =>
 M.ite t15
 (M.pure (.ret [V.nils,(V.int .i64 3)]))
 (M.pure (.nrm [])))) fun _ =>
 M.blk 1 (
 M.iter (zxE G) [t0,V.nils]) fun L2 =>
 M.pure (.ret [(L2.getD 0 .undef),(V.int .i64 0)])
def zmC:Fn':=(T zf8).getD noF
theorem zyz:T zf8 = some zmC:=by kernel_rfl
theorem zzE (G:Sem') (t0:V):execK G zmC.rv zmC.body [] [] (params 0 [t0]) = zua G t0:=by kernel_rfl
def zo2 (G:Sem'):List V → M V
 | [t0]=>fin (zua G t0)
 | _=>M.fail
theorem zAy {g:Sem'} (hg:Sims g (sem T)) (args:List V):Sim (zo2 g args) (sem T zf8 args):=by
 unfold zo2;split
 ·exact zae zyz (Nat.le_of_ble_eq_true (by kernel_rfl)) hg (zzE g _)
 ·exact zaa
def zqu (G:Sem') (t38 t37 t0 t1 t2:V) (L:List V):M Res :=
 (M.lift (Ax.bin .lss (L.getD 0 .undef) t38)).bind fun t40 =>
 M.ite t40
 (M.blk 1 (
 (M.lift (Ax.iaddr none 1 t37 (L.getD 0 .undef))).bind fun t41 =>
 (mload none t41).bind fun t42 =>
 (M.lift (Ax.nilck t1)).bind fun t46 =>
 (M.lift (Ax.faddr 0 t46)).bind fun t47 =>
 (M.lift (Ax.faddr 0 t47)).bind fun t48 =>
 (M.lift (Ax.faddr 8 t48)).bind fun t49 =>
 (M.lift (Ax.iaddr (some 8) 1 t49 t2)).bind fun t50 =>
 (mload none t50).bind fun t51 =>
 (G za2 [t0,t51,(V.int .i64 1),t42]).bind fun t53 =>
 M.pure (.nrm [])) fun _ =>
 (M.lift (Ax.bin .add (L.getD 0 .undef) (V.int .i64 1))).bind fun t54 =>
 M.pure (.nrm [t54]))
 (M.pure (.ex 0 []))
def zl8 (G:Sem') (t0 t1 t2 t3:V):M Res :=
 (mbox za3 t3).bind fun t7 =>
 (M.lift (Ax.faddr 2 t7)).bind fun t15 =>
 (mload none t15).bind fun t16 =>
 (G zb8 [t1,t2,t16]).bind fun t17 =>
 (M.lift (Ax.ext 0 t17)).bind fun t18 =>
 (M.lift (Ax.ext 1 t17)).bind fun t19 =>
 (M.lift (Ax.un .not t19)).bind fun t21 =>
 M.ite t21
 ((M.lift (Ax.nilck t0)).bind fun t23 =>
 (M.lift (Ax.faddr 1534 t23)).bind fun t24 =>
 (mload none t24).bind fun t25 =>
 (G zax [t25,(V.int .i64 4)]).bind fun t26 =>
 M.pure (.ret []))
 ((M.lift (Ax.nilck t1)).bind fun t30 =>
 (M.lift (Ax.faddr 303 t30)).bind fun t31 =>
 (M.lift (Ax.iaddr (some 8) 8 t31 t2)).bind fun t32 =>
 (M.lift (Ax.iaddr (some 8) 1 t32 t18)).bind fun t33 =>
 (mload none t33).bind fun t34 =>
 (M.lift (Ax.faddr 8 t7)).bind fun t35 =>
 (mload none t35).bind fun t36 =>
 (G zdC [t34,t36]).bind fun t37 =>
 (M.lift (vlen t37)).bind fun t38 =>
 M.blk 0 (
 M.iter (zqu G t38 t37 t0 t1 t2) [(V.int .i64 0)]) fun _ =>
 M.pure (.ret []))
def zhB:Fn':=(T zde).getD noF
theorem zrh:T zde = some zhB:=by kernel_rfl
theorem zsk (G:Sem') (t0 t1 t2 t3:V):execK G zhB.rv zhB.body [] [] (params 0 [t0,t1,t2,t3]) = zl8 G t0 t1 t2 t3:=by kernel_rfl
def ziO (G:Sem'):List V → M V
 | [t0,t1,t2,t3]=>fin (zl8 G t0 t1 t2 t3)
 | _=>M.fail
theorem zs2 {g:Sem'} (hg:Sims g (sem T)) (args:List V):Sim (ziO g args) (sem T zde args):=by
 unfold ziO;split
 ·exact zae zrh (Nat.le_of_ble_eq_true (by kernel_rfl)) hg (zsk g _ _ _ _)
 ·exact zaa
def zns (G:Sem') (t0 t1 t2 t3:V):M Res :=
 (G zb8 [t1,t2,t3]).bind fun t14 =>
 (M.lift (Ax.ext 0 t14)).bind fun t15 =>
 (M.lift (Ax.ext 1 t14)).bind fun t16 =>
 (M.lift (Ax.un .not t16)).bind fun t18 =>
 M.ite t18
 ((M.lift (Ax.nilck t0)).bind fun t20 =>
 (M.lift (Ax.faddr 1534 t20)).bind fun t21 =>
 (mload none t21).bind fun t22 =>
 (G zax [t22,(V.int .i64 4)]).bind fun t23 =>
 M.pure (.ret []))
 ((G zcB [t0,t1,t2,t15]).bind fun t28 =>
 M.pure (.ret []))
def zii:Fn':=(T zcW).getD noF
theorem zsG:T zcW = some zii:=by kernel_rfl
theorem ztA (G:Sem') (t0 t1 t2 t3:V):execK G zii.rv zii.body [] [] (params 0 [t0,t1,t2,t3]) = zns G t0 t1 t2 t3:=by kernel_rfl
def zjJ (G:Sem'):List V → M V
 | [t0,t1,t2,t3]=>fin (zns G t0 t1 t2 t3)
 | _=>M.fail
theorem zuM {g:Sem'} (hg:Sims g (sem T)) (args:List V):Sim (zjJ g args) (sem T zcW args):=by
 unfold zjJ;split
 ·exact zae zsG (Nat.le_of_ble_eq_true (by kernel_rfl)) hg (ztA g _ _ _ _)
 ·exact zaa
def zr1 (G:Sem') (t34:V) (L:List V):M Res :=
 (M.lift (Ax.bin .lss (L.getD 1 .undef) (V.int .i64 3))).bind fun t36 =>
 M.ite t36
 (M.blk 1 (
 (M.lift (Ax.index 3 11 (some 11) t34 (L.getD 1 .undef))).bind fun t37 =>
 (mbox ziV (V.agg [(V.bool false),(V.int .u32 0),(V.int .i64 0),(V.int .i64 0),(V.int .i64 0),V.nils,(V.int .i64 0),V.nils,V.nils,(V.int .u32 0),V.nils])).bind fun t14 =>
 (mstore 11 t14 t37).bind fun _ =>
 (M.lift (Ax.faddr 0 t14)).bind fun t38 =>
 (mload none t38).bind fun t39 =>
 (M.lift (Ax.un .not t39)).bind fun t40 =>
 M.join (M.ite t40
 ((M.lift (Ax.faddr 2 t14)).bind fun t41 =>
 (mstore 1 t41 (V.int .i64 (-1))).bind fun _ =>
 M.pure (.nrm []))
 (M.pure (.nrm []))) fun _ =>
 (M.lift (Ax.faddr 2 t14)).bind fun t43 =>
 (mload none t43).bind fun t44 =>
 (mslit ze5 1 [(V.int .i64 0)] [(0,1,t44)]).bind fun t45 =>
 (mappend ze5 1 8 (L.getD 0 .undef) t45).bind fun t46 =>
 M.pure (.nrm [t46])) fun L1 =>
 (M.lift (Ax.bin .add (L.getD 1 .undef) (V.int .i64 1))).bind fun t47 =>
 M.pure (.nrm [(L1.getD 0 .undef),t47]))
 (M.pure (.ex 0 [(L.getD 0 .undef)]))
def znr (G:Sem') (t0 t1 t2 t3 t4:V):M Res :=
 (G zb8 [t1,t2,t3]).bind fun t19 =>
 (M.lift (Ax.ext 0 t19)).bind fun t20 =>
 (M.lift (Ax.ext 1 t19)).bind fun t21 =>
 (M.lift (Ax.un .not t21)).bind fun t23 =>
 M.ite t23
 ((M.lift (Ax.nilck t0)).bind fun t25 =>
 (M.lift (Ax.faddr 1534 t25)).bind fun t26 =>
 (mload none t26).bind fun t27 =>
 (G zax [t27,(V.int .i64 4)]).bind fun t28 =>
 M.pure (.ret []))
 ((M.lift (Ax.nilck t1)).bind fun t31 =>
 (M.lift (Ax.faddr 39 t31)).bind fun t32 =>
 (M.lift (Ax.iaddr (some 8) 33 t32 t20)).bind fun t33 =>
 (mload (some 33) t33).bind fun t34 =>
 M.blk 0 (
 M.iter (zr1 G t34) [V.nils,(V.int .i64 0)]) fun L2 =>
 (M.lift (Ax.nilck t1)).bind fun t51 =>
 (M.lift (Ax.faddr 303 t51)).bind fun t52 =>
 (M.lift (Ax.iaddr (some 8) 8 t52 t2)).bind fun t53 =>
 (M.lift (Ax.iaddr (some 8) 1 t53 t20)).bind fun t54 =>
 (mload none t54).bind fun t55 =>
 M.getH.bind fun h0 =>
 (G zfk [t4,(L2.getD 0 .undef)]).bind fun t58 =>
 M.getH.bind fun h0' =>
 (M.unch t54 h0 h0').bind fun _ =>
 (G zd3 [t55,t58]).bind fun t59 =>
 (G zcA [t0,t1,t2,t20]).bind fun t64 =>
 M.pure (.ret []))
def zih:Fn':=(T zdD).getD noF
theorem zsF:T zdD = some zih:=by kernel_rfl
theorem ztz (G:Sem') (t0 t1 t2 t3 t4:V):execK G zih.rv zih.body [] [] (params 0 [t0,t1,t2,t3,t4]) = znr G t0 t1 t2 t3 t4:=by kernel_rfl
def zjH (G:Sem'):List V → M V
 | [t0,t1,t2,t3,t4]=>fin (znr G t0 t1 t2 t3 t4)
 | _=>M.fail
theorem zuK {g:Sem'} (hg:Sims g (sem T)) (args:List V):Sim (zjH g args) (sem T zdD args):=by
 unfold zjH;split
 ·exact zae zsF (Nat.le_of_ble_eq_true (by kernel_rfl)) hg (ztz g _ _ _ _ _)
 ·exact zaa
def zwk (G:Sem') (t0:V):M Res :=
 (mbox za3 t0).bind fun t1 =>
 (M.lift (Ax.faddr 11 t1)).bind fun t5 =>
 (mload none t5).bind fun t6 =>
 (M.lift (Ax.cint .u64 t6)).bind fun t7 =>
 (M.lift (Ax.faddr 10 t1)).bind fun t8 =>
 (mload none t8).bind fun t9 =>
 (M.lift (Ax.minmax true t9 [(V.int .i64 0)])).bind fun t10 =>
 (M.lift (Ax.minmax false t10 [(V.int .i64 64)])).bind fun t11 =>
 M.blk 0 (
 (M.lift (Ax.bin .eql t7 (V.int .u64 0))).bind fun t14 =>
 M.ite t14
 (M.pure (.ret [(V.int .u64 0)]))
 ((G zcy [t7]).bind fun t17 =>
 (M.lift (Ax.bin .add t17 t11)).bind fun t19 =>
 (M.lift (Ax.bin .gtr t19 (V.int .i64 64))).bind fun t20 =>
 M.ite t20
 (M.pure (.ret [(V.int .u64 18446744073709551615)]))
 (M.pure (.nrm [])))) fun _ =>
 (M.lift (Ax.bin .shl t7 t11)).bind fun t23 =>
 M.pure (.ret [t23])
def zn9:Fn':=(T zha).getD noF
theorem zz5:T zha = some zn9:=by kernel_rfl
theorem zBq (G:Sem') (t0:V):execK G zn9.rv zn9.body [] [] (params 0 [t0]) = zwk G t0:=by kernel_rfl
def zqM (G:Sem'):List V → M V
 | [t0]=>fin (zwk G t0)
 | _=>M.fail
theorem zCf {g:Sem'} (hg:Sims g (sem T)) (args:List V):Sim (zqM g args) (sem T zha args):=by
 unfold zqM;split
 ·exact zae zz5 (Nat.le_of_ble_eq_true (by kernel_rfl)) hg (zBq g _)
 ·exact zaa
def zzl (G:Sem') (t5 t0 t4 t2:V) (L:List V):M Res :=
 (M.lift (Ax.bin .lss (L.getD 0 .undef) t5)).bind fun t62 =>
 M.ite t62
 (M.blk 2 (
 (M.lift (Ax.faddr 5 t4)).bind fun t65 =>
 (mload none t65).bind fun t66 =>
 (M.lift (Ax.bin .add (L.getD 0 .undef) (V.int .i64 4))).bind fun t70 =>
 (M.lift (zbo .sl 1 t0 (some (L.getD 0 .undef)) (some t70) none)).bind fun t71 =>
 M.getH.bind fun h3 =>
 (G zex [t71]).bind fun t72 =>
 M.getH.bind fun h3' =>
 (M.unch t65 h3 h3').bind fun _ =>
 (mslit zes 1 [(V.int .u32 0)] [(0,1,t72)]).bind fun t73 =>
 (mappend zes 1 4 t66 t73).bind fun t74 =>
 (M.lift (Ax.faddr 5 t4)).bind fun t75 =>
 (mstore 1 t75 t74).bind fun _ =>
 M.pure (.nrm [])) fun _ =>
 (M.lift (Ax.bin .add (L.getD 0 .undef) (V.int .i64 4))).bind fun t64 =>
 M.pure (.nrm [t64]))
 (M.pure (.ex 1 []))
def zwd (G:Sem') (t0:V):M Res :=
 (mbox zbE (V.agg [(V.bool false),(V.int .i64 0),(V.int .u16 0),(V.int .u32 0),(V.int .u32 0),V.nils,(V.int .i64 0),V.nils,(V.int .i64 0),V.nils])).bind fun t2 =>
 M.blk 0 (
 (M.lift (vlen t0)).bind fun t12 =>
 (M.lift (Ax.bin .gtr t12 (V.int .i64 1200))).bind fun t13 =>
 M.ite t13
 ((M.lift (Ax.build [(V.bool false),(V.int .i64 0),(V.int .u16 0),(V.int .u32 0),(V.int .u32 0),V.nils,(V.int .i64 0),V.nils,(V.int .i64 0),V.nils] [])).bind fun t14 =>
 (mstore 10 t2 t14).bind fun _ =>
 (mload (some 10) t2).bind fun r0 =>
 M.pure (.ret [r0,(V.int .i64 4)]))
 ((M.lift (vlen t0)).bind fun t17 =>
 (M.lift (Ax.bin .lss t17 (V.int .i64 12))).bind fun t18 =>
 M.ite t18
 ((M.lift (Ax.build [(V.bool false),(V.int .i64 0),(V.int .u16 0),(V.int .u32 0),(V.int .u32 0),V.nils,(V.int .i64 0),V.nils,(V.int .i64 0),V.nils] [])).bind fun t19 =>
 (mstore 10 t2 t19).bind fun _ =>
 (mload (some 10) t2).bind fun r0 =>
 M.pure (.ret [r0,(V.int .i64 3)]))
 ((M.lift (Ax.iaddr none 1 t0 (V.int .i64 0))).bind fun t22 =>
 (mload none t22).bind fun t23 =>
 (M.lift (Ax.bin .shr t23 (V.int .u64 6))).bind fun t24 =>
 (M.lift (Ax.bin .neq t24 (V.int .u8 2))).bind fun t25 =>
 M.ite t25
 ((M.lift (Ax.build [(V.bool false),(V.int .i64 0),(V.int .u16 0),(V.int .u32 0),(V.int .u32 0),V.nils,(V.int .i64 0),V.nils,(V.int .i64 0),V.nils] [])).bind fun t26 =>
 (mstore 10 t2 t26).bind fun _ =>
 (mload (some 10) t2).bind fun r0 =>
 M.pure (.ret [r0,(V.int .i64 2)]))
 (M.pure (.nrm []))))) fun _ =>
 (M.lift (Ax.iaddr none 1 t0 (V.int .i64 1))).bind fun t28 =>
 (mload none t28).bind fun t29 =>
 (M.lift (Ax.bin .and t29 (V.int .u8 128))).bind fun t30 =>
 (M.lift (Ax.bin .neq t30 (V.int .u8 0))).bind fun t31 =>
 (M.lift (Ax.iaddr none 1 t0 (V.int .i64 1))).bind fun t33 =>
 (mload none t33).bind fun t34 =>
 (M.lift (Ax.bin .andNot t34 (V.int .u8 128))).bind fun t35 =>
 (M.lift (Ax.cint .i64 t35)).bind fun t36 =>
 (M.lift (zbo .sl 1 t0 (some (V.int .i64 2)) (some (V.int .i64 4)) none)).bind fun t38 =>
 (M.lift (zbo .sl 1 t0 (some (V.int .i64 4)) (some (V.int .i64 8)) none)).bind fun t42 =>
 (M.lift (zbo .sl 1 t0 (some (V.int .i64 8)) (some (V.int .i64 12)) none)).bind fun t45 =>
 M.getH.bind fun h0 =>
 (G zex [t38]).bind fun t39 =>
 M.getH.bind fun h0' =>
 (M.unch t33 h0 h0').bind fun _ =>
 (M.unch t28 h0 h0').bind fun _ =>
 M.getH.bind fun h1 =>
 (G zex [t42]).bind fun t43 =>
 M.getH.bind fun h1' =>
 (M.unch t33 h1 h1').bind fun _ =>
 (M.unch t28 h1 h1').bind fun _ =>
 M.getH.bind fun h2 =>
 (G zex [t45]).bind fun t46 =>
 M.getH.bind fun h2' =>
 (M.unch t33 h2 h2').bind fun _ =>
 (M.unch t28 h2 h2').bind fun _ =>
 (M.lift (Ax.cint .u16 t39)).bind fun t40 =>
 (M.lift (Ax.build [(V.bool false),(V.int .i64 0),(V.int .u16 0),(V.int .u32 0),(V.int .u32 0),V.nils,(V.int .i64 0),V.nils,(V.int .i64 0),V.nils] [(0,1,t31),(1,1,t36),(2,1,t40),(3,1,t43),(4,1,t46)])).bind fun t47 =>
 (mbox zbE (V.agg [(V.bool false),(V.int .i64 0),(V.int .u16 0),(V.int .u32 0),(V.int .u32 0),V.nils,(V.int .i64 0),V.nils,(V.int .i64 0),V.nils])).bind fun t4 =>
 (mstore 10 t4 t47).bind fun _ =>
 (M.lift (Ax.iaddr none 1 t0 (V.int .i64 0))).bind fun t49 =>
 (mload none t49).bind fun t50 =>
 (M.lift (Ax.bin .and t50 (V.int .u8 15))).bind fun t51 =>
 (M.lift (Ax.cint .i64 t51)).bind fun t52 =>
 (M.lift (Ax.bin .mul (V.int .i64 4) t52)).bind fun t53 =>
 (M.lift (Ax.bin .add (V.int .i64 12) t53)).bind fun t54 =>
 (M.lift (vlen t0)).bind fun t56 =>
 (M.lift (Ax.bin .lss t56 t54)).bind fun t58 =>
 M.ite t58
 ((M.lift (Ax.build [(V.bool false),(V.int .i64 0),(V.int .u16 0),(V.int .u32 0),(V.int .u32 0),V.nils,(V.int .i64 0),V.nils,(V.int .i64 0),V.nils] [])).bind fun t59 =>
 (mstore 10 t2 t59).bind fun _ =>
 (mload (some 10) t2).bind fun r0 =>
 M.pure (.ret [r0,(V.int .i64 3)]))
 (M.blk 1 (
 M.iter (zzl G t54 t0 t4 t2) [(V.int .i64 12)]) fun _ =>
 (M.lift (Ax.iaddr none 1 t0 (V.int .i64 0))).bind fun t77 =>
 (mload none t77).bind fun t78 =>
 (M.lift (Ax.bin .and t78 (V.int .u8 16))).bind fun t79 =>
 (M.lift (Ax.bin .neq t79 (V.int .u8 0))).bind fun t80 =>
 M.join (M.ite t80
 ((M.lift (zbo .sl 1 t0 (some t54) none none)).bind fun t84 =>
 (G zdZ [t4,t84]).bind fun t85 =>
 (M.lift (Ax.ext 0 t85)).bind fun t86 =>
 (M.lift (Ax.ext 1 t85)).bind fun t87 =>
 (M.lift (Ax.bin .neq t87 (V.int .i64 0))).bind fun t89 =>
 M.ite t89
 ((M.lift (Ax.build [(V.bool false),(V.int .i64 0),(V.int .u16 0),(V.int .u32 0),(V.int .u32 0),V.nils,(V.int .i64 0),V.nils,(V.int .i64 0),V.nils] [])).bind fun t90 =>
 (mstore 10 t2 t90).bind fun _ =>
 (mload (some 10) t2).bind fun r0 =>
 M.pure (.ret [r0,t87]))
 ((M.lift (Ax.bin .add t54 t86)).bind fun t94 =>
 M.pure (.nrm [t94])))
 (M.pure (.nrm [t54]))) fun L3 =>
 (M.lift (zbo .sl 1 t0 (some (L3.getD 0 .undef)) none none)).bind fun t97 =>
 (M.lift (Ax.iaddr none 1 t0 (V.int .i64 0))).bind fun t99 =>
 (mload none t99).bind fun t100 =>
 (M.lift (Ax.bin .and t100 (V.int .u8 32))).bind fun t101 =>
 (M.lift (Ax.bin .neq t101 (V.int .u8 0))).bind fun t102 =>
 M.join (M.ite t102
 ((M.lift (vlen t0)).bind fun t105 =>
 (M.lift (Ax.bin .sub t105 (V.int .i64 1))).bind fun t106 =>
 (M.lift (Ax.iaddr none 1 t0 t106)).bind fun t107 =>
 (mload none t107).bind fun t108 =>
 (M.lift (Ax.cint .i64 t108)).bind fun t109 =>
 (M.lift (Ax.faddr 8 t4)).bind fun t110 =>
 (mstore 1 t110 t109).bind fun _ =>
 (M.lift (Ax.faddr 8 t4)).bind fun t111 =>
 (mload none t111).bind fun t112 =>
 (M.lift (Ax.bin .eql t112 (V.int .i64 0))).bind fun t113 =>
 (guarded [(0,t113)] (some (0,false)) (M.lift (Ax.faddr 8 t4))).bind fun t115 =>
 (guarded [(0,t113)] (some (0,false)) (mload none t115)).bind fun t116 =>
 (guarded [(0,t113)] (some (0,false)) (M.pure t97)).bind fun t117 =>
 (guarded [(0,t113)] (some (0,false)) (M.lift (vlen t117))).bind fun t118 =>
 (guarded [(0,t113)] (some (0,false)) (M.lift (Ax.bin .gtr t116 t118))).bind fun t119 =>
 (M.lift (Ax.pick t113 (V.bool true) t119)).bind fun t120 =>
 M.ite t120
 ((M.lift (Ax.build [(V.bool false),(V.int .i64 0),(V.int .u16 0),(V.int .u32 0),(V.int .u32 0),V.nils,(V.int .i64 0),V.nils,(V.int .i64 0),V.nils] [])).bind fun t121 =>
 (mstore 10 t2 t121).bind fun _ =>
 (mload (some 10) t2).bind fun r0 =>
 M.pure (.ret [r0,(V.int .i64 2)]))
 (M.pure (.nrm [])))
 (M.pure (.nrm []))) fun _ =>
 (M.lift (vlen t97)).bind fun t124 =>
 (M.lift (Ax.faddr 8 t4)).bind fun t125 =>
 (mload none t125).bind fun t126 =>
 (M.lift (Ax.bin .sub t124 t126)).bind fun t127 =>
 (M.lift (zbo .sl 1 t97 none (some t127) none)).bind fun t128 =>
 (G zaL [t128]).bind fun t129 =>
 (M.lift (Ax.faddr 9 t4)).bind fun t130 =>
 (mstore 1 t130 t129).bind fun _ =>
 (mload (some 10) t4).bind fun t131 =>
 (mstore 10 t2 t131).bind fun _ =>
 (mload (some 10) t2).bind fun r0 =>
 M.pure (.ret [r0,(V.int .i64 0)]))
def zn4:Fn':=(T zg7).getD noF
theorem zz0:T zg7 = some zn4:=by kernel_rfl
theorem zBl (G:Sem') (t0:V):execK G zn4.rv zn4.body [] [] (params 0 [t0]) = zwd G t0:=by kernel_rfl
def zqH (G:Sem'):List V → M V
 | [t0]=>fin (zwd G t0)
 | _=>M.fail
theorem zCa {g:Sem'} (hg:Sims g (sem T)) (args:List V):Sim (zqH g args) (sem T zg7 args):=by
 unfold zqH;split
 ·exact zae zz0 (Nat.le_of_ble_eq_true (by kernel_rfl)) hg (zBl g _)
 ·exact zaa
def zpB (G:Sem') (t15 t2:V) (L:List V):M Res :=
 (M.lift (Ax.bin .lss (L.getD 0 .undef) (V.int .i64 3))).bind fun t17 =>
 M.ite t17
 (M.blk 1 (
 (M.lift (Ax.index 3 11 (some 11) t15 (L.getD 0 .undef))).bind fun t19 =>
 (mbox ziV (V.agg [(V.bool false),(V.int .u32 0),(V.int .i64 0),(V.int .i64 0),(V.int .i64 0),V.nils,(V.int .i64 0),V.nils,V.nils,(V.int .u32 0),V.nils])).bind fun t9 =>
 (mstore 11 t9 t19).bind fun _ =>
 (M.lift (Ax.faddr 0 t9)).bind fun t20 =>
 (mload none t20).bind fun t21 =>
 (guarded [(0,t21)] (some (0,true)) (M.lift (Ax.faddr 1 t9))).bind fun t23 =>
 (guarded [(0,t21)] (some (0,true)) (mload none t23)).bind fun t24 =>
 (guarded [(0,t21)] (some (0,true)) (M.pure t2)).bind fun t25 =>
 (guarded [(0,t21)] (some (0,true)) (M.lift (Ax.bin .eql t24 t25))).bind fun t26 =>
 (M.lift (Ax.pick t21 t26 (V.bool false))).bind fun t27 =>
 M.ite t27
 (M.pure (.ret [(L.getD 0 .undef),(V.bool true)]))
 (M.pure (.nrm []))) fun _ =>
 (M.lift (Ax.bin .add (L.getD 0 .undef) (V.int .i64 1))).bind fun t29 =>
 M.pure (.nrm [t29]))
 (M.pure (.ex 0 []))
def zk2 (G:Sem') (t0 t1 t2:V):M Res :=
 (M.lift (Ax.nilck t0)).bind fun t12 =>
 (M.lift (Ax.faddr 39 t12)).bind fun t13 =>
 (M.lift (Ax.iaddr (some 8) 33 t13 t1)).bind fun t14 =>
 (mload (some 33) t14).bind fun t15 =>
 M.blk 0 (
 M.iter (zpB G t15 t2) [(V.int .i64 0)]) fun _ =>
 M.pure (.ret [(V.int .i64 0),(V.bool false)])
def zgN:Fn':=(T zci).getD noF
theorem zpZ:T zci = some zgN:=by kernel_rfl
theorem zqz (G:Sem') (t0 t1 t2:V):execK G zgN.rv zgN.body [] [] (params 0 [t0,t1,t2]) = zk2 G t0 t1 t2:=by kernel_rfl
def zhL (G:Sem'):List V → M V
 | [t0,t1,t2]=>fin (zk2 G t0 t1 t2)
 | _=>M.fail
theorem zro {g:Sem'} (hg:Sims g (sem T)) (args:List V):Sim (zhL g args) (sem T zci args):=by
 unfold zhL;split
 ·exact zae zpZ (Nat.le_of_ble_eq_true (by kernel_rfl)) hg (zqz g _ _ _)
 ·exact zaa
def zpS (G:Sem') (t0:V):M Res :=
 (M.lift (vlen t0)).bind fun t13 =>
 (M.lift (Ax.bin .eql t13 (V.int .i64 0))).bind fun t14 =>
 M.ite t14
 (M.pure (.ret [(V.int .u64 0),(V.int .u64 0),(V.int .i64 0),(V.int .i64 3)]))
 ((M.lift (Ax.iaddr none 1 t0 (V.int .i64 0))).bind fun t16 =>
 (mload none t16).bind fun t17 =>
 (M.lift (Ax.bin .shr t17 (V.int .u64 4))).bind fun t18 =>
 (M.lift (Ax.iaddr none 1 t0 (V.int .i64 0))).bind fun t20 =>
 (mload none t20).bind fun t21 =>
 (M.lift (Ax.bin .and t21 (V.int .u8 15))).bind fun t22 =>
 (G zej [t18]).bind fun t24 =>
 (M.lift (Ax.bin .add (V.int .i64 1) t24)).bind fun t25 =>
 (G zej [t22]).bind fun t28 =>
 (M.lift (Ax.bin .add t25 t28)).bind fun t29 =>
 (M.lift (vlen t0)).bind fun t31 =>
 (M.lift (Ax.bin .lss t31 t29)).bind fun t33 =>
 M.ite t33
 (M.pure (.ret [(V.int .u64 0),(V.int .u64 0),(V.int .i64 0),(V.int .i64 3)]))
 ((M.lift (zbo .sl 1 t0 (some (V.int .i64 1)) (some t25) none)).bind fun t38 =>
 (G zdl [t18,t38]).bind fun t39 =>
 (M.lift (Ax.ext 0 t39)).bind fun t40 =>
 (M.lift (Ax.ext 1 t39)).bind fun t41 =>
 (M.lift (zbo .sl 1 t0 (some t25) (some t29) none)).bind fun t47 =>
 (G zdl [t22,t47]).bind fun t48 =>
 (M.lift (Ax.ext 0 t48)).bind fun t49 =>
 (M.lift (Ax.ext 1 t48)).bind fun t50 =>
 (M.lift (Ax.un .not t41)).bind fun t52 =>
 (guarded [(0,t52)] (some (0,false)) (M.pure t50)).bind fun t54 =>
 (guarded [(0,t52)] (some (0,false)) (M.lift (Ax.un .not t54))).bind fun t55 =>
 (M.lift (Ax.pick t52 (V.bool true) t55)).bind fun t56 =>
 M.ite t56
 (M.pure (.ret [(V.int .u64 0),(V.int .u64 0),(V.int .i64 0),(V.int .i64 2)]))
 (M.pure (.ret [t40,t49,t29,(V.int .i64 0)]))))
def zkf:Fn':=(T zeB).getD noF
theorem zvu:T zeB = some zkf:=by kernel_rfl
theorem zwD (G:Sem') (t0:V):execK G zkf.rv zkf.body [] [] (params 0 [t0]) = zpS G t0:=by kernel_rfl
def zlI (G:Sem'):List V → M V
 | [t0]=>fin (zpS G t0)
 | _=>M.fail
theorem zxr {g:Sem'} (hg:Sims g (sem T)) (args:List V):Sim (zlI g args) (sem T zeB args):=by
 unfold zlI;split
 ·exact zae zvu (Nat.le_of_ble_eq_true (by kernel_rfl)) hg (zwD g _)
 ·exact zaa
def zwu (G:Sem') (t0:V):M Res :=
 (M.lift (Ax.bin .geq t0 (V.int .u64 16777216))).bind fun t7 =>
 M.ite t7
 (M.pure (.ret [(V.int .i64 0),(V.int .i64 0),(V.int .i64 0),(V.bool false)]))
 ((M.lift (Ax.bin .quo t0 (V.int .u64 256))).bind fun t9 =>
 (M.lift (Ax.cint .i64 t9)).bind fun t10 =>
 (M.lift (Ax.bin .rem t0 (V.int .u64 256))).bind fun t12 =>
 (M.lift (Ax.bin .quo t12 (V.int .u64 8))).bind fun t13 =>
 (M.lift (Ax.cint .i64 t13)).bind fun t14 =>
 (M.lift (Ax.bin .rem t0 (V.int .u64 8))).bind fun t16 =>
 (M.lift (Ax.cint .i64 t16)).bind fun t17 =>
 M.pure (.ret [t10,t14,t17,(V.bool true)]))
def zoi:Fn':=(T zhh).getD noF
theorem zAe:T zhh = some zoi:=by kernel_rfl
theorem zBz (G:Sem') (t0:V):execK G zoi.rv zoi.body [] [] (params 0 [t0]) = zwu G t0:=by kernel_rfl
def zqY (G:Sem'):List V → M V
 | [t0]=>fin (zwu G t0)
 | _=>M.fail
theorem zCr {g:Sem'} (hg:Sims g (sem T)) (args:List V):Sim (zqY g args) (sem T zhh args):=by
 unfold zqY;split
 ·exact zae zAe (Nat.le_of_ble_eq_true (by kernel_rfl)) hg (zBz g _)
 ·exact zaa
def zyb (G:Sem') (t0 t1:V):M Res :=
 (mbox zbE t0).bind fun t2 =>
 (mload (some 10) t2).bind fun t7 =>
 (G zkj [t7,t1]).bind fun t9 =>
 (M.lift (Ax.bin .lss t9 (V.int .i64 0))).bind fun t11 =>
 M.ite t11
 (M.pure (.ret [V.nils,(V.bool false)]))
 ((M.lift (Ax.faddr 7 t2)).bind fun t12 =>
 (mload none t12).bind fun t13 =>
 (M.lift (Ax.iaddr none 2 t13 t9)).bind fun t15 =>
 (M.lift (Ax.faddr 1 t15)).bind fun t16 =>
 (mload none t16).bind fun t17 =>
 (G zaL [t17]).bind fun t18 =>
 M.pure (.ret [t18,(V.bool true)]))
def zqi:Fn':=(T zgT).getD noF
theorem zBV:T zgT = some zqi:=by kernel_rfl
theorem zCT (G:Sem') (t0 t1:V):execK G zqi.rv zqi.body [] [] (params 0 [t0,t1]) = zyb G t0 t1:=by kernel_rfl
def ztK (G:Sem'):List V → M V
 | [t0,t1]=>fin (zyb G t0 t1)
 | _=>M.fail
theorem zEe {g:Sem'} (hg:Sims g (sem T)) (args:List V):Sim (ztK g args) (sem T zgT args):=by
 unfold ztK;split
 ·exact zae zBV (Nat.le_of_ble_eq_true (by kernel_rfl)) hg (zCT g _ _)
 ·exact zaa
def zu0 (G:Sem') (t6 t4:V) (_:List V):M Res :=
 (M.lift (Ax.nilck t6)).bind fun t123 =>
 (M.lift (Ax.faddr 1 t123)).bind fun t124 =>
 (mload none t124).bind fun t125 =>
 (M.lift (Ax.bin .eql t125 (V.int .i64 0))).bind fun t126 =>
 (guarded [(0,t126)] (some (0,true)) (M.pure t6)).bind fun t128 =>
 (guarded [(0,t126)] (some (0,true)) (M.lift (Ax.nilck t128))).bind fun t129 =>
 (guarded [(0,t126)] (some (0,true)) (M.lift (Ax.faddr 0 t129))).bind fun t130 =>
 (guarded [(0,t126)] (some (0,true)) (mload none t130)).bind fun t131 =>
 (guarded [(0,t126)] (some (0,true)) (G zck [t131])).bind fun t132 =>
 (guarded [(0,t126)] (some (0,true)) (M.lift (Ax.bin .gtr t132 (V.int .i64 0)))).bind fun t133 =>
 (M.lift (Ax.pick t126 t133 (V.bool false))).bind fun t134 =>
 M.ite t134
 (M.blk 2 (
 (G zaD [t6]).bind fun t136 =>
 M.join (M.ite t136
 ((G za7 [t6,(V.int .i64 2)]).bind fun t138 =>
 M.pure (.nrm []))
 (M.pure (.nrm []))) fun _ =>
 M.pure (.nrm [])) fun _ =>
 M.pure (.nrm []))
 (M.pure (.ex 1 []))
def zpV (G:Sem') (t0 t1:V):M Res :=
 (mbox zap t1).bind fun t3 =>
 (mbox zce (V.agg [(V.bool false),(V.bool false),(V.int .i64 0),(V.int .u16 0),(V.bool false),(V.int .i64 0),(V.int .i64 0),V.nils,(V.int .i64 0),V.nils,V.nils,(V.bool false),(V.int .u32 0),(V.bool false),(V.bool false),(V.bool false),V.nils,V.nils,V.nils])).bind fun t4 =>
 (G zhj [t0]).bind fun t12 =>
 (M.lift (Ax.build [V.nilp,(V.int .i64 0)] [(0,1,t12)])).bind fun t13 =>
 (mbox zuj t13).bind fun t14 =>
 (G zaD [t14]).bind fun t16 =>
 (G zaD [t14]).bind fun t18 =>
 (G zao [t14,(V.int .i64 6)]).bind fun t20 =>
 (G zao [t14,(V.int .i64 16)]).bind fun t22 =>
 (M.lift (Ax.cint .u16 t22)).bind fun t23 =>
 (M.lift (Ax.build [(V.bool false),(V.bool false),(V.int .i64 0),(V.int .u16 0),(V.bool false),(V.int .i64 0),(V.int .i64 0),V.nils,(V.int .i64 0),V.nils,V.nils,(V.bool false),(V.int .u32 0),(V.bool false),(V.bool false),(V.bool false),V.nils,V.nils,V.nils] [(0,1,t16),(1,1,t18),(2,1,t20),(3,1,t23)])).bind fun t24 =>
 (mbox zce (V.agg [(V.bool false),(V.bool false),(V.int .i64 0),(V.int .u16 0),(V.bool false),(V.int .i64 0),(V.int .i64 0),V.nils,(V.int .i64 0),V.nils,V.nils,(V.bool false),(V.int .u32 0),(V.bool false),(V.bool false),(V.bool false),V.nils,V.nils,V.nils])).bind fun t7 =>
 (mstore 19 t7 t24).bind fun _ =>
 (M.lift (vlen t0)).bind fun t26 =>
 (M.lift (Ax.bin .gtr t26 (V.int .i64 3))).bind fun t27 =>
 M.join (M.ite t27
 ((G zaD [t14]).bind fun t29 =>
 (G zaD [t14]).bind fun t31 =>
 (M.lift (Ax.faddr 4 t7)).bind fun t32 =>
 (mstore 1 t32 t29).bind fun _ =>
 (M.lift (Ax.faddr 11 t7)).bind fun t33 =>
 (mstore 1 t33 t31).bind fun _ =>
 (G zaD [t14]).bind fun t35 =>
 (G zaD [t14]).bind fun t37 =>
 (G zaD [t14]).bind fun t39 =>
 (M.lift (Ax.faddr 13 t7)).bind fun t40 =>
 (mstore 1 t40 t35).bind fun _ =>
 (M.lift (Ax.faddr 14 t7)).bind fun t41 =>
 (mstore 1 t41 t37).bind fun _ =>
 (M.lift (Ax.faddr 15 t7)).bind fun t42 =>
 (mstore 1 t42 t39).bind fun _ =>
 M.pure (.nrm []))
 (M.pure (.nrm []))) fun _ =>
 M.blk 0 (
 (M.lift (Ax.nilck t14)).bind fun t45 =>
 (M.lift (Ax.faddr 1 t45)).bind fun t46 =>
 (mload none t46).bind fun t47 =>
 (M.lift (Ax.bin .neq t47 (V.int .i64 0))).bind fun t48 =>
 M.ite t48
 ((M.lift (Ax.build [(V.bool false),(V.bool false),(V.int .i64 0),(V.int .u16 0),(V.bool false),(V.int .i64 0),(V.int .i64 0),V.nils,(V.int .i64 0),V.nils,V.nils,(V.bool false),(V.int .u32 0),(V.bool false),(V.bool false),(V.bool false),V.nils,V.nils,V.nils] [])).bind fun t49 =>
 (M.lift (Ax.nilck t14)).bind fun t51 =>
 (M.lift (Ax.faddr 1 t51)).bind fun t52 =>
 (mload none t52).bind fun t53 =>
 M.getH.bind fun h0 =>
 (mstore 19 t4 t49).bind fun _ =>
 M.getH.bind fun h0' =>
 (M.unch t52 h0 h0').bind fun _ =>
 (mload (some 19) t4).bind fun r0 =>
 M.pure (.ret [r0,t53]))
 ((M.lift (Ax.faddr 4 t7)).bind fun t55 =>
 (mload none t55).bind fun t56 =>
 M.join (M.ite t56
 ((G zbD [t14]).bind fun t58 =>
 (M.lift (Ax.faddr 5 t7)).bind fun t59 =>
 (mstore 6 t59 t58).bind fun _ =>
 M.pure (.nrm []))
 ((mload (some 6) t3).bind fun t61 =>
 (G zc3 [t61]).bind fun t62 =>
 (M.lift (Ax.un .not t62)).bind fun t63 =>
 M.ite t63
 ((M.lift (Ax.build [(V.bool false),(V.bool false),(V.int .i64 0),(V.int .u16 0),(V.bool false),(V.int .i64 0),(V.int .i64 0),V.nils,(V.int .i64 0),V.nils,V.nils,(V.bool false),(V.int .u32 0),(V.bool false),(V.bool false),(V.bool false),V.nils,V.nils,V.nils] [])).bind fun t64 =>
 (mstore 19 t4 t64).bind fun _ =>
 (mload (some 19) t4).bind fun r0 =>
 M.pure (.ret [r0,(V.int .i64 2)]))
 (M.pure (.nrm [])))) fun _ =>
 M.pure (.nrm []))) fun _ =>
 (mload (some 19) t7).bind fun t65 =>
 (mload (some 6) t3).bind fun t66 =>
 (G zc6 [t65,t66]).bind fun t67 =>
 (mbox zap (V.agg [(V.int .i64 0),(V.int .i64 0),V.nils,(V.int .i64 0),V.nils,V.nils])).bind fun t8 =>
 (mstore 6 t8 t67).bind fun _ =>
 (M.lift (Ax.faddr 11 t7)).bind fun t68 =>
 (mload none t68).bind fun t69 =>
 (guarded [(0,t69)] (some (0,true)) (M.pure t14)).bind fun t71 =>
 (guarded [(0,t69)] (some (0,true)) (M.lift (Ax.nilck t71))).bind fun t72 =>
 (guarded [(0,t69)] (some (0,true)) (M.lift (Ax.faddr 1 t72))).bind fun t73 =>
 (guarded [(0,t69)] (some (0,true)) (mload none t73)).bind fun t74 =>
 (guarded [(0,t69)] (some (0,true)) (M.lift (Ax.bin .eql t74 (V.int .i64 0)))).bind fun t75 =>
 (M.lift (Ax.pick t69 t75 (V.bool false))).bind fun t76 =>
 M.join (M.ite t76
 ((M.lift (Ax.faddr 1 t8)).bind fun t78 =>
 (mload none t78).bind fun t79 =>
 (G zao [t14,t79]).bind fun t80 =>
 (M.lift (Ax.cint .u32 t80)).bind fun t81 =>
 (M.lift (Ax.faddr 12 t7)).bind fun t82 =>
 (mstore 1 t82 t81).bind fun _ =>
 M.pure (.nrm []))
 (M.pure (.nrm []))) fun _ =>
 (mload (some 6) t8).bind fun t84 =>
 (M.lift (Ax.faddr 2 t7)).bind fun t85 =>
 (mload none t85).bind fun t86 =>
 (G zcC [t84,t86]).bind fun t87 =>
 (M.lift (Ax.ext 0 t87)).bind fun t88 =>
 (M.lift (Ax.ext 1 t87)).bind fun t89 =>
 (mbox zaw (V.agg [(V.int .i64 0),(V.int .i64 0),V.nils,V.nils,V.nils])).bind fun t9 =>
 (mstore 5 t9 t88).bind fun _ =>
 (M.lift (Ax.un .not t89)).bind fun t91 =>
 M.join (M.ite t91
 ((G za7 [t14,(V.int .i64 2)]).bind fun t93 =>
 M.pure (.nrm []))
 (M.pure (.nrm []))) fun _ =>
 (M.lift (Ax.faddr 2 t9)).bind fun t94 =>
 (mload none t94).bind fun t95 =>
 (M.lift (Ax.faddr 3 t9)).bind fun t96 =>
 (mload none t96).bind fun t97 =>
 (M.lift (Ax.faddr 4 t9)).bind fun t98 =>
 (mload none t98).bind fun t99 =>
 (M.lift (Ax.faddr 16 t7)).bind fun t100 =>
 M.getH.bind fun h1 =>
 (mstore 1 t100 t95).bind fun _ =>
 M.getH.bind fun h1' =>
 (M.unch t98 h1 h1').bind fun _ =>
 (M.unch t96 h1 h1').bind fun _ =>
 (M.lift (Ax.faddr 17 t7)).bind fun t101 =>
 M.getH.bind fun h2 =>
 (mstore 1 t101 t97).bind fun _ =>
 M.getH.bind fun h2' =>
 (M.unch t98 h2 h2').bind fun _ =>
 (M.lift (Ax.faddr 18 t7)).bind fun t102 =>
 (mstore 1 t102 t99).bind fun _ =>
 (M.lift (Ax.faddr 13 t7)).bind fun t103 =>
 (mload none t103).bind fun t104 =>
 M.join (M.ite t104
 ((M.lift (Ax.faddr 1 t8)).bind fun t106 =>
 (mload none t106).bind fun t107 =>
 (G zbs [t14,t107,(V.int .i64 2)]).bind fun t108 =>
 (M.lift (Ax.faddr 16 t7)).bind fun t109 =>
 (mstore 1 t109 t108).bind fun _ =>
 M.pure (.nrm []))
 (M.pure (.nrm []))) fun _ =>
 (M.lift (Ax.faddr 14 t7)).bind fun t110 =>
 (mload none t110).bind fun t111 =>
 M.join (M.ite t111
 ((G zcI [t14]).bind fun t113 =>
 (M.lift (Ax.faddr 17 t7)).bind fun t114 =>
 (mstore 1 t114 t113).bind fun _ =>
 M.pure (.nrm []))
 (M.pure (.nrm []))) fun _ =>
 (M.lift (Ax.faddr 15 t7)).bind fun t115 =>
 (mload none t115).bind fun t116 =>
 M.join (M.ite t116
 ((M.lift (Ax.faddr 3 t8)).bind fun t118 =>
 (mload none t118).bind fun t119 =>
 (G zbs [t14,t119,(V.int .i64 8)]).bind fun t120 =>
 (M.lift (Ax.faddr 18 t7)).bind fun t121 =>
 (mstore 1 t121 t120).bind fun _ =>
 M.pure (.nrm []))
 (M.pure (.nrm []))) fun _ =>
 M.blk 1 (
 M.iter (zu0 G t14 t4) []) fun _ =>
 (M.lift (Ax.nilck t14)).bind fun t140 =>
 (M.lift (Ax.faddr 1 t140)).bind fun t141 =>
 (mload none t141).bind fun t142 =>
 (M.lift (Ax.bin .neq t142 (V.int .i64 0))).bind fun t143 =>
 M.ite t143
 ((M.lift (Ax.build [(V.bool false),(V.bool false),(V.int .i64 0),(V.int .u16 0),(V.bool false),(V.int .i64 0),(V.int .i64 0),V.nils,(V.int .i64 0),V.nils,V.nils,(V.bool false),(V.int .u32 0),(V.bool false),(V.bool false),(V.bool false),V.nils,V.nils,V.nils] [])).bind fun t144 =>
 (M.lift (Ax.nilck t14)).bind fun t146 =>
 (M.lift (Ax.faddr 1 t146)).bind fun t147 =>
 (mload none t147).bind fun t148 =>
 M.getH.bind fun h3 =>
 (mstore 19 t4 t144).bind fun _ =>
 M.getH.bind fun h3' =>
 (M.unch t147 h3 h3').bind fun _ =>
 (mload (some 19) t4).bind fun r0 =>
 M.pure (.ret [r0,t148]))
 ((mload (some 19) t7).bind fun t149 =>
 (mstore 19 t4 t149).bind fun _ =>
 (mload (some 19) t4).bind fun r0 =>
 M.pure (.ret [r0,(V.int .i64 0)]))
def zki:Fn':=(T zeC).getD noF
theorem zvx:T zeC = some zki:=by kernel_rfl
theorem zwG (G:Sem') (t0 t1:V):execK G zki.rv zki.body [] [] (params 0 [t0,t1]) = zpV G t0 t1:=by kernel_rfl
def zlN (G:Sem'):List V → M V
 | [t0,t1]=>fin (zpV G t0 t1)
 | _=>M.fail
theorem zxw {g:Sem'} (hg:Sims g (sem T)) (args:List V):Sim (zlN g args) (sem T zeC args):=by
 unfold zlN;split
 ·exact zae zvx (Nat.le_of_ble_eq_true (by kernel_rfl)) hg (zwG g _ _)
 ·exact zaa
def zye (G:Sem') (t0 t1:V):M Res :=
 (G zaV [t0,t1]).bind fun t7 =>
 M.pure (.ret [t7])
def zql:Fn':=(T zfT).getD noF
theorem zBY:T zfT = some zql:=by kernel_rfl
theorem zCW (G:Sem') (t0 t1:V):execK G zql.rv zql.body [] [] (params 0 [t0,t1]) = zye G t0 t1:=by kernel_rfl
def ztN (G:Sem'):List V → M V
 | [t0,t1]=>fin (zye G t0 t1)
 | _=>M.fail
theorem zEh {g:Sem'} (hg:Sims g (sem T)) (args:List V):Sim (ztN g args) (sem T zfT args):=by
 unfold ztN;split
 ·exact zae zBY (Nat.le_of_ble_eq_true (by kernel_rfl)) hg (zCW g _ _)
 ·exact zaa
def zBg (G:Sem') (t5 t4:V) (L:List V):M Res :=
 (M.lift (Ax.bin .geq (L.getD 1 .undef) (V.int .i64 0))).bind fun t17 =>
 (guarded [(0,t17)] (some (0,true)) (M.pure (L.getD 0 .undef))).bind fun t19 =>
 (guarded [(0,t17)] (some (0,true)) (M.lift (vlen t19))).bind fun t20 =>
 (guarded [(0,t17)] (some (0,true)) (M.lift (Ax.bin .lss t20 (V.int .i64 256)))).bind fun t21 =>
 (M.lift (Ax.pick t17 t21 (V.bool false))).bind fun t22 =>
 M.ite t22
 (M.blk 1 (
 (M.lift (Ax.iaddr none 1 t5 (L.getD 1 .undef))).bind fun t28 =>
 (mload none t28).bind fun t29 =>
 (G zaV [(L.getD 0 .undef),t29]).bind fun t30 =>
 (M.lift (Ax.un .not t30)).bind fun t31 =>
 M.join (M.ite t31
 ((M.lift (Ax.iaddr none 1 t5 (L.getD 1 .undef))).bind fun t35 =>
 (mload none t35).bind fun t36 =>
 (mslit zfG 1 [(V.int .u16 0)] [(0,1,t36)]).bind fun t37 =>
 (mappend zfG 1 2 (L.getD 0 .undef) t37).bind fun t38 =>
 M.pure (.nrm [t38]))
 (M.pure (.nrm [(L.getD 0 .undef)]))) fun L0 =>
 M.pure (.nrm [(L0.getD 0 .undef)])) fun L1 =>
 (M.lift (Ax.bin .sub (L.getD 1 .undef) (V.int .i64 1))).bind fun t24 =>
 M.pure (.nrm [(L1.getD 0 .undef),t24]))
 (M.pure (.ex 0 [(L.getD 0 .undef)]))
def zyg (G:Sem') (t0 t1:V):M Res :=
 (G zbm [t0]).bind fun t9 =>
 (mslit zfG 1 [(V.int .u16 0)] [(0,1,t1)]).bind fun t11 =>
 (mappend zfG 1 2 t9 t11).bind fun t12 =>
 (M.lift (vlen t12)).bind fun t14 =>
 (M.lift (Ax.bin .sub t14 (V.int .i64 1))).bind fun t15 =>
 M.blk 0 (
 M.iter (zBg G t12 V.nils) [V.nils,t15]) fun L2 =>
 (G za9 [(L2.getD 0 .undef)]).bind fun t40 =>
 M.pure (.ret [(L2.getD 0 .undef)])
def zqn:Fn':=(T zgU).getD noF
theorem zB0:T zgU = some zqn:=by kernel_rfl
theorem zCY (G:Sem') (t0 t1:V):execK G zqn.rv zqn.body [] [] (params 0 [t0,t1]) = zyg G t0 t1:=by kernel_rfl
def ztP (G:Sem'):List V → M V
 | [t0,t1]=>fin (zyg G t0 t1)
 | _=>M.fail
theorem zEj {g:Sem'} (hg:Sims g (sem T)) (args:List V):Sim (ztP g args) (sem T zgU args):=by
 unfold ztP;split
 ·exact zae zB0 (Nat.le_of_ble_eq_true (by kernel_rfl)) hg (zCY g _ _)
 ·exact zaa
def zl2 (G:Sem') (t0 t1 t2 t3 t4 t5 t6:V):M Res :=
 (mbox zbE t2).bind fun t9 =>
 (mbox zce t3).bind fun t10 =>
 (mbox zap t4).bind fun t11 =>
 (mbox zvp (V.agg [V.nils,(V.int .i64 0),(V.bool false)])).bind fun t14 =>
 (mload (some 10) t9).bind fun t26 =>
 (G zfP [t26]).bind fun t27 =>
 (M.lift (Ax.ext 0 t27)).bind fun t28 =>
 (M.lift (Ax.ext 1 t27)).bind fun t29 =>
 (mload (some 10) t9).bind fun t31 =>
 (G zgT [t31,(V.int .i64 1)]).bind fun t32 =>
 (M.lift (Ax.ext 0 t32)).bind fun t33 =>
 (M.lift (Ax.ext 1 t32)).bind fun t34 =>
 (M.lift (Ax.bin .lss t1 (V.int .i64 0))).bind fun t36 =>
 (guarded [(0,t36)] (some (0,false)) (M.pure t1)).bind fun t38 =>
 (guarded [(0,t36)] (some (0,false)) (M.lift (Ax.bin .geq t38 (V.int .i64 3)))).bind fun t39 =>
 (M.lift (Ax.pick t36 (V.bool true) t39)).bind fun t40 =>
 (guarded [(0,t40)] (some (0,false)) (M.pure t29)).bind fun t42 =>
 (guarded [(0,t40)] (some (0,false)) (M.lift (Ax.bin .neq t42 (V.int .i64 0)))).bind fun t43 =>
 (M.lift (Ax.pick t40 (V.bool true) t43)).bind fun t44 =>
 (guarded [(0,t44)] (some (0,false)) (M.pure t34)).bind fun t46 =>
 (guarded [(0,t44)] (some (0,false)) (M.lift (Ax.un .not t46))).bind fun t47 =>
 (M.lift (Ax.pick t44 (V.bool true) t47)).bind fun t48 =>
 (guarded [(0,t48)] (some (0,false)) (M.pure t33)).bind fun t50 =>
 (guarded [(0,t48)] (some (0,false)) (M.lift (vlen t50))).bind fun t51 =>
 (guarded [(0,t48)] (some (0,false)) (M.lift (Ax.bin .lss t51 (V.int .i64 3)))).bind fun t52 =>
 (M.lift (Ax.pick t48 (V.bool true) t52)).bind fun t53 =>
 (guarded [(0,t53)] (some (0,false)) (mload (some 19) t10)).bind fun t55 =>
 (guarded [(0,t53)] (some (0,false)) (mload (some 6) t11)).bind fun t56 =>
 (guarded [(0,t53)] (some (0,false)) (G zfn [t55,t56])).bind fun t57 =>
 (guarded [(0,t53)] (some (0,false)) (M.lift (Ax.un .not t57))).bind fun t58 =>
 (M.lift (Ax.pick t53 (V.bool true) t58)).bind fun t59 =>
 M.ite t59
 ((M.lift (Ax.build [V.nils,(V.int .i64 0),(V.bool false)] [])).bind fun t60 =>
 (mstore 3 t14 t60).bind fun _ =>
 (mload (some 3) t14).bind fun r0 =>
 M.pure (.ret [r0,(V.int .i64 1)]))
 ((mload (some 10) t9).bind fun t63 =>
 (mload (some 19) t10).bind fun t64 =>
 (G zcR [t0,t1,t63,t64,t6]).bind fun t66 =>
 (M.lift (Ax.un .not t66)).bind fun t67 =>
 M.ite t67
 ((M.lift (Ax.build [V.nils,(V.int .i64 0),(V.bool false)] [(1,1,(V.int .i64 1))])).bind fun t68 =>
 (mstore 3 t14 t68).bind fun _ =>
 (mload (some 3) t14).bind fun r0 =>
 M.pure (.ret [r0,(V.int .i64 0)]))
 ((mload (some 19) t10).bind fun t70 =>
 (mload (some 6) t11).bind fun t71 =>
 (G zd2 [t0,t70,t71,t5]).bind fun t73 =>
 (M.lift (Ax.bin .neq t73 (V.int .i64 0))).bind fun t75 =>
 M.ite t75
 ((M.lift (Ax.bin .eql t73 (V.int .i64 5))).bind fun t78 =>
 (M.lift (Ax.build [V.nils,(V.int .i64 0),(V.bool false)] [(1,1,t73),(2,1,t78)])).bind fun t79 =>
 (mstore 3 t14 t79).bind fun _ =>
 (mload (some 3) t14).bind fun r0 =>
 M.pure (.ret [r0,(V.int .i64 0)]))
 ((M.lift (Ax.faddr 0 t10)).bind fun t80 =>
 (mload none t80).bind fun t81 =>
 M.join (M.ite t81
 ((M.lift (Ax.nilck t0)).bind fun t84 =>
 (M.lift (Ax.faddr 13 t84)).bind fun t85 =>
 (mload none t85).bind fun t86 =>
 (M.lift (Ax.faddr 3 t10)).bind fun t87 =>
 (mload none t87).bind fun t88 =>
 (G zgU [t86,t88]).bind fun t89 =>
 (M.lift (Ax.nilck t0)).bind fun t90 =>
 (M.lift (Ax.faddr 13 t90)).bind fun t91 =>
 (mstore 1 t91 t89).bind fun _ =>
 M.pure (.nrm []))
 (M.pure (.nrm []))) fun _ =>
 (M.lift (Ax.nilck t0)).bind fun t94 =>
 (M.lift (Ax.faddr 6 t94)).bind fun t95 =>
 (mload (some 7) t95).bind fun t96 =>
 (M.lift (Ax.faddr 3 t9)).bind fun t97 =>
 (mload none t97).bind fun t98 =>
 (M.lift (Ax.faddr 3 t10)).bind fun t99 =>
 (mload none t99).bind fun t100 =>
 (G zio [t96,t98,t100,t6]).bind fun t102 =>
 (M.lift (Ax.ext 0 t102)).bind fun t103 =>
 (mbox ziW (V.agg [(V.bool false),(V.int .u16 0),(V.int .u32 0),(V.int .u32 0),(V.int .u16 0),(V.int .u16 0),(V.int .i64 0)])).bind fun t21 =>
 (mstore 7 t21 t103).bind fun _ =>
 (M.lift (Ax.ext 1 t102)).bind fun t104 =>
 (M.lift (Ax.ext 2 t102)).bind fun t105 =>
 (M.lift (Ax.ext 3 t102)).bind fun t106 =>
 (mload (some 7) t21).bind fun t108 =>
 (M.lift (Ax.nilck t0)).bind fun t109 =>
 (M.lift (Ax.faddr 6 t109)).bind fun t110 =>
 (mstore 7 t110 t108).bind fun _ =>
 (mload (some 10) t9).bind fun t112 =>
 M.getH.bind fun h0 =>
 (G zd6 [t33,t106]).bind fun t115 =>
 M.getH.bind fun h0' =>
 (M.unch t9 h0 h0').bind fun _ =>
 (G zj4 [t112,(V.int .i64 1),t115]).bind fun t116 =>
 (M.lift (Ax.ext 0 t116)).bind fun t117 =>
 (mstore 10 t9 t117).bind fun _ =>
 (M.lift (Ax.ext 1 t116)).bind fun t118 =>
 (M.lift (Ax.nilck t0)).bind fun t122 =>
 (M.lift (Ax.faddr 0 t122)).bind fun t123 =>
 (mload none t123).bind fun t124 =>
 (M.lift (Ax.faddr 2 t9)).bind fun t125 =>
 M.getH.bind fun h1 =>
 (mstore 1 t125 t104).bind fun _ =>
 M.getH.bind fun h1' =>
 (M.unch t123 h1 h1').bind fun _ =>
 (M.lift (Ax.faddr 3 t9)).bind fun t126 =>
 M.getH.bind fun h2 =>
 (mstore 1 t126 t105).bind fun _ =>
 M.getH.bind fun h2' =>
 (M.unch t123 h2 h2').bind fun _ =>
 (M.lift (Ax.faddr 4 t9)).bind fun t127 =>
 (mstore 1 t127 t124).bind fun _ =>
 (mload (some 10) t9).bind fun t129 =>
 (G zfP [t129]).bind fun t130 =>
 (M.lift (Ax.ext 0 t130)).bind fun t131 =>
 (M.lift (Ax.ext 1 t130)).bind fun t132 =>
 (M.lift (Ax.nilck t0)).bind fun t134 =>
 (M.lift (Ax.faddr 14 t134)).bind fun t135 =>
 (mload none t135).bind fun t136 =>
 (G zd1 [t136,t104,t131]).bind fun t139 =>
 (M.lift (Ax.build [V.nils,(V.int .i64 0),(V.bool false)] [(0,1,t131)])).bind fun t141 =>
 (mstore 3 t14 t141).bind fun _ =>
 (mload (some 3) t14).bind fun r0 =>
 M.pure (.ret [r0,(V.int .i64 0)]))))
def zhv:Fn':=(T zdb).getD noF
theorem zrb:T zdb = some zhv:=by kernel_rfl
theorem zse (G:Sem') (t0 t1 t2 t3 t4 t5 t6:V):execK G zhv.rv zhv.body [] [] (params 0 [t0,t1,t2,t3,t4,t5,t6]) = zl2 G t0 t1 t2 t3 t4 t5 t6:=by kernel_rfl
def ziF (G:Sem'):List V → M V
 | [t0,t1,t2,t3,t4,t5,t6]=>fin (zl2 G t0 t1 t2 t3 t4 t5 t6)
 | _=>M.fail
theorem zsT {g:Sem'} (hg:Sims g (sem T)) (args:List V):Sim (ziF g args) (sem T zdb args):=by
 unfold ziF;split
 ·exact zae zrb (Nat.le_of_ble_eq_true (by kernel_rfl)) hg (zse g _ _ _ _ _ _ _)
 ·exact zaa
def f_desk_Desk_tell (G:Sem') (t0 t1 t2 t3:V):M Res :=
 (M.lift (Ax.nilck t0)).bind fun t10 =>
 (M.lift (Ax.faddr 1470 t10)).bind fun t11 =>
 (M.lift (Ax.iaddr (some 64) 1 t11 t1)).bind fun t12 =>
 (mload none t12).bind fun t13 =>
 M.getH.bind fun h0 =>
 (G zaL [t3]).bind fun t17 =>
 M.getH.bind fun h0' =>
 (M.unch t12 h0 h0').bind fun _ =>
 (M.lift (Ax.build [(V.int .i64 0),(V.int .i64 0),V.nils] [(0,1,t1),(1,1,t2),(2,1,t17)])).bind fun t18 =>
 (G zaK [t13,t18]).bind fun t19 =>
 (M.lift (Ax.un .not t19)).bind fun t20 =>
 M.join (M.ite t20
 ((M.lift (Ax.nilck t0)).bind fun t22 =>
 (M.lift (Ax.faddr 1534 t22)).bind fun t23 =>
 (mload none t23).bind fun t24 =>
 (G zax [t24,(V.int .i64 10)]).bind fun t25 =>
 M.pure (.nrm []))
 (M.pure (.nrm []))) fun _ =>
 M.pure (.ret [])
def ir_desk_Desk_tell:Fn':=(T za2).getD noF
theorem tb_desk_Desk_tell:T za2 = some ir_desk_Desk_tell:=by kernel_rfl
theorem eq_desk_Desk_tell (G:Sem') (t0 t1 t2 t3:V):execK G ir_desk_Desk_tell.rv ir_desk_Desk_tell.body [] [] (params 0 [t0,t1,t2,t3]) = f_desk_Desk_tell G t0 t1 t2 t3:=by kernel_rfl
def zjF (G:Sem'):List V → M V
 | [t0,t1,t2,t3]=>fin (f_desk_Desk_tell G t0 t1 t2 t3)
 | _=>M.fail
theorem zuI {g:Sem'} (hg:Sims g (sem T)) (args:List V):Sim (zjF g args) (sem T za2 args):=by
 unfold zjF;split
 ·exact zae tb_desk_Desk_tell (Nat.le_of_ble_eq_true (by kernel_rfl)) hg (eq_desk_Desk_tell g _ _ _ _)
 ·exact zaa
def zjT (G:Sem') (t0 t1 t2 t3 t4:V):M Res :=
 (M.lift (Ax.nilck t1)).bind fun t16 =>
 (M.lift (Ax.faddr 39 t16)).bind fun t17 =>
 (M.lift (Ax.iaddr (some 8) 33 t17 t2)).bind fun t18 =>
 (M.lift (Ax.iaddr (some 3) 11 t18 t3)).bind fun t19 =>
 (mload (some 11) t19).bind fun t20 =>
 (mbox ziV (V.agg [(V.bool false),(V.int .u32 0),(V.int .i64 0),(V.int .i64 0),(V.int .i64 0),V.nils,(V.int .i64 0),V.nils,V.nils,(V.int .u32 0),V.nils])).bind fun t10 =>
 (mstore 11 t10 t20).bind fun _ =>
 (M.lift (Ax.faddr 0 t10)).bind fun t21 =>
 (mload none t21).bind fun t22 =>
 (M.lift (Ax.un .not t22)).bind fun t23 =>
 M.ite t23
 (M.pure (.ret []))
 ((M.lift (Ax.faddr 1 t10)).bind fun t26 =>
 (mload none t26).bind fun t27 =>
 (M.lift (Ax.build [(V.int .i64 0),(V.int .u32 0),(V.int .u32 0),(V.int .u64 0),(V.int .u32 0),(V.int .u32 0),(V.int .u32 0),V.nils,V.nils,V.nils,(V.int .i64 0),(V.int .u32 0),V.nils,(V.int .i64 0),(V.int .i64 0),V.nils] [(0,1,(V.int .i64 4)),(1,1,t4),(2,1,t27)])).bind fun t28 =>
 (mslit za3 1 [(V.int .i64 0),(V.int .u32 0),(V.int .u32 0),(V.int .u64 0),(V.int .u32 0),(V.int .u32 0),(V.int .u32 0),V.nils,V.nils,V.nils,(V.int .i64 0),(V.int .u32 0),V.nils,(V.int .i64 0),(V.int .i64 0),V.nils] [(0,16,t28)]).bind fun t29 =>
 (G zf9 [t29]).bind fun t30 =>
 (M.lift (Ax.ext 0 t30)).bind fun t31 =>
 (M.lift (Ax.ext 1 t30)).bind fun t32 =>
 (M.lift (Ax.nilck t1)).bind fun t36 =>
 (M.lift (Ax.faddr 0 t36)).bind fun t37 =>
 (M.lift (Ax.faddr 0 t37)).bind fun t38 =>
 (M.lift (Ax.faddr 8 t38)).bind fun t39 =>
 (M.lift (Ax.iaddr (some 8) 1 t39 t2)).bind fun t40 =>
 (mload none t40).bind fun t41 =>
 (G za2 [t0,t41,(V.int .i64 1),t31]).bind fun t43 =>
 M.pure (.ret []))
def zfK:Fn':=(T zb1).getD noF
theorem znO:T zb1 = some zfK:=by kernel_rfl
theorem zoK (G:Sem') (t0 t1 t2 t3 t4:V):execK G zfK.rv zfK.body [] [] (params 0 [t0,t1,t2,t3,t4]) = zjT G t0 t1 t2 t3 t4:=by kernel_rfl
def zgv (G:Sem'):List V → M V
 | [t0,t1,t2,t3,t4]=>fin (zjT G t0 t1 t2 t3 t4)
 | _=>M.fail
theorem zpv {g:Sem'} (hg:Sims g (sem T)) (args:List V):Sim (zgv g args) (sem T zb1 args):=by
 unfold zgv;split
 ·exact zae znO (Nat.le_of_ble_eq_true (by kernel_rfl)) hg (zoK g _ _ _ _ _)
 ·exact zaa
def f_note_Parse_1 (G:Sem') (t0 t1:V):M Res :=
 (mload none t1).bind fun t4 =>
 (M.lift (Ax.iaddr none 1 t4 t0)).bind fun t6 =>
 (mload none t6).bind fun t7 =>
 (M.lift (Ax.cint .i64 t7)).bind fun t8 =>
 (M.lift (Ax.bin .shl t8 (V.int .u64 8))).bind fun t9 =>
 (mload none t1).bind fun t10 =>
 (M.lift (Ax.bin .add t0 (V.int .i64 1))).bind fun t12 =>
 (M.lift (Ax.iaddr none 1 t10 t12)).bind fun t13 =>
 (mload none t13).bind fun t14 =>
 (M.lift (Ax.cint .i64 t14)).bind fun t15 =>
 (M.lift (Ax.bin .or t9 t15)).bind fun t16 =>
 M.pure (.ret [t16])
def ir_note_Parse_1:Fn':=(T zbf).getD noF
theorem tb_note_Parse_1:T zbf = some ir_note_Parse_1:=by kernel_rfl
theorem eq_note_Parse_1 (G:Sem') (t0 t1:V):execK G ir_note_Parse_1.rv ir_note_Parse_1.body [] [] (params 0 [t0,t1]) = f_note_Parse_1 G t0 t1:=by kernel_rfl
def zlH (G:Sem'):List V → M V
 | [t0,t1]=>fin (f_note_Parse_1 G t0 t1)
 | _=>M.fail
theorem zxq {g:Sem'} (hg:Sims g (sem T)) (args:List V):Sim (zlH g args) (sem T zbf args):=by
 unfold zlH;split
 ·exact zae tb_note_Parse_1 (Nat.le_of_ble_eq_true (by kernel_rfl)) hg (eq_note_Parse_1 g _ _)
 ·exact zaa
def f_bytes_Clone (G:Sem') (t0:V):M Res :=
 (M.lift (eqr .sl false t0 V.nils)).bind fun t4 =>
 M.ite t4
 (M.pure (.ret [V.nils]))
 ((mslit zaj 0 [(V.int .u8 0)] []).bind fun t5 =>
 (mappend zaj 1 1 t5 t0).bind fun t7 =>
 M.pure (.ret [t7]))
def ir_bytes_Clone:Fn':=(T zaL).getD noF
theorem tb_bytes_Clone:T zaL = some ir_bytes_Clone:=by kernel_rfl
theorem eq_bytes_Clone (G:Sem') (t0:V):execK G ir_bytes_Clone.rv ir_bytes_Clone.body [] [] (params 0 [t0]) = f_bytes_Clone G t0:=by kernel_rfl
def zm9 (G:Sem'):List V → M V
 | [t0]=>fin (f_bytes_Clone G t0)
 | _=>M.fail
theorem zy0 {g:Sem'} (hg:Sims g (sem T)) (args:List V):Sim (zm9 g args) (sem T zaL args):=by
 unfold zm9;split
 ·exact zae tb_bytes_Clone (Nat.le_of_ble_eq_true (by kernel_rfl)) hg (eq_bytes_Clone g _)
 ·exact zaa
def f_note_Good (G:Sem') (t0:V):M Res :=
 (mbox zaf t0).bind fun t1 =>
 (M.lift (Ax.faddr 0 t1)).bind fun t6 =>
 (mload none t6).bind fun t7 =>
 (G zeA [t7]).bind fun t8 =>
 (M.lift (Ax.ext 0 t8)).bind fun t9 =>
 (M.lift (Ax.ext 1 t8)).bind fun t10 =>
 (mbox zfc (V.agg [(V.int .i64 0),(V.int .i64 0),(V.int .i64 0),(V.int .i64 0),(V.int .i64 0),(V.int .i64 0),(V.int .i64 0)])).bind fun t3 =>
 (mstore 7 t3 t9).bind fun _ =>
 (M.lift (Ax.un .not t10)).bind fun t12 =>
 (guarded [(0,t12)] (some (0,false)) (M.lift (Ax.faddr 1 t1))).bind fun t14 =>
 (guarded [(0,t12)] (some (0,false)) (mload none t14)).bind fun t15 =>
 (guarded [(0,t12)] (some (0,false)) (M.lift (Ax.faddr 0 t3))).bind fun t16 =>
 (guarded [(0,t12)] (some (0,false)) (mload none t16)).bind fun t17 =>
 (guarded [(0,t12)] (some (0,false)) (G zaZ [t15,t17])).bind fun t18 =>
 (guarded [(0,t12)] (some (0,false)) (M.lift (Ax.un .not t18))).bind fun t19 =>
 (M.lift (Ax.pick t12 (V.bool true) t19)).bind fun t20 =>
 (guarded [(0,t20)] (some (0,false)) (M.lift (Ax.faddr 2 t1))).bind fun t22 =>
 (guarded [(0,t20)] (some (0,false)) (mload none t22)).bind fun t23 =>
 (guarded [(0,t20)] (some (0,false)) (M.lift (Ax.faddr 1 t3))).bind fun t24 =>
 (guarded [(0,t20)] (some (0,false)) (mload none t24)).bind fun t25 =>
 (guarded [(0,t20)] (some (0,false)) (G zaZ [t23,t25])).bind fun t26 =>
 (guarded [(0,t20)] (some (0,false)) (M.lift (Ax.un .not t26))).bind fun t27 =>
 (M.lift (Ax.pick t20 (V.bool true) t27)).bind fun t28 =>
 (guarded [(0,t28)] (some (0,false)) (M.lift (Ax.faddr 3 t1))).bind fun t30 =>
 (guarded [(0,t28)] (some (0,false)) (mload none t30)).bind fun t31 =>
 (guarded [(0,t28)] (some (0,false)) (M.lift (Ax.faddr 2 t3))).bind fun t32 =>
 (guarded [(0,t28)] (some (0,false)) (mload none t32)).bind fun t33 =>
 (guarded [(0,t28)] (some (0,false)) (G zaZ [t31,t33])).bind fun t34 =>
 (guarded [(0,t28)] (some (0,false)) (M.lift (Ax.un .not t34))).bind fun t35 =>
 (M.lift (Ax.pick t28 (V.bool true) t35)).bind fun t36 =>
 (guarded [(0,t36)] (some (0,false)) (M.lift (Ax.faddr 4 t1))).bind fun t38 =>
 (guarded [(0,t36)] (some (0,false)) (mload none t38)).bind fun t39 =>
 (guarded [(0,t36)] (some (0,false)) (M.lift (Ax.faddr 3 t3))).bind fun t40 =>
 (guarded [(0,t36)] (some (0,false)) (mload none t40)).bind fun t41 =>
 (guarded [(0,t36)] (some (0,false)) (G zaZ [t39,t41])).bind fun t42 =>
 (guarded [(0,t36)] (some (0,false)) (M.lift (Ax.un .not t42))).bind fun t43 =>
 (M.lift (Ax.pick t36 (V.bool true) t43)).bind fun t44 =>
 (guarded [(0,t44)] (some (0,false)) (M.lift (Ax.faddr 5 t1))).bind fun t46 =>
 (guarded [(0,t44)] (some (0,false)) (mload none t46)).bind fun t47 =>
 (guarded [(0,t44)] (some (0,false)) (M.lift (Ax.faddr 4 t3))).bind fun t48 =>
 (guarded [(0,t44)] (some (0,false)) (mload none t48)).bind fun t49 =>
 (guarded [(0,t44)] (some (0,false)) (G zaZ [t47,t49])).bind fun t50 =>
 (guarded [(0,t44)] (some (0,false)) (M.lift (Ax.un .not t50))).bind fun t51 =>
 (M.lift (Ax.pick t44 (V.bool true) t51)).bind fun t52 =>
 (guarded [(0,t52)] (some (0,false)) (M.lift (Ax.faddr 6 t1))).bind fun t54 =>
 (guarded [(0,t52)] (some (0,false)) (mload none t54)).bind fun t55 =>
 (guarded [(0,t52)] (some (0,false)) (M.lift (vlen t55))).bind fun t56 =>
 (guarded [(0,t52)] (some (0,false)) (M.lift (Ax.faddr 5 t3))).bind fun t57 =>
 (guarded [(0,t52)] (some (0,false)) (mload none t57)).bind fun t58 =>
 (guarded [(0,t52)] (some (0,false)) (M.lift (Ax.bin .lss t56 t58))).bind fun t59 =>
 (M.lift (Ax.pick t52 (V.bool true) t59)).bind fun t60 =>
 (guarded [(0,t60)] (some (0,false)) (M.lift (Ax.faddr 6 t1))).bind fun t62 =>
 (guarded [(0,t60)] (some (0,false)) (mload none t62)).bind fun t63 =>
 (guarded [(0,t60)] (some (0,false)) (M.lift (vlen t63))).bind fun t64 =>
 (guarded [(0,t60)] (some (0,false)) (M.lift (Ax.faddr 6 t3))).bind fun t65 =>
 (guarded [(0,t60)] (some (0,false)) (mload none t65)).bind fun t66 =>
 (guarded [(0,t60)] (some (0,false)) (M.lift (Ax.bin .gtr t64 t66))).bind fun t67 =>
 (M.lift (Ax.pick t60 (V.bool true) t67)).bind fun t68 =>
 M.ite t68
 (M.pure (.ret [(V.bool false)]))
 ((M.lift (Ax.faddr 0 t1)).bind fun t69 =>
 (mload none t69).bind fun t70 =>
 M.blk 0 (
 (M.lift (Ax.bin .eql t70 (V.int .i64 17))).bind fun t72 =>
 M.ite t72
 ((mload (some 7) t1).bind fun t73 =>
 (G zdL [t73]).bind fun t74 =>
 M.pure (.ret [t74]))
 ((M.lift (Ax.bin .eql t70 (V.int .i64 18))).bind fun t76 =>
 M.ite t76
 ((M.lift (Ax.faddr 4 t1)).bind fun t77 =>
 (mload none t77).bind fun t78 =>
 (M.lift (Ax.bin .geq t78 (V.int .i64 1))).bind fun t79 =>
 M.pure (.ret [t79]))
 ((M.lift (Ax.bin .eql t70 (V.int .i64 19))).bind fun t81 =>
 M.ite t81
 ((M.lift (Ax.faddr 4 t1)).bind fun t82 =>
 (mload none t82).bind fun t83 =>
 (M.lift (Ax.faddr 2 t1)).bind fun t84 =>
 (mload none t84).bind fun t85 =>
 (M.lift (Ax.bin .shr t83 t85)).bind fun t86 =>
 (M.lift (Ax.bin .and t86 (V.int .i64 1))).bind fun t87 =>
 (M.lift (Ax.bin .eql t87 (V.int .i64 1))).bind fun t88 =>
 M.pure (.ret [t88]))
 ((M.lift (Ax.bin .eql t70 (V.int .i64 20))).bind fun t90 =>
 M.ite t90
 ((M.lift (Ax.faddr 4 t1)).bind fun t91 =>
 (mload none t91).bind fun t92 =>
 (M.lift (Ax.faddr 2 t1)).bind fun t93 =>
 (mload none t93).bind fun t94 =>
 (M.lift (Ax.bin .shr t92 t94)).bind fun t95 =>
 (M.lift (Ax.bin .and t95 (V.int .i64 1))).bind fun t96 =>
 (M.lift (Ax.bin .eql t96 (V.int .i64 0))).bind fun t97 =>
 M.pure (.ret [t97]))
 (M.pure (.nrm [])))))) fun _ =>
 M.pure (.ret [(V.bool true)]))
def ir_note_Good:Fn':=(T zcn).getD noF
theorem tb_note_Good:T zcn = some ir_note_Good:=by kernel_rfl
theorem eq_note_Good (G:Sem') (t0:V):execK G ir_note_Good.rv ir_note_Good.body [] [] (params 0 [t0]) = f_note_Good G t0:=by kernel_rfl
def zqX (G:Sem'):List V → M V
 | [t0]=>fin (f_note_Good G t0)
 | _=>M.fail
theorem zCq {g:Sem'} (hg:Sims g (sem T)) (args:List V):Sim (zqX g args) (sem T zcn args):=by
 unfold zqX;split
 ·exact zae tb_note_Good (Nat.le_of_ble_eq_true (by kernel_rfl)) hg (eq_note_Good g _)
 ·exact zaa
end Go.Ax.Cc
/- CiS5 -/
namespace Go.Ax.Cc
open Go.Proofs
def f_desk_Desk_say (G:Sem') (t0 t1 t2:V):M Res :=
 (mbox zaf t2).bind fun t5 =>
 (mload (some 7) t5).bind fun t9 =>
 (G zcx [t9]).bind fun t10 =>
 (M.lift (Ax.ext 0 t10)).bind fun t11 =>
 (M.lift (Ax.ext 1 t10)).bind fun t12 =>
 (M.lift (Ax.bin .eql t12 (V.int .i64 0))).bind fun t14 =>
 M.join (M.ite t14
 ((G za2 [t0,t1,(V.int .i64 2),t11]).bind fun t18 =>
 M.pure (.nrm []))
 (M.pure (.nrm []))) fun _ =>
 M.pure (.ret [])
def ir_desk_Desk_say:Fn':=(T zaU).getD noF
theorem tb_desk_Desk_say:T zaU = some ir_desk_Desk_say:=by kernel_rfl
theorem eq_desk_Desk_say (G:Sem') (t0 t1 t2:V):execK G ir_desk_Desk_say.rv ir_desk_Desk_say.body [] [] (params 0 [t0,t1,t2]) = f_desk_Desk_say G t0 t1 t2:=by kernel_rfl
def zkE (G:Sem'):List V → M V
 | [t0,t1,t2]=>fin (f_desk_Desk_say G t0 t1 t2)
 | _=>M.fail
theorem zvH {g:Sem'} (hg:Sims g (sem T)) (args:List V):Sim (zkE g args) (sem T zaU args):=by
 unfold zkE;split
 ·exact zae tb_desk_Desk_say (Nat.le_of_ble_eq_true (by kernel_rfl)) hg (eq_desk_Desk_say g _ _ _)
 ·exact zaa
def zwp (G:Sem') (t0 t1 t2:V):M Res :=
 (mbox zaE t0).bind fun t3 =>
 (mbox zaE (V.agg [(V.bool false),(V.bool false),(V.bool false),(V.bool false),(V.bool false),(V.bool false),(V.bool false),(V.bool false),(V.int .i64 0),(V.int .i64 0),(V.int .i64 0),(V.int .i64 0),(V.int .i64 0),(V.int .i64 0),(V.int .i64 0),(V.int .i64 0),(V.int .i64 0),(V.bool false),(V.int .i64 0),(V.int .i64 0),(V.int .i64 0),(V.int .i64 0),(V.int .i64 0),(V.int .i64 0),(V.int .i64 0),(V.int .i64 0),(V.int .i64 0),(V.int .i64 0),(V.int .i64 0),(V.int .i64 0),(V.int .i64 0),(V.int .i64 0),(V.int .i64 0),(V.int .i64 0),(V.int .i64 0),(V.int .i64 0),(V.int .i64 0),(V.int .i64 0),(V.bool false)])).bind fun t6 =>
 M.blk 0 (
 (mload (some 39) t3).bind fun t14 =>
 (G zcm [t14]).bind fun t15 =>
 (M.lift (Ax.un .not t15)).bind fun t16 =>
 M.ite t16
 ((mload (some 39) t3).bind fun t17 =>
 (mstore 39 t6 t17).bind fun _ =>
 (mload (some 39) t6).bind fun r0 =>
 M.pure (.ret [r0,(V.int .i64 0),(V.int .i64 1)]))
 ((M.lift (Ax.faddr 38 t3)).bind fun t19 =>
 (mload none t19).bind fun t20 =>
 M.ite t20
 ((mload (some 39) t3).bind fun t21 =>
 (mstore 39 t6 t21).bind fun _ =>
 (mload (some 39) t6).bind fun r0 =>
 M.pure (.ret [r0,(V.int .i64 0),(V.int .i64 12)]))
 (M.pure (.nrm [])))) fun _ =>
 (M.lift (Ax.faddr 0 t3)).bind fun t23 =>
 (mload (some 16) t23).bind fun t24 =>
 (G zf4 [t24,t1]).bind fun t26 =>
 (M.lift (Ax.ext 0 t26)).bind fun t27 =>
 (M.lift (Ax.ext 1 t26)).bind fun t28 =>
 (M.lift (Ax.ext 2 t26)).bind fun t29 =>
 (mbox zan (V.agg [(V.bool false),(V.bool false),(V.bool false),(V.bool false),(V.bool false),(V.bool false),(V.bool false),(V.bool false),(V.int .i64 0),(V.int .i64 0),(V.int .i64 0),(V.int .i64 0),(V.int .i64 0),(V.int .i64 0),(V.int .i64 0),(V.int .i64 0)])).bind fun t9 =>
 (mstore 16 t9 t27).bind fun _ =>
 (M.lift (Ax.bin .neq t29 (V.int .i64 0))).bind fun t31 =>
 M.ite t31
 ((mload (some 39) t3).bind fun t32 =>
 (mstore 39 t6 t32).bind fun _ =>
 (mload (some 39) t6).bind fun r0 =>
 M.pure (.ret [r0,(V.int .i64 0),t29]))
 ((M.lift (Ax.faddr 16 t3)).bind fun t35 =>
 (mload (some 6) t35).bind fun t36 =>
 (G zgb [t36,t28]).bind fun t38 =>
 (M.lift (Ax.ext 0 t38)).bind fun t39 =>
 (M.lift (Ax.ext 1 t38)).bind fun t40 =>
 (mbox zaW (V.agg [(V.int .i64 0),(V.bool false),(V.int .i64 0),(V.int .i64 0),(V.int .i64 0),(V.int .i64 0)])).bind fun t12 =>
 (mstore 6 t12 t39).bind fun _ =>
 (M.lift (Ax.bin .neq t40 (V.int .i64 0))).bind fun t42 =>
 M.ite t42
 ((mload (some 39) t3).bind fun t43 =>
 (mstore 39 t6 t43).bind fun _ =>
 (mload (some 39) t6).bind fun r0 =>
 M.pure (.ret [r0,(V.int .i64 0),t40]))
 ((mload (some 16) t9).bind fun t45 =>
 (mload (some 6) t12).bind fun t46 =>
 (M.lift (Ax.faddr 0 t3)).bind fun t47 =>
 M.getH.bind fun h0 =>
 (mstore 16 t47 t45).bind fun _ =>
 M.getH.bind fun h0' =>
 (M.unch t12 h0 h0').bind fun _ =>
 (M.lift (Ax.faddr 16 t3)).bind fun t48 =>
 (mstore 6 t48 t46).bind fun _ =>
 (M.lift (Ax.faddr 0 t12)).bind fun t52 =>
 (mload none t52).bind fun t53 =>
 (M.lift (Ax.faddr 22 t3)).bind fun t54 =>
 (M.lift (Ax.iaddr (some 8) 1 t54 t28)).bind fun t55 =>
 (M.lift (Ax.faddr 30 t3)).bind fun t56 =>
 M.getH.bind fun h1 =>
 (mstore 1 t55 t2).bind fun _ =>
 M.getH.bind fun h1' =>
 (M.unch t52 h1 h1').bind fun _ =>
 (M.lift (Ax.iaddr (some 8) 1 t56 t28)).bind fun t57 =>
 (mstore 1 t57 t53).bind fun _ =>
 (mload (some 39) t3).bind fun t58 =>
 (mstore 39 t6 t58).bind fun _ =>
 (mload (some 39) t6).bind fun r0 =>
 M.pure (.ret [r0,t28,(V.int .i64 0)])))
def zoe:Fn':=(T zhe).getD noF
theorem zAa:T zhe = some zoe:=by kernel_rfl
theorem zBv (G:Sem') (t0 t1 t2:V):execK G zoe.rv zoe.body [] [] (params 0 [t0,t1,t2]) = zwp G t0 t1 t2:=by kernel_rfl
def zqS (G:Sem'):List V → M V
 | [t0,t1,t2]=>fin (zwp G t0 t1 t2)
 | _=>M.fail
theorem zCl {g:Sem'} (hg:Sims g (sem T)) (args:List V):Sim (zqS g args) (sem T zhe args):=by
 unfold zqS;split
 ·exact zae zAa (Nat.le_of_ble_eq_true (by kernel_rfl)) hg (zBv g _ _ _)
 ·exact zaa
def f_desk_coming (G:Sem') (t0:V):M Res :=
 (M.lift (Ax.nilck t0)).bind fun t4 =>
 (M.lift (Ax.faddr 0 t4)).bind fun t5 =>
 (M.lift (Ax.faddr 16 t5)).bind fun t6 =>
 (mload (some 6) t6).bind fun t7 =>
 (G zb0 [t7]).bind fun t8 =>
 M.pure (.ret [t8])
def ir_desk_coming:Fn':=(T zbO).getD noF
theorem tb_desk_coming:T zbO = some ir_desk_coming:=by kernel_rfl
theorem eq_desk_coming (G:Sem') (t0:V):execK G ir_desk_coming.rv ir_desk_coming.body [] [] (params 0 [t0]) = f_desk_coming G t0:=by kernel_rfl
def zm3 (G:Sem'):List V → M V
 | [t0]=>fin (f_desk_coming G t0)
 | _=>M.fail
theorem zyU {g:Sem'} (hg:Sims g (sem T)) (args:List V):Sim (zm3 g args) (sem T zbO args):=by
 unfold zm3;split
 ·exact zae tb_desk_coming (Nat.le_of_ble_eq_true (by kernel_rfl)) hg (eq_desk_coming g _)
 ·exact zaa
def ztk (G:Sem') (t15 t2 t0 t1 t7:V) (L:List V):M Res :=
 (M.lift (Ax.bin .lss (L.getD 0 .undef) (V.int .i64 8))).bind fun t17 =>
 M.ite t17
 (M.blk 1 (
 (M.lift (Ax.index 8 1 none t15 (L.getD 0 .undef))).bind fun t19 =>
 (guarded [(0,t19)] (some (0,true)) (M.pure (L.getD 0 .undef))).bind fun t22 =>
 (guarded [(0,t19)] (some (0,true)) (M.pure t2)).bind fun t23 =>
 (guarded [(0,t19)] (some (0,true)) (M.lift (Ax.bin .neq t22 t23))).bind fun t24 =>
 (M.lift (Ax.pick t19 t24 (V.bool false))).bind fun t25 =>
 M.join (M.ite t25
 ((M.lift (Ax.nilck t1)).bind fun t29 =>
 (M.lift (Ax.faddr 0 t29)).bind fun t30 =>
 (M.lift (Ax.faddr 0 t30)).bind fun t31 =>
 (M.lift (Ax.faddr 8 t31)).bind fun t32 =>
 (M.lift (Ax.iaddr (some 8) 1 t32 (L.getD 0 .undef))).bind fun t33 =>
 (mload none t33).bind fun t34 =>
 (mload (some 7) t7).bind fun t35 =>
 (G zaU [t0,t34,t35]).bind fun t36 =>
 M.pure (.nrm []))
 (M.pure (.nrm []))) fun _ =>
 M.pure (.nrm [])) fun _ =>
 (M.lift (Ax.bin .add (L.getD 0 .undef) (V.int .i64 1))).bind fun t37 =>
 M.pure (.nrm [t37]))
 (M.pure (.ex 0 []))
def zoB (G:Sem') (t0 t1 t2 t3:V):M Res :=
 (mbox zaf t3).bind fun t7 =>
 (M.lift (Ax.nilck t1)).bind fun t11 =>
 (M.lift (Ax.faddr 0 t11)).bind fun t12 =>
 (M.lift (Ax.faddr 0 t12)).bind fun t13 =>
 (M.lift (Ax.faddr 0 t13)).bind fun t14 =>
 (mload (some 8) t14).bind fun t15 =>
 M.blk 0 (
 M.iter (ztk G t15 t2 t0 t1 t7) [(V.int .i64 0)]) fun _ =>
 M.pure (.ret [])
def zjj:Fn':=(T zcg).getD noF
theorem zuq:T zcg = some zjj:=by kernel_rfl
theorem zu7 (G:Sem') (t0 t1 t2 t3:V):execK G zjj.rv zjj.body [] [] (params 0 [t0,t1,t2,t3]) = zoB G t0 t1 t2 t3:=by kernel_rfl
def zkG (G:Sem'):List V → M V
 | [t0,t1,t2,t3]=>fin (zoB G t0 t1 t2 t3)
 | _=>M.fail
theorem zvJ {g:Sem'} (hg:Sims g (sem T)) (args:List V):Sim (zkG g args) (sem T zcg args):=by
 unfold zkG;split
 ·exact zae zuq (Nat.le_of_ble_eq_true (by kernel_rfl)) hg (zu7 g _ _ _ _)
 ·exact zaa
def zuc (G:Sem') (t0 t1 t2:V):M Res :=
 (mbox zaE t0).bind fun t3 =>
 (mbox zaE (V.agg [(V.bool false),(V.bool false),(V.bool false),(V.bool false),(V.bool false),(V.bool false),(V.bool false),(V.bool false),(V.int .i64 0),(V.int .i64 0),(V.int .i64 0),(V.int .i64 0),(V.int .i64 0),(V.int .i64 0),(V.int .i64 0),(V.int .i64 0),(V.int .i64 0),(V.bool false),(V.int .i64 0),(V.int .i64 0),(V.int .i64 0),(V.int .i64 0),(V.int .i64 0),(V.int .i64 0),(V.int .i64 0),(V.int .i64 0),(V.int .i64 0),(V.int .i64 0),(V.int .i64 0),(V.int .i64 0),(V.int .i64 0),(V.int .i64 0),(V.int .i64 0),(V.int .i64 0),(V.int .i64 0),(V.int .i64 0),(V.int .i64 0),(V.int .i64 0),(V.bool false)])).bind fun t6 =>
 (mload (some 39) t3).bind fun t11 =>
 (G zcc [t11,t1]).bind fun t13 =>
 (M.lift (Ax.ext 0 t13)).bind fun t14 =>
 (M.lift (Ax.ext 1 t13)).bind fun t15 =>
 (M.lift (Ax.bin .neq t15 (V.int .i64 0))).bind fun t17 =>
 M.ite t17
 ((mload (some 39) t3).bind fun t18 =>
 (mstore 39 t6 t18).bind fun _ =>
 (mload (some 39) t6).bind fun r0 =>
 M.pure (.ret [r0,t15]))
 ((mload (some 39) t3).bind fun t20 =>
 (G zdw [t20,t14,t2]).bind fun t23 =>
 (mstore 39 t6 t23).bind fun _ =>
 (mload (some 39) t6).bind fun r0 =>
 M.pure (.ret [r0,(V.int .i64 0)]))
def zmE:Fn':=(T zeY).getD noF
theorem zyB:T zeY = some zmE:=by kernel_rfl
theorem zzG (G:Sem') (t0 t1 t2:V):execK G zmE.rv zmE.body [] [] (params 0 [t0,t1,t2]) = zuc G t0 t1 t2:=by kernel_rfl
def zo4 (G:Sem'):List V → M V
 | [t0,t1,t2]=>fin (zuc G t0 t1 t2)
 | _=>M.fail
theorem zAA {g:Sem'} (hg:Sims g (sem T)) (args:List V):Sim (zo4 g args) (sem T zeY args):=by
 unfold zo4;split
 ·exact zae zyB (Nat.le_of_ble_eq_true (by kernel_rfl)) hg (zzG g _ _ _)
 ·exact zaa
def zwo (G:Sem') (t0 t1 t2 t3:V):M Res :=
 (mbox zaE t0).bind fun t4 =>
 (mbox zaE (V.agg [(V.bool false),(V.bool false),(V.bool false),(V.bool false),(V.bool false),(V.bool false),(V.bool false),(V.bool false),(V.int .i64 0),(V.int .i64 0),(V.int .i64 0),(V.int .i64 0),(V.int .i64 0),(V.int .i64 0),(V.int .i64 0),(V.int .i64 0),(V.int .i64 0),(V.bool false),(V.int .i64 0),(V.int .i64 0),(V.int .i64 0),(V.int .i64 0),(V.int .i64 0),(V.int .i64 0),(V.int .i64 0),(V.int .i64 0),(V.int .i64 0),(V.int .i64 0),(V.int .i64 0),(V.int .i64 0),(V.int .i64 0),(V.int .i64 0),(V.int .i64 0),(V.int .i64 0),(V.int .i64 0),(V.int .i64 0),(V.int .i64 0),(V.int .i64 0),(V.bool false)])).bind fun t8 =>
 (mload (some 39) t4).bind fun t17 =>
 (G zcc [t17,t1]).bind fun t19 =>
 (M.lift (Ax.ext 0 t19)).bind fun t20 =>
 (M.lift (Ax.ext 1 t19)).bind fun t21 =>
 (M.lift (Ax.bin .neq t21 (V.int .i64 0))).bind fun t23 =>
 M.ite t23
 ((mload (some 39) t4).bind fun t24 =>
 (mstore 39 t8 t24).bind fun _ =>
 (mload (some 39) t8).bind fun r0 =>
 M.pure (.ret [r0,t21]))
 ((M.lift (Ax.faddr 0 t4)).bind fun t27 =>
 (mload (some 16) t27).bind fun t28 =>
 (G zfe [t28]).bind fun t29 =>
 (M.lift (Ax.ext 0 t29)).bind fun t30 =>
 (M.lift (Ax.ext 1 t29)).bind fun t31 =>
 (M.lift (Ax.bin .neq t30 t20)).bind fun t34 =>
 M.ite t34
 ((mload (some 39) t4).bind fun t35 =>
 (mstore 39 t8 t35).bind fun _ =>
 (mload (some 39) t8).bind fun r0 =>
 M.pure (.ret [r0,(V.int .i64 13)]))
 ((M.lift (Ax.faddr 0 t4)).bind fun t37 =>
 (mload (some 16) t37).bind fun t38 =>
 (G zeX [t38,t2]).bind fun t40 =>
 (M.lift (Ax.ext 0 t40)).bind fun t41 =>
 (M.lift (Ax.ext 1 t40)).bind fun t42 =>
 (mbox zan (V.agg [(V.bool false),(V.bool false),(V.bool false),(V.bool false),(V.bool false),(V.bool false),(V.bool false),(V.bool false),(V.int .i64 0),(V.int .i64 0),(V.int .i64 0),(V.int .i64 0),(V.int .i64 0),(V.int .i64 0),(V.int .i64 0),(V.int .i64 0)])).bind fun t14 =>
 (mstore 16 t14 t41).bind fun _ =>
 (M.lift (Ax.bin .neq t42 (V.int .i64 0))).bind fun t44 =>
 M.ite t44
 ((mload (some 39) t4).bind fun t45 =>
 (mstore 39 t8 t45).bind fun _ =>
 (mload (some 39) t8).bind fun r0 =>
 M.pure (.ret [r0,t42]))
 ((mload (some 39) t4).bind fun t47 =>
 (G zdw [t47,t2,t3]).bind fun t50 =>
 (mstore 39 t8 t50).bind fun _ =>
 (mload (some 39) t8).bind fun r0 =>
 M.pure (.ret [r0,(V.int .i64 0)]))))
def zod:Fn':=(T zfR).getD noF
theorem zz9:T zfR = some zod:=by kernel_rfl
theorem zBu (G:Sem') (t0 t1 t2 t3:V):execK G zod.rv zod.body [] [] (params 0 [t0,t1,t2,t3]) = zwo G t0 t1 t2 t3:=by kernel_rfl
def zqR (G:Sem'):List V → M V
 | [t0,t1,t2,t3]=>fin (zwo G t0 t1 t2 t3)
 | _=>M.fail
theorem zCk {g:Sem'} (hg:Sims g (sem T)) (args:List V):Sim (zqR g args) (sem T zfR args):=by
 unfold zqR;split
 ·exact zae zz9 (Nat.le_of_ble_eq_true (by kernel_rfl)) hg (zBu g _ _ _ _)
 ·exact zaa
def znm (G:Sem') (t0 t1 t2:V):M Res :=
 (mbox zaf t2).bind fun t5 =>
 (M.lift (Ax.faddr 6 t5)).bind fun t11 =>
 (mload none t11).bind fun t12 =>
 (M.lift (Ax.iaddr none 1 t12 (V.int .i64 0))).bind fun t13 =>
 (mload none t13).bind fun t14 =>
 (M.lift (Ax.cint .u32 t14)).bind fun t15 =>
 (M.lift (Ax.bin .shl t15 (V.int .u64 24))).bind fun t16 =>
 (M.lift (Ax.faddr 6 t5)).bind fun t17 =>
 (mload none t17).bind fun t18 =>
 (M.lift (Ax.iaddr none 1 t18 (V.int .i64 1))).bind fun t19 =>
 (mload none t19).bind fun t20 =>
 (M.lift (Ax.cint .u32 t20)).bind fun t21 =>
 (M.lift (Ax.bin .shl t21 (V.int .u64 16))).bind fun t22 =>
 (M.lift (Ax.bin .or t16 t22)).bind fun t23 =>
 (M.lift (Ax.faddr 6 t5)).bind fun t24 =>
 (mload none t24).bind fun t25 =>
 (M.lift (Ax.iaddr none 1 t25 (V.int .i64 2))).bind fun t26 =>
 (mload none t26).bind fun t27 =>
 (M.lift (Ax.cint .u32 t27)).bind fun t28 =>
 (M.lift (Ax.bin .shl t28 (V.int .u64 8))).bind fun t29 =>
 (M.lift (Ax.bin .or t23 t29)).bind fun t30 =>
 (M.lift (Ax.faddr 6 t5)).bind fun t31 =>
 (mload none t31).bind fun t32 =>
 (M.lift (Ax.iaddr none 1 t32 (V.int .i64 3))).bind fun t33 =>
 (mload none t33).bind fun t34 =>
 (M.lift (Ax.cint .u32 t34)).bind fun t35 =>
 (M.lift (Ax.bin .or t30 t35)).bind fun t36 =>
 (G zci [t0,t1,t36]).bind fun t41 =>
 (M.lift (Ax.ext 0 t41)).bind fun t42 =>
 (M.lift (Ax.ext 1 t41)).bind fun t43 =>
 (guarded [(0,t43)] (some (0,true)) (M.pure t42)).bind fun t46 =>
 (guarded [(0,t43)] (some (0,true)) (M.lift (Ax.faddr 4 t5))).bind fun t47 =>
 (guarded [(0,t43)] (some (0,true)) (mload none t47)).bind fun t48 =>
 (guarded [(0,t43)] (some (0,true)) (M.lift (Ax.bin .neq t46 t48))).bind fun t49 =>
 (M.lift (Ax.pick t43 t49 (V.bool false))).bind fun t50 =>
 M.ite t50
 (M.pure (.ret [(V.int .i64 7)]))
 ((M.lift (Ax.faddr 4 t5)).bind fun t53 =>
 (mload none t53).bind fun t54 =>
 (M.lift (Ax.nilck t0)).bind fun t55 =>
 (M.lift (Ax.faddr 39 t55)).bind fun t56 =>
 (M.lift (Ax.iaddr (some 8) 33 t56 t1)).bind fun t57 =>
 (M.lift (Ax.iaddr (some 3) 11 t57 t54)).bind fun t58 =>
 (M.lift (Ax.nilck t58)).bind fun t60 =>
 (M.lift (Ax.faddr 0 t60)).bind fun t61 =>
 (mload none t61).bind fun t62 =>
 (M.lift (Ax.un .not t62)).bind fun t63 =>
 (guarded [(0,t63)] (some (0,false)) (M.pure t58)).bind fun t65 =>
 (guarded [(0,t63)] (some (0,false)) (M.lift (Ax.nilck t65))).bind fun t66 =>
 (guarded [(0,t63)] (some (0,false)) (M.lift (Ax.faddr 1 t66))).bind fun t67 =>
 (guarded [(0,t63)] (some (0,false)) (mload none t67)).bind fun t68 =>
 (guarded [(0,t63)] (some (0,false)) (M.pure t36)).bind fun t69 =>
 (guarded [(0,t63)] (some (0,false)) (M.lift (Ax.bin .neq t68 t69))).bind fun t70 =>
 (M.lift (Ax.pick t63 (V.bool true) t70)).bind fun t71 =>
 M.join (M.ite t71
 ((M.lift (Ax.build [(V.bool false),(V.int .u32 0),(V.int .i64 0),(V.int .i64 0),(V.int .i64 0),V.nils,(V.int .i64 0),V.nils,V.nils,(V.int .u32 0),V.nils] [(0,1,(V.bool true)),(1,1,t36)])).bind fun t74 =>
 (M.lift (Ax.nilck t58)).bind fun t75 =>
 (mstore 11 t75 t74).bind fun _ =>
 M.pure (.nrm []))
 (M.pure (.nrm []))) fun _ =>
 (M.lift (Ax.faddr 5 t5)).bind fun t77 =>
 (mload none t77).bind fun t78 =>
 (M.lift (Ax.nilck t58)).bind fun t79 =>
 (M.lift (Ax.faddr 2 t79)).bind fun t80 =>
 (mstore 1 t80 t78).bind fun _ =>
 M.pure (.ret [(V.int .i64 0)]))
def zic:Fn':=(T zcS).getD noF
theorem zsA:T zcS = some zic:=by kernel_rfl
theorem ztu (G:Sem') (t0 t1 t2:V):execK G zic.rv zic.body [] [] (params 0 [t0,t1,t2]) = znm G t0 t1 t2:=by kernel_rfl
def zjA (G:Sem'):List V → M V
 | [t0,t1,t2]=>fin (znm G t0 t1 t2)
 | _=>M.fail
theorem zuD {g:Sem'} (hg:Sims g (sem T)) (args:List V):Sim (zjA g args) (sem T zcS args):=by
 unfold zjA;split
 ·exact zae zsA (Nat.le_of_ble_eq_true (by kernel_rfl)) hg (ztu g _ _ _)
 ·exact zaa
def znp (G:Sem') (t0 t1 t2 t3:V):M Res :=
 (mbox zaf t3).bind fun t7 =>
 M.blk 0 (
 (M.lift (Ax.faddr 2 t7)).bind fun t14 =>
 (mload none t14).bind fun t15 =>
 (M.lift (Ax.nilck t1)).bind fun t16 =>
 (M.lift (Ax.faddr 0 t16)).bind fun t17 =>
 (M.lift (Ax.faddr 0 t17)).bind fun t18 =>
 (M.lift (Ax.faddr 0 t18)).bind fun t19 =>
 (M.lift (Ax.iaddr (some 8) 1 t19 t15)).bind fun t20 =>
 (mload none t20).bind fun t21 =>
 (M.lift (Ax.un .not t21)).bind fun t22 =>
 M.ite t22
 (M.pure (.ret [(V.int .i64 6)]))
 ((M.lift (Ax.faddr 2 t7)).bind fun t24 =>
 (mload none t24).bind fun t25 =>
 (M.lift (Ax.bin .eql t25 t2)).bind fun t27 =>
 M.ite t27
 (M.pure (.ret [(V.int .i64 1)]))
 (M.pure (.nrm [])))) fun _ =>
 (M.lift (Ax.faddr 2 t7)).bind fun t30 =>
 (mload none t30).bind fun t31 =>
 (M.lift (Ax.nilck t1)).bind fun t32 =>
 (M.lift (Ax.faddr 303 t32)).bind fun t33 =>
 (M.lift (Ax.iaddr (some 8) 8 t33 t2)).bind fun t34 =>
 (M.lift (Ax.iaddr (some 8) 1 t34 t31)).bind fun t35 =>
 (mload none t35).bind fun t36 =>
 (M.lift (eqr .ptr false t36 V.nilp)).bind fun t38 =>
 M.join (M.ite t38
 ((G zdE [t0,t1,t2]).bind fun t43 =>
 (M.lift (Ax.ext 0 t43)).bind fun t44 =>
 (M.lift (Ax.ext 1 t43)).bind fun t45 =>
 (M.lift (Ax.un .not t45)).bind fun t47 =>
 M.ite t47
 (M.pure (.ret [(V.int .i64 5)]))
 ((G ziw [t44]).bind fun t49 =>
 (M.lift (Ax.faddr 2 t7)).bind fun t52 =>
 (mload none t52).bind fun t53 =>
 (M.lift (Ax.nilck t1)).bind fun t55 =>
 (M.lift (Ax.faddr 303 t55)).bind fun t56 =>
 (M.lift (Ax.iaddr (some 8) 8 t56 t2)).bind fun t57 =>
 (M.lift (Ax.iaddr (some 8) 1 t57 t53)).bind fun t58 =>
 (mstore 1 t58 t49).bind fun _ =>
 (M.lift (Ax.nilck t1)).bind fun t62 =>
 (M.lift (Ax.faddr 0 t62)).bind fun t63 =>
 (M.lift (Ax.faddr 0 t63)).bind fun t64 =>
 (M.lift (Ax.faddr 8 t64)).bind fun t65 =>
 (M.lift (Ax.iaddr (some 8) 1 t65 t2)).bind fun t66 =>
 (mload none t66).bind fun t67 =>
 (M.lift (Ax.faddr 2 t7)).bind fun t68 =>
 (mload none t68).bind fun t69 =>
 (M.lift (Ax.bin .shr t44 (V.int .u64 24))).bind fun t71 =>
 (M.lift (Ax.cint .u8 t71)).bind fun t72 =>
 (M.lift (Ax.bin .shr t44 (V.int .u64 16))).bind fun t74 =>
 (M.lift (Ax.cint .u8 t74)).bind fun t75 =>
 (M.lift (Ax.bin .shr t44 (V.int .u64 8))).bind fun t77 =>
 (M.lift (Ax.cint .u8 t77)).bind fun t78 =>
 (M.lift (Ax.cint .u8 t44)).bind fun t80 =>
 (mslit zaj 4 [(V.int .u8 0)] [(0,1,t72),(1,1,t75),(2,1,t78),(3,1,t80)]).bind fun t81 =>
 (M.lift (Ax.build [(V.int .i64 0),(V.int .i64 0),(V.int .i64 0),(V.int .i64 0),(V.int .i64 0),(V.int .i64 0),V.nils] [(0,1,(V.int .i64 24)),(2,1,t69),(6,1,t81)])).bind fun t82 =>
 (G zaU [t0,t67,t82]).bind fun t83 =>
 M.pure (.nrm [t49])))
 (M.pure (.nrm [t36]))) fun L1 =>
 (M.lift (Ax.faddr 4 t7)).bind fun t85 =>
 (mload none t85).bind fun t86 =>
 (M.lift (Ax.faddr 5 t7)).bind fun t87 =>
 (mload none t87).bind fun t88 =>
 (G zdc [(L1.getD 0 .undef),t86,t88]).bind fun t89 =>
 (M.lift (Ax.faddr 2 t7)).bind fun t93 =>
 (mload none t93).bind fun t94 =>
 (G zcA [t0,t1,t2,t94]).bind fun t95 =>
 M.pure (.ret [(V.int .i64 0)])
def zif:Fn':=(T zcU).getD noF
theorem zsD:T zcU = some zif:=by kernel_rfl
theorem ztx (G:Sem') (t0 t1 t2 t3:V):execK G zif.rv zif.body [] [] (params 0 [t0,t1,t2,t3]) = znp G t0 t1 t2 t3:=by kernel_rfl
def zjD (G:Sem'):List V → M V
 | [t0,t1,t2,t3]=>fin (znp G t0 t1 t2 t3)
 | _=>M.fail
theorem zuG {g:Sem'} (hg:Sims g (sem T)) (args:List V):Sim (zjD g args) (sem T zcU args):=by
 unfold zjD;split
 ·exact zae zsD (Nat.le_of_ble_eq_true (by kernel_rfl)) hg (ztx g _ _ _ _)
 ·exact zaa
def f_desk_Desk_key (G:Sem') (t0 t1 t2 t3:V):M Res :=
 (mbox zaf t3).bind fun t7 =>
 M.blk 0 (
 (M.lift (Ax.faddr 2 t7)).bind fun t11 =>
 (mload none t11).bind fun t12 =>
 (M.lift (Ax.nilck t1)).bind fun t13 =>
 (M.lift (Ax.faddr 0 t13)).bind fun t14 =>
 (M.lift (Ax.faddr 0 t14)).bind fun t15 =>
 (M.lift (Ax.faddr 0 t15)).bind fun t16 =>
 (M.lift (Ax.iaddr (some 8) 1 t16 t12)).bind fun t17 =>
 (mload none t17).bind fun t18 =>
 (M.lift (Ax.un .not t18)).bind fun t19 =>
 M.ite t19
 (M.pure (.ret [(V.int .i64 6)]))
 ((M.lift (Ax.faddr 2 t7)).bind fun t21 =>
 (mload none t21).bind fun t22 =>
 (M.lift (Ax.bin .eql t22 t2)).bind fun t24 =>
 M.ite t24
 (M.pure (.ret [(V.int .i64 1)]))
 ((M.lift (Ax.faddr 3 t7)).bind fun t26 =>
 (mload none t26).bind fun t27 =>
 (M.lift (Ax.nilck t1)).bind fun t29 =>
 (M.lift (Ax.faddr 0 t29)).bind fun t30 =>
 (M.lift (Ax.faddr 16 t30)).bind fun t31 =>
 (M.lift (Ax.faddr 0 t31)).bind fun t32 =>
 (mload none t32).bind fun t33 =>
 (M.lift (Ax.bin .neq t27 t33)).bind fun t34 =>
 (guarded [(0,t34)] (some (0,true)) (M.lift (Ax.faddr 3 t7))).bind fun t36 =>
 (guarded [(0,t34)] (some (0,true)) (mload none t36)).bind fun t37 =>
 (guarded [(0,t34)] (some (0,true)) (M.pure t1)).bind fun t38 =>
 M.getH.bind fun h0 =>
 (guarded [(0,t34)] (some (0,true)) (G zbO [t38])).bind fun t39 =>
 M.getH.bind fun h0' =>
 (M.unch t36 h0 h0').bind fun _ =>
 (guarded [(0,t34)] (some (0,true)) (M.lift (Ax.bin .neq t37 t39))).bind fun t40 =>
 (M.lift (Ax.pick t34 t40 (V.bool false))).bind fun t41 =>
 M.ite t41
 (M.pure (.ret [(V.int .i64 12)]))
 (M.pure (.nrm []))))) fun _ =>
 (M.lift (Ax.faddr 2 t7)).bind fun t44 =>
 (mload none t44).bind fun t45 =>
 (M.lift (Ax.nilck t1)).bind fun t46 =>
 (M.lift (Ax.faddr 0 t46)).bind fun t47 =>
 (M.lift (Ax.faddr 0 t47)).bind fun t48 =>
 (M.lift (Ax.faddr 8 t48)).bind fun t49 =>
 (M.lift (Ax.iaddr (some 8) 1 t49 t45)).bind fun t50 =>
 (mload none t50).bind fun t51 =>
 (M.lift (Ax.faddr 3 t7)).bind fun t53 =>
 (mload none t53).bind fun t54 =>
 (M.lift (Ax.faddr 4 t7)).bind fun t55 =>
 (mload none t55).bind fun t56 =>
 (M.lift (Ax.faddr 6 t7)).bind fun t57 =>
 (mload none t57).bind fun t58 =>
 (M.lift (Ax.build [(V.int .i64 0),(V.int .i64 0),(V.int .i64 0),(V.int .i64 0),(V.int .i64 0),(V.int .i64 0),V.nils] [(0,1,(V.int .i64 21)),(2,1,t2),(3,1,t54),(4,1,t56),(6,1,t58)])).bind fun t59 =>
 (G zaU [t0,t51,t59]).bind fun t60 =>
 M.pure (.ret [(V.int .i64 0)])
def ir_desk_Desk_key:Fn':=(T zbK).getD noF
theorem tb_desk_Desk_key:T zbK = some ir_desk_Desk_key:=by kernel_rfl
theorem eq_desk_Desk_key (G:Sem') (t0 t1 t2 t3:V):execK G ir_desk_Desk_key.rv ir_desk_Desk_key.body [] [] (params 0 [t0,t1,t2,t3]) = f_desk_Desk_key G t0 t1 t2 t3:=by kernel_rfl
def zkF (G:Sem'):List V → M V
 | [t0,t1,t2,t3]=>fin (f_desk_Desk_key G t0 t1 t2 t3)
 | _=>M.fail
theorem zvI {g:Sem'} (hg:Sims g (sem T)) (args:List V):Sim (zkF g args) (sem T zbK args):=by
 unfold zkF;split
 ·exact zae tb_desk_Desk_key (Nat.le_of_ble_eq_true (by kernel_rfl)) hg (eq_desk_Desk_key g _ _ _ _)
 ·exact zaa
def zwq (G:Sem') (t0 t1 t2:V):M Res :=
 (mbox zaE t0).bind fun t3 =>
 (mbox zaE (V.agg [(V.bool false),(V.bool false),(V.bool false),(V.bool false),(V.bool false),(V.bool false),(V.bool false),(V.bool false),(V.int .i64 0),(V.int .i64 0),(V.int .i64 0),(V.int .i64 0),(V.int .i64 0),(V.int .i64 0),(V.int .i64 0),(V.int .i64 0),(V.int .i64 0),(V.bool false),(V.int .i64 0),(V.int .i64 0),(V.int .i64 0),(V.int .i64 0),(V.int .i64 0),(V.int .i64 0),(V.int .i64 0),(V.int .i64 0),(V.int .i64 0),(V.int .i64 0),(V.int .i64 0),(V.int .i64 0),(V.int .i64 0),(V.int .i64 0),(V.int .i64 0),(V.int .i64 0),(V.int .i64 0),(V.int .i64 0),(V.int .i64 0),(V.int .i64 0),(V.bool false)])).bind fun t6 =>
 (mload (some 39) t3).bind fun t14 =>
 (G zcc [t14,t1]).bind fun t16 =>
 (M.lift (Ax.ext 0 t16)).bind fun t17 =>
 (M.lift (Ax.ext 1 t16)).bind fun t18 =>
 (M.lift (Ax.bin .neq t18 (V.int .i64 0))).bind fun t20 =>
 M.ite t20
 ((mload (some 39) t3).bind fun t21 =>
 (mstore 39 t6 t21).bind fun _ =>
 (mload (some 39) t6).bind fun r0 =>
 M.pure (.ret [r0,(V.bool false),t18]))
 ((M.lift (Ax.faddr 16 t3)).bind fun t24 =>
 (mload (some 6) t24).bind fun t25 =>
 (G zhf [t25,t17,t2]).bind fun t28 =>
 (M.lift (Ax.ext 0 t28)).bind fun t29 =>
 (M.lift (Ax.ext 1 t28)).bind fun t30 =>
 (M.lift (Ax.ext 2 t28)).bind fun t31 =>
 (mbox zaW (V.agg [(V.int .i64 0),(V.bool false),(V.int .i64 0),(V.int .i64 0),(V.int .i64 0),(V.int .i64 0)])).bind fun t11 =>
 (mstore 6 t11 t29).bind fun _ =>
 (M.lift (Ax.bin .neq t31 (V.int .i64 0))).bind fun t33 =>
 M.ite t33
 ((mload (some 39) t3).bind fun t34 =>
 (mstore 39 t6 t34).bind fun _ =>
 (mload (some 39) t6).bind fun r0 =>
 M.pure (.ret [r0,(V.bool false),t31]))
 ((mload (some 6) t11).bind fun t36 =>
 (M.lift (Ax.faddr 16 t3)).bind fun t37 =>
 (mstore 6 t37 t36).bind fun _ =>
 (mload (some 39) t3).bind fun t38 =>
 (mstore 39 t6 t38).bind fun _ =>
 (mload (some 39) t6).bind fun r0 =>
 M.pure (.ret [r0,t30,(V.int .i64 0)])))
def zof:Fn':=(T zfS).getD noF
theorem zAb:T zfS = some zof:=by kernel_rfl
theorem zBw (G:Sem') (t0 t1 t2:V):execK G zof.rv zof.body [] [] (params 0 [t0,t1,t2]) = zwq G t0 t1 t2:=by kernel_rfl
def zqT (G:Sem'):List V → M V
 | [t0,t1,t2]=>fin (zwq G t0 t1 t2)
 | _=>M.fail
theorem zCm {g:Sem'} (hg:Sims g (sem T)) (args:List V):Sim (zqT g args) (sem T zfS args):=by
 unfold zqT;split
 ·exact zae zAb (Nat.le_of_ble_eq_true (by kernel_rfl)) hg (zBw g _ _ _)
 ·exact zaa
def zue (G:Sem') (t0 t1:V):M Res :=
 (mbox zaW t0).bind fun t2 =>
 (mload (some 6) t2).bind fun t5 =>
 (G zbH [t5]).bind fun t6 =>
 (M.lift (Ax.un .not t6)).bind fun t7 =>
 (guarded [(0,t7)] (some (0,false)) (M.lift (Ax.faddr 1 t2))).bind fun t9 =>
 (guarded [(0,t7)] (some (0,false)) (mload none t9)).bind fun t10 =>
 (guarded [(0,t7)] (some (0,false)) (M.lift (Ax.un .not t10))).bind fun t11 =>
 (M.lift (Ax.pick t7 (V.bool true) t11)).bind fun t12 =>
 (guarded [(0,t12)] (some (0,false)) (M.pure t1)).bind fun t14 =>
 (guarded [(0,t12)] (some (0,false)) (M.lift (Ax.faddr 5 t2))).bind fun t15 =>
 (guarded [(0,t12)] (some (0,false)) (mload none t15)).bind fun t16 =>
 (guarded [(0,t12)] (some (0,false)) (M.lift (Ax.bin .lss t14 t16))).bind fun t17 =>
 (M.lift (Ax.pick t12 (V.bool true) t17)).bind fun t18 =>
 (guarded [(0,t18)] (some (0,false)) (M.pure t1)).bind fun t20 =>
 (guarded [(0,t18)] (some (0,false)) (M.lift (Ax.cint .u64 t20))).bind fun t21 =>
 (guarded [(0,t18)] (some (0,false)) (M.lift (Ax.faddr 5 t2))).bind fun t22 =>
 (guarded [(0,t18)] (some (0,false)) (mload none t22)).bind fun t23 =>
 (guarded [(0,t18)] (some (0,false)) (M.lift (Ax.cint .u64 t23))).bind fun t24 =>
 (guarded [(0,t18)] (some (0,false)) (M.lift (Ax.bin .sub t21 t24))).bind fun t25 =>
 (guarded [(0,t18)] (some (0,false)) (M.lift (Ax.bin .lss t25 (V.int .u64 200)))).bind fun t26 =>
 (M.lift (Ax.pick t18 (V.bool true) t26)).bind fun t27 =>
 M.ite t27
 (M.pure (.ret [(V.int .i64 0)]))
 ((M.lift (Ax.faddr 3 t2)).bind fun t28 =>
 (mload none t28).bind fun t29 =>
 (M.lift (Ax.faddr 4 t2)).bind fun t30 =>
 (mload none t30).bind fun t31 =>
 (M.lift (Ax.bin .andNot t29 t31)).bind fun t32 =>
 M.pure (.ret [t32]))
def zmG:Fn':=(T zga).getD noF
theorem zyD:T zga = some zmG:=by kernel_rfl
theorem zzI (G:Sem') (t0 t1:V):execK G zmG.rv zmG.body [] [] (params 0 [t0,t1]) = zue G t0 t1:=by kernel_rfl
def zo7 (G:Sem'):List V → M V
 | [t0,t1]=>fin (zue G t0 t1)
 | _=>M.fail
theorem zAD {g:Sem'} (hg:Sims g (sem T)) (args:List V):Sim (zo7 g args) (sem T zga args):=by
 unfold zo7;split
 ·exact zae zyD (Nat.le_of_ble_eq_true (by kernel_rfl)) hg (zzI g _ _)
 ·exact zaa
def zrQ (G:Sem') (t0 t1 t2:V):M Res :=
 (mbox zaE t0).bind fun t3 =>
 (mbox zaE (V.agg [(V.bool false),(V.bool false),(V.bool false),(V.bool false),(V.bool false),(V.bool false),(V.bool false),(V.bool false),(V.int .i64 0),(V.int .i64 0),(V.int .i64 0),(V.int .i64 0),(V.int .i64 0),(V.int .i64 0),(V.int .i64 0),(V.int .i64 0),(V.int .i64 0),(V.bool false),(V.int .i64 0),(V.int .i64 0),(V.int .i64 0),(V.int .i64 0),(V.int .i64 0),(V.int .i64 0),(V.int .i64 0),(V.int .i64 0),(V.int .i64 0),(V.int .i64 0),(V.int .i64 0),(V.int .i64 0),(V.int .i64 0),(V.int .i64 0),(V.int .i64 0),(V.int .i64 0),(V.int .i64 0),(V.int .i64 0),(V.int .i64 0),(V.int .i64 0),(V.bool false)])).bind fun t6 =>
 (M.lift (Ax.faddr 0 t3)).bind fun t10 =>
 (mload (some 16) t10).bind fun t11 =>
 (G zeX [t11,t1]).bind fun t13 =>
 (M.lift (Ax.ext 0 t13)).bind fun t14 =>
 (M.lift (Ax.ext 1 t13)).bind fun t15 =>
 (M.lift (Ax.faddr 0 t3)).bind fun t16 =>
 (mstore 16 t16 t14).bind fun _ =>
 (M.lift (Ax.faddr 22 t3)).bind fun t19 =>
 (M.lift (Ax.iaddr (some 8) 1 t19 t1)).bind fun t20 =>
 (mstore 1 t20 (V.int .i64 0)).bind fun _ =>
 (M.lift (Ax.faddr 30 t3)).bind fun t21 =>
 (M.lift (Ax.iaddr (some 8) 1 t21 t1)).bind fun t22 =>
 (mstore 1 t22 (V.int .i64 0)).bind fun _ =>
 (M.lift (Ax.faddr 16 t3)).bind fun t24 =>
 (mload (some 6) t24).bind fun t25 =>
 (M.lift (Ax.faddr 0 t3)).bind fun t26 =>
 (mload (some 16) t26).bind fun t27 =>
 M.getH.bind fun h0 =>
 (G zbU [t27]).bind fun t28 =>
 M.getH.bind fun h0' =>
 (M.unch t24 h0 h0').bind fun _ =>
 (G zfj [t25,t28,t2]).bind fun t30 =>
 (M.lift (Ax.ext 0 t30)).bind fun t31 =>
 (mbox zaW (V.agg [(V.int .i64 0),(V.bool false),(V.int .i64 0),(V.int .i64 0),(V.int .i64 0),(V.int .i64 0)])).bind fun t7 =>
 (mstore 6 t7 t31).bind fun _ =>
 (M.lift (Ax.ext 1 t30)).bind fun t32 =>
 (M.lift (Ax.bin .neq t32 (V.int .i64 0))).bind fun t34 =>
 M.ite t34
 ((M.lift (Ax.faddr 16 t3)).bind fun t35 =>
 (M.lift (Ax.faddr 0 t35)).bind fun t36 =>
 (mload none t36).bind fun t37 =>
 (M.lift (Ax.build [(V.int .i64 0),(V.bool false),(V.int .i64 0),(V.int .i64 0),(V.int .i64 0),(V.int .i64 0)] [(0,1,t37)])).bind fun t38 =>
 (M.lift (Ax.build [(V.bool false),(V.bool false),(V.bool false),(V.bool false),(V.bool false),(V.bool false),(V.bool false),(V.bool false),(V.int .i64 0),(V.int .i64 0),(V.int .i64 0),(V.int .i64 0),(V.int .i64 0),(V.int .i64 0),(V.int .i64 0),(V.int .i64 0),(V.int .i64 0),(V.bool false),(V.int .i64 0),(V.int .i64 0),(V.int .i64 0),(V.int .i64 0),(V.int .i64 0),(V.int .i64 0),(V.int .i64 0),(V.int .i64 0),(V.int .i64 0),(V.int .i64 0),(V.int .i64 0),(V.int .i64 0),(V.int .i64 0),(V.int .i64 0),(V.int .i64 0),(V.int .i64 0),(V.int .i64 0),(V.int .i64 0),(V.int .i64 0),(V.int .i64 0),(V.bool false)] [(16,6,t38),(38,1,(V.bool true))])).bind fun t39 =>
 (mstore 39 t6 t39).bind fun _ =>
 (mload (some 39) t6).bind fun r0 =>
 M.pure (.ret [r0]))
 ((mload (some 6) t7).bind fun t40 =>
 (M.lift (Ax.faddr 16 t3)).bind fun t41 =>
 (mstore 6 t41 t40).bind fun _ =>
 (mload (some 39) t3).bind fun t42 =>
 (mstore 39 t6 t42).bind fun _ =>
 (mload (some 39) t6).bind fun r0 =>
 M.pure (.ret [r0]))
def zlp:Fn':=(T zdw).getD noF
theorem zxb:T zdw = some zlp:=by kernel_rfl
theorem zxM (G:Sem') (t0 t1 t2:V):execK G zlp.rv zlp.body [] [] (params 0 [t0,t1,t2]) = zrQ G t0 t1 t2:=by kernel_rfl
def zmY (G:Sem'):List V → M V
 | [t0,t1,t2]=>fin (zrQ G t0 t1 t2)
 | _=>M.fail
theorem zyP {g:Sem'} (hg:Sims g (sem T)) (args:List V):Sim (zmY g args) (sem T zdw args):=by
 unfold zmY;split
 ·exact zae zxb (Nat.le_of_ble_eq_true (by kernel_rfl)) hg (zxM g _ _ _)
 ·exact zaa
def zgi (G:Sem') (t0:V):M Res :=
 (M.lift (Ax.nilck t0)).bind fun t3 =>
 (M.lift (Ax.faddr 1 t3)).bind fun t4 =>
 (mstore 1 t4 V.nils).bind fun _ =>
 M.pure (.ret [])
def zdJ:Fn':=(T zbx).getD noF
theorem zj9:T zbx = some zdJ:=by kernel_rfl
theorem zkx (G:Sem') (t0:V):execK G zdJ.rv zdJ.body [] [] (params 0 [t0]) = zgi G t0:=by kernel_rfl
def zdX (G:Sem'):List V → M V
 | [t0]=>fin (zgi G t0)
 | _=>M.fail
theorem zkQ {g:Sem'} (hg:Sims g (sem T)) (args:List V):Sim (zdX g args) (sem T zbx args):=by
 unfold zdX;split
 ·exact zae zj9 (Nat.le_of_ble_eq_true (by kernel_rfl)) hg (zkx g _)
 ·exact zaa
def f_room_find (G:Sem') (t0 t1:V):M Res :=
 (mbox zaE t0).bind fun t2 =>
 (mload (some 39) t2).bind fun t8 =>
 (G zcm [t8]).bind fun t9 =>
 (M.lift (Ax.un .not t9)).bind fun t10 =>
 M.ite t10
 (M.pure (.ret [(V.int .i64 0),(V.int .i64 1)]))
 ((M.lift (Ax.faddr 0 t2)).bind fun t12 =>
 (mload (some 16) t12).bind fun t13 =>
 (G zb7 [t13,t1]).bind fun t15 =>
 (M.lift (Ax.ext 0 t15)).bind fun t16 =>
 (M.lift (Ax.ext 1 t15)).bind fun t17 =>
 (M.lift (Ax.un .not t17)).bind fun t19 =>
 M.ite t19
 (M.pure (.ret [(V.int .i64 0),(V.int .i64 6)]))
 (M.pure (.ret [t16,(V.int .i64 0)])))
def ir_room_find:Fn':=(T zcc).getD noF
theorem tb_room_find:T zcc = some ir_room_find:=by kernel_rfl
theorem eq_room_find (G:Sem') (t0 t1:V):execK G ir_room_find.rv ir_room_find.body [] [] (params 0 [t0,t1]) = f_room_find G t0 t1:=by kernel_rfl
def zqP (G:Sem'):List V → M V
 | [t0,t1]=>fin (f_room_find G t0 t1)
 | _=>M.fail
theorem zCi {g:Sem'} (hg:Sims g (sem T)) (args:List V):Sim (zqP g args) (sem T zcc args):=by
 unfold zqP;split
 ·exact zae tb_room_find (Nat.le_of_ble_eq_true (by kernel_rfl)) hg (eq_room_find g _ _)
 ·exact zaa
def zrN (G:Sem') (t0 t1 t2:V):M Res :=
 (mbox za3 (V.agg [(V.int .i64 0),(V.int .u32 0),(V.int .u32 0),(V.int .u64 0),(V.int .u32 0),(V.int .u32 0),(V.int .u32 0),V.nils,V.nils,V.nils,(V.int .i64 0),(V.int .u32 0),V.nils,(V.int .i64 0),(V.int .i64 0),V.nils])).bind fun t6 =>
 (G zfQ [t0,t1,t2]).bind fun t13 =>
 (M.lift (Ax.build [(V.int .i64 0),(V.int .u32 0),(V.int .u32 0),(V.int .u64 0),(V.int .u32 0),(V.int .u32 0),(V.int .u32 0),V.nils,V.nils,V.nils,(V.int .i64 0),(V.int .u32 0),V.nils,(V.int .i64 0),(V.int .i64 0),V.nils] [(0,1,t13)])).bind fun t14 =>
 (mbox za3 (V.agg [(V.int .i64 0),(V.int .u32 0),(V.int .u32 0),(V.int .u64 0),(V.int .u32 0),(V.int .u32 0),(V.int .u32 0),V.nils,V.nils,V.nils,(V.int .i64 0),(V.int .u32 0),V.nils,(V.int .i64 0),(V.int .i64 0),V.nils])).bind fun t8 =>
 (mstore 16 t8 t14).bind fun _ =>
 (M.lift (Ax.build [V.nils,(V.bool false)] [(0,1,t2)])).bind fun t16 =>
 (mbox zw2 t16).bind fun t17 =>
 (M.lift (Ax.faddr 0 t8)).bind fun t18 =>
 (mload none t18).bind fun t19 =>
 (M.lift (Ax.bin .eql t19 (V.int .i64 7))).bind fun t20 =>
 M.ite t20
 ((G zaL [t2]).bind fun t24 =>
 (M.lift (Ax.faddr 13 t8)).bind fun t25 =>
 (mstore 1 t25 t0).bind fun _ =>
 (M.lift (Ax.faddr 14 t8)).bind fun t26 =>
 (mstore 1 t26 t1).bind fun _ =>
 (M.lift (Ax.faddr 15 t8)).bind fun t27 =>
 (mstore 1 t27 t24).bind fun _ =>
 (mload (some 16) t8).bind fun t28 =>
 (mstore 16 t6 t28).bind fun _ =>
 (mload (some 16) t6).bind fun r0 =>
 M.pure (.ret [r0,(V.bool true)]))
 ((G zas [t17]).bind fun t30 =>
 (M.lift (Ax.faddr 1 t8)).bind fun t31 =>
 (mstore 1 t31 t30).bind fun _ =>
 (M.lift (Ax.faddr 0 t8)).bind fun t32 =>
 (mload none t32).bind fun t33 =>
 M.blk 0 (
 (M.lift (Ax.bin .eql t33 (V.int .i64 1))).bind fun t37 =>
 M.join (M.ite t37
 ((G zaQ [t17,(V.int .i64 8)]).bind fun t39 =>
 (M.lift (Ax.faddr 3 t8)).bind fun t40 =>
 (mstore 1 t40 t39).bind fun _ =>
 (G zas [t17]).bind fun t42 =>
 (G zas [t17]).bind fun t44 =>
 (G zas [t17]).bind fun t46 =>
 (M.lift (Ax.faddr 4 t8)).bind fun t47 =>
 (mstore 1 t47 t42).bind fun _ =>
 (M.lift (Ax.faddr 5 t8)).bind fun t48 =>
 (mstore 1 t48 t44).bind fun _ =>
 (M.lift (Ax.faddr 6 t8)).bind fun t49 =>
 (mstore 1 t49 t46).bind fun _ =>
 (G zbZ [t17,t1]).bind fun t52 =>
 (M.lift (Ax.faddr 7 t8)).bind fun t53 =>
 (mstore 1 t53 t52).bind fun _ =>
 M.pure (.nrm []))
 ((M.lift (Ax.bin .eql t33 (V.int .i64 2))).bind fun t55 =>
 M.join (M.ite t55
 ((G zbZ [t17,t1]).bind fun t58 =>
 (M.lift (Ax.faddr 7 t8)).bind fun t59 =>
 (mstore 1 t59 t58).bind fun _ =>
 M.pure (.nrm []))
 ((G zcF [t17,t8]).bind fun t35 =>
 M.pure (.nrm []))) fun _ =>
 M.pure (.nrm []))) fun _ =>
 M.pure (.nrm [])) fun _ =>
 (mload (some 16) t8).bind fun t60 =>
 (M.lift (Ax.nilck t17)).bind fun t62 =>
 (M.lift (Ax.faddr 1 t62)).bind fun t63 =>
 (mload none t63).bind fun t64 =>
 (M.lift (Ax.un .not t64)).bind fun t65 =>
 (guarded [(0,t65)] (some (0,true)) (M.pure t17)).bind fun t67 =>
 (guarded [(0,t65)] (some (0,true)) (M.lift (Ax.nilck t67))).bind fun t68 =>
 (guarded [(0,t65)] (some (0,true)) (M.lift (Ax.faddr 0 t68))).bind fun t69 =>
 (guarded [(0,t65)] (some (0,true)) (mload none t69)).bind fun t70 =>
 (guarded [(0,t65)] (some (0,true)) (M.lift (vlen t70))).bind fun t71 =>
 (guarded [(0,t65)] (some (0,true)) (M.lift (Ax.bin .eql t71 (V.int .i64 0)))).bind fun t72 =>
 (M.lift (Ax.pick t65 t72 (V.bool false))).bind fun t73 =>
 M.getH.bind fun h0 =>
 (mstore 16 t6 t60).bind fun _ =>
 M.getH.bind fun h0' =>
 (M.unch t69 h0 h0').bind fun _ =>
 (mload (some 16) t6).bind fun r0 =>
 M.pure (.ret [r0,t73]))
def zlm:Fn':=(T zfh).getD noF
theorem zw8:T zfh = some zlm:=by kernel_rfl
theorem zxJ (G:Sem') (t0 t1 t2:V):execK G zlm.rv zlm.body [] [] (params 0 [t0,t1,t2]) = zrN G t0 t1 t2:=by kernel_rfl
def zmV (G:Sem'):List V → M V
 | [t0,t1,t2]=>fin (zrN G t0 t1 t2)
 | _=>M.fail
theorem zyM {g:Sem'} (hg:Sims g (sem T)) (args:List V):Sim (zmV g args) (sem T zfh args):=by
 unfold zmV;split
 ·exact zae zw8 (Nat.le_of_ble_eq_true (by kernel_rfl)) hg (zxJ g _ _ _)
 ·exact zaa
def zrV (G:Sem') (t15 t2:V) (L:List V):M Res :=
 (M.lift (Ax.bin .lss (L.getD 0 .undef) (V.int .i64 8))).bind fun t17 =>
 M.ite t17
 (M.blk 1 (
 (M.lift (Ax.index 8 1 none t15 (L.getD 0 .undef))).bind fun t19 =>
 (M.lift (eqr .ptr true t19 V.nilp)).bind fun t21 =>
 (guarded [(0,t21)] (some (0,true)) (M.pure t19)).bind fun t23 =>
 (guarded [(0,t21)] (some (0,true)) (G zco [t23])).bind fun t24 =>
 (guarded [(0,t21)] (some (0,true)) (M.pure t2)).bind fun t25 =>
 (guarded [(0,t21)] (some (0,true)) (M.lift (Ax.bin .eql t24 t25))).bind fun t26 =>
 (M.lift (Ax.pick t21 t26 (V.bool false))).bind fun t27 =>
 M.ite t27
 (M.pure (.ret [(L.getD 0 .undef),(V.bool true)]))
 (M.pure (.nrm []))) fun _ =>
 (M.lift (Ax.bin .add (L.getD 0 .undef) (V.int .i64 1))).bind fun t29 =>
 M.pure (.nrm [t29]))
 (M.pure (.ex 0 []))
def znn (G:Sem') (t0 t1 t2:V):M Res :=
 (M.lift (Ax.nilck t0)).bind fun t12 =>
 (M.lift (Ax.faddr 303 t12)).bind fun t13 =>
 (M.lift (Ax.iaddr (some 8) 8 t13 t1)).bind fun t14 =>
 (mload (some 8) t14).bind fun t15 =>
 M.blk 0 (
 M.iter (zrV G t15 t2) [(V.int .i64 0)]) fun _ =>
 M.pure (.ret [(V.int .i64 0),(V.bool false)])
def zid:Fn':=(T zb8).getD noF
theorem zsB:T zb8 = some zid:=by kernel_rfl
theorem ztv (G:Sem') (t0 t1 t2:V):execK G zid.rv zid.body [] [] (params 0 [t0,t1,t2]) = znn G t0 t1 t2:=by kernel_rfl
def zjB (G:Sem'):List V → M V
 | [t0,t1,t2]=>fin (znn G t0 t1 t2)
 | _=>M.fail
theorem zuE {g:Sem'} (hg:Sims g (sem T)) (args:List V):Sim (zjB g args) (sem T zb8 args):=by
 unfold zjB;split
 ·exact zae zsB (Nat.le_of_ble_eq_true (by kernel_rfl)) hg (ztv g _ _ _)
 ·exact zaa
def zrT (G:Sem') (t12 t11 t0 t4:V) (L:List V):M Res :=
 (M.lift (Ax.bin .lss (L.getD 1 .undef) t12)).bind fun t14 =>
 M.ite t14
 (M.blk 1 (
 (M.lift (Ax.iaddr none 1 t11 (L.getD 1 .undef))).bind fun t15 =>
 (mload none t15).bind fun t16 =>
 (M.lift (Ax.nilck t0)).bind fun t19 =>
 (M.lift (Ax.faddr 14 t19)).bind fun t20 =>
 (mload none t20).bind fun t21 =>
 (G zd0 [t21,t16]).bind fun t23 =>
 (M.lift (Ax.ext 0 t23)).bind fun t24 =>
 (M.lift (Ax.ext 1 t23)).bind fun t25 =>
 (guarded [(0,t25)] (some (0,true)) (M.pure (L.getD 0 .undef))).bind fun t28 =>
 (guarded [(0,t25)] (some (0,true)) (M.lift (vlen t28))).bind fun t29 =>
 (guarded [(0,t25)] (some (0,true)) (M.lift (Ax.bin .lss t29 (V.int .i64 64)))).bind fun t30 =>
 (M.lift (Ax.pick t25 t30 (V.bool false))).bind fun t31 =>
 M.join (M.ite t31
 ((mslit zeO 1 [V.nils] [(0,1,t24)]).bind fun t34 =>
 (mappend zeO 1 24 (L.getD 0 .undef) t34).bind fun t35 =>
 M.pure (.nrm [t35]))
 (M.pure (.nrm [(L.getD 0 .undef)]))) fun L0 =>
 M.pure (.nrm [(L0.getD 0 .undef)])) fun L1 =>
 (M.lift (Ax.bin .add (L.getD 1 .undef) (V.int .i64 1))).bind fun t36 =>
 M.pure (.nrm [(L1.getD 0 .undef),t36]))
 (M.pure (.ex 0 [(L.getD 0 .undef)]))
def znl (G:Sem') (t0 t1:V):M Res :=
 (G zhb [t1]).bind fun t11 =>
 (M.lift (vlen t11)).bind fun t12 =>
 M.blk 0 (
 M.iter (zrT G t12 t11 t0 V.nils) [V.nils,(V.int .i64 0)]) fun L2 =>
 M.pure (.ret [(L2.getD 0 .undef)])
def zib:Fn':=(T zdC).getD noF
theorem zsz:T zdC = some zib:=by kernel_rfl
theorem ztt (G:Sem') (t0 t1:V):execK G zib.rv zib.body [] [] (params 0 [t0,t1]) = znl G t0 t1:=by kernel_rfl
def zjz (G:Sem'):List V → M V
 | [t0,t1]=>fin (znl G t0 t1)
 | _=>M.fail
theorem zuC {g:Sem'} (hg:Sims g (sem T)) (args:List V):Sim (zjz g args) (sem T zdC args):=by
 unfold zjz;split
 ·exact zae zsz (Nat.le_of_ble_eq_true (by kernel_rfl)) hg (ztt g _ _)
 ·exact zaa
def zl7 (G:Sem') (t0 t1 t2 t3:V):M Res :=
 (M.lift (Ax.nilck t1)).bind fun t14 =>
 (M.lift (Ax.faddr 303 t14)).bind fun t15 =>
 (M.lift (Ax.iaddr (some 8) 8 t15 t2)).bind fun t16 =>
 (M.lift (Ax.iaddr (some 8) 1 t16 t3)).bind fun t17 =>
 (mload none t17).bind fun t18 =>
 (G zcz [t18]).bind fun t21 =>
 (M.lift (Ax.ext 0 t21)).bind fun t22 =>
 (M.lift (Ax.ext 1 t21)).bind fun t23 =>
 (M.lift (Ax.un .not t23)).bind fun t25 =>
 M.join (M.ite t25
 ((G zdB [t18]).bind fun t28 =>
 (M.lift (Ax.ext 0 t28)).bind fun t29 =>
 (M.lift (Ax.ext 1 t28)).bind fun t30 =>
 M.pure (.nrm [t29,t30]))
 (M.pure (.nrm [t22,t23]))) fun L0 =>
 M.join (M.ite (L0.getD 1 .undef)
 ((G zco [t18]).bind fun t37 =>
 (G zb1 [t0,t1,t3,(L0.getD 0 .undef),t37]).bind fun t38 =>
 M.pure (.nrm []))
 (M.pure (.nrm []))) fun _ =>
 M.pure (.ret [])
def zhA:Fn':=(T zcB).getD noF
theorem zrg:T zcB = some zhA:=by kernel_rfl
theorem zsj (G:Sem') (t0 t1 t2 t3:V):execK G zhA.rv zhA.body [] [] (params 0 [t0,t1,t2,t3]) = zl7 G t0 t1 t2 t3:=by kernel_rfl
def ziN (G:Sem'):List V → M V
 | [t0,t1,t2,t3]=>fin (zl7 G t0 t1 t2 t3)
 | _=>M.fail
theorem zs1 {g:Sem'} (hg:Sims g (sem T)) (args:List V):Sim (ziN g args) (sem T zcB args):=by
 unfold ziN;split
 ·exact zae zrg (Nat.le_of_ble_eq_true (by kernel_rfl)) hg (zsj g _ _ _ _)
 ·exact zaa
def zow (G:Sem') (t0 t1:V):M Res :=
 (M.lift (Ax.nilck t0)).bind fun t9 =>
 (M.lift (Ax.faddr 3 t9)).bind fun t10 =>
 (mload (some 3) t10).bind fun t11 =>
 (G zix [t11,t1]).bind fun t13 =>
 (M.lift (Ax.ext 0 t13)).bind fun t14 =>
 (M.lift (Ax.ext 1 t13)).bind fun t15 =>
 (mbox zea (V.agg [(V.bool false),(V.int .i64 0),(V.int .i64 0)])).bind fun t5 =>
 (mstore 3 t5 t14).bind fun _ =>
 (mload (some 3) t5).bind fun t17 =>
 (M.lift (Ax.nilck t0)).bind fun t18 =>
 (M.lift (Ax.faddr 3 t18)).bind fun t19 =>
 (mstore 3 t19 t17).bind fun _ =>
 M.pure (.ret [t15])
def zjh:Fn':=(T zd3).getD noF
theorem zuo:T zd3 = some zjh:=by kernel_rfl
theorem zu5 (G:Sem') (t0 t1:V):execK G zjh.rv zjh.body [] [] (params 0 [t0,t1]) = zow G t0 t1:=by kernel_rfl
def zkC (G:Sem'):List V → M V
 | [t0,t1]=>fin (zow G t0 t1)
 | _=>M.fail
theorem zvF {g:Sem'} (hg:Sims g (sem T)) (args:List V):Sim (zkC g args) (sem T zd3 args):=by
 unfold zkC;split
 ·exact zae zuo (Nat.le_of_ble_eq_true (by kernel_rfl)) hg (zu5 g _ _)
 ·exact zaa
def zws (G:Sem') (t10 t9 t0 t4:V) (L:List V):M Res :=
 (M.lift (Ax.bin .lss (L.getD 2 .undef) t10)).bind fun t12 =>
 M.ite t12
 (M.blk 1 (
 (M.lift (Ax.iaddr none 1 t9 (L.getD 2 .undef))).bind fun t14 =>
 (mload none t14).bind fun t15 =>
 (M.lift (Ax.bin .lss t15 (V.int .i64 0))).bind fun t17 =>
 M.ite t17
 (M.pure (.ex 1 [(L.getD 0 .undef),(L.getD 1 .undef)]))
 ((M.lift (Ax.bin .lss (L.getD 1 .undef) (V.int .i64 0))).bind fun t19 =>
 M.join (M.ite t19
 (M.pure (.nrm [(L.getD 2 .undef)]))
 (M.pure (.nrm [(L.getD 1 .undef)]))) fun L0 =>
 (M.lift (Ax.cint .u64 t15)).bind fun t22 =>
 (M.lift (Ax.bin .quo t0 (V.int .u64 10000))).bind fun t24 =>
 (M.lift (Ax.bin .leq t22 t24)).bind fun t25 =>
 M.join (M.ite t25
 (M.pure (.nrm [(L.getD 2 .undef)]))
 (M.pure (.nrm [(L.getD 0 .undef)]))) fun L1 =>
 M.pure (.nrm [(L1.getD 0 .undef),(L0.getD 0 .undef)]))) fun L2 =>
 (M.lift (Ax.bin .add (L.getD 2 .undef) (V.int .i64 1))).bind fun t27 =>
 M.pure (.nrm [(L2.getD 0 .undef),(L2.getD 1 .undef),t27]))
 (M.pure (.ex 0 [(L.getD 0 .undef),(L.getD 1 .undef)]))
def zrS (G:Sem') (t0 t1:V):M Res :=
 (M.lift (vlen t1)).bind fun t10 =>
 M.blk 0 (
 M.iter (zws G t10 t1 t0 (V.int .i64 0)) [(V.int .i64 (-1)),(V.int .i64 (-1)),(V.int .i64 0)]) fun L3 =>
 (M.lift (Ax.minmax true (L3.getD 0 .undef) [(L3.getD 1 .undef),(V.int .i64 0)])).bind fun t30 =>
 M.pure (.ret [t30])
def zlr:Fn':=(T zfk).getD noF
theorem zxd:T zfk = some zlr:=by kernel_rfl
theorem zxO (G:Sem') (t0 t1:V):execK G zlr.rv zlr.body [] [] (params 0 [t0,t1]) = zrS G t0 t1:=by kernel_rfl
def zm0 (G:Sem'):List V → M V
 | [t0,t1]=>fin (zrS G t0 t1)
 | _=>M.fail
theorem zyR {g:Sem'} (hg:Sims g (sem T)) (args:List V):Sim (zm0 g args) (sem T zfk args):=by
 unfold zm0;split
 ·exact zae zxd (Nat.le_of_ble_eq_true (by kernel_rfl)) hg (zxO g _ _)
 ·exact zaa
def zl6 (G:Sem') (t0 t1 t2 t3:V):M Res :=
 (M.lift (Ax.nilck t1)).bind fun t14 =>
 (M.lift (Ax.faddr 303 t14)).bind fun t15 =>
 (M.lift (Ax.iaddr (some 8) 8 t15 t2)).bind fun t16 =>
 (M.lift (Ax.iaddr (some 8) 1 t16 t3)).bind fun t17 =>
 (mload none t17).bind fun t18 =>
 (G zcz [t18]).bind fun t19 =>
 (M.lift (Ax.ext 0 t19)).bind fun t20 =>
 (M.lift (Ax.ext 1 t19)).bind fun t21 =>
 M.join (M.ite t21
 ((G zcB [t0,t1,t2,t3]).bind fun t27 =>
 M.pure (.nrm []))
 (M.pure (.nrm []))) fun _ =>
 M.pure (.ret [])
def zhz:Fn':=(T zcA).getD noF
theorem zrf:T zcA = some zhz:=by kernel_rfl
theorem zsi (G:Sem') (t0 t1 t2 t3:V):execK G zhz.rv zhz.body [] [] (params 0 [t0,t1,t2,t3]) = zl6 G t0 t1 t2 t3:=by kernel_rfl
def ziL (G:Sem'):List V → M V
 | [t0,t1,t2,t3]=>fin (zl6 G t0 t1 t2 t3)
 | _=>M.fail
theorem zsZ {g:Sem'} (hg:Sims g (sem T)) (args:List V):Sim (ziL g args) (sem T zcA args):=by
 unfold ziL;split
 ·exact zae zrf (Nat.le_of_ble_eq_true (by kernel_rfl)) hg (zsi g _ _ _ _)
 ·exact zaa
def zl0 (G:Sem') (t0:V):M Res :=
 (M.lift (Ax.bin .geq t0 (V.int .u64 4294967296))).bind fun t4 =>
 M.join (M.ite t4
 ((M.lift (Ax.bin .shr t0 (V.int .u64 32))).bind fun t6 =>
 M.pure (.nrm [t6,(V.int .i64 32)]))
 (M.pure (.nrm [t0,(V.int .i64 0)]))) fun L0 =>
 (M.lift (Ax.bin .geq (L0.getD 0 .undef) (V.int .u64 65536))).bind fun t8 =>
 M.join (M.ite t8
 ((M.lift (Ax.bin .shr (L0.getD 0 .undef) (V.int .u64 16))).bind fun t10 =>
 (M.lift (Ax.bin .add (L0.getD 1 .undef) (V.int .i64 16))).bind fun t12 =>
 M.pure (.nrm [t10,t12]))
 (M.pure (.nrm [(L0.getD 0 .undef),(L0.getD 1 .undef)]))) fun L1 =>
 (M.lift (Ax.bin .geq (L1.getD 0 .undef) (V.int .u64 256))).bind fun t14 =>
 M.join (M.ite t14
 ((M.lift (Ax.bin .shr (L1.getD 0 .undef) (V.int .u64 8))).bind fun t16 =>
 (M.lift (Ax.bin .add (L1.getD 1 .undef) (V.int .i64 8))).bind fun t18 =>
 M.pure (.nrm [t16,t18]))
 (M.pure (.nrm [(L1.getD 0 .undef),(L1.getD 1 .undef)]))) fun L2 =>
 (M.lift (Ax.cint .u8 (L2.getD 0 .undef))).bind fun t21 =>
 (M.lift (Ax.sindex (V.str ⟨#[0,1,2,2,3,3,3,3,4,4,4,4,4,4,4,4,5,5,5,5,5,5,5,5,5,5,5,5,5,5,5,5,6,6,6,6,6,6,6,6,6,6,6,6,6,6,6,6,6,6,6,6,6,6,6,6,6,6,6,6,6,6,6,6,7,7,7,7,7,7,7,7,7,7,7,7,7,7,7,7,7,7,7,7,7,7,7,7,7,7,7,7,7,7,7,7,7,7,7,7,7,7,7,7,7,7,7,7,7,7,7,7,7,7,7,7,7,7,7,7,7,7,7,7,7,7,7,7,8,8,8,8,8,8,8,8,8,8,8,8,8,8,8,8,8,8,8,8,8,8,8,8,8,8,8,8,8,8,8,8,8,8,8,8,8,8,8,8,8,8,8,8,8,8,8,8,8,8,8,8,8,8,8,8,8,8,8,8,8,8,8,8,8,8,8,8,8,8,8,8,8,8,8,8,8,8,8,8,8,8,8,8,8,8,8,8,8,8,8,8,8,8,8,8,8,8,8,8,8,8,8,8,8,8,8,8,8,8,8,8,8,8,8,8,8,8,8,8,8,8,8,8,8,8,8,8]⟩) t21)).bind fun t22 =>
 (M.lift (Ax.cint .i64 t22)).bind fun t23 =>
 (M.lift (Ax.bin .add (L2.getD 1 .undef) t23)).bind fun t24 =>
 M.pure (.ret [t24])
def zht:Fn':=(T zcy).getD noF
theorem zq9:T zcy = some zht:=by kernel_rfl
theorem zsc (G:Sem') (t0:V):execK G zht.rv zht.body [] [] (params 0 [t0]) = zl0 G t0:=by kernel_rfl
def ziD (G:Sem'):List V → M V
 | [t0]=>fin (zl0 G t0)
 | _=>M.fail
theorem zsR {g:Sem'} (hg:Sims g (sem T)) (args:List V):Sim (ziD g args) (sem T zcy args):=by
 unfold ziD;split
 ·exact zae zq9 (Nat.le_of_ble_eq_true (by kernel_rfl)) hg (zsc g _)
 ·exact zaa
def zCO (G:Sem') (t7 t6 t2:V) (L:List V):M Res :=
 (M.lift (Ax.bin .lss (L.getD 1 .undef) t7)).bind fun t9 =>
 M.ite t9
 (M.blk 1 (
 (M.lift (Ax.iaddr none 1 t6 (L.getD 1 .undef))).bind fun t10 =>
 (mload none t10).bind fun t11 =>
 (M.lift (Ax.bin .shl (L.getD 0 .undef) (V.int .u64 8))).bind fun t13 =>
 (M.lift (Ax.cint .u32 t11)).bind fun t15 =>
 (M.lift (Ax.bin .or t13 t15)).bind fun t16 =>
 M.pure (.nrm [t16])) fun L0 =>
 (M.lift (Ax.bin .add (L.getD 1 .undef) (V.int .i64 1))).bind fun t17 =>
 M.pure (.nrm [(L0.getD 0 .undef),t17]))
 (M.pure (.ex 0 [(L.getD 0 .undef)]))
def zBa (G:Sem') (t0:V):M Res :=
 (M.lift (vlen t0)).bind fun t7 =>
 M.blk 0 (
 M.iter (zCO G t7 t0 (V.int .u32 0)) [(V.int .u32 0),(V.int .i64 0)]) fun L1 =>
 M.pure (.ret [(L1.getD 0 .undef)])
def zte:Fn':=(T zex).getD noF
theorem zDT:T zex = some zte:=by kernel_rfl
theorem zEN (G:Sem') (t0:V):execK G zte.rv zte.body [] [] (params 0 [t0]) = zBa G t0:=by kernel_rfl
def zwL (G:Sem'):List V → M V
 | [t0]=>fin (zBa G t0)
 | _=>M.fail
theorem zFH {g:Sem'} (hg:Sims g (sem T)) (args:List V):Sim (zwL g args) (sem T zex args):=by
 unfold zwL;split
 ·exact zae zDT (Nat.le_of_ble_eq_true (by kernel_rfl)) hg (zEN g _)
 ·exact zaa
def zop (G:Sem') (t0 t1:V):M Res :=
 (M.lift (vlen t1)).bind fun t10 =>
 (M.lift (Ax.bin .lss t10 (V.int .i64 4))).bind fun t11 =>
 M.ite t11
 (M.pure (.ret [(V.int .i64 0),(V.int .i64 3)]))
 ((M.lift (zbo .sl 1 t1 (some (V.int .i64 2)) (some (V.int .i64 4)) none)).bind fun t13 =>
 (G zex [t13]).bind fun t14 =>
 (M.lift (Ax.cint .i64 t14)).bind fun t15 =>
 (M.lift (Ax.bin .mul (V.int .i64 4) t15)).bind fun t16 =>
 (M.lift (Ax.bin .add (V.int .i64 4) t16)).bind fun t17 =>
 (M.lift (vlen t1)).bind fun t19 =>
 (M.lift (Ax.bin .lss t19 t17)).bind fun t21 =>
 M.ite t21
 (M.pure (.ret [(V.int .i64 0),(V.int .i64 3)]))
 ((M.lift (zbo .sl 1 t1 none (some (V.int .i64 2)) none)).bind fun t24 =>
 (G zex [t24]).bind fun t25 =>
 (M.lift (Ax.cint .i64 t25)).bind fun t26 =>
 (M.lift (Ax.nilck t0)).bind fun t27 =>
 (M.lift (Ax.faddr 6 t27)).bind fun t28 =>
 (mstore 1 t28 t26).bind fun _ =>
 (M.lift (Ax.nilck t0)).bind fun t30 =>
 (M.lift (Ax.faddr 6 t30)).bind fun t31 =>
 (mload none t31).bind fun t32 =>
 (M.lift (Ax.bin .neq t32 (V.int .i64 48862))).bind fun t33 =>
 (guarded [(0,t33)] (some (0,true)) (M.pure t0)).bind fun t35 =>
 (guarded [(0,t33)] (some (0,true)) (M.lift (Ax.nilck t35))).bind fun t36 =>
 (guarded [(0,t33)] (some (0,true)) (M.lift (Ax.faddr 6 t36))).bind fun t37 =>
 (guarded [(0,t33)] (some (0,true)) (mload none t37)).bind fun t38 =>
 (guarded [(0,t33)] (some (0,true)) (M.lift (Ax.bin .neq t38 (V.int .i64 4096)))).bind fun t39 =>
 (M.lift (Ax.pick t33 t39 (V.bool false))).bind fun t40 =>
 M.ite t40
 (M.pure (.ret [(V.int .i64 0),(V.int .i64 2)]))
 ((M.lift (Ax.nilck t0)).bind fun t43 =>
 (M.lift (Ax.faddr 6 t43)).bind fun t44 =>
 (mload none t44).bind fun t45 =>
 (M.lift (zbo .sl 1 t1 (some (V.int .i64 4)) (some t17) none)).bind fun t48 =>
 (G ziq [t45,t48]).bind fun t49 =>
 (M.lift (Ax.ext 0 t49)).bind fun t50 =>
 (M.lift (Ax.ext 1 t49)).bind fun t51 =>
 (M.lift (Ax.un .not t51)).bind fun t53 =>
 M.ite t53
 (M.pure (.ret [(V.int .i64 0),(V.int .i64 2)]))
 ((M.lift (Ax.nilck t0)).bind fun t56 =>
 (M.lift (Ax.faddr 7 t56)).bind fun t57 =>
 (mstore 1 t57 t50).bind fun _ =>
 M.pure (.ret [t17,(V.int .i64 0)])))))
def zjd:Fn':=(T zdZ).getD noF
theorem zuk:T zdZ = some zjd:=by kernel_rfl
theorem zu1 (G:Sem') (t0 t1:V):execK G zjd.rv zjd.body [] [] (params 0 [t0,t1]) = zop G t0 t1:=by kernel_rfl
def zky (G:Sem'):List V → M V
 | [t0,t1]=>fin (zop G t0 t1)
 | _=>M.fail
theorem zvB {g:Sem'} (hg:Sims g (sem T)) (args:List V):Sim (zky g args) (sem T zdZ args):=by
 unfold zky;split
 ·exact zae zuk (Nat.le_of_ble_eq_true (by kernel_rfl)) hg (zu1 g _ _)
 ·exact zaa
end Go.Ax.Cc
/- CiS6 -/
namespace Go.Ax.Cc
open Go.Proofs
def zrU (G:Sem') (t0:V):M Res :=
 (M.lift (Ax.bin .and t0 (V.int .u8 8))).bind fun t4 =>
 (M.lift (Ax.bin .eql t4 (V.int .u8 0))).bind fun t5 =>
 M.ite t5
 (M.pure (.ret [(V.int .i64 0)]))
 ((M.lift (Ax.bin .and t0 (V.int .u8 7))).bind fun t7 =>
 (M.lift (Ax.cint .i64 t7)).bind fun t8 =>
 (M.lift (Ax.bin .add t8 (V.int .i64 1))).bind fun t9 =>
 M.pure (.ret [t9]))
def zls:Fn':=(T zej).getD noF
theorem zxe:T zej = some zls:=by kernel_rfl
theorem zxP (G:Sem') (t0:V):execK G zls.rv zls.body [] [] (params 0 [t0]) = zrU G t0:=by kernel_rfl
def zm2 (G:Sem'):List V → M V
 | [t0]=>fin (zrU G t0)
 | _=>M.fail
theorem zyT {g:Sem'} (hg:Sims g (sem T)) (args:List V):Sim (zm2 g args) (sem T zej args):=by
 unfold zm2;split
 ·exact zae zxe (Nat.le_of_ble_eq_true (by kernel_rfl)) hg (zxP g _)
 ·exact zaa
def ztj (G:Sem') (t15 t14 t4 t5:V) (L:List V):M Res :=
 (M.lift (Ax.bin .lss (L.getD 1 .undef) t15)).bind fun t17 =>
 M.ite t17
 (M.blk 1 (
 (M.lift (Ax.iaddr none 1 t14 (L.getD 1 .undef))).bind fun t18 =>
 (mload none t18).bind fun t19 =>
 (M.lift (Ax.bin .shl (L.getD 0 .undef) (V.int .u64 8))).bind fun t21 =>
 (M.lift (Ax.cint .u64 t19)).bind fun t23 =>
 (M.lift (Ax.bin .or t21 t23)).bind fun t24 =>
 M.pure (.nrm [t24])) fun L0 =>
 (M.lift (Ax.bin .add (L.getD 1 .undef) (V.int .i64 1))).bind fun t25 =>
 M.pure (.nrm [(L0.getD 0 .undef),t25]))
 (M.pure (.ex 0 [(L.getD 0 .undef)]))
def zox (G:Sem') (t0 t1:V):M Res :=
 (M.lift (Ax.bin .and t0 (V.int .u8 8))).bind fun t10 =>
 (M.lift (Ax.bin .eql t10 (V.int .u8 0))).bind fun t11 =>
 M.ite t11
 ((M.lift (Ax.cint .u64 t0)).bind fun t13 =>
 M.pure (.ret [t13,(V.bool true)]))
 ((M.lift (vlen t1)).bind fun t15 =>
 M.blk 0 (
 M.iter (ztj G t15 t1 (V.int .u64 0) (V.bool false)) [(V.int .u64 0),(V.int .i64 0)]) fun L1 =>
 (M.lift (Ax.iaddr none 1 t1 (V.int .i64 0))).bind fun t28 =>
 (mload none t28).bind fun t29 =>
 (M.lift (Ax.bin .neq t29 (V.int .u8 0))).bind fun t30 =>
 (guarded [(0,t30)] (some (0,true)) (M.pure (L1.getD 0 .undef))).bind fun t32 =>
 (guarded [(0,t30)] (some (0,true)) (M.lift (Ax.bin .geq t32 (V.int .u64 8)))).bind fun t33 =>
 (M.lift (Ax.pick t30 t33 (V.bool false))).bind fun t34 =>
 M.pure (.ret [(L1.getD 0 .undef),t34]))
def zji:Fn':=(T zdl).getD noF
theorem zup:T zdl = some zji:=by kernel_rfl
theorem zu6 (G:Sem') (t0 t1:V):execK G zji.rv zji.body [] [] (params 0 [t0,t1]) = zox G t0 t1:=by kernel_rfl
def zkD (G:Sem'):List V → M V
 | [t0,t1]=>fin (zox G t0 t1)
 | _=>M.fail
theorem zvG {g:Sem'} (hg:Sims g (sem T)) (args:List V):Sim (zkD g args) (sem T zdl args):=by
 unfold zkD;split
 ·exact zae zup (Nat.le_of_ble_eq_true (by kernel_rfl)) hg (zu6 g _ _)
 ·exact zaa
def zDt (G:Sem') (t0 t1:V):M Res :=
 (mbox zbE t0).bind fun t2 =>
 (mbox ze5 t1).bind fun t3 =>
 (M.lift (Ax.faddr 7 t2)).bind fun t5 =>
 (mload none t5).bind fun t6 =>
 (M.pure (.fn zir [t3])).bind fun t7 =>
 (G zaN [t6,t7]).bind fun t8 =>
 M.pure (.ret [t8])
def zv7:Fn':=(T zkj).getD noF
theorem zFl:T zkj = some zv7:=by kernel_rfl
theorem zGv (G:Sem') (t0 t1:V):execK G zv7.rv zv7.body [] [] (params 0 [t0,t1]) = zDt G t0 t1:=by kernel_rfl
def zzM (G:Sem'):List V → M V
 | [t0,t1]=>fin (zDt G t0 t1)
 | _=>M.fail
theorem s_rtp_at {g:Sem'} (hg:Sims g (sem T)) (args:List V):Sim (zzM g args) (sem T zkj args):=by
 unfold zzM;split
 ·exact zae zFl (Nat.le_of_ble_eq_true (by kernel_rfl)) hg (zGv g _ _)
 ·exact zaa
def zwy (G:Sem') (t0:V):M Res :=
 (mappend zaj 1 1 V.nils t0).bind fun t4 =>
 (M.lift (Ax.build [V.nils,(V.int .i64 0)] [(0,1,t4)])).bind fun t5 =>
 (mbox zw4 t5).bind fun t6 =>
 M.pure (.ret [t6])
def zol:Fn':=(T zhj).getD noF
theorem zAh:T zhj = some zol:=by kernel_rfl
theorem zBC (G:Sem') (t0:V):execK G zol.rv zol.body [] [] (params 0 [t0]) = zwy G t0:=by kernel_rfl
def zq2 (G:Sem'):List V → M V
 | [t0]=>fin (zwy G t0)
 | _=>M.fail
theorem zCv {g:Sem'} (hg:Sims g (sem T)) (args:List V):Sim (zq2 g args) (sem T zhj args):=by
 unfold zq2;split
 ·exact zae zAh (Nat.le_of_ble_eq_true (by kernel_rfl)) hg (zBC g _)
 ·exact zaa
def zkv (G:Sem') (t0:V):M Res :=
 (G zao [t0,(V.int .i64 1)]).bind fun t4 =>
 (M.lift (Ax.bin .eql t4 (V.int .i64 1))).bind fun t5 =>
 M.pure (.ret [t5])
def zgr:Fn':=(T zaD).getD noF
theorem zpr:T zaD = some zgr:=by kernel_rfl
theorem zpI (G:Sem') (t0:V):execK G zgr.rv zgr.body [] [] (params 0 [t0]) = zkv G t0:=by kernel_rfl
def zg3 (G:Sem'):List V → M V
 | [t0]=>fin (zkv G t0)
 | _=>M.fail
theorem zqb {g:Sem'} (hg:Sims g (sem T)) (args:List V):Sim (zg3 g args) (sem T zaD args):=by
 unfold zg3;split
 ·exact zae zpr (Nat.le_of_ble_eq_true (by kernel_rfl)) hg (zpI g _)
 ·exact zaa
def zku (G:Sem') (t0 t1:V):M Res :=
 (M.lift (Ax.nilck t0)).bind fun t8 =>
 (M.lift (Ax.faddr 1 t8)).bind fun t9 =>
 (mload none t9).bind fun t10 =>
 (M.lift (Ax.bin .neq t10 (V.int .i64 0))).bind fun t11 =>
 M.ite t11
 (M.pure (.ret [(V.int .i64 0)]))
 ((M.lift (Ax.nilck t0)).bind fun t14 =>
 (M.lift (Ax.faddr 0 t14)).bind fun t15 =>
 (mload none t15).bind fun t16 =>
 (G zb3 [t16,t1]).bind fun t18 =>
 (M.lift (Ax.ext 0 t18)).bind fun t19 =>
 (M.lift (Ax.ext 1 t18)).bind fun t20 =>
 (M.lift (Ax.nilck t0)).bind fun t23 =>
 (M.lift (Ax.faddr 1 t23)).bind fun t24 =>
 (mstore 1 t24 t20).bind fun _ =>
 (M.lift (Ax.cint .i64 t19)).bind fun t26 =>
 M.pure (.ret [t26]))
def zgq:Fn':=(T zao).getD noF
theorem zpq:T zao = some zgq:=by kernel_rfl
theorem zpH (G:Sem') (t0 t1:V):execK G zgq.rv zgq.body [] [] (params 0 [t0,t1]) = zku G t0 t1:=by kernel_rfl
def zg2 (G:Sem'):List V → M V
 | [t0,t1]=>fin (zku G t0 t1)
 | _=>M.fail
theorem zqa {g:Sem'} (hg:Sims g (sem T)) (args:List V):Sim (zg2 g args) (sem T zao args):=by
 unfold zg2;split
 ·exact zae zpq (Nat.le_of_ble_eq_true (by kernel_rfl)) hg (zpH g _ _)
 ·exact zaa
def zks (G:Sem') (t18 t0 t3 t2:V) (L:List V):M Res :=
 (M.lift (Ax.bin .lss (L.getD 0 .undef) t18)).bind fun t20 =>
 M.ite t20
 (M.blk 1 (
 (M.lift (Ax.faddr 2 t3)).bind fun t22 =>
 (mload none t22).bind fun t23 =>
 (M.lift (Ax.faddr 1 t3)).bind fun t26 =>
 (mload none t26).bind fun t27 =>
 M.getH.bind fun h0 =>
 (G zbs [t0,t27,(V.int .i64 2)]).bind fun t28 =>
 M.getH.bind fun h0' =>
 (M.unch t22 h0 h0').bind fun _ =>
 (M.lift (Ax.iaddr none 5 t23 (L.getD 0 .undef))).bind fun t29 =>
 (M.lift (Ax.faddr 2 t29)).bind fun t30 =>
 (mstore 1 t30 t28).bind fun _ =>
 M.pure (.nrm [])) fun _ =>
 (M.lift (Ax.bin .add (L.getD 0 .undef) (V.int .i64 1))).bind fun t31 =>
 M.pure (.nrm [t31]))
 (M.pure (.ex 0 []))
def zkr (G:Sem') (t34 t3 t0 t2:V) (L:List V):M Res :=
 (M.lift (Ax.bin .lss (L.getD 0 .undef) t34)).bind fun t36 =>
 M.ite t36
 (M.blk 3 (
 (M.lift (Ax.faddr 2 t3)).bind fun t38 =>
 (mload none t38).bind fun t39 =>
 M.getH.bind fun h1 =>
 (G zcd [t0]).bind fun t42 =>
 M.getH.bind fun h1' =>
 (M.unch t38 h1 h1').bind fun _ =>
 (M.lift (Ax.iaddr none 5 t39 (L.getD 0 .undef))).bind fun t43 =>
 (M.lift (Ax.faddr 3 t43)).bind fun t44 =>
 (mstore 1 t44 t42).bind fun _ =>
 M.pure (.nrm [])) fun _ =>
 (M.lift (Ax.bin .add (L.getD 0 .undef) (V.int .i64 1))).bind fun t45 =>
 M.pure (.nrm [t45]))
 (M.pure (.ex 2 []))
def zkq (G:Sem') (t56 t0 t3 t2:V) (L:List V):M Res :=
 (M.lift (Ax.bin .lss (L.getD 0 .undef) t56)).bind fun t58 =>
 M.ite t58
 (M.blk 5 (
 (M.lift (Ax.faddr 4 t3)).bind fun t59 =>
 (mload none t59).bind fun t60 =>
 (M.lift (Ax.faddr 3 t3)).bind fun t62 =>
 (mload none t62).bind fun t63 =>
 M.getH.bind fun h2 =>
 (G zcj [t0,t63]).bind fun t64 =>
 M.getH.bind fun h2' =>
 (M.unch t59 h2 h2').bind fun _ =>
 (mslit ze5 1 [(V.int .i64 0)] [(0,1,t64)]).bind fun t65 =>
 (mappend ze5 1 8 t60 t65).bind fun t66 =>
 (M.lift (Ax.faddr 4 t3)).bind fun t67 =>
 (mstore 1 t67 t66).bind fun _ =>
 M.pure (.nrm [])) fun _ =>
 (M.lift (Ax.bin .add (L.getD 0 .undef) (V.int .i64 1))).bind fun t68 =>
 M.pure (.nrm [t68]))
 (M.pure (.ex 4 []))
def zkp (G:Sem') (t71 t0 t3 t2:V) (L:List V):M Res :=
 (M.lift (Ax.bin .lss (L.getD 0 .undef) t71)).bind fun t73 =>
 M.ite t73
 (M.blk 7 (
 (M.lift (Ax.faddr 2 t3)).bind fun t75 =>
 (mload none t75).bind fun t76 =>
 (M.lift (Ax.faddr 3 t3)).bind fun t79 =>
 (mload none t79).bind fun t80 =>
 M.getH.bind fun h3 =>
 (G zbs [t0,t80,(V.int .i64 4)]).bind fun t81 =>
 M.getH.bind fun h3' =>
 (M.unch t75 h3 h3').bind fun _ =>
 (M.lift (Ax.iaddr none 5 t76 (L.getD 0 .undef))).bind fun t82 =>
 (M.lift (Ax.faddr 4 t82)).bind fun t83 =>
 (mstore 1 t83 t81).bind fun _ =>
 M.pure (.nrm [])) fun _ =>
 (M.lift (Ax.bin .add (L.getD 0 .undef) (V.int .i64 1))).bind fun t84 =>
 M.pure (.nrm [t84]))
 (M.pure (.ex 6 []))
def zko (G:Sem') (t88 t0 t3 t2:V) (L:List V):M Res :=
 (M.lift (Ax.bin .lss (L.getD 0 .undef) t88)).bind fun t90 =>
 M.ite t90
 (M.blk 9 (
 (M.lift (Ax.faddr 5 t3)).bind fun t91 =>
 (mload none t91).bind fun t92 =>
 M.getH.bind fun h4 =>
 (G zao [t0,(V.int .i64 16)]).bind fun t94 =>
 M.getH.bind fun h4' =>
 (M.unch t91 h4 h4').bind fun _ =>
 M.getH.bind fun h5 =>
 (G zao [t0,(V.int .i64 16)]).bind fun t97 =>
 M.getH.bind fun h5' =>
 (M.unch t91 h5 h5').bind fun _ =>
 (M.lift (Ax.bin .add t94 (V.int .i64 1))).bind fun t95 =>
 (M.lift (Ax.bin .add t97 (V.int .i64 1))).bind fun t98 =>
 (M.lift (Ax.build [(V.int .i64 0),(V.int .i64 0)] [(0,1,t95),(1,1,t98)])).bind fun t99 =>
 (mslit zyp 1 [(V.int .i64 0),(V.int .i64 0)] [(0,2,t99)]).bind fun t100 =>
 (mappend zyp 2 16 t92 t100).bind fun t101 =>
 (M.lift (Ax.faddr 5 t3)).bind fun t102 =>
 (mstore 1 t102 t101).bind fun _ =>
 M.pure (.nrm [])) fun _ =>
 (M.lift (Ax.bin .add (L.getD 0 .undef) (V.int .i64 1))).bind fun t103 =>
 M.pure (.nrm [t103]))
 (M.pure (.ex 8 []))
def zgG (G:Sem') (t0:V):M Res :=
 (mbox zap (V.agg [(V.int .i64 0),(V.int .i64 0),V.nils,(V.int .i64 0),V.nils,V.nils])).bind fun t2 =>
 (G zao [t0,(V.int .i64 6)]).bind fun t8 =>
 (G zao [t0,(V.int .i64 5)]).bind fun t10 =>
 (M.lift (Ax.bin .add t10 (V.int .i64 1))).bind fun t11 =>
 (M.lift (Ax.build [(V.int .i64 0),(V.int .i64 0),V.nils,(V.int .i64 0),V.nils,V.nils] [(0,1,t8),(1,1,t11)])).bind fun t12 =>
 (mbox zap (V.agg [(V.int .i64 0),(V.int .i64 0),V.nils,(V.int .i64 0),V.nils,V.nils])).bind fun t3 =>
 (mstore 6 t3 t12).bind fun _ =>
 (G zbC [t0]).bind fun t14 =>
 (M.lift (Ax.faddr 2 t3)).bind fun t15 =>
 (mstore 1 t15 t14).bind fun _ =>
 (M.lift (Ax.faddr 2 t3)).bind fun t16 =>
 (mload none t16).bind fun t17 =>
 (M.lift (vlen t17)).bind fun t18 =>
 M.blk 0 (
 M.iter (zks G t18 t0 t3 t2) [(V.int .i64 0)]) fun _ =>
 (M.lift (Ax.faddr 2 t3)).bind fun t32 =>
 (mload none t32).bind fun t33 =>
 (M.lift (vlen t33)).bind fun t34 =>
 M.blk 2 (
 M.iter (zkr G t34 t3 t0 t2) [(V.int .i64 0)]) fun _ =>
 (M.lift (Ax.faddr 1 t3)).bind fun t47 =>
 (mload none t47).bind fun t48 =>
 (M.lift (Ax.bin .add t48 (V.int .i64 1))).bind fun t49 =>
 (G zcj [t0,t49]).bind fun t50 =>
 (M.lift (Ax.faddr 3 t3)).bind fun t51 =>
 (mstore 1 t51 t50).bind fun _ =>
 (M.lift (Ax.faddr 3 t3)).bind fun t52 =>
 (mload none t52).bind fun t53 =>
 (M.lift (Ax.bin .gtr t53 (V.int .i64 0))).bind fun t54 =>
 M.join (M.ite t54
 ((M.lift (Ax.faddr 1 t3)).bind fun t55 =>
 (mload none t55).bind fun t56 =>
 M.blk 4 (
 M.iter (zkq G t56 t0 t3 t2) [(V.int .i64 0)]) fun _ =>
 (M.lift (Ax.faddr 2 t3)).bind fun t69 =>
 (mload none t69).bind fun t70 =>
 (M.lift (vlen t70)).bind fun t71 =>
 M.blk 6 (
 M.iter (zkp G t71 t0 t3 t2) [(V.int .i64 0)]) fun _ =>
 M.pure (.nrm []))
 (M.pure (.nrm []))) fun _ =>
 (G zaD [t0]).bind fun t86 =>
 M.join (M.ite t86
 ((mload (some 6) t3).bind fun t87 =>
 (G zcZ [t87]).bind fun t88 =>
 M.blk 8 (
 M.iter (zko G t88 t0 t3 t2) [(V.int .i64 0)]) fun _ =>
 M.pure (.nrm []))
 (M.pure (.nrm []))) fun _ =>
 (mload (some 6) t3).bind fun t104 =>
 (mstore 6 t2 t104).bind fun _ =>
 (mload (some 6) t2).bind fun r0 =>
 M.pure (.ret [r0])
def zdV:Fn':=(T zbD).getD noF
theorem zkO:T zbD = some zdV:=by kernel_rfl
theorem zkW (G:Sem') (t0:V):execK G zdV.rv zdV.body [] [] (params 0 [t0]) = zgG G t0:=by kernel_rfl
def zem (G:Sem'):List V → M V
 | [t0]=>fin (zgG G t0)
 | _=>M.fail
theorem zlf {g:Sem'} (hg:Sims g (sem T)) (args:List V):Sim (zem g args) (sem T zbD args):=by
 unfold zem;split
 ·exact zae zkO (Nat.le_of_ble_eq_true (by kernel_rfl)) hg (zkW g _)
 ·exact zaa
def zww (G:Sem') (t70 t69:V) (L:List V):M Res :=
 (M.lift (Ax.bin .lss (L.getD 0 .undef) t70)).bind fun t72 =>
 M.ite t72
 (M.blk 1 (
 (M.lift (Ax.iaddr none 2 t69 (L.getD 0 .undef))).bind fun t73 =>
 (mload (some 2) t73).bind fun t74 =>
 (mbox zyp (V.agg [(V.int .i64 0),(V.int .i64 0)])).bind fun t6 =>
 (mstore 2 t6 t74).bind fun _ =>
 (M.lift (zbo (.arr 2) 1 t6 none none none)).bind fun t75 =>
 (G zbv [t75,(V.int .i64 2),(V.int .i64 1),(V.int .i64 65536)]).bind fun t76 =>
 (M.lift (Ax.un .not t76)).bind fun t77 =>
 M.ite t77
 (M.pure (.ret [(V.bool false)]))
 (M.pure (.nrm []))) fun _ =>
 (M.lift (Ax.bin .add (L.getD 0 .undef) (V.int .i64 1))).bind fun t78 =>
 M.pure (.nrm [t78]))
 (M.pure (.ex 0 []))
def zr7 (G:Sem') (t0:V):M Res :=
 (mbox zap t0).bind fun t1 =>
 (M.lift (Ax.faddr 1 t1)).bind fun t7 =>
 (mload none t7).bind fun t8 =>
 (M.lift (Ax.faddr 3 t1)).bind fun t9 =>
 (mload none t9).bind fun t10 =>
 (M.lift (Ax.bin .eql t10 (V.int .i64 0))).bind fun t11 =>
 M.join (M.ite t11
 (M.pure (.nrm [(V.int .i64 0)]))
 (M.pure (.nrm [t8]))) fun L0 =>
 (M.lift (Ax.faddr 0 t1)).bind fun t12 =>
 (mload none t12).bind fun t13 =>
 (M.lift (Ax.bin .lss t13 (V.int .i64 0))).bind fun t14 =>
 (guarded [(0,t14)] (some (0,false)) (M.lift (Ax.faddr 0 t1))).bind fun t16 =>
 (guarded [(0,t14)] (some (0,false)) (mload none t16)).bind fun t17 =>
 (guarded [(0,t14)] (some (0,false)) (M.lift (Ax.bin .geq t17 (V.int .i64 64)))).bind fun t18 =>
 (M.lift (Ax.pick t14 (V.bool true) t18)).bind fun t19 =>
 (guarded [(0,t19)] (some (0,false)) (M.lift (Ax.faddr 1 t1))).bind fun t21 =>
 (guarded [(0,t19)] (some (0,false)) (mload none t21)).bind fun t22 =>
 (guarded [(0,t19)] (some (0,false)) (M.lift (Ax.bin .lss t22 (V.int .i64 1)))).bind fun t23 =>
 (M.lift (Ax.pick t19 (V.bool true) t23)).bind fun t24 =>
 (guarded [(0,t24)] (some (0,false)) (M.lift (Ax.faddr 1 t1))).bind fun t26 =>
 (guarded [(0,t24)] (some (0,false)) (mload none t26)).bind fun t27 =>
 (guarded [(0,t24)] (some (0,false)) (M.lift (Ax.bin .gtr t27 (V.int .i64 32)))).bind fun t28 =>
 (M.lift (Ax.pick t24 (V.bool true) t28)).bind fun t29 =>
 (guarded [(0,t29)] (some (0,false)) (M.lift (Ax.faddr 3 t1))).bind fun t31 =>
 (guarded [(0,t29)] (some (0,false)) (mload none t31)).bind fun t32 =>
 (guarded [(0,t29)] (some (0,false)) (M.lift (Ax.bin .lss t32 (V.int .i64 0)))).bind fun t33 =>
 (M.lift (Ax.pick t29 (V.bool true) t33)).bind fun t34 =>
 (guarded [(0,t34)] (some (0,false)) (M.lift (Ax.faddr 3 t1))).bind fun t36 =>
 (guarded [(0,t34)] (some (0,false)) (mload none t36)).bind fun t37 =>
 (guarded [(0,t34)] (some (0,false)) (M.lift (Ax.faddr 1 t1))).bind fun t38 =>
 (guarded [(0,t34)] (some (0,false)) (mload none t38)).bind fun t39 =>
 (guarded [(0,t34)] (some (0,false)) (M.lift (Ax.bin .gtr t37 t39))).bind fun t40 =>
 (M.lift (Ax.pick t34 (V.bool true) t40)).bind fun t41 =>
 (guarded [(0,t41)] (some (0,false)) (M.lift (Ax.faddr 4 t1))).bind fun t43 =>
 (guarded [(0,t41)] (some (0,false)) (mload none t43)).bind fun t44 =>
 (guarded [(0,t41)] (some (0,false)) (M.pure (L0.getD 0 .undef))).bind fun t45 =>
 (guarded [(0,t41)] (some (0,false)) (M.lift (Ax.faddr 3 t1))).bind fun t46 =>
 (guarded [(0,t41)] (some (0,false)) (mload none t46)).bind fun t47 =>
 (guarded [(0,t41)] (some (0,false)) (M.lift (Ax.bin .sub t47 (V.int .i64 1)))).bind fun t48 =>
 (guarded [(0,t41)] (some (0,false)) (G zbv [t44,t45,(V.int .i64 0),t48])).bind fun t49 =>
 (guarded [(0,t41)] (some (0,false)) (M.lift (Ax.un .not t49))).bind fun t50 =>
 (M.lift (Ax.pick t41 (V.bool true) t50)).bind fun t51 =>
 (guarded [(0,t51)] (some (0,false)) (mload (some 6) t1)).bind fun t53 =>
 (guarded [(0,t51)] (some (0,false)) (G zd4 [t53])).bind fun t54 =>
 (guarded [(0,t51)] (some (0,false)) (M.lift (Ax.un .not t54))).bind fun t55 =>
 (M.lift (Ax.pick t51 (V.bool true) t55)).bind fun t56 =>
 M.ite t56
 (M.pure (.ret [(V.bool false)]))
 ((M.lift (Ax.faddr 5 t1)).bind fun t57 =>
 (mload none t57).bind fun t58 =>
 (M.lift (vlen t58)).bind fun t59 =>
 (M.lift (Ax.bin .neq t59 (V.int .i64 0))).bind fun t61 =>
 (guarded [(0,t61)] (some (0,true)) (M.pure t59)).bind fun t63 =>
 (guarded [(0,t61)] (some (0,true)) (mload (some 6) t1)).bind fun t64 =>
 (guarded [(0,t61)] (some (0,true)) (G zcZ [t64])).bind fun t65 =>
 (guarded [(0,t61)] (some (0,true)) (M.lift (Ax.bin .neq t63 t65))).bind fun t66 =>
 (M.lift (Ax.pick t61 t66 (V.bool false))).bind fun t67 =>
 M.ite t67
 (M.pure (.ret [(V.bool false)]))
 ((M.lift (Ax.faddr 5 t1)).bind fun t68 =>
 (mload none t68).bind fun t69 =>
 (M.lift (vlen t69)).bind fun t70 =>
 M.blk 0 (
 M.iter (zww G t70 t69) [(V.int .i64 0)]) fun _ =>
 (M.lift (Ax.faddr 2 t1)).bind fun t79 =>
 (mload none t79).bind fun t80 =>
 (M.pure (.fn zd8 [t1])).bind fun t81 =>
 (G zal [t80,t81]).bind fun t82 =>
 (M.lift (Ax.un .not t82)).bind fun t83 =>
 M.pure (.ret [t83])))
def zlx:Fn':=(T zc3).getD noF
theorem zxi:T zc3 = some zlx:=by kernel_rfl
theorem zxT (G:Sem') (t0:V):execK G zlx.rv zlx.body [] [] (params 0 [t0]) = zr7 G t0:=by kernel_rfl
def zm7 (G:Sem'):List V → M V
 | [t0]=>fin (zr7 G t0)
 | _=>M.fail
theorem zyY {g:Sem'} (hg:Sims g (sem T)) (args:List V):Sim (zm7 g args) (sem T zc3 args):=by
 unfold zm7;split
 ·exact zae zxi (Nat.le_of_ble_eq_true (by kernel_rfl)) hg (zxT g _)
 ·exact zaa
def zpT (G:Sem') (t0 t1:V):M Res :=
 (mbox zce t0).bind fun t2 =>
 (mbox zap t1).bind fun t3 =>
 (mbox zap (V.agg [(V.int .i64 0),(V.int .i64 0),V.nils,(V.int .i64 0),V.nils,V.nils])).bind fun t4 =>
 (M.lift (Ax.faddr 4 t2)).bind fun t5 =>
 (mload none t5).bind fun t6 =>
 M.ite t6
 ((M.lift (Ax.faddr 5 t2)).bind fun t7 =>
 (mload (some 6) t7).bind fun t8 =>
 (mstore 6 t4 t8).bind fun _ =>
 (mload (some 6) t4).bind fun r0 =>
 M.pure (.ret [r0]))
 ((mload (some 6) t3).bind fun t9 =>
 (mstore 6 t4 t9).bind fun _ =>
 (mload (some 6) t4).bind fun r0 =>
 M.pure (.ret [r0]))
def zkg:Fn':=(T zc6).getD noF
theorem zvv:T zc6 = some zkg:=by kernel_rfl
theorem zwE (G:Sem') (t0 t1:V):execK G zkg.rv zkg.body [] [] (params 0 [t0,t1]) = zpT G t0 t1:=by kernel_rfl
def zlL (G:Sem'):List V → M V
 | [t0,t1]=>fin (zpT G t0 t1)
 | _=>M.fail
theorem zxu {g:Sem'} (hg:Sims g (sem T)) (args:List V):Sim (zlL g args) (sem T zc6 args):=by
 unfold zlL;split
 ·exact zae zvv (Nat.le_of_ble_eq_true (by kernel_rfl)) hg (zwE g _ _)
 ·exact zaa
def zmc (G:Sem') (t0 t1:V):M Res :=
 (mbox zap t0).bind fun t2 =>
 (mbox zaw (V.agg [(V.int .i64 0),(V.int .i64 0),V.nils,V.nils,V.nils])).bind fun t4 =>
 (M.lift (Ax.bin .lss t1 (V.int .i64 0))).bind fun t8 =>
 (guarded [(0,t8)] (some (0,false)) (M.pure t1)).bind fun t10 =>
 (guarded [(0,t8)] (some (0,false)) (M.lift (Ax.bin .geq t10 (V.int .i64 64)))).bind fun t11 =>
 (M.lift (Ax.pick t8 (V.bool true) t11)).bind fun t12 =>
 M.ite t12
 ((M.lift (Ax.build [(V.int .i64 0),(V.int .i64 0),V.nils,V.nils,V.nils] [])).bind fun t13 =>
 (mstore 5 t4 t13).bind fun _ =>
 (mload (some 5) t4).bind fun r0 =>
 M.pure (.ret [r0,(V.bool false)]))
 ((M.lift (Ax.bin .add t1 (V.int .i64 64))).bind fun t15 =>
 (M.lift (Ax.faddr 0 t2)).bind fun t16 =>
 (mload none t16).bind fun t17 =>
 (M.lift (Ax.bin .sub t15 t17)).bind fun t18 =>
 (M.lift (Ax.bin .rem t18 (V.int .i64 64))).bind fun t19 =>
 (M.lift (Ax.faddr 2 t2)).bind fun t21 =>
 (mload none t21).bind fun t22 =>
 (M.lift (vlen t22)).bind fun t23 =>
 (M.lift (Ax.bin .geq t19 t23)).bind fun t24 =>
 M.ite t24
 ((M.lift (Ax.build [(V.int .i64 0),(V.int .i64 0),V.nils,V.nils,V.nils] [])).bind fun t25 =>
 (mstore 5 t4 t25).bind fun _ =>
 (mload (some 5) t4).bind fun r0 =>
 M.pure (.ret [r0,(V.bool false)]))
 ((M.lift (Ax.faddr 2 t2)).bind fun t26 =>
 (mload none t26).bind fun t27 =>
 (M.lift (Ax.iaddr none 5 t27 t19)).bind fun t29 =>
 (mload (some 5) t29).bind fun t30 =>
 (G zd5 [t30]).bind fun t31 =>
 (mstore 5 t4 t31).bind fun _ =>
 (mload (some 5) t4).bind fun r0 =>
 M.pure (.ret [r0,(V.bool true)])))
def zhF:Fn':=(T zcC).getD noF
theorem zrl:T zcC = some zhF:=by kernel_rfl
theorem zso (G:Sem') (t0 t1:V):execK G zhF.rv zhF.body [] [] (params 0 [t0,t1]) = zmc G t0 t1:=by kernel_rfl
def ziS (G:Sem'):List V → M V
 | [t0,t1]=>fin (zmc G t0 t1)
 | _=>M.fail
theorem zs6 {g:Sem'} (hg:Sims g (sem T)) (args:List V):Sim (ziS g args) (sem T zcC args):=by
 unfold ziS;split
 ·exact zae zrl (Nat.le_of_ble_eq_true (by kernel_rfl)) hg (zso g _ _)
 ·exact zaa
def zjW (G:Sem') (t0 t1:V):M Res :=
 (M.lift (Ax.nilck t0)).bind fun t5 =>
 (M.lift (Ax.faddr 1 t5)).bind fun t6 =>
 (mload none t6).bind fun t7 =>
 (M.lift (Ax.bin .eql t7 (V.int .i64 0))).bind fun t8 =>
 M.join (M.ite t8
 ((M.lift (Ax.nilck t0)).bind fun t11 =>
 (M.lift (Ax.faddr 1 t11)).bind fun t12 =>
 (mstore 1 t12 t1).bind fun _ =>
 M.pure (.nrm []))
 (M.pure (.nrm []))) fun _ =>
 M.pure (.ret [])
def zfN:Fn':=(T za7).getD noF
theorem znR:T za7 = some zfN:=by kernel_rfl
theorem zoN (G:Sem') (t0 t1:V):execK G zfN.rv zfN.body [] [] (params 0 [t0,t1]) = zjW G t0 t1:=by kernel_rfl
def zgy (G:Sem'):List V → M V
 | [t0,t1]=>fin (zjW G t0 t1)
 | _=>M.fail
theorem zpy {g:Sem'} (hg:Sims g (sem T)) (args:List V):Sim (zgy g args) (sem T za7 args):=by
 unfold zgy;split
 ·exact zae znR (Nat.le_of_ble_eq_true (by kernel_rfl)) hg (zoN g _ _)
 ·exact zaa
def znJ (G:Sem') (t8 t0 t2 t6:V) (L:List V):M Res :=
 (M.lift (Ax.bin .lss (L.getD 1 .undef) t8)).bind fun t10 =>
 M.ite t10
 (M.blk 1 (
 (G zao [t0,t2]).bind fun t14 =>
 (mslit ze5 1 [(V.int .i64 0)] [(0,1,t14)]).bind fun t15 =>
 (mappend ze5 1 8 (L.getD 0 .undef) t15).bind fun t16 =>
 M.pure (.nrm [t16])) fun L0 =>
 (M.lift (Ax.bin .add (L.getD 1 .undef) (V.int .i64 1))).bind fun t17 =>
 M.pure (.nrm [(L0.getD 0 .undef),t17]))
 (M.pure (.ex 0 [(L.getD 0 .undef)]))
def zjV (G:Sem') (t0 t1 t2:V):M Res :=
 M.blk 0 (
 M.iter (znJ G t1 t0 t2 V.nils) [V.nils,(V.int .i64 0)]) fun L1 =>
 M.pure (.ret [(L1.getD 0 .undef)])
def zfM:Fn':=(T zbs).getD noF
theorem znQ:T zbs = some zfM:=by kernel_rfl
theorem zoM (G:Sem') (t0 t1 t2:V):execK G zfM.rv zfM.body [] [] (params 0 [t0,t1,t2]) = zjV G t0 t1 t2:=by kernel_rfl
def zgx (G:Sem'):List V → M V
 | [t0,t1,t2]=>fin (zjV G t0 t1 t2)
 | _=>M.fail
theorem zpx {g:Sem'} (hg:Sims g (sem T)) (args:List V):Sim (zgx g args) (sem T zbs args):=by
 unfold zgx;split
 ·exact zae znQ (Nat.le_of_ble_eq_true (by kernel_rfl)) hg (zoM g _ _ _)
 ·exact zaa
def zoD (G:Sem') (t0:V) (L:List V):M Res :=
 (M.lift (Ax.bin .gtr (L.getD 1 .undef) (V.int .i64 0))).bind fun t8 =>
 M.ite t8
 (M.blk 1 (
 (M.lift (vlen (L.getD 0 .undef))).bind fun t12 =>
 (M.lift (Ax.bin .geq t12 (V.int .i64 16))).bind fun t13 =>
 M.ite t13
 ((G za7 [t0,(V.int .i64 4)]).bind fun t15 =>
 M.pure (.ret [V.nils]))
 ((M.lift (Ax.bin .mul (V.int .i64 4) (L.getD 1 .undef))).bind fun t19 =>
 (G zao [t0,t19]).bind fun t20 =>
 (M.lift (Ax.bin .add t20 (V.int .i64 1))).bind fun t21 =>
 (mslit ze5 1 [(V.int .i64 0)] [(0,1,t21)]).bind fun t22 =>
 (mappend ze5 1 8 (L.getD 0 .undef) t22).bind fun t23 =>
 M.pure (.nrm [t23]))) fun L0 =>
 (G zao [t0,(V.int .i64 2)]).bind fun t10 =>
 M.pure (.nrm [(L0.getD 0 .undef),t10]))
 (M.pure (.ex 0 [(L.getD 0 .undef)]))
def zkt (G:Sem') (t0:V):M Res :=
 (G zao [t0,(V.int .i64 2)]).bind fun t6 =>
 M.blk 0 (
 M.iter (zoD G t0) [V.nils,t6]) fun L1 =>
 M.pure (.ret [(L1.getD 0 .undef)])
def zgp:Fn':=(T zcI).getD noF
theorem zpp:T zcI = some zgp:=by kernel_rfl
theorem zpG (G:Sem') (t0:V):execK G zgp.rv zgp.body [] [] (params 0 [t0]) = zkt G t0:=by kernel_rfl
def zg1 (G:Sem'):List V → M V
 | [t0]=>fin (zkt G t0)
 | _=>M.fail
theorem zp9 {g:Sem'} (hg:Sims g (sem T)) (args:List V):Sim (zg1 g args) (sem T zcI args):=by
 unfold zg1;split
 ·exact zae zpp (Nat.le_of_ble_eq_true (by kernel_rfl)) hg (zpG g _)
 ·exact zaa
def zk7 (G:Sem') (t0:V):M Res :=
 (M.lift (Ax.nilck t0)).bind fun t4 =>
 (M.lift (Ax.faddr 0 t4)).bind fun t5 =>
 (mload none t5).bind fun t6 =>
 (M.lift (vlen t6)).bind fun t7 =>
 (M.lift (Ax.bin .mul (V.int .i64 8) t7)).bind fun t8 =>
 (M.lift (Ax.nilck t0)).bind fun t10 =>
 (M.lift (Ax.faddr 1 t10)).bind fun t11 =>
 (mload none t11).bind fun t12 =>
 (M.lift (Ax.bin .sub t8 t12)).bind fun t13 =>
 M.pure (.ret [t13])
def zgS:Fn':=(T zck).getD noF
theorem zp4:T zck = some zgS:=by kernel_rfl
theorem zqE (G:Sem') (t0:V):execK G zgS.rv zgS.body [] [] (params 0 [t0]) = zk7 G t0:=by kernel_rfl
def zhQ (G:Sem'):List V → M V
 | [t0]=>fin (zk7 G t0)
 | _=>M.fail
theorem zrt {g:Sem'} (hg:Sims g (sem T)) (args:List V):Sim (zhQ g args) (sem T zck args):=by
 unfold zhQ;split
 ·exact zae zp4 (Nat.le_of_ble_eq_true (by kernel_rfl)) hg (zqE g _)
 ·exact zaa
def zeD (G:Sem') (t0 t1:V):M Res :=
 (G zbk [t0,t1]).bind fun t7 =>
 (M.lift (Ax.bin .geq t7 (V.int .i64 0))).bind fun t8 =>
 M.pure (.ret [t8])
def zcM:Fn':=(T zaV).getD noF
theorem zhR:T zaV = some zcM:=by kernel_rfl
theorem zhV (G:Sem') (t0 t1:V):execK G zcM.rv zcM.body [] [] (params 0 [t0,t1]) = zeD G t0 t1:=by kernel_rfl
def zc0 (G:Sem'):List V → M V
 | [t0,t1]=>fin (zeD G t0 t1)
 | _=>M.fail
theorem zh5 {g:Sem'} (hg:Sims g (sem T)) (args:List V):Sim (zc0 g args) (sem T zaV args):=by
 unfold zc0;split
 ·exact zae zhR (Nat.le_of_ble_eq_true (by kernel_rfl)) hg (zhV g _ _)
 ·exact zaa
def zfD (G:Sem') (t0:V):M Res :=
 (M.lift (eqr .sl false t0 V.nils)).bind fun t4 =>
 M.ite t4
 (M.pure (.ret [V.nils]))
 ((mslit zfG 0 [(V.int .u16 0)] []).bind fun t5 =>
 (mappend zfG 1 2 t5 t0).bind fun t7 =>
 M.pure (.ret [t7]))
def zdk:Fn':=(T zbm).getD noF
theorem zi9:T zbm = some zdk:=by kernel_rfl
theorem zjt (G:Sem') (t0:V):execK G zdk.rv zdk.body [] [] (params 0 [t0]) = zfD G t0:=by kernel_rfl
def zdv (G:Sem'):List V → M V
 | [t0]=>fin (zfD G t0)
 | _=>M.fail
theorem zj1 {g:Sem'} (hg:Sims g (sem T)) (args:List V):Sim (zdv g args) (sem T zbm args):=by
 unfold zdv;split
 ·exact zae zi9 (Nat.le_of_ble_eq_true (by kernel_rfl)) hg (zjt g _)
 ·exact zaa
def zhT (G:Sem') (t0:V) (L:List V):M Res :=
 (M.lift (Ax.bin .lss (L.getD 0 .undef) (L.getD 1 .undef))).bind fun t9 =>
 M.ite t9
 (M.blk 1 (
 (M.lift (Ax.iaddr none 1 t0 (L.getD 1 .undef))).bind fun t20 =>
 (mload none t20).bind fun t21 =>
 (M.lift (Ax.iaddr none 1 t0 (L.getD 0 .undef))).bind fun t24 =>
 (mload none t24).bind fun t25 =>
 (M.lift (Ax.iaddr none 1 t0 (L.getD 0 .undef))).bind fun t26 =>
 (mstore 1 t26 t21).bind fun _ =>
 (M.lift (Ax.iaddr none 1 t0 (L.getD 1 .undef))).bind fun t27 =>
 (mstore 1 t27 t25).bind fun _ =>
 M.pure (.nrm [])) fun _ =>
 (M.lift (Ax.bin .add (L.getD 0 .undef) (V.int .i64 1))).bind fun t11 =>
 (M.lift (Ax.bin .sub (L.getD 1 .undef) (V.int .i64 1))).bind fun t13 =>
 M.pure (.nrm [t11,t13]))
 (M.pure (.ex 0 []))
def zeM (G:Sem') (t0:V):M Res :=
 (M.lift (vlen t0)).bind fun t5 =>
 (M.lift (Ax.bin .sub t5 (V.int .i64 1))).bind fun t6 =>
 M.blk 0 (
 M.iter (zhT G t0) [(V.int .i64 0),t6]) fun _ =>
 M.pure (.ret [])
def zcP:Fn':=(T za9).getD noF
theorem zh2:T za9 = some zcP:=by kernel_rfl
theorem ziy (G:Sem') (t0:V):execK G zcP.rv zcP.body [] [] (params 0 [t0]) = zeM G t0:=by kernel_rfl
def zc7 (G:Sem'):List V → M V
 | [t0]=>fin (zeM G t0)
 | _=>M.fail
theorem zi0 {g:Sem'} (hg:Sims g (sem T)) (args:List V):Sim (zc7 g args) (sem T za9 args):=by
 unfold zc7;split
 ·exact zae zh2 (Nat.le_of_ble_eq_true (by kernel_rfl)) hg (ziy g _)
 ·exact zaa
def zzm (G:Sem') (t26 t25 t2 t3:V) (L:List V):M Res :=
 (M.lift (Ax.bin .lss (L.getD 1 .undef) t26)).bind fun t28 =>
 M.ite t28
 (M.blk 1 (
 (M.lift (Ax.iaddr none 1 t25 (L.getD 1 .undef))).bind fun t29 =>
 (mload none t29).bind fun t30 =>
 (G zew [(L.getD 0 .undef),t30,(V.int .i64 4)]).bind fun t33 =>
 M.pure (.nrm [t33])) fun L0 =>
 (M.lift (Ax.bin .add (L.getD 1 .undef) (V.int .i64 1))).bind fun t34 =>
 M.pure (.nrm [(L0.getD 0 .undef),t34]))
 (M.pure (.ex 0 [(L.getD 0 .undef)]))
def zwe (G:Sem') (t0:V):M Res :=
 (mbox zbE t0).bind fun t1 =>
 (mload (some 10) t1).bind fun t8 =>
 (G zis [t8]).bind fun t9 =>
 (M.lift (Ax.un .not t9)).bind fun t10 =>
 M.ite t10
 (M.pure (.ret [V.nils,(V.int .i64 1)]))
 ((mload (some 10) t1).bind fun t11 =>
 (M.lift (Ax.faddr 2 t1)).bind fun t13 =>
 (mload none t13).bind fun t14 =>
 (M.lift (Ax.cint .u32 t14)).bind fun t15 =>
 M.getH.bind fun h0 =>
 (G zg6 [t11]).bind fun t12 =>
 M.getH.bind fun h0' =>
 (M.unch t13 h0 h0').bind fun _ =>
 (G zew [t12,t15,(V.int .i64 2)]).bind fun t16 =>
 (M.lift (Ax.faddr 3 t1)).bind fun t18 =>
 (mload none t18).bind fun t19 =>
 (M.lift (Ax.faddr 4 t1)).bind fun t21 =>
 (mload none t21).bind fun t22 =>
 M.getH.bind fun h1 =>
 (G zew [t16,t19,(V.int .i64 4)]).bind fun t20 =>
 M.getH.bind fun h1' =>
 (M.unch t21 h1 h1').bind fun _ =>
 (G zew [t20,t22,(V.int .i64 4)]).bind fun t23 =>
 (M.lift (Ax.faddr 5 t1)).bind fun t24 =>
 (mload none t24).bind fun t25 =>
 (M.lift (vlen t25)).bind fun t26 =>
 M.blk 0 (
 M.iter (zzm G t26 t25 V.nils (V.int .i64 0)) [t23,(V.int .i64 0)]) fun L1 =>
 (M.lift (Ax.faddr 6 t1)).bind fun t35 =>
 (mload none t35).bind fun t36 =>
 (M.lift (Ax.bin .neq t36 (V.int .i64 0))).bind fun t37 =>
 M.join (M.ite t37
 ((mload (some 10) t1).bind fun t38 =>
 (G zey [t38]).bind fun t39 =>
 (M.lift (Ax.faddr 6 t1)).bind fun t41 =>
 (mload none t41).bind fun t42 =>
 (M.lift (Ax.cint .u32 t42)).bind fun t43 =>
 (G zew [(L1.getD 0 .undef),t43,(V.int .i64 2)]).bind fun t44 =>
 (M.lift (vlen t39)).bind fun t46 =>
 (M.lift (Ax.bin .quo t46 (V.int .i64 4))).bind fun t47 =>
 (M.lift (Ax.cint .u32 t47)).bind fun t48 =>
 (G zew [t44,t48,(V.int .i64 2)]).bind fun t49 =>
 (mappend zaj 1 1 t49 t39).bind fun t52 =>
 M.pure (.nrm [t52]))
 (M.pure (.nrm [(L1.getD 0 .undef)]))) fun L2 =>
 (M.lift (vlen (L2.getD 0 .undef))).bind fun t54 =>
 (M.lift (Ax.faddr 9 t1)).bind fun t55 =>
 (mload none t55).bind fun t56 =>
 (M.lift (vlen t56)).bind fun t57 =>
 (M.lift (Ax.bin .add t54 t57)).bind fun t58 =>
 (M.lift (Ax.faddr 8 t1)).bind fun t59 =>
 (mload none t59).bind fun t60 =>
 (M.lift (Ax.bin .add t58 t60)).bind fun t61 =>
 (M.lift (Ax.bin .gtr t61 (V.int .i64 1200))).bind fun t62 =>
 M.ite t62
 (M.pure (.ret [V.nils,(V.int .i64 4)]))
 ((M.lift (Ax.faddr 9 t1)).bind fun t64 =>
 (mload none t64).bind fun t65 =>
 (mappend zaj 1 1 (L2.getD 0 .undef) t65).bind fun t66 =>
 (M.lift (Ax.faddr 8 t1)).bind fun t67 =>
 (mload none t67).bind fun t68 =>
 (M.lift (Ax.bin .gtr t68 (V.int .i64 0))).bind fun t69 =>
 M.join (M.ite t69
 ((M.lift (Ax.faddr 8 t1)).bind fun t71 =>
 (mload none t71).bind fun t72 =>
 (mappendz zaj 1 [(V.int .u8 0)] t66 t72).bind fun t73 =>
 (M.lift (vlen t73)).bind fun t76 =>
 (M.lift (Ax.bin .sub t76 (V.int .i64 1))).bind fun t77 =>
 (M.lift (Ax.faddr 8 t1)).bind fun t78 =>
 (mload none t78).bind fun t79 =>
 (M.lift (Ax.cint .u8 t79)).bind fun t80 =>
 (M.lift (Ax.iaddr none 1 t73 t77)).bind fun t81 =>
 (mstore 1 t81 t80).bind fun _ =>
 M.pure (.nrm [t73]))
 (M.pure (.nrm [t66]))) fun L3 =>
 M.pure (.ret [(L3.getD 0 .undef),(V.int .i64 0)])))
def zn5:Fn':=(T zfP).getD noF
theorem zz1:T zfP = some zn5:=by kernel_rfl
theorem zBm (G:Sem') (t0:V):execK G zn5.rv zn5.body [] [] (params 0 [t0]) = zwe G t0:=by kernel_rfl
def zqI (G:Sem'):List V → M V
 | [t0]=>fin (zwe G t0)
 | _=>M.fail
theorem zCb {g:Sem'} (hg:Sims g (sem T)) (args:List V):Sim (zqI g args) (sem T zfP args):=by
 unfold zqI;split
 ·exact zae zz1 (Nat.le_of_ble_eq_true (by kernel_rfl)) hg (zBm g _)
 ·exact zaa
def zr6 (G:Sem') (t0 t1:V):M Res :=
 (mbox zce t0).bind fun t2 =>
 (mbox zap t1).bind fun t3 =>
 (mload (some 19) t2).bind fun t9 =>
 (mload (some 6) t3).bind fun t10 =>
 (G zhi [t9,t10]).bind fun t11 =>
 (M.lift (Ax.ext 0 t11)).bind fun t12 =>
 (M.lift (Ax.ext 1 t11)).bind fun t13 =>
 (mbox zaw (V.agg [(V.int .i64 0),(V.int .i64 0),V.nils,V.nils,V.nils])).bind fun t5 =>
 (mstore 5 t5 t12).bind fun _ =>
 (mload (some 19) t2).bind fun t14 =>
 (mload (some 6) t3).bind fun t15 =>
 (G zc6 [t14,t15]).bind fun t16 =>
 (mbox zap (V.agg [(V.int .i64 0),(V.int .i64 0),V.nils,(V.int .i64 0),V.nils,V.nils])).bind fun t7 =>
 (mstore 6 t7 t16).bind fun _ =>
 M.blk 0 (
 (M.lift (Ax.un .not t13)).bind fun t19 =>
 (guarded [(0,t19)] (some (0,false)) (M.lift (Ax.faddr 4 t2))).bind fun t21 =>
 (guarded [(0,t19)] (some (0,false)) (mload none t21)).bind fun t22 =>
 (guarded [(0,t19)] (some (0,false)) (M.lift (Ax.un .not t22))).bind fun t23 =>
 (guarded [(0,t19)] (some (0,false)) (M.pure t23)).bind fun t24 =>
 (guarded [(0,t24)] (some (0,true)) (M.lift (Ax.faddr 5 t2))).bind fun t25 =>
 (guarded [(0,t24)] (some (0,true)) (mload (some 6) t25)).bind fun t26 =>
 (guarded [(0,t24)] (some (0,true)) (G zfl [t26])).bind fun t27 =>
 (guarded [(0,t24)] (some (0,true)) (M.lift (Ax.un .not t27))).bind fun t28 =>
 (guarded [(0,t19)] (some (0,false)) (M.lift (Ax.pick t24 t28 (V.bool false)))).bind fun t29 =>
 (M.lift (Ax.pick t19 (V.bool true) t29)).bind fun t30 =>
 M.ite t30
 (M.pure (.ret [(V.bool false)]))
 ((M.lift (Ax.faddr 11 t2)).bind fun t32 =>
 (mload none t32).bind fun t33 =>
 (M.lift (Ax.un .not t33)).bind fun t34 =>
 (guarded [(0,t34)] (some (0,true)) (M.lift (Ax.faddr 12 t2))).bind fun t36 =>
 (guarded [(0,t34)] (some (0,true)) (mload none t36)).bind fun t37 =>
 (guarded [(0,t34)] (some (0,true)) (M.lift (Ax.bin .neq t37 (V.int .u32 0)))).bind fun t38 =>
 (M.lift (Ax.pick t34 t38 (V.bool false))).bind fun t39 =>
 (guarded [(0,t39)] (some (0,false)) (M.lift (Ax.faddr 12 t2))).bind fun t41 =>
 (guarded [(0,t39)] (some (0,false)) (mload none t41)).bind fun t42 =>
 (guarded [(0,t39)] (some (0,false)) (M.lift (Ax.cint .u64 t42))).bind fun t43 =>
 (guarded [(0,t39)] (some (0,false)) (M.lift (Ax.faddr 1 t7))).bind fun t44 =>
 (guarded [(0,t39)] (some (0,false)) (mload none t44)).bind fun t45 =>
 (guarded [(0,t39)] (some (0,false)) (M.lift (Ax.bin .shr t43 t45))).bind fun t46 =>
 (guarded [(0,t39)] (some (0,false)) (M.lift (Ax.bin .neq t46 (V.int .u64 0)))).bind fun t47 =>
 (M.lift (Ax.pick t39 (V.bool true) t47)).bind fun t48 =>
 M.ite t48
 (M.pure (.ret [(V.bool false)]))
 ((M.lift (Ax.faddr 13 t2)).bind fun t50 =>
 (mload none t50).bind fun t51 =>
 (guarded [(0,t51)] (some (0,true)) (M.lift (Ax.faddr 16 t2))).bind fun t53 =>
 (guarded [(0,t51)] (some (0,true)) (mload none t53)).bind fun t54 =>
 (guarded [(0,t51)] (some (0,true)) (M.lift (Ax.faddr 1 t7))).bind fun t55 =>
 (guarded [(0,t51)] (some (0,true)) (mload none t55)).bind fun t56 =>
 (guarded [(0,t51)] (some (0,true)) (G zbv [t54,t56,(V.int .i64 0),(V.int .i64 3)])).bind fun t57 =>
 (guarded [(0,t51)] (some (0,true)) (M.lift (Ax.un .not t57))).bind fun t58 =>
 (M.lift (Ax.pick t51 t58 (V.bool false))).bind fun t59 =>
 (guarded [(0,t59)] (some (0,false)) (M.lift (Ax.faddr 13 t2))).bind fun t61 =>
 (guarded [(0,t59)] (some (0,false)) (mload none t61)).bind fun t62 =>
 (guarded [(0,t59)] (some (0,false)) (M.lift (Ax.un .not t62))).bind fun t63 =>
 (guarded [(0,t59)] (some (0,false)) (M.pure t63)).bind fun t64 =>
 (guarded [(0,t64)] (some (0,true)) (M.lift (Ax.faddr 16 t2))).bind fun t65 =>
 (guarded [(0,t64)] (some (0,true)) (mload none t65)).bind fun t66 =>
 (guarded [(0,t64)] (some (0,true)) (M.lift (Ax.faddr 2 t5))).bind fun t67 =>
 (guarded [(0,t64)] (some (0,true)) (mload none t67)).bind fun t68 =>
 (guarded [(0,t64)] (some (0,true)) (G zbp [t66,t68])).bind fun t69 =>
 (guarded [(0,t64)] (some (0,true)) (M.lift (Ax.un .not t69))).bind fun t70 =>
 (guarded [(0,t59)] (some (0,false)) (M.lift (Ax.pick t64 t70 (V.bool false)))).bind fun t71 =>
 (M.lift (Ax.pick t59 (V.bool true) t71)).bind fun t72 =>
 M.ite t72
 (M.pure (.ret [(V.bool false)]))
 ((M.lift (Ax.faddr 14 t2)).bind fun t74 =>
 (mload none t74).bind fun t75 =>
 (guarded [(0,t75)] (some (0,true)) (M.lift (Ax.faddr 17 t2))).bind fun t77 =>
 (guarded [(0,t75)] (some (0,true)) (mload none t77)).bind fun t78 =>
 (guarded [(0,t75)] (some (0,true)) (G zdM [t78,(V.int .i64 16),(V.int .i64 4096)])).bind fun t79 =>
 (guarded [(0,t75)] (some (0,true)) (M.lift (Ax.un .not t79))).bind fun t80 =>
 (M.lift (Ax.pick t75 t80 (V.bool false))).bind fun t81 =>
 (guarded [(0,t81)] (some (0,false)) (M.lift (Ax.faddr 14 t2))).bind fun t83 =>
 (guarded [(0,t81)] (some (0,false)) (mload none t83)).bind fun t84 =>
 (guarded [(0,t81)] (some (0,false)) (M.lift (Ax.un .not t84))).bind fun t85 =>
 (guarded [(0,t81)] (some (0,false)) (M.pure t85)).bind fun t86 =>
 (guarded [(0,t86)] (some (0,true)) (M.lift (Ax.faddr 17 t2))).bind fun t87 =>
 (guarded [(0,t86)] (some (0,true)) (mload none t87)).bind fun t88 =>
 (guarded [(0,t86)] (some (0,true)) (M.lift (Ax.faddr 3 t5))).bind fun t89 =>
 (guarded [(0,t86)] (some (0,true)) (mload none t89)).bind fun t90 =>
 (guarded [(0,t86)] (some (0,true)) (G zbp [t88,t90])).bind fun t91 =>
 (guarded [(0,t86)] (some (0,true)) (M.lift (Ax.un .not t91))).bind fun t92 =>
 (guarded [(0,t81)] (some (0,false)) (M.lift (Ax.pick t86 t92 (V.bool false)))).bind fun t93 =>
 (M.lift (Ax.pick t81 (V.bool true) t93)).bind fun t94 =>
 M.ite t94
 (M.pure (.ret [(V.bool false)]))
 (M.pure (.nrm [])))))) fun _ =>
 (M.lift (Ax.faddr 15 t2)).bind fun t95 =>
 (mload none t95).bind fun t96 =>
 M.ite t96
 ((M.lift (Ax.faddr 18 t2)).bind fun t97 =>
 (mload none t97).bind fun t98 =>
 (M.lift (Ax.faddr 3 t7)).bind fun t99 =>
 (mload none t99).bind fun t100 =>
 (G zbv [t98,t100,(V.int .i64 0),(V.int .i64 255)]).bind fun t101 =>
 M.pure (.ret [t101]))
 ((M.lift (Ax.faddr 18 t2)).bind fun t102 =>
 (mload none t102).bind fun t103 =>
 (M.lift (Ax.faddr 4 t5)).bind fun t104 =>
 (mload none t104).bind fun t105 =>
 (G zbp [t103,t105]).bind fun t106 =>
 M.pure (.ret [t106]))
def zlw:Fn':=(T zfn).getD noF
theorem zxh:T zfn = some zlw:=by kernel_rfl
theorem zxS (G:Sem') (t0 t1:V):execK G zlw.rv zlw.body [] [] (params 0 [t0,t1]) = zr6 G t0 t1:=by kernel_rfl
def zm6 (G:Sem'):List V → M V
 | [t0,t1]=>fin (zr6 G t0 t1)
 | _=>M.fail
theorem zyX {g:Sem'} (hg:Sims g (sem T)) (args:List V):Sim (zm6 g args) (sem T zfn args):=by
 unfold zm6;split
 ·exact zae zxh (Nat.le_of_ble_eq_true (by kernel_rfl)) hg (zxS g _ _)
 ·exact zaa
def zk1 (G:Sem') (t0 t1 t2 t3 t4:V):M Res :=
 (mbox zbE t2).bind fun t7 =>
 (mbox zce t3).bind fun t8 =>
 (M.lift (Ax.faddr 4 t8)).bind fun t15 =>
 (mload none t15).bind fun t16 =>
 (guarded [(0,t16)] (some (0,true)) (M.lift (Ax.faddr 0 t8))).bind fun t18 =>
 (guarded [(0,t16)] (some (0,true)) (mload none t18)).bind fun t19 =>
 (M.lift (Ax.pick t16 t19 (V.bool false))).bind fun t20 =>
 (M.lift (Ax.nilck t0)).bind fun t23 =>
 (M.lift (Ax.faddr 3 t23)).bind fun t24 =>
 (mload (some 3) t24).bind fun t25 =>
 (G zj6 [t25,t1,t20]).bind fun t28 =>
 (M.lift (Ax.ext 0 t28)).bind fun t29 =>
 (M.lift (Ax.ext 1 t28)).bind fun t30 =>
 (M.lift (Ax.ext 2 t28)).bind fun t31 =>
 (mbox zea (V.agg [(V.bool false),(V.int .i64 0),(V.int .i64 0)])).bind fun t12 =>
 (mstore 3 t12 t29).bind fun _ =>
 (mload (some 3) t12).bind fun t33 =>
 (M.lift (Ax.nilck t0)).bind fun t34 =>
 (M.lift (Ax.faddr 3 t34)).bind fun t35 =>
 (mstore 3 t35 t33).bind fun _ =>
 (guarded [(0,t30)] (some (0,true)) (M.pure t20)).bind fun t38 =>
 (M.lift (Ax.pick t30 t38 (V.bool false))).bind fun t39 =>
 M.join (M.ite t39
 ((G zda [t0]).bind fun t41 =>
 M.pure (.nrm []))
 (M.pure (.nrm []))) fun _ =>
 M.join (M.ite t31
 ((M.lift (Ax.nilck t0)).bind fun t45 =>
 (M.lift (Ax.faddr 6 t45)).bind fun t46 =>
 (mload (some 7) t46).bind fun t47 =>
 (M.lift (Ax.faddr 3 t7)).bind fun t48 =>
 (mload none t48).bind fun t49 =>
 (M.lift (Ax.faddr 3 t8)).bind fun t50 =>
 (mload none t50).bind fun t51 =>
 (G zf2 [t47,t49,t51,t4]).bind fun t53 =>
 (M.lift (Ax.nilck t0)).bind fun t54 =>
 (M.lift (Ax.faddr 6 t54)).bind fun t55 =>
 (mstore 7 t55 t53).bind fun _ =>
 M.pure (.nrm []))
 (M.pure (.nrm []))) fun _ =>
 M.pure (.ret [t30])
def zgM:Fn':=(T zcR).getD noF
theorem zpY:T zcR = some zgM:=by kernel_rfl
theorem zqy (G:Sem') (t0 t1 t2 t3 t4:V):execK G zgM.rv zgM.body [] [] (params 0 [t0,t1,t2,t3,t4]) = zk1 G t0 t1 t2 t3 t4:=by kernel_rfl
def zhK (G:Sem'):List V → M V
 | [t0,t1,t2,t3,t4]=>fin (zk1 G t0 t1 t2 t3 t4)
 | _=>M.fail
theorem zrn {g:Sem'} (hg:Sims g (sem T)) (args:List V):Sim (zhK g args) (sem T zcR args):=by
 unfold zhK;split
 ·exact zae zpY (Nat.le_of_ble_eq_true (by kernel_rfl)) hg (zqy g _ _ _ _ _)
 ·exact zaa
def zov (G:Sem') (t0 t1 t2 t3:V):M Res :=
 (mbox zce t1).bind fun t5 =>
 (mbox zap t2).bind fun t6 =>
 (M.lift (Ax.nilck t0)).bind fun t12 =>
 (M.lift (Ax.faddr 15 t12)).bind fun t13 =>
 (mload none t13).bind fun t14 =>
 M.ite t14
 (M.pure (.ret [(V.int .i64 2)]))
 ((mload (some 6) t6).bind fun t16 =>
 (M.lift (Ax.nilck t0)).bind fun t19 =>
 (M.lift (Ax.faddr 1 t19)).bind fun t20 =>
 (mload none t20).bind fun t21 =>
 (M.lift (Ax.nilck t0)).bind fun t23 =>
 (M.lift (Ax.faddr 2 t23)).bind fun t24 =>
 (mload none t24).bind fun t25 =>
 (G zhg [t16,t3,t21,t25]).bind fun t26 =>
 (M.lift (Ax.ext 0 t26)).bind fun t27 =>
 (M.lift (Ax.ext 1 t26)).bind fun t28 =>
 M.blk 0 (
 (M.lift (Ax.un .not t28)).bind fun t31 =>
 M.ite t31
 (M.pure (.ret [(V.int .i64 3)]))
 ((mload (some 19) t5).bind fun t33 =>
 (G zj5 [t33,t27]).bind fun t35 =>
 (M.lift (Ax.un .not t35)).bind fun t36 =>
 M.ite t36
 (M.pure (.ret [(V.int .i64 4)]))
 ((M.lift (Ax.faddr 0 t5)).bind fun t38 =>
 (mload none t38).bind fun t39 =>
 (guarded [(0,t39)] (some (0,true)) (M.pure t0)).bind fun t41 =>
 (guarded [(0,t39)] (some (0,true)) (M.lift (Ax.nilck t41))).bind fun t42 =>
 (guarded [(0,t39)] (some (0,true)) (M.lift (Ax.faddr 13 t42))).bind fun t43 =>
 (guarded [(0,t39)] (some (0,true)) (mload none t43)).bind fun t44 =>
 (guarded [(0,t39)] (some (0,true)) (M.lift (Ax.faddr 3 t5))).bind fun t45 =>
 (guarded [(0,t39)] (some (0,true)) (mload none t45)).bind fun t46 =>
 (guarded [(0,t39)] (some (0,true)) (M.lift (Ax.faddr 17 t5))).bind fun t47 =>
 (guarded [(0,t39)] (some (0,true)) (mload none t47)).bind fun t48 =>
 (guarded [(0,t39)] (some (0,true)) (G ziv [t44,t46,t48])).bind fun t49 =>
 (guarded [(0,t39)] (some (0,true)) (M.lift (Ax.un .not t49))).bind fun t50 =>
 (M.lift (Ax.pick t39 t50 (V.bool false))).bind fun t51 =>
 M.ite t51
 ((M.lift (Ax.nilck t0)).bind fun t53 =>
 (M.lift (Ax.faddr 15 t53)).bind fun t54 =>
 (mstore 1 t54 (V.bool true)).bind fun _ =>
 M.pure (.ret [(V.int .i64 5)]))
 ((M.lift (Ax.faddr 0 t5)).bind fun t56 =>
 (mload none t56).bind fun t57 =>
 (M.lift (Ax.un .not t57)).bind fun t58 =>
 (guarded [(0,t58)] (some (0,true)) (M.pure t0)).bind fun t60 =>
 (guarded [(0,t58)] (some (0,true)) (M.lift (Ax.nilck t60))).bind fun t61 =>
 (guarded [(0,t58)] (some (0,true)) (M.lift (Ax.faddr 13 t61))).bind fun t62 =>
 (guarded [(0,t58)] (some (0,true)) (mload none t62)).bind fun t63 =>
 (guarded [(0,t58)] (some (0,true)) (M.lift (Ax.faddr 3 t5))).bind fun t64 =>
 (guarded [(0,t58)] (some (0,true)) (mload none t64)).bind fun t65 =>
 (guarded [(0,t58)] (some (0,true)) (G zfT [t63,t65])).bind fun t66 =>
 (guarded [(0,t58)] (some (0,true)) (M.lift (Ax.un .not t66))).bind fun t67 =>
 (M.lift (Ax.pick t58 t67 (V.bool false))).bind fun t68 =>
 M.ite t68
 (M.pure (.ret [(V.int .i64 6)]))
 (M.pure (.nrm [])))))) fun _ =>
 M.pure (.ret [(V.int .i64 0)]))
def zjg:Fn':=(T zd2).getD noF
theorem zun:T zd2 = some zjg:=by kernel_rfl
theorem zu4 (G:Sem') (t0 t1 t2 t3:V):execK G zjg.rv zjg.body [] [] (params 0 [t0,t1,t2,t3]) = zov G t0 t1 t2 t3:=by kernel_rfl
def zkB (G:Sem'):List V → M V
 | [t0,t1,t2,t3]=>fin (zov G t0 t1 t2 t3)
 | _=>M.fail
theorem zvE {g:Sem'} (hg:Sims g (sem T)) (args:List V):Sim (zkB g args) (sem T zd2 args):=by
 unfold zkB;split
 ·exact zae zun (Nat.le_of_ble_eq_true (by kernel_rfl)) hg (zu4 g _ _ _ _)
 ·exact zaa
def zx7 (G:Sem') (t0 t1 t2 t3:V):M Res :=
 (mbox ziW t0).bind fun t4 =>
 (mbox ziW (V.agg [(V.bool false),(V.int .u16 0),(V.int .u32 0),(V.int .u32 0),(V.int .u16 0),(V.int .u16 0),(V.int .i64 0)])).bind fun t8 =>
 (M.lift (Ax.faddr 0 t4)).bind fun t14 =>
 (mload none t14).bind fun t15 =>
 M.join (M.ite t15
 ((M.lift (Ax.faddr 1 t4)).bind fun t16 =>
 (mload none t16).bind fun t17 =>
 (M.lift (Ax.bin .add t17 (V.int .u16 1))).bind fun t18 =>
 M.pure (.nrm [t18]))
 (M.pure (.nrm [(V.int .u16 0)]))) fun L0 =>
 (M.lift (Ax.faddr 3 t4)).bind fun t20 =>
 (mload none t20).bind fun t21 =>
 (M.lift (Ax.bin .add t1 t21)).bind fun t22 =>
 (M.lift (Ax.faddr 5 t4)).bind fun t24 =>
 (mload none t24).bind fun t25 =>
 (M.lift (Ax.bin .add t2 t25)).bind fun t26 =>
 (M.lift (Ax.faddr 2 t4)).bind fun t28 =>
 (mload none t28).bind fun t29 =>
 (M.lift (Ax.bin .sub t22 t29)).bind fun t30 =>
 (M.lift (Ax.faddr 0 t4)).bind fun t31 =>
 (mload none t31).bind fun t32 =>
 (M.lift (Ax.un .not t32)).bind fun t33 =>
 (guarded [(0,t33)] (some (0,false)) (M.pure t30)).bind fun t35 =>
 (guarded [(0,t33)] (some (0,false)) (M.lift (Ax.bin .geq t35 (V.int .u32 1)))).bind fun t36 =>
 (guarded [(0,t33)] (some (0,false)) (M.pure t36)).bind fun t37 =>
 (guarded [(0,t37)] (some (0,true)) (M.pure t30)).bind fun t38 =>
 (guarded [(0,t37)] (some (0,true)) (M.lift (Ax.bin .lss t38 (V.int .u32 2147483648)))).bind fun t39 =>
 (guarded [(0,t33)] (some (0,false)) (M.lift (Ax.pick t37 t39 (V.bool false)))).bind fun t40 =>
 (M.lift (Ax.pick t33 (V.bool true) t40)).bind fun t41 =>
 M.join (M.ite t41
 ((M.lift (Ax.faddr 2 t4)).bind fun t43 =>
 (mstore 1 t43 t22).bind fun _ =>
 M.pure (.nrm []))
 (M.pure (.nrm []))) fun _ =>
 (M.lift (Ax.faddr 4 t4)).bind fun t45 =>
 (mload none t45).bind fun t46 =>
 (M.lift (Ax.bin .sub t26 t46)).bind fun t47 =>
 (M.lift (Ax.faddr 0 t4)).bind fun t48 =>
 (mload none t48).bind fun t49 =>
 (M.lift (Ax.un .not t49)).bind fun t50 =>
 (guarded [(0,t50)] (some (0,false)) (M.pure t47)).bind fun t52 =>
 (guarded [(0,t50)] (some (0,false)) (M.lift (Ax.bin .geq t52 (V.int .u16 1)))).bind fun t53 =>
 (guarded [(0,t50)] (some (0,false)) (M.pure t53)).bind fun t54 =>
 (guarded [(0,t54)] (some (0,true)) (M.pure t47)).bind fun t55 =>
 (guarded [(0,t54)] (some (0,true)) (M.lift (Ax.bin .lss t55 (V.int .u16 32768)))).bind fun t56 =>
 (guarded [(0,t50)] (some (0,false)) (M.lift (Ax.pick t54 t56 (V.bool false)))).bind fun t57 =>
 (M.lift (Ax.pick t50 (V.bool true) t57)).bind fun t58 =>
 M.join (M.ite t58
 ((M.lift (Ax.faddr 4 t4)).bind fun t60 =>
 (mstore 1 t60 t26).bind fun _ =>
 M.pure (.nrm []))
 (M.pure (.nrm []))) fun _ =>
 (M.lift (Ax.faddr 0 t4)).bind fun t63 =>
 (mstore 1 t63 (V.bool true)).bind fun _ =>
 (M.lift (Ax.faddr 1 t4)).bind fun t64 =>
 (mstore 1 t64 (L0.getD 0 .undef)).bind fun _ =>
 (M.lift (Ax.faddr 6 t4)).bind fun t65 =>
 (mstore 1 t65 t3).bind fun _ =>
 (mload (some 7) t4).bind fun t66 =>
 (mstore 7 t8 t66).bind fun _ =>
 (mload (some 7) t8).bind fun r0 =>
 M.pure (.ret [r0,(L0.getD 0 .undef),t22,t26])
def zqe:Fn':=(T zio).getD noF
theorem zBR:T zio = some zqe:=by kernel_rfl
theorem zCP (G:Sem') (t0 t1 t2 t3:V):execK G zqe.rv zqe.body [] [] (params 0 [t0,t1,t2,t3]) = zx7 G t0 t1 t2 t3:=by kernel_rfl
def ztG (G:Sem'):List V → M V
 | [t0,t1,t2,t3]=>fin (zx7 G t0 t1 t2 t3)
 | _=>M.fail
theorem zEa {g:Sem'} (hg:Sims g (sem T)) (args:List V):Sim (ztG g args) (sem T zio args):=by
 unfold ztG;split
 ·exact zae zBR (Nat.le_of_ble_eq_true (by kernel_rfl)) hg (zCP g _ _ _ _)
 ·exact zaa
def zBc (G:Sem') (t0 t1 t2:V):M Res :=
 (mbox zbE t0).bind fun t3 =>
 (mbox zbE (V.agg [(V.bool false),(V.int .i64 0),(V.int .u16 0),(V.int .u32 0),(V.int .u32 0),V.nils,(V.int .i64 0),V.nils,(V.int .i64 0),V.nils])).bind fun t6 =>
 (mload (some 10) t3).bind fun t9 =>
 (G zf5 [t9]).bind fun t10 =>
 (mstore 10 t3 t10).bind fun _ =>
 (mload (some 10) t3).bind fun t11 =>
 (G zkj [t11,t1]).bind fun t13 =>
 (M.lift (Ax.bin .lss t13 (V.int .i64 0))).bind fun t15 =>
 M.ite t15
 ((mload (some 10) t3).bind fun t16 =>
 (mstore 10 t6 t16).bind fun _ =>
 (mload (some 10) t6).bind fun r0 =>
 M.pure (.ret [r0,(V.bool false)]))
 ((M.lift (Ax.faddr 7 t3)).bind fun t17 =>
 (mload none t17).bind fun t18 =>
 M.getH.bind fun h0 =>
 (G zaL [t2]).bind fun t21 =>
 M.getH.bind fun h0' =>
 (M.unch t17 h0 h0').bind fun _ =>
 (M.lift (Ax.iaddr none 2 t18 t13)).bind fun t22 =>
 (M.lift (Ax.faddr 1 t22)).bind fun t23 =>
 (mstore 1 t23 t21).bind fun _ =>
 (mload (some 10) t3).bind fun t24 =>
 (mstore 10 t6 t24).bind fun _ =>
 (mload (some 10) t6).bind fun r0 =>
 M.pure (.ret [r0,(V.bool true)]))
def ztf:Fn':=(T zj4).getD noF
theorem zDU:T zj4 = some ztf:=by kernel_rfl
theorem zEO (G:Sem') (t0 t1 t2:V):execK G ztf.rv ztf.body [] [] (params 0 [t0,t1,t2]) = zBc G t0 t1 t2:=by kernel_rfl
def zwM (G:Sem'):List V → M V
 | [t0,t1,t2]=>fin (zBc G t0 t1 t2)
 | _=>M.fail
theorem zFI {g:Sem'} (hg:Sims g (sem T)) (args:List V):Sim (zwM g args) (sem T zj4 args):=by
 unfold zwM;split
 ·exact zae zDU (Nat.le_of_ble_eq_true (by kernel_rfl)) hg (zEO g _ _ _)
 ·exact zaa
end Go.Ax.Cc
/- CiS7 -/
namespace Go.Ax.Cc
open Go.Proofs
def zoG (G:Sem') (t0 t1:V):M Res :=
 (G zaL [t0]).bind fun t7 =>
 (M.lift (vlen t7)).bind fun t9 =>
 (M.lift (Ax.bin .geq t9 (V.int .i64 3))).bind fun t10 =>
 M.join (M.ite t10
 ((M.lift (Ax.bin .shr t1 (V.int .u64 8))).bind fun t14 =>
 (M.lift (Ax.cint .u8 t14)).bind fun t15 =>
 (M.lift (Ax.cint .u8 t1)).bind fun t17 =>
 (M.lift (Ax.iaddr none 1 t7 (V.int .i64 1))).bind fun t18 =>
 (mstore 1 t18 t15).bind fun _ =>
 (M.lift (Ax.iaddr none 1 t7 (V.int .i64 2))).bind fun t19 =>
 (mstore 1 t19 t17).bind fun _ =>
 M.pure (.nrm []))
 (M.pure (.nrm []))) fun _ =>
 M.pure (.ret [t7])
def zjn:Fn':=(T zd6).getD noF
theorem zuu:T zd6 = some zjn:=by kernel_rfl
theorem zvb (G:Sem') (t0 t1:V):execK G zjn.rv zjn.body [] [] (params 0 [t0,t1]) = zoG G t0 t1:=by kernel_rfl
def zkK (G:Sem'):List V → M V
 | [t0,t1]=>fin (zoG G t0 t1)
 | _=>M.fail
theorem zvN {g:Sem'} (hg:Sims g (sem T)) (args:List V):Sim (zkK g args) (sem T zd6 args):=by
 unfold zkK;split
 ·exact zae zuu (Nat.le_of_ble_eq_true (by kernel_rfl)) hg (zvb g _ _)
 ·exact zaa
def zou (G:Sem') (t0 t1 t2:V):M Res :=
 (G zdK [t0,t1]).bind fun t9 =>
 (M.lift (Ax.bin .geq t9 (V.int .i64 0))).bind fun t11 =>
 M.join (M.ite t11
 ((M.lift (Ax.nilck t0)).bind fun t14 =>
 (M.lift (Ax.faddr 0 t14)).bind fun t15 =>
 (mload none t15).bind fun t16 =>
 (M.lift (Ax.bin .add t9 (V.int .i64 1))).bind fun t19 =>
 (G zaz [t16,t9,t19]).bind fun t20 =>
 (M.lift (Ax.nilck t0)).bind fun t21 =>
 (M.lift (Ax.faddr 0 t21)).bind fun t22 =>
 (mstore 1 t22 t20).bind fun _ =>
 M.pure (.nrm []))
 (M.pure (.nrm []))) fun _ =>
 (M.lift (Ax.nilck t0)).bind fun t25 =>
 (M.lift (Ax.faddr 0 t25)).bind fun t26 =>
 (mload none t26).bind fun t27 =>
 M.getH.bind fun h0 =>
 (G zaL [t2]).bind fun t30 =>
 M.getH.bind fun h0' =>
 (M.unch t26 h0 h0').bind fun _ =>
 (M.lift (Ax.build [(V.int .u16 0),V.nils] [(0,1,t1),(1,1,t30)])).bind fun t31 =>
 (mslit zjY 1 [(V.int .u16 0),V.nils] [(0,2,t31)]).bind fun t32 =>
 (mappend zjY 2 32 t27 t32).bind fun t33 =>
 (M.lift (Ax.nilck t0)).bind fun t34 =>
 (M.lift (Ax.faddr 0 t34)).bind fun t35 =>
 (mstore 1 t35 t33).bind fun _ =>
 (M.lift (Ax.nilck t0)).bind fun t37 =>
 (M.lift (Ax.faddr 0 t37)).bind fun t38 =>
 (mload none t38).bind fun t39 =>
 (M.lift (vlen t39)).bind fun t40 =>
 (M.lift (Ax.bin .gtr t40 (V.int .i64 64))).bind fun t41 =>
 M.join (M.ite t41
 ((M.lift (Ax.nilck t0)).bind fun t44 =>
 (M.lift (Ax.faddr 0 t44)).bind fun t45 =>
 (mload none t45).bind fun t46 =>
 (G zaz [t46,(V.int .i64 0),(V.int .i64 1)]).bind fun t47 =>
 (M.lift (Ax.nilck t0)).bind fun t48 =>
 (M.lift (Ax.faddr 0 t48)).bind fun t49 =>
 (mstore 1 t49 t47).bind fun _ =>
 M.pure (.nrm []))
 (M.pure (.nrm []))) fun _ =>
 M.pure (.ret [])
def zjf:Fn':=(T zd1).getD noF
theorem zum:T zd1 = some zjf:=by kernel_rfl
theorem zu3 (G:Sem') (t0 t1 t2:V):execK G zjf.rv zjf.body [] [] (params 0 [t0,t1,t2]) = zou G t0 t1 t2:=by kernel_rfl
def zkA (G:Sem'):List V → M V
 | [t0,t1,t2]=>fin (zou G t0 t1 t2)
 | _=>M.fail
theorem zvD {g:Sem'} (hg:Sims g (sem T)) (args:List V):Sim (zkA g args) (sem T zd1 args):=by
 unfold zkA;split
 ·exact zae zum (Nat.le_of_ble_eq_true (by kernel_rfl)) hg (zu3 g _ _ _)
 ·exact zaa
def f_post_Post_desk_Out_Add (G:Sem') (t0 t1:V):M Res :=
 (mbox zbF t1).bind fun t3 =>
 (M.lift (Ax.nilck t0)).bind fun t6 =>
 (M.lift (Ax.faddr 1 t6)).bind fun t7 =>
 (mload none t7).bind fun t8 =>
 (M.lift (vlen t8)).bind fun t9 =>
 (M.lift (Ax.nilck t0)).bind fun t11 =>
 (M.lift (Ax.faddr 0 t11)).bind fun t12 =>
 (mload none t12).bind fun t13 =>
 (M.lift (Ax.bin .geq t9 t13)).bind fun t14 =>
 M.ite t14
 (M.pure (.ret [(V.bool false)]))
 ((M.lift (Ax.nilck t0)).bind fun t17 =>
 (M.lift (Ax.faddr 1 t17)).bind fun t18 =>
 (mload none t18).bind fun t19 =>
 (mload (some 3) t3).bind fun t20 =>
 (mslit zbF 1 [(V.int .i64 0),(V.int .i64 0),V.nils] [(0,3,t20)]).bind fun t21 =>
 (mappend zbF 3 40 t19 t21).bind fun t22 =>
 (M.lift (Ax.nilck t0)).bind fun t23 =>
 (M.lift (Ax.faddr 1 t23)).bind fun t24 =>
 (mstore 1 t24 t22).bind fun _ =>
 M.pure (.ret [(V.bool true)]))
def ir_post_Post_desk_Out_Add:Fn':=(T zaK).getD noF
theorem tb_post_Post_desk_Out_Add:T zaK = some ir_post_Post_desk_Out_Add:=by kernel_rfl
theorem eq_post_Post_desk_Out_Add (G:Sem') (t0 t1:V):execK G ir_post_Post_desk_Out_Add.rv ir_post_Post_desk_Out_Add.body [] [] (params 0 [t0,t1]) = f_post_Post_desk_Out_Add G t0 t1:=by kernel_rfl
def zeH (G:Sem'):List V → M V
 | [t0,t1]=>fin (f_post_Post_desk_Out_Add G t0 t1)
 | _=>M.fail
theorem zlT {g:Sem'} (hg:Sims g (sem T)) (args:List V):Sim (zeH g args) (sem T zaK args):=by
 unfold zeH;split
 ·exact zae tb_post_Post_desk_Out_Add (Nat.le_of_ble_eq_true (by kernel_rfl)) hg (eq_post_Post_desk_Out_Add g _ _)
 ·exact zaa
def zxF (G:Sem') (t18 t17:V) (L:List V):M Res :=
 (M.lift (Ax.bin .lss (L.getD 1 .undef) t18)).bind fun t20 =>
 M.ite t20
 (M.blk 1 (
 (M.lift (Ax.iaddr none 16 t17 (L.getD 1 .undef))).bind fun t21 =>
 (mload (some 16) t21).bind fun t22 =>
 (mbox za3 (V.agg [(V.int .i64 0),(V.int .u32 0),(V.int .u32 0),(V.int .u64 0),(V.int .u32 0),(V.int .u32 0),(V.int .u32 0),V.nils,V.nils,V.nils,(V.int .i64 0),(V.int .u32 0),V.nils,(V.int .i64 0),(V.int .i64 0),V.nils])).bind fun t6 =>
 (mstore 16 t6 t22).bind fun _ =>
 (mload (some 16) t6).bind fun t24 =>
 (G zg8 [t24]).bind fun t25 =>
 (M.lift (Ax.ext 0 t25)).bind fun t26 =>
 (M.lift (Ax.ext 1 t25)).bind fun t27 =>
 (M.lift (Ax.ext 2 t25)).bind fun t28 =>
 (M.lift (vlen (L.getD 0 .undef))).bind fun t30 =>
 (M.lift (Ax.bin .add t30 (V.int .i64 4))).bind fun t31 =>
 (M.lift (vlen t26)).bind fun t33 =>
 (M.lift (Ax.bin .add t31 t33)).bind fun t34 =>
 (M.lift (Ax.bin .gtr t34 (V.int .i64 1200))).bind fun t35 =>
 M.ite t35
 (M.pure (.ret [V.nils,(V.int .i64 4)]))
 ((M.lift (Ax.bin .or (V.int .i64 128) t28)).bind fun t38 =>
 (M.lift (Ax.cint .u8 t38)).bind fun t39 =>
 (M.lift (Ax.cint .u8 t27)).bind fun t41 =>
 (mslit zaj 2 [(V.int .u8 0)] [(0,1,t39),(1,1,t41)]).bind fun t42 =>
 (mappend zaj 1 1 (L.getD 0 .undef) t42).bind fun t43 =>
 (M.lift (vlen t26)).bind fun t46 =>
 (M.lift (Ax.bin .quo t46 (V.int .i64 4))).bind fun t47 =>
 (M.lift (Ax.cint .u64 t47)).bind fun t48 =>
 (G zbS [t43,t48,(V.int .i64 2)]).bind fun t49 =>
 (mappend zaj 1 1 t49 t26).bind fun t51 =>
 M.pure (.nrm [t51]))) fun L0 =>
 (M.lift (Ax.bin .add (L.getD 1 .undef) (V.int .i64 1))).bind fun t52 =>
 M.pure (.nrm [(L0.getD 0 .undef),t52]))
 (M.pure (.ex 0 [(L.getD 0 .undef)]))
def zub (G:Sem') (t0:V):M Res :=
 (M.lift (vlen t0)).bind fun t11 =>
 (M.lift (Ax.bin .eql t11 (V.int .i64 0))).bind fun t12 =>
 (guarded [(0,t12)] (some (0,false)) (M.pure t0)).bind fun t14 =>
 (guarded [(0,t12)] (some (0,false)) (G zat [t14,(V.fn zez [])])).bind fun t15 =>
 (M.lift (Ax.pick t12 (V.bool true) t15)).bind fun t16 =>
 M.ite t16
 (M.pure (.ret [V.nils,(V.int .i64 1)]))
 ((M.lift (vlen t0)).bind fun t18 =>
 M.blk 0 (
 M.iter (zxF G t18 t0) [V.nils,(V.int .i64 0)]) fun L1 =>
 M.pure (.ret [(L1.getD 0 .undef),(V.int .i64 0)]))
def zmD:Fn':=(T zf9).getD noF
theorem zyA:T zf9 = some zmD:=by kernel_rfl
theorem zzF (G:Sem') (t0:V):execK G zmD.rv zmD.body [] [] (params 0 [t0]) = zub G t0:=by kernel_rfl
def zo3 (G:Sem'):List V → M V
 | [t0]=>fin (zub G t0)
 | _=>M.fail
theorem zAz {g:Sem'} (hg:Sims g (sem T)) (args:List V):Sim (zo3 g args) (sem T zf9 args):=by
 unfold zo3;split
 ·exact zae zyA (Nat.le_of_ble_eq_true (by kernel_rfl)) hg (zzF g _)
 ·exact zaa
def f_note_of (G:Sem') (t0:V):M Res :=
 (mbox zfc (V.agg [(V.int .i64 0),(V.int .i64 0),(V.int .i64 0),(V.int .i64 0),(V.int .i64 0),(V.int .i64 0),(V.int .i64 0)])).bind fun t2 =>
 M.blk 0 (
 (M.lift (Ax.bin .eql t0 (V.int .i64 1))).bind fun t6 =>
 M.ite t6
 ((M.lift (Ax.build [(V.int .i64 0),(V.int .i64 0),(V.int .i64 0),(V.int .i64 0),(V.int .i64 0),(V.int .i64 0),(V.int .i64 0)] [(0,1,(V.int .i64 3))])).bind fun t7 =>
 (mstore 7 t2 t7).bind fun _ =>
 (mload (some 7) t2).bind fun r0 =>
 M.pure (.ret [r0,(V.bool true)]))
 ((M.lift (Ax.bin .eql t0 (V.int .i64 2))).bind fun t9 =>
 M.join (M.ite t9
 (M.pure (.nrm [t9]))
 ((M.lift (Ax.bin .eql t0 (V.int .i64 9))).bind fun t10 =>
 M.join (M.ite t10
 (M.pure (.nrm [t10]))
 ((M.lift (Ax.bin .eql t0 (V.int .i64 23))).bind fun t11 =>
 M.pure (.nrm [t11]))) fun L0 =>
 M.pure (.nrm [(L0.getD 0 .undef)]))) fun L1 =>
 M.ite (L1.getD 0 .undef)
 ((M.lift (Ax.build [(V.int .i64 0),(V.int .i64 0),(V.int .i64 0),(V.int .i64 0),(V.int .i64 0),(V.int .i64 0),(V.int .i64 0)] [])).bind fun t12 =>
 (mstore 7 t2 t12).bind fun _ =>
 (mload (some 7) t2).bind fun r0 =>
 M.pure (.ret [r0,(V.bool true)]))
 ((M.lift (Ax.bin .eql t0 (V.int .i64 3))).bind fun t14 =>
 M.join (M.ite t14
 (M.pure (.nrm [t14]))
 ((M.lift (Ax.bin .eql t0 (V.int .i64 6))).bind fun t15 =>
 M.pure (.nrm [t15]))) fun L2 =>
 M.ite (L2.getD 0 .undef)
 ((M.lift (Ax.build [(V.int .i64 0),(V.int .i64 0),(V.int .i64 0),(V.int .i64 0),(V.int .i64 0),(V.int .i64 0),(V.int .i64 0)] [(1,1,(V.int .i64 7))])).bind fun t16 =>
 (mstore 7 t2 t16).bind fun _ =>
 (mload (some 7) t2).bind fun r0 =>
 M.pure (.ret [r0,(V.bool true)]))
 ((M.lift (Ax.bin .eql t0 (V.int .i64 4))).bind fun t18 =>
 M.ite t18
 ((M.lift (Ax.build [(V.int .i64 0),(V.int .i64 0),(V.int .i64 0),(V.int .i64 0),(V.int .i64 0),(V.int .i64 0),(V.int .i64 0)] [(3,1,(V.int .i64 2)),(4,1,(V.int .i64 65535)),(5,1,(V.int .i64 4)),(6,1,(V.int .i64 4))])).bind fun t19 =>
 (mstore 7 t2 t19).bind fun _ =>
 (mload (some 7) t2).bind fun r0 =>
 M.pure (.ret [r0,(V.bool true)]))
 ((M.lift (Ax.bin .eql t0 (V.int .i64 5))).bind fun t21 =>
 M.ite t21
 ((M.lift (Ax.build [(V.int .i64 0),(V.int .i64 0),(V.int .i64 0),(V.int .i64 0),(V.int .i64 0),(V.int .i64 0),(V.int .i64 0)] [(1,1,(V.int .i64 7)),(3,1,(V.int .i64 3)),(4,1,(V.int .i64 7))])).bind fun t22 =>
 (mstore 7 t2 t22).bind fun _ =>
 (mload (some 7) t2).bind fun r0 =>
 M.pure (.ret [r0,(V.bool true)]))
 ((M.lift (Ax.bin .eql t0 (V.int .i64 7))).bind fun t24 =>
 M.join (M.ite t24
 (M.pure (.nrm [t24]))
 ((M.lift (Ax.bin .eql t0 (V.int .i64 21))).bind fun t25 =>
 M.pure (.nrm [t25]))) fun L3 =>
 M.ite (L3.getD 0 .undef)
 ((M.lift (Ax.build [(V.int .i64 0),(V.int .i64 0),(V.int .i64 0),(V.int .i64 0),(V.int .i64 0),(V.int .i64 0),(V.int .i64 0)] [(1,1,(V.int .i64 7)),(2,1,(V.int .i64 65535)),(3,1,(V.int .i64 31)),(5,1,(V.int .i64 1)),(6,1,(V.int .i64 200))])).bind fun t26 =>
 (mstore 7 t2 t26).bind fun _ =>
 (mload (some 7) t2).bind fun r0 =>
 M.pure (.ret [r0,(V.bool true)]))
 ((M.lift (Ax.bin .eql t0 (V.int .i64 8))).bind fun t28 =>
 M.join (M.ite t28
 (M.pure (.nrm [t28]))
 ((M.lift (Ax.bin .eql t0 (V.int .i64 22))).bind fun t29 =>
 M.pure (.nrm [t29]))) fun L4 =>
 M.ite (L4.getD 0 .undef)
 ((M.lift (Ax.build [(V.int .i64 0),(V.int .i64 0),(V.int .i64 0),(V.int .i64 0),(V.int .i64 0),(V.int .i64 0),(V.int .i64 0)] [(2,1,(V.int .i64 65535))])).bind fun t30 =>
 (mstore 7 t2 t30).bind fun _ =>
 (mload (some 7) t2).bind fun r0 =>
 M.pure (.ret [r0,(V.bool true)]))
 ((M.lift (Ax.bin .eql t0 (V.int .i64 17))).bind fun t32 =>
 M.ite t32
 ((M.lift (Ax.build [(V.int .i64 0),(V.int .i64 0),(V.int .i64 0),(V.int .i64 0),(V.int .i64 0),(V.int .i64 0),(V.int .i64 0)] [(0,1,(V.int .i64 3)),(1,1,(V.int .i64 7)),(2,1,(V.int .i64 65535)),(3,1,(V.int .i64 255)),(4,1,(V.int .i64 65535)),(5,1,(V.int .i64 8)),(6,1,(V.int .i64 8))])).bind fun t33 =>
 (mstore 7 t2 t33).bind fun _ =>
 (mload (some 7) t2).bind fun r0 =>
 M.pure (.ret [r0,(V.bool true)]))
 ((M.lift (Ax.bin .eql t0 (V.int .i64 18))).bind fun t35 =>
 M.ite t35
 ((M.lift (Ax.build [(V.int .i64 0),(V.int .i64 0),(V.int .i64 0),(V.int .i64 0),(V.int .i64 0),(V.int .i64 0),(V.int .i64 0)] [(3,1,(V.int .i64 13)),(4,1,(V.int .i64 9))])).bind fun t36 =>
 (mstore 7 t2 t36).bind fun _ =>
 (mload (some 7) t2).bind fun r0 =>
 M.pure (.ret [r0,(V.bool true)]))
 ((M.lift (Ax.bin .eql t0 (V.int .i64 19))).bind fun t38 =>
 M.ite t38
 ((M.lift (Ax.build [(V.int .i64 0),(V.int .i64 0),(V.int .i64 0),(V.int .i64 0),(V.int .i64 0),(V.int .i64 0),(V.int .i64 0)] [(1,1,(V.int .i64 7)),(2,1,(V.int .i64 65535)),(3,1,(V.int .i64 255)),(4,1,(V.int .i64 63))])).bind fun t39 =>
 (mstore 7 t2 t39).bind fun _ =>
 (mload (some 7) t2).bind fun r0 =>
 M.pure (.ret [r0,(V.bool true)]))
 ((M.lift (Ax.bin .eql t0 (V.int .i64 20))).bind fun t41 =>
 M.ite t41
 ((M.lift (Ax.build [(V.int .i64 0),(V.int .i64 0),(V.int .i64 0),(V.int .i64 0),(V.int .i64 0),(V.int .i64 0),(V.int .i64 0)] [(1,1,(V.int .i64 7)),(2,1,(V.int .i64 65535)),(3,1,(V.int .i64 255))])).bind fun t42 =>
 (mstore 7 t2 t42).bind fun _ =>
 (mload (some 7) t2).bind fun r0 =>
 M.pure (.ret [r0,(V.bool true)]))
 ((M.lift (Ax.bin .eql t0 (V.int .i64 24))).bind fun t44 =>
 M.ite t44
 ((M.lift (Ax.build [(V.int .i64 0),(V.int .i64 0),(V.int .i64 0),(V.int .i64 0),(V.int .i64 0),(V.int .i64 0),(V.int .i64 0)] [(1,1,(V.int .i64 7)),(5,1,(V.int .i64 4)),(6,1,(V.int .i64 4))])).bind fun t45 =>
 (mstore 7 t2 t45).bind fun _ =>
 (mload (some 7) t2).bind fun r0 =>
 M.pure (.ret [r0,(V.bool true)]))
 (M.pure (.nrm [])))))))))))))) fun _ =>
 (M.lift (Ax.build [(V.int .i64 0),(V.int .i64 0),(V.int .i64 0),(V.int .i64 0),(V.int .i64 0),(V.int .i64 0),(V.int .i64 0)] [])).bind fun t46 =>
 (mstore 7 t2 t46).bind fun _ =>
 (mload (some 7) t2).bind fun r0 =>
 M.pure (.ret [r0,(V.bool false)])
def ir_note_of:Fn':=(T zeA).getD noF
theorem tb_note_of:T zeA = some ir_note_of:=by kernel_rfl
theorem eq_note_of (G:Sem') (t0:V):execK G ir_note_of.rv ir_note_of.body [] [] (params 0 [t0]) = f_note_of G t0:=by kernel_rfl
def zwP (G:Sem'):List V → M V
 | [t0]=>fin (f_note_of G t0)
 | _=>M.fail
theorem zFL {g:Sem'} (hg:Sims g (sem T)) (args:List V):Sim (zwP g args) (sem T zeA args):=by
 unfold zwP;split
 ·exact zae tb_note_of (Nat.le_of_ble_eq_true (by kernel_rfl)) hg (eq_note_of g _)
 ·exact zaa
def f_note_within (G:Sem') (t0 t1:V):M Res :=
 (M.lift (Ax.bin .geq t0 (V.int .i64 0))).bind fun t6 =>
 (guarded [(0,t6)] (some (0,true)) (M.pure t0)).bind fun t8 =>
 (guarded [(0,t6)] (some (0,true)) (M.pure t1)).bind fun t9 =>
 (guarded [(0,t6)] (some (0,true)) (M.lift (Ax.bin .leq t8 t9))).bind fun t10 =>
 (M.lift (Ax.pick t6 t10 (V.bool false))).bind fun t11 =>
 M.pure (.ret [t11])
def ir_note_within:Fn':=(T zaZ).getD noF
theorem tb_note_within:T zaZ = some ir_note_within:=by kernel_rfl
theorem eq_note_within (G:Sem') (t0 t1:V):execK G ir_note_within.rv ir_note_within.body [] [] (params 0 [t0,t1]) = f_note_within G t0 t1:=by kernel_rfl
def zm1 (G:Sem'):List V → M V
 | [t0,t1]=>fin (f_note_within G t0 t1)
 | _=>M.fail
theorem zyS {g:Sem'} (hg:Sims g (sem T)) (args:List V):Sim (zm1 g args) (sem T zaZ args):=by
 unfold zm1;split
 ·exact zae tb_note_within (Nat.le_of_ble_eq_true (by kernel_rfl)) hg (eq_note_within g _ _)
 ·exact zaa
def zuZ (G:Sem') (t8 t7 t1:V) (L:List V):M Res :=
 (M.lift (Ax.bin .lss (L.getD 0 .undef) t8)).bind fun t10 =>
 M.ite t10
 (M.blk 1 (
 (M.lift (Ax.iaddr none 1 t7 (L.getD 0 .undef))).bind fun t12 =>
 (mload none t12).bind fun t13 =>
 (M.lift (Ax.faddr 4 t1)).bind fun t14 =>
 (mload none t14).bind fun t15 =>
 (M.lift (Ax.bin .shr t15 (L.getD 0 .undef))).bind fun t17 =>
 (M.lift (Ax.bin .and t17 (V.int .i64 1))).bind fun t18 =>
 (M.lift (Ax.bin .eql t18 (V.int .i64 1))).bind fun t19 =>
 (guarded [(0,t19)] (some (0,true)) (M.pure t13)).bind fun t22 =>
 (guarded [(0,t19)] (some (0,true)) (M.lift (Ax.bin .gtr t22 (V.int .u8 63)))).bind fun t23 =>
 (M.lift (Ax.pick t19 t23 (V.bool false))).bind fun t24 =>
 (guarded [(0,t24)] (some (0,false)) (M.pure t19)).bind fun t26 =>
 (guarded [(0,t24)] (some (0,false)) (M.lift (Ax.un .not t26))).bind fun t27 =>
 (guarded [(0,t24)] (some (0,false)) (M.pure t27)).bind fun t28 =>
 (guarded [(0,t28)] (some (0,true)) (M.pure t13)).bind fun t29 =>
 (guarded [(0,t28)] (some (0,true)) (M.lift (Ax.bin .neq t29 (V.int .u8 255)))).bind fun t30 =>
 (guarded [(0,t24)] (some (0,false)) (M.lift (Ax.pick t28 t30 (V.bool false)))).bind fun t31 =>
 (M.lift (Ax.pick t24 (V.bool true) t31)).bind fun t32 =>
 M.ite t32
 (M.pure (.ret [(V.bool false)]))
 (M.pure (.nrm []))) fun _ =>
 (M.lift (Ax.bin .add (L.getD 0 .undef) (V.int .i64 1))).bind fun t33 =>
 M.pure (.nrm [t33]))
 (M.pure (.ex 0 []))
def zpR (G:Sem') (t0:V):M Res :=
 (mbox zaf t0).bind fun t1 =>
 (M.lift (Ax.faddr 6 t1)).bind fun t6 =>
 (mload none t6).bind fun t7 =>
 (M.lift (vlen t7)).bind fun t8 =>
 M.blk 0 (
 M.iter (zuZ G t8 t7 t1) [(V.int .i64 0)]) fun _ =>
 (M.lift (Ax.faddr 5 t1)).bind fun t34 =>
 (mload none t34).bind fun t35 =>
 (M.lift (Ax.faddr 3 t1)).bind fun t36 =>
 (mload none t36).bind fun t37 =>
 (M.lift (Ax.bin .geq t35 t37)).bind fun t38 =>
 (guarded [(0,t38)] (some (0,true)) (M.lift (Ax.faddr 4 t1))).bind fun t40 =>
 (guarded [(0,t38)] (some (0,true)) (mload none t40)).bind fun t41 =>
 (guarded [(0,t38)] (some (0,true)) (M.lift (Ax.faddr 2 t1))).bind fun t42 =>
 (guarded [(0,t38)] (some (0,true)) (mload none t42)).bind fun t43 =>
 (guarded [(0,t38)] (some (0,true)) (M.lift (Ax.bin .shr t41 t43))).bind fun t44 =>
 (guarded [(0,t38)] (some (0,true)) (M.lift (Ax.bin .and t44 (V.int .i64 1)))).bind fun t45 =>
 (guarded [(0,t38)] (some (0,true)) (M.lift (Ax.bin .eql t45 (V.int .i64 1)))).bind fun t46 =>
 (M.lift (Ax.pick t38 t46 (V.bool false))).bind fun t47 =>
 M.pure (.ret [t47])
def zke:Fn':=(T zdL).getD noF
theorem zvt:T zdL = some zke:=by kernel_rfl
theorem zwC (G:Sem') (t0:V):execK G zke.rv zke.body [] [] (params 0 [t0]) = zpR G t0:=by kernel_rfl
def zlG (G:Sem'):List V → M V
 | [t0]=>fin (zpR G t0)
 | _=>M.fail
theorem zxp {g:Sem'} (hg:Sims g (sem T)) (args:List V):Sim (zlG g args) (sem T zdL args):=by
 unfold zlG;split
 ·exact zae zvt (Nat.le_of_ble_eq_true (by kernel_rfl)) hg (zwC g _)
 ·exact zaa
def f_note_Bytes_0 (G:Sem') (t30 t29 t2 t3:V) (L:List V):M Res :=
 (M.lift (Ax.bin .lss (L.getD 1 .undef) t30)).bind fun t32 =>
 M.ite t32
 (M.blk 1 (
 (M.lift (Ax.iaddr none 1 t29 (L.getD 1 .undef))).bind fun t33 =>
 (mload none t33).bind fun t34 =>
 (M.lift (Ax.bin .shr t34 (V.int .u64 8))).bind fun t37 =>
 (M.lift (Ax.cint .u8 t37)).bind fun t38 =>
 (M.lift (Ax.cint .u8 t34)).bind fun t40 =>
 (mslit zaj 2 [(V.int .u8 0)] [(0,1,t38),(1,1,t40)]).bind fun t41 =>
 (mappend zaj 1 1 (L.getD 0 .undef) t41).bind fun t42 =>
 M.pure (.nrm [t42])) fun L0 =>
 (M.lift (Ax.bin .add (L.getD 1 .undef) (V.int .i64 1))).bind fun t43 =>
 M.pure (.nrm [(L0.getD 0 .undef),t43]))
 (M.pure (.ex 0 [(L.getD 0 .undef)]))
def f_note_Bytes (G:Sem') (t0:V):M Res :=
 (mbox zaf t0).bind fun t1 =>
 (mload (some 7) t1).bind fun t7 =>
 (G zcn [t7]).bind fun t8 =>
 (M.lift (Ax.un .not t8)).bind fun t9 =>
 M.ite t9
 (M.pure (.ret [V.nils,(V.int .i64 1)]))
 ((M.lift (Ax.faddr 0 t1)).bind fun t10 =>
 (mload none t10).bind fun t11 =>
 (M.lift (Ax.cint .u8 t11)).bind fun t12 =>
 (M.lift (Ax.faddr 1 t1)).bind fun t13 =>
 (mload none t13).bind fun t14 =>
 (M.lift (Ax.cint .u8 t14)).bind fun t15 =>
 (M.lift (Ax.faddr 2 t1)).bind fun t16 =>
 (mload none t16).bind fun t17 =>
 (M.lift (Ax.cint .u8 t17)).bind fun t18 =>
 (mslit zaj 3 [(V.int .u8 0)] [(0,1,t12),(1,1,t15),(2,1,t18)]).bind fun t19 =>
 (M.lift (Ax.faddr 3 t1)).bind fun t20 =>
 (mload none t20).bind fun t21 =>
 (M.lift (Ax.faddr 4 t1)).bind fun t22 =>
 (mload none t22).bind fun t23 =>
 (M.lift (Ax.faddr 5 t1)).bind fun t24 =>
 (mload none t24).bind fun t25 =>
 (M.lift (Ax.faddr 6 t1)).bind fun t26 =>
 (mload none t26).bind fun t27 =>
 (M.lift (vlen t27)).bind fun t28 =>
 (mslit ze5 4 [(V.int .i64 0)] [(0,1,t21),(1,1,t23),(2,1,t25),(3,1,t28)]).bind fun t29 =>
 (M.lift (vlen t29)).bind fun t30 =>
 M.blk 0 (
 M.iter (f_note_Bytes_0 G t30 t29 V.nils (V.int .i64 0)) [t19,(V.int .i64 0)]) fun L1 =>
 (M.lift (Ax.faddr 6 t1)).bind fun t45 =>
 (mload none t45).bind fun t46 =>
 (mappend zaj 1 1 (L1.getD 0 .undef) t46).bind fun t47 =>
 M.pure (.ret [t47,(V.int .i64 0)]))
def ir_note_Bytes:Fn':=(T zcx).getD noF
theorem tb_note_Bytes:T zcx = some ir_note_Bytes:=by kernel_rfl
theorem eq_note_Bytes (G:Sem') (t0:V):execK G ir_note_Bytes.rv ir_note_Bytes.body [] [] (params 0 [t0]) = f_note_Bytes G t0:=by kernel_rfl
def zpb (G:Sem'):List V → M V
 | [t0]=>fin (f_note_Bytes G t0)
 | _=>M.fail
theorem zAH {g:Sem'} (hg:Sims g (sem T)) (args:List V):Sim (zpb g args) (sem T zcx args):=by
 unfold zpb;split
 ·exact zae tb_note_Bytes (Nat.le_of_ble_eq_true (by kernel_rfl)) hg (eq_note_Bytes g _)
 ·exact zaa
def zt5 (G:Sem') (t0 t1:V):M Res :=
 (mbox zan t0).bind fun t2 =>
 (mbox zan (V.agg [(V.bool false),(V.bool false),(V.bool false),(V.bool false),(V.bool false),(V.bool false),(V.bool false),(V.bool false),(V.int .i64 0),(V.int .i64 0),(V.int .i64 0),(V.int .i64 0),(V.int .i64 0),(V.int .i64 0),(V.int .i64 0),(V.int .i64 0)])).bind fun t4 =>
 (mload (some 16) t2).bind fun t10 =>
 (G zbg [t10]).bind fun t11 =>
 (M.lift (Ax.un .not t11)).bind fun t12 =>
 (guarded [(0,t12)] (some (0,false)) (M.pure t1)).bind fun t14 =>
 (guarded [(0,t12)] (some (0,false)) (G zcf [t14])).bind fun t15 =>
 (guarded [(0,t12)] (some (0,false)) (M.lift (Ax.un .not t15))).bind fun t16 =>
 (M.lift (Ax.pick t12 (V.bool true) t16)).bind fun t17 =>
 M.ite t17
 ((mload (some 16) t2).bind fun t18 =>
 (mstore 16 t4 t18).bind fun _ =>
 (mload (some 16) t4).bind fun r0 =>
 M.pure (.ret [r0,(V.int .i64 0),(V.int .i64 1)]))
 ((mload (some 16) t2).bind fun t20 =>
 (G zbT [t20,t1]).bind fun t22 =>
 (M.lift (Ax.ext 0 t22)).bind fun t23 =>
 (M.lift (Ax.ext 1 t22)).bind fun t24 =>
 M.ite t24
 ((mload (some 16) t2).bind fun t26 =>
 (mstore 16 t4 t26).bind fun _ =>
 (mload (some 16) t4).bind fun r0 =>
 M.pure (.ret [r0,(V.int .i64 0),(V.int .i64 7)]))
 ((M.lift (Ax.faddr 0 t2)).bind fun t27 =>
 (M.lift (zbo (.arr 8) 1 t27 none none none)).bind fun t28 =>
 (G zbt [t28,(V.bool false)]).bind fun t29 =>
 (M.lift (Ax.bin .lss t29 (V.int .i64 0))).bind fun t31 =>
 M.ite t31
 ((mload (some 16) t2).bind fun t32 =>
 (mstore 16 t4 t32).bind fun _ =>
 (mload (some 16) t4).bind fun r0 =>
 M.pure (.ret [r0,(V.int .i64 0),(V.int .i64 5)]))
 ((M.lift (Ax.faddr 0 t2)).bind fun t36 =>
 (M.lift (Ax.iaddr (some 8) 1 t36 t29)).bind fun t37 =>
 (mstore 1 t37 (V.bool true)).bind fun _ =>
 (M.lift (Ax.faddr 8 t2)).bind fun t38 =>
 (M.lift (Ax.iaddr (some 8) 1 t38 t29)).bind fun t39 =>
 (mstore 1 t39 t1).bind fun _ =>
 (mload (some 16) t2).bind fun t40 =>
 (mstore 16 t4 t40).bind fun _ =>
 (mload (some 16) t4).bind fun r0 =>
 M.pure (.ret [r0,t29,(V.int .i64 0)]))))
def zmx:Fn':=(T zf4).getD noF
theorem zyu:T zf4 = some zmx:=by kernel_rfl
theorem zzz (G:Sem') (t0 t1:V):execK G zmx.rv zmx.body [] [] (params 0 [t0,t1]) = zt5 G t0 t1:=by kernel_rfl
def zoU (G:Sem'):List V → M V
 | [t0,t1]=>fin (zt5 G t0 t1)
 | _=>M.fail
theorem zAq {g:Sem'} (hg:Sims g (sem T)) (args:List V):Sim (zoU g args) (sem T zf4 args):=by
 unfold zoU;split
 ·exact zae zyu (Nat.le_of_ble_eq_true (by kernel_rfl)) hg (zzz g _ _)
 ·exact zaa
def zuf (G:Sem') (t0 t1:V):M Res :=
 (mbox zaW t0).bind fun t2 =>
 (mbox zaW (V.agg [(V.int .i64 0),(V.bool false),(V.int .i64 0),(V.int .i64 0),(V.int .i64 0),(V.int .i64 0)])).bind fun t4 =>
 M.blk 0 (
 (mload (some 6) t2).bind fun t7 =>
 (G zbH [t7]).bind fun t8 =>
 (M.lift (Ax.un .not t8)).bind fun t9 =>
 (guarded [(0,t9)] (some (0,false)) (M.pure t1)).bind fun t11 =>
 (guarded [(0,t9)] (some (0,false)) (G zeZ [t11])).bind fun t12 =>
 (guarded [(0,t9)] (some (0,false)) (M.lift (Ax.un .not t12))).bind fun t13 =>
 (M.lift (Ax.pick t9 (V.bool true) t13)).bind fun t14 =>
 M.ite t14
 ((mload (some 6) t2).bind fun t15 =>
 (mstore 6 t4 t15).bind fun _ =>
 (mload (some 6) t4).bind fun r0 =>
 M.pure (.ret [r0,(V.int .i64 1)]))
 ((M.lift (Ax.faddr 1 t2)).bind fun t17 =>
 (mload none t17).bind fun t18 =>
 (M.lift (Ax.un .not t18)).bind fun t19 =>
 M.ite t19
 ((mload (some 6) t2).bind fun t20 =>
 (mstore 6 t4 t20).bind fun _ =>
 (mload (some 6) t4).bind fun r0 =>
 M.pure (.ret [r0,(V.int .i64 0)]))
 ((M.lift (Ax.faddr 3 t2)).bind fun t22 =>
 (mload none t22).bind fun t23 =>
 (M.lift (Ax.bin .shr t23 t1)).bind fun t25 =>
 (M.lift (Ax.bin .and t25 (V.int .i64 1))).bind fun t26 =>
 (M.lift (Ax.bin .eql t26 (V.int .i64 1))).bind fun t27 =>
 M.ite t27
 ((mload (some 6) t2).bind fun t28 =>
 (mstore 6 t4 t28).bind fun _ =>
 (mload (some 6) t4).bind fun r0 =>
 M.pure (.ret [r0,(V.int .i64 7)]))
 (M.pure (.nrm []))))) fun _ =>
 (M.lift (Ax.faddr 3 t2)).bind fun t29 =>
 (mload none t29).bind fun t30 =>
 (M.lift (Ax.bin .shl (V.int .i64 1) t1)).bind fun t32 =>
 (M.lift (Ax.bin .or t30 t32)).bind fun t33 =>
 (M.lift (Ax.faddr 3 t2)).bind fun t34 =>
 (mstore 1 t34 t33).bind fun _ =>
 (mload (some 6) t2).bind fun t35 =>
 (mstore 6 t4 t35).bind fun _ =>
 (mload (some 6) t4).bind fun r0 =>
 M.pure (.ret [r0,(V.int .i64 0)])
def zmH:Fn':=(T zgb).getD noF
theorem zyE:T zgb = some zmH:=by kernel_rfl
theorem zzJ (G:Sem') (t0 t1:V):execK G zmH.rv zmH.body [] [] (params 0 [t0,t1]) = zuf G t0 t1:=by kernel_rfl
def zo8 (G:Sem'):List V → M V
 | [t0,t1]=>fin (zuf G t0 t1)
 | _=>M.fail
theorem zAE {g:Sem'} (hg:Sims g (sem T)) (args:List V):Sim (zo8 g args) (sem T zgb args):=by
 unfold zo8;split
 ·exact zae zyE (Nat.le_of_ble_eq_true (by kernel_rfl)) hg (zzJ g _ _)
 ·exact zaa
def f_rekey_Coming (G:Sem') (t0:V):M Res :=
 (mbox zaW t0).bind fun t1 =>
 (M.lift (Ax.faddr 1 t1)).bind fun t3 =>
 (mload none t3).bind fun t4 =>
 M.ite t4
 ((M.lift (Ax.faddr 2 t1)).bind fun t5 =>
 (mload none t5).bind fun t6 =>
 M.pure (.ret [t6]))
 ((M.lift (Ax.faddr 0 t1)).bind fun t7 =>
 (mload none t7).bind fun t8 =>
 M.pure (.ret [t8]))
def ir_rekey_Coming:Fn':=(T zb0).getD noF
theorem tb_rekey_Coming:T zb0 = some ir_rekey_Coming:=by kernel_rfl
theorem eq_rekey_Coming (G:Sem') (t0:V):execK G ir_rekey_Coming.rv ir_rekey_Coming.body [] [] (params 0 [t0]) = f_rekey_Coming G t0:=by kernel_rfl
def zlF (G:Sem'):List V → M V
 | [t0]=>fin (f_rekey_Coming G t0)
 | _=>M.fail
theorem zxo {g:Sem'} (hg:Sims g (sem T)) (args:List V):Sim (zlF g args) (sem T zb0 args):=by
 unfold zlF;split
 ·exact zae tb_rekey_Coming (Nat.le_of_ble_eq_true (by kernel_rfl)) hg (eq_rekey_Coming g _)
 ·exact zaa
def zrK (G:Sem') (t0:V):M Res :=
 (mbox zan t0).bind fun t1 =>
 (M.lift (Ax.faddr 0 t1)).bind fun t5 =>
 (M.lift (zbo (.arr 8) 1 t5 none none none)).bind fun t6 =>
 (G zbt [t6,(V.bool true)]).bind fun t7 =>
 (M.lift (Ax.bin .lss t7 (V.int .i64 0))).bind fun t9 =>
 (guarded [(0,t9)] (some (0,false)) (mload (some 16) t1)).bind fun t11 =>
 (guarded [(0,t9)] (some (0,false)) (G zbg [t11])).bind fun t12 =>
 (guarded [(0,t9)] (some (0,false)) (M.lift (Ax.un .not t12))).bind fun t13 =>
 (M.lift (Ax.pick t9 (V.bool true) t13)).bind fun t14 =>
 M.ite t14
 (M.pure (.ret [(V.int .i64 0),(V.bool false)]))
 (M.pure (.ret [t7,(V.bool true)]))
def zlj:Fn':=(T zfe).getD noF
theorem zw5:T zfe = some zlj:=by kernel_rfl
theorem zxG (G:Sem') (t0:V):execK G zlj.rv zlj.body [] [] (params 0 [t0]) = zrK G t0:=by kernel_rfl
def zmS (G:Sem'):List V → M V
 | [t0]=>fin (zrK G t0)
 | _=>M.fail
theorem zyJ {g:Sem'} (hg:Sims g (sem T)) (args:List V):Sim (zmS g args) (sem T zfe args):=by
 unfold zmS;split
 ·exact zae zw5 (Nat.le_of_ble_eq_true (by kernel_rfl)) hg (zxG g _)
 ·exact zaa
def zt6 (G:Sem') (t0 t1:V):M Res :=
 (mbox zan t0).bind fun t2 =>
 (mbox zan (V.agg [(V.bool false),(V.bool false),(V.bool false),(V.bool false),(V.bool false),(V.bool false),(V.bool false),(V.bool false),(V.int .i64 0),(V.int .i64 0),(V.int .i64 0),(V.int .i64 0),(V.int .i64 0),(V.int .i64 0),(V.int .i64 0),(V.int .i64 0)])).bind fun t4 =>
 M.blk 0 (
 (mload (some 16) t2).bind fun t7 =>
 (G zbg [t7]).bind fun t8 =>
 (M.lift (Ax.un .not t8)).bind fun t9 =>
 (guarded [(0,t9)] (some (0,false)) (M.pure t1)).bind fun t11 =>
 (guarded [(0,t9)] (some (0,false)) (G zf3 [t11])).bind fun t12 =>
 (guarded [(0,t9)] (some (0,false)) (M.lift (Ax.un .not t12))).bind fun t13 =>
 (M.lift (Ax.pick t9 (V.bool true) t13)).bind fun t14 =>
 M.ite t14
 ((mload (some 16) t2).bind fun t15 =>
 (mstore 16 t4 t15).bind fun _ =>
 (mload (some 16) t4).bind fun r0 =>
 M.pure (.ret [r0,(V.int .i64 1)]))
 ((M.lift (Ax.faddr 0 t2)).bind fun t18 =>
 (M.lift (Ax.iaddr (some 8) 1 t18 t1)).bind fun t19 =>
 (mload none t19).bind fun t20 =>
 (M.lift (Ax.un .not t20)).bind fun t21 =>
 M.ite t21
 ((mload (some 16) t2).bind fun t22 =>
 (mstore 16 t4 t22).bind fun _ =>
 (mload (some 16) t4).bind fun r0 =>
 M.pure (.ret [r0,(V.int .i64 6)]))
 (M.pure (.nrm [])))) fun _ =>
 (M.lift (Ax.faddr 0 t2)).bind fun t25 =>
 (M.lift (Ax.iaddr (some 8) 1 t25 t1)).bind fun t26 =>
 (mstore 1 t26 (V.bool false)).bind fun _ =>
 (M.lift (Ax.faddr 8 t2)).bind fun t27 =>
 (M.lift (Ax.iaddr (some 8) 1 t27 t1)).bind fun t28 =>
 (mstore 1 t28 (V.int .i64 0)).bind fun _ =>
 (mload (some 16) t2).bind fun t29 =>
 (mstore 16 t4 t29).bind fun _ =>
 (mload (some 16) t4).bind fun r0 =>
 M.pure (.ret [r0,(V.int .i64 0)])
def zmy:Fn':=(T zeX).getD noF
theorem zyv:T zeX = some zmy:=by kernel_rfl
theorem zzA (G:Sem') (t0 t1:V):execK G zmy.rv zmy.body [] [] (params 0 [t0,t1]) = zt6 G t0 t1:=by kernel_rfl
def zoX (G:Sem'):List V → M V
 | [t0,t1]=>fin (zt6 G t0 t1)
 | _=>M.fail
theorem zAt {g:Sem'} (hg:Sims g (sem T)) (args:List V):Sim (zoX g args) (sem T zeX args):=by
 unfold zoX;split
 ·exact zae zyv (Nat.le_of_ble_eq_true (by kernel_rfl)) hg (zzA g _ _)
 ·exact zaa
def znu (G:Sem') (t0 t1 t2:V):M Res :=
 (mbox zw3 t1).bind fun t4 =>
 (mbox ze5 t2).bind fun t5 =>
 (M.lift (Ax.nilck t0)).bind fun t11 =>
 (M.lift (Ax.faddr 1469 t11)).bind fun t12 =>
 (mload none t12).bind fun t13 =>
 (M.pure (.fn zcY [t4,t5])).bind fun t14 =>
 (G za1 [t13,t14]).bind fun t15 =>
 (M.lift (Ax.bin .lss t15 (V.int .i64 0))).bind fun t17 =>
 M.ite t17
 (M.pure (.ret [(V.int .u32 0),(V.bool false)]))
 ((M.lift (Ax.nilck t0)).bind fun t19 =>
 (M.lift (Ax.faddr 1469 t19)).bind fun t20 =>
 (mload none t20).bind fun t21 =>
 (M.lift (Ax.iaddr none 1 t21 t15)).bind fun t23 =>
 (mload none t23).bind fun t24 =>
 (M.lift (Ax.nilck t0)).bind fun t27 =>
 (M.lift (Ax.faddr 1469 t27)).bind fun t28 =>
 (mload none t28).bind fun t29 =>
 (M.lift (Ax.bin .add t15 (V.int .i64 1))).bind fun t32 =>
 (G zbh [t29,t15,t32]).bind fun t33 =>
 (M.lift (Ax.nilck t0)).bind fun t34 =>
 (M.lift (Ax.faddr 1469 t34)).bind fun t35 =>
 (mstore 1 t35 t33).bind fun _ =>
 M.pure (.ret [t24,(V.bool true)]))
def zik:Fn':=(T zdE).getD noF
theorem zsI:T zdE = some zik:=by kernel_rfl
theorem ztC (G:Sem') (t0 t1 t2:V):execK G zik.rv zik.body [] [] (params 0 [t0,t1,t2]) = znu G t0 t1 t2:=by kernel_rfl
def zjL (G:Sem'):List V → M V
 | [t0,t1,t2]=>fin (znu G t0 t1 t2)
 | _=>M.fail
theorem zuO {g:Sem'} (hg:Sims g (sem T)) (args:List V):Sim (zjL g args) (sem T zdE args):=by
 unfold zjL;split
 ·exact zae zsI (Nat.le_of_ble_eq_true (by kernel_rfl)) hg (ztC g _ _ _)
 ·exact zaa
def zyh (G:Sem') (t0:V):M Res :=
 (G ziu []).bind fun t4 =>
 (M.lift (Ax.build [(V.int .u32 0),(V.int .i64 0),(V.int .i64 0),(V.bool false),(V.int .i64 0),(V.int .i64 0),(V.bool false),(V.int .u16 0),(V.int .u32 0),(V.int .u32 0),(V.int .u16 0),(V.int .u16 0),(V.int .i64 0),V.nils,V.nilp,(V.bool false)] [(0,1,t0),(1,1,(V.int .i64 3)),(2,1,(V.int .i64 7)),(14,1,t4)])).bind fun t5 =>
 (mbox zzW t5).bind fun t6 =>
 M.pure (.ret [t6])
def zqo:Fn':=(T ziw).getD noF
theorem zB1:T ziw = some zqo:=by kernel_rfl
theorem zCZ (G:Sem') (t0:V):execK G zqo.rv zqo.body [] [] (params 0 [t0]) = zyh G t0:=by kernel_rfl
def ztQ (G:Sem'):List V → M V
 | [t0]=>fin (zyh G t0)
 | _=>M.fail
theorem zEk {g:Sem'} (hg:Sims g (sem T)) (args:List V):Sim (ztQ g args) (sem T ziw args):=by
 unfold ztQ;split
 ·exact zae zB1 (Nat.le_of_ble_eq_true (by kernel_rfl)) hg (zCZ g _)
 ·exact zaa
def zl3 (G:Sem') (t0 t1 t2:V):M Res :=
 (M.lift (Ax.bin .lss t1 (V.int .i64 0))).bind fun t8 =>
 (guarded [(0,t8)] (some (0,false)) (M.pure t1)).bind fun t10 =>
 (guarded [(0,t8)] (some (0,false)) (M.lift (Ax.bin .gtr t10 (V.int .i64 3)))).bind fun t11 =>
 (M.lift (Ax.pick t8 (V.bool true) t11)).bind fun t12 =>
 (guarded [(0,t12)] (some (0,false)) (M.pure t2)).bind fun t14 =>
 (guarded [(0,t12)] (some (0,false)) (M.lift (Ax.bin .lss t14 (V.int .i64 0)))).bind fun t15 =>
 (M.lift (Ax.pick t12 (V.bool true) t15)).bind fun t16 =>
 (guarded [(0,t16)] (some (0,false)) (M.pure t2)).bind fun t18 =>
 (guarded [(0,t16)] (some (0,false)) (M.lift (Ax.bin .gtr t18 (V.int .i64 7)))).bind fun t19 =>
 (M.lift (Ax.pick t16 (V.bool true) t19)).bind fun t20 =>
 M.ite t20
 (M.pure (.ret [(V.int .i64 1)]))
 ((M.lift (Ax.nilck t0)).bind fun t25 =>
 (M.lift (Ax.faddr 1 t25)).bind fun t26 =>
 (mstore 1 t26 t1).bind fun _ =>
 (M.lift (Ax.nilck t0)).bind fun t27 =>
 (M.lift (Ax.faddr 2 t27)).bind fun t28 =>
 (mstore 1 t28 t2).bind fun _ =>
 M.pure (.ret [(V.int .i64 0)]))
def zhw:Fn':=(T zdc).getD noF
theorem zrc:T zdc = some zhw:=by kernel_rfl
theorem zsf (G:Sem') (t0 t1 t2:V):execK G zhw.rv zhw.body [] [] (params 0 [t0,t1,t2]) = zl3 G t0 t1 t2:=by kernel_rfl
def ziG (G:Sem'):List V → M V
 | [t0,t1,t2]=>fin (zl3 G t0 t1 t2)
 | _=>M.fail
theorem zsU {g:Sem'} (hg:Sims g (sem T)) (args:List V):Sim (ziG g args) (sem T zdc args):=by
 unfold ziG;split
 ·exact zae zrc (Nat.le_of_ble_eq_true (by kernel_rfl)) hg (zsf g _ _ _)
 ·exact zaa
def zwr (G:Sem') (t0 t1 t2:V):M Res :=
 (mbox zaW t0).bind fun t3 =>
 (mbox zaW (V.agg [(V.int .i64 0),(V.bool false),(V.int .i64 0),(V.int .i64 0),(V.int .i64 0),(V.int .i64 0)])).bind fun t6 =>
 M.blk 0 (
 (mload (some 6) t3).bind fun t10 =>
 (G zbH [t10]).bind fun t11 =>
 (M.lift (Ax.un .not t11)).bind fun t12 =>
 (guarded [(0,t12)] (some (0,false)) (M.pure t1)).bind fun t14 =>
 (guarded [(0,t12)] (some (0,false)) (G zeZ [t14])).bind fun t15 =>
 (guarded [(0,t12)] (some (0,false)) (M.lift (Ax.un .not t15))).bind fun t16 =>
 (M.lift (Ax.pick t12 (V.bool true) t16)).bind fun t17 =>
 M.ite t17
 ((mload (some 6) t3).bind fun t18 =>
 (mstore 6 t6 t18).bind fun _ =>
 (mload (some 6) t6).bind fun r0 =>
 M.pure (.ret [r0,(V.bool false),(V.int .i64 1)]))
 ((M.lift (Ax.faddr 1 t3)).bind fun t20 =>
 (mload none t20).bind fun t21 =>
 (M.lift (Ax.un .not t21)).bind fun t22 =>
 (guarded [(0,t22)] (some (0,false)) (M.lift (Ax.faddr 2 t3))).bind fun t24 =>
 (guarded [(0,t22)] (some (0,false)) (mload none t24)).bind fun t25 =>
 (guarded [(0,t22)] (some (0,false)) (M.pure t2)).bind fun t26 =>
 (guarded [(0,t22)] (some (0,false)) (M.lift (Ax.bin .neq t25 t26))).bind fun t27 =>
 (M.lift (Ax.pick t22 (V.bool true) t27)).bind fun t28 =>
 M.ite t28
 ((mload (some 6) t3).bind fun t29 =>
 (mstore 6 t6 t29).bind fun _ =>
 (mload (some 6) t6).bind fun r0 =>
 M.pure (.ret [r0,(V.bool false),(V.int .i64 12)]))
 ((M.lift (Ax.faddr 3 t3)).bind fun t31 =>
 (mload none t31).bind fun t32 =>
 (M.lift (Ax.bin .shr t32 t1)).bind fun t34 =>
 (M.lift (Ax.bin .and t34 (V.int .i64 1))).bind fun t35 =>
 (M.lift (Ax.bin .eql t35 (V.int .i64 0))).bind fun t36 =>
 M.ite t36
 ((mload (some 6) t3).bind fun t37 =>
 (mstore 6 t6 t37).bind fun _ =>
 (mload (some 6) t6).bind fun r0 =>
 M.pure (.ret [r0,(V.bool false),(V.int .i64 6)]))
 ((M.lift (Ax.faddr 4 t3)).bind fun t39 =>
 (mload none t39).bind fun t40 =>
 (M.lift (Ax.bin .shr t40 t1)).bind fun t42 =>
 (M.lift (Ax.bin .and t42 (V.int .i64 1))).bind fun t43 =>
 (M.lift (Ax.bin .eql t43 (V.int .i64 1))).bind fun t44 =>
 M.ite t44
 ((mload (some 6) t3).bind fun t45 =>
 (mstore 6 t6 t45).bind fun _ =>
 (mload (some 6) t6).bind fun r0 =>
 M.pure (.ret [r0,(V.bool false),(V.int .i64 7)]))
 (M.pure (.nrm [])))))) fun _ =>
 (M.lift (Ax.faddr 4 t3)).bind fun t46 =>
 (mload none t46).bind fun t47 =>
 (M.lift (Ax.bin .shl (V.int .i64 1) t1)).bind fun t49 =>
 (M.lift (Ax.bin .or t47 t49)).bind fun t50 =>
 (M.lift (Ax.faddr 4 t3)).bind fun t51 =>
 (mstore 1 t51 t50).bind fun _ =>
 (M.lift (Ax.faddr 4 t3)).bind fun t52 =>
 (mload none t52).bind fun t53 =>
 (M.lift (Ax.faddr 3 t3)).bind fun t54 =>
 (mload none t54).bind fun t55 =>
 (M.lift (Ax.bin .eql t53 t55)).bind fun t56 =>
 M.ite t56
 ((M.lift (Ax.faddr 2 t3)).bind fun t57 =>
 (mload none t57).bind fun t58 =>
 (M.lift (Ax.build [(V.int .i64 0),(V.bool false),(V.int .i64 0),(V.int .i64 0),(V.int .i64 0),(V.int .i64 0)] [(0,1,t58)])).bind fun t59 =>
 (mstore 6 t6 t59).bind fun _ =>
 (mload (some 6) t6).bind fun r0 =>
 M.pure (.ret [r0,(V.bool true),(V.int .i64 0)]))
 ((mload (some 6) t3).bind fun t60 =>
 (mstore 6 t6 t60).bind fun _ =>
 (mload (some 6) t6).bind fun r0 =>
 M.pure (.ret [r0,(V.bool false),(V.int .i64 0)]))
def zog:Fn':=(T zhf).getD noF
theorem zAc:T zhf = some zog:=by kernel_rfl
theorem zBx (G:Sem') (t0 t1 t2:V):execK G zog.rv zog.body [] [] (params 0 [t0,t1,t2]) = zwr G t0 t1 t2:=by kernel_rfl
def zqV (G:Sem'):List V → M V
 | [t0,t1,t2]=>fin (zwr G t0 t1 t2)
 | _=>M.fail
theorem zCo {g:Sem'} (hg:Sims g (sem T)) (args:List V):Sim (zqV g args) (sem T zhf args):=by
 unfold zqV;split
 ·exact zae zAc (Nat.le_of_ble_eq_true (by kernel_rfl)) hg (zBx g _ _ _)
 ·exact zaa
def zrR (G:Sem') (t0 t1 t2:V):M Res :=
 (mbox zaW t0).bind fun t3 =>
 (mbox zaW (V.agg [(V.int .i64 0),(V.bool false),(V.int .i64 0),(V.int .i64 0),(V.int .i64 0),(V.int .i64 0)])).bind fun t6 =>
 (mload (some 6) t3).bind fun t9 =>
 (G zb0 [t9]).bind fun t10 =>
 (M.lift (Ax.bin .add t10 (V.int .i64 1))).bind fun t11 =>
 M.blk 0 (
 (mload (some 6) t3).bind fun t13 =>
 (G zbH [t13]).bind fun t14 =>
 (M.lift (Ax.un .not t14)).bind fun t15 =>
 (guarded [(0,t15)] (some (0,false)) (M.pure t1)).bind fun t17 =>
 (guarded [(0,t15)] (some (0,false)) (M.lift (Ax.bin .lss t17 (V.int .i64 0)))).bind fun t18 =>
 (M.lift (Ax.pick t15 (V.bool true) t18)).bind fun t19 =>
 (guarded [(0,t19)] (some (0,false)) (M.pure t1)).bind fun t21 =>
 (guarded [(0,t19)] (some (0,false)) (M.lift (Ax.bin .gtr t21 (V.int .i64 255)))).bind fun t22 =>
 (M.lift (Ax.pick t19 (V.bool true) t22)).bind fun t23 =>
 M.ite t23
 ((mload (some 6) t3).bind fun t24 =>
 (mstore 6 t6 t24).bind fun _ =>
 (mload (some 6) t6).bind fun r0 =>
 M.pure (.ret [r0,(V.int .i64 1)]))
 ((M.lift (Ax.bin .gtr t11 (V.int .i64 65535))).bind fun t27 =>
 M.ite t27
 ((mload (some 6) t3).bind fun t28 =>
 (mstore 6 t6 t28).bind fun _ =>
 (mload (some 6) t6).bind fun r0 =>
 M.pure (.ret [r0,(V.int .i64 11)]))
 ((M.lift (Ax.bin .eql t1 (V.int .i64 0))).bind fun t31 =>
 M.ite t31
 ((M.lift (Ax.build [(V.int .i64 0),(V.bool false),(V.int .i64 0),(V.int .i64 0),(V.int .i64 0),(V.int .i64 0)] [(0,1,t11)])).bind fun t33 =>
 (mstore 6 t6 t33).bind fun _ =>
 (mload (some 6) t6).bind fun r0 =>
 M.pure (.ret [r0,(V.int .i64 0)]))
 (M.pure (.nrm []))))) fun _ =>
 (M.lift (Ax.faddr 0 t3)).bind fun t34 =>
 (mload none t34).bind fun t35 =>
 (M.lift (Ax.build [(V.int .i64 0),(V.bool false),(V.int .i64 0),(V.int .i64 0),(V.int .i64 0),(V.int .i64 0)] [(0,1,t35),(1,1,(V.bool true)),(2,1,t11),(3,1,t1),(5,1,t2)])).bind fun t39 =>
 (mstore 6 t6 t39).bind fun _ =>
 (mload (some 6) t6).bind fun r0 =>
 M.pure (.ret [r0,(V.int .i64 0)])
def zlq:Fn':=(T zfj).getD noF
theorem zxc:T zfj = some zlq:=by kernel_rfl
theorem zxN (G:Sem') (t0 t1 t2:V):execK G zlq.rv zlq.body [] [] (params 0 [t0,t1,t2]) = zrR G t0 t1 t2:=by kernel_rfl
def zmZ (G:Sem'):List V → M V
 | [t0,t1,t2]=>fin (zrR G t0 t1 t2)
 | _=>M.fail
theorem zyQ {g:Sem'} (hg:Sims g (sem T)) (args:List V):Sim (zmZ g args) (sem T zfj args):=by
 unfold zmZ;split
 ·exact zae zxc (Nat.le_of_ble_eq_true (by kernel_rfl)) hg (zxN g _ _ _)
 ·exact zaa
def zwg (G:Sem') (t0 t1 t2:V):M Res :=
 M.blk 0 (
 (M.lift (Ax.bin .eql t0 (V.int .i64 200))).bind fun t9 =>
 M.ite t9
 (M.pure (.ret [(V.int .i64 1)]))
 ((M.lift (Ax.bin .eql t0 (V.int .i64 201))).bind fun t12 =>
 M.ite t12
 (M.pure (.ret [(V.int .i64 2)]))
 ((M.lift (Ax.bin .eql t0 (V.int .i64 205))).bind fun t15 =>
 (guarded [(0,t15)] (some (0,true)) (M.pure t1)).bind fun t17 =>
 (guarded [(0,t15)] (some (0,true)) (M.lift (Ax.bin .eql t17 (V.int .i64 1)))).bind fun t18 =>
 (M.lift (Ax.pick t15 t18 (V.bool false))).bind fun t19 =>
 M.ite t19
 (M.pure (.ret [(V.int .i64 3)]))
 ((M.lift (Ax.bin .eql t0 (V.int .i64 206))).bind fun t22 =>
 (guarded [(0,t22)] (some (0,true)) (M.pure t1)).bind fun t24 =>
 (guarded [(0,t22)] (some (0,true)) (M.lift (Ax.bin .eql t24 (V.int .i64 1)))).bind fun t25 =>
 (M.lift (Ax.pick t22 t25 (V.bool false))).bind fun t26 =>
 M.ite t26
 (M.pure (.ret [(V.int .i64 4)]))
 ((M.lift (Ax.bin .eql t0 (V.int .i64 206))).bind fun t29 =>
 (guarded [(0,t29)] (some (0,true)) (M.pure t1)).bind fun t31 =>
 (guarded [(0,t29)] (some (0,true)) (M.lift (Ax.bin .eql t31 (V.int .i64 4)))).bind fun t32 =>
 (M.lift (Ax.pick t29 t32 (V.bool false))).bind fun t33 =>
 M.ite t33
 (M.pure (.ret [(V.int .i64 5)]))
 ((M.lift (Ax.bin .eql t0 (V.int .i64 206))).bind fun t36 =>
 (guarded [(0,t36)] (some (0,true)) (M.pure t1)).bind fun t38 =>
 (guarded [(0,t36)] (some (0,true)) (M.lift (Ax.bin .eql t38 (V.int .i64 15)))).bind fun t39 =>
 (M.lift (Ax.pick t36 t39 (V.bool false))).bind fun t40 =>
 (guarded [(0,t40)] (some (0,true)) (M.pure t2)).bind fun t42 =>
 (guarded [(0,t40)] (some (0,true)) (M.lift (vlen t42))).bind fun t43 =>
 (guarded [(0,t40)] (some (0,true)) (M.lift (Ax.bin .geq t43 (V.int .i64 12)))).bind fun t44 =>
 (M.lift (Ax.pick t40 t44 (V.bool false))).bind fun t45 =>
 (guarded [(0,t45)] (some (0,true)) (M.pure t2)).bind fun t47 =>
 (guarded [(0,t45)] (some (0,true)) (M.lift (zbo .sl 1 t47 (some (V.int .i64 8)) (some (V.int .i64 12)) none))).bind fun t48 =>
 (guarded [(0,t45)] (some (0,true)) (mtostr t48)).bind fun t49 =>
 (guarded [(0,t45)] (some (0,true)) (M.lift (Ax.bin .eql t49 (V.str ⟨#[82,69,77,66]⟩)))).bind fun t50 =>
 (M.lift (Ax.pick t45 t50 (V.bool false))).bind fun t51 =>
 M.ite t51
 (M.pure (.ret [(V.int .i64 6)]))
 (M.pure (.nrm [])))))))) fun _ =>
 M.pure (.ret [(V.int .i64 7)])
def zn7:Fn':=(T zfQ).getD noF
theorem zz3:T zfQ = some zn7:=by kernel_rfl
theorem zBo (G:Sem') (t0 t1 t2:V):execK G zn7.rv zn7.body [] [] (params 0 [t0,t1,t2]) = zwg G t0 t1 t2:=by kernel_rfl
def zqK (G:Sem'):List V → M V
 | [t0,t1,t2]=>fin (zwg G t0 t1 t2)
 | _=>M.fail
theorem zCd {g:Sem'} (hg:Sims g (sem T)) (args:List V):Sim (zqK g args) (sem T zfQ args):=by
 unfold zqK;split
 ·exact zae zz3 (Nat.le_of_ble_eq_true (by kernel_rfl)) hg (zBo g _ _ _)
 ·exact zaa
def zk0 (G:Sem') (t0:V):M Res :=
 (G zaQ [t0,(V.int .i64 4)]).bind fun t4 =>
 (M.lift (Ax.cint .u32 t4)).bind fun t5 =>
 M.pure (.ret [t5])
def zgL:Fn':=(T zas).getD noF
theorem zpX:T zas = some zgL:=by kernel_rfl
theorem zqx (G:Sem') (t0:V):execK G zgL.rv zgL.body [] [] (params 0 [t0]) = zk0 G t0:=by kernel_rfl
def zhJ (G:Sem'):List V → M V
 | [t0]=>fin (zk0 G t0)
 | _=>M.fail
theorem zrm {g:Sem'} (hg:Sims g (sem T)) (args:List V):Sim (zhJ g args) (sem T zas args):=by
 unfold zhJ;split
 ·exact zae zpX (Nat.le_of_ble_eq_true (by kernel_rfl)) hg (zqx g _)
 ·exact zaa
def zqs (G:Sem') (t27 t26 t4:V) (L:List V):M Res :=
 (M.lift (Ax.bin .lss (L.getD 1 .undef) t27)).bind fun t29 =>
 M.ite t29
 (M.blk 1 (
 (M.lift (Ax.iaddr none 1 t26 (L.getD 1 .undef))).bind fun t30 =>
 (mload none t30).bind fun t31 =>
 (M.lift (Ax.bin .shl (L.getD 0 .undef) (V.int .u64 8))).bind fun t33 =>
 (M.lift (Ax.cint .u64 t31)).bind fun t35 =>
 (M.lift (Ax.bin .or t33 t35)).bind fun t36 =>
 M.pure (.nrm [t36])) fun L0 =>
 (M.lift (Ax.bin .add (L.getD 1 .undef) (V.int .i64 1))).bind fun t37 =>
 M.pure (.nrm [(L0.getD 0 .undef),t37]))
 (M.pure (.ex 0 [(L.getD 0 .undef)]))
def zlY (G:Sem') (t0 t1:V):M Res :=
 (M.lift (Ax.nilck t0)).bind fun t9 =>
 (M.lift (Ax.faddr 0 t9)).bind fun t10 =>
 (mload none t10).bind fun t11 =>
 (M.lift (vlen t11)).bind fun t12 =>
 (M.lift (Ax.bin .lss t12 t1)).bind fun t14 =>
 M.ite t14
 ((M.lift (Ax.nilck t0)).bind fun t17 =>
 (M.lift (Ax.faddr 1 t17)).bind fun t18 =>
 (mstore 1 t18 (V.bool true)).bind fun _ =>
 (M.lift (Ax.nilck t0)).bind fun t19 =>
 (M.lift (Ax.faddr 0 t19)).bind fun t20 =>
 (mstore 1 t20 V.nils).bind fun _ =>
 M.pure (.ret [(V.int .u64 0)]))
 ((M.lift (Ax.nilck t0)).bind fun t22 =>
 (M.lift (Ax.faddr 0 t22)).bind fun t23 =>
 (mload none t23).bind fun t24 =>
 (M.lift (zbo .sl 1 t24 none (some t1) none)).bind fun t26 =>
 (M.lift (vlen t26)).bind fun t27 =>
 M.blk 0 (
 M.iter (zqs G t27 t26 (V.int .u64 0)) [(V.int .u64 0),(V.int .i64 0)]) fun L1 =>
 (M.lift (Ax.nilck t0)).bind fun t40 =>
 (M.lift (Ax.faddr 0 t40)).bind fun t41 =>
 (mload none t41).bind fun t42 =>
 (M.lift (zbo .sl 1 t42 (some t1) none none)).bind fun t44 =>
 (M.lift (Ax.nilck t0)).bind fun t45 =>
 (M.lift (Ax.faddr 0 t45)).bind fun t46 =>
 (mstore 1 t46 t44).bind fun _ =>
 M.pure (.ret [(L1.getD 0 .undef)]))
def zhs:Fn':=(T zaQ).getD noF
theorem zq8:T zaQ = some zhs:=by kernel_rfl
theorem zsb (G:Sem') (t0 t1:V):execK G zhs.rv zhs.body [] [] (params 0 [t0,t1]) = zlY G t0 t1:=by kernel_rfl
def ziA (G:Sem'):List V → M V
 | [t0,t1]=>fin (zlY G t0 t1)
 | _=>M.fail
theorem zsO {g:Sem'} (hg:Sims g (sem T)) (args:List V):Sim (ziA g args) (sem T zaQ args):=by
 unfold ziA;split
 ·exact zae zq8 (Nat.le_of_ble_eq_true (by kernel_rfl)) hg (zsb g _ _)
 ·exact zaa
def znI (G:Sem') (t7 t0 t4:V) (L:List V):M Res :=
 (M.lift (Ax.bin .lss (L.getD 1 .undef) t7)).bind fun t9 =>
 M.ite t9
 (M.blk 1 (
 (G zas [t0]).bind fun t11 =>
 (G zaQ [t0,(V.int .i64 1)]).bind fun t13 =>
 (M.lift (Ax.cint .u8 t13)).bind fun t14 =>
 (G zaQ [t0,(V.int .i64 3)]).bind fun t16 =>
 (M.lift (Ax.cint .u32 t16)).bind fun t17 =>
 (M.lift (Ax.build [(V.int .u32 0),(V.int .u8 0),(V.int .u32 0),(V.int .u32 0),(V.int .u32 0),(V.int .u32 0),(V.int .u32 0)] [(0,1,t11),(1,1,t14),(2,1,t17)])).bind fun t18 =>
 (mbox zhq (V.agg [(V.int .u32 0),(V.int .u8 0),(V.int .u32 0),(V.int .u32 0),(V.int .u32 0),(V.int .u32 0),(V.int .u32 0)])).bind fun t6 =>
 (mstore 7 t6 t18).bind fun _ =>
 (G zas [t0]).bind fun t20 =>
 (G zas [t0]).bind fun t22 =>
 (G zas [t0]).bind fun t24 =>
 (G zas [t0]).bind fun t26 =>
 (M.lift (Ax.faddr 3 t6)).bind fun t27 =>
 (mstore 1 t27 t20).bind fun _ =>
 (M.lift (Ax.faddr 4 t6)).bind fun t28 =>
 (mstore 1 t28 t22).bind fun _ =>
 (M.lift (Ax.faddr 5 t6)).bind fun t29 =>
 (mstore 1 t29 t24).bind fun _ =>
 (M.lift (Ax.faddr 6 t6)).bind fun t30 =>
 (mstore 1 t30 t26).bind fun _ =>
 (mload (some 7) t6).bind fun t32 =>
 (mslit zhq 1 [(V.int .u32 0),(V.int .u8 0),(V.int .u32 0),(V.int .u32 0),(V.int .u32 0),(V.int .u32 0),(V.int .u32 0)] [(0,7,t32)]).bind fun t33 =>
 (mappend zhq 7 28 (L.getD 0 .undef) t33).bind fun t34 =>
 M.pure (.nrm [t34])) fun L0 =>
 (M.lift (Ax.bin .add (L.getD 1 .undef) (V.int .i64 1))).bind fun t35 =>
 M.pure (.nrm [(L0.getD 0 .undef),t35]))
 (M.pure (.ex 0 [(L.getD 0 .undef)]))
def zjR (G:Sem') (t0 t1:V):M Res :=
 M.blk 0 (
 M.iter (znI G t1 t0 V.nils) [V.nils,(V.int .i64 0)]) fun L1 =>
 M.pure (.ret [(L1.getD 0 .undef)])
def zfJ:Fn':=(T zbZ).getD noF
theorem znN:T zbZ = some zfJ:=by kernel_rfl
theorem zoJ (G:Sem') (t0 t1:V):execK G zfJ.rv zfJ.body [] [] (params 0 [t0,t1]) = zjR G t0 t1:=by kernel_rfl
def zgs (G:Sem'):List V → M V
 | [t0,t1]=>fin (zjR G t0 t1)
 | _=>M.fail
theorem zps {g:Sem'} (hg:Sims g (sem T)) (args:List V):Sim (zgs g args) (sem T zbZ args):=by
 unfold zgs;split
 ·exact zae znN (Nat.le_of_ble_eq_true (by kernel_rfl)) hg (zoJ g _ _)
 ·exact zaa
def zos (G:Sem') (t1 t0:V) (L:List V):M Res :=
 M.ite (L.getD 0 .undef)
 (M.blk 2 (
 (M.lift (Ax.nilck t1)).bind fun t28 =>
 (M.lift (Ax.faddr 8 t28)).bind fun t29 =>
 (mload none t29).bind fun t30 =>
 M.getH.bind fun h0 =>
 (G zaQ [t0,(V.int .i64 2)]).bind fun t32 =>
 M.getH.bind fun h0' =>
 (M.unch t29 h0 h0').bind fun _ =>
 M.getH.bind fun h1 =>
 (G zaQ [t0,(V.int .i64 2)]).bind fun t35 =>
 M.getH.bind fun h1' =>
 (M.unch t29 h1 h1').bind fun _ =>
 (M.lift (Ax.cint .u16 t32)).bind fun t33 =>
 (M.lift (Ax.cint .u16 t35)).bind fun t36 =>
 (M.lift (Ax.build [(V.int .u16 0),(V.int .u16 0)] [(0,1,t33),(1,1,t36)])).bind fun t37 =>
 (mslit zkX 1 [(V.int .u16 0),(V.int .u16 0)] [(0,2,t37)]).bind fun t38 =>
 (mappend zkX 2 4 t30 t38).bind fun t39 =>
 (M.lift (Ax.nilck t1)).bind fun t40 =>
 (M.lift (Ax.faddr 8 t40)).bind fun t41 =>
 (mstore 1 t41 t39).bind fun _ =>
 M.pure (.nrm [])) fun _ =>
 (M.lift (Ax.nilck t0)).bind fun t21 =>
 (M.lift (Ax.faddr 0 t21)).bind fun t22 =>
 (mload none t22).bind fun t23 =>
 (M.lift (vlen t23)).bind fun t24 =>
 (M.lift (Ax.bin .gtr t24 (V.int .i64 0))).bind fun t25 =>
 M.pure (.nrm [t25]))
 (M.pure (.ex 1 []))
def zor (G:Sem') (t1 t0:V) (L:List V):M Res :=
 M.ite (L.getD 0 .undef)
 (M.blk 4 (
 (M.lift (Ax.nilck t1)).bind fun t53 =>
 (M.lift (Ax.faddr 9 t53)).bind fun t54 =>
 (mload none t54).bind fun t55 =>
 M.getH.bind fun h2 =>
 (G zas [t0]).bind fun t57 =>
 M.getH.bind fun h2' =>
 (M.unch t54 h2 h2').bind fun _ =>
 M.getH.bind fun h3 =>
 (G zaQ [t0,(V.int .i64 1)]).bind fun t59 =>
 M.getH.bind fun h3' =>
 (M.unch t54 h3 h3').bind fun _ =>
 (M.lift (Ax.cint .u8 t59)).bind fun t60 =>
 (M.lift (Ax.build [(V.int .u32 0),(V.int .u8 0)] [(0,1,t57),(1,1,t60)])).bind fun t61 =>
 (mslit zmh 1 [(V.int .u32 0),(V.int .u8 0)] [(0,2,t61)]).bind fun t62 =>
 (mappend zmh 2 8 t55 t62).bind fun t63 =>
 (M.lift (Ax.nilck t1)).bind fun t64 =>
 (M.lift (Ax.faddr 9 t64)).bind fun t65 =>
 (mstore 1 t65 t63).bind fun _ =>
 (G zaQ [t0,(V.int .i64 3)]).bind fun t67 =>
 (M.lift (Ax.bin .neq t67 (V.int .u64 0))).bind fun t68 =>
 M.join (M.ite t68
 ((M.lift (Ax.nilck t0)).bind fun t70 =>
 (M.lift (Ax.faddr 1 t70)).bind fun t71 =>
 (mstore 1 t71 (V.bool true)).bind fun _ =>
 M.pure (.nrm []))
 (M.pure (.nrm []))) fun _ =>
 M.pure (.nrm [])) fun _ =>
 (M.lift (Ax.nilck t0)).bind fun t46 =>
 (M.lift (Ax.faddr 0 t46)).bind fun t47 =>
 (mload none t47).bind fun t48 =>
 (M.lift (vlen t48)).bind fun t49 =>
 (M.lift (Ax.bin .gtr t49 (V.int .i64 0))).bind fun t50 =>
 M.pure (.nrm [t50]))
 (M.pure (.ex 3 []))
def zoq (G:Sem') (t93 t1 t0:V) (L:List V):M Res :=
 (M.lift (Ax.bin .lss (L.getD 0 .undef) t93)).bind fun t95 =>
 M.ite t95
 (M.blk 6 (
 (M.lift (Ax.nilck t1)).bind fun t98 =>
 (M.lift (Ax.faddr 12 t98)).bind fun t99 =>
 (mload none t99).bind fun t100 =>
 M.getH.bind fun h4 =>
 (G zas [t0]).bind fun t102 =>
 M.getH.bind fun h4' =>
 (M.unch t99 h4 h4').bind fun _ =>
 (mslit zes 1 [(V.int .u32 0)] [(0,1,t102)]).bind fun t103 =>
 (mappend zes 1 4 t100 t103).bind fun t104 =>
 (M.lift (Ax.nilck t1)).bind fun t105 =>
 (M.lift (Ax.faddr 12 t105)).bind fun t106 =>
 (mstore 1 t106 t104).bind fun _ =>
 M.pure (.nrm [])) fun _ =>
 (M.lift (Ax.bin .add (L.getD 0 .undef) (V.int .i64 1))).bind fun t107 =>
 M.pure (.nrm [t107]))
 (M.pure (.ex 5 []))
def zkk (G:Sem') (t0 t1:V):M Res :=
 (G zas [t0]).bind fun t10 =>
 (M.lift (Ax.nilck t1)).bind fun t11 =>
 (M.lift (Ax.faddr 2 t11)).bind fun t12 =>
 (mstore 1 t12 t10).bind fun _ =>
 (M.lift (Ax.nilck t1)).bind fun t14 =>
 (M.lift (Ax.faddr 0 t14)).bind fun t15 =>
 (mload none t15).bind fun t16 =>
 M.blk 0 (
 (M.lift (Ax.bin .eql t16 (V.int .i64 3))).bind fun t18 =>
 M.join (M.ite t18
 (M.blk 1 (
 M.iter (zos G t1 t0) [(V.bool true)]) fun _ =>
 M.pure (.nrm []))
 ((M.lift (Ax.bin .eql t16 (V.int .i64 5))).bind fun t43 =>
 M.join (M.ite t43
 (M.blk 3 (
 M.iter (zor G t1 t0) [(V.bool true)]) fun _ =>
 M.pure (.nrm []))
 ((M.lift (Ax.bin .eql t16 (V.int .i64 6))).bind fun t73 =>
 M.join (M.ite t73
 ((G zas [t0]).bind fun t75 =>
 (G zaQ [t0,(V.int .i64 1)]).bind fun t77 =>
 (M.lift (Ax.cint .i64 t77)).bind fun t78 =>
 (G zaQ [t0,(V.int .i64 3)]).bind fun t80 =>
 (M.lift (Ax.bin .shr t80 (V.int .u64 18))).bind fun t84 =>
 (M.lift (Ax.cint .i64 t84)).bind fun t85 =>
 (M.lift (Ax.bin .and t80 (V.int .u64 262143))).bind fun t87 =>
 (M.lift (Ax.cint .u32 t87)).bind fun t88 =>
 (M.lift (Ax.nilck t1)).bind fun t89 =>
 (M.lift (Ax.faddr 10 t89)).bind fun t90 =>
 (mstore 1 t90 t85).bind fun _ =>
 (M.lift (Ax.nilck t1)).bind fun t91 =>
 (M.lift (Ax.faddr 11 t91)).bind fun t92 =>
 (mstore 1 t92 t88).bind fun _ =>
 M.blk 5 (
 M.iter (zoq G t78 t1 t0) [(V.int .i64 0)]) fun _ =>
 M.pure (.nrm []))
 (M.pure (.nrm []))) fun _ =>
 M.pure (.nrm []))) fun _ =>
 M.pure (.nrm []))) fun _ =>
 M.pure (.nrm [])) fun _ =>
 M.pure (.ret [])
def zgm:Fn':=(T zcF).getD noF
theorem zpm:T zcF = some zgm:=by kernel_rfl
theorem zpD (G:Sem') (t0 t1:V):execK G zgm.rv zgm.body [] [] (params 0 [t0,t1]) = zkk G t0 t1:=by kernel_rfl
def zgX (G:Sem'):List V → M V
 | [t0,t1]=>fin (zkk G t0 t1)
 | _=>M.fail
theorem zp5 {g:Sem'} (hg:Sims g (sem T)) (args:List V):Sim (zgX g args) (sem T zcF args):=by
 unfold zgX;split
 ·exact zae zpm (Nat.le_of_ble_eq_true (by kernel_rfl)) hg (zpD g _ _)
 ·exact zaa
end Go.Ax.Cc
/- CiS8 -/
namespace Go.Ax.Cc
open Go.Proofs
def zzs (G:Sem') (t5 t2:V) (L:List V):M Res :=
 (M.lift (Ax.bin .lss (L.getD 1 .undef) (V.int .u16 16))).bind fun t19 =>
 M.ite t19
 (M.blk 3 (
 (M.lift (Ax.faddr 1 t5)).bind fun t21 =>
 (mload none t21).bind fun t22 =>
 (M.lift (Ax.bin .shr t22 (L.getD 1 .undef))).bind fun t24 =>
 (M.lift (Ax.bin .and t24 (V.int .u16 1))).bind fun t25 =>
 (M.lift (Ax.bin .eql t25 (V.int .u16 1))).bind fun t26 =>
 M.join (M.ite t26
 ((M.lift (Ax.faddr 0 t5)).bind fun t28 =>
 (mload none t28).bind fun t29 =>
 (M.lift (Ax.bin .add t29 (L.getD 1 .undef))).bind fun t31 =>
 (M.lift (Ax.bin .add t31 (V.int .u16 1))).bind fun t32 =>
 (mslit zfG 1 [(V.int .u16 0)] [(0,1,t32)]).bind fun t33 =>
 (mappend zfG 1 2 (L.getD 0 .undef) t33).bind fun t34 =>
 M.pure (.nrm [t34]))
 (M.pure (.nrm [(L.getD 0 .undef)]))) fun L0 =>
 M.pure (.nrm [(L0.getD 0 .undef)])) fun L1 =>
 (M.lift (Ax.bin .add (L.getD 1 .undef) (V.int .u16 1))).bind fun t35 =>
 M.pure (.nrm [(L1.getD 0 .undef),t35]))
 (M.pure (.ex 2 [(L.getD 0 .undef)]))
def zzr (G:Sem') (t8 t7 t2:V) (L:List V):M Res :=
 (M.lift (Ax.bin .lss (L.getD 1 .undef) t8)).bind fun t10 =>
 M.ite t10
 (M.blk 1 (
 (M.lift (Ax.iaddr none 2 t7 (L.getD 1 .undef))).bind fun t11 =>
 (mload (some 2) t11).bind fun t12 =>
 (mbox zkX (V.agg [(V.int .u16 0),(V.int .u16 0)])).bind fun t5 =>
 (mstore 2 t5 t12).bind fun _ =>
 (M.lift (Ax.faddr 0 t5)).bind fun t14 =>
 (mload none t14).bind fun t15 =>
 (mslit zfG 1 [(V.int .u16 0)] [(0,1,t15)]).bind fun t16 =>
 (mappend zfG 1 2 (L.getD 0 .undef) t16).bind fun t17 =>
 M.blk 2 (
 M.iter (zzs G t5 t2) [t17,(V.int .u16 0)]) fun L2 =>
 M.pure (.nrm [(L2.getD 0 .undef)])) fun L3 =>
 (M.lift (Ax.bin .add (L.getD 1 .undef) (V.int .i64 1))).bind fun t36 =>
 M.pure (.nrm [(L3.getD 0 .undef),t36]))
 (M.pure (.ex 0 [(L.getD 0 .undef)]))
def zwl (G:Sem') (t0:V):M Res :=
 (M.lift (vlen t0)).bind fun t8 =>
 M.blk 0 (
 M.iter (zzr G t8 t0 V.nils) [V.nils,(V.int .i64 0)]) fun L4 =>
 M.pure (.ret [(L4.getD 0 .undef)])
def zoa:Fn':=(T zhb).getD noF
theorem zz6:T zhb = some zoa:=by kernel_rfl
theorem zBr (G:Sem') (t0:V):execK G zoa.rv zoa.body [] [] (params 0 [t0]) = zwl G t0:=by kernel_rfl
def zqN (G:Sem'):List V → M V
 | [t0]=>fin (zwl G t0)
 | _=>M.fail
theorem zCg {g:Sem'} (hg:Sims g (sem T)) (args:List V):Sim (zqN g args) (sem T zhb args):=by
 unfold zqN;split
 ·exact zae zz6 (Nat.le_of_ble_eq_true (by kernel_rfl)) hg (zBr g _)
 ·exact zaa
def zot (G:Sem') (t0 t1:V):M Res :=
 (G zdK [t0,t1]).bind fun t9 =>
 (M.lift (Ax.bin .lss t9 (V.int .i64 0))).bind fun t11 =>
 M.ite t11
 (M.pure (.ret [V.nils,(V.bool false)]))
 ((M.lift (Ax.nilck t0)).bind fun t13 =>
 (M.lift (Ax.faddr 0 t13)).bind fun t14 =>
 (mload none t14).bind fun t15 =>
 (M.lift (Ax.iaddr none 2 t15 t9)).bind fun t17 =>
 (M.lift (Ax.faddr 1 t17)).bind fun t18 =>
 (mload none t18).bind fun t19 =>
 (G zaL [t19]).bind fun t20 =>
 M.pure (.ret [t20,(V.bool true)]))
def zje:Fn':=(T zd0).getD noF
theorem zul:T zd0 = some zje:=by kernel_rfl
theorem zu2 (G:Sem') (t0 t1:V):execK G zje.rv zje.body [] [] (params 0 [t0,t1]) = zot G t0 t1:=by kernel_rfl
def zkz (G:Sem'):List V → M V
 | [t0,t1]=>fin (zot G t0 t1)
 | _=>M.fail
theorem zvC {g:Sem'} (hg:Sims g (sem T)) (args:List V):Sim (zkz g args) (sem T zd0 args):=by
 unfold zkz;split
 ·exact zae zul (Nat.le_of_ble_eq_true (by kernel_rfl)) hg (zu2 g _ _)
 ·exact zaa
def zl4 (G:Sem') (t0:V):M Res :=
 (M.lift (Ax.nilck t0)).bind fun t5 =>
 (M.lift (Ax.faddr 3 t5)).bind fun t6 =>
 (mload (some 3) t6).bind fun t7 =>
 (G zgc [t7]).bind fun t8 =>
 (M.lift (Ax.ext 0 t8)).bind fun t9 =>
 (M.lift (Ax.ext 1 t8)).bind fun t10 =>
 M.pure (.ret [t9,t10])
def zhx:Fn':=(T zcz).getD noF
theorem zrd:T zcz = some zhx:=by kernel_rfl
theorem zsg (G:Sem') (t0:V):execK G zhx.rv zhx.body [] [] (params 0 [t0]) = zl4 G t0:=by kernel_rfl
def ziH (G:Sem'):List V → M V
 | [t0]=>fin (zl4 G t0)
 | _=>M.fail
theorem zsV {g:Sem'} (hg:Sims g (sem T)) (args:List V):Sim (ziH g args) (sem T zcz args):=by
 unfold ziH;split
 ·exact zae zrd (Nat.le_of_ble_eq_true (by kernel_rfl)) hg (zsg g _)
 ·exact zaa
def znk (G:Sem') (t0:V):M Res :=
 (M.lift (Ax.nilck t0)).bind fun t5 =>
 (M.lift (Ax.faddr 3 t5)).bind fun t6 =>
 (M.lift (Ax.faddr 1 t6)).bind fun t7 =>
 (mload none t7).bind fun t8 =>
 (M.lift (Ax.nilck t0)).bind fun t10 =>
 (M.lift (Ax.faddr 3 t10)).bind fun t11 =>
 (M.lift (Ax.faddr 0 t11)).bind fun t12 =>
 (mload none t12).bind fun t13 =>
 M.pure (.ret [t8,t13])
def zia:Fn':=(T zdB).getD noF
theorem zsy:T zdB = some zia:=by kernel_rfl
theorem zts (G:Sem') (t0:V):execK G zia.rv zia.body [] [] (params 0 [t0]) = znk G t0:=by kernel_rfl
def zjy (G:Sem'):List V → M V
 | [t0]=>fin (znk G t0)
 | _=>M.fail
theorem zuB {g:Sem'} (hg:Sims g (sem T)) (args:List V):Sim (zjy g args) (sem T zdB args):=by
 unfold zjy;split
 ·exact zae zsy (Nat.le_of_ble_eq_true (by kernel_rfl)) hg (zts g _)
 ·exact zaa
def zyj (G:Sem') (t0 t1:V):M Res :=
 (mbox zea t0).bind fun t2 =>
 (mbox zea (V.agg [(V.bool false),(V.int .i64 0),(V.int .i64 0)])).bind fun t4 =>
 (mload (some 3) t2).bind fun t6 =>
 (G zeL [t6]).bind fun t7 =>
 (M.lift (Ax.un .not t7)).bind fun t8 =>
 (guarded [(0,t8)] (some (0,false)) (M.pure t1)).bind fun t10 =>
 (guarded [(0,t8)] (some (0,false)) (G zdx [t10])).bind fun t11 =>
 (guarded [(0,t8)] (some (0,false)) (M.lift (Ax.un .not t11))).bind fun t12 =>
 (M.lift (Ax.pick t8 (V.bool true) t12)).bind fun t13 =>
 M.ite t13
 ((mload (some 3) t2).bind fun t14 =>
 (mstore 3 t4 t14).bind fun _ =>
 (mload (some 3) t4).bind fun r0 =>
 M.pure (.ret [r0,(V.int .i64 1)]))
 ((M.lift (Ax.faddr 2 t2)).bind fun t16 =>
 (mstore 1 t16 t1).bind fun _ =>
 (mload (some 3) t2).bind fun t17 =>
 (mstore 3 t4 t17).bind fun _ =>
 (mload (some 3) t4).bind fun r0 =>
 M.pure (.ret [r0,(V.int .i64 0)]))
def zqq:Fn':=(T zix).getD noF
theorem zB3:T zix = some zqq:=by kernel_rfl
theorem zC1 (G:Sem') (t0 t1:V):execK G zqq.rv zqq.body [] [] (params 0 [t0,t1]) = zyj G t0 t1:=by kernel_rfl
def ztS (G:Sem'):List V → M V
 | [t0,t1]=>fin (zyj G t0 t1)
 | _=>M.fail
theorem zEm {g:Sem'} (hg:Sims g (sem T)) (args:List V):Sim (ztS g args) (sem T zix args):=by
 unfold ztS;split
 ·exact zae zB3 (Nat.le_of_ble_eq_true (by kernel_rfl)) hg (zC1 g _ _)
 ·exact zaa
def zBb (G:Sem') (t0:V) (L:List V):M Res :=
 (M.lift (vlen (L.getD 0 .undef))).bind fun t11 =>
 (M.lift (Ax.bin .gtr t11 (V.int .i64 0))).bind fun t12 =>
 M.ite t12
 (M.blk 1 (
 (M.lift (Ax.iaddr none 1 (L.getD 0 .undef) (V.int .i64 0))).bind fun t14 =>
 (mload none t14).bind fun t15 =>
 (M.lift (Ax.bin .eql t15 (V.int .u8 0))).bind fun t16 =>
 M.ite t16
 ((M.lift (zbo .sl 1 (L.getD 0 .undef) (some (V.int .i64 1)) none none)).bind fun t18 =>
 M.pure (.ex 1 [t18,(L.getD 1 .undef)]))
 ((M.lift (Ax.bin .eql t0 (V.int .i64 48862))).bind fun t20 =>
 (guarded [(0,t20)] (some (0,true)) (M.pure (L.getD 0 .undef))).bind fun t22 =>
 (guarded [(0,t20)] (some (0,true)) (M.lift (Ax.iaddr none 1 t22 (V.int .i64 0)))).bind fun t23 =>
 (guarded [(0,t20)] (some (0,true)) (mload none t23)).bind fun t24 =>
 (guarded [(0,t20)] (some (0,true)) (M.lift (Ax.bin .shr t24 (V.int .u64 4)))).bind fun t25 =>
 (guarded [(0,t20)] (some (0,true)) (M.lift (Ax.bin .eql t25 (V.int .u8 15)))).bind fun t26 =>
 (M.lift (Ax.pick t20 t26 (V.bool false))).bind fun t27 =>
 M.ite t27
 (M.pure (.ex 0 [(L.getD 1 .undef)]))
 ((G zfg [t0,(L.getD 0 .undef)]).bind fun t31 =>
 (M.lift (Ax.ext 0 t31)).bind fun t32 =>
 (M.lift (Ax.ext 1 t31)).bind fun t33 =>
 (M.lift (Ax.ext 2 t31)).bind fun t34 =>
 (mbox zet (V.agg [(V.int .i64 0),V.nils])).bind fun t7 =>
 (mstore 2 t7 t32).bind fun _ =>
 (M.lift (Ax.un .not t34)).bind fun t36 =>
 M.ite t36
 (M.pure (.ret [V.nils,(V.bool false)]))
 ((mload (some 2) t7).bind fun t38 =>
 (mslit zet 1 [(V.int .i64 0),V.nils] [(0,2,t38)]).bind fun t39 =>
 (mappend zet 2 32 (L.getD 1 .undef) t39).bind fun t40 =>
 (M.lift (zbo .sl 1 (L.getD 0 .undef) (some t33) none none)).bind fun t43 =>
 M.pure (.nrm [t43,t40]))))) fun L0 =>
 M.pure (.nrm [(L0.getD 0 .undef),(L0.getD 1 .undef)]))
 (M.pure (.ex 0 [(L.getD 1 .undef)]))
def zx8 (G:Sem') (t0 t1:V):M Res :=
 M.blk 0 (
 M.iter (zBb G t0) [t1,V.nils]) fun L1 =>
 M.pure (.ret [(L1.getD 0 .undef),(V.bool true)])
def zqf:Fn':=(T ziq).getD noF
theorem zBS:T ziq = some zqf:=by kernel_rfl
theorem zCQ (G:Sem') (t0 t1:V):execK G zqf.rv zqf.body [] [] (params 0 [t0,t1]) = zx8 G t0 t1:=by kernel_rfl
def ztH (G:Sem'):List V → M V
 | [t0,t1]=>fin (zx8 G t0 t1)
 | _=>M.fail
theorem zEb {g:Sem'} (hg:Sims g (sem T)) (args:List V):Sim (ztH g args) (sem T ziq args):=by
 unfold ztH;split
 ·exact zae zBS (Nat.le_of_ble_eq_true (by kernel_rfl)) hg (zCQ g _ _)
 ·exact zaa
def zgD (G:Sem') (t7 t1 t0:V) (L:List V):M Res :=
 (M.lift (Ax.bin .lss (L.getD 0 .undef) t7)).bind fun t9 =>
 M.ite t9
 (M.blk 1 (
 (M.lift (Ax.iaddr none 2 t0 (L.getD 0 .undef))).bind fun t14 =>
 (mload (some 2) t14).bind fun t15 =>
 (callv G t1 [t15]).bind fun t16 =>
 M.ite t16
 (M.pure (.ret [(L.getD 0 .undef)]))
 (M.pure (.nrm []))) fun _ =>
 (M.lift (Ax.bin .add (L.getD 0 .undef) (V.int .i64 1))).bind fun t18 =>
 M.pure (.nrm [t18]))
 (M.pure (.ex 0 []))
def zdT (G:Sem') (t0 t1:V):M Res :=
 (M.lift (vlen t0)).bind fun t7 =>
 M.blk 0 (
 M.iter (zgD G t7 t1 t0) [(V.int .i64 0)]) fun _ =>
 M.pure (.ret [(V.int .i64 (-1))])
def zch:Fn':=(T zaN).getD noF
theorem zgK:T zaN = some zch:=by kernel_rfl
theorem zgV (G:Sem') (t0 t1:V):execK G zch.rv zch.body [] [] (params 0 [t0,t1]) = zdT G t0 t1:=by kernel_rfl
def zcs (G:Sem'):List V → M V
 | [t0,t1]=>fin (zdT G t0 t1)
 | _=>M.fail
theorem zho {g:Sem'} (hg:Sims g (sem T)) (args:List V):Sim (zcs g args) (sem T zaN args):=by
 unfold zcs;split
 ·exact zae zgK (Nat.le_of_ble_eq_true (by kernel_rfl)) hg (zgV g _ _)
 ·exact zaa
def zx9 (G:Sem') (t0 t1:V):M Res :=
 (mbox zet t0).bind fun t2 =>
 (M.lift (Ax.faddr 0 t2)).bind fun t4 =>
 (mload none t4).bind fun t5 =>
 (mload none t1).bind fun t6 =>
 (M.lift (Ax.bin .eql t5 t6)).bind fun t7 =>
 M.pure (.ret [t7])
def zqg:Fn':=(T zir).getD noF
theorem zBT:T zir = some zqg:=by kernel_rfl
theorem zCR (G:Sem') (t0 t1:V):execK G zqg.rv zqg.body [] [] (params 0 [t0,t1]) = zx9 G t0 t1:=by kernel_rfl
def ztI (G:Sem'):List V → M V
 | [t0,t1]=>fin (zx9 G t0 t1)
 | _=>M.fail
theorem zEc {g:Sem'} (hg:Sims g (sem T)) (args:List V):Sim (ztI g args) (sem T zir args):=by
 unfold ztI;split
 ·exact zae zBT (Nat.le_of_ble_eq_true (by kernel_rfl)) hg (zCR g _ _)
 ·exact zaa
def zpC (G:Sem') (t19 t0:V) (L:List V):M Res :=
 (M.lift (Ax.bin .lss (L.getD 1 .undef) t19)).bind fun t21 =>
 M.ite t21
 (M.blk 2 (
 (M.lift (Ax.bin .shl (L.getD 0 .undef) (V.int .u64 1))).bind fun t23 =>
 (M.lift (Ax.nilck t0)).bind fun t25 =>
 (M.lift (Ax.faddr 0 t25)).bind fun t26 =>
 (mload none t26).bind fun t27 =>
 (M.lift (Ax.nilck t0)).bind fun t29 =>
 (M.lift (Ax.faddr 1 t29)).bind fun t30 =>
 (mload none t30).bind fun t31 =>
 (M.lift (Ax.bin .quo t31 (V.int .i64 8))).bind fun t32 =>
 (M.lift (Ax.iaddr none 1 t27 t32)).bind fun t33 =>
 (mload none t33).bind fun t34 =>
 (M.lift (Ax.nilck t0)).bind fun t36 =>
 (M.lift (Ax.faddr 1 t36)).bind fun t37 =>
 (mload none t37).bind fun t38 =>
 (M.lift (Ax.bin .rem t38 (V.int .i64 8))).bind fun t39 =>
 (M.lift (Ax.bin .sub (V.int .i64 7) t39)).bind fun t40 =>
 (M.lift (Ax.bin .shr t34 t40)).bind fun t41 =>
 (M.lift (Ax.bin .and t41 (V.int .u8 1))).bind fun t42 =>
 (M.lift (Ax.cint .u64 t42)).bind fun t43 =>
 (M.lift (Ax.bin .or t23 t43)).bind fun t44 =>
 (M.lift (Ax.nilck t0)).bind fun t46 =>
 (M.lift (Ax.faddr 1 t46)).bind fun t47 =>
 (mload none t47).bind fun t48 =>
 (M.lift (Ax.bin .add t48 (V.int .i64 1))).bind fun t49 =>
 (M.lift (Ax.nilck t0)).bind fun t50 =>
 (M.lift (Ax.faddr 1 t50)).bind fun t51 =>
 (mstore 1 t51 t49).bind fun _ =>
 M.pure (.nrm [t44])) fun L1 =>
 (M.lift (Ax.bin .add (L.getD 1 .undef) (V.int .i64 1))).bind fun t52 =>
 M.pure (.nrm [(L1.getD 0 .undef),t52]))
 (M.pure (.ex 1 [(L.getD 0 .undef)]))
def zk6 (G:Sem') (t0 t1:V):M Res :=
 M.blk 0 (
 (M.lift (Ax.bin .lss t1 (V.int .i64 0))).bind fun t9 =>
 (guarded [(0,t9)] (some (0,false)) (M.pure t1)).bind fun t11 =>
 (guarded [(0,t9)] (some (0,false)) (M.lift (Ax.bin .gtr t11 (V.int .i64 64)))).bind fun t12 =>
 (M.lift (Ax.pick t9 (V.bool true) t12)).bind fun t13 =>
 M.ite t13
 (M.pure (.ret [(V.int .u64 0),(V.int .i64 1)]))
 ((G zck [t0]).bind fun t17 =>
 (M.lift (Ax.bin .gtr t1 t17)).bind fun t18 =>
 M.ite t18
 (M.pure (.ret [(V.int .u64 0),(V.int .i64 3)]))
 (M.pure (.nrm [])))) fun _ =>
 M.blk 1 (
 M.iter (zpC G t1 t0) [(V.int .u64 0),(V.int .i64 0)]) fun L2 =>
 M.pure (.ret [(L2.getD 0 .undef),(V.int .i64 0)])
def zgR:Fn':=(T zb3).getD noF
theorem zp3:T zb3 = some zgR:=by kernel_rfl
theorem zqD (G:Sem') (t0 t1:V):execK G zgR.rv zgR.body [] [] (params 0 [t0,t1]) = zk6 G t0 t1:=by kernel_rfl
def zhP (G:Sem'):List V → M V
 | [t0,t1]=>fin (zk6 G t0 t1)
 | _=>M.fail
theorem zrs {g:Sem'} (hg:Sims g (sem T)) (args:List V):Sim (zhP g args) (sem T zb3 args):=by
 unfold zhP;split
 ·exact zae zp3 (Nat.le_of_ble_eq_true (by kernel_rfl)) hg (zqD g _ _)
 ·exact zaa
def zkn (G:Sem') (t0:V) (L:List V):M Res :=
 (M.lift (Ax.nilck t0)).bind fun t8 =>
 (M.lift (Ax.faddr 1 t8)).bind fun t9 =>
 (mload none t9).bind fun t10 =>
 (M.lift (Ax.bin .eql t10 (V.int .i64 0))).bind fun t11 =>
 M.ite t11
 (M.blk 1 (
 (M.lift (vlen (L.getD 0 .undef))).bind fun t14 =>
 (M.lift (Ax.bin .sub t14 (V.int .i64 1))).bind fun t15 =>
 (M.lift (Ax.iaddr none 5 (L.getD 0 .undef) t15)).bind fun t16 =>
 (M.lift (Ax.faddr 0 t16)).bind fun t17 =>
 (mload none t17).bind fun t18 =>
 (M.lift (vlen (L.getD 0 .undef))).bind fun t21 =>
 (M.lift (Ax.bin .sub t21 (V.int .i64 1))).bind fun t22 =>
 (M.lift (Ax.iaddr none 5 (L.getD 0 .undef) t22)).bind fun t23 =>
 (M.lift (Ax.faddr 1 t23)).bind fun t24 =>
 (mload none t24).bind fun t25 =>
 (M.lift (Ax.build [(V.int .i64 0),(V.int .i64 0),V.nils,V.nils,V.nils] [(0,1,t18),(1,1,t25)])).bind fun t26 =>
 (mbox zaw (V.agg [(V.int .i64 0),(V.int .i64 0),V.nils,V.nils,V.nils])).bind fun t4 =>
 (mstore 5 t4 t26).bind fun _ =>
 (G zao [t0,(V.int .i64 2)]).bind fun t28 =>
 M.blk 2 (
 (M.lift (Ax.bin .eql t28 (V.int .i64 3))).bind fun t30 =>
 M.ite t30
 (M.pure (.ret [(L.getD 0 .undef)]))
 ((M.lift (Ax.bin .eql t28 (V.int .i64 1))).bind fun t33 =>
 M.join (M.ite t33
 ((M.lift (Ax.faddr 1 t4)).bind fun t34 =>
 (mload none t34).bind fun t35 =>
 (M.lift (Ax.bin .add t35 (V.int .i64 1))).bind fun t36 =>
 (M.lift (Ax.faddr 1 t4)).bind fun t37 =>
 (mstore 1 t37 t36).bind fun _ =>
 M.pure (.nrm []))
 ((M.lift (Ax.bin .eql t28 (V.int .i64 2))).bind fun t39 =>
 M.join (M.ite t39
 ((M.lift (Ax.faddr 0 t4)).bind fun t40 =>
 (mload none t40).bind fun t41 =>
 (M.lift (Ax.bin .add t41 (V.int .i64 1))).bind fun t42 =>
 (M.lift (Ax.faddr 0 t4)).bind fun t43 =>
 (mstore 1 t43 t42).bind fun _ =>
 (M.lift (Ax.faddr 1 t4)).bind fun t44 =>
 (mstore 1 t44 (V.int .i64 0)).bind fun _ =>
 M.pure (.nrm []))
 (M.pure (.nrm []))) fun _ =>
 M.pure (.nrm []))) fun _ =>
 M.pure (.nrm []))) fun _ =>
 (M.lift (Ax.faddr 0 t4)).bind fun t45 =>
 (mload none t45).bind fun t46 =>
 (M.lift (Ax.bin .gtr t46 (V.int .i64 3))).bind fun t47 =>
 (guarded [(0,t47)] (some (0,false)) (M.lift (Ax.faddr 1 t4))).bind fun t49 =>
 (guarded [(0,t47)] (some (0,false)) (mload none t49)).bind fun t50 =>
 (guarded [(0,t47)] (some (0,false)) (M.lift (Ax.bin .gtr t50 (V.int .i64 7)))).bind fun t51 =>
 (M.lift (Ax.pick t47 (V.bool true) t51)).bind fun t52 =>
 (guarded [(0,t52)] (some (0,false)) (M.pure (L.getD 0 .undef))).bind fun t54 =>
 (guarded [(0,t52)] (some (0,false)) (M.lift (vlen t54))).bind fun t55 =>
 (guarded [(0,t52)] (some (0,false)) (M.lift (Ax.bin .geq t55 (V.int .i64 64)))).bind fun t56 =>
 (M.lift (Ax.pick t52 (V.bool true) t56)).bind fun t57 =>
 M.join (M.ite t57
 ((G za7 [t0,(V.int .i64 2)]).bind fun t59 =>
 M.pure (.nrm []))
 (M.pure (.nrm []))) fun _ =>
 (mload (some 5) t4).bind fun t61 =>
 (mslit zaw 1 [(V.int .i64 0),(V.int .i64 0),V.nils,V.nils,V.nils] [(0,5,t61)]).bind fun t62 =>
 (mappend zaw 5 88 (L.getD 0 .undef) t62).bind fun t63 =>
 M.pure (.nrm [t63])) fun L4 =>
 M.pure (.nrm [(L4.getD 0 .undef)]))
 (M.pure (.ex 0 [(L.getD 0 .undef)]))
def zgF (G:Sem') (t0:V):M Res :=
 (M.lift (Ax.build [(V.int .i64 0),(V.int .i64 0),V.nils,V.nils,V.nils] [])).bind fun t5 =>
 (mslit zaw 1 [(V.int .i64 0),(V.int .i64 0),V.nils,V.nils,V.nils] [(0,5,t5)]).bind fun t6 =>
 M.blk 0 (
 M.iter (zkn G t0) [t6]) fun L5 =>
 M.pure (.ret [(L5.getD 0 .undef)])
def zdU:Fn':=(T zbC).getD noF
theorem zkN:T zbC = some zdU:=by kernel_rfl
theorem zkV (G:Sem') (t0:V):execK G zdU.rv zdU.body [] [] (params 0 [t0]) = zgF G t0:=by kernel_rfl
def zel (G:Sem'):List V → M V
 | [t0]=>fin (zgF G t0)
 | _=>M.fail
theorem zle {g:Sem'} (hg:Sims g (sem T)) (args:List V):Sim (zel g args) (sem T zbC args):=by
 unfold zel;split
 ·exact zae zkN (Nat.le_of_ble_eq_true (by kernel_rfl)) hg (zkV g _)
 ·exact zaa
def zmM (G:Sem') (t0:V) (L:List V):M Res :=
 (G zaD [t0]).bind fun t5 =>
 M.ite t5
 (M.blk 1 (
 (M.lift (vlen (L.getD 0 .undef))).bind fun t7 =>
 (M.lift (Ax.bin .geq t7 (V.int .i64 8))).bind fun t8 =>
 M.ite t8
 ((G za7 [t0,(V.int .i64 4)]).bind fun t10 =>
 M.pure (.ret [V.nils]))
 ((G zao [t0,(V.int .i64 4)]).bind fun t13 =>
 (M.lift (Ax.bin .add t13 (V.int .i64 1))).bind fun t14 =>
 (mslit ze5 1 [(V.int .i64 0)] [(0,1,t14)]).bind fun t15 =>
 (mappend ze5 1 8 (L.getD 0 .undef) t15).bind fun t16 =>
 M.pure (.nrm [t16]))) fun L0 =>
 M.pure (.nrm [(L0.getD 0 .undef)]))
 (M.pure (.ex 0 [(L.getD 0 .undef)]))
def zi4 (G:Sem') (t0:V):M Res :=
 M.blk 0 (
 M.iter (zmM G t0) [V.nils]) fun L1 =>
 M.pure (.ret [(L1.getD 0 .undef)])
def zfr:Fn':=(T zcd).getD noF
theorem znz:T zcd = some zfr:=by kernel_rfl
theorem znK (G:Sem') (t0:V):execK G zfr.rv zfr.body [] [] (params 0 [t0]) = zi4 G t0:=by kernel_rfl
def zfW (G:Sem'):List V → M V
 | [t0]=>fin (zi4 G t0)
 | _=>M.fail
theorem znV {g:Sem'} (hg:Sims g (sem T)) (args:List V):Sim (zfW g args) (sem T zcd args):=by
 unfold zfW;split
 ·exact zae znz (Nat.le_of_ble_eq_true (by kernel_rfl)) hg (znK g _)
 ·exact zaa
def zk5 (G:Sem') (t0 t1:V):M Res :=
 (M.lift (Ax.nilck t0)).bind fun t8 =>
 (M.lift (Ax.faddr 1 t8)).bind fun t9 =>
 (mload none t9).bind fun t10 =>
 (M.lift (Ax.bin .neq t10 (V.int .i64 0))).bind fun t11 =>
 M.ite t11
 (M.pure (.ret [(V.int .i64 0)]))
 ((M.lift (Ax.nilck t0)).bind fun t14 =>
 (M.lift (Ax.faddr 0 t14)).bind fun t15 =>
 (mload none t15).bind fun t16 =>
 (M.lift (Ax.cint .u64 t1)).bind fun t18 =>
 (G zcq [t16,t18]).bind fun t19 =>
 (M.lift (Ax.ext 0 t19)).bind fun t20 =>
 (M.lift (Ax.ext 1 t19)).bind fun t21 =>
 (M.lift (Ax.nilck t0)).bind fun t24 =>
 (M.lift (Ax.faddr 1 t24)).bind fun t25 =>
 (mstore 1 t25 t21).bind fun _ =>
 (M.lift (Ax.cint .i64 t20)).bind fun t27 =>
 M.pure (.ret [t27]))
def zgQ:Fn':=(T zcj).getD noF
theorem zp2:T zcj = some zgQ:=by kernel_rfl
theorem zqC (G:Sem') (t0 t1:V):execK G zgQ.rv zgQ.body [] [] (params 0 [t0,t1]) = zk5 G t0 t1:=by kernel_rfl
def zhO (G:Sem'):List V → M V
 | [t0,t1]=>fin (zk5 G t0 t1)
 | _=>M.fail
theorem zrr {g:Sem'} (hg:Sims g (sem T)) (args:List V):Sim (zhO g args) (sem T zcj args):=by
 unfold zhO;split
 ·exact zae zp2 (Nat.le_of_ble_eq_true (by kernel_rfl)) hg (zqC g _ _)
 ·exact zaa
def zr3 (G:Sem') (t8 t7 t2:V) (L:List V):M Res :=
 (M.lift (Ax.bin .lss (L.getD 1 .undef) t8)).bind fun t10 =>
 M.ite t10
 (M.blk 1 (
 (M.lift (Ax.iaddr none 5 t7 (L.getD 1 .undef))).bind fun t11 =>
 (mload (some 5) t11).bind fun t12 =>
 (mbox zaw (V.agg [(V.int .i64 0),(V.int .i64 0),V.nils,V.nils,V.nils])).bind fun t5 =>
 (mstore 5 t5 t12).bind fun _ =>
 (M.lift (Ax.faddr 0 t5)).bind fun t14 =>
 (mload none t14).bind fun t15 =>
 (M.lift (Ax.bin .add t15 (V.int .i64 1))).bind fun t16 =>
 (M.lift (Ax.minmax true (L.getD 0 .undef) [t16])).bind fun t17 =>
 M.pure (.nrm [t17])) fun L0 =>
 (M.lift (Ax.bin .add (L.getD 1 .undef) (V.int .i64 1))).bind fun t18 =>
 M.pure (.nrm [(L0.getD 0 .undef),t18]))
 (M.pure (.ex 0 [(L.getD 0 .undef)]))
def znw (G:Sem') (t0:V):M Res :=
 (mbox zap t0).bind fun t1 =>
 (M.lift (Ax.faddr 2 t1)).bind fun t6 =>
 (mload none t6).bind fun t7 =>
 (M.lift (vlen t7)).bind fun t8 =>
 M.blk 0 (
 M.iter (zr3 G t8 t7 (V.int .i64 0)) [(V.int .i64 0),(V.int .i64 0)]) fun L1 =>
 M.pure (.ret [(L1.getD 0 .undef)])
def zim:Fn':=(T zcZ).getD noF
theorem zsK:T zcZ = some zim:=by kernel_rfl
theorem ztE (G:Sem') (t0:V):execK G zim.rv zim.body [] [] (params 0 [t0]) = znw G t0:=by kernel_rfl
def zjN (G:Sem'):List V → M V
 | [t0]=>fin (znw G t0)
 | _=>M.fail
theorem zuQ {g:Sem'} (hg:Sims g (sem T)) (args:List V):Sim (zjN g args) (sem T zcZ args):=by
 unfold zjN;split
 ·exact zae zsK (Nat.le_of_ble_eq_true (by kernel_rfl)) hg (ztE g _)
 ·exact zaa
def zoC (G:Sem') (t0 t1 t2 t3:V):M Res :=
 (mbox ze5 t2).bind fun t6 =>
 (mbox ze5 t3).bind fun t7 =>
 (M.lift (vlen t0)).bind fun t10 =>
 (M.lift (Ax.bin .eql t10 t1)).bind fun t12 =>
 (guarded [(0,t12)] (some (0,true)) (M.pure t0)).bind fun t14 =>
 (guarded [(0,t12)] (some (0,true)) (M.pure (.fn zdh [t6,t7]))).bind fun t15 =>
 (guarded [(0,t12)] (some (0,true)) (G zbi [t14,t15])).bind fun t16 =>
 (guarded [(0,t12)] (some (0,true)) (M.lift (Ax.un .not t16))).bind fun t17 =>
 (M.lift (Ax.pick t12 t17 (V.bool false))).bind fun t18 =>
 M.pure (.ret [t18])
def zjk:Fn':=(T zbv).getD noF
theorem zur:T zbv = some zjk:=by kernel_rfl
theorem zu8 (G:Sem') (t0 t1 t2 t3:V):execK G zjk.rv zjk.body [] [] (params 0 [t0,t1,t2,t3]) = zoC G t0 t1 t2 t3:=by kernel_rfl
def zkH (G:Sem'):List V → M V
 | [t0,t1,t2,t3]=>fin (zoC G t0 t1 t2 t3)
 | _=>M.fail
theorem zvK {g:Sem'} (hg:Sims g (sem T)) (args:List V):Sim (zkH g args) (sem T zbv args):=by
 unfold zkH;split
 ·exact zae zur (Nat.le_of_ble_eq_true (by kernel_rfl)) hg (zu8 g _ _ _ _)
 ·exact zaa
def ztl (G:Sem') (t11 t10 t3:V) (L:List V):M Res :=
 (M.lift (Ax.bin .lss (L.getD 0 .undef) t11)).bind fun t13 =>
 M.ite t13
 (M.blk 1 (
 (M.lift (Ax.iaddr none 5 t10 (L.getD 0 .undef))).bind fun t15 =>
 (mload (some 5) t15).bind fun t16 =>
 (mbox zaw (V.agg [(V.int .i64 0),(V.int .i64 0),V.nils,V.nils,V.nils])).bind fun t5 =>
 (mstore 5 t5 t16).bind fun _ =>
 (mload (some 5) t3).bind fun t18 =>
 (mload (some 5) t5).bind fun t19 =>
 (G zfm [t18,t19]).bind fun t20 =>
 (M.lift (Ax.ext 0 t20)).bind fun t21 =>
 (M.lift (Ax.ext 1 t20)).bind fun t22 =>
 (M.lift (Ax.un .not t22)).bind fun t24 =>
 (guarded [(0,t24)] (some (0,false)) (M.pure (L.getD 0 .undef))).bind fun t26 =>
 (guarded [(0,t24)] (some (0,false)) (M.lift (Ax.bin .eql t26 (V.int .i64 0)))).bind fun t27 =>
 (guarded [(0,t24)] (some (0,false)) (M.pure t27)).bind fun t28 =>
 (guarded [(0,t28)] (some (0,true)) (M.pure t21)).bind fun t29 =>
 (guarded [(0,t28)] (some (0,true)) (M.lift (Ax.bin .neq t29 (V.int .i64 0)))).bind fun t30 =>
 (guarded [(0,t24)] (some (0,false)) (M.lift (Ax.pick t28 t30 (V.bool false)))).bind fun t31 =>
 (M.lift (Ax.pick t24 (V.bool true) t31)).bind fun t32 =>
 (guarded [(0,t32)] (some (0,false)) (M.lift (Ax.faddr 0 t5))).bind fun t34 =>
 (guarded [(0,t32)] (some (0,false)) (mload none t34)).bind fun t35 =>
 (guarded [(0,t32)] (some (0,false)) (M.lift (Ax.bin .gtr t35 (V.int .i64 3)))).bind fun t36 =>
 (M.lift (Ax.pick t32 (V.bool true) t36)).bind fun t37 =>
 (guarded [(0,t37)] (some (0,false)) (M.lift (Ax.faddr 1 t5))).bind fun t39 =>
 (guarded [(0,t37)] (some (0,false)) (mload none t39)).bind fun t40 =>
 (guarded [(0,t37)] (some (0,false)) (M.lift (Ax.bin .gtr t40 (V.int .i64 7)))).bind fun t41 =>
 (M.lift (Ax.pick t37 (V.bool true) t41)).bind fun t42 =>
 M.ite t42
 (M.pure (.ret [(V.bool false)]))
 ((mload (some 5) t5).bind fun t43 =>
 (mstore 5 t3 t43).bind fun _ =>
 M.pure (.nrm []))) fun _ =>
 (M.lift (Ax.bin .add (L.getD 0 .undef) (V.int .i64 1))).bind fun t44 =>
 M.pure (.nrm [t44]))
 (M.pure (.ex 0 []))
def zoE (G:Sem') (t0:V):M Res :=
 (mbox zap t0).bind fun t1 =>
 (M.lift (Ax.build [(V.int .i64 0),(V.int .i64 0),V.nils,V.nils,V.nils] [])).bind fun t8 =>
 (mbox zaw (V.agg [(V.int .i64 0),(V.int .i64 0),V.nils,V.nils,V.nils])).bind fun t3 =>
 (mstore 5 t3 t8).bind fun _ =>
 (M.lift (Ax.faddr 2 t1)).bind fun t9 =>
 (mload none t9).bind fun t10 =>
 (M.lift (vlen t10)).bind fun t11 =>
 M.blk 0 (
 M.iter (ztl G t11 t10 t3) [(V.int .i64 0)]) fun _ =>
 (M.lift (Ax.faddr 2 t1)).bind fun t45 =>
 (mload none t45).bind fun t46 =>
 (M.lift (vlen t46)).bind fun t47 =>
 (M.lift (Ax.bin .geq t47 (V.int .i64 1))).bind fun t48 =>
 (guarded [(0,t48)] (some (0,true)) (M.lift (Ax.faddr 2 t1))).bind fun t50 =>
 (guarded [(0,t48)] (some (0,true)) (mload none t50)).bind fun t51 =>
 (guarded [(0,t48)] (some (0,true)) (M.lift (vlen t51))).bind fun t52 =>
 (guarded [(0,t48)] (some (0,true)) (M.lift (Ax.bin .leq t52 (V.int .i64 64)))).bind fun t53 =>
 (M.lift (Ax.pick t48 t53 (V.bool false))).bind fun t54 =>
 M.pure (.ret [t54])
def zjl:Fn':=(T zd4).getD noF
theorem zus:T zd4 = some zjl:=by kernel_rfl
theorem zu9 (G:Sem') (t0:V):execK G zjl.rv zjl.body [] [] (params 0 [t0]) = zoE G t0:=by kernel_rfl
def zkI (G:Sem'):List V → M V
 | [t0]=>fin (zoE G t0)
 | _=>M.fail
theorem zvL {g:Sem'} (hg:Sims g (sem T)) (args:List V):Sim (zkI g args) (sem T zd4 args):=by
 unfold zkI;split
 ·exact zae zus (Nat.le_of_ble_eq_true (by kernel_rfl)) hg (zu9 g _)
 ·exact zaa
def zbV (G:Sem') (t0 t1:V):M Res :=
 (G zaq [t0,t1]).bind fun t7 =>
 (M.lift (Ax.bin .geq t7 (V.int .i64 0))).bind fun t8 =>
 M.pure (.ret [t8])
def za4:Fn':=(T zal).getD noF
theorem zdo:T zal = some za4:=by kernel_rfl
theorem zdr (G:Sem') (t0 t1:V):execK G za4.rv za4.body [] [] (params 0 [t0,t1]) = zbV G t0 t1:=by kernel_rfl
def za6 (G:Sem'):List V → M V
 | [t0,t1]=>fin (zbV G t0 t1)
 | _=>M.fail
theorem zds {g:Sem'} (hg:Sims g (sem T)) (args:List V):Sim (za6 g args) (sem T zal args):=by
 unfold za6;split
 ·exact zae zdo (Nat.le_of_ble_eq_true (by kernel_rfl)) hg (zdr g _ _)
 ·exact zaa
def zoI (G:Sem') (t0 t1:V):M Res :=
 (mbox zaw t0).bind fun t2 =>
 (mload (some 6) t1).bind fun t4 =>
 (mload (some 5) t2).bind fun t5 =>
 (G zbY [t4,t5]).bind fun t6 =>
 (M.lift (Ax.un .not t6)).bind fun t7 =>
 M.pure (.ret [t7])
def zjp:Fn':=(T zd8).getD noF
theorem zuw:T zd8 = some zjp:=by kernel_rfl
theorem zvd (G:Sem') (t0 t1:V):execK G zjp.rv zjp.body [] [] (params 0 [t0,t1]) = zoI G t0 t1:=by kernel_rfl
def zkM (G:Sem'):List V → M V
 | [t0,t1]=>fin (zoI G t0 t1)
 | _=>M.fail
theorem zvP {g:Sem'} (hg:Sims g (sem T)) (args:List V):Sim (zkM g args) (sem T zd8 args):=by
 unfold zkM;split
 ·exact zae zuw (Nat.le_of_ble_eq_true (by kernel_rfl)) hg (zvd g _ _)
 ·exact zaa
def zhH (G:Sem') (t0 t1:V):M Res :=
 (mbox zap t0).bind fun t2 =>
 (mbox zaw t1).bind fun t3 =>
 (M.lift (Ax.faddr 2 t3)).bind fun t5 =>
 (mload none t5).bind fun t6 =>
 (M.lift (Ax.faddr 1 t2)).bind fun t7 =>
 (mload none t7).bind fun t8 =>
 (G zbv [t6,t8,(V.int .i64 0),(V.int .i64 3)]).bind fun t9 =>
 (guarded [(0,t9)] (some (0,true)) (M.lift (Ax.faddr 3 t3))).bind fun t11 =>
 (guarded [(0,t9)] (some (0,true)) (mload none t11)).bind fun t12 =>
 (guarded [(0,t9)] (some (0,true)) (G zdM [t12,(V.int .i64 8),(V.int .i64 16)])).bind fun t13 =>
 (M.lift (Ax.pick t9 t13 (V.bool false))).bind fun t14 =>
 (guarded [(0,t14)] (some (0,true)) (M.lift (Ax.faddr 4 t3))).bind fun t16 =>
 (guarded [(0,t14)] (some (0,true)) (mload none t16)).bind fun t17 =>
 (guarded [(0,t14)] (some (0,true)) (M.lift (Ax.faddr 3 t2))).bind fun t18 =>
 (guarded [(0,t14)] (some (0,true)) (mload none t18)).bind fun t19 =>
 (guarded [(0,t14)] (some (0,true)) (G zbv [t17,t19,(V.int .i64 0),(V.int .i64 15)])).bind fun t20 =>
 (M.lift (Ax.pick t14 t20 (V.bool false))).bind fun t21 =>
 M.pure (.ret [t21])
def zev:Fn':=(T zbY).getD noF
theorem zlO:T zbY = some zev:=by kernel_rfl
theorem zmd (G:Sem') (t0 t1:V):execK G zev.rv zev.body [] [] (params 0 [t0,t1]) = zhH G t0 t1:=by kernel_rfl
def ze4 (G:Sem'):List V → M V
 | [t0,t1]=>fin (zhH G t0 t1)
 | _=>M.fail
theorem zmr {g:Sem'} (hg:Sims g (sem T)) (args:List V):Sim (ze4 g args) (sem T zbY args):=by
 unfold ze4;split
 ·exact zae zlO (Nat.le_of_ble_eq_true (by kernel_rfl)) hg (zmd g _ _)
 ·exact zaa
def zoF (G:Sem') (t0:V):M Res :=
 (mbox zaw t0).bind fun t1 =>
 (mbox zaw (V.agg [(V.int .i64 0),(V.int .i64 0),V.nils,V.nils,V.nils])).bind fun t2 =>
 (M.lift (Ax.faddr 2 t1)).bind fun t3 =>
 (mload none t3).bind fun t4 =>
 (M.lift (Ax.faddr 3 t1)).bind fun t6 =>
 (mload none t6).bind fun t7 =>
 (M.lift (Ax.faddr 4 t1)).bind fun t9 =>
 (mload none t9).bind fun t10 =>
 M.getH.bind fun h0 =>
 (G zbq [t4]).bind fun t5 =>
 M.getH.bind fun h0' =>
 (M.unch t9 h0 h0').bind fun _ =>
 (M.unch t6 h0 h0').bind fun _ =>
 M.getH.bind fun h1 =>
 (G zbq [t7]).bind fun t8 =>
 M.getH.bind fun h1' =>
 (M.unch t9 h1 h1').bind fun _ =>
 (G zbq [t10]).bind fun t11 =>
 (M.lift (Ax.faddr 2 t1)).bind fun t12 =>
 (mstore 1 t12 t5).bind fun _ =>
 (M.lift (Ax.faddr 3 t1)).bind fun t13 =>
 (mstore 1 t13 t8).bind fun _ =>
 (M.lift (Ax.faddr 4 t1)).bind fun t14 =>
 (mstore 1 t14 t11).bind fun _ =>
 (mload (some 5) t1).bind fun t15 =>
 (mstore 5 t2 t15).bind fun _ =>
 (mload (some 5) t2).bind fun r0 =>
 M.pure (.ret [r0])
def zjm:Fn':=(T zd5).getD noF
theorem zut:T zd5 = some zjm:=by kernel_rfl
theorem zva (G:Sem') (t0:V):execK G zjm.rv zjm.body [] [] (params 0 [t0]) = zoF G t0:=by kernel_rfl
def zkJ (G:Sem'):List V → M V
 | [t0]=>fin (zoF G t0)
 | _=>M.fail
theorem zvM {g:Sem'} (hg:Sims g (sem T)) (args:List V):Sim (zkJ g args) (sem T zd5 args):=by
 unfold zkJ;split
 ·exact zae zut (Nat.le_of_ble_eq_true (by kernel_rfl)) hg (zva g _)
 ·exact zaa
def zi3 (G:Sem') (t7 t1 t0:V) (L:List V):M Res :=
 (M.lift (Ax.bin .lss (L.getD 0 .undef) t7)).bind fun t9 =>
 M.ite t9
 (M.blk 1 (
 (M.lift (Ax.iaddr none 1 t0 (L.getD 0 .undef))).bind fun t14 =>
 (mload none t14).bind fun t15 =>
 (M.lift (Ax.bin .eql t1 t15)).bind fun t16 =>
 M.ite t16
 (M.pure (.ret [(L.getD 0 .undef)]))
 (M.pure (.nrm []))) fun _ =>
 (M.lift (Ax.bin .add (L.getD 0 .undef) (V.int .i64 1))).bind fun t18 =>
 M.pure (.nrm [t18]))
 (M.pure (.ex 0 []))
def zfB (G:Sem') (t0 t1:V):M Res :=
 (M.lift (vlen t0)).bind fun t7 =>
 M.blk 0 (
 M.iter (zi3 G t7 t1 t0) [(V.int .i64 0)]) fun _ =>
 M.pure (.ret [(V.int .i64 (-1))])
def zdi:Fn':=(T zbk).getD noF
theorem zi7:T zbk = some zdi:=by kernel_rfl
theorem zjr (G:Sem') (t0 t1:V):execK G zdi.rv zdi.body [] [] (params 0 [t0,t1]) = zfB G t0 t1:=by kernel_rfl
def zdt (G:Sem'):List V → M V
 | [t0,t1]=>fin (zfB G t0 t1)
 | _=>M.fail
theorem zjZ {g:Sem'} (hg:Sims g (sem T)) (args:List V):Sim (zdt g args) (sem T zbk args):=by
 unfold zdt;split
 ·exact zae zi7 (Nat.le_of_ble_eq_true (by kernel_rfl)) hg (zjr g _ _)
 ·exact zaa
def zya (G:Sem') (t0:V):M Res :=
 (mbox zbE t0).bind fun t1 =>
 M.blk 0 (
 (M.lift (Ax.faddr 1 t1)).bind fun t4 =>
 (mload none t4).bind fun t5 =>
 (M.lift (Ax.bin .lss t5 (V.int .i64 0))).bind fun t6 =>
 (guarded [(0,t6)] (some (0,false)) (M.lift (Ax.faddr 1 t1))).bind fun t8 =>
 (guarded [(0,t6)] (some (0,false)) (mload none t8)).bind fun t9 =>
 (guarded [(0,t6)] (some (0,false)) (M.lift (Ax.bin .gtr t9 (V.int .i64 127)))).bind fun t10 =>
 (M.lift (Ax.pick t6 (V.bool true) t10)).bind fun t11 =>
 (guarded [(0,t11)] (some (0,false)) (M.lift (Ax.faddr 5 t1))).bind fun t13 =>
 (guarded [(0,t11)] (some (0,false)) (mload none t13)).bind fun t14 =>
 (guarded [(0,t11)] (some (0,false)) (M.lift (vlen t14))).bind fun t15 =>
 (guarded [(0,t11)] (some (0,false)) (M.lift (Ax.bin .gtr t15 (V.int .i64 15)))).bind fun t16 =>
 (M.lift (Ax.pick t11 (V.bool true) t16)).bind fun t17 =>
 (guarded [(0,t17)] (some (0,false)) (M.lift (Ax.faddr 8 t1))).bind fun t19 =>
 (guarded [(0,t17)] (some (0,false)) (mload none t19)).bind fun t20 =>
 (guarded [(0,t17)] (some (0,false)) (M.lift (Ax.bin .lss t20 (V.int .i64 0)))).bind fun t21 =>
 (M.lift (Ax.pick t17 (V.bool true) t21)).bind fun t22 =>
 (guarded [(0,t22)] (some (0,false)) (M.lift (Ax.faddr 8 t1))).bind fun t24 =>
 (guarded [(0,t22)] (some (0,false)) (mload none t24)).bind fun t25 =>
 (guarded [(0,t22)] (some (0,false)) (M.lift (Ax.bin .gtr t25 (V.int .i64 255)))).bind fun t26 =>
 (M.lift (Ax.pick t22 (V.bool true) t26)).bind fun t27 =>
 M.ite t27
 (M.pure (.ret [(V.bool false)]))
 ((M.lift (Ax.faddr 6 t1)).bind fun t29 =>
 (mload none t29).bind fun t30 =>
 (M.lift (Ax.bin .eql t30 (V.int .i64 0))).bind fun t31 =>
 M.ite t31
 ((M.lift (Ax.faddr 7 t1)).bind fun t32 =>
 (mload none t32).bind fun t33 =>
 (M.lift (vlen t33)).bind fun t34 =>
 (M.lift (Ax.bin .eql t34 (V.int .i64 0))).bind fun t35 =>
 M.pure (.ret [t35]))
 ((M.lift (Ax.faddr 6 t1)).bind fun t37 =>
 (mload none t37).bind fun t38 =>
 (M.lift (Ax.bin .neq t38 (V.int .i64 48862))).bind fun t39 =>
 (guarded [(0,t39)] (some (0,true)) (M.lift (Ax.faddr 6 t1))).bind fun t41 =>
 (guarded [(0,t39)] (some (0,true)) (mload none t41)).bind fun t42 =>
 (guarded [(0,t39)] (some (0,true)) (M.lift (Ax.bin .neq t42 (V.int .i64 4096)))).bind fun t43 =>
 (M.lift (Ax.pick t39 t43 (V.bool false))).bind fun t44 =>
 M.ite t44
 (M.pure (.ret [(V.bool false)]))
 (M.pure (.nrm []))))) fun _ =>
 (M.lift (Ax.faddr 7 t1)).bind fun t45 =>
 (mload none t45).bind fun t46 =>
 (M.pure (.fn zf6 [t1])).bind fun t47 =>
 (G zaP [t46,t47]).bind fun t48 =>
 (M.lift (Ax.un .not t48)).bind fun t49 =>
 M.pure (.ret [t49])
def zqh:Fn':=(T zis).getD noF
theorem zBU:T zis = some zqh:=by kernel_rfl
theorem zCS (G:Sem') (t0:V):execK G zqh.rv zqh.body [] [] (params 0 [t0]) = zya G t0:=by kernel_rfl
def ztJ (G:Sem'):List V → M V
 | [t0]=>fin (zya G t0)
 | _=>M.fail
theorem zEd {g:Sem'} (hg:Sims g (sem T)) (args:List V):Sim (ztJ g args) (sem T zis args):=by
 unfold ztJ;split
 ·exact zae zBU (Nat.le_of_ble_eq_true (by kernel_rfl)) hg (zCS g _)
 ·exact zaa
def zCN (G:Sem') (t1 t6:V) (L:List V):M Res :=
 (M.lift (Ax.bin .geq (L.getD 1 .undef) (V.int .i64 0))).bind fun t11 =>
 M.ite t11
 (M.blk 1 (
 (M.lift (Ax.bin .mul (V.int .i64 8) (L.getD 1 .undef))).bind fun t17 =>
 (M.lift (Ax.bin .shr t1 t17)).bind fun t18 =>
 (M.lift (Ax.cint .u8 t18)).bind fun t19 =>
 (mslit zaj 1 [(V.int .u8 0)] [(0,1,t19)]).bind fun t20 =>
 (mappend zaj 1 1 (L.getD 0 .undef) t20).bind fun t21 =>
 M.pure (.nrm [t21])) fun L0 =>
 (M.lift (Ax.bin .sub (L.getD 1 .undef) (V.int .i64 1))).bind fun t13 =>
 M.pure (.nrm [(L0.getD 0 .undef),t13]))
 (M.pure (.ex 0 [(L.getD 0 .undef)]))
def zA9 (G:Sem') (t0 t1 t2:V):M Res :=
 (M.lift (Ax.bin .sub t2 (V.int .i64 1))).bind fun t9 =>
 M.blk 0 (
 M.iter (zCN G t1 V.nils) [t0,t9]) fun L1 =>
 M.pure (.ret [(L1.getD 0 .undef)])
def ztd:Fn':=(T zew).getD noF
theorem zDS:T zew = some ztd:=by kernel_rfl
theorem zEM (G:Sem') (t0 t1 t2:V):execK G ztd.rv ztd.body [] [] (params 0 [t0,t1,t2]) = zA9 G t0 t1 t2:=by kernel_rfl
def zwK (G:Sem'):List V → M V
 | [t0,t1,t2]=>fin (zA9 G t0 t1 t2)
 | _=>M.fail
theorem zFG {g:Sem'} (hg:Sims g (sem T)) (args:List V):Sim (zwK g args) (sem T zew args):=by
 unfold zwK;split
 ·exact zae zDS (Nat.le_of_ble_eq_true (by kernel_rfl)) hg (zEM g _ _ _)
 ·exact zaa
def zwc (G:Sem') (t0:V):M Res :=
 (mbox zbE t0).bind fun t1 =>
 (M.lift (Ax.faddr 5 t1)).bind fun t5 =>
 (mload none t5).bind fun t6 =>
 (M.lift (vlen t6)).bind fun t7 =>
 (M.lift (Ax.bin .or (V.int .i64 128) t7)).bind fun t8 =>
 (M.lift (Ax.cint .u8 t8)).bind fun t9 =>
 (M.lift (Ax.faddr 1 t1)).bind fun t10 =>
 (mload none t10).bind fun t11 =>
 (M.lift (Ax.cint .u8 t11)).bind fun t12 =>
 (M.lift (Ax.faddr 8 t1)).bind fun t13 =>
 (mload none t13).bind fun t14 =>
 (M.lift (Ax.bin .gtr t14 (V.int .i64 0))).bind fun t15 =>
 M.join (M.ite t15
 ((M.lift (Ax.bin .or t9 (V.int .u8 32))).bind fun t17 =>
 M.pure (.nrm [t17]))
 (M.pure (.nrm [t9]))) fun L0 =>
 (M.lift (Ax.faddr 6 t1)).bind fun t18 =>
 (mload none t18).bind fun t19 =>
 (M.lift (Ax.bin .neq t19 (V.int .i64 0))).bind fun t20 =>
 M.join (M.ite t20
 ((M.lift (Ax.bin .or (L0.getD 0 .undef) (V.int .u8 16))).bind fun t22 =>
 M.pure (.nrm [t22]))
 (M.pure (.nrm [(L0.getD 0 .undef)]))) fun L1 =>
 (M.lift (Ax.faddr 0 t1)).bind fun t23 =>
 (mload none t23).bind fun t24 =>
 M.join (M.ite t24
 ((M.lift (Ax.bin .or t12 (V.int .u8 128))).bind fun t26 =>
 M.pure (.nrm [t26]))
 (M.pure (.nrm [t12]))) fun L2 =>
 (mslit zaj 2 [(V.int .u8 0)] [(0,1,(L1.getD 0 .undef)),(1,1,(L2.getD 0 .undef))]).bind fun t29 =>
 M.pure (.ret [t29])
def zn3:Fn':=(T zg6).getD noF
theorem zzZ:T zg6 = some zn3:=by kernel_rfl
theorem zBk (G:Sem') (t0:V):execK G zn3.rv zn3.body [] [] (params 0 [t0]) = zwc G t0:=by kernel_rfl
def zqG (G:Sem'):List V → M V
 | [t0]=>fin (zwc G t0)
 | _=>M.fail
theorem zB9 {g:Sem'} (hg:Sims g (sem T)) (args:List V):Sim (zqG g args) (sem T zg6 args):=by
 unfold zqG;split
 ·exact zae zzZ (Nat.le_of_ble_eq_true (by kernel_rfl)) hg (zBk g _)
 ·exact zaa
def zuY (G:Sem') (t8 t7 t1 t2:V) (L:List V):M Res :=
 (M.lift (Ax.bin .lss (L.getD 1 .undef) t8)).bind fun t10 =>
 M.ite t10
 (M.blk 1 (
 (M.lift (Ax.iaddr none 2 t7 (L.getD 1 .undef))).bind fun t11 =>
 (mload (some 2) t11).bind fun t12 =>
 (mbox zet (V.agg [(V.int .i64 0),V.nils])).bind fun t5 =>
 (mstore 2 t5 t12).bind fun _ =>
 (M.lift (Ax.faddr 6 t1)).bind fun t13 =>
 (mload none t13).bind fun t14 =>
 (M.lift (Ax.bin .eql t14 (V.int .i64 48862))).bind fun t15 =>
 M.join (M.ite t15
 ((M.lift (Ax.faddr 0 t5)).bind fun t17 =>
 (mload none t17).bind fun t18 =>
 (M.lift (Ax.bin .shl t18 (V.int .u64 4))).bind fun t19 =>
 (M.lift (Ax.faddr 1 t5)).bind fun t20 =>
 (mload none t20).bind fun t21 =>
 (M.lift (vlen t21)).bind fun t22 =>
 (M.lift (Ax.bin .sub t22 (V.int .i64 1))).bind fun t23 =>
 (M.lift (Ax.bin .or t19 t23)).bind fun t24 =>
 (M.lift (Ax.cint .u8 t24)).bind fun t25 =>
 (mslit zaj 1 [(V.int .u8 0)] [(0,1,t25)]).bind fun t26 =>
 (mappend zaj 1 1 (L.getD 0 .undef) t26).bind fun t27 =>
 M.pure (.nrm [t27]))
 ((M.lift (Ax.faddr 0 t5)).bind fun t29 =>
 (mload none t29).bind fun t30 =>
 (M.lift (Ax.cint .u8 t30)).bind fun t31 =>
 (M.lift (Ax.faddr 1 t5)).bind fun t32 =>
 (mload none t32).bind fun t33 =>
 (M.lift (vlen t33)).bind fun t34 =>
 (M.lift (Ax.cint .u8 t34)).bind fun t35 =>
 (mslit zaj 2 [(V.int .u8 0)] [(0,1,t31),(1,1,t35)]).bind fun t36 =>
 (mappend zaj 1 1 (L.getD 0 .undef) t36).bind fun t37 =>
 M.pure (.nrm [t37]))) fun L0 =>
 (M.lift (Ax.faddr 1 t5)).bind fun t39 =>
 (mload none t39).bind fun t40 =>
 (mappend zaj 1 1 (L0.getD 0 .undef) t40).bind fun t41 =>
 M.pure (.nrm [t41])) fun L1 =>
 (M.lift (Ax.bin .add (L.getD 1 .undef) (V.int .i64 1))).bind fun t42 =>
 M.pure (.nrm [(L1.getD 0 .undef),t42]))
 (M.pure (.ex 0 [(L.getD 0 .undef)]))
def zuX (G:Sem') (t2:V) (L:List V):M Res :=
 (M.lift (vlen (L.getD 0 .undef))).bind fun t44 =>
 (M.lift (Ax.bin .rem t44 (V.int .i64 4))).bind fun t45 =>
 (M.lift (Ax.bin .neq t45 (V.int .i64 0))).bind fun t46 =>
 M.ite t46
 (M.blk 3 (
 (mslit zaj 1 [(V.int .u8 0)] [(0,1,(V.int .u8 0))]).bind fun t48 =>
 (mappend zaj 1 1 (L.getD 0 .undef) t48).bind fun t49 =>
 M.pure (.nrm [t49])) fun L3 =>
 M.pure (.nrm [(L3.getD 0 .undef)]))
 (M.pure (.ex 2 [(L.getD 0 .undef)]))
def zpO (G:Sem') (t0:V):M Res :=
 (mbox zbE t0).bind fun t1 =>
 (M.lift (Ax.faddr 7 t1)).bind fun t6 =>
 (mload none t6).bind fun t7 =>
 (M.lift (vlen t7)).bind fun t8 =>
 M.blk 0 (
 M.iter (zuY G t8 t7 t1 V.nils) [V.nils,(V.int .i64 0)]) fun L2 =>
 M.blk 2 (
 M.iter (zuX G V.nils) [(L2.getD 0 .undef)]) fun L4 =>
 M.pure (.ret [(L4.getD 0 .undef)])
def zkb:Fn':=(T zey).getD noF
theorem zvq:T zey = some zkb:=by kernel_rfl
theorem zwz (G:Sem') (t0:V):execK G zkb.rv zkb.body [] [] (params 0 [t0]) = zpO G t0:=by kernel_rfl
def zlC (G:Sem'):List V → M V
 | [t0]=>fin (zpO G t0)
 | _=>M.fail
theorem zxl {g:Sem'} (hg:Sims g (sem T)) (args:List V):Sim (zlC g args) (sem T zey args):=by
 unfold zlC;split
 ·exact zae zvq (Nat.le_of_ble_eq_true (by kernel_rfl)) hg (zwz g _)
 ·exact zaa
def zwv (G:Sem') (t0 t1:V):M Res :=
 (mbox zce t0).bind fun t2 =>
 (mbox zap t1).bind fun t3 =>
 (mbox zaw (V.agg [(V.int .i64 0),(V.int .i64 0),V.nils,V.nils,V.nils])).bind fun t4 =>
 (mload (some 19) t2).bind fun t7 =>
 (mload (some 6) t3).bind fun t8 =>
 (G zc6 [t7,t8]).bind fun t9 =>
 (mbox zap (V.agg [(V.int .i64 0),(V.int .i64 0),V.nils,(V.int .i64 0),V.nils,V.nils])).bind fun t6 =>
 (mstore 6 t6 t9).bind fun _ =>
 (mload (some 6) t6).bind fun t10 =>
 (G zc3 [t10]).bind fun t11 =>
 (M.lift (Ax.un .not t11)).bind fun t12 =>
 M.ite t12
 ((M.lift (Ax.build [(V.int .i64 0),(V.int .i64 0),V.nils,V.nils,V.nils] [])).bind fun t13 =>
 (mstore 5 t4 t13).bind fun _ =>
 (mload (some 5) t4).bind fun r0 =>
 M.pure (.ret [r0,(V.bool false)]))
 ((mload (some 6) t6).bind fun t14 =>
 (M.lift (Ax.faddr 2 t2)).bind fun t15 =>
 (mload none t15).bind fun t16 =>
 (G zcC [t14,t16]).bind fun t17 =>
 (M.lift (Ax.ext 0 t17)).bind fun t18 =>
 (M.lift (Ax.ext 1 t17)).bind fun t19 =>
 (mstore 5 t4 t18).bind fun _ =>
 (mload (some 5) t4).bind fun r0 =>
 M.pure (.ret [r0,t19]))
def zoj:Fn':=(T zhi).getD noF
theorem zAf:T zhi = some zoj:=by kernel_rfl
theorem zBA (G:Sem') (t0 t1:V):execK G zoj.rv zoj.body [] [] (params 0 [t0,t1]) = zwv G t0 t1:=by kernel_rfl
def zq0 (G:Sem'):List V → M V
 | [t0,t1]=>fin (zwv G t0 t1)
 | _=>M.fail
theorem zCt {g:Sem'} (hg:Sims g (sem T)) (args:List V):Sim (zq0 g args) (sem T zhi args):=by
 unfold zq0;split
 ·exact zae zAf (Nat.le_of_ble_eq_true (by kernel_rfl)) hg (zBA g _ _)
 ·exact zaa
def zr4 (G:Sem') (t0:V):M Res :=
 (mbox zap t0).bind fun t1 =>
 (M.lift (Ax.faddr 0 t1)).bind fun t3 =>
 (mload none t3).bind fun t4 =>
 (M.lift (Ax.bin .eql t4 (V.int .i64 0))).bind fun t5 =>
 (guarded [(0,t5)] (some (0,true)) (M.lift (Ax.faddr 1 t1))).bind fun t7 =>
 (guarded [(0,t5)] (some (0,true)) (mload none t7)).bind fun t8 =>
 (guarded [(0,t5)] (some (0,true)) (M.lift (Ax.bin .eql t8 (V.int .i64 0)))).bind fun t9 =>
 (M.lift (Ax.pick t5 t9 (V.bool false))).bind fun t10 =>
 (guarded [(0,t10)] (some (0,true)) (M.lift (Ax.faddr 3 t1))).bind fun t12 =>
 (guarded [(0,t10)] (some (0,true)) (mload none t12)).bind fun t13 =>
 (guarded [(0,t10)] (some (0,true)) (M.lift (Ax.bin .eql t13 (V.int .i64 0)))).bind fun t14 =>
 (M.lift (Ax.pick t10 t14 (V.bool false))).bind fun t15 =>
 (guarded [(0,t15)] (some (0,true)) (M.lift (Ax.faddr 2 t1))).bind fun t17 =>
 (guarded [(0,t15)] (some (0,true)) (mload none t17)).bind fun t18 =>
 (guarded [(0,t15)] (some (0,true)) (M.lift (vlen t18))).bind fun t19 =>
 (guarded [(0,t15)] (some (0,true)) (M.lift (Ax.faddr 4 t1))).bind fun t20 =>
 (guarded [(0,t15)] (some (0,true)) (mload none t20)).bind fun t21 =>
 (guarded [(0,t15)] (some (0,true)) (M.lift (vlen t21))).bind fun t22 =>
 (guarded [(0,t15)] (some (0,true)) (M.lift (Ax.bin .add t19 t22))).bind fun t23 =>
 (guarded [(0,t15)] (some (0,true)) (M.lift (Ax.faddr 5 t1))).bind fun t24 =>
 (guarded [(0,t15)] (some (0,true)) (mload none t24)).bind fun t25 =>
 (guarded [(0,t15)] (some (0,true)) (M.lift (vlen t25))).bind fun t26 =>
 (guarded [(0,t15)] (some (0,true)) (M.lift (Ax.bin .add t23 t26))).bind fun t27 =>
 (guarded [(0,t15)] (some (0,true)) (M.lift (Ax.bin .eql t27 (V.int .i64 0)))).bind fun t28 =>
 (M.lift (Ax.pick t15 t28 (V.bool false))).bind fun t29 =>
 M.pure (.ret [t29])
def zlu:Fn':=(T zfl).getD noF
theorem zxf:T zfl = some zlu:=by kernel_rfl
theorem zxQ (G:Sem') (t0:V):execK G zlu.rv zlu.body [] [] (params 0 [t0]) = zr4 G t0:=by kernel_rfl
def zm4 (G:Sem'):List V → M V
 | [t0]=>fin (zr4 G t0)
 | _=>M.fail
theorem zyV {g:Sem'} (hg:Sims g (sem T)) (args:List V):Sim (zm4 g args) (sem T zfl args):=by
 unfold zm4;split
 ·exact zae zxf (Nat.le_of_ble_eq_true (by kernel_rfl)) hg (zxQ g _)
 ·exact zaa
def zlX (G:Sem') (t12 t0 t1:V) (L:List V):M Res :=
 (M.lift (Ax.bin .lss (L.getD 0 .undef) t12)).bind fun t14 =>
 M.ite t14
 (M.blk 1 (
 (M.lift (Ax.iaddr none 1 t0 (L.getD 0 .undef))).bind fun t18 =>
 (mload none t18).bind fun t19 =>
 (M.lift (Ax.iaddr none 1 t1 (L.getD 0 .undef))).bind fun t22 =>
 (mload none t22).bind fun t23 =>
 (M.lift (Ax.bin .neq t19 t23)).bind fun t24 =>
 M.ite t24
 (M.pure (.ret [(V.bool false)]))
 (M.pure (.nrm []))) fun _ =>
 (M.lift (Ax.bin .add (L.getD 0 .undef) (V.int .i64 1))).bind fun t25 =>
 M.pure (.nrm [t25]))
 (M.pure (.ex 0 []))
def zhX (G:Sem') (t0 t1:V):M Res :=
 (M.lift (vlen t0)).bind fun t7 =>
 (M.lift (vlen t1)).bind fun t9 =>
 (M.lift (Ax.bin .neq t7 t9)).bind fun t10 =>
 M.ite t10
 (M.pure (.ret [(V.bool false)]))
 ((M.lift (vlen t0)).bind fun t12 =>
 M.blk 0 (
 M.iter (zlX G t12 t0 t1) [(V.int .i64 0)]) fun _ =>
 M.pure (.ret [(V.bool true)]))
def zeS:Fn':=(T zbp).getD noF
theorem zmi:T zbp = some zeS:=by kernel_rfl
theorem zmN (G:Sem') (t0 t1:V):execK G zeS.rv zeS.body [] [] (params 0 [t0,t1]) = zhX G t0 t1:=by kernel_rfl
def zfu (G:Sem'):List V → M V
 | [t0,t1]=>fin (zhX G t0 t1)
 | _=>M.fail
theorem znA {g:Sem'} (hg:Sims g (sem T)) (args:List V):Sim (zfu g args) (sem T zbp args):=by
 unfold zfu;split
 ·exact zae zmi (Nat.le_of_ble_eq_true (by kernel_rfl)) hg (zmN g _ _)
 ·exact zaa
def zpU (G:Sem') (t0 t1 t2:V):M Res :=
 (M.lift (vlen t0)).bind fun t8 =>
 (M.lift (Ax.bin .leq t8 t1)).bind fun t10 =>
 (guarded [(0,t10)] (some (0,true)) (M.pure t0)).bind fun t12 =>
 (guarded [(0,t10)] (some (0,true)) (M.pure t0)).bind fun t13 =>
 (guarded [(0,t10)] (some (0,true)) (M.lift (vlen t13))).bind fun t14 =>
 (guarded [(0,t10)] (some (0,true)) (M.pure t2)).bind fun t15 =>
 (guarded [(0,t10)] (some (0,true)) (G zbv [t12,t14,(V.int .i64 1),t15])).bind fun t16 =>
 (M.lift (Ax.pick t10 t16 (V.bool false))).bind fun t17 =>
 M.pure (.ret [t17])
def zkh:Fn':=(T zdM).getD noF
theorem zvw:T zdM = some zkh:=by kernel_rfl
theorem zwF (G:Sem') (t0 t1 t2:V):execK G zkh.rv zkh.body [] [] (params 0 [t0,t1,t2]) = zpU G t0 t1 t2:=by kernel_rfl
def zlM (G:Sem'):List V → M V
 | [t0,t1,t2]=>fin (zpU G t0 t1 t2)
 | _=>M.fail
theorem zxv {g:Sem'} (hg:Sims g (sem T)) (args:List V):Sim (zlM g args) (sem T zdM args):=by
 unfold zlM;split
 ·exact zae zvw (Nat.le_of_ble_eq_true (by kernel_rfl)) hg (zwF g _ _ _)
 ·exact zaa
def zBj (G:Sem') (t0 t1 t2:V):M Res :=
 (mbox zea t0).bind fun t3 =>
 (mbox zea (V.agg [(V.bool false),(V.int .i64 0),(V.int .i64 0)])).bind fun t6 =>
 M.blk 0 (
 (mload (some 3) t3).bind fun t10 =>
 (G zeL [t10]).bind fun t11 =>
 (M.lift (Ax.un .not t11)).bind fun t12 =>
 M.ite t12
 ((mload (some 3) t3).bind fun t13 =>
 (mstore 3 t6 t13).bind fun _ =>
 (mload (some 3) t6).bind fun r0 =>
 M.pure (.ret [r0,(V.bool false),(V.bool false)]))
 ((M.lift (Ax.faddr 2 t3)).bind fun t16 =>
 (mload none t16).bind fun t17 =>
 (M.lift (Ax.bin .eql t1 t17)).bind fun t18 =>
 (guarded [(0,t18)] (some (0,true)) (M.pure t2)).bind fun t20 =>
 (M.lift (Ax.pick t18 t20 (V.bool false))).bind fun t21 =>
 (guarded [(0,t21)] (some (0,true)) (mload (some 3) t3)).bind fun t23 =>
 (guarded [(0,t21)] (some (0,true)) (M.pure t1)).bind fun t24 =>
 (guarded [(0,t21)] (some (0,true)) (G zcp [t23,t24])).bind fun t25 =>
 (guarded [(0,t21)] (some (0,true)) (M.lift (Ax.un .not t25))).bind fun t26 =>
 (M.lift (Ax.pick t21 t26 (V.bool false))).bind fun t27 =>
 M.ite t27
 ((M.lift (Ax.faddr 0 t3)).bind fun t29 =>
 (mstore 1 t29 (V.bool true)).bind fun _ =>
 (M.lift (Ax.faddr 1 t3)).bind fun t30 =>
 (mstore 1 t30 t1).bind fun _ =>
 (mload (some 3) t3).bind fun t31 =>
 (mstore 3 t6 t31).bind fun _ =>
 (mload (some 3) t6).bind fun r0 =>
 M.pure (.ret [r0,(V.bool true),(V.bool true)]))
 (M.pure (.nrm [])))) fun _ =>
 (mload (some 3) t3).bind fun t32 =>
 (mload (some 3) t3).bind fun t33 =>
 M.getH.bind fun h0 =>
 (G zcp [t33,t1]).bind fun t35 =>
 M.getH.bind fun h0' =>
 (M.unch t3 h0 h0').bind fun _ =>
 (mstore 3 t6 t32).bind fun _ =>
 (mload (some 3) t6).bind fun r0 =>
 M.pure (.ret [r0,t35,(V.bool false)])
def zti:Fn':=(T zj6).getD noF
theorem zDX:T zj6 = some zti:=by kernel_rfl
theorem zER (G:Sem') (t0 t1 t2:V):execK G zti.rv zti.body [] [] (params 0 [t0,t1,t2]) = zBj G t0 t1 t2:=by kernel_rfl
def zwQ (G:Sem'):List V → M V
 | [t0,t1,t2]=>fin (zBj G t0 t1 t2)
 | _=>M.fail
theorem zFM {g:Sem'} (hg:Sims g (sem T)) (args:List V):Sim (zwQ g args) (sem T zj6 args):=by
 unfold zwQ;split
 ·exact zae zDX (Nat.le_of_ble_eq_true (by kernel_rfl)) hg (zER g _ _ _)
 ·exact zaa
end Go.Ax.Cc
