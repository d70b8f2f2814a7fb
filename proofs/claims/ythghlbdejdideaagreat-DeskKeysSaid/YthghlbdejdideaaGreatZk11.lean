/-
  Texts of mine, put together by program (wip/slim.py), for law_deskKeys: part 11.
-/
import Derived.Test.YthghlbdejdideaaGreatZk10
noncomputable section
set_option linter.unusedVariables false
set_option linter.unusedSimpArgs false
set_option linter.defProp false
set_option maxRecDepth 100000
/- CiS9 -/
namespace Go.Ax.Cc
open Go.Proofs
def zl1 (G:Sem') (t0:V):M Res :=
 (M.lift (Ax.nilck t0)).bind fun t4 =>
 (M.lift (Ax.faddr 13 t4)).bind fun t5 =>
 (mstore 1 t5 V.nils).bind fun _ =>
 (M.lift (Ax.nilck t0)).bind fun t6 =>
 (M.lift (Ax.faddr 15 t6)).bind fun t7 =>
 (mstore 1 t7 (V.bool false)).bind fun _ =>
 M.pure (.ret [])
def zhu:Fn':=(T zda).getD noF
theorem zra:T zda = some zhu:=by kernel_rfl
theorem zsd (G:Sem') (t0:V):execK G zhu.rv zhu.body [] [] (params 0 [t0]) = zl1 G t0:=by kernel_rfl
def ziE (G:Sem'):List V → M V
 | [t0]=>fin (zl1 G t0)
 | _=>M.fail
theorem zsS {g:Sem'} (hg:Sims g (sem T)) (args:List V):Sim (ziE g args) (sem T zda args):=by
 unfold ziE;split
 ·exact zae zra (Nat.le_of_ble_eq_true (by kernel_rfl)) hg (zsd g _)
 ·exact zaa
def zt3 (G:Sem') (t0 t1 t2 t3:V):M Res :=
 (mbox ziW t0).bind fun t4 =>
 (mbox ziW (V.agg [(V.bool false),(V.int .u16 0),(V.int .u32 0),(V.int .u32 0),(V.int .u16 0),(V.int .u16 0),(V.int .i64 0)])).bind fun t8 =>
 (M.lift (Ax.faddr 3 t4)).bind fun t9 =>
 (mstore 1 t9 (V.int .u32 0)).bind fun _ =>
 (M.lift (Ax.faddr 5 t4)).bind fun t10 =>
 (mstore 1 t10 (V.int .u16 0)).bind fun _ =>
 (M.lift (Ax.faddr 0 t4)).bind fun t11 =>
 (mload none t11).bind fun t12 =>
 M.join (M.ite t12
 ((M.lift (Ax.faddr 2 t4)).bind fun t13 =>
 (mload none t13).bind fun t14 =>
 (M.lift (Ax.faddr 6 t4)).bind fun t15 =>
 (mload none t15).bind fun t16 =>
 M.getH.bind fun h0 =>
 (G zf1 [t16,t3]).bind fun t18 =>
 M.getH.bind fun h0' =>
 (M.unch t13 h0 h0').bind fun _ =>
 (M.lift (Ax.bin .mul (V.int .u32 90) t18)).bind fun t19 =>
 (M.lift (Ax.bin .add t14 t19)).bind fun t20 =>
 (M.lift (Ax.bin .sub t20 t1)).bind fun t22 =>
 (M.lift (Ax.faddr 3 t4)).bind fun t23 =>
 (mstore 1 t23 t22).bind fun _ =>
 (M.lift (Ax.faddr 4 t4)).bind fun t24 =>
 (mload none t24).bind fun t25 =>
 (M.lift (Ax.bin .add t25 (V.int .u16 1))).bind fun t26 =>
 (M.lift (Ax.bin .sub t26 t2)).bind fun t28 =>
 (M.lift (Ax.faddr 5 t4)).bind fun t29 =>
 (mstore 1 t29 t28).bind fun _ =>
 M.pure (.nrm []))
 (M.pure (.nrm []))) fun _ =>
 (mload (some 7) t4).bind fun t30 =>
 (mstore 7 t8 t30).bind fun _ =>
 (mload (some 7) t8).bind fun r0 =>
 M.pure (.ret [r0])
def zmv:Fn':=(T zf2).getD noF
theorem zys:T zf2 = some zmv:=by kernel_rfl
theorem zzx (G:Sem') (t0 t1 t2 t3:V):execK G zmv.rv zmv.body [] [] (params 0 [t0,t1,t2,t3]) = zt3 G t0 t1 t2 t3:=by kernel_rfl
def zoQ (G:Sem'):List V → M V
 | [t0,t1,t2,t3]=>fin (zt3 G t0 t1 t2 t3)
 | _=>M.fail
theorem zAm {g:Sem'} (hg:Sims g (sem T)) (args:List V):Sim (zoQ g args) (sem T zf2 args):=by
 unfold zoQ;split
 ·exact zae zys (Nat.le_of_ble_eq_true (by kernel_rfl)) hg (zzx g _ _ _ _)
 ·exact zaa
def zzv (G:Sem') (t22 t4 t1 t2 t3 t8 t9:V) (L:List V):M Res :=
 (M.lift (Ax.bin .lss (L.getD 4 .undef) t22)).bind fun t24 =>
 M.ite t24
 (M.blk 1 (
 (mload (some 6) t4).bind fun t27 =>
 (G zd7 [t27,(L.getD 4 .undef)]).bind fun t29 =>
 (M.lift (Ax.ext 0 t29)).bind fun t30 =>
 (M.lift (Ax.ext 1 t29)).bind fun t31 =>
 (M.lift (Ax.ext 2 t29)).bind fun t32 =>
 (M.lift (Ax.un .not t32)).bind fun t34 =>
 (guarded [(0,t34)] (some (0,false)) (M.pure t1)).bind fun t36 =>
 (guarded [(0,t34)] (some (0,false)) (M.pure (L.getD 4 .undef))).bind fun t37 =>
 (guarded [(0,t34)] (some (0,false)) (M.lift (Ax.bin .shr t36 t37))).bind fun t38 =>
 (guarded [(0,t34)] (some (0,false)) (M.lift (Ax.bin .and t38 (V.int .u32 1)))).bind fun t39 =>
 (guarded [(0,t34)] (some (0,false)) (M.lift (Ax.bin .eql t39 (V.int .u32 0)))).bind fun t40 =>
 (M.lift (Ax.pick t34 (V.bool true) t40)).bind fun t41 =>
 (guarded [(0,t41)] (some (0,false)) (M.pure t30)).bind fun t43 =>
 (guarded [(0,t41)] (some (0,false)) (M.pure t2)).bind fun t44 =>
 (guarded [(0,t41)] (some (0,false)) (M.lift (Ax.bin .gtr t43 t44))).bind fun t45 =>
 (M.lift (Ax.pick t41 (V.bool true) t45)).bind fun t46 =>
 (guarded [(0,t46)] (some (0,false)) (M.pure t31)).bind fun t48 =>
 (guarded [(0,t46)] (some (0,false)) (M.pure t3)).bind fun t49 =>
 (guarded [(0,t46)] (some (0,false)) (M.lift (Ax.bin .gtr t48 t49))).bind fun t50 =>
 (M.lift (Ax.pick t46 (V.bool true) t50)).bind fun t51 =>
 M.ite t51
 (M.pure (.ex 1 [(L.getD 0 .undef),(L.getD 1 .undef),(L.getD 2 .undef),(L.getD 3 .undef)]))
 ((M.lift (Ax.un .not (L.getD 3 .undef))).bind fun t53 =>
 (guarded [(0,t53)] (some (0,false)) (M.pure t30)).bind fun t55 =>
 (guarded [(0,t53)] (some (0,false)) (M.pure (L.getD 1 .undef))).bind fun t56 =>
 (guarded [(0,t53)] (some (0,false)) (M.lift (Ax.bin .gtr t55 t56))).bind fun t57 =>
 (M.lift (Ax.pick t53 (V.bool true) t57)).bind fun t58 =>
 (guarded [(0,t58)] (some (0,false)) (M.pure t30)).bind fun t60 =>
 (guarded [(0,t58)] (some (0,false)) (M.pure (L.getD 1 .undef))).bind fun t61 =>
 (guarded [(0,t58)] (some (0,false)) (M.lift (Ax.bin .eql t60 t61))).bind fun t62 =>
 (guarded [(0,t58)] (some (0,false)) (M.pure t62)).bind fun t63 =>
 (guarded [(0,t63)] (some (0,true)) (M.pure t31)).bind fun t64 =>
 (guarded [(0,t63)] (some (0,true)) (M.pure (L.getD 2 .undef))).bind fun t65 =>
 (guarded [(0,t63)] (some (0,true)) (M.lift (Ax.bin .gtr t64 t65))).bind fun t66 =>
 (guarded [(0,t58)] (some (0,false)) (M.lift (Ax.pick t63 t66 (V.bool false)))).bind fun t67 =>
 (M.lift (Ax.pick t58 (V.bool true) t67)).bind fun t68 =>
 M.join (M.ite t68
 (M.pure (.nrm [(L.getD 4 .undef),t30,t31,(V.bool true)]))
 (M.pure (.nrm [(L.getD 0 .undef),(L.getD 1 .undef),(L.getD 2 .undef),(L.getD 3 .undef)]))) fun L0 =>
 M.pure (.nrm [(L0.getD 0 .undef),(L0.getD 1 .undef),(L0.getD 2 .undef),(L0.getD 3 .undef)]))) fun L1 =>
 (M.lift (Ax.bin .add (L.getD 4 .undef) (V.int .i64 1))).bind fun t72 =>
 M.pure (.nrm [(L1.getD 0 .undef),(L1.getD 1 .undef),(L1.getD 2 .undef),(L1.getD 3 .undef),t72]))
 (M.pure (.ex 0 [(L.getD 0 .undef),(L.getD 3 .undef)]))
def zwt (G:Sem') (t0 t1 t2 t3:V):M Res :=
 (mbox zap t0).bind fun t4 =>
 (mload (some 6) t4).bind fun t18 =>
 (G zc3 [t18]).bind fun t19 =>
 (M.lift (Ax.un .not t19)).bind fun t20 =>
 M.ite t20
 (M.pure (.ret [(V.int .i64 0),(V.bool false)]))
 ((M.lift (Ax.faddr 1 t4)).bind fun t21 =>
 (mload none t21).bind fun t22 =>
 M.blk 0 (
 M.iter (zzv G t22 t4 t1 t2 t3 (V.int .i64 0) (V.bool false)) [(V.int .i64 0),(V.int .i64 0),(V.int .i64 0),(V.bool false),(V.int .i64 0)]) fun L2 =>
 M.pure (.ret [(L2.getD 0 .undef),(L2.getD 1 .undef)]))
def zoh:Fn':=(T zhg).getD noF
theorem zAd:T zhg = some zoh:=by kernel_rfl
theorem zBy (G:Sem') (t0 t1 t2 t3:V):execK G zoh.rv zoh.body [] [] (params 0 [t0,t1,t2,t3]) = zwt G t0 t1 t2 t3:=by kernel_rfl
def zqW (G:Sem'):List V → M V
 | [t0,t1,t2,t3]=>fin (zwt G t0 t1 t2 t3)
 | _=>M.fail
theorem zCp {g:Sem'} (hg:Sims g (sem T)) (args:List V):Sim (zqW g args) (sem T zhg args):=by
 unfold zqW;split
 ·exact zae zAd (Nat.le_of_ble_eq_true (by kernel_rfl)) hg (zBy g _ _ _ _)
 ·exact zaa
def zBh (G:Sem') (t0 t1:V):M Res :=
 (mbox zce t0).bind fun t2 =>
 (M.lift (Ax.bin .geq t1 (V.int .i64 0))).bind fun t6 =>
 (guarded [(0,t6)] (some (0,true)) (M.pure t1)).bind fun t8 =>
 (guarded [(0,t6)] (some (0,true)) (M.lift (Ax.faddr 16 t2))).bind fun t9 =>
 (guarded [(0,t6)] (some (0,true)) (mload none t9)).bind fun t10 =>
 (guarded [(0,t6)] (some (0,true)) (M.lift (vlen t10))).bind fun t11 =>
 (guarded [(0,t6)] (some (0,true)) (M.lift (Ax.bin .lss t8 t11))).bind fun t12 =>
 (M.lift (Ax.pick t6 t12 (V.bool false))).bind fun t13 =>
 (guarded [(0,t13)] (some (0,true)) (M.lift (Ax.faddr 16 t2))).bind fun t15 =>
 (guarded [(0,t13)] (some (0,true)) (mload none t15)).bind fun t16 =>
 (guarded [(0,t13)] (some (0,true)) (M.pure t1)).bind fun t17 =>
 (guarded [(0,t13)] (some (0,true)) (M.lift (Ax.iaddr none 1 t16 t17))).bind fun t18 =>
 (guarded [(0,t13)] (some (0,true)) (mload none t18)).bind fun t19 =>
 (guarded [(0,t13)] (some (0,true)) (M.lift (Ax.bin .neq t19 (V.int .i64 0)))).bind fun t20 =>
 (M.lift (Ax.pick t13 t20 (V.bool false))).bind fun t21 =>
 M.pure (.ret [t21])
def zth:Fn':=(T zj5).getD noF
theorem zDW:T zj5 = some zth:=by kernel_rfl
theorem zEQ (G:Sem') (t0 t1:V):execK G zth.rv zth.body [] [] (params 0 [t0,t1]) = zBh G t0 t1:=by kernel_rfl
def zwO (G:Sem'):List V → M V
 | [t0,t1]=>fin (zBh G t0 t1)
 | _=>M.fail
theorem zFK {g:Sem'} (hg:Sims g (sem T)) (args:List V):Sim (zwO g args) (sem T zj5 args):=by
 unfold zwO;split
 ·exact zae zDW (Nat.le_of_ble_eq_true (by kernel_rfl)) hg (zEQ g _ _)
 ·exact zaa
def zBf (G:Sem') (t10 t9 t0 t1:V) (L:List V):M Res :=
 (M.lift (Ax.bin .lss (L.getD 0 .undef) t10)).bind fun t12 =>
 M.ite t12
 (M.blk 1 (
 (M.lift (Ax.iaddr none 1 t9 (L.getD 0 .undef))).bind fun t13 =>
 (mload none t13).bind fun t14 =>
 (M.lift (Ax.bin .lss t14 (V.int .i64 1))).bind fun t16 =>
 (guarded [(0,t16)] (some (0,false)) (M.pure t14)).bind fun t18 =>
 (guarded [(0,t16)] (some (0,false)) (M.lift (Ax.bin .gtr t18 (V.int .i64 4096)))).bind fun t19 =>
 (M.lift (Ax.pick t16 (V.bool true) t19)).bind fun t20 =>
 (guarded [(0,t20)] (some (0,false)) (M.pure t0)).bind fun t22 =>
 (guarded [(0,t20)] (some (0,false)) (M.pure t1)).bind fun t23 =>
 (guarded [(0,t20)] (some (0,false)) (M.pure t14)).bind fun t24 =>
 (guarded [(0,t20)] (some (0,false)) (M.lift (Ax.cint .u16 t24))).bind fun t25 =>
 (guarded [(0,t20)] (some (0,false)) (M.lift (Ax.bin .sub t23 t25))).bind fun t26 =>
 (guarded [(0,t20)] (some (0,false)) (G zfT [t22,t26])).bind fun t27 =>
 (guarded [(0,t20)] (some (0,false)) (M.lift (Ax.un .not t27))).bind fun t28 =>
 (M.lift (Ax.pick t20 (V.bool true) t28)).bind fun t29 =>
 M.ite t29
 (M.pure (.ret [(V.bool false)]))
 (M.pure (.nrm []))) fun _ =>
 (M.lift (Ax.bin .add (L.getD 0 .undef) (V.int .i64 1))).bind fun t30 =>
 M.pure (.nrm [t30]))
 (M.pure (.ex 0 []))
def zyf (G:Sem') (t0 t1 t2:V):M Res :=
 (M.lift (vlen t2)).bind fun t10 =>
 M.blk 0 (
 M.iter (zBf G t10 t2 t0 t1) [(V.int .i64 0)]) fun _ =>
 M.pure (.ret [(V.bool true)])
def zqm:Fn':=(T ziv).getD noF
theorem zBZ:T ziv = some zqm:=by kernel_rfl
theorem zCX (G:Sem') (t0 t1 t2:V):execK G zqm.rv zqm.body [] [] (params 0 [t0,t1,t2]) = zyf G t0 t1 t2:=by kernel_rfl
def ztO (G:Sem'):List V → M V
 | [t0,t1,t2]=>fin (zyf G t0 t1 t2)
 | _=>M.fail
theorem zEi {g:Sem'} (hg:Sims g (sem T)) (args:List V):Sim (ztO g args) (sem T ziv args):=by
 unfold ztO;split
 ·exact zae zBZ (Nat.le_of_ble_eq_true (by kernel_rfl)) hg (zCX g _ _ _)
 ·exact zaa
def zxD (G:Sem') (t18 t1 t2:V) (L:List V):M Res :=
 (M.lift (Ax.bin .lss (L.getD 0 .undef) t18)).bind fun t20 =>
 M.ite t20
 (M.blk 1 (
 (M.lift (Ax.faddr 7 t1)).bind fun t22 =>
 (mload none t22).bind fun t23 =>
 (M.lift (Ax.faddr 7 t1)).bind fun t25 =>
 (mload none t25).bind fun t26 =>
 (M.lift (Ax.iaddr none 2 t26 (L.getD 0 .undef))).bind fun t28 =>
 (M.lift (Ax.faddr 1 t28)).bind fun t29 =>
 (mload none t29).bind fun t30 =>
 M.getH.bind fun h2 =>
 (G zaL [t30]).bind fun t31 =>
 M.getH.bind fun h2' =>
 (M.unch t22 h2 h2').bind fun _ =>
 (M.lift (Ax.iaddr none 2 t23 (L.getD 0 .undef))).bind fun t32 =>
 (M.lift (Ax.faddr 1 t32)).bind fun t33 =>
 (mstore 1 t33 t31).bind fun _ =>
 M.pure (.nrm [])) fun _ =>
 (M.lift (Ax.bin .add (L.getD 0 .undef) (V.int .i64 1))).bind fun t34 =>
 M.pure (.nrm [t34]))
 (M.pure (.ex 0 []))
def zt7 (G:Sem') (t0:V):M Res :=
 (mbox zbE t0).bind fun t1 =>
 (mbox zbE (V.agg [(V.bool false),(V.int .i64 0),(V.int .u16 0),(V.int .u32 0),(V.int .u32 0),V.nils,(V.int .i64 0),V.nils,(V.int .i64 0),V.nils])).bind fun t2 =>
 (M.lift (Ax.faddr 5 t1)).bind fun t4 =>
 (mload none t4).bind fun t5 =>
 (M.lift (Ax.faddr 9 t1)).bind fun t7 =>
 (mload none t7).bind fun t8 =>
 (M.lift (Ax.faddr 7 t1)).bind fun t10 =>
 (mload none t10).bind fun t11 =>
 M.getH.bind fun h0 =>
 (G zbl [t5]).bind fun t6 =>
 M.getH.bind fun h0' =>
 (M.unch t10 h0 h0').bind fun _ =>
 (M.unch t7 h0 h0').bind fun _ =>
 M.getH.bind fun h1 =>
 (G zaL [t8]).bind fun t9 =>
 M.getH.bind fun h1' =>
 (M.unch t10 h1 h1').bind fun _ =>
 (G zba [t11]).bind fun t12 =>
 (M.lift (Ax.faddr 5 t1)).bind fun t13 =>
 (mstore 1 t13 t6).bind fun _ =>
 (M.lift (Ax.faddr 9 t1)).bind fun t14 =>
 (mstore 1 t14 t9).bind fun _ =>
 (M.lift (Ax.faddr 7 t1)).bind fun t15 =>
 (mstore 1 t15 t12).bind fun _ =>
 (M.lift (Ax.faddr 7 t1)).bind fun t16 =>
 (mload none t16).bind fun t17 =>
 (M.lift (vlen t17)).bind fun t18 =>
 M.blk 0 (
 M.iter (zxD G t18 t1 t2) [(V.int .i64 0)]) fun _ =>
 (mload (some 10) t1).bind fun t35 =>
 (mstore 10 t2 t35).bind fun _ =>
 (mload (some 10) t2).bind fun r0 =>
 M.pure (.ret [r0])
def zmz:Fn':=(T zf5).getD noF
theorem zyw:T zf5 = some zmz:=by kernel_rfl
theorem zzB (G:Sem') (t0:V):execK G zmz.rv zmz.body [] [] (params 0 [t0]) = zt7 G t0:=by kernel_rfl
def zoZ (G:Sem'):List V → M V
 | [t0]=>fin (zt7 G t0)
 | _=>M.fail
theorem zAv {g:Sem'} (hg:Sims g (sem T)) (args:List V):Sim (zoZ g args) (sem T zf5 args):=by
 unfold zoZ;split
 ·exact zae zyw (Nat.le_of_ble_eq_true (by kernel_rfl)) hg (zzB g _)
 ·exact zaa
def zpQ (G:Sem') (t0 t1:V):M Res :=
 (mbox zfG t1).bind fun t3 =>
 (M.lift (Ax.nilck t0)).bind fun t6 =>
 (M.lift (Ax.faddr 0 t6)).bind fun t7 =>
 (mload none t7).bind fun t8 =>
 (M.pure (.fn zdy [t3])).bind fun t9 =>
 (G zaI [t8,t9]).bind fun t10 =>
 M.pure (.ret [t10])
def zkd:Fn':=(T zdK).getD noF
theorem zvs:T zdK = some zkd:=by kernel_rfl
theorem zwB (G:Sem') (t0 t1:V):execK G zkd.rv zkd.body [] [] (params 0 [t0,t1]) = zpQ G t0 t1:=by kernel_rfl
def zlE (G:Sem'):List V → M V
 | [t0,t1]=>fin (zpQ G t0 t1)
 | _=>M.fail
theorem zxn {g:Sem'} (hg:Sims g (sem T)) (args:List V):Sim (zlE g args) (sem T zdK args):=by
 unfold zlE;split
 ·exact zae zvs (Nat.le_of_ble_eq_true (by kernel_rfl)) hg (zwB g _ _)
 ·exact zaa
def zdp (G:Sem') (t0 t1 t2:V):M Res :=
 (M.lift (vlen t0)).bind fun t12 =>
 (M.lift (zbo .sl 2 t0 (some t1) (some t2) (some t12))).bind fun t13 =>
 (M.lift (Ax.bin .eql t1 t2)).bind fun t16 =>
 M.ite t16
 (M.pure (.ret [t0]))
 ((M.lift (vlen t0)).bind fun t19 =>
 (M.lift (zbo .sl 2 t0 none (some t1) none)).bind fun t22 =>
 (M.lift (zbo .sl 2 t0 (some t2) none none)).bind fun t25 =>
 (mappend zjY 2 32 t22 t25).bind fun t26 =>
 (M.lift (vlen t26)).bind fun t29 =>
 (mslice2 2 t26 t29 t19).bind fun t31 =>
 (mclear [(V.int .u16 0),V.nils] t31).bind fun _ =>
 M.pure (.ret [t26]))
def zb5:Fn':=(T zaz).getD noF
theorem zfX:T zaz = some zb5:=by kernel_rfl
theorem zge (G:Sem') (t0 t1 t2:V):execK G zb5.rv zb5.body [] [] (params 0 [t0,t1,t2]) = zdp G t0 t1 t2:=by kernel_rfl
def zb9 (G:Sem'):List V → M V
 | [t0,t1,t2]=>fin (zdp G t0 t1 t2)
 | _=>M.fail
theorem zgj {g:Sem'} (hg:Sims g (sem T)) (args:List V):Sim (zb9 g args) (sem T zaz args):=by
 unfold zb9;split
 ·exact zae zfX (Nat.le_of_ble_eq_true (by kernel_rfl)) hg (zge g _ _ _)
 ·exact zaa
def zcr (G:Sem') (t0 t1:V):M Res :=
 (G zay [t0,t1]).bind fun t7 =>
 (M.lift (Ax.bin .geq t7 (V.int .i64 0))).bind fun t8 =>
 M.pure (.ret [t8])
def zbu:Fn':=(T zat).getD noF
theorem zep:T zat = some zbu:=by kernel_rfl
theorem zeq (G:Sem') (t0 t1:V):execK G zbu.rv zbu.body [] [] (params 0 [t0,t1]) = zcr G t0 t1:=by kernel_rfl
def zbA (G:Sem'):List V → M V
 | [t0,t1]=>fin (zcr G t0 t1)
 | _=>M.fail
theorem zeu {g:Sem'} (hg:Sims g (sem T)) (args:List V):Sim (zbA g args) (sem T zat args):=by
 unfold zbA;split
 ·exact zae zep (Nat.le_of_ble_eq_true (by kernel_rfl)) hg (zeq g _ _)
 ·exact zaa
def zpP (G:Sem') (t0:V):M Res :=
 (mbox za3 t0).bind fun t1 =>
 (mload (some 16) t1).bind fun t3 =>
 (G zhc [t3]).bind fun t4 =>
 (M.lift (Ax.un .not t4)).bind fun t5 =>
 M.pure (.ret [t5])
def zkc:Fn':=(T zez).getD noF
theorem zvr:T zez = some zkc:=by kernel_rfl
theorem zwA (G:Sem') (t0:V):execK G zkc.rv zkc.body [] [] (params 0 [t0]) = zpP G t0:=by kernel_rfl
def zlD (G:Sem'):List V → M V
 | [t0]=>fin (zpP G t0)
 | _=>M.fail
theorem zxm {g:Sem'} (hg:Sims g (sem T)) (args:List V):Sim (zlD g args) (sem T zez args):=by
 unfold zlD;split
 ·exact zae zvr (Nat.le_of_ble_eq_true (by kernel_rfl)) hg (zwA g _)
 ·exact zaa
def zwm (G:Sem') (t0:V):M Res :=
 (mbox za3 t0).bind fun t1 =>
 (M.lift (Ax.faddr 0 t1)).bind fun t3 =>
 (mload none t3).bind fun t4 =>
 (M.lift (Ax.bin .lss t4 (V.int .i64 1))).bind fun t5 =>
 (guarded [(0,t5)] (some (0,false)) (M.lift (Ax.faddr 0 t1))).bind fun t7 =>
 (guarded [(0,t5)] (some (0,false)) (mload none t7)).bind fun t8 =>
 (guarded [(0,t5)] (some (0,false)) (M.lift (Ax.bin .gtr t8 (V.int .i64 7)))).bind fun t9 =>
 (M.lift (Ax.pick t5 (V.bool true) t9)).bind fun t10 =>
 (guarded [(0,t10)] (some (0,false)) (mload (some 16) t1)).bind fun t12 =>
 (guarded [(0,t10)] (some (0,false)) (mload (some 16) t1)).bind fun t13 =>
 M.getH.bind fun h0 =>
 (guarded [(0,t10)] (some (0,false)) (G zg9 [t13])).bind fun t14 =>
 M.getH.bind fun h0' =>
 (M.unch t1 h0 h0').bind fun _ =>
 (guarded [(0,t10)] (some (0,false)) (G zf7 [t12,t14])).bind fun t15 =>
 (guarded [(0,t10)] (some (0,false)) (M.lift (Ax.un .not t15))).bind fun t16 =>
 (M.lift (Ax.pick t10 (V.bool true) t16)).bind fun t17 =>
 M.ite t17
 (M.pure (.ret [(V.bool false)]))
 ((M.lift (Ax.faddr 0 t1)).bind fun t18 =>
 (mload none t18).bind fun t19 =>
 M.blk 0 (
 (M.lift (Ax.bin .eql t19 (V.int .i64 1))).bind fun t21 =>
 M.join (M.ite t21
 (M.pure (.nrm [t21]))
 ((M.lift (Ax.bin .eql t19 (V.int .i64 2))).bind fun t22 =>
 M.pure (.nrm [t22]))) fun L0 =>
 M.ite (L0.getD 0 .undef)
 ((M.lift (Ax.faddr 7 t1)).bind fun t23 =>
 (mload none t23).bind fun t24 =>
 (M.lift (vlen t24)).bind fun t25 =>
 (M.lift (Ax.bin .leq t25 (V.int .i64 31))).bind fun t26 =>
 (guarded [(0,t26)] (some (0,true)) (M.lift (Ax.faddr 7 t1))).bind fun t28 =>
 (guarded [(0,t26)] (some (0,true)) (mload none t28)).bind fun t29 =>
 (guarded [(0,t26)] (some (0,true)) (G zav [t29,(V.fn zfi [])])).bind fun t30 =>
 (guarded [(0,t26)] (some (0,true)) (M.lift (Ax.un .not t30))).bind fun t31 =>
 (M.lift (Ax.pick t26 t31 (V.bool false))).bind fun t32 =>
 M.pure (.ret [t32]))
 ((M.lift (Ax.bin .eql t19 (V.int .i64 3))).bind fun t34 =>
 M.ite t34
 ((M.lift (Ax.faddr 8 t1)).bind fun t35 =>
 (mload none t35).bind fun t36 =>
 (M.lift (vlen t36)).bind fun t37 =>
 (M.lift (Ax.bin .gtr t37 (V.int .i64 0))).bind fun t38 =>
 M.pure (.ret [t38]))
 ((M.lift (Ax.bin .eql t19 (V.int .i64 5))).bind fun t40 =>
 M.ite t40
 ((M.lift (Ax.faddr 9 t1)).bind fun t41 =>
 (mload none t41).bind fun t42 =>
 (M.lift (vlen t42)).bind fun t43 =>
 (M.lift (Ax.bin .gtr t43 (V.int .i64 0))).bind fun t44 =>
 M.pure (.ret [t44]))
 ((M.lift (Ax.bin .eql t19 (V.int .i64 6))).bind fun t46 =>
 M.ite t46
 ((M.lift (Ax.faddr 12 t1)).bind fun t47 =>
 (mload none t47).bind fun t48 =>
 (M.lift (vlen t48)).bind fun t49 =>
 (M.lift (Ax.bin .leq t49 (V.int .i64 255))).bind fun t50 =>
 (guarded [(0,t50)] (some (0,true)) (M.lift (Ax.faddr 10 t1))).bind fun t52 =>
 (guarded [(0,t50)] (some (0,true)) (mload none t52)).bind fun t53 =>
 (guarded [(0,t50)] (some (0,true)) (M.lift (Ax.bin .geq t53 (V.int .i64 0)))).bind fun t54 =>
 (M.lift (Ax.pick t50 t54 (V.bool false))).bind fun t55 =>
 (guarded [(0,t55)] (some (0,true)) (M.lift (Ax.faddr 10 t1))).bind fun t57 =>
 (guarded [(0,t55)] (some (0,true)) (mload none t57)).bind fun t58 =>
 (guarded [(0,t55)] (some (0,true)) (M.lift (Ax.bin .leq t58 (V.int .i64 63)))).bind fun t59 =>
 (M.lift (Ax.pick t55 t59 (V.bool false))).bind fun t60 =>
 (guarded [(0,t60)] (some (0,true)) (M.lift (Ax.faddr 11 t1))).bind fun t62 =>
 (guarded [(0,t60)] (some (0,true)) (mload none t62)).bind fun t63 =>
 (guarded [(0,t60)] (some (0,true)) (M.lift (Ax.bin .lss t63 (V.int .u32 262144)))).bind fun t64 =>
 (M.lift (Ax.pick t60 t64 (V.bool false))).bind fun t65 =>
 M.pure (.ret [t65]))
 ((M.lift (Ax.bin .eql t19 (V.int .i64 7))).bind fun t67 =>
 M.ite t67
 ((M.lift (Ax.faddr 13 t1)).bind fun t68 =>
 (mload none t68).bind fun t69 =>
 (M.lift (Ax.bin .geq t69 (V.int .i64 192))).bind fun t70 =>
 (guarded [(0,t70)] (some (0,true)) (M.lift (Ax.faddr 13 t1))).bind fun t72 =>
 (guarded [(0,t70)] (some (0,true)) (mload none t72)).bind fun t73 =>
 (guarded [(0,t70)] (some (0,true)) (M.lift (Ax.bin .leq t73 (V.int .i64 223)))).bind fun t74 =>
 (M.lift (Ax.pick t70 t74 (V.bool false))).bind fun t75 =>
 (guarded [(0,t75)] (some (0,true)) (M.lift (Ax.faddr 14 t1))).bind fun t77 =>
 (guarded [(0,t75)] (some (0,true)) (mload none t77)).bind fun t78 =>
 (guarded [(0,t75)] (some (0,true)) (M.lift (Ax.bin .geq t78 (V.int .i64 0)))).bind fun t79 =>
 (M.lift (Ax.pick t75 t79 (V.bool false))).bind fun t80 =>
 (guarded [(0,t80)] (some (0,true)) (M.lift (Ax.faddr 14 t1))).bind fun t82 =>
 (guarded [(0,t80)] (some (0,true)) (mload none t82)).bind fun t83 =>
 (guarded [(0,t80)] (some (0,true)) (M.lift (Ax.bin .leq t83 (V.int .i64 31)))).bind fun t84 =>
 (M.lift (Ax.pick t80 t84 (V.bool false))).bind fun t85 =>
 (guarded [(0,t85)] (some (0,true)) (M.lift (Ax.faddr 15 t1))).bind fun t87 =>
 (guarded [(0,t85)] (some (0,true)) (mload none t87)).bind fun t88 =>
 (guarded [(0,t85)] (some (0,true)) (M.lift (vlen t88))).bind fun t89 =>
 (guarded [(0,t85)] (some (0,true)) (M.lift (Ax.bin .rem t89 (V.int .i64 4)))).bind fun t90 =>
 (guarded [(0,t85)] (some (0,true)) (M.lift (Ax.bin .eql t90 (V.int .i64 0)))).bind fun t91 =>
 (M.lift (Ax.pick t85 t91 (V.bool false))).bind fun t92 =>
 (guarded [(0,t92)] (some (0,true)) (M.lift (Ax.faddr 13 t1))).bind fun t94 =>
 (guarded [(0,t92)] (some (0,true)) (mload none t94)).bind fun t95 =>
 (guarded [(0,t92)] (some (0,true)) (M.lift (Ax.faddr 14 t1))).bind fun t96 =>
 (guarded [(0,t92)] (some (0,true)) (mload none t96)).bind fun t97 =>
 (guarded [(0,t92)] (some (0,true)) (M.lift (Ax.faddr 15 t1))).bind fun t98 =>
 (guarded [(0,t92)] (some (0,true)) (mload none t98)).bind fun t99 =>
 (guarded [(0,t92)] (some (0,true)) (G zfQ [t95,t97,t99])).bind fun t100 =>
 (guarded [(0,t92)] (some (0,true)) (M.lift (Ax.bin .eql t100 (V.int .i64 7)))).bind fun t101 =>
 (M.lift (Ax.pick t92 t101 (V.bool false))).bind fun t102 =>
 M.pure (.ret [t102]))
 (M.pure (.nrm []))))))) fun _ =>
 M.pure (.ret [(V.bool true)]))
def zob:Fn':=(T zhc).getD noF
theorem zz7:T zhc = some zob:=by kernel_rfl
theorem zBs (G:Sem') (t0:V):execK G zob.rv zob.body [] [] (params 0 [t0]) = zwm G t0:=by kernel_rfl
def zqO (G:Sem'):List V → M V
 | [t0]=>fin (zwm G t0)
 | _=>M.fail
theorem zCh {g:Sem'} (hg:Sims g (sem T)) (args:List V):Sim (zqO g args) (sem T zhc args):=by
 unfold zqO;split
 ·exact zae zz7 (Nat.le_of_ble_eq_true (by kernel_rfl)) hg (zBs g _)
 ·exact zaa
def zzq (G:Sem') (t32 t31 t3 t4:V) (L:List V):M Res :=
 (M.lift (Ax.bin .lss (L.getD 1 .undef) t32)).bind fun t34 =>
 M.ite t34
 (M.blk 2 (
 (M.lift (Ax.iaddr none 1 t31 (L.getD 1 .undef))).bind fun t35 =>
 (mload none t35).bind fun t36 =>
 (M.lift (Ax.cint .u64 t36)).bind fun t39 =>
 (G zbS [(L.getD 0 .undef),t39,(V.int .i64 4)]).bind fun t40 =>
 M.pure (.nrm [t40])) fun L0 =>
 (M.lift (Ax.bin .add (L.getD 1 .undef) (V.int .i64 1))).bind fun t41 =>
 M.pure (.nrm [(L0.getD 0 .undef),t41]))
 (M.pure (.ex 1 [(L.getD 0 .undef)]))
def zzp (G:Sem') (t77 t76:V) (L:List V):M Res :=
 (M.lift (Ax.bin .lss (L.getD 1 .undef) t77)).bind fun t79 =>
 M.ite t79
 (M.blk 5 (
 (M.lift (Ax.iaddr none 2 t76 (L.getD 1 .undef))).bind fun t80 =>
 (mload (some 2) t80).bind fun t81 =>
 (mbox zkX (V.agg [(V.int .u16 0),(V.int .u16 0)])).bind fun t8 =>
 (mstore 2 t8 t81).bind fun _ =>
 (M.lift (Ax.faddr 0 t8)).bind fun t83 =>
 (mload none t83).bind fun t84 =>
 (M.lift (Ax.cint .u64 t84)).bind fun t85 =>
 (M.lift (Ax.faddr 1 t8)).bind fun t87 =>
 (mload none t87).bind fun t88 =>
 (M.lift (Ax.cint .u64 t88)).bind fun t89 =>
 M.getH.bind fun h2 =>
 (G zbS [(L.getD 0 .undef),t85,(V.int .i64 2)]).bind fun t86 =>
 M.getH.bind fun h2' =>
 (M.unch t87 h2 h2').bind fun _ =>
 (G zbS [t86,t89,(V.int .i64 2)]).bind fun t90 =>
 M.pure (.nrm [t90])) fun L3 =>
 (M.lift (Ax.bin .add (L.getD 1 .undef) (V.int .i64 1))).bind fun t91 =>
 M.pure (.nrm [(L3.getD 0 .undef),t91]))
 (M.pure (.ex 4 [(L.getD 0 .undef)]))
def zzo (G:Sem') (t97 t96:V) (L:List V):M Res :=
 (M.lift (Ax.bin .lss (L.getD 1 .undef) t97)).bind fun t99 =>
 M.ite t99
 (M.blk 7 (
 (M.lift (Ax.iaddr none 2 t96 (L.getD 1 .undef))).bind fun t100 =>
 (mload (some 2) t100).bind fun t101 =>
 (mbox zmh (V.agg [(V.int .u32 0),(V.int .u8 0)])).bind fun t10 =>
 (mstore 2 t10 t101).bind fun _ =>
 (M.lift (Ax.faddr 0 t10)).bind fun t103 =>
 (mload none t103).bind fun t104 =>
 (M.lift (Ax.cint .u64 t104)).bind fun t105 =>
 (M.lift (Ax.faddr 1 t10)).bind fun t107 =>
 (mload none t107).bind fun t108 =>
 M.getH.bind fun h3 =>
 (G zbS [(L.getD 0 .undef),t105,(V.int .i64 4)]).bind fun t106 =>
 M.getH.bind fun h3' =>
 (M.unch t107 h3 h3').bind fun _ =>
 (mslit zaj 4 [(V.int .u8 0)] [(0,1,t108),(1,1,(V.int .u8 0)),(2,1,(V.int .u8 0)),(3,1,(V.int .u8 0))]).bind fun t109 =>
 (mappend zaj 1 1 t106 t109).bind fun t110 =>
 M.pure (.nrm [t110])) fun L5 =>
 (M.lift (Ax.bin .add (L.getD 1 .undef) (V.int .i64 1))).bind fun t111 =>
 M.pure (.nrm [(L5.getD 0 .undef),t111]))
 (M.pure (.ex 6 [(L.getD 0 .undef)]))
def zzn (G:Sem') (t135 t134:V) (L:List V):M Res :=
 (M.lift (Ax.bin .lss (L.getD 1 .undef) t135)).bind fun t137 =>
 M.ite t137
 (M.blk 9 (
 (M.lift (Ax.iaddr none 1 t134 (L.getD 1 .undef))).bind fun t138 =>
 (mload none t138).bind fun t139 =>
 (M.lift (Ax.cint .u64 t139)).bind fun t142 =>
 (G zbS [(L.getD 0 .undef),t142,(V.int .i64 4)]).bind fun t143 =>
 M.pure (.nrm [t143])) fun L7 =>
 (M.lift (Ax.bin .add (L.getD 1 .undef) (V.int .i64 1))).bind fun t144 =>
 M.pure (.nrm [(L7.getD 0 .undef),t144]))
 (M.pure (.ex 8 [(L.getD 0 .undef)]))
def zwf (G:Sem') (t0:V):M Res :=
 (mbox za3 t0).bind fun t1 =>
 (M.lift (Ax.faddr 1 t1)).bind fun t13 =>
 (mload none t13).bind fun t14 =>
 (M.lift (Ax.cint .u64 t14)).bind fun t15 =>
 (G zbS [V.nils,t15,(V.int .i64 4)]).bind fun t16 =>
 (M.lift (Ax.faddr 0 t1)).bind fun t17 =>
 (mload none t17).bind fun t18 =>
 M.blk 0 (
 (M.lift (Ax.bin .eql t18 (V.int .i64 1))).bind fun t20 =>
 M.ite t20
 ((M.lift (Ax.faddr 3 t1)).bind fun t22 =>
 (mload none t22).bind fun t23 =>
 (G zbS [t16,t23,(V.int .i64 8)]).bind fun t24 =>
 (M.lift (Ax.faddr 4 t1)).bind fun t25 =>
 (mload none t25).bind fun t26 =>
 (M.lift (Ax.faddr 5 t1)).bind fun t27 =>
 (mload none t27).bind fun t28 =>
 (M.lift (Ax.faddr 6 t1)).bind fun t29 =>
 (mload none t29).bind fun t30 =>
 (mslit zes 3 [(V.int .u32 0)] [(0,1,t26),(1,1,t28),(2,1,t30)]).bind fun t31 =>
 (M.lift (vlen t31)).bind fun t32 =>
 M.blk 1 (
 M.iter (zzq G t32 t31 (V.int .i64 0) (V.int .i64 0)) [t24,(V.int .i64 0)]) fun L1 =>
 (M.lift (Ax.faddr 7 t1)).bind fun t43 =>
 (mload none t43).bind fun t44 =>
 (M.lift (Ax.faddr 7 t1)).bind fun t46 =>
 (mload none t46).bind fun t47 =>
 (M.lift (vlen t47)).bind fun t48 =>
 M.getH.bind fun h0 =>
 (G zei [(L1.getD 0 .undef),t44]).bind fun t45 =>
 M.getH.bind fun h0' =>
 (M.unch t46 h0 h0').bind fun _ =>
 M.pure (.ret [t45,(V.int .i64 200),t48]))
 ((M.lift (Ax.bin .eql t18 (V.int .i64 2))).bind fun t50 =>
 M.ite t50
 ((M.lift (Ax.faddr 7 t1)).bind fun t52 =>
 (mload none t52).bind fun t53 =>
 (M.lift (Ax.faddr 7 t1)).bind fun t55 =>
 (mload none t55).bind fun t56 =>
 (M.lift (vlen t56)).bind fun t57 =>
 M.getH.bind fun h1 =>
 (G zei [t16,t53]).bind fun t54 =>
 M.getH.bind fun h1' =>
 (M.unch t55 h1 h1').bind fun _ =>
 M.pure (.ret [t54,(V.int .i64 201),t57]))
 ((M.lift (Ax.bin .eql t18 (V.int .i64 7))).bind fun t59 =>
 M.ite t59
 ((M.lift (Ax.faddr 15 t1)).bind fun t60 =>
 (mload none t60).bind fun t61 =>
 (M.lift (Ax.faddr 13 t1)).bind fun t62 =>
 (mload none t62).bind fun t63 =>
 (M.lift (Ax.faddr 14 t1)).bind fun t64 =>
 (mload none t64).bind fun t65 =>
 M.pure (.ret [t61,t63,t65]))
 (M.pure (.nrm [t16]))))) fun L2 =>
 (M.lift (Ax.faddr 2 t1)).bind fun t67 =>
 (mload none t67).bind fun t68 =>
 (M.lift (Ax.cint .u64 t68)).bind fun t69 =>
 (G zbS [(L2.getD 0 .undef),t69,(V.int .i64 4)]).bind fun t70 =>
 (M.lift (Ax.faddr 0 t1)).bind fun t71 =>
 (mload none t71).bind fun t72 =>
 M.blk 3 (
 (M.lift (Ax.bin .eql t72 (V.int .i64 3))).bind fun t74 =>
 M.ite t74
 ((M.lift (Ax.faddr 8 t1)).bind fun t75 =>
 (mload none t75).bind fun t76 =>
 (M.lift (vlen t76)).bind fun t77 =>
 M.blk 4 (
 M.iter (zzp G t77 t76) [t70,(V.int .i64 0)]) fun L4 =>
 M.pure (.ret [(L4.getD 0 .undef),(V.int .i64 205),(V.int .i64 1)]))
 ((M.lift (Ax.bin .eql t72 (V.int .i64 5))).bind fun t94 =>
 M.ite t94
 ((M.lift (Ax.faddr 9 t1)).bind fun t95 =>
 (mload none t95).bind fun t96 =>
 (M.lift (vlen t96)).bind fun t97 =>
 M.blk 6 (
 M.iter (zzo G t97 t96) [t70,(V.int .i64 0)]) fun L6 =>
 M.pure (.ret [(L6.getD 0 .undef),(V.int .i64 206),(V.int .i64 4)]))
 ((M.lift (Ax.bin .eql t72 (V.int .i64 6))).bind fun t114 =>
 M.ite t114
 ((M.lift (Ax.faddr 12 t1)).bind fun t117 =>
 (mload none t117).bind fun t118 =>
 (M.lift (vlen t118)).bind fun t119 =>
 (M.lift (Ax.cint .u8 t119)).bind fun t120 =>
 M.getH.bind fun h4 =>
 (mappend zaj 1 1 t70 (V.str ⟨#[82,69,77,66]⟩)).bind fun t116 =>
 M.getH.bind fun h4' =>
 (M.unch t117 h4 h4').bind fun _ =>
 (mslit zaj 1 [(V.int .u8 0)] [(0,1,t120)]).bind fun t121 =>
 (mappend zaj 1 1 t116 t121).bind fun t122 =>
 (M.lift (Ax.faddr 10 t1)).bind fun t124 =>
 (mload none t124).bind fun t125 =>
 (M.lift (Ax.cint .u64 t125)).bind fun t126 =>
 (M.lift (Ax.bin .shl t126 (V.int .u64 18))).bind fun t127 =>
 (M.lift (Ax.faddr 11 t1)).bind fun t128 =>
 (mload none t128).bind fun t129 =>
 (M.lift (Ax.cint .u64 t129)).bind fun t130 =>
 (M.lift (Ax.bin .or t127 t130)).bind fun t131 =>
 (G zbS [t122,t131,(V.int .i64 3)]).bind fun t132 =>
 (M.lift (Ax.faddr 12 t1)).bind fun t133 =>
 (mload none t133).bind fun t134 =>
 (M.lift (vlen t134)).bind fun t135 =>
 M.blk 8 (
 M.iter (zzn G t135 t134) [t132,(V.int .i64 0)]) fun L8 =>
 M.pure (.ret [(L8.getD 0 .undef),(V.int .i64 206),(V.int .i64 15)]))
 (M.pure (.nrm [t70]))))) fun L9 =>
 M.pure (.ret [(L9.getD 0 .undef),(V.int .i64 206),(V.int .i64 1)])
def zn6:Fn':=(T zg8).getD noF
theorem zz2:T zg8 = some zn6:=by kernel_rfl
theorem zBn (G:Sem') (t0:V):execK G zn6.rv zn6.body [] [] (params 0 [t0]) = zwf G t0:=by kernel_rfl
def zqJ (G:Sem'):List V → M V
 | [t0]=>fin (zwf G t0)
 | _=>M.fail
theorem zCc {g:Sem'} (hg:Sims g (sem T)) (args:List V):Sim (zqJ g args) (sem T zg8 args):=by
 unfold zqJ;split
 ·exact zae zz2 (Nat.le_of_ble_eq_true (by kernel_rfl)) hg (zBn g _)
 ·exact zaa
def zBd (G:Sem') (t1 t6:V) (L:List V):M Res :=
 (M.lift (Ax.bin .geq (L.getD 1 .undef) (V.int .i64 0))).bind fun t11 =>
 M.ite t11
 (M.blk 1 (
 (M.lift (Ax.bin .mul (V.int .i64 8) (L.getD 1 .undef))).bind fun t17 =>
 (M.lift (Ax.bin .shr t1 t17)).bind fun t18 =>
 (M.lift (Ax.cint .u8 t18)).bind fun t19 =>
 (mslit zaj 1 [(V.int .u8 0)] [(0,1,t19)]).bind fun t20 =>
 (mappend zaj 1 1 (L.getD 0 .undef) t20).bind fun t21 =>
 M.pure (.nrm [t21])) fun L0 =>
 (M.lift (Ax.bin .sub (L.getD 1 .undef) (V.int .i64 1))).bind fun t13 =>
 M.pure (.nrm [(L0.getD 0 .undef),t13]))
 (M.pure (.ex 0 [(L.getD 0 .undef)]))
def zyc (G:Sem') (t0 t1 t2:V):M Res :=
 (M.lift (Ax.bin .sub t2 (V.int .i64 1))).bind fun t9 =>
 M.blk 0 (
 M.iter (zBd G t1 V.nils) [t0,t9]) fun L1 =>
 M.pure (.ret [(L1.getD 0 .undef)])
def zqj:Fn':=(T zbS).getD noF
theorem zBW:T zbS = some zqj:=by kernel_rfl
theorem zCU (G:Sem') (t0 t1 t2:V):execK G zqj.rv zqj.body [] [] (params 0 [t0,t1,t2]) = zyc G t0 t1 t2:=by kernel_rfl
def ztL (G:Sem'):List V → M V
 | [t0,t1,t2]=>fin (zyc G t0 t1 t2)
 | _=>M.fail
theorem zEf {g:Sem'} (hg:Sims g (sem T)) (args:List V):Sim (ztL g args) (sem T zbS args):=by
 unfold ztL;split
 ·exact zae zBW (Nat.le_of_ble_eq_true (by kernel_rfl)) hg (zCU g _ _ _)
 ·exact zaa
def zkU (G:Sem') (t7 t1 t0:V) (L:List V):M Res :=
 (M.lift (Ax.bin .lss (L.getD 0 .undef) t7)).bind fun t9 =>
 M.ite t9
 (M.blk 1 (
 (M.lift (Ax.iaddr none 1 t0 (L.getD 0 .undef))).bind fun t14 =>
 (mload none t14).bind fun t15 =>
 (M.lift (eqr .bool false t1 t15)).bind fun t16 =>
 M.ite t16
 (M.pure (.ret [(L.getD 0 .undef)]))
 (M.pure (.nrm []))) fun _ =>
 (M.lift (Ax.bin .add (L.getD 0 .undef) (V.int .i64 1))).bind fun t18 =>
 M.pure (.nrm [t18]))
 (M.pure (.ex 0 []))
def zhl (G:Sem') (t0 t1:V):M Res :=
 (M.lift (vlen t0)).bind fun t7 =>
 M.blk 0 (
 M.iter (zkU G t7 t1 t0) [(V.int .i64 0)]) fun _ =>
 M.pure (.ret [(V.int .i64 (-1))])
def zeg:Fn':=(T zbt).getD noF
theorem zlb:T zbt = some zeg:=by kernel_rfl
theorem zlA (G:Sem') (t0 t1:V):execK G zeg.rv zeg.body [] [] (params 0 [t0,t1]) = zhl G t0 t1:=by kernel_rfl
def zeF (G:Sem'):List V → M V
 | [t0,t1]=>fin (zhl G t0 t1)
 | _=>M.fail
theorem zlR {g:Sem'} (hg:Sims g (sem T)) (args:List V):Sim (zeF g args) (sem T zbt args):=by
 unfold zeF;split
 ·exact zae zlb (Nat.le_of_ble_eq_true (by kernel_rfl)) hg (zlA g _ _)
 ·exact zaa
def zud (G:Sem') (t0:V):M Res :=
 (M.lift (Ax.bin .geq t0 (V.int .i64 0))).bind fun t4 =>
 (guarded [(0,t4)] (some (0,true)) (M.pure t0)).bind fun t6 =>
 (guarded [(0,t4)] (some (0,true)) (M.lift (Ax.bin .lss t6 (V.int .i64 8)))).bind fun t7 =>
 (M.lift (Ax.pick t4 t7 (V.bool false))).bind fun t8 =>
 M.pure (.ret [t8])
def zmF:Fn':=(T zeZ).getD noF
theorem zyC:T zeZ = some zmF:=by kernel_rfl
theorem zzH (G:Sem') (t0:V):execK G zmF.rv zmF.body [] [] (params 0 [t0]) = zud G t0:=by kernel_rfl
def zo6 (G:Sem'):List V → M V
 | [t0]=>fin (zud G t0)
 | _=>M.fail
theorem zAC {g:Sem'} (hg:Sims g (sem T)) (args:List V):Sim (zo6 g args) (sem T zeZ args):=by
 unfold zo6;split
 ·exact zae zyC (Nat.le_of_ble_eq_true (by kernel_rfl)) hg (zzH g _)
 ·exact zaa
def zt4 (G:Sem') (t0:V):M Res :=
 (M.lift (Ax.bin .geq t0 (V.int .i64 0))).bind fun t4 =>
 (guarded [(0,t4)] (some (0,true)) (M.pure t0)).bind fun t6 =>
 (guarded [(0,t4)] (some (0,true)) (M.lift (Ax.bin .lss t6 (V.int .i64 8)))).bind fun t7 =>
 (M.lift (Ax.pick t4 t7 (V.bool false))).bind fun t8 =>
 M.pure (.ret [t8])
def zmw:Fn':=(T zf3).getD noF
theorem zyt:T zf3 = some zmw:=by kernel_rfl
theorem zzy (G:Sem') (t0:V):execK G zmw.rv zmw.body [] [] (params 0 [t0]) = zt4 G t0:=by kernel_rfl
def zoR (G:Sem'):List V → M V
 | [t0]=>fin (zt4 G t0)
 | _=>M.fail
theorem zAn {g:Sem'} (hg:Sims g (sem T)) (args:List V):Sim (zoR g args) (sem T zf3 args):=by
 unfold zoR;split
 ·exact zae zyt (Nat.le_of_ble_eq_true (by kernel_rfl)) hg (zzy g _)
 ·exact zaa
def zhp (G:Sem') (t7 t1 t0:V) (L:List V):M Res :=
 (M.lift (Ax.bin .lss (L.getD 0 .undef) t7)).bind fun t9 =>
 M.ite t9
 (M.blk 1 (
 (M.lift (Ax.iaddr none 1 t0 (L.getD 0 .undef))).bind fun t14 =>
 (mload none t14).bind fun t15 =>
 (callv G t1 [t15]).bind fun t16 =>
 M.ite t16
 (M.pure (.ret [(L.getD 0 .undef)]))
 (M.pure (.nrm []))) fun _ =>
 (M.lift (Ax.bin .add (L.getD 0 .undef) (V.int .i64 1))).bind fun t18 =>
 M.pure (.nrm [t18]))
 (M.pure (.ex 0 []))
def zeo (G:Sem') (t0 t1:V):M Res :=
 (M.lift (vlen t0)).bind fun t7 =>
 M.blk 0 (
 M.iter (zhp G t7 t1 t0) [(V.int .i64 0)]) fun _ =>
 M.pure (.ret [(V.int .i64 (-1))])
def zcu:Fn':=(T za1).getD noF
theorem zhr:T za1 = some zcu:=by kernel_rfl
theorem zhI (G:Sem') (t0 t1:V):execK G zcu.rv zcu.body [] [] (params 0 [t0,t1]) = zeo G t0 t1:=by kernel_rfl
def zcN (G:Sem'):List V → M V
 | [t0,t1]=>fin (zeo G t0 t1)
 | _=>M.fail
theorem zhS {g:Sem'} (hg:Sims g (sem T)) (args:List V):Sim (zcN g args) (sem T za1 args):=by
 unfold zcN;split
 ·exact zae zhr (Nat.le_of_ble_eq_true (by kernel_rfl)) hg (zhI g _ _)
 ·exact zaa
def zk4 (G:Sem') (t0 t1 t2:V):M Res :=
 (mload none t1).bind fun t8 =>
 (mload none t2).bind fun t9 =>
 (G zb8 [t8,t9,t0]).bind fun t11 =>
 (M.lift (Ax.ext 0 t11)).bind fun t12 =>
 (M.lift (Ax.ext 1 t11)).bind fun t13 =>
 (M.lift (Ax.un .not t13)).bind fun t15 =>
 M.pure (.ret [t15])
def zgP:Fn':=(T zcY).getD noF
theorem zp1:T zcY = some zgP:=by kernel_rfl
theorem zqB (G:Sem') (t0 t1 t2:V):execK G zgP.rv zgP.body [] [] (params 0 [t0,t1,t2]) = zk4 G t0 t1 t2:=by kernel_rfl
def zhN (G:Sem'):List V → M V
 | [t0,t1,t2]=>fin (zk4 G t0 t1 t2)
 | _=>M.fail
theorem zrq {g:Sem'} (hg:Sims g (sem T)) (args:List V):Sim (zhN g args) (sem T zcY args):=by
 unfold zhN;split
 ·exact zae zp1 (Nat.le_of_ble_eq_true (by kernel_rfl)) hg (zqB g _ _ _)
 ·exact zaa
def zfa (G:Sem') (t0 t1 t2:V):M Res :=
 (M.lift (vlen t0)).bind fun t12 =>
 (M.lift (zbo .sl 1 t0 (some t1) (some t2) (some t12))).bind fun t13 =>
 (M.lift (Ax.bin .eql t1 t2)).bind fun t16 =>
 M.ite t16
 (M.pure (.ret [t0]))
 ((M.lift (vlen t0)).bind fun t19 =>
 (M.lift (zbo .sl 1 t0 none (some t1) none)).bind fun t22 =>
 (M.lift (zbo .sl 1 t0 (some t2) none none)).bind fun t25 =>
 (mappend zes 1 4 t22 t25).bind fun t26 =>
 (M.lift (vlen t26)).bind fun t29 =>
 (mslice2 1 t26 t29 t19).bind fun t31 =>
 (mclear [(V.int .u32 0)] t31).bind fun _ =>
 M.pure (.ret [t26]))
def zc4:Fn':=(T zbh).getD noF
theorem ziY:T zbh = some zc4:=by kernel_rfl
theorem zi5 (G:Sem') (t0 t1 t2:V):execK G zc4.rv zc4.body [] [] (params 0 [t0,t1,t2]) = zfa G t0 t1 t2:=by kernel_rfl
def zdm (G:Sem'):List V → M V
 | [t0,t1,t2]=>fin (zfa G t0 t1 t2)
 | _=>M.fail
theorem zja {g:Sem'} (hg:Sims g (sem T)) (args:List V):Sim (zdm g args) (sem T zbh args):=by
 unfold zdm;split
 ·exact zae ziY (Nat.le_of_ble_eq_true (by kernel_rfl)) hg (zi5 g _ _ _)
 ·exact zaa
def zyd (G:Sem'):M Res :=
 (M.lift (Ax.build [V.nils] [])).bind fun t1 =>
 (mbox zzV t1).bind fun t2 =>
 M.pure (.ret [t2])
def zqk:Fn':=(T ziu).getD noF
theorem zBX:T ziu = some zqk:=by kernel_rfl
theorem zCV (G:Sem'):execK G zqk.rv zqk.body [] [] (params 0 []) = zyd G:=by kernel_rfl
def ztM (G:Sem'):List V → M V
 | []=>fin (zyd G)
 | _=>M.fail
theorem zEg {g:Sem'} (hg:Sims g (sem T)) (args:List V):Sim (ztM g args) (sem T ziu args):=by
 unfold ztM;split
 ·exact zae zBX (Nat.le_of_ble_eq_true (by kernel_rfl)) hg (zCV g)
 ·exact zaa
def zug (G:Sem') (t0:V):M Res :=
 (mbox zea t0).bind fun t1 =>
 (mload (some 3) t1).bind fun t4 =>
 (G zeL [t4]).bind fun t5 =>
 (M.lift (Ax.un .not t5)).bind fun t6 =>
 (guarded [(0,t6)] (some (0,false)) (mload (some 3) t1)).bind fun t8 =>
 (guarded [(0,t6)] (some (0,false)) (M.lift (Ax.faddr 2 t1))).bind fun t9 =>
 (guarded [(0,t6)] (some (0,false)) (mload none t9)).bind fun t10 =>
 (guarded [(0,t6)] (some (0,false)) (G zcp [t8,t10])).bind fun t11 =>
 (M.lift (Ax.pick t6 (V.bool true) t11)).bind fun t12 =>
 M.ite t12
 (M.pure (.ret [(V.int .i64 0),(V.bool false)]))
 ((M.lift (Ax.faddr 2 t1)).bind fun t13 =>
 (mload none t13).bind fun t14 =>
 M.pure (.ret [t14,(V.bool true)]))
def zmI:Fn':=(T zgc).getD noF
theorem zyF:T zgc = some zmI:=by kernel_rfl
theorem zzK (G:Sem') (t0:V):execK G zmI.rv zmI.body [] [] (params 0 [t0]) = zug G t0:=by kernel_rfl
def zpc (G:Sem'):List V → M V
 | [t0]=>fin (zug G t0)
 | _=>M.fail
theorem zAI {g:Sem'} (hg:Sims g (sem T)) (args:List V):Sim (zpc g args) (sem T zgc args):=by
 unfold zpc;split
 ·exact zae zyF (Nat.le_of_ble_eq_true (by kernel_rfl)) hg (zzK g _)
 ·exact zaa
def zwx (G:Sem') (t0:V):M Res :=
 (mbox zea t0).bind fun t1 =>
 (M.lift (Ax.faddr 1 t1)).bind fun t3 =>
 (mload none t3).bind fun t4 =>
 (G zdx [t4]).bind fun t5 =>
 (guarded [(0,t5)] (some (0,true)) (M.lift (Ax.faddr 2 t1))).bind fun t7 =>
 (guarded [(0,t5)] (some (0,true)) (mload none t7)).bind fun t8 =>
 (guarded [(0,t5)] (some (0,true)) (G zdx [t8])).bind fun t9 =>
 (M.lift (Ax.pick t5 t9 (V.bool false))).bind fun t10 =>
 (guarded [(0,t10)] (some (0,true)) (M.lift (Ax.faddr 0 t1))).bind fun t12 =>
 (guarded [(0,t10)] (some (0,true)) (mload none t12)).bind fun t13 =>
 (guarded [(0,t10)] (some (0,true)) (M.pure t13)).bind fun t14 =>
 (guarded [(0,t14)] (some (0,false)) (M.lift (Ax.faddr 1 t1))).bind fun t15 =>
 (guarded [(0,t14)] (some (0,false)) (mload none t15)).bind fun t16 =>
 (guarded [(0,t14)] (some (0,false)) (M.lift (Ax.bin .eql t16 (V.int .i64 0)))).bind fun t17 =>
 (guarded [(0,t10)] (some (0,true)) (M.lift (Ax.pick t14 (V.bool true) t17))).bind fun t18 =>
 (M.lift (Ax.pick t10 t18 (V.bool false))).bind fun t19 =>
 M.pure (.ret [t19])
def zok:Fn':=(T zeL).getD noF
theorem zAg:T zeL = some zok:=by kernel_rfl
theorem zBB (G:Sem') (t0:V):execK G zok.rv zok.body [] [] (params 0 [t0]) = zwx G t0:=by kernel_rfl
def zq1 (G:Sem'):List V → M V
 | [t0]=>fin (zwx G t0)
 | _=>M.fail
theorem zCu {g:Sem'} (hg:Sims g (sem T)) (args:List V):Sim (zq1 g args) (sem T zeL args):=by
 unfold zq1;split
 ·exact zae zAg (Nat.le_of_ble_eq_true (by kernel_rfl)) hg (zBB g _)
 ·exact zaa
def zr8 (G:Sem') (t0:V):M Res :=
 (M.lift (Ax.bin .geq t0 (V.int .i64 0))).bind fun t4 =>
 (guarded [(0,t4)] (some (0,true)) (M.pure t0)).bind fun t6 =>
 (guarded [(0,t4)] (some (0,true)) (M.lift (Ax.bin .lss t6 (V.int .i64 3)))).bind fun t7 =>
 (M.lift (Ax.pick t4 t7 (V.bool false))).bind fun t8 =>
 M.pure (.ret [t8])
def zly:Fn':=(T zdx).getD noF
theorem zxj:T zdx = some zly:=by kernel_rfl
theorem zxU (G:Sem') (t0:V):execK G zly.rv zly.body [] [] (params 0 [t0]) = zr8 G t0:=by kernel_rfl
def zm8 (G:Sem'):List V → M V
 | [t0]=>fin (zr8 G t0)
 | _=>M.fail
theorem zyZ {g:Sem'} (hg:Sims g (sem T)) (args:List V):Sim (zm8 g args) (sem T zdx args):=by
 unfold zm8;split
 ·exact zae zxj (Nat.le_of_ble_eq_true (by kernel_rfl)) hg (zxU g _)
 ·exact zaa
def zrM (G:Sem') (t0 t1:V):M Res :=
 (mbox zet (V.agg [(V.int .i64 0),V.nils])).bind fun t4 =>
 (M.lift (Ax.iaddr none 1 t1 (V.int .i64 0))).bind fun t11 =>
 (mload none t11).bind fun t12 =>
 (M.lift (Ax.cint .i64 t12)).bind fun t13 =>
 (M.lift (Ax.build [(V.int .i64 0),V.nils] [(0,1,t13)])).bind fun t14 =>
 (mbox zet (V.agg [(V.int .i64 0),V.nils])).bind fun t7 =>
 (mstore 2 t7 t14).bind fun _ =>
 (M.lift (Ax.bin .eql t0 (V.int .i64 48862))).bind fun t16 =>
 M.join (M.ite t16
 ((M.lift (Ax.iaddr none 1 t1 (V.int .i64 0))).bind fun t18 =>
 (mload none t18).bind fun t19 =>
 (M.lift (Ax.bin .shr t19 (V.int .u64 4))).bind fun t20 =>
 (M.lift (Ax.cint .i64 t20)).bind fun t21 =>
 (M.lift (Ax.faddr 0 t7)).bind fun t22 =>
 (mstore 1 t22 t21).bind fun _ =>
 (M.lift (Ax.iaddr none 1 t1 (V.int .i64 0))).bind fun t24 =>
 (mload none t24).bind fun t25 =>
 (M.lift (Ax.bin .and t25 (V.int .u8 15))).bind fun t26 =>
 (M.lift (Ax.cint .i64 t26)).bind fun t27 =>
 (M.lift (Ax.bin .add t27 (V.int .i64 1))).bind fun t28 =>
 M.pure (.nrm [(V.int .i64 1),t28]))
 ((M.lift (vlen t1)).bind fun t30 =>
 (M.lift (Ax.bin .gtr t30 (V.int .i64 1))).bind fun t31 =>
 M.join (M.ite t31
 ((M.lift (Ax.iaddr none 1 t1 (V.int .i64 1))).bind fun t33 =>
 (mload none t33).bind fun t34 =>
 (M.lift (Ax.cint .i64 t34)).bind fun t35 =>
 M.pure (.nrm [t35]))
 (M.pure (.nrm [(V.int .i64 0)]))) fun L0 =>
 M.pure (.nrm [(V.int .i64 2),(L0.getD 0 .undef)]))) fun L1 =>
 (M.lift (Ax.faddr 0 t7)).bind fun t36 =>
 (mload none t36).bind fun t37 =>
 (M.lift (Ax.bin .eql t37 (V.int .i64 0))).bind fun t38 =>
 (guarded [(0,t38)] (some (0,false)) (M.pure t1)).bind fun t40 =>
 (guarded [(0,t38)] (some (0,false)) (M.lift (vlen t40))).bind fun t41 =>
 (guarded [(0,t38)] (some (0,false)) (M.pure (L1.getD 0 .undef))).bind fun t42 =>
 (guarded [(0,t38)] (some (0,false)) (M.pure (L1.getD 1 .undef))).bind fun t43 =>
 (guarded [(0,t38)] (some (0,false)) (M.lift (Ax.bin .add t42 t43))).bind fun t44 =>
 (guarded [(0,t38)] (some (0,false)) (M.lift (Ax.bin .lss t41 t44))).bind fun t45 =>
 (M.lift (Ax.pick t38 (V.bool true) t45)).bind fun t46 =>
 M.ite t46
 ((M.lift (Ax.build [(V.int .i64 0),V.nils] [])).bind fun t47 =>
 (mstore 2 t4 t47).bind fun _ =>
 (mload (some 2) t4).bind fun r0 =>
 M.pure (.ret [r0,(V.int .i64 0),(V.bool false)]))
 ((M.lift (Ax.bin .add (L1.getD 0 .undef) (L1.getD 1 .undef))).bind fun t52 =>
 (M.lift (zbo .sl 1 t1 (some (L1.getD 0 .undef)) (some t52) none)).bind fun t53 =>
 (G zaL [t53]).bind fun t54 =>
 (M.lift (Ax.faddr 1 t7)).bind fun t55 =>
 (mstore 1 t55 t54).bind fun _ =>
 (mload (some 2) t7).bind fun t56 =>
 (M.lift (Ax.bin .add (L1.getD 0 .undef) (L1.getD 1 .undef))).bind fun t59 =>
 (mstore 2 t4 t56).bind fun _ =>
 (mload (some 2) t4).bind fun r0 =>
 M.pure (.ret [r0,t59,(V.bool true)]))
def zll:Fn':=(T zfg).getD noF
theorem zw7:T zfg = some zll:=by kernel_rfl
theorem zxI (G:Sem') (t0 t1:V):execK G zll.rv zll.body [] [] (params 0 [t0,t1]) = zrM G t0 t1:=by kernel_rfl
def zmU (G:Sem'):List V → M V
 | [t0,t1]=>fin (zrM G t0 t1)
 | _=>M.fail
theorem zyL {g:Sem'} (hg:Sims g (sem T)) (args:List V):Sim (zmU g args) (sem T zfg args):=by
 unfold zmU;split
 ·exact zae zw7 (Nat.le_of_ble_eq_true (by kernel_rfl)) hg (zxI g _ _)
 ·exact zaa
def zjX (G:Sem') (t0 t1:V):M Res :=
 (M.lift (Ax.bin .lss t1 (V.int .u64 1))).bind fun t13 =>
 (guarded [(0,t13)] (some (0,false)) (M.pure t1)).bind fun t15 =>
 (guarded [(0,t13)] (some (0,false)) (M.lift (Ax.bin .gtr t15 (V.int .u64 4294967296)))).bind fun t16 =>
 (M.lift (Ax.pick t13 (V.bool true) t16)).bind fun t17 =>
 M.ite t17
 (M.pure (.ret [(V.int .u64 0),(V.int .i64 1)]))
 ((M.lift (Ax.nilck t0)).bind fun t19 =>
 (M.lift (Ax.faddr 1 t19)).bind fun t20 =>
 (mload none t20).bind fun t21 =>
 (G zgd [t1]).bind fun t24 =>
 (M.lift (Ax.ext 0 t24)).bind fun t25 =>
 (M.lift (Ax.ext 1 t24)).bind fun t26 =>
 (M.lift (Ax.bin .sub t25 (V.int .i64 1))).bind fun t30 =>
 (G zb3 [t0,t30]).bind fun t31 =>
 (M.lift (Ax.ext 0 t31)).bind fun t32 =>
 (M.lift (Ax.ext 1 t31)).bind fun t33 =>
 (M.lift (Ax.bin .neq t33 (V.int .i64 0))).bind fun t35 =>
 (guarded [(0,t35)] (some (0,false)) (M.pure t32)).bind fun t37 =>
 (guarded [(0,t35)] (some (0,false)) (M.pure t26)).bind fun t38 =>
 (guarded [(0,t35)] (some (0,false)) (M.lift (Ax.bin .lss t37 t38))).bind fun t39 =>
 (M.lift (Ax.pick t35 (V.bool true) t39)).bind fun t40 =>
 M.ite t40
 (M.pure (.ret [t32,t33]))
 ((G zb3 [t0,(V.int .i64 1)]).bind fun t45 =>
 (M.lift (Ax.ext 0 t45)).bind fun t46 =>
 (M.lift (Ax.ext 1 t45)).bind fun t47 =>
 (M.lift (Ax.bin .neq t47 (V.int .i64 0))).bind fun t49 =>
 M.ite t49
 ((M.lift (Ax.nilck t0)).bind fun t52 =>
 (M.lift (Ax.faddr 1 t52)).bind fun t53 =>
 (mstore 1 t53 t21).bind fun _ =>
 M.pure (.ret [(V.int .u64 0),t47]))
 ((M.lift (Ax.bin .shl t32 (V.int .u64 1))).bind fun t56 =>
 (M.lift (Ax.bin .add t56 t46)).bind fun t58 =>
 (M.lift (Ax.bin .sub t58 t26)).bind fun t60 =>
 M.pure (.ret [t60,(V.int .i64 0)]))))
def zfO:Fn':=(T zcq).getD noF
theorem znS:T zcq = some zfO:=by kernel_rfl
theorem zoO (G:Sem') (t0 t1:V):execK G zfO.rv zfO.body [] [] (params 0 [t0,t1]) = zjX G t0 t1:=by kernel_rfl
def zgz (G:Sem'):List V → M V
 | [t0,t1]=>fin (zjX G t0 t1)
 | _=>M.fail
theorem zpz {g:Sem'} (hg:Sims g (sem T)) (args:List V):Sim (zgz g args) (sem T zcq args):=by
 unfold zgz;split
 ·exact zae znS (Nat.le_of_ble_eq_true (by kernel_rfl)) hg (zoO g _ _)
 ·exact zaa
def zfb (G:Sem') (t0 t1:V):M Res :=
 (G zbw [t0,t1]).bind fun t7 =>
 (M.lift (Ax.bin .geq t7 (V.int .i64 0))).bind fun t8 =>
 M.pure (.ret [t8])
def zc5:Fn':=(T zbi).getD noF
theorem ziZ:T zbi = some zc5:=by kernel_rfl
theorem zi6 (G:Sem') (t0 t1:V):execK G zc5.rv zc5.body [] [] (params 0 [t0,t1]) = zfb G t0 t1:=by kernel_rfl
def zdn (G:Sem'):List V → M V
 | [t0,t1]=>fin (zfb G t0 t1)
 | _=>M.fail
theorem zjb {g:Sem'} (hg:Sims g (sem T)) (args:List V):Sim (zdn g args) (sem T zbi args):=by
 unfold zdn;split
 ·exact zae ziZ (Nat.le_of_ble_eq_true (by kernel_rfl)) hg (zi6 g _ _)
 ·exact zaa
def zmb (G:Sem') (t0 t1 t2:V):M Res :=
 (mload none t1).bind fun t6 =>
 (M.lift (Ax.bin .lss t0 t6)).bind fun t7 =>
 (guarded [(0,t7)] (some (0,false)) (M.pure t0)).bind fun t9 =>
 (guarded [(0,t7)] (some (0,false)) (mload none t2)).bind fun t10 =>
 (guarded [(0,t7)] (some (0,false)) (M.lift (Ax.bin .gtr t9 t10))).bind fun t11 =>
 (M.lift (Ax.pick t7 (V.bool true) t11)).bind fun t12 =>
 M.pure (.ret [t12])
def zhE:Fn':=(T zdh).getD noF
theorem zrk:T zdh = some zhE:=by kernel_rfl
theorem zsn (G:Sem') (t0 t1 t2:V):execK G zhE.rv zhE.body [] [] (params 0 [t0,t1,t2]) = zmb G t0 t1 t2:=by kernel_rfl
def ziR (G:Sem'):List V → M V
 | [t0,t1,t2]=>fin (zmb G t0 t1 t2)
 | _=>M.fail
theorem zs5 {g:Sem'} (hg:Sims g (sem T)) (args:List V):Sim (ziR g args) (sem T zdh args):=by
 unfold ziR;split
 ·exact zae zrk (Nat.le_of_ble_eq_true (by kernel_rfl)) hg (zsn g _ _ _)
 ·exact zaa
end Go.Ax.Cc
/- CiS10 -/
namespace Go.Ax.Cc
open Go.Proofs
def zr5 (G:Sem') (t0 t1:V):M Res :=
 (mbox zaw t0).bind fun t2 =>
 (mbox zaw t1).bind fun t3 =>
 M.blk 0 (
 (M.lift (Ax.faddr 0 t3)).bind fun t7 =>
 (mload none t7).bind fun t8 =>
 (M.lift (Ax.faddr 0 t2)).bind fun t9 =>
 (mload none t9).bind fun t10 =>
 (M.lift (Ax.bin .eql t8 t10)).bind fun t11 =>
 (guarded [(0,t11)] (some (0,true)) (M.lift (Ax.faddr 1 t3))).bind fun t13 =>
 (guarded [(0,t11)] (some (0,true)) (mload none t13)).bind fun t14 =>
 (guarded [(0,t11)] (some (0,true)) (M.lift (Ax.faddr 1 t2))).bind fun t15 =>
 (guarded [(0,t11)] (some (0,true)) (mload none t15)).bind fun t16 =>
 (guarded [(0,t11)] (some (0,true)) (M.lift (Ax.bin .eql t14 t16))).bind fun t17 =>
 (M.lift (Ax.pick t11 t17 (V.bool false))).bind fun t18 =>
 M.ite t18
 (M.pure (.ret [(V.int .i64 0),(V.bool true)]))
 ((M.lift (Ax.faddr 0 t3)).bind fun t20 =>
 (mload none t20).bind fun t21 =>
 (M.lift (Ax.faddr 0 t2)).bind fun t22 =>
 (mload none t22).bind fun t23 =>
 (M.lift (Ax.bin .eql t21 t23)).bind fun t24 =>
 (guarded [(0,t24)] (some (0,true)) (M.lift (Ax.faddr 1 t3))).bind fun t26 =>
 (guarded [(0,t24)] (some (0,true)) (mload none t26)).bind fun t27 =>
 (guarded [(0,t24)] (some (0,true)) (M.lift (Ax.faddr 1 t2))).bind fun t28 =>
 (guarded [(0,t24)] (some (0,true)) (mload none t28)).bind fun t29 =>
 (guarded [(0,t24)] (some (0,true)) (M.lift (Ax.bin .add t29 (V.int .i64 1)))).bind fun t30 =>
 (guarded [(0,t24)] (some (0,true)) (M.lift (Ax.bin .eql t27 t30))).bind fun t31 =>
 (M.lift (Ax.pick t24 t31 (V.bool false))).bind fun t32 =>
 M.ite t32
 (M.pure (.ret [(V.int .i64 1),(V.bool true)]))
 ((M.lift (Ax.faddr 0 t3)).bind fun t34 =>
 (mload none t34).bind fun t35 =>
 (M.lift (Ax.faddr 0 t2)).bind fun t36 =>
 (mload none t36).bind fun t37 =>
 (M.lift (Ax.bin .add t37 (V.int .i64 1))).bind fun t38 =>
 (M.lift (Ax.bin .eql t35 t38)).bind fun t39 =>
 (guarded [(0,t39)] (some (0,true)) (M.lift (Ax.faddr 1 t3))).bind fun t41 =>
 (guarded [(0,t39)] (some (0,true)) (mload none t41)).bind fun t42 =>
 (guarded [(0,t39)] (some (0,true)) (M.lift (Ax.bin .eql t42 (V.int .i64 0)))).bind fun t43 =>
 (M.lift (Ax.pick t39 t43 (V.bool false))).bind fun t44 =>
 M.ite t44
 (M.pure (.ret [(V.int .i64 2),(V.bool true)]))
 (M.pure (.nrm []))))) fun _ =>
 M.pure (.ret [(V.int .i64 0),(V.bool false)])
def zlv:Fn':=(T zfm).getD noF
theorem zxg:T zfm = some zlv:=by kernel_rfl
theorem zxR (G:Sem') (t0 t1:V):execK G zlv.rv zlv.body [] [] (params 0 [t0,t1]) = zr5 G t0 t1:=by kernel_rfl
def zm5 (G:Sem'):List V → M V
 | [t0,t1]=>fin (zr5 G t0 t1)
 | _=>M.fail
theorem zyW {g:Sem'} (hg:Sims g (sem T)) (args:List V):Sim (zm5 g args) (sem T zfm args):=by
 unfold zm5;split
 ·exact zae zxg (Nat.le_of_ble_eq_true (by kernel_rfl)) hg (zxR g _ _)
 ·exact zaa
def zdG (G:Sem') (t7 t1 t0:V) (L:List V):M Res :=
 (M.lift (Ax.bin .lss (L.getD 0 .undef) t7)).bind fun t9 =>
 M.ite t9
 (M.blk 1 (
 (M.lift (Ax.iaddr none 5 t0 (L.getD 0 .undef))).bind fun t14 =>
 (mload (some 5) t14).bind fun t15 =>
 (callv G t1 [t15]).bind fun t16 =>
 M.ite t16
 (M.pure (.ret [(L.getD 0 .undef)]))
 (M.pure (.nrm []))) fun _ =>
 (M.lift (Ax.bin .add (L.getD 0 .undef) (V.int .i64 1))).bind fun t18 =>
 M.pure (.nrm [t18]))
 (M.pure (.ex 0 []))
def zb4 (G:Sem') (t0 t1:V):M Res :=
 (M.lift (vlen t0)).bind fun t7 =>
 M.blk 0 (
 M.iter (zdG G t7 t1 t0) [(V.int .i64 0)]) fun _ =>
 M.pure (.ret [(V.int .i64 (-1))])
def zbe:Fn':=(T zaq).getD noF
theorem zdH:T zaq = some zbe:=by kernel_rfl
theorem zdQ (G:Sem') (t0 t1:V):execK G zbe.rv zbe.body [] [] (params 0 [t0,t1]) = zb4 G t0 t1:=by kernel_rfl
def zbj (G:Sem'):List V → M V
 | [t0,t1]=>fin (zb4 G t0 t1)
 | _=>M.fail
theorem zdS {g:Sem'} (hg:Sims g (sem T)) (args:List V):Sim (zbj g args) (sem T zaq args):=by
 unfold zbj;split
 ·exact zae zdH (Nat.le_of_ble_eq_true (by kernel_rfl)) hg (zdQ g _ _)
 ·exact zaa
def zhY (G:Sem') (t0:V):M Res :=
 (M.lift (eqr .sl false t0 V.nils)).bind fun t4 =>
 M.ite t4
 (M.pure (.ret [V.nils]))
 ((mslit ze5 0 [(V.int .i64 0)] []).bind fun t5 =>
 (mappend ze5 1 8 t5 t0).bind fun t7 =>
 M.pure (.ret [t7]))
def zeT:Fn':=(T zbq).getD noF
theorem zmj:T zbq = some zeT:=by kernel_rfl
theorem zmO (G:Sem') (t0:V):execK G zeT.rv zeT.body [] [] (params 0 [t0]) = zhY G t0:=by kernel_rfl
def zfv (G:Sem'):List V → M V
 | [t0]=>fin (zhY G t0)
 | _=>M.fail
theorem znB {g:Sem'} (hg:Sims g (sem T)) (args:List V):Sim (zfv g args) (sem T zbq args):=by
 unfold zfv;split
 ·exact zae zmj (Nat.le_of_ble_eq_true (by kernel_rfl)) hg (zmO g _)
 ·exact zaa
def zdq (G:Sem') (t0 t1:V):M Res :=
 (G zaN [t0,t1]).bind fun t7 =>
 (M.lift (Ax.bin .geq t7 (V.int .i64 0))).bind fun t8 =>
 M.pure (.ret [t8])
def zb6:Fn':=(T zaP).getD noF
theorem zfY:T zaP = some zb6:=by kernel_rfl
theorem zgf (G:Sem') (t0 t1:V):execK G zb6.rv zb6.body [] [] (params 0 [t0,t1]) = zdq G t0 t1:=by kernel_rfl
def zca (G:Sem'):List V → M V
 | [t0,t1]=>fin (zdq G t0 t1)
 | _=>M.fail
theorem zgk {g:Sem'} (hg:Sims g (sem T)) (args:List V):Sim (zca g args) (sem T zaP args):=by
 unfold zca;split
 ·exact zae zfY (Nat.le_of_ble_eq_true (by kernel_rfl)) hg (zgf g _ _)
 ·exact zaa
def zt8 (G:Sem') (t0 t1:V):M Res :=
 (mbox zet t0).bind fun t2 =>
 (M.lift (Ax.faddr 6 t1)).bind fun t4 =>
 (mload none t4).bind fun t5 =>
 (mload (some 2) t2).bind fun t6 =>
 (G zff [t5,t6]).bind fun t7 =>
 (M.lift (Ax.un .not t7)).bind fun t8 =>
 M.pure (.ret [t8])
def zmA:Fn':=(T zf6).getD noF
theorem zyx:T zf6 = some zmA:=by kernel_rfl
theorem zzC (G:Sem') (t0 t1:V):execK G zmA.rv zmA.body [] [] (params 0 [t0,t1]) = zt8 G t0 t1:=by kernel_rfl
def zo0 (G:Sem'):List V → M V
 | [t0,t1]=>fin (zt8 G t0 t1)
 | _=>M.fail
theorem zAw {g:Sem'} (hg:Sims g (sem T)) (args:List V):Sim (zo0 g args) (sem T zf6 args):=by
 unfold zo0;split
 ·exact zae zyx (Nat.le_of_ble_eq_true (by kernel_rfl)) hg (zzC g _ _)
 ·exact zaa
def zrL (G:Sem') (t0 t1:V):M Res :=
 (mbox zet t1).bind fun t3 =>
 (M.lift (Ax.bin .eql t0 (V.int .i64 48862))).bind fun t6 =>
 M.ite t6
 ((M.lift (Ax.faddr 0 t3)).bind fun t7 =>
 (mload none t7).bind fun t8 =>
 (M.lift (Ax.bin .geq t8 (V.int .i64 1))).bind fun t9 =>
 (guarded [(0,t9)] (some (0,true)) (M.lift (Ax.faddr 0 t3))).bind fun t11 =>
 (guarded [(0,t9)] (some (0,true)) (mload none t11)).bind fun t12 =>
 (guarded [(0,t9)] (some (0,true)) (M.lift (Ax.bin .leq t12 (V.int .i64 14)))).bind fun t13 =>
 (M.lift (Ax.pick t9 t13 (V.bool false))).bind fun t14 =>
 (guarded [(0,t14)] (some (0,true)) (M.lift (Ax.faddr 1 t3))).bind fun t16 =>
 (guarded [(0,t14)] (some (0,true)) (mload none t16)).bind fun t17 =>
 (guarded [(0,t14)] (some (0,true)) (M.lift (vlen t17))).bind fun t18 =>
 (guarded [(0,t14)] (some (0,true)) (M.lift (Ax.bin .geq t18 (V.int .i64 1)))).bind fun t19 =>
 (M.lift (Ax.pick t14 t19 (V.bool false))).bind fun t20 =>
 (guarded [(0,t20)] (some (0,true)) (M.lift (Ax.faddr 1 t3))).bind fun t22 =>
 (guarded [(0,t20)] (some (0,true)) (mload none t22)).bind fun t23 =>
 (guarded [(0,t20)] (some (0,true)) (M.lift (vlen t23))).bind fun t24 =>
 (guarded [(0,t20)] (some (0,true)) (M.lift (Ax.bin .leq t24 (V.int .i64 16)))).bind fun t25 =>
 (M.lift (Ax.pick t20 t25 (V.bool false))).bind fun t26 =>
 M.pure (.ret [t26]))
 ((M.lift (Ax.faddr 0 t3)).bind fun t27 =>
 (mload none t27).bind fun t28 =>
 (M.lift (Ax.bin .geq t28 (V.int .i64 1))).bind fun t29 =>
 (guarded [(0,t29)] (some (0,true)) (M.lift (Ax.faddr 0 t3))).bind fun t31 =>
 (guarded [(0,t29)] (some (0,true)) (mload none t31)).bind fun t32 =>
 (guarded [(0,t29)] (some (0,true)) (M.lift (Ax.bin .leq t32 (V.int .i64 255)))).bind fun t33 =>
 (M.lift (Ax.pick t29 t33 (V.bool false))).bind fun t34 =>
 (guarded [(0,t34)] (some (0,true)) (M.lift (Ax.faddr 1 t3))).bind fun t36 =>
 (guarded [(0,t34)] (some (0,true)) (mload none t36)).bind fun t37 =>
 (guarded [(0,t34)] (some (0,true)) (M.lift (vlen t37))).bind fun t38 =>
 (guarded [(0,t34)] (some (0,true)) (M.lift (Ax.bin .leq t38 (V.int .i64 255)))).bind fun t39 =>
 (M.lift (Ax.pick t34 t39 (V.bool false))).bind fun t40 =>
 M.pure (.ret [t40]))
def zlk:Fn':=(T zff).getD noF
theorem zw6:T zff = some zlk:=by kernel_rfl
theorem zxH (G:Sem') (t0 t1:V):execK G zlk.rv zlk.body [] [] (params 0 [t0,t1]) = zrL G t0 t1:=by kernel_rfl
def zmT (G:Sem'):List V → M V
 | [t0,t1]=>fin (zrL G t0 t1)
 | _=>M.fail
theorem zyK {g:Sem'} (hg:Sims g (sem T)) (args:List V):Sim (zmT g args) (sem T zff args):=by
 unfold zmT;split
 ·exact zae zw6 (Nat.le_of_ble_eq_true (by kernel_rfl)) hg (zxH g _ _)
 ·exact zaa
def znx (G:Sem') (t0 t1:V):M Res :=
 (mbox zea t0).bind fun t2 =>
 (M.lift (Ax.faddr 0 t2)).bind fun t5 =>
 (mload none t5).bind fun t6 =>
 (guarded [(0,t6)] (some (0,true)) (M.lift (Ax.faddr 1 t2))).bind fun t8 =>
 (guarded [(0,t6)] (some (0,true)) (mload none t8)).bind fun t9 =>
 (guarded [(0,t6)] (some (0,true)) (M.pure t1)).bind fun t10 =>
 (guarded [(0,t6)] (some (0,true)) (M.lift (Ax.bin .eql t9 t10))).bind fun t11 =>
 (M.lift (Ax.pick t6 t11 (V.bool false))).bind fun t12 =>
 M.pure (.ret [t12])
def zin:Fn':=(T zcp).getD noF
theorem zsL:T zcp = some zin:=by kernel_rfl
theorem ztF (G:Sem') (t0 t1:V):execK G zin.rv zin.body [] [] (params 0 [t0,t1]) = znx G t0 t1:=by kernel_rfl
def zjO (G:Sem'):List V → M V
 | [t0,t1]=>fin (znx G t0 t1)
 | _=>M.fail
theorem zuR {g:Sem'} (hg:Sims g (sem T)) (args:List V):Sim (zjO g args) (sem T zcp args):=by
 unfold zjO;split
 ·exact zae zsL (Nat.le_of_ble_eq_true (by kernel_rfl)) hg (ztF g _ _)
 ·exact zaa
def zt2 (G:Sem') (t0 t1:V):M Res :=
 (M.lift (Ax.bin .leq t1 t0)).bind fun t7 =>
 M.ite t7
 (M.pure (.ret [(V.int .u32 1)]))
 ((M.lift (Ax.cint .u64 t1)).bind fun t9 =>
 (M.lift (Ax.cint .u64 t0)).bind fun t11 =>
 (M.lift (Ax.bin .sub t9 t11)).bind fun t12 =>
 (M.lift (Ax.minmax false t12 [(V.int .u64 100000)])).bind fun t13 =>
 (M.lift (Ax.cint .u32 t13)).bind fun t14 =>
 M.pure (.ret [t14]))
def zmu:Fn':=(T zf1).getD noF
theorem zyr:T zf1 = some zmu:=by kernel_rfl
theorem zzw (G:Sem') (t0 t1:V):execK G zmu.rv zmu.body [] [] (params 0 [t0,t1]) = zt2 G t0 t1:=by kernel_rfl
def zoP (G:Sem'):List V → M V
 | [t0,t1]=>fin (zt2 G t0 t1)
 | _=>M.fail
theorem zAl {g:Sem'} (hg:Sims g (sem T)) (args:List V):Sim (zoP g args) (sem T zf1 args):=by
 unfold zoP;split
 ·exact zae zyr (Nat.le_of_ble_eq_true (by kernel_rfl)) hg (zzw g _ _)
 ·exact zaa
def ztm (G:Sem') (t24 t23 t1:V) (L:List V):M Res :=
 (M.lift (Ax.bin .lss (L.getD 3 .undef) t24)).bind fun t26 =>
 M.ite t26
 (M.blk 1 (
 (M.lift (Ax.iaddr none 5 t23 (L.getD 3 .undef))).bind fun t27 =>
 (mload (some 5) t27).bind fun t28 =>
 (mbox zaw (V.agg [(V.int .i64 0),(V.int .i64 0),V.nils,V.nils,V.nils])).bind fun t8 =>
 (mstore 5 t8 t28).bind fun _ =>
 (M.lift (Ax.faddr 2 t8)).bind fun t29 =>
 (mload none t29).bind fun t30 =>
 (M.lift (Ax.iaddr none 1 t30 t1)).bind fun t32 =>
 (mload none t32).bind fun t33 =>
 (M.lift (Ax.bin .neq t33 (V.int .i64 0))).bind fun t34 =>
 M.join (M.ite t34
 ((M.lift (Ax.faddr 0 t8)).bind fun t36 =>
 (mload none t36).bind fun t37 =>
 (M.lift (Ax.minmax true (L.getD 0 .undef) [t37])).bind fun t38 =>
 (M.lift (Ax.faddr 1 t8)).bind fun t40 =>
 (mload none t40).bind fun t41 =>
 (M.lift (Ax.minmax true (L.getD 1 .undef) [t41])).bind fun t42 =>
 M.pure (.nrm [t38,t42,(V.bool true)]))
 (M.pure (.nrm [(L.getD 0 .undef),(L.getD 1 .undef),(L.getD 2 .undef)]))) fun L0 =>
 M.pure (.nrm [(L0.getD 0 .undef),(L0.getD 1 .undef),(L0.getD 2 .undef)])) fun L1 =>
 (M.lift (Ax.bin .add (L.getD 3 .undef) (V.int .i64 1))).bind fun t43 =>
 M.pure (.nrm [(L1.getD 0 .undef),(L1.getD 1 .undef),(L1.getD 2 .undef),t43]))
 (M.pure (.ex 0 [(L.getD 0 .undef),(L.getD 1 .undef),(L.getD 2 .undef)]))
def zoH (G:Sem') (t0 t1:V):M Res :=
 (mbox zap t0).bind fun t2 =>
 (mload (some 6) t2).bind fun t9 =>
 (G zc3 [t9]).bind fun t10 =>
 (M.lift (Ax.un .not t10)).bind fun t11 =>
 (guarded [(0,t11)] (some (0,false)) (M.pure t1)).bind fun t13 =>
 (guarded [(0,t11)] (some (0,false)) (M.lift (Ax.bin .lss t13 (V.int .i64 0)))).bind fun t14 =>
 (M.lift (Ax.pick t11 (V.bool true) t14)).bind fun t15 =>
 (guarded [(0,t15)] (some (0,false)) (M.pure t1)).bind fun t17 =>
 (guarded [(0,t15)] (some (0,false)) (M.lift (Ax.faddr 1 t2))).bind fun t18 =>
 (guarded [(0,t15)] (some (0,false)) (mload none t18)).bind fun t19 =>
 (guarded [(0,t15)] (some (0,false)) (M.lift (Ax.bin .geq t17 t19))).bind fun t20 =>
 (M.lift (Ax.pick t15 (V.bool true) t20)).bind fun t21 =>
 M.ite t21
 (M.pure (.ret [(V.int .i64 0),(V.int .i64 0),(V.bool false)]))
 ((M.lift (Ax.faddr 2 t2)).bind fun t22 =>
 (mload none t22).bind fun t23 =>
 (M.lift (vlen t23)).bind fun t24 =>
 M.blk 0 (
 M.iter (ztm G t24 t23 t1) [(V.int .i64 0),(V.int .i64 0),(V.bool false),(V.int .i64 0)]) fun L2 =>
 M.pure (.ret [(L2.getD 0 .undef),(L2.getD 1 .undef),(L2.getD 2 .undef)]))
def zjo:Fn':=(T zd7).getD noF
theorem zuv:T zd7 = some zjo:=by kernel_rfl
theorem zvc (G:Sem') (t0 t1:V):execK G zjo.rv zjo.body [] [] (params 0 [t0,t1]) = zoH G t0 t1:=by kernel_rfl
def zkL (G:Sem'):List V → M V
 | [t0,t1]=>fin (zoH G t0 t1)
 | _=>M.fail
theorem zvO {g:Sem'} (hg:Sims g (sem T)) (args:List V):Sim (zkL g args) (sem T zd7 args):=by
 unfold zkL;split
 ·exact zae zuv (Nat.le_of_ble_eq_true (by kernel_rfl)) hg (zvc g _ _)
 ·exact zaa
def zfC (G:Sem') (t0:V):M Res :=
 (M.lift (eqr .sl false t0 V.nils)).bind fun t4 =>
 M.ite t4
 (M.pure (.ret [V.nils]))
 ((mslit zes 0 [(V.int .u32 0)] []).bind fun t5 =>
 (mappend zes 1 4 t5 t0).bind fun t7 =>
 M.pure (.ret [t7]))
def zdj:Fn':=(T zbl).getD noF
theorem zi8:T zbl = some zdj:=by kernel_rfl
theorem zjs (G:Sem') (t0:V):execK G zdj.rv zdj.body [] [] (params 0 [t0]) = zfC G t0:=by kernel_rfl
def zdu (G:Sem'):List V → M V
 | [t0]=>fin (zfC G t0)
 | _=>M.fail
theorem zj0 {g:Sem'} (hg:Sims g (sem T)) (args:List V):Sim (zdu g args) (sem T zbl args):=by
 unfold zdu;split
 ·exact zae zi8 (Nat.le_of_ble_eq_true (by kernel_rfl)) hg (zjs g _)
 ·exact zaa
def zeN (G:Sem') (t0:V):M Res :=
 (M.lift (eqr .sl false t0 V.nils)).bind fun t4 =>
 M.ite t4
 (M.pure (.ret [V.nils]))
 ((mslit zet 0 [(V.int .i64 0),V.nils] []).bind fun t5 =>
 (mappend zet 2 32 t5 t0).bind fun t7 =>
 M.pure (.ret [t7]))
def zcQ:Fn':=(T zba).getD noF
theorem zh3:T zba = some zcQ:=by kernel_rfl
theorem ziz (G:Sem') (t0:V):execK G zcQ.rv zcQ.body [] [] (params 0 [t0]) = zeN G t0:=by kernel_rfl
def zc8 (G:Sem'):List V → M V
 | [t0]=>fin (zeN G t0)
 | _=>M.fail
theorem zi1 {g:Sem'} (hg:Sims g (sem T)) (args:List V):Sim (zc8 g args) (sem T zba args):=by
 unfold zc8;split
 ·exact zae zh3 (Nat.le_of_ble_eq_true (by kernel_rfl)) hg (ziz g _)
 ·exact zaa
def ze9 (G:Sem') (t7 t1 t0:V) (L:List V):M Res :=
 (M.lift (Ax.bin .lss (L.getD 0 .undef) t7)).bind fun t9 =>
 M.ite t9
 (M.blk 1 (
 (M.lift (Ax.iaddr none 2 t0 (L.getD 0 .undef))).bind fun t14 =>
 (mload (some 2) t14).bind fun t15 =>
 (callv G t1 [t15]).bind fun t16 =>
 M.ite t16
 (M.pure (.ret [(L.getD 0 .undef)]))
 (M.pure (.nrm []))) fun _ =>
 (M.lift (Ax.bin .add (L.getD 0 .undef) (V.int .i64 1))).bind fun t18 =>
 M.pure (.nrm [t18]))
 (M.pure (.ex 0 []))
def zc2 (G:Sem') (t0 t1:V):M Res :=
 (M.lift (vlen t0)).bind fun t7 =>
 M.blk 0 (
 M.iter (ze9 G t7 t1 t0) [(V.int .i64 0)]) fun _ =>
 M.pure (.ret [(V.int .i64 (-1))])
def zbR:Fn':=(T zaI).getD noF
theorem zfp:T zaI = some zbR:=by kernel_rfl
theorem zft (G:Sem') (t0 t1:V):execK G zbR.rv zbR.body [] [] (params 0 [t0,t1]) = zc2 G t0 t1:=by kernel_rfl
def zbX (G:Sem'):List V → M V
 | [t0,t1]=>fin (zc2 G t0 t1)
 | _=>M.fail
theorem zfF {g:Sem'} (hg:Sims g (sem T)) (args:List V):Sim (zbX g args) (sem T zaI args):=by
 unfold zbX;split
 ·exact zae zfp (Nat.le_of_ble_eq_true (by kernel_rfl)) hg (zft g _ _)
 ·exact zaa
def zng (G:Sem') (t0 t1:V):M Res :=
 (mbox zjY t0).bind fun t2 =>
 (M.lift (Ax.faddr 0 t2)).bind fun t4 =>
 (mload none t4).bind fun t5 =>
 (mload none t1).bind fun t6 =>
 (M.lift (Ax.bin .eql t5 t6)).bind fun t7 =>
 M.pure (.ret [t7])
def zh6:Fn':=(T zdy).getD noF
theorem zsu:T zdy = some zh6:=by kernel_rfl
theorem zto (G:Sem') (t0 t1:V):execK G zh6.rv zh6.body [] [] (params 0 [t0,t1]) = zng G t0 t1:=by kernel_rfl
def zju (G:Sem'):List V → M V
 | [t0,t1]=>fin (zng G t0 t1)
 | _=>M.fail
theorem zux {g:Sem'} (hg:Sims g (sem T)) (args:List V):Sim (zju g args) (sem T zdy args):=by
 unfold zju;split
 ·exact zae zsu (Nat.le_of_ble_eq_true (by kernel_rfl)) hg (zto g _ _)
 ·exact zaa
def zeJ (G:Sem') (t7 t1 t0:V) (L:List V):M Res :=
 (M.lift (Ax.bin .lss (L.getD 0 .undef) t7)).bind fun t9 =>
 M.ite t9
 (M.blk 1 (
 (M.lift (Ax.iaddr none 16 t0 (L.getD 0 .undef))).bind fun t14 =>
 (mload (some 16) t14).bind fun t15 =>
 (callv G t1 [t15]).bind fun t16 =>
 M.ite t16
 (M.pure (.ret [(L.getD 0 .undef)]))
 (M.pure (.nrm []))) fun _ =>
 (M.lift (Ax.bin .add (L.getD 0 .undef) (V.int .i64 1))).bind fun t18 =>
 M.pure (.nrm [t18]))
 (M.pure (.ex 0 []))
def zcK (G:Sem') (t0 t1:V):M Res :=
 (M.lift (vlen t0)).bind fun t7 =>
 M.blk 0 (
 M.iter (zeJ G t7 t1 t0) [(V.int .i64 0)]) fun _ =>
 M.pure (.ret [(V.int .i64 (-1))])
def zbG:Fn':=(T zay).getD noF
theorem zeP:T zay = some zbG:=by kernel_rfl
theorem ze1 (G:Sem') (t0 t1:V):execK G zbG.rv zbG.body [] [] (params 0 [t0,t1]) = zcK G t0 t1:=by kernel_rfl
def zbL (G:Sem'):List V → M V
 | [t0,t1]=>fin (zcK G t0 t1)
 | _=>M.fail
theorem ze6 {g:Sem'} (hg:Sims g (sem T)) (args:List V):Sim (zbL g args) (sem T zay args):=by
 unfold zbL;split
 ·exact zae zeP (Nat.le_of_ble_eq_true (by kernel_rfl)) hg (ze1 g _ _)
 ·exact zaa
def zt9 (G:Sem') (t0 t1:V):M Res :=
 (mbox za3 t0).bind fun t2 =>
 (mbox za3 t1).bind fun t3 =>
 (M.lift (Ax.faddr 1 t2)).bind fun t5 =>
 (mload none t5).bind fun t6 =>
 (M.lift (Ax.faddr 1 t3)).bind fun t7 =>
 (mload none t7).bind fun t8 =>
 (M.lift (Ax.bin .eql t6 t8)).bind fun t9 =>
 (guarded [(0,t9)] (some (0,true)) (M.lift (Ax.faddr 2 t2))).bind fun t11 =>
 (guarded [(0,t9)] (some (0,true)) (mload none t11)).bind fun t12 =>
 (guarded [(0,t9)] (some (0,true)) (M.lift (Ax.faddr 2 t3))).bind fun t13 =>
 (guarded [(0,t9)] (some (0,true)) (mload none t13)).bind fun t14 =>
 (guarded [(0,t9)] (some (0,true)) (M.lift (Ax.bin .eql t12 t14))).bind fun t15 =>
 (M.lift (Ax.pick t9 t15 (V.bool false))).bind fun t16 =>
 (guarded [(0,t16)] (some (0,true)) (M.lift (Ax.faddr 3 t2))).bind fun t18 =>
 (guarded [(0,t16)] (some (0,true)) (mload none t18)).bind fun t19 =>
 (guarded [(0,t16)] (some (0,true)) (M.lift (Ax.faddr 3 t3))).bind fun t20 =>
 (guarded [(0,t16)] (some (0,true)) (mload none t20)).bind fun t21 =>
 (guarded [(0,t16)] (some (0,true)) (M.lift (Ax.bin .eql t19 t21))).bind fun t22 =>
 (M.lift (Ax.pick t16 t22 (V.bool false))).bind fun t23 =>
 (guarded [(0,t23)] (some (0,true)) (M.lift (Ax.faddr 4 t2))).bind fun t25 =>
 (guarded [(0,t23)] (some (0,true)) (mload none t25)).bind fun t26 =>
 (guarded [(0,t23)] (some (0,true)) (M.lift (Ax.faddr 4 t3))).bind fun t27 =>
 (guarded [(0,t23)] (some (0,true)) (mload none t27)).bind fun t28 =>
 (guarded [(0,t23)] (some (0,true)) (M.lift (Ax.bin .eql t26 t28))).bind fun t29 =>
 (M.lift (Ax.pick t23 t29 (V.bool false))).bind fun t30 =>
 (guarded [(0,t30)] (some (0,true)) (M.lift (Ax.faddr 5 t2))).bind fun t32 =>
 (guarded [(0,t30)] (some (0,true)) (mload none t32)).bind fun t33 =>
 (guarded [(0,t30)] (some (0,true)) (M.lift (Ax.faddr 5 t3))).bind fun t34 =>
 (guarded [(0,t30)] (some (0,true)) (mload none t34)).bind fun t35 =>
 (guarded [(0,t30)] (some (0,true)) (M.lift (Ax.bin .eql t33 t35))).bind fun t36 =>
 (M.lift (Ax.pick t30 t36 (V.bool false))).bind fun t37 =>
 (guarded [(0,t37)] (some (0,true)) (M.lift (Ax.faddr 6 t2))).bind fun t39 =>
 (guarded [(0,t37)] (some (0,true)) (mload none t39)).bind fun t40 =>
 (guarded [(0,t37)] (some (0,true)) (M.lift (Ax.faddr 6 t3))).bind fun t41 =>
 (guarded [(0,t37)] (some (0,true)) (mload none t41)).bind fun t42 =>
 (guarded [(0,t37)] (some (0,true)) (M.lift (Ax.bin .eql t40 t42))).bind fun t43 =>
 (M.lift (Ax.pick t37 t43 (V.bool false))).bind fun t44 =>
 (guarded [(0,t44)] (some (0,true)) (M.lift (Ax.faddr 10 t2))).bind fun t46 =>
 (guarded [(0,t44)] (some (0,true)) (mload none t46)).bind fun t47 =>
 (guarded [(0,t44)] (some (0,true)) (M.lift (Ax.faddr 10 t3))).bind fun t48 =>
 (guarded [(0,t44)] (some (0,true)) (mload none t48)).bind fun t49 =>
 (guarded [(0,t44)] (some (0,true)) (M.lift (Ax.bin .eql t47 t49))).bind fun t50 =>
 (M.lift (Ax.pick t44 t50 (V.bool false))).bind fun t51 =>
 (guarded [(0,t51)] (some (0,true)) (M.lift (Ax.faddr 11 t2))).bind fun t53 =>
 (guarded [(0,t51)] (some (0,true)) (mload none t53)).bind fun t54 =>
 (guarded [(0,t51)] (some (0,true)) (M.lift (Ax.faddr 11 t3))).bind fun t55 =>
 (guarded [(0,t51)] (some (0,true)) (mload none t55)).bind fun t56 =>
 (guarded [(0,t51)] (some (0,true)) (M.lift (Ax.bin .eql t54 t56))).bind fun t57 =>
 (M.lift (Ax.pick t51 t57 (V.bool false))).bind fun t58 =>
 (guarded [(0,t58)] (some (0,true)) (M.lift (Ax.faddr 13 t2))).bind fun t60 =>
 (guarded [(0,t58)] (some (0,true)) (mload none t60)).bind fun t61 =>
 (guarded [(0,t58)] (some (0,true)) (M.lift (Ax.faddr 13 t3))).bind fun t62 =>
 (guarded [(0,t58)] (some (0,true)) (mload none t62)).bind fun t63 =>
 (guarded [(0,t58)] (some (0,true)) (M.lift (Ax.bin .eql t61 t63))).bind fun t64 =>
 (M.lift (Ax.pick t58 t64 (V.bool false))).bind fun t65 =>
 (guarded [(0,t65)] (some (0,true)) (M.lift (Ax.faddr 14 t2))).bind fun t67 =>
 (guarded [(0,t65)] (some (0,true)) (mload none t67)).bind fun t68 =>
 (guarded [(0,t65)] (some (0,true)) (M.lift (Ax.faddr 14 t3))).bind fun t69 =>
 (guarded [(0,t65)] (some (0,true)) (mload none t69)).bind fun t70 =>
 (guarded [(0,t65)] (some (0,true)) (M.lift (Ax.bin .eql t68 t70))).bind fun t71 =>
 (M.lift (Ax.pick t65 t71 (V.bool false))).bind fun t72 =>
 (guarded [(0,t72)] (some (0,true)) (M.lift (Ax.faddr 7 t2))).bind fun t74 =>
 (guarded [(0,t72)] (some (0,true)) (mload none t74)).bind fun t75 =>
 (guarded [(0,t72)] (some (0,true)) (M.lift (vlen t75))).bind fun t76 =>
 (guarded [(0,t72)] (some (0,true)) (M.lift (Ax.faddr 7 t3))).bind fun t77 =>
 (guarded [(0,t72)] (some (0,true)) (mload none t77)).bind fun t78 =>
 (guarded [(0,t72)] (some (0,true)) (M.lift (vlen t78))).bind fun t79 =>
 (guarded [(0,t72)] (some (0,true)) (M.lift (Ax.bin .eql t76 t79))).bind fun t80 =>
 (M.lift (Ax.pick t72 t80 (V.bool false))).bind fun t81 =>
 (guarded [(0,t81)] (some (0,true)) (M.lift (Ax.faddr 8 t2))).bind fun t83 =>
 (guarded [(0,t81)] (some (0,true)) (mload none t83)).bind fun t84 =>
 (guarded [(0,t81)] (some (0,true)) (M.lift (vlen t84))).bind fun t85 =>
 (guarded [(0,t81)] (some (0,true)) (M.lift (Ax.faddr 8 t3))).bind fun t86 =>
 (guarded [(0,t81)] (some (0,true)) (mload none t86)).bind fun t87 =>
 (guarded [(0,t81)] (some (0,true)) (M.lift (vlen t87))).bind fun t88 =>
 (guarded [(0,t81)] (some (0,true)) (M.lift (Ax.bin .eql t85 t88))).bind fun t89 =>
 (M.lift (Ax.pick t81 t89 (V.bool false))).bind fun t90 =>
 (guarded [(0,t90)] (some (0,true)) (M.lift (Ax.faddr 9 t2))).bind fun t92 =>
 (guarded [(0,t90)] (some (0,true)) (mload none t92)).bind fun t93 =>
 (guarded [(0,t90)] (some (0,true)) (M.lift (vlen t93))).bind fun t94 =>
 (guarded [(0,t90)] (some (0,true)) (M.lift (Ax.faddr 9 t3))).bind fun t95 =>
 (guarded [(0,t90)] (some (0,true)) (mload none t95)).bind fun t96 =>
 (guarded [(0,t90)] (some (0,true)) (M.lift (vlen t96))).bind fun t97 =>
 (guarded [(0,t90)] (some (0,true)) (M.lift (Ax.bin .eql t94 t97))).bind fun t98 =>
 (M.lift (Ax.pick t90 t98 (V.bool false))).bind fun t99 =>
 (guarded [(0,t99)] (some (0,true)) (M.lift (Ax.faddr 12 t2))).bind fun t101 =>
 (guarded [(0,t99)] (some (0,true)) (mload none t101)).bind fun t102 =>
 (guarded [(0,t99)] (some (0,true)) (M.lift (vlen t102))).bind fun t103 =>
 (guarded [(0,t99)] (some (0,true)) (M.lift (Ax.faddr 12 t3))).bind fun t104 =>
 (guarded [(0,t99)] (some (0,true)) (mload none t104)).bind fun t105 =>
 (guarded [(0,t99)] (some (0,true)) (M.lift (vlen t105))).bind fun t106 =>
 (guarded [(0,t99)] (some (0,true)) (M.lift (Ax.bin .eql t103 t106))).bind fun t107 =>
 (M.lift (Ax.pick t99 t107 (V.bool false))).bind fun t108 =>
 (guarded [(0,t108)] (some (0,true)) (M.lift (Ax.faddr 15 t2))).bind fun t110 =>
 (guarded [(0,t108)] (some (0,true)) (mload none t110)).bind fun t111 =>
 (guarded [(0,t108)] (some (0,true)) (M.lift (vlen t111))).bind fun t112 =>
 (guarded [(0,t108)] (some (0,true)) (M.lift (Ax.faddr 15 t3))).bind fun t113 =>
 (guarded [(0,t108)] (some (0,true)) (mload none t113)).bind fun t114 =>
 (guarded [(0,t108)] (some (0,true)) (M.lift (vlen t114))).bind fun t115 =>
 (guarded [(0,t108)] (some (0,true)) (M.lift (Ax.bin .eql t112 t115))).bind fun t116 =>
 (M.lift (Ax.pick t108 t116 (V.bool false))).bind fun t117 =>
 M.pure (.ret [t117])
def zmB:Fn':=(T zf7).getD noF
theorem zyy:T zf7 = some zmB:=by kernel_rfl
theorem zzD (G:Sem') (t0 t1:V):execK G zmB.rv zmB.body [] [] (params 0 [t0,t1]) = zt9 G t0 t1:=by kernel_rfl
def zo1 (G:Sem'):List V → M V
 | [t0,t1]=>fin (zt9 G t0 t1)
 | _=>M.fail
theorem zAx {g:Sem'} (hg:Sims g (sem T)) (args:List V):Sim (zo1 g args) (sem T zf7 args):=by
 unfold zo1;split
 ·exact zae zyy (Nat.le_of_ble_eq_true (by kernel_rfl)) hg (zzD g _ _)
 ·exact zaa
def zwj (G:Sem') (t0:V):M Res :=
 (mbox za3 t0).bind fun t1 =>
 (mbox za3 (V.agg [(V.int .i64 0),(V.int .u32 0),(V.int .u32 0),(V.int .u64 0),(V.int .u32 0),(V.int .u32 0),(V.int .u32 0),V.nils,V.nils,V.nils,(V.int .i64 0),(V.int .u32 0),V.nils,(V.int .i64 0),(V.int .i64 0),V.nils])).bind fun t2 =>
 (M.lift (Ax.faddr 0 t1)).bind fun t4 =>
 (mload none t4).bind fun t5 =>
 (M.lift (Ax.faddr 1 t1)).bind fun t6 =>
 (mload none t6).bind fun t7 =>
 (M.lift (Ax.build [(V.int .i64 0),(V.int .u32 0),(V.int .u32 0),(V.int .u64 0),(V.int .u32 0),(V.int .u32 0),(V.int .u32 0),V.nils,V.nils,V.nils,(V.int .i64 0),(V.int .u32 0),V.nils,(V.int .i64 0),(V.int .i64 0),V.nils] [(0,1,t5),(1,1,t7)])).bind fun t8 =>
 (mbox za3 (V.agg [(V.int .i64 0),(V.int .u32 0),(V.int .u32 0),(V.int .u64 0),(V.int .u32 0),(V.int .u32 0),(V.int .u32 0),V.nils,V.nils,V.nils,(V.int .i64 0),(V.int .u32 0),V.nils,(V.int .i64 0),(V.int .i64 0),V.nils])).bind fun t3 =>
 (mstore 16 t3 t8).bind fun _ =>
 (M.lift (Ax.faddr 0 t1)).bind fun t9 =>
 (mload none t9).bind fun t10 =>
 M.blk 0 (
 (M.lift (Ax.bin .eql t10 (V.int .i64 1))).bind fun t22 =>
 M.join (M.ite t22
 ((M.lift (Ax.faddr 3 t1)).bind fun t23 =>
 (mload none t23).bind fun t24 =>
 (M.lift (Ax.faddr 4 t1)).bind fun t25 =>
 (mload none t25).bind fun t26 =>
 (M.lift (Ax.faddr 5 t1)).bind fun t27 =>
 (mload none t27).bind fun t28 =>
 (M.lift (Ax.faddr 6 t1)).bind fun t29 =>
 (mload none t29).bind fun t30 =>
 (M.lift (Ax.faddr 7 t1)).bind fun t31 =>
 (mload none t31).bind fun t32 =>
 (M.lift (Ax.faddr 3 t3)).bind fun t33 =>
 M.getH.bind fun h0 =>
 (mstore 1 t33 t24).bind fun _ =>
 M.getH.bind fun h0' =>
 (M.unch t31 h0 h0').bind fun _ =>
 (M.unch t29 h0 h0').bind fun _ =>
 (M.unch t27 h0 h0').bind fun _ =>
 (M.unch t25 h0 h0').bind fun _ =>
 (M.lift (Ax.faddr 4 t3)).bind fun t34 =>
 M.getH.bind fun h1 =>
 (mstore 1 t34 t26).bind fun _ =>
 M.getH.bind fun h1' =>
 (M.unch t31 h1 h1').bind fun _ =>
 (M.unch t29 h1 h1').bind fun _ =>
 (M.unch t27 h1 h1').bind fun _ =>
 (M.lift (Ax.faddr 5 t3)).bind fun t35 =>
 M.getH.bind fun h2 =>
 (mstore 1 t35 t28).bind fun _ =>
 M.getH.bind fun h2' =>
 (M.unch t31 h2 h2').bind fun _ =>
 (M.unch t29 h2 h2').bind fun _ =>
 (M.lift (Ax.faddr 6 t3)).bind fun t36 =>
 M.getH.bind fun h3 =>
 (mstore 1 t36 t30).bind fun _ =>
 M.getH.bind fun h3' =>
 (M.unch t31 h3 h3').bind fun _ =>
 (M.lift (Ax.faddr 7 t3)).bind fun t37 =>
 (mstore 1 t37 t32).bind fun _ =>
 M.pure (.nrm []))
 ((M.lift (Ax.bin .eql t10 (V.int .i64 2))).bind fun t39 =>
 M.join (M.ite t39
 ((M.lift (Ax.faddr 7 t1)).bind fun t40 =>
 (mload none t40).bind fun t41 =>
 (M.lift (Ax.faddr 7 t3)).bind fun t42 =>
 (mstore 1 t42 t41).bind fun _ =>
 M.pure (.nrm []))
 ((M.lift (Ax.bin .eql t10 (V.int .i64 3))).bind fun t44 =>
 M.join (M.ite t44
 ((M.lift (Ax.faddr 2 t1)).bind fun t45 =>
 (mload none t45).bind fun t46 =>
 (M.lift (Ax.faddr 8 t1)).bind fun t47 =>
 (mload none t47).bind fun t48 =>
 (M.lift (Ax.faddr 2 t3)).bind fun t49 =>
 M.getH.bind fun h4 =>
 (mstore 1 t49 t46).bind fun _ =>
 M.getH.bind fun h4' =>
 (M.unch t47 h4 h4').bind fun _ =>
 (M.lift (Ax.faddr 8 t3)).bind fun t50 =>
 (mstore 1 t50 t48).bind fun _ =>
 M.pure (.nrm []))
 ((M.lift (Ax.bin .eql t10 (V.int .i64 4))).bind fun t52 =>
 M.join (M.ite t52
 ((M.lift (Ax.faddr 2 t1)).bind fun t53 =>
 (mload none t53).bind fun t54 =>
 (M.lift (Ax.faddr 2 t3)).bind fun t55 =>
 (mstore 1 t55 t54).bind fun _ =>
 M.pure (.nrm []))
 ((M.lift (Ax.bin .eql t10 (V.int .i64 5))).bind fun t57 =>
 M.join (M.ite t57
 ((M.lift (Ax.faddr 2 t1)).bind fun t58 =>
 (mload none t58).bind fun t59 =>
 (M.lift (Ax.faddr 9 t1)).bind fun t60 =>
 (mload none t60).bind fun t61 =>
 (M.lift (Ax.faddr 2 t3)).bind fun t62 =>
 M.getH.bind fun h5 =>
 (mstore 1 t62 t59).bind fun _ =>
 M.getH.bind fun h5' =>
 (M.unch t60 h5 h5').bind fun _ =>
 (M.lift (Ax.faddr 9 t3)).bind fun t63 =>
 (mstore 1 t63 t61).bind fun _ =>
 M.pure (.nrm []))
 ((M.lift (Ax.bin .eql t10 (V.int .i64 6))).bind fun t65 =>
 M.join (M.ite t65
 ((M.lift (Ax.faddr 2 t1)).bind fun t66 =>
 (mload none t66).bind fun t67 =>
 (M.lift (Ax.faddr 10 t1)).bind fun t68 =>
 (mload none t68).bind fun t69 =>
 (M.lift (Ax.faddr 11 t1)).bind fun t70 =>
 (mload none t70).bind fun t71 =>
 (M.lift (Ax.faddr 12 t1)).bind fun t72 =>
 (mload none t72).bind fun t73 =>
 (M.lift (Ax.faddr 2 t3)).bind fun t74 =>
 M.getH.bind fun h6 =>
 (mstore 1 t74 t67).bind fun _ =>
 M.getH.bind fun h6' =>
 (M.unch t72 h6 h6').bind fun _ =>
 (M.unch t70 h6 h6').bind fun _ =>
 (M.unch t68 h6 h6').bind fun _ =>
 (M.lift (Ax.faddr 10 t3)).bind fun t75 =>
 M.getH.bind fun h7 =>
 (mstore 1 t75 t69).bind fun _ =>
 M.getH.bind fun h7' =>
 (M.unch t72 h7 h7').bind fun _ =>
 (M.unch t70 h7 h7').bind fun _ =>
 (M.lift (Ax.faddr 11 t3)).bind fun t76 =>
 M.getH.bind fun h8 =>
 (mstore 1 t76 t71).bind fun _ =>
 M.getH.bind fun h8' =>
 (M.unch t72 h8 h8').bind fun _ =>
 (M.lift (Ax.faddr 12 t3)).bind fun t77 =>
 (mstore 1 t77 t73).bind fun _ =>
 M.pure (.nrm []))
 ((M.lift (Ax.faddr 1 t3)).bind fun t11 =>
 (mstore 1 t11 (V.int .u32 0)).bind fun _ =>
 (M.lift (Ax.faddr 13 t1)).bind fun t12 =>
 (mload none t12).bind fun t13 =>
 (M.lift (Ax.faddr 14 t1)).bind fun t14 =>
 (mload none t14).bind fun t15 =>
 (M.lift (Ax.faddr 15 t1)).bind fun t16 =>
 (mload none t16).bind fun t17 =>
 (M.lift (Ax.faddr 13 t3)).bind fun t18 =>
 M.getH.bind fun h9 =>
 (mstore 1 t18 t13).bind fun _ =>
 M.getH.bind fun h9' =>
 (M.unch t16 h9 h9').bind fun _ =>
 (M.unch t14 h9 h9').bind fun _ =>
 (M.lift (Ax.faddr 14 t3)).bind fun t19 =>
 M.getH.bind fun h10 =>
 (mstore 1 t19 t15).bind fun _ =>
 M.getH.bind fun h10' =>
 (M.unch t16 h10 h10').bind fun _ =>
 (M.lift (Ax.faddr 15 t3)).bind fun t20 =>
 (mstore 1 t20 t17).bind fun _ =>
 M.pure (.nrm []))) fun _ =>
 M.pure (.nrm []))) fun _ =>
 M.pure (.nrm []))) fun _ =>
 M.pure (.nrm []))) fun _ =>
 M.pure (.nrm []))) fun _ =>
 M.pure (.nrm []))) fun _ =>
 M.pure (.nrm [])) fun _ =>
 (mload (some 16) t3).bind fun t78 =>
 (mstore 16 t2 t78).bind fun _ =>
 (mload (some 16) t2).bind fun r0 =>
 M.pure (.ret [r0])
def zn8:Fn':=(T zg9).getD noF
theorem zz4:T zg9 = some zn8:=by kernel_rfl
theorem zBp (G:Sem') (t0:V):execK G zn8.rv zn8.body [] [] (params 0 [t0]) = zwj G t0:=by kernel_rfl
def zqL (G:Sem'):List V → M V
 | [t0]=>fin (zwj G t0)
 | _=>M.fail
theorem zCe {g:Sem'} (hg:Sims g (sem T)) (args:List V):Sim (zqL g args) (sem T zg9 args):=by
 unfold zqL;split
 ·exact zae zz4 (Nat.le_of_ble_eq_true (by kernel_rfl)) hg (zBp g _)
 ·exact zaa
def zcD (G:Sem') (t0 t1:V):M Res :=
 (G zaH [t0,t1]).bind fun t7 =>
 (M.lift (Ax.bin .geq t7 (V.int .i64 0))).bind fun t8 =>
 M.pure (.ret [t8])
def zbB:Fn':=(T zav).getD noF
theorem zeI:T zav = some zbB:=by kernel_rfl
theorem zeK (G:Sem') (t0 t1:V):execK G zbB.rv zbB.body [] [] (params 0 [t0,t1]) = zcD G t0 t1:=by kernel_rfl
def zbJ (G:Sem'):List V → M V
 | [t0,t1]=>fin (zcD G t0 t1)
 | _=>M.fail
theorem zeQ {g:Sem'} (hg:Sims g (sem T)) (args:List V):Sim (zbJ g args) (sem T zav args):=by
 unfold zbJ;split
 ·exact zae zeI (Nat.le_of_ble_eq_true (by kernel_rfl)) hg (zeK g _ _)
 ·exact zaa
def zrP (G:Sem') (t0:V):M Res :=
 (mbox zhq t0).bind fun t1 =>
 (M.lift (Ax.faddr 2 t1)).bind fun t3 =>
 (mload none t3).bind fun t4 =>
 (M.lift (Ax.bin .geq t4 (V.int .u32 16777216))).bind fun t5 =>
 M.pure (.ret [t5])
def zlo:Fn':=(T zfi).getD noF
theorem zxa:T zfi = some zlo:=by kernel_rfl
theorem zxL (G:Sem') (t0:V):execK G zlo.rv zlo.body [] [] (params 0 [t0]) = zrP G t0:=by kernel_rfl
def zmX (G:Sem'):List V → M V
 | [t0]=>fin (zrP G t0)
 | _=>M.fail
theorem zyO {g:Sem'} (hg:Sims g (sem T)) (args:List V):Sim (zmX g args) (sem T zfi args):=by
 unfold zmX;split
 ·exact zae zxa (Nat.le_of_ble_eq_true (by kernel_rfl)) hg (zxL g _)
 ·exact zaa
def zwi (G:Sem') (t39 t38 t4:V) (L:List V):M Res :=
 (M.lift (Ax.bin .lss (L.getD 1 .undef) t39)).bind fun t41 =>
 M.ite t41
 (M.blk 3 (
 (M.lift (Ax.iaddr none 1 t38 (L.getD 1 .undef))).bind fun t42 =>
 (mload none t42).bind fun t43 =>
 (M.lift (Ax.cint .u64 t43)).bind fun t46 =>
 (G zbS [(L.getD 0 .undef),t46,(V.int .i64 4)]).bind fun t47 =>
 M.pure (.nrm [t47])) fun L0 =>
 (M.lift (Ax.bin .add (L.getD 1 .undef) (V.int .i64 1))).bind fun t48 =>
 M.pure (.nrm [(L0.getD 0 .undef),t48]))
 (M.pure (.ex 2 [(L.getD 0 .undef)]))
def zwh (G:Sem') (t10 t9 t4:V) (L:List V):M Res :=
 (M.lift (Ax.bin .lss (L.getD 1 .undef) t10)).bind fun t12 =>
 M.ite t12
 (M.blk 1 (
 (M.lift (Ax.iaddr none 7 t9 (L.getD 1 .undef))).bind fun t13 =>
 (mload (some 7) t13).bind fun t14 =>
 (mbox zhq (V.agg [(V.int .u32 0),(V.int .u8 0),(V.int .u32 0),(V.int .u32 0),(V.int .u32 0),(V.int .u32 0),(V.int .u32 0)])).bind fun t6 =>
 (mstore 7 t6 t14).bind fun _ =>
 (M.lift (Ax.faddr 0 t6)).bind fun t16 =>
 (mload none t16).bind fun t17 =>
 (M.lift (Ax.cint .u64 t17)).bind fun t18 =>
 (G zbS [(L.getD 0 .undef),t18,(V.int .i64 4)]).bind fun t19 =>
 (M.lift (Ax.faddr 1 t6)).bind fun t21 =>
 (mload none t21).bind fun t22 =>
 (mslit zaj 1 [(V.int .u8 0)] [(0,1,t22)]).bind fun t23 =>
 (mappend zaj 1 1 t19 t23).bind fun t24 =>
 (M.lift (Ax.faddr 2 t6)).bind fun t26 =>
 (mload none t26).bind fun t27 =>
 (M.lift (Ax.cint .u64 t27)).bind fun t28 =>
 (G zbS [t24,t28,(V.int .i64 3)]).bind fun t29 =>
 (M.lift (Ax.faddr 3 t6)).bind fun t30 =>
 (mload none t30).bind fun t31 =>
 (M.lift (Ax.faddr 4 t6)).bind fun t32 =>
 (mload none t32).bind fun t33 =>
 (M.lift (Ax.faddr 5 t6)).bind fun t34 =>
 (mload none t34).bind fun t35 =>
 (M.lift (Ax.faddr 6 t6)).bind fun t36 =>
 (mload none t36).bind fun t37 =>
 (mslit zes 4 [(V.int .u32 0)] [(0,1,t31),(1,1,t33),(2,1,t35),(3,1,t37)]).bind fun t38 =>
 (M.lift (vlen t38)).bind fun t39 =>
 M.blk 2 (
 M.iter (zwi G t39 t38 t4) [t29,(V.int .i64 0)]) fun L1 =>
 M.pure (.nrm [(L1.getD 0 .undef)])) fun L2 =>
 (M.lift (Ax.bin .add (L.getD 1 .undef) (V.int .i64 1))).bind fun t49 =>
 M.pure (.nrm [(L2.getD 0 .undef),t49]))
 (M.pure (.ex 0 [(L.getD 0 .undef)]))
def zrO (G:Sem') (t0 t1:V):M Res :=
 (M.lift (vlen t1)).bind fun t10 =>
 M.blk 0 (
 M.iter (zwh G t10 t1 V.nils) [t0,(V.int .i64 0)]) fun L3 =>
 M.pure (.ret [(L3.getD 0 .undef)])
def zln:Fn':=(T zei).getD noF
theorem zw9:T zei = some zln:=by kernel_rfl
theorem zxK (G:Sem') (t0 t1:V):execK G zln.rv zln.body [] [] (params 0 [t0,t1]) = zrO G t0 t1:=by kernel_rfl
def zmW (G:Sem'):List V → M V
 | [t0,t1]=>fin (zrO G t0 t1)
 | _=>M.fail
theorem zyN {g:Sem'} (hg:Sims g (sem T)) (args:List V):Sim (zmW g args) (sem T zei args):=by
 unfold zmW;split
 ·exact zae zw9 (Nat.le_of_ble_eq_true (by kernel_rfl)) hg (zxK g _ _)
 ·exact zaa
def zuh (G:Sem') (t0:V):M Res :=
 (G zcy [t0]).bind fun t6 =>
 (M.lift (Ax.bin .shl (V.int .u64 1) t6)).bind fun t9 =>
 (M.lift (Ax.bin .sub t9 t0)).bind fun t11 =>
 M.pure (.ret [t6,t11])
def zmJ:Fn':=(T zgd).getD noF
theorem zyG:T zgd = some zmJ:=by kernel_rfl
theorem zzL (G:Sem') (t0:V):execK G zmJ.rv zmJ.body [] [] (params 0 [t0]) = zuh G t0:=by kernel_rfl
def zpd (G:Sem'):List V → M V
 | [t0]=>fin (zuh G t0)
 | _=>M.fail
theorem zAJ {g:Sem'} (hg:Sims g (sem T)) (args:List V):Sim (zpd g args) (sem T zgd args):=by
 unfold zpd;split
 ·exact zae zyG (Nat.le_of_ble_eq_true (by kernel_rfl)) hg (zzL g _)
 ·exact zaa
def zj3 (G:Sem') (t7 t1 t0:V) (L:List V):M Res :=
 (M.lift (Ax.bin .lss (L.getD 0 .undef) t7)).bind fun t9 =>
 M.ite t9
 (M.blk 1 (
 (M.lift (Ax.iaddr none 1 t0 (L.getD 0 .undef))).bind fun t14 =>
 (mload none t14).bind fun t15 =>
 (callv G t1 [t15]).bind fun t16 =>
 M.ite t16
 (M.pure (.ret [(L.getD 0 .undef)]))
 (M.pure (.nrm []))) fun _ =>
 (M.lift (Ax.bin .add (L.getD 0 .undef) (V.int .i64 1))).bind fun t18 =>
 M.pure (.nrm [t18]))
 (M.pure (.ex 0 []))
def zgh (G:Sem') (t0 t1:V):M Res :=
 (M.lift (vlen t0)).bind fun t7 =>
 M.blk 0 (
 M.iter (zj3 G t7 t1 t0) [(V.int .i64 0)]) fun _ =>
 M.pure (.ret [(V.int .i64 (-1))])
def zdI:Fn':=(T zbw).getD noF
theorem zj8:T zbw = some zdI:=by kernel_rfl
theorem zkw (G:Sem') (t0 t1:V):execK G zdI.rv zdI.body [] [] (params 0 [t0,t1]) = zgh G t0 t1:=by kernel_rfl
def zdW (G:Sem'):List V → M V
 | [t0,t1]=>fin (zgh G t0 t1)
 | _=>M.fail
theorem zkP {g:Sem'} (hg:Sims g (sem T)) (args:List V):Sim (zdW g args) (sem T zbw args):=by
 unfold zdW;split
 ·exact zae zj8 (Nat.le_of_ble_eq_true (by kernel_rfl)) hg (zkw g _ _)
 ·exact zaa
def ze8 (G:Sem') (t7 t1 t0:V) (L:List V):M Res :=
 (M.lift (Ax.bin .lss (L.getD 0 .undef) t7)).bind fun t9 =>
 M.ite t9
 (M.blk 1 (
 (M.lift (Ax.iaddr none 7 t0 (L.getD 0 .undef))).bind fun t14 =>
 (mload (some 7) t14).bind fun t15 =>
 (callv G t1 [t15]).bind fun t16 =>
 M.ite t16
 (M.pure (.ret [(L.getD 0 .undef)]))
 (M.pure (.nrm []))) fun _ =>
 (M.lift (Ax.bin .add (L.getD 0 .undef) (V.int .i64 1))).bind fun t18 =>
 M.pure (.nrm [t18]))
 (M.pure (.ex 0 []))
def zc1 (G:Sem') (t0 t1:V):M Res :=
 (M.lift (vlen t0)).bind fun t7 =>
 M.blk 0 (
 M.iter (ze8 G t7 t1 t0) [(V.int .i64 0)]) fun _ =>
 M.pure (.ret [(V.int .i64 (-1))])
def zbQ:Fn':=(T zaH).getD noF
theorem zfo:T zaH = some zbQ:=by kernel_rfl
theorem zfs (G:Sem') (t0 t1:V):execK G zbQ.rv zbQ.body [] [] (params 0 [t0,t1]) = zc1 G t0 t1:=by kernel_rfl
def zbW (G:Sem'):List V → M V
 | [t0,t1]=>fin (zc1 G t0 t1)
 | _=>M.fail
theorem zfE {g:Sem'} (hg:Sims g (sem T)) (args:List V):Sim (zbW g args) (sem T zaH args):=by
 unfold zbW;split
 ·exact zae zfo (Nat.le_of_ble_eq_true (by kernel_rfl)) hg (zfs g _ _)
 ·exact zaa
end Go.Ax.Cc
/- CiS -/
namespace Go.Ax.Cc
open Go.Proofs
def disp (G:Sem') (f:FuncId) (args:List V):M V :=
 if f < 226 then (if f < 136 then (if f < 85 then (if f < 51 then (if f < 25 then (if f < 18 then (if f < 16 then (if f = ze0 then ztR G args else M.fail) else (if f < 17 then (if f = zbr then zfA G args else M.fail) else (if f = zaY then zfz G args else M.fail))) else (if f < 19 then (if f = zdF then zjM G args else M.fail) else (if f < 24 then (if f = zau then zlK G args else M.fail) else (if f = zdg then ziQ G args else M.fail)))) else (if f < 46 then (if f < 26 then (if f = zdf then ziP G args else M.fail) else (if f < 27 then (if f = zaR then zfx G args else M.fail) else (if f = zaJ then zfV G args else M.fail))) else (if f < 49 then (if f < 48 then (if f = zcm then zqU G args else M.fail) else (if f = zdz then zjv G args else M.fail)) else (if f < 50 then (if f = zcG then zgY G args else M.fail) else (if f = zcJ then zqZ G args else M.fail))))) else (if f < 61 then (if f < 54 then (if f < 52 then (if f = zb2 then zgw G args else M.fail) else (if f < 53 then (if f = zbn then zjI G args else M.fail) else (if f = zcV then zjE G args else M.fail))) else (if f < 59 then (if f < 58 then (if f = zbc then ziJ G args else M.fail) else (if f = zdA then zjw G args else M.fail)) else (if f < 60 then (if f = zbN then zeG G args else M.fail) else (if f = zai then zgt G args else M.fail)))) else (if f < 68 then (if f < 62 then (if f = zam then zfU G args else M.fail) else (if f < 66 then (if f = zaS then zfy G args else M.fail) else (if f = zaF then ziC G args else M.fail))) else (if f < 83 then (if f < 82 then (if f = zco then zjx G args else M.fail) else (if f = zbg then zoW G args else M.fail)) else (if f < 84 then (if f = zbH then zo9 G args else M.fail) else (if f = zbU then zoV G args else M.fail)))))) else (if f < 98 then (if f < 91 then (if f < 88 then (if f < 86 then (if f = zax then ziB G args else M.fail) else (if f < 87 then (if f = zbb then ziI G args else M.fail) else (if f = zbd then ziM G args else M.fail))) else (if f < 89 then (if f = zit then zwN G args else M.fail) else (if f < 90 then (if f = zcH then zg0 G args else M.fail) else (if f = zcT then zhM G args else M.fail)))) else (if f < 94 then (if f < 92 then (if f = zdd then ziK G args else M.fail) else (if f < 93 then (if f = zcw then zpa G args else M.fail) else (if f = zbz then zlJ G args else M.fail))) else (if f < 96 then (if f < 95 then (if f = zcX then zjK G args else M.fail) else (if f = zby then zjG G args else M.fail)) else (if f < 97 then (if f = zhd then zqQ G args else M.fail) else (if f = zbP then zjC G args else M.fail))))) else (if f < 129 then (if f < 103 then (if f < 101 then (if f = zaB then zek G args else M.fail) else (if f < 102 then (if f = zbM then zeE G args else M.fail) else (if f = zaC then ze3 G args else M.fail))) else (if f < 105 then (if f < 104 then (if f = zah then zgZ G args else M.fail) else (if f = zag then zgu G args else M.fail)) else (if f < 128 then (if f = zbI then zfw G args else M.fail) else (if f = zbT then zoS G args else M.fail)))) else (if f < 132 then (if f < 130 then (if f = zcf then zoT G args else M.fail) else (if f < 131 then (if f = zaX then ze2 G args else M.fail) else (if f = zb7 then zoY G args else M.fail))) else (if f < 134 then (if f < 133 then (if f = zcv then zo5 G args else M.fail) else (if f = zf8 then zo2 G args else M.fail)) else (if f < 135 then (if f = zde then ziO G args else M.fail) else (if f = zcW then zjJ G args else M.fail))))))) else (if f < 163 then (if f < 149 then (if f < 142 then (if f < 139 then (if f < 137 then (if f = zdD then zjH G args else M.fail) else (if f < 138 then (if f = zha then zqM G args else M.fail) else (if f = zg7 then zqH G args else M.fail))) else (if f < 140 then (if f = zci then zhL G args else M.fail) else (if f < 141 then (if f = zeB then zlI G args else M.fail) else (if f = zhh then zqY G args else M.fail)))) else (if f < 145 then (if f < 143 then (if f = zgT then ztK G args else M.fail) else (if f < 144 then (if f = zeC then zlN G args else M.fail) else (if f = zfT then ztN G args else M.fail))) else (if f < 147 then (if f < 146 then (if f = zgU then ztP G args else M.fail) else (if f = zdb then ziF G args else M.fail)) else (if f < 148 then (if f = za2 then zjF G args else M.fail) else (if f = zb1 then zgv G args else M.fail))))) else (if f < 156 then (if f < 152 then (if f < 150 then (if f = zbf then zlH G args else M.fail) else (if f < 151 then (if f = zaL then zm9 G args else M.fail) else (if f = zcn then zqX G args else M.fail))) else (if f < 154 then (if f < 153 then (if f = zaU then zkE G args else M.fail) else (if f = zhe then zqS G args else M.fail)) else (if f < 155 then (if f = zbO then zm3 G args else M.fail) else (if f = zcg then zkG G args else M.fail)))) else (if f < 159 then (if f < 157 then (if f = zeY then zo4 G args else M.fail) else (if f < 158 then (if f = zfR then zqR G args else M.fail) else (if f = zcS then zjA G args else M.fail))) else (if f < 161 then (if f < 160 then (if f = zcU then zjD G args else M.fail) else (if f = zbK then zkF G args else M.fail)) else (if f < 162 then (if f = zfS then zqT G args else M.fail) else (if f = zga then zo7 G args else M.fail)))))) else (if f < 212 then (if f < 205 then (if f < 201 then (if f < 164 then (if f = zdw then zmY G args else M.fail) else (if f < 200 then (if f = zbx then zdX G args else M.fail) else (if f = zcc then zqP G args else M.fail))) else (if f < 203 then (if f < 202 then (if f = zfh then zmV G args else M.fail) else (if f = zb8 then zjB G args else M.fail)) else (if f < 204 then (if f = zdC then zjz G args else M.fail) else (if f = zcB then ziN G args else M.fail)))) else (if f < 208 then (if f < 206 then (if f = zd3 then zkC G args else M.fail) else (if f < 207 then (if f = zfk then zm0 G args else M.fail) else (if f = zcA then ziL G args else M.fail))) else (if f < 210 then (if f < 209 then (if f = zcy then ziD G args else M.fail) else (if f = zex then zwL G args else M.fail)) else (if f < 211 then (if f = zdZ then zky G args else M.fail) else (if f = zej then zm2 G args else M.fail))))) else (if f < 219 then (if f < 215 then (if f < 213 then (if f = zdl then zkD G args else M.fail) else (if f < 214 then (if f = zkj then zzM G args else M.fail) else (if f = zhj then zq2 G args else M.fail))) else (if f < 217 then (if f < 216 then (if f = zaD then zg3 G args else M.fail) else (if f = zao then zg2 G args else M.fail)) else (if f < 218 then (if f = zbD then zem G args else M.fail) else (if f = zc3 then zm7 G args else M.fail)))) else (if f < 222 then (if f < 220 then (if f = zc6 then zlL G args else M.fail) else (if f < 221 then (if f = zcC then ziS G args else M.fail) else (if f = za7 then zgy G args else M.fail))) else (if f < 224 then (if f < 223 then (if f = zbs then zgx G args else M.fail) else (if f = zcI then zg1 G args else M.fail)) else (if f < 225 then (if f = zck then zhQ G args else M.fail) else (if f = zaV then zc0 G args else M.fail)))))))) else (if f < 306 then (if f < 279 then (if f < 239 then (if f < 232 then (if f < 229 then (if f < 227 then (if f = zbm then zdv G args else M.fail) else (if f < 228 then (if f = za9 then zc7 G args else M.fail) else (if f = zfP then zqI G args else M.fail))) else (if f < 230 then (if f = zfn then zm6 G args else M.fail) else (if f < 231 then (if f = zcR then zhK G args else M.fail) else (if f = zd2 then zkB G args else M.fail)))) else (if f < 235 then (if f < 233 then (if f = zio then ztG G args else M.fail) else (if f < 234 then (if f = zj4 then zwM G args else M.fail) else (if f = zd6 then zkK G args else M.fail))) else (if f < 237 then (if f < 236 then (if f = zd1 then zkA G args else M.fail) else (if f = zaK then zeH G args else M.fail)) else (if f < 238 then (if f = zf9 then zo3 G args else M.fail) else (if f = zeA then zwP G args else M.fail))))) else (if f < 246 then (if f < 242 then (if f < 240 then (if f = zaZ then zm1 G args else M.fail) else (if f < 241 then (if f = zdL then zlG G args else M.fail) else (if f = zcx then zpb G args else M.fail))) else (if f < 244 then (if f < 243 then (if f = zf4 then zoU G args else M.fail) else (if f = zgb then zo8 G args else M.fail)) else (if f < 245 then (if f = zb0 then zlF G args else M.fail) else (if f = zfe then zmS G args else M.fail)))) else (if f < 249 then (if f < 247 then (if f = zeX then zoX G args else M.fail) else (if f < 248 then (if f = zdE then zjL G args else M.fail) else (if f = ziw then ztQ G args else M.fail))) else (if f < 251 then (if f < 250 then (if f = zdc then ziG G args else M.fail) else (if f = zhf then zqV G args else M.fail)) else (if f < 278 then (if f = zfj then zmZ G args else M.fail) else (if f = zfQ then zqK G args else M.fail)))))) else (if f < 292 then (if f < 285 then (if f < 282 then (if f < 280 then (if f = zas then zhJ G args else M.fail) else (if f < 281 then (if f = zaQ then ziA G args else M.fail) else (if f = zbZ then zgs G args else M.fail))) else (if f < 283 then (if f = zcF then zgX G args else M.fail) else (if f < 284 then (if f = zhb then zqN G args else M.fail) else (if f = zd0 then zkz G args else M.fail)))) else (if f < 288 then (if f < 286 then (if f = zcz then ziH G args else M.fail) else (if f < 287 then (if f = zdB then zjy G args else M.fail) else (if f = zix then ztS G args else M.fail))) else (if f < 290 then (if f < 289 then (if f = ziq then ztH G args else M.fail) else (if f = zaN then zcs G args else M.fail)) else (if f < 291 then (if f = zir then ztI G args else M.fail) else (if f = zb3 then zhP G args else M.fail))))) else (if f < 299 then (if f < 295 then (if f < 293 then (if f = zbC then zel G args else M.fail) else (if f < 294 then (if f = zcd then zfW G args else M.fail) else (if f = zcj then zhO G args else M.fail))) else (if f < 297 then (if f < 296 then (if f = zcZ then zjN G args else M.fail) else (if f = zbv then zkH G args else M.fail)) else (if f < 298 then (if f = zd4 then zkI G args else M.fail) else (if f = zal then za6 G args else M.fail)))) else (if f < 302 then (if f < 300 then (if f = zd8 then zkM G args else M.fail) else (if f < 301 then (if f = zbY then ze4 G args else M.fail) else (if f = zd5 then zkJ G args else M.fail))) else (if f < 304 then (if f < 303 then (if f = zbk then zdt G args else M.fail) else (if f = zis then ztJ G args else M.fail)) else (if f < 305 then (if f = zew then zwK G args else M.fail) else (if f = zg6 then zqG G args else M.fail))))))) else (if f < 336 then (if f < 319 then (if f < 312 then (if f < 309 then (if f < 307 then (if f = zey then zlC G args else M.fail) else (if f < 308 then (if f = zhi then zq0 G args else M.fail) else (if f = zfl then zm4 G args else M.fail))) else (if f < 310 then (if f = zbp then zfu G args else M.fail) else (if f < 311 then (if f = zdM then zlM G args else M.fail) else (if f = zj6 then zwQ G args else M.fail)))) else (if f < 315 then (if f < 313 then (if f = zda then ziE G args else M.fail) else (if f < 314 then (if f = zf2 then zoQ G args else M.fail) else (if f = zhg then zqW G args else M.fail))) else (if f < 317 then (if f < 316 then (if f = zj5 then zwO G args else M.fail) else (if f = ziv then ztO G args else M.fail)) else (if f < 318 then (if f = zf5 then zoZ G args else M.fail) else (if f = zdK then zlE G args else M.fail))))) else (if f < 326 then (if f < 322 then (if f < 320 then (if f = zaz then zb9 G args else M.fail) else (if f < 321 then (if f = zat then zbA G args else M.fail) else (if f = zez then zlD G args else M.fail))) else (if f < 324 then (if f < 323 then (if f = zhc then zqO G args else M.fail) else (if f = zg8 then zqJ G args else M.fail)) else (if f < 325 then (if f = zbS then ztL G args else M.fail) else (if f = zbt then zeF G args else M.fail)))) else (if f < 329 then (if f < 327 then (if f = zeZ then zo6 G args else M.fail) else (if f < 328 then (if f = zf3 then zoR G args else M.fail) else (if f = za1 then zcN G args else M.fail))) else (if f < 331 then (if f < 330 then (if f = zcY then zhN G args else M.fail) else (if f = zbh then zdm G args else M.fail)) else (if f < 335 then (if f = ziu then ztM G args else M.fail) else (if f = zgc then zpc G args else M.fail)))))) else (if f < 350 then (if f < 343 then (if f < 339 then (if f < 337 then (if f = zeL then zq1 G args else M.fail) else (if f < 338 then (if f = zdx then zm8 G args else M.fail) else (if f = zfg then zmU G args else M.fail))) else (if f < 341 then (if f < 340 then (if f = zcq then zgz G args else M.fail) else (if f = zbi then zdn G args else M.fail)) else (if f < 342 then (if f = zdh then ziR G args else M.fail) else (if f = zfm then zm5 G args else M.fail)))) else (if f < 346 then (if f < 344 then (if f = zaq then zbj G args else M.fail) else (if f < 345 then (if f = zbq then zfv G args else M.fail) else (if f = zaP then zca G args else M.fail))) else (if f < 348 then (if f < 347 then (if f = zf6 then zo0 G args else M.fail) else (if f = zff then zmT G args else M.fail)) else (if f < 349 then (if f = zcp then zjO G args else M.fail) else (if f = zf1 then zoP G args else M.fail))))) else (if f < 357 then (if f < 353 then (if f < 351 then (if f = zd7 then zkL G args else M.fail) else (if f < 352 then (if f = zbl then zdu G args else M.fail) else (if f = zba then zc8 G args else M.fail))) else (if f < 355 then (if f < 354 then (if f = zaI then zbX G args else M.fail) else (if f = zdy then zju G args else M.fail)) else (if f < 356 then (if f = zay then zbL G args else M.fail) else (if f = zf7 then zo1 G args else M.fail)))) else (if f < 360 then (if f < 358 then (if f = zg9 then zqL G args else M.fail) else (if f < 359 then (if f = zav then zbJ G args else M.fail) else (if f = zfi then zmX G args else M.fail))) else (if f < 363 then (if f < 362 then (if f = zei then zmW G args else M.fail) else (if f = zgd then zpd G args else M.fail)) else (if f < 364 then (if f = zbw then zdW G args else M.fail) else (if f = zaH then zbW G args else M.fail))))))))
theorem zFr {g:Sem'} (hg:Sims g (sem T)):Sims (disp g) (sem T):=fun f args =>
 (zab (fun _=>(zab (fun _=>(zab (fun _=>(zab (fun _=>(zab (fun _=>(zab (fun _=>(zab (fun _=>(zab (fun e=>e ▸ zEl hg args) zaa)) (zab (fun _=>(zab (fun e=>e ▸ znG hg args) zaa)) (zab (fun e=>e ▸ znF hg args) zaa)))) (zab (fun _=>(zab (fun e=>e ▸ zuP hg args) zaa)) (zab (fun _=>(zab (fun e=>e ▸ zxt hg args) zaa)) (zab (fun e=>e ▸ zs4 hg args) zaa))))) (zab (fun _=>(zab (fun _=>(zab (fun e=>e ▸ zs3 hg args) zaa)) (zab (fun _=>(zab (fun e=>e ▸ znD hg args) zaa)) (zab (fun e=>e ▸ znU hg args) zaa)))) (zab (fun _=>(zab (fun _=>(zab (fun e=>e ▸ zCn hg args) zaa)) (zab (fun e=>e ▸ zuy hg args) zaa))) (zab (fun _=>(zab (fun e=>e ▸ zp6 hg args) zaa)) (zab (fun e=>e ▸ zCs hg args) zaa)))))) (zab (fun _=>(zab (fun _=>(zab (fun _=>(zab (fun e=>e ▸ zpw hg args) zaa)) (zab (fun _=>(zab (fun e=>e ▸ zuL hg args) zaa)) (zab (fun e=>e ▸ zuH hg args) zaa)))) (zab (fun _=>(zab (fun _=>(zab (fun e=>e ▸ zsX hg args) zaa)) (zab (fun e=>e ▸ zuz hg args) zaa))) (zab (fun _=>(zab (fun e=>e ▸ zlS hg args) zaa)) (zab (fun e=>e ▸ zpt hg args) zaa))))) (zab (fun _=>(zab (fun _=>(zab (fun e=>e ▸ znT hg args) zaa)) (zab (fun _=>(zab (fun e=>e ▸ znE hg args) zaa)) (zab (fun e=>e ▸ zsQ hg args) zaa)))) (zab (fun _=>(zab (fun _=>(zab (fun e=>e ▸ zuA hg args) zaa)) (zab (fun e=>e ▸ zAs hg args) zaa))) (zab (fun _=>(zab (fun e=>e ▸ zAF hg args) zaa)) (zab (fun e=>e ▸ zAr hg args) zaa))))))) (zab (fun _=>(zab (fun _=>(zab (fun _=>(zab (fun _=>(zab (fun e=>e ▸ zsP hg args) zaa)) (zab (fun _=>(zab (fun e=>e ▸ zsW hg args) zaa)) (zab (fun e=>e ▸ zs0 hg args) zaa)))) (zab (fun _=>(zab (fun e=>e ▸ zFJ hg args) zaa)) (zab (fun _=>(zab (fun e=>e ▸ zp8 hg args) zaa)) (zab (fun e=>e ▸ zrp hg args) zaa))))) (zab (fun _=>(zab (fun _=>(zab (fun e=>e ▸ zsY hg args) zaa)) (zab (fun _=>(zab (fun e=>e ▸ zAG hg args) zaa)) (zab (fun e=>e ▸ zxs hg args) zaa)))) (zab (fun _=>(zab (fun _=>(zab (fun e=>e ▸ zuN hg args) zaa)) (zab (fun e=>e ▸ zuJ hg args) zaa))) (zab (fun _=>(zab (fun e=>e ▸ zCj hg args) zaa)) (zab (fun e=>e ▸ zuF hg args) zaa)))))) (zab (fun _=>(zab (fun _=>(zab (fun _=>(zab (fun e=>e ▸ zld hg args) zaa)) (zab (fun _=>(zab (fun e=>e ▸ zlQ hg args) zaa)) (zab (fun e=>e ▸ zmq hg args) zaa)))) (zab (fun _=>(zab (fun _=>(zab (fun e=>e ▸ zp7 hg args) zaa)) (zab (fun e=>e ▸ zpu hg args) zaa))) (zab (fun _=>(zab (fun e=>e ▸ znC hg args) zaa)) (zab (fun e=>e ▸ zAo hg args) zaa))))) (zab (fun _=>(zab (fun _=>(zab (fun e=>e ▸ zAp hg args) zaa)) (zab (fun _=>(zab (fun e=>e ▸ zmp hg args) zaa)) (zab (fun e=>e ▸ zAu hg args) zaa)))) (zab (fun _=>(zab (fun _=>(zab (fun e=>e ▸ zAB hg args) zaa)) (zab (fun e=>e ▸ zAy hg args) zaa))) (zab (fun _=>(zab (fun e=>e ▸ zs2 hg args) zaa)) (zab (fun e=>e ▸ zuM hg args) zaa)))))))) (zab (fun _=>(zab (fun _=>(zab (fun _=>(zab (fun _=>(zab (fun _=>(zab (fun e=>e ▸ zuK hg args) zaa)) (zab (fun _=>(zab (fun e=>e ▸ zCf hg args) zaa)) (zab (fun e=>e ▸ zCa hg args) zaa)))) (zab (fun _=>(zab (fun e=>e ▸ zro hg args) zaa)) (zab (fun _=>(zab (fun e=>e ▸ zxr hg args) zaa)) (zab (fun e=>e ▸ zCr hg args) zaa))))) (zab (fun _=>(zab (fun _=>(zab (fun e=>e ▸ zEe hg args) zaa)) (zab (fun _=>(zab (fun e=>e ▸ zxw hg args) zaa)) (zab (fun e=>e ▸ zEh hg args) zaa)))) (zab (fun _=>(zab (fun _=>(zab (fun e=>e ▸ zEj hg args) zaa)) (zab (fun e=>e ▸ zsT hg args) zaa))) (zab (fun _=>(zab (fun e=>e ▸ zuI hg args) zaa)) (zab (fun e=>e ▸ zpv hg args) zaa)))))) (zab (fun _=>(zab (fun _=>(zab (fun _=>(zab (fun e=>e ▸ zxq hg args) zaa)) (zab (fun _=>(zab (fun e=>e ▸ zy0 hg args) zaa)) (zab (fun e=>e ▸ zCq hg args) zaa)))) (zab (fun _=>(zab (fun _=>(zab (fun e=>e ▸ zvH hg args) zaa)) (zab (fun e=>e ▸ zCl hg args) zaa))) (zab (fun _=>(zab (fun e=>e ▸ zyU hg args) zaa)) (zab (fun e=>e ▸ zvJ hg args) zaa))))) (zab (fun _=>(zab (fun _=>(zab (fun e=>e ▸ zAA hg args) zaa)) (zab (fun _=>(zab (fun e=>e ▸ zCk hg args) zaa)) (zab (fun e=>e ▸ zuD hg args) zaa)))) (zab (fun _=>(zab (fun _=>(zab (fun e=>e ▸ zuG hg args) zaa)) (zab (fun e=>e ▸ zvI hg args) zaa))) (zab (fun _=>(zab (fun e=>e ▸ zCm hg args) zaa)) (zab (fun e=>e ▸ zAD hg args) zaa))))))) (zab (fun _=>(zab (fun _=>(zab (fun _=>(zab (fun _=>(zab (fun e=>e ▸ zyP hg args) zaa)) (zab (fun _=>(zab (fun e=>e ▸ zkQ hg args) zaa)) (zab (fun e=>e ▸ zCi hg args) zaa)))) (zab (fun _=>(zab (fun _=>(zab (fun e=>e ▸ zyM hg args) zaa)) (zab (fun e=>e ▸ zuE hg args) zaa))) (zab (fun _=>(zab (fun e=>e ▸ zuC hg args) zaa)) (zab (fun e=>e ▸ zs1 hg args) zaa))))) (zab (fun _=>(zab (fun _=>(zab (fun e=>e ▸ zvF hg args) zaa)) (zab (fun _=>(zab (fun e=>e ▸ zyR hg args) zaa)) (zab (fun e=>e ▸ zsZ hg args) zaa)))) (zab (fun _=>(zab (fun _=>(zab (fun e=>e ▸ zsR hg args) zaa)) (zab (fun e=>e ▸ zFH hg args) zaa))) (zab (fun _=>(zab (fun e=>e ▸ zvB hg args) zaa)) (zab (fun e=>e ▸ zyT hg args) zaa)))))) (zab (fun _=>(zab (fun _=>(zab (fun _=>(zab (fun e=>e ▸ zvG hg args) zaa)) (zab (fun _=>(zab (fun e=>e ▸ s_rtp_at hg args) zaa)) (zab (fun e=>e ▸ zCv hg args) zaa)))) (zab (fun _=>(zab (fun _=>(zab (fun e=>e ▸ zqb hg args) zaa)) (zab (fun e=>e ▸ zqa hg args) zaa))) (zab (fun _=>(zab (fun e=>e ▸ zlf hg args) zaa)) (zab (fun e=>e ▸ zyY hg args) zaa))))) (zab (fun _=>(zab (fun _=>(zab (fun e=>e ▸ zxu hg args) zaa)) (zab (fun _=>(zab (fun e=>e ▸ zs6 hg args) zaa)) (zab (fun e=>e ▸ zpy hg args) zaa)))) (zab (fun _=>(zab (fun _=>(zab (fun e=>e ▸ zpx hg args) zaa)) (zab (fun e=>e ▸ zp9 hg args) zaa))) (zab (fun _=>(zab (fun e=>e ▸ zrt hg args) zaa)) (zab (fun e=>e ▸ zh5 hg args) zaa))))))))) (zab (fun _=>(zab (fun _=>(zab (fun _=>(zab (fun _=>(zab (fun _=>(zab (fun _=>(zab (fun e=>e ▸ zj1 hg args) zaa)) (zab (fun _=>(zab (fun e=>e ▸ zi0 hg args) zaa)) (zab (fun e=>e ▸ zCb hg args) zaa)))) (zab (fun _=>(zab (fun e=>e ▸ zyX hg args) zaa)) (zab (fun _=>(zab (fun e=>e ▸ zrn hg args) zaa)) (zab (fun e=>e ▸ zvE hg args) zaa))))) (zab (fun _=>(zab (fun _=>(zab (fun e=>e ▸ zEa hg args) zaa)) (zab (fun _=>(zab (fun e=>e ▸ zFI hg args) zaa)) (zab (fun e=>e ▸ zvN hg args) zaa)))) (zab (fun _=>(zab (fun _=>(zab (fun e=>e ▸ zvD hg args) zaa)) (zab (fun e=>e ▸ zlT hg args) zaa))) (zab (fun _=>(zab (fun e=>e ▸ zAz hg args) zaa)) (zab (fun e=>e ▸ zFL hg args) zaa)))))) (zab (fun _=>(zab (fun _=>(zab (fun _=>(zab (fun e=>e ▸ zyS hg args) zaa)) (zab (fun _=>(zab (fun e=>e ▸ zxp hg args) zaa)) (zab (fun e=>e ▸ zAH hg args) zaa)))) (zab (fun _=>(zab (fun _=>(zab (fun e=>e ▸ zAq hg args) zaa)) (zab (fun e=>e ▸ zAE hg args) zaa))) (zab (fun _=>(zab (fun e=>e ▸ zxo hg args) zaa)) (zab (fun e=>e ▸ zyJ hg args) zaa))))) (zab (fun _=>(zab (fun _=>(zab (fun e=>e ▸ zAt hg args) zaa)) (zab (fun _=>(zab (fun e=>e ▸ zuO hg args) zaa)) (zab (fun e=>e ▸ zEk hg args) zaa)))) (zab (fun _=>(zab (fun _=>(zab (fun e=>e ▸ zsU hg args) zaa)) (zab (fun e=>e ▸ zCo hg args) zaa))) (zab (fun _=>(zab (fun e=>e ▸ zyQ hg args) zaa)) (zab (fun e=>e ▸ zCd hg args) zaa))))))) (zab (fun _=>(zab (fun _=>(zab (fun _=>(zab (fun _=>(zab (fun e=>e ▸ zrm hg args) zaa)) (zab (fun _=>(zab (fun e=>e ▸ zsO hg args) zaa)) (zab (fun e=>e ▸ zps hg args) zaa)))) (zab (fun _=>(zab (fun e=>e ▸ zp5 hg args) zaa)) (zab (fun _=>(zab (fun e=>e ▸ zCg hg args) zaa)) (zab (fun e=>e ▸ zvC hg args) zaa))))) (zab (fun _=>(zab (fun _=>(zab (fun e=>e ▸ zsV hg args) zaa)) (zab (fun _=>(zab (fun e=>e ▸ zuB hg args) zaa)) (zab (fun e=>e ▸ zEm hg args) zaa)))) (zab (fun _=>(zab (fun _=>(zab (fun e=>e ▸ zEb hg args) zaa)) (zab (fun e=>e ▸ zho hg args) zaa))) (zab (fun _=>(zab (fun e=>e ▸ zEc hg args) zaa)) (zab (fun e=>e ▸ zrs hg args) zaa)))))) (zab (fun _=>(zab (fun _=>(zab (fun _=>(zab (fun e=>e ▸ zle hg args) zaa)) (zab (fun _=>(zab (fun e=>e ▸ znV hg args) zaa)) (zab (fun e=>e ▸ zrr hg args) zaa)))) (zab (fun _=>(zab (fun _=>(zab (fun e=>e ▸ zuQ hg args) zaa)) (zab (fun e=>e ▸ zvK hg args) zaa))) (zab (fun _=>(zab (fun e=>e ▸ zvL hg args) zaa)) (zab (fun e=>e ▸ zds hg args) zaa))))) (zab (fun _=>(zab (fun _=>(zab (fun e=>e ▸ zvP hg args) zaa)) (zab (fun _=>(zab (fun e=>e ▸ zmr hg args) zaa)) (zab (fun e=>e ▸ zvM hg args) zaa)))) (zab (fun _=>(zab (fun _=>(zab (fun e=>e ▸ zjZ hg args) zaa)) (zab (fun e=>e ▸ zEd hg args) zaa))) (zab (fun _=>(zab (fun e=>e ▸ zFG hg args) zaa)) (zab (fun e=>e ▸ zB9 hg args) zaa)))))))) (zab (fun _=>(zab (fun _=>(zab (fun _=>(zab (fun _=>(zab (fun _=>(zab (fun e=>e ▸ zxl hg args) zaa)) (zab (fun _=>(zab (fun e=>e ▸ zCt hg args) zaa)) (zab (fun e=>e ▸ zyV hg args) zaa)))) (zab (fun _=>(zab (fun e=>e ▸ znA hg args) zaa)) (zab (fun _=>(zab (fun e=>e ▸ zxv hg args) zaa)) (zab (fun e=>e ▸ zFM hg args) zaa))))) (zab (fun _=>(zab (fun _=>(zab (fun e=>e ▸ zsS hg args) zaa)) (zab (fun _=>(zab (fun e=>e ▸ zAm hg args) zaa)) (zab (fun e=>e ▸ zCp hg args) zaa)))) (zab (fun _=>(zab (fun _=>(zab (fun e=>e ▸ zFK hg args) zaa)) (zab (fun e=>e ▸ zEi hg args) zaa))) (zab (fun _=>(zab (fun e=>e ▸ zAv hg args) zaa)) (zab (fun e=>e ▸ zxn hg args) zaa)))))) (zab (fun _=>(zab (fun _=>(zab (fun _=>(zab (fun e=>e ▸ zgj hg args) zaa)) (zab (fun _=>(zab (fun e=>e ▸ zeu hg args) zaa)) (zab (fun e=>e ▸ zxm hg args) zaa)))) (zab (fun _=>(zab (fun _=>(zab (fun e=>e ▸ zCh hg args) zaa)) (zab (fun e=>e ▸ zCc hg args) zaa))) (zab (fun _=>(zab (fun e=>e ▸ zEf hg args) zaa)) (zab (fun e=>e ▸ zlR hg args) zaa))))) (zab (fun _=>(zab (fun _=>(zab (fun e=>e ▸ zAC hg args) zaa)) (zab (fun _=>(zab (fun e=>e ▸ zAn hg args) zaa)) (zab (fun e=>e ▸ zhS hg args) zaa)))) (zab (fun _=>(zab (fun _=>(zab (fun e=>e ▸ zrq hg args) zaa)) (zab (fun e=>e ▸ zja hg args) zaa))) (zab (fun _=>(zab (fun e=>e ▸ zEg hg args) zaa)) (zab (fun e=>e ▸ zAI hg args) zaa))))))) (zab (fun _=>(zab (fun _=>(zab (fun _=>(zab (fun _=>(zab (fun e=>e ▸ zCu hg args) zaa)) (zab (fun _=>(zab (fun e=>e ▸ zyZ hg args) zaa)) (zab (fun e=>e ▸ zyL hg args) zaa)))) (zab (fun _=>(zab (fun _=>(zab (fun e=>e ▸ zpz hg args) zaa)) (zab (fun e=>e ▸ zjb hg args) zaa))) (zab (fun _=>(zab (fun e=>e ▸ zs5 hg args) zaa)) (zab (fun e=>e ▸ zyW hg args) zaa))))) (zab (fun _=>(zab (fun _=>(zab (fun e=>e ▸ zdS hg args) zaa)) (zab (fun _=>(zab (fun e=>e ▸ znB hg args) zaa)) (zab (fun e=>e ▸ zgk hg args) zaa)))) (zab (fun _=>(zab (fun _=>(zab (fun e=>e ▸ zAw hg args) zaa)) (zab (fun e=>e ▸ zyK hg args) zaa))) (zab (fun _=>(zab (fun e=>e ▸ zuR hg args) zaa)) (zab (fun e=>e ▸ zAl hg args) zaa)))))) (zab (fun _=>(zab (fun _=>(zab (fun _=>(zab (fun e=>e ▸ zvO hg args) zaa)) (zab (fun _=>(zab (fun e=>e ▸ zj0 hg args) zaa)) (zab (fun e=>e ▸ zi1 hg args) zaa)))) (zab (fun _=>(zab (fun _=>(zab (fun e=>e ▸ zfF hg args) zaa)) (zab (fun e=>e ▸ zux hg args) zaa))) (zab (fun _=>(zab (fun e=>e ▸ ze6 hg args) zaa)) (zab (fun e=>e ▸ zAx hg args) zaa))))) (zab (fun _=>(zab (fun _=>(zab (fun e=>e ▸ zCe hg args) zaa)) (zab (fun _=>(zab (fun e=>e ▸ zeQ hg args) zaa)) (zab (fun e=>e ▸ zyO hg args) zaa)))) (zab (fun _=>(zab (fun _=>(zab (fun e=>e ▸ zyN hg args) zaa)) (zab (fun e=>e ▸ zAJ hg args) zaa))) (zab (fun _=>(zab (fun e=>e ▸ zkP hg args) zaa)) (zab (fun e=>e ▸ zfE hg args) zaa)))))))))
def cs:Nat → Sem'
 | 0=>fun _ _=>M.fail
 | n + 1=>disp (cs n)
theorem sims_cs:∀ n,Sims (cs n) (sem T)
 | 0=>fun _ _=>zaa
 | n + 1=>zFr (sims_cs n)
end Go.Ax.Cc
/- Dk17 -/
namespace Go.Ax.SU
open Go.Ax
def zT:Tb:=⟨List.replicate 8 false,List.replicate 8 0⟩
def pre1:Option (V × Cc.Heap):=Cc.cs 80 ze0 [] ⟨.e,0⟩
def pre2:Option (V × V × Cc.Heap):=pre1.bind fun q=>(Cc.cs 80 zbr [] q.2).map fun r=>(q.1,r.1,r.2)
end Go.Ax.SU
/- De11 -/
namespace Go.Ax.SU
open Go.Ax
def incr:List Nat → Bool
 | []=>true
 | a :: l=>l.all (fun b=>decide (a < b)) && incr l
def dist:List Nat → Bool
 | []=>true
 | a :: l=>l.all (fun b=>decide (a ≠ b)) && dist l
theorem incr_pw:∀ {l:List Nat},incr l = true → l.Pairwise (· < ·):=by
 intro l
 induction l with
 | nil=>exact fun _=>List.Pairwise.nil
 | cons a l ih =>
  intro h;simp only [incr,Bool.and_eq_true,List.all_eq_true,decide_eq_true_eq] at h;exact List.Pairwise.cons h.1 (ih h.2)
theorem dist_pw:∀ {l:List Nat},dist l = true → l.Pairwise (· ≠ ·):=by
 intro l
 induction l with
 | nil=>exact fun _=>List.Pairwise.nil
 | cons a l ih =>
  intro h;simp only [dist,Bool.and_eq_true,List.all_eq_true,decide_eq_true_eq] at h;exact List.Pairwise.cons h.1 (ih h.2)
theorem zvi {R:Nat → Nat → Prop} {n a b:Nat} (h:(List.range n).Pairwise R) (hab:a < b) (hb:b < n):R a b:=by
 have:=List.pairwise_iff_getElem.1 h a b (by rw [List.length_range]; omega) (by rw [List.length_range]; exact hb) hab;simpa using this
def zqc:Option V → Nat | some (V.ptr p 0)=>p | _=>0
def zsN:Option Blk → V | some ⟨_,[_,lv],_⟩=>lv | _=>.undef
def zFT (h : Cc.Heap) (lo : Nat) (o : Option V) : Bool :=
  match o with
  | some (V.ptr p 0) =>
    match h.get p with
    | some ⟨tp, [V.int .i64 n, lv], none⟩ => decide (p < lo) && (decide (tp = tyPo) && (decide (n = 32) &&
      (match lv with
       | V.nils => true
       | V.sl id off 0 (.opn 3) => (match h.get id with | some ⟨ty, cs, some 3⟩ => decide (ty = tyOu) && (decide (cs.length = off) && (decide (lo ≤ id) && decide (id < h.next))) | _ => false)
       | _ => false)))
    | _ => false
  | _ => false
theorem zFS {h:Cc.Heap} {lo:Nat} {o:Option V} (hp:zFT h lo o = true):o = some (.ptr (zqc o) 0) ∧ zqc o < lo ∧ h.abs.get (zqc o) = some ⟨tyPo,[.int .i64 32,zsN (h.get (zqc o))],none⟩ ∧ Apo tyOu 3 lo h.abs (zsN (h.get (zqc o))) [] 0:=by
 unfold zFT at hp;split at hp
 case h_2=>cases hp
 rename_i o p;split at hp
 case h_2=>cases hp
 rename_i tp n lv hg;simp only [Bool.and_eq_true,decide_eq_true_eq] at hp;obtain ⟨h1,h2,h3,hp⟩:=hp;subst h2 h3;have hg':h.abs.get p = some ⟨tyPo,[.int .i64 32,lv],none⟩:=hg;refine ⟨rfl,h1,?_⟩;show h.abs.get p = some ⟨tyPo,[.int .i64 32,zsN (h.get p)],none⟩ ∧ Apo tyOu 3 lo h.abs (zsN (h.get p)) [] 0;rw [hg];refine ⟨hg',?_⟩;show Apo tyOu 3 lo h.abs lv [] 0;split at hp
 ·exact Apo.nil
 ·rename_i id off;split at hp
  case h_2=>cases hp
  rename_i ty cs hi;simp only [Bool.and_eq_true,decide_eq_true_eq] at hp;obtain ⟨k1,k2,k3,k4⟩:=hp;subst k1;have:=Apo.mid (ty:=tyOu) (e:=3) (lo:=lo) (H:=h.abs) (id:=id) (off:=off) (n:=0) (cs:=cs) hi (by omega) k3 k4;rw [List.drop_of_length_le (by omega)] at this;exact this
 ·cases hp
def deskB (h:Cc.Heap) (D:List V) (d C cs lo:Nat):Bool :=
 decide (lo ≤ h.next) && (decide (d < lo) && (decide (C < lo) && (decide (cs < lo) && (decide (d ≠ cs) && (decide (C ≠ cs) && (decide (d ≠ C) &&
  (((List.range 64).all fun a=>zFT h lo (D.drop 1470)[a]?) && (((List.range 64).all fun a=>decide (zqc (D.drop 1470)[a]? ≠ d) && (decide (zqc (D.drop 1470)[a]? ≠ C) && decide (zqc (D.drop 1470)[a]? ≠ cs))) &&
  (incr ((List.range 64).map fun a=>zqc (D.drop 1470)[a]?) && dist ((List.range 64).filterMap fun a=>(zsN (h.get (zqc (D.drop 1470)[a]?))).pid))))))))))
def deskA (rm : Nat → Rm) (h : Cc.Heap) (v : V) : Bool :=
  match v with
  | V.ptr d 0 =>
    match h.get d with
    | some ⟨ty, D, none⟩ => decide (ty = tyDk) && (decide (D.length = 1535) && (((List.range 4).all fun i => Cc.sames ((D.drop (i * 367)).take 39) (rC (rm i))) &&
      (match (D.drop 1468)[0]?, (D.drop 1468)[66]? with
       | some (V.int .i64 0), some (V.ptr C 0) =>
         match h.get C with
         | some ⟨tc, [V.sl cs 0 11 _], none⟩ =>
           match h.get cs with
           | some ⟨ta, ns, _⟩ => decide (tc = zk8) && (decide (ta = zfH) && (Cc.sames ns ((List.replicate 11 0).map c64) &&
               deskB h D d C cs (zqc (D.drop 1468)[65]? + 1)))
           | _ => false
         | _ => false
       | _, _ => false)))
    | _ => false
  | _ => false
theorem deskA_da {rm:Nat → Rm} (hrm:∀ i,i < 4 → RmO (rm i)) {h:Cc.Heap} {v:V} (hd:deskA rm h v = true):∃ K L,v = .ptr K.d 0 ∧ DW K h.abs L rm (fun _=>[]) (List.replicate 11 0) 0:=by
 unfold deskA at hd;split at hd
 case h_2=>cases hd
 rename_i d;split at hd
 case h_2=>cases hd
 rename_i ty D hg;simp only [Bool.and_eq_true,decide_eq_true_eq] at hd;obtain ⟨h1,h2,h3,hd⟩:=hd;subst h1;split at hd
 case h_2=>cases hd
 rename_i C hnow hC0;split at hd
 case h_2=>cases hd
 rename_i tc cs cap hC;split at hd
 case h_2=>cases hd
 rename_i ta ns o hcs;unfold deskB at hd;simp only [Bool.and_eq_true,decide_eq_true_eq] at hd;obtain ⟨e3,e4,e5,l0,l1,l2,l3,n1,n2,n3,hpo,hne,hinc,hdis⟩:=hd;have e5:=Cc.sames_eq e5;subst e3 e4 e5;generalize hlo:zqc (D.drop 1468)[65]? + 1 = lo at *;have hp:∀ a,a < 64 → _:=fun a ha=>zFS (List.all_eq_true.1 hpo a (List.mem_range.2 ha));have hn:∀ a,a < 64 → _:=fun a ha=>List.all_eq_true.1 hne a (List.mem_range.2 ha);have pi:=(List.pairwise_map.1 (incr_pw hinc));have pd:=(List.pairwise_filterMap.1 (dist_pw hdis));refine ⟨⟨lo,d,C,cs,fun a=>zqc (D.drop 1470)[a]?⟩,fun a=>zsN (h.get (zqc (D.drop 1470)[a]?)),rfl,D,fun _=>[],⟨hg,h2,fun i hi=>⟨Cc.sames_eq (List.all_eq_true.1 h3 i (List.mem_range.2 hi)),hrm i hi⟩,?_,fun a ha=>?_,?_,⟨⟨cap,hC⟩,⟨o,hcs⟩,rfl,by decide⟩,⟨l0,fun a ha=>(hp a ha).2.1,?_,fun a ha=>(hp a ha).2.2.1,fun a ha=>(hp a ha).2.2.2,fun a ha=>by simp,?_,fun a ha e he=>by simp at he⟩,l1,l2,l3,n1,n2,n3,fun a ha=>?_⟩,fun b=>rfl⟩
 ·rw [List.getElem?_drop] at hnow;exact hnow
 ·have:=(hp a ha).1;show D[1470 + a]? = some (.ptr (zqc (D.drop 1470)[a]?) 0);rw [← this,List.getElem?_drop]
 ·rw [List.getElem?_drop] at hC0;exact hC0
 ·intro a b ha hb e;rcases Nat.lt_trichotomy a b with h | h | h
  ·have:=zvi pi h hb;dsimp only at e;omega
  ·exact h
  ·have:=zvi pi h ha;dsimp only at e;omega
 ·intro a b i ha hb hab hi hi';rcases Nat.lt_trichotomy a b with h | h | h
  ·exact zvi pd h hb i hi i hi' rfl
  ·exact hab h
  ·exact zvi pd h ha i hi' i hi rfl
 ·have:=hn a ha;simp only [Bool.and_eq_true,decide_eq_true_eq] at this;exact this
def rmZ:Rm:=⟨zT,0,false,0,0,0,0,List.replicate 8 0,List.replicate 8 0,false⟩
theorem rmZ_o:RmO rmZ:=⟨⟨rfl,rfl⟩,rfl,rfl⟩
end Go.Ax.SU
/- De12 -/
namespace Go.Ax.SU
open Go.Ax
def jn (v:V) (a r:Nat) (h:Cc.Heap):Option Cc.Heap:=(Cc.cs 80 zaY [v,.int .i64 (a:Nat),.int .i64 (r:Nat)] h).bind fun q=>match q.1 with | .tup [_,.bool true]=>some q.2 | _=>none
def tk (v:V) (a:Nat) (h:Cc.Heap):Option Cc.Heap:=(Cc.cs 80 zau [v,.agg [.int .i64 5,.int .i64 (a:Nat),.int .i64 32,.nils]] h).map (·.2)
def chain (f:Nat → Cc.Heap → Option Cc.Heap):Nat → Cc.Heap → Option Cc.Heap
 | 0,h=>some h
 | n + 1,h=>(chain f n h).bind (f n)
theorem jn_eq {v:V} {a r:Nat} {h h':Cc.Heap} (e:jn v a r h = some h'):∃ s,sem T zaY [v,.int .i64 (a:Nat),.int .i64 (r:Nat)] h.abs = some (.tup [s,.bool true],h'.abs):=by
 unfold jn at e;rw [Option.bind_eq_some_iff] at e;obtain ⟨⟨r1,h1⟩,e1,e2⟩:=e;dsimp only at e2;split at e2
 ·rename_i s;injection e2 with e2
  subst e2;exact ⟨s,Cc.sims_cs 80 _ _ _ _ _ e1⟩
 ·cases e2
theorem tk_eq {v:V} {a:Nat} {h h':Cc.Heap} (e:tk v a h = some h'):∃ s,sem T zau [v,.agg [.int .i64 5,.int .i64 (a:Nat),.int .i64 32,.nils]] h.abs = some (s,h'.abs):=by
 unfold tk at e;rw [Option.map_eq_some_iff] at e;obtain ⟨⟨r1,h1⟩,e1,e2⟩:=e;subst e2;exact ⟨r1,Cc.sims_cs 80 _ _ _ _ _ e1⟩
theorem zDD {f:Nat → Cc.Heap → Option Cc.Heap} {R:Nat → Heap → Heap → Prop} (hf:∀ i h h',f i h = some h' → R i h.abs h'.abs):∀ {n:Nat} {h h':Cc.Heap},chain f n h = some h' → ∃ J:Nat → Heap,J 0 = h.abs ∧ J n = h'.abs ∧ ∀ i,i < n → R i (J i) (J (i + 1)):=by
 intro n
 induction n with
 | zero =>
  intro h h' e;injection e with e
  exact ⟨fun _=>h.abs,rfl,by rw [e],fun i hi=>by omega⟩
 | succ n ih =>
  intro h h' e;unfold chain at e;rw [Option.bind_eq_some_iff] at e;obtain ⟨h1,e1,e2⟩:=e;obtain ⟨J,j0,jn,jr⟩:=ih e1;refine ⟨fun i=>if i ≤ n then J i else h'.abs,by dsimp only; rw [if_pos (by omega)]; exact j0,by dsimp only; rw [if_neg (by omega)],fun i hi=>?_⟩;dsimp only;by_cases hin:i < n
  ·rw [if_pos (by omega),if_pos (by omega)];exact jr i hin
  ·have:i = n:=by omega
   subst this;rw [if_pos (by omega),if_neg (by omega),jn];exact hf _ _ _ e2
def preJ (a r n:Nat) (rm:Nat → Rm):Bool :=
 match pre2 with
 | some (v,V.bool true,h)=>(match (chain (fun i=>jn v (a + i) r) n h).bind (chain (fun i=>tk v (a + i)) n) with | some h'=>deskA rm h' v | none=>false)
 | _=>false
theorem preJ_da {a r n:Nat} {rm:Nat → Rm} (hrm:∀ i,i < 4 → RmO (rm i)) (h:preJ a r n rm = true):∃ K L H1,∃ J J':Nat → Heap,sem T ze0 [] H0 = some (.ptr K.d 0,H1) ∧ sem T zbr [] H1 = some (.bool true,J 0) ∧
  (∀ i,i < n → ∃ s,sem T zaY [.ptr K.d 0,.int .i64 (a + i:Nat),.int .i64 (r:Nat)] (J i) = some (.tup [s,.bool true],J (i + 1))) ∧ J n = J' 0 ∧
  (∀ i,i < n → ∃ s,sem T zau [.ptr K.d 0,.agg [.int .i64 5,.int .i64 (a + i:Nat),.int .i64 32,.nils]] (J' i) = some (s,J' (i + 1))) ∧ DW K (J' n) L rm (fun _=>[]) (List.replicate 11 0) 0:=by
 unfold preJ at h;split at h
 case h_2=>cases h
 rename_i v hh hp;unfold pre2 at hp;rw [Option.bind_eq_some_iff] at hp;obtain ⟨⟨v1,h1⟩,hp1,hp2⟩:=hp;rw [Option.map_eq_some_iff] at hp2;obtain ⟨⟨v2,h2⟩,hp2,e⟩:=hp2;injection e with e1 e
 injection e with e2 e3
 dsimp only at e1 e2 e3 hp2;subst e1 e2 e3;split at h
 case h_2=>cases h
 rename_i h3 hc;rw [Option.bind_eq_some_iff] at hc;obtain ⟨h4,c1,c2⟩:=hc;obtain ⟨K,L,rfl,hda⟩:=deskA_da hrm h;obtain ⟨J,j0,jn,jr⟩:=zDD (R:=fun i H H'=>∃ s,sem T zaY [.ptr K.d 0,.int .i64 (a + i:Nat),.int .i64 (r:Nat)] H = some (.tup [s,.bool true],H')) (fun i h h' e=>jn_eq e) c1;obtain ⟨J',j0',jn',jr'⟩:=zDD (R:=fun i H H'=>∃ s,sem T zau [.ptr K.d 0,.agg [.int .i64 5,.int .i64 (a + i:Nat),.int .i64 32,.nils]] H = some (s,H')) (fun i h h' e=>tk_eq e) c2;refine ⟨K,L,h1.abs,J,J',Cc.sims_cs 80 _ _ _ _ _ hp1,?_,jr,jn.trans j0'.symm,jr',by rw [jn']; exact hda⟩;rw [j0];exact Cc.sims_cs 80 _ _ _ _ _ hp2
def rmK0:Rm:=⟨⟨[true,true,true,false,false,false,false,false],[10,11,12,0,0,0,0,0]⟩,0,false,0,0,0,0,List.replicate 8 0,List.replicate 8 0,false⟩
def rmK (i:Nat):Rm:=if i = 0 then rmK0 else rmZ
theorem pre_K:preJ 10 0 3 rmK = true:=by kernel_rfl
end Go.Ax.SU
/- De13 -/
namespace Go.Ax.SU
open Go.Ax
theorem zwV (x:Nt):zee x = x.k.toNat :: x.r.toNat :: x.s.toNat :: (x.e.toNat / 256 % 256) :: (x.e.toNat % 256) :: (x.n.toNat / 256 % 256) :: (x.n.toNat % 256) :: (x.m.toNat / 256 % 256) :: (x.m.toNat % 256) :: (x.b.length / 256 % 256) :: (x.b.length % 256) :: x.b:=rfl
theorem zzP {x:Nt} (h:zjq x = true) (hb:Ok8 x.b):Ok8 (zee x):=by
 obtain ⟨⟨_,h1⟩,⟨_,h2⟩,⟨_,h3⟩,_⟩:=zv9 h;rw [zwV];intro y hy;simp only [List.mem_cons] at hy;rcases hy with h | h | h | h | h | h | h | h | h | h | h | h
 all_goals first | exact hb y h | omega
theorem zs8 {x:Nt} (h:zjq x = true):rawN (zee x) = x ∧ twoB (zee x) 9 = (zee x).length - 11 ∧ (zee x).drop 11 = x.b:=by
 obtain ⟨⟨h1,h1'⟩,⟨h2,h2'⟩,⟨h3,h3'⟩,⟨h4,h4'⟩,⟨h5,h5'⟩,⟨h6,h6'⟩,h7⟩:=zv9 h;have hl:=zj7 x;refine ⟨?_,?_,rfl⟩
 ·rw [zwV];unfold rawN twoB;obtain ⟨k,r,s,e,n,m,b⟩:=x;dsimp only at *;simp only [List.getD_cons_succ,List.getD_cons_zero,List.drop_succ_cons,List.drop_zero,Nt.mk.injEq,and_true];refine ⟨by omega,by omega,by omega,by omega,by omega,by omega⟩
 ·rw [hl];rw [zwV];unfold twoB;simp only [List.getD_cons_succ,List.getD_cons_zero];omega
theorem zAO {x:Nt} (h:zjq x = true):zpL (zee x) = 0:=by
 obtain ⟨h1,h2,h3⟩:=zs8 h;have h7:=(zv9 h).2.2.2.2.2.2;have hl:=zj7 x;unfold zpL;rw [h1,h2,hl,h,if_neg (by omega),if_neg (by omega),if_neg (by omega),if_neg (by omega),if_neg (by decide)]
theorem zvk {k s e n:Nat} {b:List Nat} (hk:k = 7 ∨ k = 21) (hs:s < 8) (he:e ≤ 65535) (hn:n < 32) (hb0:b ≠ []) (hb2:b.length ≤ 200):zjq ⟨(k:Nat),(0:Nat),(s:Nat),(e:Nat),(n:Nat),(0:Nat),b⟩ = true:=by
 have hbl:0 < b.length:=by
  rcases b with _ | ⟨x,l⟩
  ·exact absurd rfl hb0
  ·simp
 rcases hk with rfl | rfl
 all_goals
  have eb:bnd 7 = ([0,7,65535,31,0,1,200],true) ∧ bnd 21 = ([0,7,65535,31,0,1,200],true):=⟨rfl,rfl⟩;unfold zjq;dsimp only;simp only [Int.cast_ofNat_Int,eb.1,eb.2,List.getD_cons_succ,List.getD_cons_zero,Bool.and_eq_true,decide_eq_true_eq,Bool.not_eq_true',decide_eq_false_iff_not];refine ⟨trivial,⟨by omega,by omega⟩,⟨by omega,by omega⟩,⟨by omega,by omega⟩,⟨by omega,by omega⟩,⟨by omega,by omega⟩,by omega,by omega,?_⟩;rw [if_neg (by decide)]
theorem zAZ {e k:Int} (he:1 ≤ e ∧ e ≤ 13) (hk:0 ≤ k ∧ k ≤ 9):zjq (noX e k) = true:=by
 have eb:bnd 18 = ([0,0,0,13,9,0,0],true):=rfl;unfold zjq noX;dsimp only;simp only [eb,List.getD_cons_succ,List.getD_cons_zero,Bool.and_eq_true,decide_eq_true_eq,Bool.not_eq_true',decide_eq_false_iff_not,List.length_nil,if_true];refine ⟨trivial,⟨by omega,by omega⟩,⟨by omega,by omega⟩,⟨by omega,by omega⟩,⟨by omega,by omega⟩,⟨by omega,by omega⟩,by omega,by omega,?_⟩;omega
end Go.Ax.SU
/- De14 -/
namespace Go.Ax.SU
open Go.Ax
theorem zFE {lo lo':Nat} {H:Heap} {u v:V} {a b:List Nat} (hu:By lo H u a) (hv:By lo' H v b) (ha:Ok8 a) (hb:Ok8 b):Ok (sem T zec [u,v]) H fun r H'=>r = .bool (decide (a = b)) ∧ H' = H:=by
 refine znY ?_;unfold zjS uB;refine zAT hu.rc ?_;refine zAT hv.rc ?_;refine zf0 (v:=.bool (decide (a = b))) ?_ ?_
 ·show some (V.bool _) = _;rw [zDE ha hb]
 ·exact znX ⟨_,rfl,rfl,rfl⟩
theorem zBO {a n:Nat} {K:Kd} {H:Heap} {L:Nat → V} {rm:Nat → Rm} {Q:Nat → List Ot} {ns:List Nat} {nw:Int} (hh:DW K H L rm Q ns nw) (ha:a < 64) (hn:n ≤ 32) :
  Ok (sem T zau [.ptr K.d 0,.agg [.int .i64 5,.int .i64 (a:Nat),.int .i64 (n:Nat),.nils]]) H fun r H'=>∃ v,r = .tup [v,.int .i64 0] ∧ ∃ (l:List (V × Ot)) (L':Nat → V),Lc 3 H.next H' v ((l.map oC).flatten) l.length ∧ l.map (·.2) = (Q a).take n ∧ (∀ e ∈ l,By K.lo H' e.1 e.2.b) ∧ FrD K.lo L L' H H' ∧ DW K H' L' rm (upd Q a ((Q a).drop n)) ns nw:=by
 refine zE9 (Q:=fun v H'=>∃ (l:List (V × Ot)) (L':Nat → V),Lc 3 H.next H' v ((l.map oC).flatten) l.length ∧ l.map (·.2) = (Q a).take n ∧ (∀ e ∈ l,By K.lo H' e.1 e.2.b) ∧ FrD K.lo L L' H H' ∧ DW K H' L' rm (upd Q a ((Q a).drop n)) ns nw) ha hn rfl rfl fun H1 s1=>?_;refine zfq (zDY (hh.grow s1) ha hn) ?_;rintro v H2 ⟨l,x,h1,h2,h3,h4,h5⟩;exact ⟨l,_,Lc.low h1 s1.next,h2,h3,(s1.frD _ _).trans h4,h5⟩
def rtK (a b e:Nat):Bool:=decide (b < 3) && (decide (b ≠ a) && decide (e = 0))
def eK (a b:Nat):Int:=if b = 3 then 6 else if b = a then 1 else 12
def xK (b e st:Nat) (l:List Nat):Nt:=⟨(7:Nat),(0:Nat),(b:Nat),(e:Nat),(st:Nat),(0:Nat),l⟩
def tgK (a b e:Nat):Nat:=if rtK a b e then 10 + b else 10 + a
def yK (a b e st:Nat) (l:List Nat):Nt:=if rtK a b e then keyX a (xK b e st l) else noX (eK a b) 7
def qK (a b e st:Nat) (l:List Nat):Nat → List Ot:=upd (fun _=>[]) (tgK a b e) [⟨(tgK a b e:Nat),2,zee (yK a b e st l)⟩]
theorem rmK_o:∀ i,i < 4 → RmO (rmK i):=by
 intro i hi;unfold rmK;split
 ·exact ⟨⟨rfl,rfl⟩,rfl,rfl⟩
 ·exact rmZ_o
theorem rmK_g:RmG (rmK 0):=by
 refine ⟨rmK_o 0 (by decide),⟨by decide,by decide,fun _=>⟨rfl,rfl,rfl,rfl⟩,fun h=>?_⟩,by decide,by decide,by decide,fun h=>?_,fun h=>?_⟩
 ·exact absurd h (by decide)
 ·exact absurd h (by decide)
 ·exact absurd h (by decide)
theorem whereK {a:Nat} (ha:a < 3):zq7 (fun i=>(rmK i).t) ((10 + a:Nat):Int) = some (0,a):=by
 have:a = 0 ∨ a = 1 ∨ a = 2:=by omega
 rcases this with rfl | rfl | rfl <;> decide
theorem aliveK {a:Nat} (ha:a < 3):zny (rmK 0) ((10 + a:Nat):Int) 0 = rmK 0:=by
 have:a = 0 ∨ a = 1 ∨ a = 2:=by omega
 rcases this with rfl | rfl | rfl <;> rfl
theorem keyE_K {a b e st:Nat} {l:List Nat} (ha:a < 3) (hb:b < 4):keyE (rmK 0) a (xK b e st l) = if rtK a b e then 0 else eK a b:=by
 have hc:comR (rmK 0) = 0:=rfl;have he0:(rmK 0).ep = 0:=rfl;unfold keyE rtK eK xK;dsimp only;rw [hc,he0,Int.toNat_natCast];by_cases h3:b = 3
 ·subst h3;have hu:(rmK 0).t.uG 3 = false:=rfl;rw [hu];rfl
 ·have hu:(rmK 0).t.uG b = true:=by
   have:b = 0 ∨ b = 1 ∨ b = 2:=by omega
   rcases this with rfl | rfl | rfl <;> rfl
  rw [hu,if_neg (by decide),if_neg h3];by_cases hab:b = a
  ·rw [if_pos (by omega),if_pos hab,decide_eq_false (not_not_intro hab)];simp
  ·rw [if_neg (by omega),if_neg hab,decide_eq_true (by omega:b < 3),decide_eq_true hab];by_cases he:e = 0
   ·subst he;simp
   ·have he':((e:Nat):Int) ≠ 0:=by omega
    rw [if_pos ⟨he',he'⟩,decide_eq_false he];rfl
theorem zF7 {lb a b e st:Nat} {K:Kd} {H:Heap} {L:Nat → V} {l:List Nat} {bv:V} (hh:DW K H L rmK (fun _=>[]) (List.replicate 11 0) 0) (ha:a < 3) (hb:b < 4) (he:e < 3) (hst:st < 32) (hl0:l ≠ []) (hl2:l.length ≤ 200) (h8:Ok8 l) (hbv:By lb H bv (zee (xK b e st l))) :
  Ok (sem T zau [.ptr K.d 0,.agg [.int .i64 2,.int .i64 (10 + a:Nat),.int .i64 0,bv]]) H fun r H'=>r = .tup [.nils,.int .i64 0] ∧ ∃ L',FrD K.lo L L' H H' ∧ DW K H' L' rmK (qK a b e st l) (List.replicate 11 0) 0:=by
 have hg:=zvk (k:=7) (s:=b) (e:=e) (n:=st) (b:=l) (.inl rfl) (by omega) (by omega) hst hl0 hl2;obtain ⟨r1,r2,r3⟩:=zs8 hg;have p0:=zAO hg;have b8:=zzP hg h8;have hbl:=zj7 (xK b e st l);have vc:=hbv.cells1;have vo:=hbv.okc;refine zFa (a:=10 + a) 0 (Q:=fun H'=>∃ L',FrD K.lo L L' H H' ∧ DW K H' L' rmK (qK a b e st l) (List.replicate 11 0) 0) (by omega) vc vo fun H1 s1=>?_;have hx:rawN (zee (xK b e st l)) = xK b e st l:=r1;refine zfq (note7_ok (a:=10 + a) (c:=10 + b) (i:=0) (s:=a) (hh.grow s1) (hbv.ext s1) b8 (by rw [hbl]; show 11 + l.length ≤ 1000000; omega) p0 (by rw [hx]; rfl) (by omega) (whereK ha) (by omega) (by omega) rmK_g ?_ ?_ ?_ (aliveK ha) (by decide)) ?_
 ·rw [hx]; show (0:Int) ≤ (b:Nat); omega
 ·rw [hx]; show ((b:Nat):Int) < 8; omega
 ·rw [hx];intro hu;have hb3:b ≠ 3:=fun h=>by subst h; exact absurd (show (rmK 0).t.uG 3 = true from hu) (by decide)
  refine ⟨?_,by omega⟩;have:b = 0 ∨ b = 1 ∨ b = 2:=by omega
  rcases this with rfl | rfl | rfl <;> rfl
 ·rw [hx,keyE_K ha hb];rintro r H2 ⟨rfl,L',f2,h2⟩;refine ⟨rfl,L',(s1.frD _ _).trans f2,?_⟩;unfold qK yK tgK;have hgl:∀ x:Nt,zjq x = true → ∀ c:Nat,sayE ([]:List Ot) c x = [⟨(c:Nat),2,zee x⟩] ∧ sayN ([]:List Ot) (List.replicate 11 0) x = List.replicate 11 0:=fun x hx c=>by
   unfold sayE sayN zzY zzX;rw [hx];exact ⟨rfl,rfl⟩
  cases hr:rtK a b e with
  | true =>
   rw [hr] at h2;have hg2:zjq (keyX a (xK b e st l)) = true:=zvk (k:=21) (s:=a) (e:=e) (n:=st) (b:=l) (.inr rfl) (by omega) (by omega) hst hl0 hl2;obtain ⟨k1,k2⟩:=hgl _ hg2 (10 + b);simp only [if_true,k1,k2] at h2 ⊢;exact h2
  | false =>
   rw [hr] at h2;have hE:eK a b ≠ 0 ∧ 1 ≤ eK a b ∧ eK a b ≤ 13:=by unfold eK; split <;> (try split) <;> decide
   have hg2:zjq (noX (eK a b) 7) = true:=zAZ hE.2 (by decide);obtain ⟨k1,k2⟩:=hgl _ hg2 (10 + a);simp only [Bool.false_eq_true,if_false,if_neg hE.1,k1,k2] at h2 ⊢;exact h2
end Go.Ax.SU
/- De15 -/
namespace Go.Ax.SU
open Go.Ax
def qkI (Q:Nat → List Ot) (i:Nat):Nat → List Ot:=fun c=>if 10 ≤ c ∧ c < 10 + i then [] else Q c
theorem qkI_0 (Q:Nat → List Ot):qkI Q 0 = Q:=by
 funext c;unfold qkI;rw [if_neg (by omega)]
theorem qkI_at (Q:Nat → List Ot) (i:Nat):qkI Q i (10 + i) = Q (10 + i):=by
 unfold qkI;rw [if_neg (by omega)]
theorem qkI_succ {Q:Nat → List Ot} (i:Nat) (h:(Q (10 + i)).length ≤ 32):upd (qkI Q i) (10 + i) ((qkI Q i (10 + i)).drop 32) = qkI Q (i + 1):=by
 rw [qkI_at,List.drop_of_length_le h];funext c;unfold upd qkI;by_cases hc:c = 10 + i
 ·rw [if_pos hc,if_pos (by omega)]
 ·rw [if_neg hc];by_cases h2:10 ≤ c ∧ c < 10 + i
  ·rw [if_pos h2,if_pos (by omega)]
  ·rw [if_neg h2,if_neg (by omega)]
theorem qK_at (a b e st:Nat) (l:List Nat) (c:Nat):qK a b e st l c = if c = tgK a b e then [⟨(tgK a b e:Nat),2,zee (yK a b e st l)⟩] else []:=rfl
theorem b_unch_v {v:V} {h h':Heap} (hp:∀ id,v.pid = some id → h'.get id = h.get id) {H:Heap} {f:Unit → M Res} {Q:Res → Heap → Prop}:@OkB Unit Res (M.unch v h h') H ⟨f⟩ ⟨Q⟩ ↔ Ok (f ()) H Q:=by
 have e:M.unch v h h' = M.pure ():=by funext H; unfold M.unch; rw [if_pos hp]; rfl
 show Ok ((M.unch v h h').bind f) H Q ↔ _;rw [e]; exact Iff.rfl
theorem DA.keep {k:Nat} {K:Kd} {H H':Heap} {L:Nat → V} {D:List V} {rm:Nat → Rm} {q:Nat → List (V × Ot)} {ns:List Nat} {nw:Int} (h:DA K H L D rm q ns nw) (s:AtS [k] H H') (hk:K.lo ≤ k) (hL:∀ c,c < 64 → (L c).pid ≠ some k) (hE:∀ c,c < 64 → ∀ e ∈ q c,e.1.pid ≠ some k):DA K H' L D rm q ns nw:=by
 have h1:=h.pm.top;have h2:=h.dl;have h3:=h.Cl;have h4:=h.cl;obtain ⟨cap,g1⟩:=h.cm.hd;obtain ⟨o,g2⟩:=h.cm.bd;have same:∀ i,i < H.next → i ≠ k → H'.get i = H.get i:=fun i hi hik=>s.same i hi (by simp; exact hik);refine { h with blk:=(same K.d (by omega) (by omega)).trans h.blk,cm:=⟨⟨cap,(same K.C (by omega) (by omega)).trans g1⟩,⟨o,(same K.cs (by omega) (by omega)).trans g2⟩,h.cm.len,h.cm.small⟩,pm:=⟨Nat.le_trans h1 s.next,h.pm.low,h.pm.inj,fun a ha=>(same _ (by have:=h.pm.low a ha; omega) (by have:=h.pm.low a ha; omega)).trans (h.pm.blk a ha),fun a ha=>(h.pm.app a ha).to (fun i hi=>same i ((h.pm.app a ha).lc.own i hi).2 fun e=>hL a ha (e ▸ hi)) s.next,h.pm.le,h.pm.sep,fun a ha e he=>⟨Lc.atS (h.pm.each a ha e he).1 s fun i hi e'=>hE a ha e he (by simp only [List.mem_singleton] at e'; exact e' ▸ hi),(h.pm.each a ha e he).2⟩⟩ }
theorem zF8 {a b e st qn:Nat} {K:Kd} {H:Heap} {L:Nat → V} {l:List Nat} {tv:V} (hh:DW K H L rmK (qK a b e st l) (List.replicate 11 0) 0) (ha:a < 3) (hb:b < 4) (he:e < 3) (hst:st < 32) (hl0:l ≠ []) (hl2:l.length ≤ 200) (h8:Ok8 l) (htv:Ar by8 tv l) (hqn:K.lo ≤ qn) (hqn':qn < H.next) (hqL:∀ c,c < 64 → (L c).pid ≠ some qn) (hg:H.get qn = some ⟨zac,nC (xK b e st l) tv,none⟩) :
  Ok (M.iter (zcE (sem T) (.ptr K.d 0) (.int .i64 (b:Nat)) (.ptr qn 0) (.bool (rtK a b e)) (.int .i64 (a:Nat))) [.int .i64 0]) H fun r H'=>r = .ex 4 []:=by
 have hgK:=zvk (k:=7) (s:=b) (e:=e) (n:=st) (b:=l) (.inl rfl) (by omega) (by omega) hst hl0 hl2;have tc:tv.cells = [tv]:=(htv.lc (H:=H) 0).cells1;have to':tv.okc = true:=(htv.lc (H:=H) 0).okc;refine zjc (fun i L0 H'=>L0 = [.int .i64 (i:Nat)] ∧ qn < H'.next ∧ ∃ L',DW K H' L' rmK (qkI (qK a b e st l) i) (List.replicate 11 0) 0 ∧ (∀ c,c < 64 → (L' c).pid ≠ some qn) ∧ (i ≤ b → H'.get qn = some ⟨zac,nC (xK b e st l) tv,none⟩)) 3 ?_ ?_ ?_
 ·refine ⟨rfl,hqn',L,?_,hqL,fun _=>hg⟩;rw [qkI_0];exact hh
 ·rintro i _ H1 hi ⟨rfl,q1,L1,h1,hL1,hg1⟩;have d1:decide (((i:Nat):Int) < 3) = true:=decide_eq_true (by omega);have d1':decide (i < 3) = true:=decide_eq_true hi;have w0:IntKind.i64.wrap (10 + ((i:Nat):Int)) = ((10 + i:Nat):Int):=by rw [wrap_i64 (by omega) (by omega)]; omega
  have w1:IntKind.i64.wrap (((i:Nat):Int) + 1) = ((i + 1:Nat):Int):=by rw [wrap_i64 (by omega) (by omega)]; omega
  have hlen:(qK a b e st l (10 + i)).length ≤ 32:=by rw [qK_at]; split <;> simp
  unfold zcE uL uT uF uFM uE uB uI uG uH uO uU uc ug;simp (maxSteps:=1000000) (disch:=first | omega | (simp only [RY] <;> omega) | decide) only [↓RD,RZ,eq_self,Int.reduceToNat,Int.reduceAdd,Int.reduceSub,Int.reduceMul,Nat.reduceAdd,Nat.reduceSub,Nat.reduceMul,Nat.reduceDiv,Nat.reduceMod,Nat.reduceBEq,Nat.reduceLeDiff,d1,d1',w0];refine zaM (zBO (a:=10 + i) (n:=32) h1 (by omega) (by omega)) ?_;rintro _ H2 ⟨v,rfl,l2,L2,hv,hl,hbs,f2,h2⟩;rw [qkI_succ i hlen] at h2;rw [qkI_at,List.take_of_length_le hlen,qK_at] at hl;have hvl:=hv.vlen;have n2:=f2.next;have hL2:∀ c,c < 64 → (L2 c).pid ≠ some qn:=fun c hc e'=>by
   rcases f2.own c qn hc e' with h | ⟨b',hb',h⟩
   ·omega
   ·exact hL1 b' hb' h
  have hg2:i ≤ b → H2.get qn = some ⟨zac,nC (xK b e st l) tv,none⟩:=fun hib=>(f2.same qn hqn q1 hL1).trans (hg1 hib);have fin:∀ H3,Grow H2 H3 → ([V.int .i64 (((i + 1:Nat)):Int)]:List V) = [.int .i64 ((i + 1:Nat):Int)] ∧ qn < H3.next ∧ ∃ L',DW K H3 L' rmK (qkI (qK a b e st l) (i + 1)) (List.replicate 11 0) 0 ∧ (∀ c,c < 64 → (L' c).pid ≠ some qn) ∧ (i + 1 ≤ b → H3.get qn = some ⟨zac,nC (xK b e st l) tv,none⟩):=fun H3 s3=>⟨rfl,by have:=s3.next; omega,L2,h2.grow s3,hL2,fun hib=>(s3.same qn (by omega)).trans (hg2 (by omega))⟩;cases hr:rtK a b e with
  | true =>
   have htg:tgK a b e = 10 + b:=by unfold tgK; rw [hr]; rfl
   have hyk:yK a b e st l = keyX a (xK b e st l):=by unfold yK; rw [hr]; rfl
   have hb3:b ≠ a:=by
    unfold rtK at hr;simp only [Bool.and_eq_true,decide_eq_true_eq] at hr;exact hr.2.1
   by_cases hib:i = b
   ·subst hib;rw [htg,if_pos rfl,hyk] at hl;obtain ⟨e1,rfl,he1⟩:∃ e1,l2 = [e1] ∧ e1.2 = ⟨((10 + i:Nat):Int),2,zee (keyX a (xK i e st l))⟩:=by
     rcases l2 with _ | ⟨e1,_ | ⟨e2,l2⟩⟩
     ·simp at hl
     ·exact ⟨e1,rfl,by simpa using hl⟩
     ·simp at hl
    have hgX:zjq (keyX a (xK i e st l)) = true:=zvk (k:=21) (s:=a) (e:=e) (n:=st) (b:=l) (.inr rfl) (by omega) (by omega) hst hl0 hl2;have hX8:Ok8 (zee (keyX a (xK i e st l))):=zzP hgX h8;have hXl:=zj7 (keyX a (xK i e st l));have hb1:=hbs e1 (by simp);rw [he1] at hb1;dsimp only at hb1;have hne:e1.1.pid ≠ some qn:=fun hp=>by
     rcases hb1.cases with ⟨hv0,h0,h0'⟩ | ⟨id,off,cap,bk,hv1,hk,hkl,_⟩ | ⟨cs,hv1,_⟩
     ·omega
     ·rw [hv1] at hp;injection hp with hp
      subst hp;rw [hg2 (Nat.le_refl _)] at hk;injection hk with hk
      subst hk;have:(nC (xK i e st l) tv).length = 7:=rfl;dsimp only at hkl;rw [this] at hkl;have:11 ≤ (zee (keyX a (xK i e st l))).length:=by rw [hXl]; omega
      omega
     ·rw [hv1] at hp; cases hp
    have bi:(((i:Nat):Int) == ((i:Nat):Int)) = true:=by simp
    have gq:=hg2 (Nat.le_refl _);have vl1:(((1:Nat):Int) != 1) = false:=rfl;obtain ⟨p,hp,hpl⟩:=hv.at (i:=0) (by omega) (by simp);rw [zrI (e:=e1) (l:=[]) rfl] at hpl;have hvo:=hv.own;have hvq:v.pid ≠ some qn:=fun h=>by have:=(hvo qn h).1; omega
    have cc2:(oC e1)[2]? = some e1.1:=rfl;have hol:(oC e1).length = 3:=rfl;have hG3:AtS [qn] H2 ((H2.set qn (some ⟨zac,[.int .i64 21,.int .i64 0,.int .i64 (i:Nat),.int .i64 (e:Nat),.int .i64 (st:Nat),.int .i64 0,tv],none⟩)).set qn (some ⟨zac,nC (keyX a (xK i e st l)) tv,none⟩)):=(AtS.set _ (by simp) _).trans (AtS.set _ (by simp) _);have gx:((H2.set qn (some ⟨zac,[.int .i64 21,.int .i64 0,.int .i64 (i:Nat),.int .i64 (e:Nat),.int .i64 (st:Nat),.int .i64 0,tv],none⟩)).set qn (some ⟨zac,nC (keyX a (xK i e st l)) tv,none⟩)).get qn = some ⟨zac,nC (keyX a (xK i e st l)) tv,none⟩:=zcb _ _ _;have s21:splice (nC (xK i e st l) tv) 0 [.int .i64 21] = [.int .i64 21,.int .i64 0,.int .i64 (i:Nat),.int .i64 (e:Nat),.int .i64 (st:Nat),.int .i64 0,tv]:=rfl;have sa:splice [V.int .i64 21,.int .i64 0,.int .i64 (i:Nat),.int .i64 (e:Nat),.int .i64 (st:Nat),.int .i64 0,tv] 2 [.int .i64 (a:Nat)] = nC (keyX a (xK i e st l)) tv:=rfl;have l7:(nC (xK i e st l) tv).length = 7:=rfl;have ll:ldc (some 7) (nC (keyX a (xK i e st l)) tv) 0 = some (.agg (nC (keyX a (xK i e st l)) tv)):=rfl;simp (maxSteps:=1000000) (disch:=first | omega | (simp only [RY] <;> omega) | decide) only [↓RD,RZ,eq_self,Int.reduceToNat,Int.reduceAdd,Int.reduceSub,Int.reduceMul,Nat.reduceAdd,Nat.reduceSub,Nat.reduceMul,Nat.reduceDiv,Nat.reduceMod,Nat.reduceBEq,Nat.reduceLeDiff,bi,gq,l7,s21,sa];generalize (H2.set qn _).set qn _ = H3 at *;have hv3:=Lc.atS hv hG3 fun k hk e'=>by
     simp only [List.mem_singleton] at e';subst e';exact hvq hk
    have hb3':=Lc.atS hb1 hG3 fun k hk e'=>by
     simp only [List.mem_singleton] at e';subst e';exact hne hk
    obtain ⟨p3,hp3,hpl3⟩:=hv3.at (i:=0) (by omega) (by simp);rw [zrI (e:=e1) (l:=[]) rfl] at hpl3;have fa:=@hpl3.fa;have ld:∀ {f:V → M Res} {Q:Res → Heap → Prop},@OkB V Res (mload none (Ax.fa p3 2)) H3 ⟨f⟩ ⟨Q⟩ ↔ Ok (f e1.1) H3 Q:=fun {f Q}=>(hpl3.ld (by omega)).trans (by rw [cc2]; exact Iff.rfl);have v2:((([e1].length:Nat):Int) != 1) = false:=rfl;have htv3:By K.lo H3 tv l:=htv.lc _;generalize e1.1 = bv at *;simp (maxSteps:=1000000) (disch:=first | omega | (simp only [RY] <;> omega) | decide) only [↓RD,RZ,eq_self,Int.reduceToNat,Int.reduceAdd,Int.reduceSub,Int.reduceMul,Nat.reduceAdd,Nat.reduceSub,Nat.reduceMul,Nat.reduceDiv,Nat.reduceMod,Nat.reduceBEq,Nat.reduceLeDiff,hvl,v2,hp3,fa,ld,gx,ll];rw [zgl];refine zaM (zFD (k:=21) (r:=0) (s:=a) (e:=e) (n:=st) (m:=0) (b:=l) htv3 (fun H' hb'=>zGf (.inr rfl) (by omega) (by omega) hst hl0 hl2 hb') (by omega) (by omega) hl2) ?_;rintro r4 H4 ⟨s4,hr4'⟩;have hr4:Ab H3.next H4 r4 (zee (keyX a (xK i e st l))):=hr4';have u1:=@b_unch_v (Ax.fa p3 2) H3 H4 (fun id hid=>by
     rw [hpl3.pid.2 2] at hid;exact s4.same id (hv3.own id hid).2) H4
    simp (maxSteps:=1000000) (disch:=first | omega | (simp only [RY] <;> omega) | decide) only [↓RD,RZ,eq_self,Int.reduceToNat,Int.reduceAdd,Int.reduceSub,Int.reduceMul,Nat.reduceAdd,Nat.reduceSub,Nat.reduceMul,Nat.reduceDiv,Nat.reduceMod,Nat.reduceBEq,Nat.reduceLeDiff,u1];rw [zgl];refine zaM (zFE (hb3'.ext s4) hr4.by hX8 hX8) ?_;rintro _ _ ⟨rfl,rfl⟩;rw [decide_eq_true (show zee (keyX a (xK i e st l)) = zee (keyX a (xK i e st l)) from rfl)];simp (maxSteps:=1000000) (disch:=first | omega | (simp only [RY] <;> omega) | decide) only [↓RD,RZ,eq_self,Int.reduceToNat,Int.reduceAdd,Int.reduceSub,Int.reduceMul,Nat.reduceAdd,Nat.reduceSub,Nat.reduceMul,Nat.reduceDiv,Nat.reduceMod,Nat.reduceBEq,Nat.reduceLeDiff,Bool.not_true,w1];have n3:=hG3.next;have n4:=s4.next;refine ⟨rfl,by omega,L2,DW.grow ?_ s4,hL2,fun h=>by omega⟩;obtain ⟨D,q,hd,hQ⟩:=h2;refine ⟨D,q,hd.keep hG3 hqn hL2 fun c hc e' he'=>?_,hQ⟩;have hq0:(q c).map (·.2) = []:=by
     rw [hQ c];unfold qkI;split
     ·rfl
     ·rw [qK_at,htg,if_neg (by omega)]
    rw [List.map_eq_nil_iff] at hq0;rw [hq0] at he';cases he'
   ·rw [htg,if_neg (by omega)] at hl;have hl2':l2 = []:=by
     rcases l2 with _ | ⟨e1,l2⟩
     ·rfl
     ·cases hl
    subst hl2';have b1:(((i:Nat):Int) == ((b:Nat):Int)) = false:=by simp; omega
    have b1':(i == b) = false:=by simpa using hib
    have v0:(((([]:List (V × Ot)).length:Nat):Int) != 0) = false:=rfl;simp (maxSteps:=1000000) (disch:=first | omega | (simp only [RY] <;> omega) | decide) only [↓RD,RZ,eq_self,Int.reduceToNat,Int.reduceAdd,Int.reduceSub,Int.reduceMul,Nat.reduceAdd,Nat.reduceSub,Nat.reduceMul,Nat.reduceDiv,Nat.reduceMod,Nat.reduceBEq,Nat.reduceLeDiff,hvl,b1,b1',v0,w1,Bool.not_true];exact (fin H2 (Grow.refl _)).2
  | false =>
   have htg:tgK a b e = 10 + a:=by unfold tgK; rw [hr]; rfl
   have hyk:yK a b e st l = noX (eK a b) 7:=by unfold yK; rw [hr]; rfl
   by_cases hia:i = a
   ·subst hia;rw [htg,if_pos rfl,hyk] at hl;obtain ⟨e1,rfl,he1⟩:∃ e1,l2 = [e1] ∧ e1.2 = ⟨((10 + i:Nat):Int),2,zee (noX (eK i b) 7)⟩:=by
     rcases l2 with _ | ⟨e1,_ | ⟨e2,l2⟩⟩
     ·simp at hl
     ·exact ⟨e1,rfl,by simpa using hl⟩
     ·simp at hl
    have hE:eK i b = 1 ∨ eK i b = 6 ∨ eK i b = 12:=by unfold eK; split <;> (try split) <;> decide
    have hgX:zjq (noX (eK i b) 7) = true:=zAZ (by omega) (by decide);have hX8:Ok8 (zee (noX (eK i b) 7)):=zzP hgX (by intro x hx; cases hx);have hXl:=zj7 (noX (eK i b) 7);obtain ⟨r1,r2,r3⟩:=zs8 hgX;have hb1:=hbs e1 (by simp);rw [he1] at hb1;dsimp only at hb1;have bi:(((i:Nat):Int) == ((i:Nat):Int)) = true:=by simp
    have v1:((([e1].length:Nat):Int) != 0) = true:=rfl;have v2:((([e1].length:Nat):Int) != 1) = false:=rfl;have b4:(((i:Nat):Int) != ((i:Nat):Int)) = false:=by simp
    obtain ⟨p,hp,hpl⟩:=hv.at (i:=0) (by omega) (by simp);rw [zrI (e:=e1) (l:=[]) rfl] at hpl;have c2:(oC e1)[2]? = some e1.1:=rfl;have hol:(oC e1).length = 3:=rfl;have fa:=@hpl.fa;have ld:∀ {f:V → M Res} {Q:Res → Heap → Prop},@OkB V Res (mload none (Ax.fa p 2)) H2 ⟨f⟩ ⟨Q⟩ ↔ Ok (f e1.1) H2 Q:=fun {f Q}=>(hpl.ld (by omega)).trans (by rw [c2]; exact Iff.rfl);generalize e1.1 = bv at *;simp (maxSteps:=1000000) (disch:=first | omega | (simp only [RY] <;> omega) | decide) only [↓RD,RZ,eq_self,Int.reduceToNat,Int.reduceAdd,Int.reduceSub,Int.reduceMul,Nat.reduceAdd,Nat.reduceSub,Nat.reduceMul,Nat.reduceDiv,Nat.reduceMod,Nat.reduceBEq,Nat.reduceLeDiff,hvl,v1,v2,b4,bi,hp,fa,ld,Bool.not_false];refine zaM (zE7 hb1 hX8 (by rw [hXl]; omega) r2 (by rw [r2,hXl]; show 11 + 0 - 11 ≤ 200; omega) fun H' lo' v' hv'=>?_) ?_
    ·rw [r1];rw [r3] at hv';exact good_rno hE (by decide) hv'
    ·rintro _ H3 ⟨s3,v3,rfl,hv3⟩;rw [r1];refine zf0 rfl ?_;refine zf0 rfl ?_;refine zlV rfl rfl fun q4 H4 eq g4 s4 n4=>?_;unfold nC noX at g4;simp (maxSteps:=1000000) (disch:=first | omega | (simp only [RY] <;> omega) | decide) only [↓RD,RZ,eq_self,Int.reduceToNat,Int.reduceAdd,Int.reduceSub,Int.reduceMul,Nat.reduceAdd,Nat.reduceSub,Nat.reduceMul,Nat.reduceDiv,Nat.reduceMod,Nat.reduceBEq,Nat.reduceLeDiff,g4,w1];exact ⟨rfl,(fin H4 (s3.trans s4)).2⟩
   ·rw [htg,if_neg (by omega)] at hl;have hl2':l2 = []:=by
     rcases l2 with _ | ⟨e1,l2⟩
     ·rfl
     ·cases hl
    subst hl2';have b1:(((i:Nat):Int) == ((a:Nat):Int)) = false:=by simp; omega
    have b1':(i == a) = false:=by simpa using hia
    have v0:(((([]:List (V × Ot)).length:Nat):Int) != 0) = false:=rfl;simp (maxSteps:=1000000) (disch:=first | omega | (simp only [RY] <;> omega) | decide) only [↓RD,RZ,eq_self,Int.reduceToNat,Int.reduceAdd,Int.reduceSub,Int.reduceMul,Nat.reduceAdd,Nat.reduceSub,Nat.reduceMul,Nat.reduceDiv,Nat.reduceMod,Nat.reduceBEq,Nat.reduceLeDiff,hvl,b1,b1',v0,w1,Bool.not_false];exact (fin H2 (Grow.refl _)).2
 ·rintro _ H1 ⟨rfl,q1,L1,h1,hL1,hg1⟩;unfold zcE uL uT uF uFM uE uB uI uG uH uO uU uc ug;simp (maxSteps:=1000000) (disch:=first | omega | (simp only [RY] <;> omega) | decide) only [↓RD,RZ,eq_self,Int.reduceToNat,Int.reduceAdd,Int.reduceSub,Int.reduceMul,Nat.reduceAdd,Nat.reduceSub,Nat.reduceMul,Nat.reduceDiv,Nat.reduceMod,Nat.reduceBEq,Nat.reduceLeDiff]
theorem zy3 (x m:Nat) (hm:m ≠ 0):Ax.bin .rem (.int .u8 (x:Nat)) (.int .u8 (m:Nat)) = some (.int .u8 (x % m:Nat)):=by
 have h0:¬ ((m:Nat):Int) = 0:=by omega
 have e:((x:Nat):Int).tmod (m:Nat) = ((x % m:Nat):Int):=by rw [Int.tmod_eq_emod_of_nonneg (by omega)]; exact (Int.natCast_emod x m).symm
 simp only [Ax.bin,zhG];rw [if_pos trivial,if_neg h0,e]
theorem keys_ok {f t e st:Nat} {l:List Nat} {v:V} (hf:f < 256) (ht:t < 256) (he:e < 256) (hst:st < 256) (hv:Ar by8 v l) (h8:∀ x ∈ l,x < 256):Ok (sem T zcO [.int .u8 (f:Nat),.int .u8 (t:Nat),.int .u8 (e:Nat),.int .u8 (st:Nat),v]) H0 fun r H'=>r = .bool true:=by
 refine zkS ?_;unfold zgE uL uS uT uB uG uH uO uc ub;obtain ⟨K,L,H1,J,J',hn,haw,hj,hjj,ht',hd⟩:=preJ_da rmK_o pre_K;refine za8 ⟨_,_,hn,?_⟩;refine za8 ⟨_,_,haw,?_⟩;have e1:Ax.eqr .ptr false (.ptr K.d 0) .nilp = some (.bool false):=rfl;simp (maxSteps:=1000000) (disch:=first | omega | (simp only [RY] <;> omega) | decide) only [↓RD,RZ,eq_self,Int.reduceToNat,Int.reduceAdd,Int.reduceSub,Int.reduceMul,Nat.reduceAdd,Nat.reduceSub,Nat.reduceMul,Nat.reduceDiv,Nat.reduceMod,Nat.reduceBEq,Nat.reduceLeDiff,e1];refine zfq (Q:=fun r H'=>r = .ex 0 [] ∧ H' = J 3) ?_ ?_
 ·refine zjc (fun i L0 H'=>L0 = [.int .i64 (i:Nat)] ∧ H' = J i) 3 ?_ ?_ ?_
  ·exact ⟨rfl,rfl⟩
  ·rintro i _ _ hi ⟨rfl,rfl⟩;have d1:decide (((i:Nat):Int) < 3) = true:=decide_eq_true (by omega);have d1':decide (i < 3) = true:=decide_eq_true hi;have w0:IntKind.i64.wrap (10 + ((i:Nat):Int)) = ((10 + i:Nat):Int):=by rw [wrap_i64 (by omega) (by omega)]; omega
   have w1:IntKind.i64.wrap (((i:Nat):Int) + 1) = ((i + 1:Nat):Int):=by rw [wrap_i64 (by omega) (by omega)]; omega
   obtain ⟨s,hs⟩:=hj i hi;unfold zdO uL uE uB uc ug;simp (maxSteps:=1000000) (disch:=first | omega | (simp only [RY] <;> omega) | decide) only [↓RD,RZ,eq_self,Int.reduceToNat,Int.reduceAdd,Int.reduceSub,Int.reduceMul,Nat.reduceAdd,Nat.reduceSub,Nat.reduceMul,Nat.reduceDiv,Nat.reduceMod,Nat.reduceBEq,Nat.reduceLeDiff,d1,d1',w0];refine za8 ⟨_,_,hs,?_⟩;simp (maxSteps:=1000000) (disch:=first | omega | (simp only [RY] <;> omega) | decide) only [↓RD,RZ,eq_self,Int.reduceToNat,Int.reduceAdd,Int.reduceSub,Int.reduceMul,Nat.reduceAdd,Nat.reduceSub,Nat.reduceMul,Nat.reduceDiv,Nat.reduceMod,Nat.reduceBEq,Nat.reduceLeDiff,w1,Bool.not_true]
  ·rintro _ _ ⟨rfl,rfl⟩;unfold zdO uL uE uB uc ug;simp (maxSteps:=1000000) (disch:=first | omega | (simp only [RY] <;> omega) | decide) only [↓RD,RZ,eq_self,Int.reduceToNat,Int.reduceAdd,Int.reduceSub,Int.reduceMul,Nat.reduceAdd,Nat.reduceSub,Nat.reduceMul,Nat.reduceDiv,Nat.reduceMod,Nat.reduceBEq,Nat.reduceLeDiff]
 rintro _ _ ⟨rfl,rfl⟩;simp (maxSteps:=1000000) (disch:=first | omega | (simp only [RY] <;> omega) | decide) only [↓RD,RZ,eq_self,Int.reduceToNat,Int.reduceAdd,Int.reduceSub,Int.reduceMul,Nat.reduceAdd,Nat.reduceSub,Nat.reduceMul,Nat.reduceDiv,Nat.reduceMod,Nat.reduceBEq,Nat.reduceLeDiff];refine zfq (Q:=fun r H'=>r = .ex 2 [] ∧ H' = J' 3) ?_ ?_
 ·refine zjc (fun i L0 H'=>L0 = [.int .i64 (i:Nat)] ∧ H' = J' i) 3 ?_ ?_ ?_
  ·exact ⟨rfl,hjj⟩
  ·rintro i _ _ hi ⟨rfl,rfl⟩;have d1:decide (((i:Nat):Int) < 3) = true:=decide_eq_true (by omega);have d1':decide (i < 3) = true:=decide_eq_true hi;have w0:IntKind.i64.wrap (10 + ((i:Nat):Int)) = ((10 + i:Nat):Int):=by rw [wrap_i64 (by omega) (by omega)]; omega
   have w1:IntKind.i64.wrap (((i:Nat):Int) + 1) = ((i + 1:Nat):Int):=by rw [wrap_i64 (by omega) (by omega)]; omega
   obtain ⟨s,hs⟩:=ht' i hi;unfold zdN uL uB uc ug;simp (maxSteps:=1000000) (disch:=first | omega | (simp only [RY] <;> omega) | decide) only [↓RD,RZ,eq_self,Int.reduceToNat,Int.reduceAdd,Int.reduceSub,Int.reduceMul,Nat.reduceAdd,Nat.reduceSub,Nat.reduceMul,Nat.reduceDiv,Nat.reduceMod,Nat.reduceBEq,Nat.reduceLeDiff,d1,d1',w0];refine za8 ⟨_,_,hs,?_⟩;simp (maxSteps:=1000000) (disch:=first | omega | (simp only [RY] <;> omega) | decide) only [↓RD,RZ,eq_self,Int.reduceToNat,Int.reduceAdd,Int.reduceSub,Int.reduceMul,Nat.reduceAdd,Nat.reduceSub,Nat.reduceMul,Nat.reduceDiv,Nat.reduceMod,Nat.reduceBEq,Nat.reduceLeDiff,w1]
  ·rintro _ _ ⟨rfl,rfl⟩;unfold zdN uL uB uc ug;simp (maxSteps:=1000000) (disch:=first | omega | (simp only [RY] <;> omega) | decide) only [↓RD,RZ,eq_self,Int.reduceToNat,Int.reduceAdd,Int.reduceSub,Int.reduceMul,Nat.reduceAdd,Nat.reduceSub,Nat.reduceMul,Nat.reduceDiv,Nat.reduceMod,Nat.reduceBEq,Nat.reduceLeDiff]
 rintro _ _ ⟨rfl,rfl⟩;have ra:Ax.bin .rem (.int .u8 (f:Nat)) (.int .u8 3) = some (.int .u8 (f % 3:Nat)):=zy3 f 3 (by decide);have rb:Ax.bin .rem (.int .u8 (t:Nat)) (.int .u8 4) = some (.int .u8 (t % 4:Nat)):=zy3 t 4 (by decide);have re:Ax.bin .rem (.int .u8 (e:Nat)) (.int .u8 3) = some (.int .u8 (e % 3:Nat)):=zy3 e 3 (by decide);have rs:Ax.bin .rem (.int .u8 (st:Nat)) (.int .u8 32) = some (.int .u8 (st % 32:Nat)):=zy3 st 32 (by decide);have ha':((f:Nat):Int) % 3 = ((f % 3:Nat):Int):=by omega
 have hb':((t:Nat):Int) % 4 = ((t % 4:Nat):Int):=by omega
 have he':((e:Nat):Int) % 3 = ((e % 3:Nat):Int):=by omega
 have hs':((st:Nat):Int) % 32 = ((st % 32:Nat):Int):=by omega
 have ha3:f % 3 < 3:=Nat.mod_lt _ (by decide);have hb4:t % 4 < 4:=Nat.mod_lt _ (by decide);have he3:e % 3 < 3:=Nat.mod_lt _ (by decide);have hs32:st % 32 < 32:=Nat.mod_lt _ (by decide);generalize f % 3 = a at *;generalize t % 4 = b at *;generalize e % 3 = ep at *;generalize st % 32 = s at *;have ca:IntKind.i64.wrap ((a:Nat):Int) = ((a:Nat):Int):=wrap_i64 (by omega) (by omega);have cb:IntKind.i64.wrap ((b:Nat):Int) = ((b:Nat):Int):=wrap_i64 (by omega) (by omega);have ce:IntKind.i64.wrap ((ep:Nat):Int) = ((ep:Nat):Int):=wrap_i64 (by omega) (by omega);have cs':IntKind.i64.wrap ((s:Nat):Int) = ((s:Nat):Int):=wrap_i64 (by omega) (by omega);have hvl:=(hv.lc (H:=J' 3) 0).vlen;have vc:=(hv.lc (H:=J' 3) 0).cells1;have vo:=(hv.lc (H:=J' 3) 0).okc;simp (maxSteps:=1000000) (disch:=first | omega | (simp only [RY] <;> omega) | decide) only [↓RD,RZ,eq_self,Int.reduceToNat,Int.reduceAdd,Int.reduceSub,Int.reduceMul,Nat.reduceAdd,Nat.reduceSub,Nat.reduceMul,Nat.reduceDiv,Nat.reduceMod,Nat.reduceBEq,Nat.reduceLeDiff,ra,rb,re,rs,ha',hb',he',hs',ca,cb,ce,cs',vc,vo];have g0:(((J' 3).new ⟨zac,[.int .i64 0,.int .i64 0,.int .i64 0,.int .i64 0,.int .i64 0,.int .i64 0,.nils],none⟩).set (J' 3).next (some ⟨zac,[.int .i64 7,.int .i64 0,.int .i64 (b:Nat),.int .i64 (ep:Nat),.int .i64 (s:Nat),.int .i64 0,v],none⟩)).get (J' 3).next = some ⟨zac,nC (xK b ep s l) v,none⟩:=zcb _ _ _;have s0:Grow (J' 3) (((J' 3).new ⟨zac,[.int .i64 0,.int .i64 0,.int .i64 0,.int .i64 0,.int .i64 0,.int .i64 0,.nils],none⟩).set (J' 3).next (some ⟨zac,[.int .i64 7,.int .i64 0,.int .i64 (b:Nat),.int .i64 (ep:Nat),.int .i64 (s:Nat),.int .i64 0,v],none⟩)):=AtS.new (S:=[(J' 3).next]) (Grow.new _ _) (AtS.set _ (by simp) _) (by simp);have n0:(((J' 3).new ⟨zac,[.int .i64 0,.int .i64 0,.int .i64 0,.int .i64 0,.int .i64 0,.int .i64 0,.nils],none⟩).set (J' 3).next (some ⟨zac,[.int .i64 7,.int .i64 0,.int .i64 (b:Nat),.int .i64 (ep:Nat),.int .i64 (s:Nat),.int .i64 0,v],none⟩)).next = (J' 3).next + 1:=by rw [zeR,zaO]
 generalize ((J' 3).new _).set (J' 3).next _ = Hn at *;have hlo:=hd.lo;have hqL:∀ c,c < 64 → (L c).pid ≠ some (J' 3).next:=fun c hc=>hd.old hc (Nat.le_refl _);have d1:=hd.grow s0;generalize (J' 3).next = qn at *;by_cases hl0:l = []
 ·have b1:(((l.length:Nat):Int) == 0) = true:=by rw [hl0]; rfl
  have b1':(l.length == 0) = true:=by rw [hl0]; rfl
  simp (maxSteps:=1000000) (disch:=first | omega | (simp only [RY] <;> omega) | decide) only [↓RD,RZ,eq_self,Int.reduceToNat,Int.reduceAdd,Int.reduceSub,Int.reduceMul,Nat.reduceAdd,Nat.reduceSub,Nat.reduceMul,Nat.reduceDiv,Nat.reduceMod,Nat.reduceBEq,Nat.reduceLeDiff,hvl,b1,b1']
 have b1:(((l.length:Nat):Int) == 0) = false:=by
  have:l.length ≠ 0:=fun h=>hl0 (List.eq_nil_of_length_eq_zero h);simp; exact hl0
 have b1':(l.length == 0) = false:=by simpa using hl0
 by_cases hl2:200 < l.length
 ·have b2:decide ((200:Int) < ((l.length:Nat):Int)) = true:=decide_eq_true (by omega);have b2':decide (200 < l.length) = true:=decide_eq_true hl2;simp (maxSteps:=1000000) (disch:=first | omega | (simp only [RY] <;> omega) | decide) only [↓RD,RZ,eq_self,Int.reduceToNat,Int.reduceAdd,Int.reduceSub,Int.reduceMul,Nat.reduceAdd,Nat.reduceSub,Nat.reduceMul,Nat.reduceDiv,Nat.reduceMod,Nat.reduceBEq,Nat.reduceLeDiff,hvl,b1,b1',b2,b2']
 have b2:decide ((200:Int) < ((l.length:Nat):Int)) = false:=decide_eq_false (by omega);have b2':decide (200 < l.length) = false:=decide_eq_false hl2;have w0:IntKind.i64.wrap (10 + ((a:Nat):Int)) = ((10 + a:Nat):Int):=by rw [wrap_i64 (by omega) (by omega)]; omega
 have ll:ldc (some 7) (nC (xK b ep s l) v) 0 = some (.agg (nC (xK b ep s l) v)):=rfl;simp (maxSteps:=1000000) (disch:=first | omega | (simp only [RY] <;> omega) | decide) only [↓RD,RZ,eq_self,Int.reduceToNat,Int.reduceAdd,Int.reduceSub,Int.reduceMul,Nat.reduceAdd,Nat.reduceSub,Nat.reduceMul,Nat.reduceDiv,Nat.reduceMod,Nat.reduceBEq,Nat.reduceLeDiff,hvl,b1,b1',b2,b2',w0,g0,ll];refine zaM (zFD (lo:=0) (k:=7) (r:=0) (s:=b) (e:=ep) (n:=s) (m:=0) (b:=l) (hv.lc _) (fun H' hb'=>zGf (.inl rfl) (by omega) (by omega) hs32 hl0 (by omega) hb') (by omega) (by omega) (by omega)) ?_;rintro bv H4 ⟨s4,hbv⟩;have c1:=hbv.by.cells1;have c2:=hbv.by.okc;simp (maxSteps:=1000000) (disch:=first | omega | (simp only [RY] <;> omega) | decide) only [↓RD,RZ,eq_self,Int.reduceToNat,Int.reduceAdd,Int.reduceSub,Int.reduceMul,Nat.reduceAdd,Nat.reduceSub,Nat.reduceMul,Nat.reduceDiv,Nat.reduceMod,Nat.reduceBEq,Nat.reduceLeDiff,c1,c2];have d4:=d1.grow s4;refine zaM (zF7 (bv:=bv) (l:=l) d4 ha3 hb4 he3 hs32 hl0 (by omega) h8 hbv.by) ?_;rintro _ H5 ⟨rfl,L5,f5,d5⟩;have g4:=(s4.same qn (by omega)).trans g0;have n4:=s4.next;have g5:=(f5.same qn hlo (by omega) hqL).trans g4;have n5:=f5.next;have hL5:∀ c,c < 64 → (L5 c).pid ≠ some qn:=fun c hc e'=>by
  rcases f5.own c qn hc e' with h | ⟨b',hb',h⟩
  ·omega
  ·exact hqL b' hb' h
 have c3:(nC (xK b ep s l) v)[3]? = some (.int .i64 (ep:Nat)):=rfl;have loop:=zF8 (tv:=v) d5 ha3 hb4 he3 hs32 hl0 (by omega) h8 hv hlo (by omega) hL5 g5;by_cases hb3:b < 3
 ·have k1:decide (((b:Nat):Int) < 3) = true:=decide_eq_true (by omega);have k1':decide (b < 3) = true:=decide_eq_true hb3;by_cases hab:b = a
  ·have k2:(((b:Nat):Int) != ((a:Nat):Int)) = false:=by rw [hab]; simp
   have k2':(b != a) = false:=by rw [hab]; simp
   have hr:rtK a b ep = false:=by unfold rtK; rw [decide_eq_true hb3,decide_eq_false (not_not_intro hab)]; rfl
   rw [hr] at loop;simp (maxSteps:=1000000) (disch:=first | omega | (simp only [RY] <;> omega) | decide) only [↓RD,RZ,eq_self,Int.reduceToNat,Int.reduceAdd,Int.reduceSub,Int.reduceMul,Nat.reduceAdd,Nat.reduceSub,Nat.reduceMul,Nat.reduceDiv,Nat.reduceMod,Nat.reduceBEq,Nat.reduceLeDiff,k1,k1',k2,k2'];refine zfq loop ?_;rintro _ _ rfl;simp (maxSteps:=1000000) (disch:=first | omega | (simp only [RY] <;> omega) | decide) only [↓RD,RZ,eq_self,Int.reduceToNat,Int.reduceAdd,Int.reduceSub,Int.reduceMul,Nat.reduceAdd,Nat.reduceSub,Nat.reduceMul,Nat.reduceDiv,Nat.reduceMod,Nat.reduceBEq,Nat.reduceLeDiff]
  ·have k2:(((b:Nat):Int) != ((a:Nat):Int)) = true:=by simp; omega
   have k2':(b != a) = true:=by simpa using hab
   have hr:rtK a b ep = decide (ep = 0):=by unfold rtK; rw [decide_eq_true hb3,decide_eq_true hab]; rfl
   have k3:(((ep:Nat):Int) == 0) = decide (ep = 0):=by
    by_cases h:ep = 0
    ·subst h; rfl
    ·rw [decide_eq_false h]; simp; exact h
   rw [hr] at loop;simp (maxSteps:=1000000) (disch:=first | omega | (simp only [RY] <;> omega) | decide) only [↓RD,RZ,eq_self,Int.reduceToNat,Int.reduceAdd,Int.reduceSub,Int.reduceMul,Nat.reduceAdd,Nat.reduceSub,Nat.reduceMul,Nat.reduceDiv,Nat.reduceMod,Nat.reduceBEq,Nat.reduceLeDiff,k1,k1',k2,k2',g5,c3,k3];refine zfq loop ?_;rintro _ _ rfl;simp (maxSteps:=1000000) (disch:=first | omega | (simp only [RY] <;> omega) | decide) only [↓RD,RZ,eq_self,Int.reduceToNat,Int.reduceAdd,Int.reduceSub,Int.reduceMul,Nat.reduceAdd,Nat.reduceSub,Nat.reduceMul,Nat.reduceDiv,Nat.reduceMod,Nat.reduceBEq,Nat.reduceLeDiff]
 ·have k1:decide (((b:Nat):Int) < 3) = false:=decide_eq_false (by omega);have k1':decide (b < 3) = false:=decide_eq_false hb3;have hr:rtK a b ep = false:=by unfold rtK; rw [decide_eq_false hb3]; rfl
  rw [hr] at loop;simp (maxSteps:=1000000) (disch:=first | omega | (simp only [RY] <;> omega) | decide) only [↓RD,RZ,eq_self,Int.reduceToNat,Int.reduceAdd,Int.reduceSub,Int.reduceMul,Nat.reduceAdd,Nat.reduceSub,Nat.reduceMul,Nat.reduceDiv,Nat.reduceMod,Nat.reduceBEq,Nat.reduceLeDiff,k1,k1'];refine zfq loop ?_;rintro _ _ rfl;simp (maxSteps:=1000000) (disch:=first | omega | (simp only [RY] <;> omega) | decide) only [↓RD,RZ,eq_self,Int.reduceToNat,Int.reduceAdd,Int.reduceSub,Int.reduceMul,Nat.reduceAdd,Nat.reduceSub,Nat.reduceMul,Nat.reduceDiv,Nat.reduceMod,Nat.reduceBEq,Nat.reduceLeDiff]
end Go.Ax.SU
namespace Go.Ax
open SU
theorem law_deskKeys (us:List V) (h:zGV [.int .u8,.int .u8,.int .u8,.int .u8,.sl (.int .u8)] us):∃ H',sem T zcO us H0 = some (.bool true,H'):=by
 obtain ⟨a1,a2,a3,a4,a5,rfl⟩:∃ a1 a2 a3 a4 a5,us = [a1,a2,a3,a4,a5]:=by
  rcases us with _ | ⟨a1,_ | ⟨a2,_ | ⟨a3,_ | ⟨a4,_ | ⟨a5,_ | ⟨a6,us⟩⟩⟩⟩⟩⟩
  ·cases h
  ·cases h.2
  ·cases h.2.2
  ·cases h.2.2.2
  ·cases h.2.2.2.2
  ·exact ⟨a1,a2,a3,a4,a5,rfl⟩
  ·cases h.2.2.2.2.2
 obtain ⟨n1,h1,h1'⟩:=zFB h.1;obtain ⟨n2,h2,h2'⟩:=zFB h.2.1;obtain ⟨n3,h3,h3'⟩:=zFB h.2.2.1;obtain ⟨n4,h4,h4'⟩:=zFB h.2.2.2.1;obtain ⟨v,l,h5,h5',h5''⟩:=sh_u8s h.2.2.2.2.1;cases h1; cases h2; cases h3; cases h4; cases h5;obtain ⟨r,H',k1,rfl⟩:=keys_ok h1' h2' h3' h4' h5' h5'';exact ⟨H',k1⟩
end Go.Ax
