/-
  Texts of mine, put together by program (wip/slim.py), for law_deskKnown: part 9.
-/
import Derived.Test.YthghlbdejdideaaGreatZk8
set_option linter.unusedVariables false
set_option linter.unusedSimpArgs false
set_option linter.defProp false
set_option maxRecDepth 100000
/- CiK6 -/
namespace Go.Ax.Cc
open Go.Proofs
def zw6 (G:Sem') (t0 t1:V):M Res :=
 (mbox zbp t0).bind fun t2 =>
 (mload (some 39) t2).bind fun t8 =>
 (G zer [t8]).bind fun t9 =>
 (M.lift (Ax.un .not t9)).bind fun t10 =>
 M.ite t10
 (M.pure (.ret [(V.int .i64 0),(V.int .i64 1)]))
 ((M.lift (Ax.faddr 0 t2)).bind fun t12 =>
 (mload (some 16) t12).bind fun t13 =>
 (G zeH [t13,t1]).bind fun t15 =>
 (M.lift (Ax.ext 0 t15)).bind fun t16 =>
 (M.lift (Ax.ext 1 t15)).bind fun t17 =>
 (M.lift (Ax.un .not t17)).bind fun t19 =>
 M.ite t19
 (M.pure (.ret [(V.int .i64 0),(V.int .i64 6)]))
 (M.pure (.ret [t16,(V.int .i64 0)])))
noncomputable def zoG:Fn':=(T zdR).getD noF
theorem zA4:T zdR = some zoG:=by kernel_rfl
theorem zCl (G:Sem') (t0 t1:V):execK G zoG.rv zoG.body [] [] (params 0 [t0,t1]) = zw6 G t0 t1:=by kernel_rfl
def zrv (G:Sem'):List V → M V
 | [t0,t1]=>fin (zw6 G t0 t1)
 | _=>M.fail
theorem zC7 {g:Sem'} (hg:Sims g (sem T)) (args:List V):Sim (zrv g args) (sem T zdR args):=by
 unfold zrv
 split
 ·exact zad zA4 (Nat.le_of_ble_eq_true (by kernel_rfl)) hg (zCl g _ _)
 ·exact zaa
def zsm (G:Sem') (t0 t1 t2:V):M Res :=
 (mbox zaF (V.agg [(V.int .i64 0),(V.int .u32 0),(V.int .u32 0),(V.int .u64 0),(V.int .u32 0),(V.int .u32 0),(V.int .u32 0),V.nils,V.nils,V.nils,(V.int .i64 0),(V.int .u32 0),V.nils,(V.int .i64 0),(V.int .i64 0),V.nils])).bind fun t6 =>
 (G zfz [t0,t1,t2]).bind fun t13 =>
 (M.lift (Ax.build [(V.int .i64 0),(V.int .u32 0),(V.int .u32 0),(V.int .u64 0),(V.int .u32 0),(V.int .u32 0),(V.int .u32 0),V.nils,V.nils,V.nils,(V.int .i64 0),(V.int .u32 0),V.nils,(V.int .i64 0),(V.int .i64 0),V.nils] [(0,1,t13)])).bind fun t14 =>
 (mbox zaF (V.agg [(V.int .i64 0),(V.int .u32 0),(V.int .u32 0),(V.int .u64 0),(V.int .u32 0),(V.int .u32 0),(V.int .u32 0),V.nils,V.nils,V.nils,(V.int .i64 0),(V.int .u32 0),V.nils,(V.int .i64 0),(V.int .i64 0),V.nils])).bind fun t8 =>
 (mstore 16 t8 t14).bind fun _ =>
 (M.lift (Ax.build [V.nils,(V.bool false)] [(0,1,t2)])).bind fun t16 =>
 (mbox zxR t16).bind fun t17 =>
 (M.lift (Ax.faddr 0 t8)).bind fun t18 =>
 (mload none t18).bind fun t19 =>
 (M.lift (Ax.bin .eql t19 (V.int .i64 7))).bind fun t20 =>
 M.ite t20
 ((G zaN [t2]).bind fun t24 =>
 (M.lift (Ax.faddr 13 t8)).bind fun t25 =>
 (mstore 1 t25 t0).bind fun _ =>
 (M.lift (Ax.faddr 14 t8)).bind fun t26 =>
 (mstore 1 t26 t1).bind fun _ =>
 (M.lift (Ax.faddr 15 t8)).bind fun t27 =>
 (mstore 1 t27 t24).bind fun _ =>
 (mload (some 16) t8).bind fun t28 =>
 (mstore 16 t6 t28).bind fun _ =>
 (mload (some 16) t6).bind fun r0 =>
 M.pure (.ret [r0,(V.bool true)]))
 ((G zaj [t17]).bind fun t30 =>
 (M.lift (Ax.faddr 1 t8)).bind fun t31 =>
 (mstore 1 t31 t30).bind fun _ =>
 (M.lift (Ax.faddr 0 t8)).bind fun t32 =>
 (mload none t32).bind fun t33 =>
 M.blk 0 (
 (M.lift (Ax.bin .eql t33 (V.int .i64 1))).bind fun t37 =>
 M.join (M.ite t37
 ((G zay [t17,(V.int .i64 8)]).bind fun t39 =>
 (M.lift (Ax.faddr 3 t8)).bind fun t40 =>
 (mstore 1 t40 t39).bind fun _ =>
 (G zaj [t17]).bind fun t42 =>
 (G zaj [t17]).bind fun t44 =>
 (G zaj [t17]).bind fun t46 =>
 (M.lift (Ax.faddr 4 t8)).bind fun t47 =>
 (mstore 1 t47 t42).bind fun _ =>
 (M.lift (Ax.faddr 5 t8)).bind fun t48 =>
 (mstore 1 t48 t44).bind fun _ =>
 (M.lift (Ax.faddr 6 t8)).bind fun t49 =>
 (mstore 1 t49 t46).bind fun _ =>
 (G zbx [t17,t1]).bind fun t52 =>
 (M.lift (Ax.faddr 7 t8)).bind fun t53 =>
 (mstore 1 t53 t52).bind fun _ =>
 M.pure (.nrm []))
 ((M.lift (Ax.bin .eql t33 (V.int .i64 2))).bind fun t55 =>
 M.join (M.ite t55
 ((G zbx [t17,t1]).bind fun t58 =>
 (M.lift (Ax.faddr 7 t8)).bind fun t59 =>
 (mstore 1 t59 t58).bind fun _ =>
 M.pure (.nrm []))
 ((G zce [t17,t8]).bind fun t35 =>
 M.pure (.nrm []))) fun _ =>
 M.pure (.nrm []))) fun _ =>
 M.pure (.nrm [])) fun _ =>
 (mload (some 16) t8).bind fun t60 =>
 (M.lift (Ax.nilck t17)).bind fun t62 =>
 (M.lift (Ax.faddr 1 t62)).bind fun t63 =>
 (mload none t63).bind fun t64 =>
 (M.lift (Ax.un .not t64)).bind fun t65 =>
 (guarded [(0,t65)] (some (0,true)) (M.pure t17)).bind fun t67 =>
 (guarded [(0,t65)] (some (0,true)) (M.lift (Ax.nilck t67))).bind fun t68 =>
 (guarded [(0,t65)] (some (0,true)) (M.lift (Ax.faddr 0 t68))).bind fun t69 =>
 (guarded [(0,t65)] (some (0,true)) (mload none t69)).bind fun t70 =>
 (guarded [(0,t65)] (some (0,true)) (M.lift (vlen t70))).bind fun t71 =>
 (guarded [(0,t65)] (some (0,true)) (M.lift (Ax.bin .eql t71 (V.int .i64 0)))).bind fun t72 =>
 (M.lift (Ax.pick t65 t72 (V.bool false))).bind fun t73 =>
 M.getH.bind fun h0 =>
 (mstore 16 t6 t60).bind fun _ =>
 M.getH.bind fun h0' =>
 (M.unch t69 h0 h0').bind fun _ =>
 (mload (some 16) t6).bind fun r0 =>
 M.pure (.ret [r0,t73]))
noncomputable def zlu:Fn':=(T zeX).getD noF
theorem zxY:T zeX = some zlu:=by kernel_rfl
theorem zyB (G:Sem') (t0 t1 t2:V):execK G zlu.rv zlu.body [] [] (params 0 [t0,t1,t2]) = zsm G t0 t1 t2:=by kernel_rfl
def znn (G:Sem'):List V → M V
 | [t0,t1,t2]=>fin (zsm G t0 t1 t2)
 | _=>M.fail
theorem zzR {g:Sem'} (hg:Sims g (sem T)) (args:List V):Sim (znn g args) (sem T zeX args):=by
 unfold znn
 split
 ·exact zad zxY (Nat.le_of_ble_eq_true (by kernel_rfl)) hg (zyB g _ _ _)
 ·exact zaa
def zsv (G:Sem') (t15 t2:V) (L:List V):M Res :=
 (M.lift (Ax.bin .lss (L.getD 0 .undef) (V.int .i64 8))).bind fun t17 =>
 M.ite t17
 (M.blk 1 (
 (M.lift (Ax.index 8 1 none t15 (L.getD 0 .undef))).bind fun t19 =>
 (M.lift (eqr .ptr true t19 V.nilp)).bind fun t21 =>
 (guarded [(0,t21)] (some (0,true)) (M.pure t19)).bind fun t23 =>
 (guarded [(0,t21)] (some (0,true)) (G zbH [t23])).bind fun t24 =>
 (guarded [(0,t21)] (some (0,true)) (M.pure t2)).bind fun t25 =>
 (guarded [(0,t21)] (some (0,true)) (M.lift (Ax.bin .eql t24 t25))).bind fun t26 =>
 (M.lift (Ax.pick t21 t26 (V.bool false))).bind fun t27 =>
 M.ite t27
 (M.pure (.ret [(L.getD 0 .undef),(V.bool true)]))
 (M.pure (.nrm []))) fun _ =>
 (M.lift (Ax.bin .add (L.getD 0 .undef) (V.int .i64 1))).bind fun t29 =>
 M.pure (.nrm [t29]))
 (M.pure (.ex 0 []))
def znO (G:Sem') (t0 t1 t2:V):M Res :=
 (M.lift (Ax.nilck t0)).bind fun t12 =>
 (M.lift (Ax.faddr 303 t12)).bind fun t13 =>
 (M.lift (Ax.iaddr (some 8) 8 t13 t1)).bind fun t14 =>
 (mload (some 8) t14).bind fun t15 =>
 M.blk 0 (
 M.iter (zsv G t15 t2) [(V.int .i64 0)]) fun _ =>
 M.pure (.ret [(V.int .i64 0),(V.bool false)])
noncomputable def zia:Fn':=(T zbI).getD noF
theorem zti:T zbI = some zia:=by kernel_rfl
theorem zuc (G:Sem') (t0 t1 t2:V):execK G zia.rv zia.body [] [] (params 0 [t0,t1,t2]) = znO G t0 t1 t2:=by kernel_rfl
def zjC (G:Sem'):List V → M V
 | [t0,t1,t2]=>fin (znO G t0 t1 t2)
 | _=>M.fail
theorem zvy {g:Sem'} (hg:Sims g (sem T)) (args:List V):Sim (zjC g args) (sem T zbI args):=by
 unfold zjC
 split
 ·exact zad zti (Nat.le_of_ble_eq_true (by kernel_rfl)) hg (zuc g _ _ _)
 ·exact zaa
def zst (G:Sem') (t12 t11 t0 t4:V) (L:List V):M Res :=
 (M.lift (Ax.bin .lss (L.getD 1 .undef) t12)).bind fun t14 =>
 M.ite t14
 (M.blk 1 (
 (M.lift (Ax.iaddr none 1 t11 (L.getD 1 .undef))).bind fun t15 =>
 (mload none t15).bind fun t16 =>
 (M.lift (Ax.nilck t0)).bind fun t19 =>
 (M.lift (Ax.faddr 14 t19)).bind fun t20 =>
 (mload none t20).bind fun t21 =>
 (G zdE [t21,t16]).bind fun t23 =>
 (M.lift (Ax.ext 0 t23)).bind fun t24 =>
 (M.lift (Ax.ext 1 t23)).bind fun t25 =>
 (guarded [(0,t25)] (some (0,true)) (M.pure (L.getD 0 .undef))).bind fun t28 =>
 (guarded [(0,t25)] (some (0,true)) (M.lift (vlen t28))).bind fun t29 =>
 (guarded [(0,t25)] (some (0,true)) (M.lift (Ax.bin .lss t29 (V.int .i64 64)))).bind fun t30 =>
 (M.lift (Ax.pick t25 t30 (V.bool false))).bind fun t31 =>
 M.join (M.ite t31
 ((mslit zqz 1 [V.nils] [(0,1,t24)]).bind fun t34 =>
 (mappend zqz 1 24 (L.getD 0 .undef) t34).bind fun t35 =>
 M.pure (.nrm [t35]))
 (M.pure (.nrm [(L.getD 0 .undef)]))) fun L0 =>
 M.pure (.nrm [(L0.getD 0 .undef)])) fun L1 =>
 (M.lift (Ax.bin .add (L.getD 1 .undef) (V.int .i64 1))).bind fun t36 =>
 M.pure (.nrm [(L1.getD 0 .undef),t36]))
 (M.pure (.ex 0 [(L.getD 0 .undef)]))
def znM (G:Sem') (t0 t1:V):M Res :=
 (G zgX [t1]).bind fun t11 =>
 (M.lift (vlen t11)).bind fun t12 =>
 M.blk 0 (
 M.iter (zst G t12 t11 t0 V.nils) [V.nils,(V.int .i64 0)]) fun L2 =>
 M.pure (.ret [(L2.getD 0 .undef)])
noncomputable def zh8:Fn':=(T zda).getD noF
theorem ztg:T zda = some zh8:=by kernel_rfl
theorem zua (G:Sem') (t0 t1:V):execK G zh8.rv zh8.body [] [] (params 0 [t0,t1]) = znM G t0 t1:=by kernel_rfl
def zjA (G:Sem'):List V → M V
 | [t0,t1]=>fin (znM G t0 t1)
 | _=>M.fail
theorem zvw {g:Sem'} (hg:Sims g (sem T)) (args:List V):Sim (zjA g args) (sem T zda args):=by
 unfold zjA
 split
 ·exact zad ztg (Nat.le_of_ble_eq_true (by kernel_rfl)) hg (zua g _ _)
 ·exact zaa
def zmm (G:Sem') (t0 t1 t2 t3:V):M Res :=
 (M.lift (Ax.nilck t1)).bind fun t14 =>
 (M.lift (Ax.faddr 303 t14)).bind fun t15 =>
 (M.lift (Ax.iaddr (some 8) 8 t15 t2)).bind fun t16 =>
 (M.lift (Ax.iaddr (some 8) 1 t16 t3)).bind fun t17 =>
 (mload none t17).bind fun t18 =>
 (G zb6 [t18]).bind fun t21 =>
 (M.lift (Ax.ext 0 t21)).bind fun t22 =>
 (M.lift (Ax.ext 1 t21)).bind fun t23 =>
 (M.lift (Ax.un .not t23)).bind fun t25 =>
 M.join (M.ite t25
 ((G zc9 [t18]).bind fun t28 =>
 (M.lift (Ax.ext 0 t28)).bind fun t29 =>
 (M.lift (Ax.ext 1 t28)).bind fun t30 =>
 M.pure (.nrm [t29,t30]))
 (M.pure (.nrm [t22,t23]))) fun L0 =>
 M.join (M.ite (L0.getD 1 .undef)
 ((G zbH [t18]).bind fun t37 =>
 (G zby [t0,t1,t3,(L0.getD 0 .undef),t37]).bind fun t38 =>
 M.pure (.nrm []))
 (M.pure (.nrm []))) fun _ =>
 M.pure (.ret [])
noncomputable def zhv:Fn':=(T zca).getD noF
theorem zrZ:T zca = some zhv:=by kernel_rfl
theorem zs0 (G:Sem') (t0 t1 t2 t3:V):execK G zhv.rv zhv.body [] [] (params 0 [t0,t1,t2,t3]) = zmm G t0 t1 t2 t3:=by kernel_rfl
def ziO (G:Sem'):List V → M V
 | [t0,t1,t2,t3]=>fin (zmm G t0 t1 t2 t3)
 | _=>M.fail
theorem ztL {g:Sem'} (hg:Sims g (sem T)) (args:List V):Sim (ziO g args) (sem T zca args):=by
 unfold ziO
 split
 ·exact zad zrZ (Nat.le_of_ble_eq_true (by kernel_rfl)) hg (zs0 g _ _ _ _)
 ·exact zaa
def zo4 (G:Sem') (t0 t1:V):M Res :=
 (M.lift (Ax.nilck t0)).bind fun t9 =>
 (M.lift (Ax.faddr 3 t9)).bind fun t10 =>
 (mload (some 3) t10).bind fun t11 =>
 (G ziy [t11,t1]).bind fun t13 =>
 (M.lift (Ax.ext 0 t13)).bind fun t14 =>
 (M.lift (Ax.ext 1 t13)).bind fun t15 =>
 (mbox zdO (V.agg [(V.bool false),(V.int .i64 0),(V.int .i64 0)])).bind fun t5 =>
 (mstore 3 t5 t14).bind fun _ =>
 (mload (some 3) t5).bind fun t17 =>
 (M.lift (Ax.nilck t0)).bind fun t18 =>
 (M.lift (Ax.faddr 3 t18)).bind fun t19 =>
 (mstore 3 t19 t17).bind fun _ =>
 M.pure (.ret [t15])
noncomputable def zjh:Fn':=(T zdH).getD noF
theorem zvg:T zdH = some zjh:=by kernel_rfl
theorem zvV (G:Sem') (t0 t1:V):execK G zjh.rv zjh.body [] [] (params 0 [t0,t1]) = zo4 G t0 t1:=by kernel_rfl
def zkK (G:Sem'):List V → M V
 | [t0,t1]=>fin (zo4 G t0 t1)
 | _=>M.fail
theorem zwu {g:Sem'} (hg:Sims g (sem T)) (args:List V):Sim (zkK g args) (sem T zdH args):=by
 unfold zkK
 split
 ·exact zad zvg (Nat.le_of_ble_eq_true (by kernel_rfl)) hg (zvV g _ _)
 ·exact zaa
def zxd (G:Sem') (t10 t9 t0 t4:V) (L:List V):M Res :=
 (M.lift (Ax.bin .lss (L.getD 2 .undef) t10)).bind fun t12 =>
 M.ite t12
 (M.blk 1 (
 (M.lift (Ax.iaddr none 1 t9 (L.getD 2 .undef))).bind fun t14 =>
 (mload none t14).bind fun t15 =>
 (M.lift (Ax.bin .lss t15 (V.int .i64 0))).bind fun t17 =>
 M.ite t17
 (M.pure (.ex 1 [(L.getD 0 .undef),(L.getD 1 .undef)]))
 ((M.lift (Ax.bin .lss (L.getD 1 .undef) (V.int .i64 0))).bind fun t19 =>
 M.join (M.ite t19
 (M.pure (.nrm [(L.getD 2 .undef)]))
 (M.pure (.nrm [(L.getD 1 .undef)]))) fun L0 =>
 (M.lift (Ax.cint .u64 t15)).bind fun t22 =>
 (M.lift (Ax.bin .quo t0 (V.int .u64 10000))).bind fun t24 =>
 (M.lift (Ax.bin .leq t22 t24)).bind fun t25 =>
 M.join (M.ite t25
 (M.pure (.nrm [(L.getD 2 .undef)]))
 (M.pure (.nrm [(L.getD 0 .undef)]))) fun L1 =>
 M.pure (.nrm [(L1.getD 0 .undef),(L0.getD 0 .undef)]))) fun L2 =>
 (M.lift (Ax.bin .add (L.getD 2 .undef) (V.int .i64 1))).bind fun t27 =>
 M.pure (.nrm [(L2.getD 0 .undef),(L2.getD 1 .undef),t27]))
 (M.pure (.ex 0 [(L.getD 0 .undef),(L.getD 1 .undef)]))
def zsr (G:Sem') (t0 t1:V):M Res :=
 (M.lift (vlen t1)).bind fun t10 =>
 M.blk 0 (
 M.iter (zxd G t10 t1 t0 (V.int .i64 0)) [(V.int .i64 (-1)),(V.int .i64 (-1)),(V.int .i64 0)]) fun L3 =>
 (M.lift (Ax.minmax true (L3.getD 0 .undef) [(L3.getD 1 .undef),(V.int .i64 0)])).bind fun t30 =>
 M.pure (.ret [t30])
noncomputable def zlz:Fn':=(T ze0).getD noF
theorem zx3:T ze0 = some zlz:=by kernel_rfl
theorem zyG (G:Sem') (t0 t1:V):execK G zlz.rv zlz.body [] [] (params 0 [t0,t1]) = zsr G t0 t1:=by kernel_rfl
def zns (G:Sem'):List V → M V
 | [t0,t1]=>fin (zsr G t0 t1)
 | _=>M.fail
theorem zzW {g:Sem'} (hg:Sims g (sem T)) (args:List V):Sim (zns g args) (sem T ze0 args):=by
 unfold zns
 split
 ·exact zad zx3 (Nat.le_of_ble_eq_true (by kernel_rfl)) hg (zyG g _ _)
 ·exact zaa
def zmk (G:Sem') (t0 t1 t2 t3:V):M Res :=
 (M.lift (Ax.nilck t1)).bind fun t14 =>
 (M.lift (Ax.faddr 303 t14)).bind fun t15 =>
 (M.lift (Ax.iaddr (some 8) 8 t15 t2)).bind fun t16 =>
 (M.lift (Ax.iaddr (some 8) 1 t16 t3)).bind fun t17 =>
 (mload none t17).bind fun t18 =>
 (G zb6 [t18]).bind fun t19 =>
 (M.lift (Ax.ext 0 t19)).bind fun t20 =>
 (M.lift (Ax.ext 1 t19)).bind fun t21 =>
 M.join (M.ite t21
 ((G zca [t0,t1,t2,t3]).bind fun t27 =>
 M.pure (.nrm []))
 (M.pure (.nrm []))) fun _ =>
 M.pure (.ret [])
noncomputable def zht:Fn':=(T zb8).getD noF
theorem zrX:T zb8 = some zht:=by kernel_rfl
theorem zsY (G:Sem') (t0 t1 t2 t3:V):execK G zht.rv zht.body [] [] (params 0 [t0,t1,t2,t3]) = zmk G t0 t1 t2 t3:=by kernel_rfl
def ziM (G:Sem'):List V → M V
 | [t0,t1,t2,t3]=>fin (zmk G t0 t1 t2 t3)
 | _=>M.fail
theorem ztJ {g:Sem'} (hg:Sims g (sem T)) (args:List V):Sim (ziM g args) (sem T zb8 args):=by
 unfold ziM
 split
 ·exact zad zrX (Nat.le_of_ble_eq_true (by kernel_rfl)) hg (zsY g _ _ _ _)
 ·exact zaa
def zmc (G:Sem') (t0:V):M Res :=
 (M.lift (Ax.bin .geq t0 (V.int .u64 4294967296))).bind fun t4 =>
 M.join (M.ite t4
 ((M.lift (Ax.bin .shr t0 (V.int .u64 32))).bind fun t6 =>
 M.pure (.nrm [t6,(V.int .i64 32)]))
 (M.pure (.nrm [t0,(V.int .i64 0)]))) fun L0 =>
 (M.lift (Ax.bin .geq (L0.getD 0 .undef) (V.int .u64 65536))).bind fun t8 =>
 M.join (M.ite t8
 ((M.lift (Ax.bin .shr (L0.getD 0 .undef) (V.int .u64 16))).bind fun t10 =>
 (M.lift (Ax.bin .add (L0.getD 1 .undef) (V.int .i64 16))).bind fun t12 =>
 M.pure (.nrm [t10,t12]))
 (M.pure (.nrm [(L0.getD 0 .undef),(L0.getD 1 .undef)]))) fun L1 =>
 (M.lift (Ax.bin .geq (L1.getD 0 .undef) (V.int .u64 256))).bind fun t14 =>
 M.join (M.ite t14
 ((M.lift (Ax.bin .shr (L1.getD 0 .undef) (V.int .u64 8))).bind fun t16 =>
 (M.lift (Ax.bin .add (L1.getD 1 .undef) (V.int .i64 8))).bind fun t18 =>
 M.pure (.nrm [t16,t18]))
 (M.pure (.nrm [(L1.getD 0 .undef),(L1.getD 1 .undef)]))) fun L2 =>
 (M.lift (Ax.cint .u8 (L2.getD 0 .undef))).bind fun t21 =>
 (M.lift (Ax.sindex (V.str ⟨#[0,1,2,2,3,3,3,3,4,4,4,4,4,4,4,4,5,5,5,5,5,5,5,5,5,5,5,5,5,5,5,5,6,6,6,6,6,6,6,6,6,6,6,6,6,6,6,6,6,6,6,6,6,6,6,6,6,6,6,6,6,6,6,6,7,7,7,7,7,7,7,7,7,7,7,7,7,7,7,7,7,7,7,7,7,7,7,7,7,7,7,7,7,7,7,7,7,7,7,7,7,7,7,7,7,7,7,7,7,7,7,7,7,7,7,7,7,7,7,7,7,7,7,7,7,7,7,7,8,8,8,8,8,8,8,8,8,8,8,8,8,8,8,8,8,8,8,8,8,8,8,8,8,8,8,8,8,8,8,8,8,8,8,8,8,8,8,8,8,8,8,8,8,8,8,8,8,8,8,8,8,8,8,8,8,8,8,8,8,8,8,8,8,8,8,8,8,8,8,8,8,8,8,8,8,8,8,8,8,8,8,8,8,8,8,8,8,8,8,8,8,8,8,8,8,8,8,8,8,8,8,8,8,8,8,8,8,8,8,8,8,8,8,8,8,8,8,8,8,8,8,8,8,8,8,8]⟩) t21)).bind fun t22 =>
 (M.lift (Ax.cint .i64 t22)).bind fun t23 =>
 (M.lift (Ax.bin .add (L2.getD 1 .undef) t23)).bind fun t24 =>
 M.pure (.ret [t24])
noncomputable def zhl:Fn':=(T zb5).getD noF
theorem zrP:T zb5 = some zhl:=by kernel_rfl
theorem zsQ (G:Sem') (t0:V):execK G zhl.rv zhl.body [] [] (params 0 [t0]) = zmc G t0:=by kernel_rfl
def ziE (G:Sem'):List V → M V
 | [t0]=>fin (zmc G t0)
 | _=>M.fail
theorem ztB {g:Sem'} (hg:Sims g (sem T)) (args:List V):Sim (ziE g args) (sem T zb5 args):=by
 unfold ziE
 split
 ·exact zad zrP (Nat.le_of_ble_eq_true (by kernel_rfl)) hg (zsQ g _)
 ·exact zaa
def zDz (G:Sem') (t7 t6 t2:V) (L:List V):M Res :=
 (M.lift (Ax.bin .lss (L.getD 1 .undef) t7)).bind fun t9 =>
 M.ite t9
 (M.blk 1 (
 (M.lift (Ax.iaddr none 1 t6 (L.getD 1 .undef))).bind fun t10 =>
 (mload none t10).bind fun t11 =>
 (M.lift (Ax.bin .shl (L.getD 0 .undef) (V.int .u64 8))).bind fun t13 =>
 (M.lift (Ax.cint .u32 t11)).bind fun t15 =>
 (M.lift (Ax.bin .or t13 t15)).bind fun t16 =>
 M.pure (.nrm [t16])) fun L0 =>
 (M.lift (Ax.bin .add (L.getD 1 .undef) (V.int .i64 1))).bind fun t17 =>
 M.pure (.nrm [(L0.getD 0 .undef),t17]))
 (M.pure (.ex 0 [(L.getD 0 .undef)]))
def zB1 (G:Sem') (t0:V):M Res :=
 (M.lift (vlen t0)).bind fun t7 =>
 M.blk 0 (
 M.iter (zDz G t7 t0 (V.int .u32 0)) [(V.int .u32 0),(V.int .i64 0)]) fun L1 =>
 M.pure (.ret [(L1.getD 0 .undef)])
noncomputable def ztU:Fn':=(T zec).getD noF
theorem zEn:T zec = some ztU:=by kernel_rfl
theorem zE4 (G:Sem') (t0:V):execK G ztU.rv ztU.body [] [] (params 0 [t0]) = zB1 G t0:=by kernel_rfl
def zxD (G:Sem'):List V → M V
 | [t0]=>fin (zB1 G t0)
 | _=>M.fail
theorem zFy {g:Sem'} (hg:Sims g (sem T)) (args:List V):Sim (zxD g args) (sem T zec args):=by
 unfold zxD
 split
 ·exact zad zEn (Nat.le_of_ble_eq_true (by kernel_rfl)) hg (zE4 g _)
 ·exact zaa
def zoX (G:Sem') (t0 t1:V):M Res :=
 (M.lift (vlen t1)).bind fun t10 =>
 (M.lift (Ax.bin .lss t10 (V.int .i64 4))).bind fun t11 =>
 M.ite t11
 (M.pure (.ret [(V.int .i64 0),(V.int .i64 3)]))
 ((M.lift (zcx .sl 1 t1 (some (V.int .i64 2)) (some (V.int .i64 4)) none)).bind fun t13 =>
 (G zec [t13]).bind fun t14 =>
 (M.lift (Ax.cint .i64 t14)).bind fun t15 =>
 (M.lift (Ax.bin .mul (V.int .i64 4) t15)).bind fun t16 =>
 (M.lift (Ax.bin .add (V.int .i64 4) t16)).bind fun t17 =>
 (M.lift (vlen t1)).bind fun t19 =>
 (M.lift (Ax.bin .lss t19 t17)).bind fun t21 =>
 M.ite t21
 (M.pure (.ret [(V.int .i64 0),(V.int .i64 3)]))
 ((M.lift (zcx .sl 1 t1 none (some (V.int .i64 2)) none)).bind fun t24 =>
 (G zec [t24]).bind fun t25 =>
 (M.lift (Ax.cint .i64 t25)).bind fun t26 =>
 (M.lift (Ax.nilck t0)).bind fun t27 =>
 (M.lift (Ax.faddr 6 t27)).bind fun t28 =>
 (mstore 1 t28 t26).bind fun _ =>
 (M.lift (Ax.nilck t0)).bind fun t30 =>
 (M.lift (Ax.faddr 6 t30)).bind fun t31 =>
 (mload none t31).bind fun t32 =>
 (M.lift (Ax.bin .neq t32 (V.int .i64 48862))).bind fun t33 =>
 (guarded [(0,t33)] (some (0,true)) (M.pure t0)).bind fun t35 =>
 (guarded [(0,t33)] (some (0,true)) (M.lift (Ax.nilck t35))).bind fun t36 =>
 (guarded [(0,t33)] (some (0,true)) (M.lift (Ax.faddr 6 t36))).bind fun t37 =>
 (guarded [(0,t33)] (some (0,true)) (mload none t37)).bind fun t38 =>
 (guarded [(0,t33)] (some (0,true)) (M.lift (Ax.bin .neq t38 (V.int .i64 4096)))).bind fun t39 =>
 (M.lift (Ax.pick t33 t39 (V.bool false))).bind fun t40 =>
 M.ite t40
 (M.pure (.ret [(V.int .i64 0),(V.int .i64 2)]))
 ((M.lift (Ax.nilck t0)).bind fun t43 =>
 (M.lift (Ax.faddr 6 t43)).bind fun t44 =>
 (mload none t44).bind fun t45 =>
 (M.lift (zcx .sl 1 t1 (some (V.int .i64 4)) (some t17) none)).bind fun t48 =>
 (G zir [t45,t48]).bind fun t49 =>
 (M.lift (Ax.ext 0 t49)).bind fun t50 =>
 (M.lift (Ax.ext 1 t49)).bind fun t51 =>
 (M.lift (Ax.un .not t51)).bind fun t53 =>
 M.ite t53
 (M.pure (.ret [(V.int .i64 0),(V.int .i64 2)]))
 ((M.lift (Ax.nilck t0)).bind fun t56 =>
 (M.lift (Ax.faddr 7 t56)).bind fun t57 =>
 (mstore 1 t57 t50).bind fun _ =>
 M.pure (.ret [t17,(V.int .i64 0)])))))
noncomputable def zjd:Fn':=(T zdD).getD noF
theorem zvc:T zdD = some zjd:=by kernel_rfl
theorem zvR (G:Sem') (t0 t1:V):execK G zjd.rv zjd.body [] [] (params 0 [t0,t1]) = zoX G t0 t1:=by kernel_rfl
def zkG (G:Sem'):List V → M V
 | [t0,t1]=>fin (zoX G t0 t1)
 | _=>M.fail
theorem zwq {g:Sem'} (hg:Sims g (sem T)) (args:List V):Sim (zkG g args) (sem T zdD args):=by
 unfold zkG
 split
 ·exact zad zvc (Nat.le_of_ble_eq_true (by kernel_rfl)) hg (zvR g _ _)
 ·exact zaa
def zsu (G:Sem') (t0:V):M Res :=
 (M.lift (Ax.bin .and t0 (V.int .u8 8))).bind fun t4 =>
 (M.lift (Ax.bin .eql t4 (V.int .u8 0))).bind fun t5 =>
 M.ite t5
 (M.pure (.ret [(V.int .i64 0)]))
 ((M.lift (Ax.bin .and t0 (V.int .u8 7))).bind fun t7 =>
 (M.lift (Ax.cint .i64 t7)).bind fun t8 =>
 (M.lift (Ax.bin .add t8 (V.int .i64 1))).bind fun t9 =>
 M.pure (.ret [t9]))
noncomputable def zlB:Fn':=(T zdY).getD noF
theorem zx5:T zdY = some zlB:=by kernel_rfl
theorem zyI (G:Sem') (t0:V):execK G zlB.rv zlB.body [] [] (params 0 [t0]) = zsu G t0:=by kernel_rfl
def znu (G:Sem'):List V → M V
 | [t0]=>fin (zsu G t0)
 | _=>M.fail
theorem zzY {g:Sem'} (hg:Sims g (sem T)) (args:List V):Sim (znu g args) (sem T zdY args):=by
 unfold znu
 split
 ·exact zad zx5 (Nat.le_of_ble_eq_true (by kernel_rfl)) hg (zyI g _)
 ·exact zaa
def zt0 (G:Sem') (t15 t14 t4 t5:V) (L:List V):M Res :=
 (M.lift (Ax.bin .lss (L.getD 1 .undef) t15)).bind fun t17 =>
 M.ite t17
 (M.blk 1 (
 (M.lift (Ax.iaddr none 1 t14 (L.getD 1 .undef))).bind fun t18 =>
 (mload none t18).bind fun t19 =>
 (M.lift (Ax.bin .shl (L.getD 0 .undef) (V.int .u64 8))).bind fun t21 =>
 (M.lift (Ax.cint .u64 t19)).bind fun t23 =>
 (M.lift (Ax.bin .or t21 t23)).bind fun t24 =>
 M.pure (.nrm [t24])) fun L0 =>
 (M.lift (Ax.bin .add (L.getD 1 .undef) (V.int .i64 1))).bind fun t25 =>
 M.pure (.nrm [(L0.getD 0 .undef),t25]))
 (M.pure (.ex 0 [(L.getD 0 .undef)]))
def zo5 (G:Sem') (t0 t1:V):M Res :=
 (M.lift (Ax.bin .and t0 (V.int .u8 8))).bind fun t10 =>
 (M.lift (Ax.bin .eql t10 (V.int .u8 0))).bind fun t11 =>
 M.ite t11
 ((M.lift (Ax.cint .u64 t0)).bind fun t13 =>
 M.pure (.ret [t13,(V.bool true)]))
 ((M.lift (vlen t1)).bind fun t15 =>
 M.blk 0 (
 M.iter (zt0 G t15 t1 (V.int .u64 0) (V.bool false)) [(V.int .u64 0),(V.int .i64 0)]) fun L1 =>
 (M.lift (Ax.iaddr none 1 t1 (V.int .i64 0))).bind fun t28 =>
 (mload none t28).bind fun t29 =>
 (M.lift (Ax.bin .neq t29 (V.int .u8 0))).bind fun t30 =>
 (guarded [(0,t30)] (some (0,true)) (M.pure (L1.getD 0 .undef))).bind fun t32 =>
 (guarded [(0,t30)] (some (0,true)) (M.lift (Ax.bin .geq t32 (V.int .u64 8)))).bind fun t33 =>
 (M.lift (Ax.pick t30 t33 (V.bool false))).bind fun t34 =>
 M.pure (.ret [(L1.getD 0 .undef),t34]))
noncomputable def zji:Fn':=(T zcR).getD noF
theorem zvh:T zcR = some zji:=by kernel_rfl
theorem zvW (G:Sem') (t0 t1:V):execK G zji.rv zji.body [] [] (params 0 [t0,t1]) = zo5 G t0 t1:=by kernel_rfl
def zkL (G:Sem'):List V → M V
 | [t0,t1]=>fin (zo5 G t0 t1)
 | _=>M.fail
theorem zwv {g:Sem'} (hg:Sims g (sem T)) (args:List V):Sim (zkL g args) (sem T zcR args):=by
 unfold zkL
 split
 ·exact zad zvh (Nat.le_of_ble_eq_true (by kernel_rfl)) hg (zvW g _ _)
 ·exact zaa
def zD9 (G:Sem') (t0 t1:V):M Res :=
 (mbox zbc t0).bind fun t2 =>
 (mbox zgp t1).bind fun t3 =>
 (M.lift (Ax.faddr 7 t2)).bind fun t5 =>
 (mload none t5).bind fun t6 =>
 (M.pure (.fn zis [t3])).bind fun t7 =>
 (G zav [t6,t7]).bind fun t8 =>
 M.pure (.ret [t8])
noncomputable def zwS:Fn':=(T zkp).getD noF
theorem zFj:T zkp = some zwS:=by kernel_rfl
theorem zFU (G:Sem') (t0 t1:V):execK G zwS.rv zwS.body [] [] (params 0 [t0,t1]) = zD9 G t0 t1:=by kernel_rfl
def zAM (G:Sem'):List V → M V
 | [t0,t1]=>fin (zD9 G t0 t1)
 | _=>M.fail
theorem s_rtp_at {g:Sem'} (hg:Sims g (sem T)) (args:List V):Sim (zAM g args) (sem T zkp args):=by
 unfold zAM
 split
 ·exact zad zFj (Nat.le_of_ble_eq_true (by kernel_rfl)) hg (zFU g _ _)
 ·exact zaa
def zxm (G:Sem') (t0:V):M Res :=
 (mappend zaw 1 1 V.nils t0).bind fun t4 =>
 (M.lift (Ax.build [V.nils,(V.int .i64 0)] [(0,1,t4)])).bind fun t5 =>
 (mbox zxU t5).bind fun t6 =>
 M.pure (.ret [t6])
noncomputable def zoU:Fn':=(T zg7).getD noF
theorem zBi:T zg7 = some zoU:=by kernel_rfl
theorem zCz (G:Sem') (t0:V):execK G zoU.rv zoU.body [] [] (params 0 [t0]) = zxm G t0:=by kernel_rfl
def zrJ (G:Sem'):List V → M V
 | [t0]=>fin (zxm G t0)
 | _=>M.fail
theorem zDl {g:Sem'} (hg:Sims g (sem T)) (args:List V):Sim (zrJ g args) (sem T zg7 args):=by
 unfold zrJ
 split
 ·exact zad zBi (Nat.le_of_ble_eq_true (by kernel_rfl)) hg (zCz g _)
 ·exact zaa
def zkC (G:Sem') (t0:V):M Res :=
 (G zaf [t0,(V.int .i64 1)]).bind fun t4 =>
 (M.lift (Ax.bin .eql t4 (V.int .i64 1))).bind fun t5 =>
 M.pure (.ret [t5])
noncomputable def zgf:Fn':=(T zaq).getD noF
theorem zp1:T zaq = some zgf:=by kernel_rfl
theorem zqi (G:Sem') (t0:V):execK G zgf.rv zgf.body [] [] (params 0 [t0]) = zkC G t0:=by kernel_rfl
def zgQ (G:Sem'):List V → M V
 | [t0]=>fin (zkC G t0)
 | _=>M.fail
theorem zqP {g:Sem'} (hg:Sims g (sem T)) (args:List V):Sim (zgQ g args) (sem T zaq args):=by
 unfold zgQ
 split
 ·exact zad zp1 (Nat.le_of_ble_eq_true (by kernel_rfl)) hg (zqi g _)
 ·exact zaa
def zkB (G:Sem') (t0 t1:V):M Res :=
 (M.lift (Ax.nilck t0)).bind fun t8 =>
 (M.lift (Ax.faddr 1 t8)).bind fun t9 =>
 (mload none t9).bind fun t10 =>
 (M.lift (Ax.bin .neq t10 (V.int .i64 0))).bind fun t11 =>
 M.ite t11
 (M.pure (.ret [(V.int .i64 0)]))
 ((M.lift (Ax.nilck t0)).bind fun t14 =>
 (M.lift (Ax.faddr 0 t14)).bind fun t15 =>
 (mload none t15).bind fun t16 =>
 (G zbz [t16,t1]).bind fun t18 =>
 (M.lift (Ax.ext 0 t18)).bind fun t19 =>
 (M.lift (Ax.ext 1 t18)).bind fun t20 =>
 (M.lift (Ax.nilck t0)).bind fun t23 =>
 (M.lift (Ax.faddr 1 t23)).bind fun t24 =>
 (mstore 1 t24 t20).bind fun _ =>
 (M.lift (Ax.cint .i64 t19)).bind fun t26 =>
 M.pure (.ret [t26]))
noncomputable def zge:Fn':=(T zaf).getD noF
theorem zp0:T zaf = some zge:=by kernel_rfl
theorem zqh (G:Sem') (t0 t1:V):execK G zge.rv zge.body [] [] (params 0 [t0,t1]) = zkB G t0 t1:=by kernel_rfl
def zgP (G:Sem'):List V → M V
 | [t0,t1]=>fin (zkB G t0 t1)
 | _=>M.fail
theorem zqO {g:Sem'} (hg:Sims g (sem T)) (args:List V):Sim (zgP g args) (sem T zaf args):=by
 unfold zgP
 split
 ·exact zad zp0 (Nat.le_of_ble_eq_true (by kernel_rfl)) hg (zqh g _ _)
 ·exact zaa
def zkz (G:Sem') (t18 t0 t3 t2:V) (L:List V):M Res :=
 (M.lift (Ax.bin .lss (L.getD 0 .undef) t18)).bind fun t20 =>
 M.ite t20
 (M.blk 1 (
 (M.lift (Ax.faddr 2 t3)).bind fun t22 =>
 (mload none t22).bind fun t23 =>
 (M.lift (Ax.faddr 1 t3)).bind fun t26 =>
 (mload none t26).bind fun t27 =>
 M.getH.bind fun h0 =>
 (G za1 [t0,t27,(V.int .i64 2)]).bind fun t28 =>
 M.getH.bind fun h0' =>
 (M.unch t22 h0 h0').bind fun _ =>
 (M.lift (Ax.iaddr none 5 t23 (L.getD 0 .undef))).bind fun t29 =>
 (M.lift (Ax.faddr 2 t29)).bind fun t30 =>
 (mstore 1 t30 t28).bind fun _ =>
 M.pure (.nrm [])) fun _ =>
 (M.lift (Ax.bin .add (L.getD 0 .undef) (V.int .i64 1))).bind fun t31 =>
 M.pure (.nrm [t31]))
 (M.pure (.ex 0 []))
def zky (G:Sem') (t34 t3 t0 t2:V) (L:List V):M Res :=
 (M.lift (Ax.bin .lss (L.getD 0 .undef) t34)).bind fun t36 =>
 M.ite t36
 (M.blk 3 (
 (M.lift (Ax.faddr 2 t3)).bind fun t38 =>
 (mload none t38).bind fun t39 =>
 M.getH.bind fun h1 =>
 (G zbN [t0]).bind fun t42 =>
 M.getH.bind fun h1' =>
 (M.unch t38 h1 h1').bind fun _ =>
 (M.lift (Ax.iaddr none 5 t39 (L.getD 0 .undef))).bind fun t43 =>
 (M.lift (Ax.faddr 3 t43)).bind fun t44 =>
 (mstore 1 t44 t42).bind fun _ =>
 M.pure (.nrm [])) fun _ =>
 (M.lift (Ax.bin .add (L.getD 0 .undef) (V.int .i64 1))).bind fun t45 =>
 M.pure (.nrm [t45]))
 (M.pure (.ex 2 []))
def zkx (G:Sem') (t56 t0 t3 t2:V) (L:List V):M Res :=
 (M.lift (Ax.bin .lss (L.getD 0 .undef) t56)).bind fun t58 =>
 M.ite t58
 (M.blk 5 (
 (M.lift (Ax.faddr 4 t3)).bind fun t59 =>
 (mload none t59).bind fun t60 =>
 (M.lift (Ax.faddr 3 t3)).bind fun t62 =>
 (mload none t62).bind fun t63 =>
 M.getH.bind fun h2 =>
 (G zbS [t0,t63]).bind fun t64 =>
 M.getH.bind fun h2' =>
 (M.unch t59 h2 h2').bind fun _ =>
 (mslit zgp 1 [(V.int .i64 0)] [(0,1,t64)]).bind fun t65 =>
 (mappend zgp 1 8 t60 t65).bind fun t66 =>
 (M.lift (Ax.faddr 4 t3)).bind fun t67 =>
 (mstore 1 t67 t66).bind fun _ =>
 M.pure (.nrm [])) fun _ =>
 (M.lift (Ax.bin .add (L.getD 0 .undef) (V.int .i64 1))).bind fun t68 =>
 M.pure (.nrm [t68]))
 (M.pure (.ex 4 []))
def zkw (G:Sem') (t71 t0 t3 t2:V) (L:List V):M Res :=
 (M.lift (Ax.bin .lss (L.getD 0 .undef) t71)).bind fun t73 =>
 M.ite t73
 (M.blk 7 (
 (M.lift (Ax.faddr 2 t3)).bind fun t75 =>
 (mload none t75).bind fun t76 =>
 (M.lift (Ax.faddr 3 t3)).bind fun t79 =>
 (mload none t79).bind fun t80 =>
 M.getH.bind fun h3 =>
 (G za1 [t0,t80,(V.int .i64 4)]).bind fun t81 =>
 M.getH.bind fun h3' =>
 (M.unch t75 h3 h3').bind fun _ =>
 (M.lift (Ax.iaddr none 5 t76 (L.getD 0 .undef))).bind fun t82 =>
 (M.lift (Ax.faddr 4 t82)).bind fun t83 =>
 (mstore 1 t83 t81).bind fun _ =>
 M.pure (.nrm [])) fun _ =>
 (M.lift (Ax.bin .add (L.getD 0 .undef) (V.int .i64 1))).bind fun t84 =>
 M.pure (.nrm [t84]))
 (M.pure (.ex 6 []))
def zkv (G:Sem') (t88 t0 t3 t2:V) (L:List V):M Res :=
 (M.lift (Ax.bin .lss (L.getD 0 .undef) t88)).bind fun t90 =>
 M.ite t90
 (M.blk 9 (
 (M.lift (Ax.faddr 5 t3)).bind fun t91 =>
 (mload none t91).bind fun t92 =>
 M.getH.bind fun h4 =>
 (G zaf [t0,(V.int .i64 16)]).bind fun t94 =>
 M.getH.bind fun h4' =>
 (M.unch t91 h4 h4').bind fun _ =>
 M.getH.bind fun h5 =>
 (G zaf [t0,(V.int .i64 16)]).bind fun t97 =>
 M.getH.bind fun h5' =>
 (M.unch t91 h5 h5').bind fun _ =>
 (M.lift (Ax.bin .add t94 (V.int .i64 1))).bind fun t95 =>
 (M.lift (Ax.bin .add t97 (V.int .i64 1))).bind fun t98 =>
 (M.lift (Ax.build [(V.int .i64 0),(V.int .i64 0)] [(0,1,t95),(1,1,t98)])).bind fun t99 =>
 (mslit zzl 1 [(V.int .i64 0),(V.int .i64 0)] [(0,2,t99)]).bind fun t100 =>
 (mappend zzl 2 16 t92 t100).bind fun t101 =>
 (M.lift (Ax.faddr 5 t3)).bind fun t102 =>
 (mstore 1 t102 t101).bind fun _ =>
 M.pure (.nrm [])) fun _ =>
 (M.lift (Ax.bin .add (L.getD 0 .undef) (V.int .i64 1))).bind fun t103 =>
 M.pure (.nrm [t103]))
 (M.pure (.ex 8 []))
def zgt (G:Sem') (t0:V):M Res :=
 (mbox zag (V.agg [(V.int .i64 0),(V.int .i64 0),V.nils,(V.int .i64 0),V.nils,V.nils])).bind fun t2 =>
 (G zaf [t0,(V.int .i64 6)]).bind fun t8 =>
 (G zaf [t0,(V.int .i64 5)]).bind fun t10 =>
 (M.lift (Ax.bin .add t10 (V.int .i64 1))).bind fun t11 =>
 (M.lift (Ax.build [(V.int .i64 0),(V.int .i64 0),V.nils,(V.int .i64 0),V.nils,V.nils] [(0,1,t8),(1,1,t11)])).bind fun t12 =>
 (mbox zag (V.agg [(V.int .i64 0),(V.int .i64 0),V.nils,(V.int .i64 0),V.nils,V.nils])).bind fun t3 =>
 (mstore 6 t3 t12).bind fun _ =>
 (G zba [t0]).bind fun t14 =>
 (M.lift (Ax.faddr 2 t3)).bind fun t15 =>
 (mstore 1 t15 t14).bind fun _ =>
 (M.lift (Ax.faddr 2 t3)).bind fun t16 =>
 (mload none t16).bind fun t17 =>
 (M.lift (vlen t17)).bind fun t18 =>
 M.blk 0 (
 M.iter (zkz G t18 t0 t3 t2) [(V.int .i64 0)]) fun _ =>
 (M.lift (Ax.faddr 2 t3)).bind fun t32 =>
 (mload none t32).bind fun t33 =>
 (M.lift (vlen t33)).bind fun t34 =>
 M.blk 2 (
 M.iter (zky G t34 t3 t0 t2) [(V.int .i64 0)]) fun _ =>
 (M.lift (Ax.faddr 1 t3)).bind fun t47 =>
 (mload none t47).bind fun t48 =>
 (M.lift (Ax.bin .add t48 (V.int .i64 1))).bind fun t49 =>
 (G zbS [t0,t49]).bind fun t50 =>
 (M.lift (Ax.faddr 3 t3)).bind fun t51 =>
 (mstore 1 t51 t50).bind fun _ =>
 (M.lift (Ax.faddr 3 t3)).bind fun t52 =>
 (mload none t52).bind fun t53 =>
 (M.lift (Ax.bin .gtr t53 (V.int .i64 0))).bind fun t54 =>
 M.join (M.ite t54
 ((M.lift (Ax.faddr 1 t3)).bind fun t55 =>
 (mload none t55).bind fun t56 =>
 M.blk 4 (
 M.iter (zkx G t56 t0 t3 t2) [(V.int .i64 0)]) fun _ =>
 (M.lift (Ax.faddr 2 t3)).bind fun t69 =>
 (mload none t69).bind fun t70 =>
 (M.lift (vlen t70)).bind fun t71 =>
 M.blk 6 (
 M.iter (zkw G t71 t0 t3 t2) [(V.int .i64 0)]) fun _ =>
 M.pure (.nrm []))
 (M.pure (.nrm []))) fun _ =>
 (G zaq [t0]).bind fun t86 =>
 M.join (M.ite t86
 ((mload (some 6) t3).bind fun t87 =>
 (G zcv [t87]).bind fun t88 =>
 M.blk 8 (
 M.iter (zkv G t88 t0 t3 t2) [(V.int .i64 0)]) fun _ =>
 M.pure (.nrm []))
 (M.pure (.nrm []))) fun _ =>
 (mload (some 6) t3).bind fun t104 =>
 (mstore 6 t2 t104).bind fun _ =>
 (mload (some 6) t2).bind fun r0 =>
 M.pure (.ret [r0])
noncomputable def zdz:Fn':=(T zbb).getD noF
theorem zkX:T zbb = some zdz:=by kernel_rfl
theorem zk4 (G:Sem') (t0:V):execK G zdz.rv zdz.body [] [] (params 0 [t0]) = zgt G t0:=by kernel_rfl
def zd1 (G:Sem'):List V → M V
 | [t0]=>fin (zgt G t0)
 | _=>M.fail
theorem zln {g:Sem'} (hg:Sims g (sem T)) (args:List V):Sim (zd1 g args) (sem T zbb args):=by
 unfold zd1
 split
 ·exact zad zkX (Nat.le_of_ble_eq_true (by kernel_rfl)) hg (zk4 g _)
 ·exact zaa
def zxk (G:Sem') (t70 t69:V) (L:List V):M Res :=
 (M.lift (Ax.bin .lss (L.getD 0 .undef) t70)).bind fun t72 =>
 M.ite t72
 (M.blk 1 (
 (M.lift (Ax.iaddr none 2 t69 (L.getD 0 .undef))).bind fun t73 =>
 (mload (some 2) t73).bind fun t74 =>
 (mbox zzl (V.agg [(V.int .i64 0),(V.int .i64 0)])).bind fun t6 =>
 (mstore 2 t6 t74).bind fun _ =>
 (M.lift (zcx (.arr 2) 1 t6 none none none)).bind fun t75 =>
 (G za4 [t75,(V.int .i64 2),(V.int .i64 1),(V.int .i64 65536)]).bind fun t76 =>
 (M.lift (Ax.un .not t76)).bind fun t77 =>
 M.ite t77
 (M.pure (.ret [(V.bool false)]))
 (M.pure (.nrm []))) fun _ =>
 (M.lift (Ax.bin .add (L.getD 0 .undef) (V.int .i64 1))).bind fun t78 =>
 M.pure (.nrm [t78]))
 (M.pure (.ex 0 []))
def zsI (G:Sem') (t0:V):M Res :=
 (mbox zag t0).bind fun t1 =>
 (M.lift (Ax.faddr 1 t1)).bind fun t7 =>
 (mload none t7).bind fun t8 =>
 (M.lift (Ax.faddr 3 t1)).bind fun t9 =>
 (mload none t9).bind fun t10 =>
 (M.lift (Ax.bin .eql t10 (V.int .i64 0))).bind fun t11 =>
 M.join (M.ite t11
 (M.pure (.nrm [(V.int .i64 0)]))
 (M.pure (.nrm [t8]))) fun L0 =>
 (M.lift (Ax.faddr 0 t1)).bind fun t12 =>
 (mload none t12).bind fun t13 =>
 (M.lift (Ax.bin .lss t13 (V.int .i64 0))).bind fun t14 =>
 (guarded [(0,t14)] (some (0,false)) (M.lift (Ax.faddr 0 t1))).bind fun t16 =>
 (guarded [(0,t14)] (some (0,false)) (mload none t16)).bind fun t17 =>
 (guarded [(0,t14)] (some (0,false)) (M.lift (Ax.bin .geq t17 (V.int .i64 64)))).bind fun t18 =>
 (M.lift (Ax.pick t14 (V.bool true) t18)).bind fun t19 =>
 (guarded [(0,t19)] (some (0,false)) (M.lift (Ax.faddr 1 t1))).bind fun t21 =>
 (guarded [(0,t19)] (some (0,false)) (mload none t21)).bind fun t22 =>
 (guarded [(0,t19)] (some (0,false)) (M.lift (Ax.bin .lss t22 (V.int .i64 1)))).bind fun t23 =>
 (M.lift (Ax.pick t19 (V.bool true) t23)).bind fun t24 =>
 (guarded [(0,t24)] (some (0,false)) (M.lift (Ax.faddr 1 t1))).bind fun t26 =>
 (guarded [(0,t24)] (some (0,false)) (mload none t26)).bind fun t27 =>
 (guarded [(0,t24)] (some (0,false)) (M.lift (Ax.bin .gtr t27 (V.int .i64 32)))).bind fun t28 =>
 (M.lift (Ax.pick t24 (V.bool true) t28)).bind fun t29 =>
 (guarded [(0,t29)] (some (0,false)) (M.lift (Ax.faddr 3 t1))).bind fun t31 =>
 (guarded [(0,t29)] (some (0,false)) (mload none t31)).bind fun t32 =>
 (guarded [(0,t29)] (some (0,false)) (M.lift (Ax.bin .lss t32 (V.int .i64 0)))).bind fun t33 =>
 (M.lift (Ax.pick t29 (V.bool true) t33)).bind fun t34 =>
 (guarded [(0,t34)] (some (0,false)) (M.lift (Ax.faddr 3 t1))).bind fun t36 =>
 (guarded [(0,t34)] (some (0,false)) (mload none t36)).bind fun t37 =>
 (guarded [(0,t34)] (some (0,false)) (M.lift (Ax.faddr 1 t1))).bind fun t38 =>
 (guarded [(0,t34)] (some (0,false)) (mload none t38)).bind fun t39 =>
 (guarded [(0,t34)] (some (0,false)) (M.lift (Ax.bin .gtr t37 t39))).bind fun t40 =>
 (M.lift (Ax.pick t34 (V.bool true) t40)).bind fun t41 =>
 (guarded [(0,t41)] (some (0,false)) (M.lift (Ax.faddr 4 t1))).bind fun t43 =>
 (guarded [(0,t41)] (some (0,false)) (mload none t43)).bind fun t44 =>
 (guarded [(0,t41)] (some (0,false)) (M.pure (L0.getD 0 .undef))).bind fun t45 =>
 (guarded [(0,t41)] (some (0,false)) (M.lift (Ax.faddr 3 t1))).bind fun t46 =>
 (guarded [(0,t41)] (some (0,false)) (mload none t46)).bind fun t47 =>
 (guarded [(0,t41)] (some (0,false)) (M.lift (Ax.bin .sub t47 (V.int .i64 1)))).bind fun t48 =>
 (guarded [(0,t41)] (some (0,false)) (G za4 [t44,t45,(V.int .i64 0),t48])).bind fun t49 =>
 (guarded [(0,t41)] (some (0,false)) (M.lift (Ax.un .not t49))).bind fun t50 =>
 (M.lift (Ax.pick t41 (V.bool true) t50)).bind fun t51 =>
 (guarded [(0,t51)] (some (0,false)) (mload (some 6) t1)).bind fun t53 =>
 (guarded [(0,t51)] (some (0,false)) (G zdJ [t53])).bind fun t54 =>
 (guarded [(0,t51)] (some (0,false)) (M.lift (Ax.un .not t54))).bind fun t55 =>
 (M.lift (Ax.pick t51 (V.bool true) t55)).bind fun t56 =>
 M.ite t56
 (M.pure (.ret [(V.bool false)]))
 ((M.lift (Ax.faddr 5 t1)).bind fun t57 =>
 (mload none t57).bind fun t58 =>
 (M.lift (vlen t58)).bind fun t59 =>
 (M.lift (Ax.bin .neq t59 (V.int .i64 0))).bind fun t61 =>
 (guarded [(0,t61)] (some (0,true)) (M.pure t59)).bind fun t63 =>
 (guarded [(0,t61)] (some (0,true)) (mload (some 6) t1)).bind fun t64 =>
 (guarded [(0,t61)] (some (0,true)) (G zcv [t64])).bind fun t65 =>
 (guarded [(0,t61)] (some (0,true)) (M.lift (Ax.bin .neq t63 t65))).bind fun t66 =>
 (M.lift (Ax.pick t61 t66 (V.bool false))).bind fun t67 =>
 M.ite t67
 (M.pure (.ret [(V.bool false)]))
 ((M.lift (Ax.faddr 5 t1)).bind fun t68 =>
 (mload none t68).bind fun t69 =>
 (M.lift (vlen t69)).bind fun t70 =>
 M.blk 0 (
 M.iter (zxk G t70 t69) [(V.int .i64 0)]) fun _ =>
 (M.lift (Ax.faddr 2 t1)).bind fun t79 =>
 (mload none t79).bind fun t80 =>
 (M.pure (.fn zdN [t1])).bind fun t81 =>
 (G zae [t80,t81]).bind fun t82 =>
 (M.lift (Ax.un .not t82)).bind fun t83 =>
 M.pure (.ret [t83])))
noncomputable def zlG:Fn':=(T zcB).getD noF
theorem zya:T zcB = some zlG:=by kernel_rfl
theorem zyN (G:Sem') (t0:V):execK G zlG.rv zlG.body [] [] (params 0 [t0]) = zsI G t0:=by kernel_rfl
def znz (G:Sem'):List V → M V
 | [t0]=>fin (zsI G t0)
 | _=>M.fail
theorem zz3 {g:Sem'} (hg:Sims g (sem T)) (args:List V):Sim (znz g args) (sem T zcB args):=by
 unfold znz
 split
 ·exact zad zya (Nat.le_of_ble_eq_true (by kernel_rfl)) hg (zyN g _)
 ·exact zaa
def zqw (G:Sem') (t0 t1:V):M Res :=
 (mbox zbP t0).bind fun t2 =>
 (mbox zag t1).bind fun t3 =>
 (mbox zag (V.agg [(V.int .i64 0),(V.int .i64 0),V.nils,(V.int .i64 0),V.nils,V.nils])).bind fun t4 =>
 (M.lift (Ax.faddr 4 t2)).bind fun t5 =>
 (mload none t5).bind fun t6 =>
 M.ite t6
 ((M.lift (Ax.faddr 5 t2)).bind fun t7 =>
 (mload (some 6) t7).bind fun t8 =>
 (mstore 6 t4 t8).bind fun _ =>
 (mload (some 6) t4).bind fun r0 =>
 M.pure (.ret [r0]))
 ((mload (some 6) t3).bind fun t9 =>
 (mstore 6 t4 t9).bind fun _ =>
 (mload (some 6) t4).bind fun r0 =>
 M.pure (.ret [r0]))
noncomputable def zkm:Fn':=(T zcE).getD noF
theorem zwl:T zcE = some zkm:=by kernel_rfl
theorem zxw (G:Sem') (t0 t1:V):execK G zkm.rv zkm.body [] [] (params 0 [t0,t1]) = zqw G t0 t1:=by kernel_rfl
def zlW (G:Sem'):List V → M V
 | [t0,t1]=>fin (zqw G t0 t1)
 | _=>M.fail
theorem zyn {g:Sem'} (hg:Sims g (sem T)) (args:List V):Sim (zlW g args) (sem T zcE args):=by
 unfold zlW
 split
 ·exact zad zwl (Nat.le_of_ble_eq_true (by kernel_rfl)) hg (zxw g _ _)
 ·exact zaa
def zmr (G:Sem') (t0 t1:V):M Res :=
 (mbox zag t0).bind fun t2 =>
 (mbox zam (V.agg [(V.int .i64 0),(V.int .i64 0),V.nils,V.nils,V.nils])).bind fun t4 =>
 (M.lift (Ax.bin .lss t1 (V.int .i64 0))).bind fun t8 =>
 (guarded [(0,t8)] (some (0,false)) (M.pure t1)).bind fun t10 =>
 (guarded [(0,t8)] (some (0,false)) (M.lift (Ax.bin .geq t10 (V.int .i64 64)))).bind fun t11 =>
 (M.lift (Ax.pick t8 (V.bool true) t11)).bind fun t12 =>
 M.ite t12
 ((M.lift (Ax.build [(V.int .i64 0),(V.int .i64 0),V.nils,V.nils,V.nils] [])).bind fun t13 =>
 (mstore 5 t4 t13).bind fun _ =>
 (mload (some 5) t4).bind fun r0 =>
 M.pure (.ret [r0,(V.bool false)]))
 ((M.lift (Ax.bin .add t1 (V.int .i64 64))).bind fun t15 =>
 (M.lift (Ax.faddr 0 t2)).bind fun t16 =>
 (mload none t16).bind fun t17 =>
 (M.lift (Ax.bin .sub t15 t17)).bind fun t18 =>
 (M.lift (Ax.bin .rem t18 (V.int .i64 64))).bind fun t19 =>
 (M.lift (Ax.faddr 2 t2)).bind fun t21 =>
 (mload none t21).bind fun t22 =>
 (M.lift (vlen t22)).bind fun t23 =>
 (M.lift (Ax.bin .geq t19 t23)).bind fun t24 =>
 M.ite t24
 ((M.lift (Ax.build [(V.int .i64 0),(V.int .i64 0),V.nils,V.nils,V.nils] [])).bind fun t25 =>
 (mstore 5 t4 t25).bind fun _ =>
 (mload (some 5) t4).bind fun r0 =>
 M.pure (.ret [r0,(V.bool false)]))
 ((M.lift (Ax.faddr 2 t2)).bind fun t26 =>
 (mload none t26).bind fun t27 =>
 (M.lift (Ax.iaddr none 5 t27 t19)).bind fun t29 =>
 (mload (some 5) t29).bind fun t30 =>
 (G zdK [t30]).bind fun t31 =>
 (mstore 5 t4 t31).bind fun _ =>
 (mload (some 5) t4).bind fun r0 =>
 M.pure (.ret [r0,(V.bool true)])))
noncomputable def zhA:Fn':=(T zcc).getD noF
theorem zr4:T zcc = some zhA:=by kernel_rfl
theorem zs5 (G:Sem') (t0 t1:V):execK G zhA.rv zhA.body [] [] (params 0 [t0,t1]) = zmr G t0 t1:=by kernel_rfl
def ziT (G:Sem'):List V → M V
 | [t0,t1]=>fin (zmr G t0 t1)
 | _=>M.fail
theorem ztQ {g:Sem'} (hg:Sims g (sem T)) (args:List V):Sim (ziT g args) (sem T zcc args):=by
 unfold ziT
 split
 ·exact zad zr4 (Nat.le_of_ble_eq_true (by kernel_rfl)) hg (zs5 g _ _)
 ·exact zaa
def zjY (G:Sem') (t0 t1:V):M Res :=
 (M.lift (Ax.nilck t0)).bind fun t5 =>
 (M.lift (Ax.faddr 1 t5)).bind fun t6 =>
 (mload none t6).bind fun t7 =>
 (M.lift (Ax.bin .eql t7 (V.int .i64 0))).bind fun t8 =>
 M.join (M.ite t8
 ((M.lift (Ax.nilck t0)).bind fun t11 =>
 (M.lift (Ax.faddr 1 t11)).bind fun t12 =>
 (mstore 1 t12 t1).bind fun _ =>
 M.pure (.nrm []))
 (M.pure (.nrm []))) fun _ =>
 M.pure (.ret [])
noncomputable def zfw:Fn':=(T zaM).getD noF
theorem zor:T zaM = some zfw:=by kernel_rfl
theorem zpp (G:Sem') (t0 t1:V):execK G zfw.rv zfw.body [] [] (params 0 [t0,t1]) = zjY G t0 t1:=by kernel_rfl
def zgm (G:Sem'):List V → M V
 | [t0,t1]=>fin (zjY G t0 t1)
 | _=>M.fail
theorem zp8 {g:Sem'} (hg:Sims g (sem T)) (args:List V):Sim (zgm g args) (sem T zaM args):=by
 unfold zgm
 split
 ·exact zad zor (Nat.le_of_ble_eq_true (by kernel_rfl)) hg (zpp g _ _)
 ·exact zaa
def zof (G:Sem') (t8 t0 t2 t6:V) (L:List V):M Res :=
 (M.lift (Ax.bin .lss (L.getD 1 .undef) t8)).bind fun t10 =>
 M.ite t10
 (M.blk 1 (
 (G zaf [t0,t2]).bind fun t14 =>
 (mslit zgp 1 [(V.int .i64 0)] [(0,1,t14)]).bind fun t15 =>
 (mappend zgp 1 8 (L.getD 0 .undef) t15).bind fun t16 =>
 M.pure (.nrm [t16])) fun L0 =>
 (M.lift (Ax.bin .add (L.getD 1 .undef) (V.int .i64 1))).bind fun t17 =>
 M.pure (.nrm [(L0.getD 0 .undef),t17]))
 (M.pure (.ex 0 [(L.getD 0 .undef)]))
def zjX (G:Sem') (t0 t1 t2:V):M Res :=
 M.blk 0 (
 M.iter (zof G t1 t0 t2 V.nils) [V.nils,(V.int .i64 0)]) fun L1 =>
 M.pure (.ret [(L1.getD 0 .undef)])
noncomputable def zfv:Fn':=(T za1).getD noF
theorem zoq:T za1 = some zfv:=by kernel_rfl
theorem zpo (G:Sem') (t0 t1 t2:V):execK G zfv.rv zfv.body [] [] (params 0 [t0,t1,t2]) = zjX G t0 t1 t2:=by kernel_rfl
def zgl (G:Sem'):List V → M V
 | [t0,t1,t2]=>fin (zjX G t0 t1 t2)
 | _=>M.fail
theorem zp7 {g:Sem'} (hg:Sims g (sem T)) (args:List V):Sim (zgl g args) (sem T za1 args):=by
 unfold zgl
 split
 ·exact zad zoq (Nat.le_of_ble_eq_true (by kernel_rfl)) hg (zpo g _ _ _)
 ·exact zaa
def zpd (G:Sem') (t0:V) (L:List V):M Res :=
 (M.lift (Ax.bin .gtr (L.getD 1 .undef) (V.int .i64 0))).bind fun t8 =>
 M.ite t8
 (M.blk 1 (
 (M.lift (vlen (L.getD 0 .undef))).bind fun t12 =>
 (M.lift (Ax.bin .geq t12 (V.int .i64 16))).bind fun t13 =>
 M.ite t13
 ((G zaM [t0,(V.int .i64 4)]).bind fun t15 =>
 M.pure (.ret [V.nils]))
 ((M.lift (Ax.bin .mul (V.int .i64 4) (L.getD 1 .undef))).bind fun t19 =>
 (G zaf [t0,t19]).bind fun t20 =>
 (M.lift (Ax.bin .add t20 (V.int .i64 1))).bind fun t21 =>
 (mslit zgp 1 [(V.int .i64 0)] [(0,1,t21)]).bind fun t22 =>
 (mappend zgp 1 8 (L.getD 0 .undef) t22).bind fun t23 =>
 M.pure (.nrm [t23]))) fun L0 =>
 (G zaf [t0,(V.int .i64 2)]).bind fun t10 =>
 M.pure (.nrm [(L0.getD 0 .undef),t10]))
 (M.pure (.ex 0 [(L.getD 0 .undef)]))
def zkA (G:Sem') (t0:V):M Res :=
 (G zaf [t0,(V.int .i64 2)]).bind fun t6 =>
 M.blk 0 (
 M.iter (zpd G t0) [V.nils,t6]) fun L1 =>
 M.pure (.ret [(L1.getD 0 .undef)])
noncomputable def zgd:Fn':=(T zch).getD noF
theorem zpZ:T zch = some zgd:=by kernel_rfl
theorem zqg (G:Sem') (t0:V):execK G zgd.rv zgd.body [] [] (params 0 [t0]) = zkA G t0:=by kernel_rfl
def zgO (G:Sem'):List V → M V
 | [t0]=>fin (zkA G t0)
 | _=>M.fail
theorem zqN {g:Sem'} (hg:Sims g (sem T)) (args:List V):Sim (zgO g args) (sem T zch args):=by
 unfold zgO
 split
 ·exact zad zpZ (Nat.le_of_ble_eq_true (by kernel_rfl)) hg (zqg g _)
 ·exact zaa
def zlf (G:Sem') (t0:V):M Res :=
 (M.lift (Ax.nilck t0)).bind fun t4 =>
 (M.lift (Ax.faddr 0 t4)).bind fun t5 =>
 (mload none t5).bind fun t6 =>
 (M.lift (vlen t6)).bind fun t7 =>
 (M.lift (Ax.bin .mul (V.int .i64 8) t7)).bind fun t8 =>
 (M.lift (Ax.nilck t0)).bind fun t10 =>
 (M.lift (Ax.faddr 1 t10)).bind fun t11 =>
 (mload none t11).bind fun t12 =>
 (M.lift (Ax.bin .sub t8 t12)).bind fun t13 =>
 M.pure (.ret [t13])
noncomputable def zgE:Fn':=(T zbT).getD noF
theorem zqI:T zbT = some zgE:=by kernel_rfl
theorem zrk (G:Sem') (t0:V):execK G zgE.rv zgE.body [] [] (params 0 [t0]) = zlf G t0:=by kernel_rfl
def zhM (G:Sem'):List V → M V
 | [t0]=>fin (zlf G t0)
 | _=>M.fail
theorem zsc {g:Sem'} (hg:Sims g (sem T)) (args:List V):Sim (zhM g args) (sem T zbT args):=by
 unfold zhM
 split
 ·exact zad zqI (Nat.le_of_ble_eq_true (by kernel_rfl)) hg (zrk g _)
 ·exact zaa
def zej (G:Sem') (t0 t1:V):M Res :=
 (G zaV [t0,t1]).bind fun t7 =>
 (M.lift (Ax.bin .geq t7 (V.int .i64 0))).bind fun t8 =>
 M.pure (.ret [t8])
noncomputable def zcl:Fn':=(T zaA).getD noF
theorem zhN:T zaA = some zcl:=by kernel_rfl
theorem zhR (G:Sem') (t0 t1:V):execK G zcl.rv zcl.body [] [] (params 0 [t0,t1]) = zej G t0 t1:=by kernel_rfl
def zcw (G:Sem'):List V → M V
 | [t0,t1]=>fin (zej G t0 t1)
 | _=>M.fail
theorem zh2 {g:Sem'} (hg:Sims g (sem T)) (args:List V):Sim (zcw g args) (sem T zaA args):=by
 unfold zcw
 split
 ·exact zad zhN (Nat.le_of_ble_eq_true (by kernel_rfl)) hg (zhR g _ _)
 ·exact zaa
def zfk (G:Sem') (t0:V):M Res :=
 (M.lift (eqr .sl false t0 V.nils)).bind fun t4 =>
 M.ite t4
 (M.pure (.ret [V.nils]))
 ((mslit zfo 0 [(V.int .u16 0)] []).bind fun t5 =>
 (mappend zfo 1 2 t5 t0).bind fun t7 =>
 M.pure (.ret [t7]))
noncomputable def zcQ:Fn':=(T zaX).getD noF
theorem zja:T zaX = some zcQ:=by kernel_rfl
theorem zju (G:Sem') (t0:V):execK G zcQ.rv zcQ.body [] [] (params 0 [t0]) = zfk G t0:=by kernel_rfl
def zc2 (G:Sem'):List V → M V
 | [t0]=>fin (zfk G t0)
 | _=>M.fail
theorem zj3 {g:Sem'} (hg:Sims g (sem T)) (args:List V):Sim (zc2 g args) (sem T zaX args):=by
 unfold zc2
 split
 ·exact zad zja (Nat.le_of_ble_eq_true (by kernel_rfl)) hg (zju g _)
 ·exact zaa
def zhP (G:Sem') (t0:V) (L:List V):M Res :=
 (M.lift (Ax.bin .lss (L.getD 0 .undef) (L.getD 1 .undef))).bind fun t9 =>
 M.ite t9
 (M.blk 1 (
 (M.lift (Ax.iaddr none 1 t0 (L.getD 1 .undef))).bind fun t20 =>
 (mload none t20).bind fun t21 =>
 (M.lift (Ax.iaddr none 1 t0 (L.getD 0 .undef))).bind fun t24 =>
 (mload none t24).bind fun t25 =>
 (M.lift (Ax.iaddr none 1 t0 (L.getD 0 .undef))).bind fun t26 =>
 (mstore 1 t26 t21).bind fun _ =>
 (M.lift (Ax.iaddr none 1 t0 (L.getD 1 .undef))).bind fun t27 =>
 (mstore 1 t27 t25).bind fun _ =>
 M.pure (.nrm [])) fun _ =>
 (M.lift (Ax.bin .add (L.getD 0 .undef) (V.int .i64 1))).bind fun t11 =>
 (M.lift (Ax.bin .sub (L.getD 1 .undef) (V.int .i64 1))).bind fun t13 =>
 M.pure (.nrm [t11,t13]))
 (M.pure (.ex 0 []))
def zet (G:Sem') (t0:V):M Res :=
 (M.lift (vlen t0)).bind fun t5 =>
 (M.lift (Ax.bin .sub t5 (V.int .i64 1))).bind fun t6 =>
 M.blk 0 (
 M.iter (zhP G t0) [(V.int .i64 0),t6]) fun _ =>
 M.pure (.ret [])
noncomputable def zcn:Fn':=(T zaO).getD noF
theorem zhZ:T zaO = some zcn:=by kernel_rfl
theorem ziz (G:Sem') (t0:V):execK G zcn.rv zcn.body [] [] (params 0 [t0]) = zet G t0:=by kernel_rfl
def zcF (G:Sem'):List V → M V
 | [t0]=>fin (zet G t0)
 | _=>M.fail
theorem ziZ {g:Sem'} (hg:Sims g (sem T)) (args:List V):Sim (zcF g args) (sem T zaO args):=by
 unfold zcF
 split
 ·exact zad zhZ (Nat.le_of_ble_eq_true (by kernel_rfl)) hg (ziz g _)
 ·exact zaa
end Go.Ax.Cc
/- CiK7 -/
namespace Go.Ax.Cc
open Go.Proofs
def zAc (G:Sem') (t26 t25 t2 t3:V) (L:List V):M Res :=
 (M.lift (Ax.bin .lss (L.getD 1 .undef) t26)).bind fun t28 =>
 M.ite t28
 (M.blk 1 (
 (M.lift (Ax.iaddr none 1 t25 (L.getD 1 .undef))).bind fun t29 =>
 (mload none t29).bind fun t30 =>
 (G zeb [(L.getD 0 .undef),t30,(V.int .i64 4)]).bind fun t33 =>
 M.pure (.nrm [t33])) fun L0 =>
 (M.lift (Ax.bin .add (L.getD 1 .undef) (V.int .i64 1))).bind fun t34 =>
 M.pure (.nrm [(L0.getD 0 .undef),t34]))
 (M.pure (.ex 0 [(L.getD 0 .undef)]))
def zwX (G:Sem') (t0:V):M Res :=
 (mbox zbc t0).bind fun t1 =>
 (mload (some 10) t1).bind fun t8 =>
 (G zit [t8]).bind fun t9 =>
 (M.lift (Ax.un .not t9)).bind fun t10 =>
 M.ite t10
 (M.pure (.ret [V.nils,(V.int .i64 1)]))
 ((mload (some 10) t1).bind fun t11 =>
 (M.lift (Ax.faddr 2 t1)).bind fun t13 =>
 (mload none t13).bind fun t14 =>
 (M.lift (Ax.cint .u32 t14)).bind fun t15 =>
 M.getH.bind fun h0 =>
 (G zgS [t11]).bind fun t12 =>
 M.getH.bind fun h0' =>
 (M.unch t13 h0 h0').bind fun _ =>
 (G zeb [t12,t15,(V.int .i64 2)]).bind fun t16 =>
 (M.lift (Ax.faddr 3 t1)).bind fun t18 =>
 (mload none t18).bind fun t19 =>
 (M.lift (Ax.faddr 4 t1)).bind fun t21 =>
 (mload none t21).bind fun t22 =>
 M.getH.bind fun h1 =>
 (G zeb [t16,t19,(V.int .i64 4)]).bind fun t20 =>
 M.getH.bind fun h1' =>
 (M.unch t21 h1 h1').bind fun _ =>
 (G zeb [t20,t22,(V.int .i64 4)]).bind fun t23 =>
 (M.lift (Ax.faddr 5 t1)).bind fun t24 =>
 (mload none t24).bind fun t25 =>
 (M.lift (vlen t25)).bind fun t26 =>
 M.blk 0 (
 M.iter (zAc G t26 t25 V.nils (V.int .i64 0)) [t23,(V.int .i64 0)]) fun L1 =>
 (M.lift (Ax.faddr 6 t1)).bind fun t35 =>
 (mload none t35).bind fun t36 =>
 (M.lift (Ax.bin .neq t36 (V.int .i64 0))).bind fun t37 =>
 M.join (M.ite t37
 ((mload (some 10) t1).bind fun t38 =>
 (G zed [t38]).bind fun t39 =>
 (M.lift (Ax.faddr 6 t1)).bind fun t41 =>
 (mload none t41).bind fun t42 =>
 (M.lift (Ax.cint .u32 t42)).bind fun t43 =>
 (G zeb [(L1.getD 0 .undef),t43,(V.int .i64 2)]).bind fun t44 =>
 (M.lift (vlen t39)).bind fun t46 =>
 (M.lift (Ax.bin .quo t46 (V.int .i64 4))).bind fun t47 =>
 (M.lift (Ax.cint .u32 t47)).bind fun t48 =>
 (G zeb [t44,t48,(V.int .i64 2)]).bind fun t49 =>
 (mappend zaw 1 1 t49 t39).bind fun t52 =>
 M.pure (.nrm [t52]))
 (M.pure (.nrm [(L1.getD 0 .undef)]))) fun L2 =>
 (M.lift (vlen (L2.getD 0 .undef))).bind fun t54 =>
 (M.lift (Ax.faddr 9 t1)).bind fun t55 =>
 (mload none t55).bind fun t56 =>
 (M.lift (vlen t56)).bind fun t57 =>
 (M.lift (Ax.bin .add t54 t57)).bind fun t58 =>
 (M.lift (Ax.faddr 8 t1)).bind fun t59 =>
 (mload none t59).bind fun t60 =>
 (M.lift (Ax.bin .add t58 t60)).bind fun t61 =>
 (M.lift (Ax.bin .gtr t61 (V.int .i64 1200))).bind fun t62 =>
 M.ite t62
 (M.pure (.ret [V.nils,(V.int .i64 4)]))
 ((M.lift (Ax.faddr 9 t1)).bind fun t64 =>
 (mload none t64).bind fun t65 =>
 (mappend zaw 1 1 (L2.getD 0 .undef) t65).bind fun t66 =>
 (M.lift (Ax.faddr 8 t1)).bind fun t67 =>
 (mload none t67).bind fun t68 =>
 (M.lift (Ax.bin .gtr t68 (V.int .i64 0))).bind fun t69 =>
 M.join (M.ite t69
 ((M.lift (Ax.faddr 8 t1)).bind fun t71 =>
 (mload none t71).bind fun t72 =>
 (mappendz zaw 1 [(V.int .u8 0)] t66 t72).bind fun t73 =>
 (M.lift (vlen t73)).bind fun t76 =>
 (M.lift (Ax.bin .sub t76 (V.int .i64 1))).bind fun t77 =>
 (M.lift (Ax.faddr 8 t1)).bind fun t78 =>
 (mload none t78).bind fun t79 =>
 (M.lift (Ax.cint .u8 t79)).bind fun t80 =>
 (M.lift (Ax.iaddr none 1 t73 t77)).bind fun t81 =>
 (mstore 1 t81 t80).bind fun _ =>
 M.pure (.nrm [t73]))
 (M.pure (.nrm [t66]))) fun L3 =>
 M.pure (.ret [(L3.getD 0 .undef),(V.int .i64 0)])))
noncomputable def zoz:Fn':=(T zfy).getD noF
theorem zAX:T zfy = some zoz:=by kernel_rfl
theorem zCe (G:Sem') (t0:V):execK G zoz.rv zoz.body [] [] (params 0 [t0]) = zwX G t0:=by kernel_rfl
def zro (G:Sem'):List V → M V
 | [t0]=>fin (zwX G t0)
 | _=>M.fail
theorem zC0 {g:Sem'} (hg:Sims g (sem T)) (args:List V):Sim (zro g args) (sem T zfy args):=by
 unfold zro
 split
 ·exact zad zAX (Nat.le_of_ble_eq_true (by kernel_rfl)) hg (zCe g _)
 ·exact zaa
def zsH (G:Sem') (t0 t1:V):M Res :=
 (mbox zbP t0).bind fun t2 =>
 (mbox zag t1).bind fun t3 =>
 (mload (some 19) t2).bind fun t9 =>
 (mload (some 6) t3).bind fun t10 =>
 (G zg6 [t9,t10]).bind fun t11 =>
 (M.lift (Ax.ext 0 t11)).bind fun t12 =>
 (M.lift (Ax.ext 1 t11)).bind fun t13 =>
 (mbox zam (V.agg [(V.int .i64 0),(V.int .i64 0),V.nils,V.nils,V.nils])).bind fun t5 =>
 (mstore 5 t5 t12).bind fun _ =>
 (mload (some 19) t2).bind fun t14 =>
 (mload (some 6) t3).bind fun t15 =>
 (G zcE [t14,t15]).bind fun t16 =>
 (mbox zag (V.agg [(V.int .i64 0),(V.int .i64 0),V.nils,(V.int .i64 0),V.nils,V.nils])).bind fun t7 =>
 (mstore 6 t7 t16).bind fun _ =>
 M.blk 0 (
 (M.lift (Ax.un .not t13)).bind fun t19 =>
 (guarded [(0,t19)] (some (0,false)) (M.lift (Ax.faddr 4 t2))).bind fun t21 =>
 (guarded [(0,t19)] (some (0,false)) (mload none t21)).bind fun t22 =>
 (guarded [(0,t19)] (some (0,false)) (M.lift (Ax.un .not t22))).bind fun t23 =>
 (guarded [(0,t19)] (some (0,false)) (M.pure t23)).bind fun t24 =>
 (guarded [(0,t24)] (some (0,true)) (M.lift (Ax.faddr 5 t2))).bind fun t25 =>
 (guarded [(0,t24)] (some (0,true)) (mload (some 6) t25)).bind fun t26 =>
 (guarded [(0,t24)] (some (0,true)) (G ze1 [t26])).bind fun t27 =>
 (guarded [(0,t24)] (some (0,true)) (M.lift (Ax.un .not t27))).bind fun t28 =>
 (guarded [(0,t19)] (some (0,false)) (M.lift (Ax.pick t24 t28 (V.bool false)))).bind fun t29 =>
 (M.lift (Ax.pick t19 (V.bool true) t29)).bind fun t30 =>
 M.ite t30
 (M.pure (.ret [(V.bool false)]))
 ((M.lift (Ax.faddr 11 t2)).bind fun t32 =>
 (mload none t32).bind fun t33 =>
 (M.lift (Ax.un .not t33)).bind fun t34 =>
 (guarded [(0,t34)] (some (0,true)) (M.lift (Ax.faddr 12 t2))).bind fun t36 =>
 (guarded [(0,t34)] (some (0,true)) (mload none t36)).bind fun t37 =>
 (guarded [(0,t34)] (some (0,true)) (M.lift (Ax.bin .neq t37 (V.int .u32 0)))).bind fun t38 =>
 (M.lift (Ax.pick t34 t38 (V.bool false))).bind fun t39 =>
 (guarded [(0,t39)] (some (0,false)) (M.lift (Ax.faddr 12 t2))).bind fun t41 =>
 (guarded [(0,t39)] (some (0,false)) (mload none t41)).bind fun t42 =>
 (guarded [(0,t39)] (some (0,false)) (M.lift (Ax.cint .u64 t42))).bind fun t43 =>
 (guarded [(0,t39)] (some (0,false)) (M.lift (Ax.faddr 1 t7))).bind fun t44 =>
 (guarded [(0,t39)] (some (0,false)) (mload none t44)).bind fun t45 =>
 (guarded [(0,t39)] (some (0,false)) (M.lift (Ax.bin .shr t43 t45))).bind fun t46 =>
 (guarded [(0,t39)] (some (0,false)) (M.lift (Ax.bin .neq t46 (V.int .u64 0)))).bind fun t47 =>
 (M.lift (Ax.pick t39 (V.bool true) t47)).bind fun t48 =>
 M.ite t48
 (M.pure (.ret [(V.bool false)]))
 ((M.lift (Ax.faddr 13 t2)).bind fun t50 =>
 (mload none t50).bind fun t51 =>
 (guarded [(0,t51)] (some (0,true)) (M.lift (Ax.faddr 16 t2))).bind fun t53 =>
 (guarded [(0,t51)] (some (0,true)) (mload none t53)).bind fun t54 =>
 (guarded [(0,t51)] (some (0,true)) (M.lift (Ax.faddr 1 t7))).bind fun t55 =>
 (guarded [(0,t51)] (some (0,true)) (mload none t55)).bind fun t56 =>
 (guarded [(0,t51)] (some (0,true)) (G za4 [t54,t56,(V.int .i64 0),(V.int .i64 3)])).bind fun t57 =>
 (guarded [(0,t51)] (some (0,true)) (M.lift (Ax.un .not t57))).bind fun t58 =>
 (M.lift (Ax.pick t51 t58 (V.bool false))).bind fun t59 =>
 (guarded [(0,t59)] (some (0,false)) (M.lift (Ax.faddr 13 t2))).bind fun t61 =>
 (guarded [(0,t59)] (some (0,false)) (mload none t61)).bind fun t62 =>
 (guarded [(0,t59)] (some (0,false)) (M.lift (Ax.un .not t62))).bind fun t63 =>
 (guarded [(0,t59)] (some (0,false)) (M.pure t63)).bind fun t64 =>
 (guarded [(0,t64)] (some (0,true)) (M.lift (Ax.faddr 16 t2))).bind fun t65 =>
 (guarded [(0,t64)] (some (0,true)) (mload none t65)).bind fun t66 =>
 (guarded [(0,t64)] (some (0,true)) (M.lift (Ax.faddr 2 t5))).bind fun t67 =>
 (guarded [(0,t64)] (some (0,true)) (mload none t67)).bind fun t68 =>
 (guarded [(0,t64)] (some (0,true)) (G zaY [t66,t68])).bind fun t69 =>
 (guarded [(0,t64)] (some (0,true)) (M.lift (Ax.un .not t69))).bind fun t70 =>
 (guarded [(0,t59)] (some (0,false)) (M.lift (Ax.pick t64 t70 (V.bool false)))).bind fun t71 =>
 (M.lift (Ax.pick t59 (V.bool true) t71)).bind fun t72 =>
 M.ite t72
 (M.pure (.ret [(V.bool false)]))
 ((M.lift (Ax.faddr 14 t2)).bind fun t74 =>
 (mload none t74).bind fun t75 =>
 (guarded [(0,t75)] (some (0,true)) (M.lift (Ax.faddr 17 t2))).bind fun t77 =>
 (guarded [(0,t75)] (some (0,true)) (mload none t77)).bind fun t78 =>
 (guarded [(0,t75)] (some (0,true)) (G zdr [t78,(V.int .i64 16),(V.int .i64 4096)])).bind fun t79 =>
 (guarded [(0,t75)] (some (0,true)) (M.lift (Ax.un .not t79))).bind fun t80 =>
 (M.lift (Ax.pick t75 t80 (V.bool false))).bind fun t81 =>
 (guarded [(0,t81)] (some (0,false)) (M.lift (Ax.faddr 14 t2))).bind fun t83 =>
 (guarded [(0,t81)] (some (0,false)) (mload none t83)).bind fun t84 =>
 (guarded [(0,t81)] (some (0,false)) (M.lift (Ax.un .not t84))).bind fun t85 =>
 (guarded [(0,t81)] (some (0,false)) (M.pure t85)).bind fun t86 =>
 (guarded [(0,t86)] (some (0,true)) (M.lift (Ax.faddr 17 t2))).bind fun t87 =>
 (guarded [(0,t86)] (some (0,true)) (mload none t87)).bind fun t88 =>
 (guarded [(0,t86)] (some (0,true)) (M.lift (Ax.faddr 3 t5))).bind fun t89 =>
 (guarded [(0,t86)] (some (0,true)) (mload none t89)).bind fun t90 =>
 (guarded [(0,t86)] (some (0,true)) (G zaY [t88,t90])).bind fun t91 =>
 (guarded [(0,t86)] (some (0,true)) (M.lift (Ax.un .not t91))).bind fun t92 =>
 (guarded [(0,t81)] (some (0,false)) (M.lift (Ax.pick t86 t92 (V.bool false)))).bind fun t93 =>
 (M.lift (Ax.pick t81 (V.bool true) t93)).bind fun t94 =>
 M.ite t94
 (M.pure (.ret [(V.bool false)]))
 (M.pure (.nrm [])))))) fun _ =>
 (M.lift (Ax.faddr 15 t2)).bind fun t95 =>
 (mload none t95).bind fun t96 =>
 M.ite t96
 ((M.lift (Ax.faddr 18 t2)).bind fun t97 =>
 (mload none t97).bind fun t98 =>
 (M.lift (Ax.faddr 3 t7)).bind fun t99 =>
 (mload none t99).bind fun t100 =>
 (G za4 [t98,t100,(V.int .i64 0),(V.int .i64 255)]).bind fun t101 =>
 M.pure (.ret [t101]))
 ((M.lift (Ax.faddr 18 t2)).bind fun t102 =>
 (mload none t102).bind fun t103 =>
 (M.lift (Ax.faddr 4 t5)).bind fun t104 =>
 (mload none t104).bind fun t105 =>
 (G zaY [t103,t105]).bind fun t106 =>
 M.pure (.ret [t106]))
noncomputable def zlF:Fn':=(T ze3).getD noF
theorem zx9:T ze3 = some zlF:=by kernel_rfl
theorem zyM (G:Sem') (t0 t1:V):execK G zlF.rv zlF.body [] [] (params 0 [t0,t1]) = zsH G t0 t1:=by kernel_rfl
def zny (G:Sem'):List V → M V
 | [t0,t1]=>fin (zsH G t0 t1)
 | _=>M.fail
theorem zz2 {g:Sem'} (hg:Sims g (sem T)) (args:List V):Sim (zny g args) (sem T ze3 args):=by
 unfold zny
 split
 ·exact zad zx9 (Nat.le_of_ble_eq_true (by kernel_rfl)) hg (zyM g _ _)
 ·exact zaa
def zk9 (G:Sem') (t0 t1 t2 t3 t4:V):M Res :=
 (mbox zbc t2).bind fun t7 =>
 (mbox zbP t3).bind fun t8 =>
 (M.lift (Ax.faddr 4 t8)).bind fun t15 =>
 (mload none t15).bind fun t16 =>
 (guarded [(0,t16)] (some (0,true)) (M.lift (Ax.faddr 0 t8))).bind fun t18 =>
 (guarded [(0,t16)] (some (0,true)) (mload none t18)).bind fun t19 =>
 (M.lift (Ax.pick t16 t19 (V.bool false))).bind fun t20 =>
 (M.lift (Ax.nilck t0)).bind fun t23 =>
 (M.lift (Ax.faddr 3 t23)).bind fun t24 =>
 (mload (some 3) t24).bind fun t25 =>
 (G zj9 [t25,t1,t20]).bind fun t28 =>
 (M.lift (Ax.ext 0 t28)).bind fun t29 =>
 (M.lift (Ax.ext 1 t28)).bind fun t30 =>
 (M.lift (Ax.ext 2 t28)).bind fun t31 =>
 (mbox zdO (V.agg [(V.bool false),(V.int .i64 0),(V.int .i64 0)])).bind fun t12 =>
 (mstore 3 t12 t29).bind fun _ =>
 (mload (some 3) t12).bind fun t33 =>
 (M.lift (Ax.nilck t0)).bind fun t34 =>
 (M.lift (Ax.faddr 3 t34)).bind fun t35 =>
 (mstore 3 t35 t33).bind fun _ =>
 (guarded [(0,t30)] (some (0,true)) (M.pure t20)).bind fun t38 =>
 (M.lift (Ax.pick t30 t38 (V.bool false))).bind fun t39 =>
 M.join (M.ite t39
 ((G zcH [t0]).bind fun t41 =>
 M.pure (.nrm []))
 (M.pure (.nrm []))) fun _ =>
 M.join (M.ite t31
 ((M.lift (Ax.nilck t0)).bind fun t45 =>
 (M.lift (Ax.faddr 6 t45)).bind fun t46 =>
 (mload (some 7) t46).bind fun t47 =>
 (M.lift (Ax.faddr 3 t7)).bind fun t48 =>
 (mload none t48).bind fun t49 =>
 (M.lift (Ax.faddr 3 t8)).bind fun t50 =>
 (mload none t50).bind fun t51 =>
 (G zfL [t47,t49,t51,t4]).bind fun t53 =>
 (M.lift (Ax.nilck t0)).bind fun t54 =>
 (M.lift (Ax.faddr 6 t54)).bind fun t55 =>
 (mstore 7 t55 t53).bind fun _ =>
 M.pure (.nrm []))
 (M.pure (.nrm []))) fun _ =>
 M.pure (.ret [t30])
noncomputable def zgy:Fn':=(T zcp).getD noF
theorem zqC:T zcp = some zgy:=by kernel_rfl
theorem zre (G:Sem') (t0 t1 t2 t3 t4:V):execK G zgy.rv zgy.body [] [] (params 0 [t0,t1,t2,t3,t4]) = zk9 G t0 t1 t2 t3 t4:=by kernel_rfl
def zhG (G:Sem'):List V → M V
 | [t0,t1,t2,t3,t4]=>fin (zk9 G t0 t1 t2 t3 t4)
 | _=>M.fail
theorem zr6 {g:Sem'} (hg:Sims g (sem T)) (args:List V):Sim (zhG g args) (sem T zcp args):=by
 unfold zhG
 split
 ·exact zad zqC (Nat.le_of_ble_eq_true (by kernel_rfl)) hg (zre g _ _ _ _ _)
 ·exact zaa
def zo3 (G:Sem') (t0 t1 t2 t3:V):M Res :=
 (mbox zbP t1).bind fun t5 =>
 (mbox zag t2).bind fun t6 =>
 (M.lift (Ax.nilck t0)).bind fun t12 =>
 (M.lift (Ax.faddr 15 t12)).bind fun t13 =>
 (mload none t13).bind fun t14 =>
 M.ite t14
 (M.pure (.ret [(V.int .i64 2)]))
 ((mload (some 6) t6).bind fun t16 =>
 (M.lift (Ax.nilck t0)).bind fun t19 =>
 (M.lift (Ax.faddr 1 t19)).bind fun t20 =>
 (mload none t20).bind fun t21 =>
 (M.lift (Ax.nilck t0)).bind fun t23 =>
 (M.lift (Ax.faddr 2 t23)).bind fun t24 =>
 (mload none t24).bind fun t25 =>
 (G zg4 [t16,t3,t21,t25]).bind fun t26 =>
 (M.lift (Ax.ext 0 t26)).bind fun t27 =>
 (M.lift (Ax.ext 1 t26)).bind fun t28 =>
 M.blk 0 (
 (M.lift (Ax.un .not t28)).bind fun t31 =>
 M.ite t31
 (M.pure (.ret [(V.int .i64 3)]))
 ((mload (some 19) t5).bind fun t33 =>
 (G zj7 [t33,t27]).bind fun t35 =>
 (M.lift (Ax.un .not t35)).bind fun t36 =>
 M.ite t36
 (M.pure (.ret [(V.int .i64 4)]))
 ((M.lift (Ax.faddr 0 t5)).bind fun t38 =>
 (mload none t38).bind fun t39 =>
 (guarded [(0,t39)] (some (0,true)) (M.pure t0)).bind fun t41 =>
 (guarded [(0,t39)] (some (0,true)) (M.lift (Ax.nilck t41))).bind fun t42 =>
 (guarded [(0,t39)] (some (0,true)) (M.lift (Ax.faddr 13 t42))).bind fun t43 =>
 (guarded [(0,t39)] (some (0,true)) (mload none t43)).bind fun t44 =>
 (guarded [(0,t39)] (some (0,true)) (M.lift (Ax.faddr 3 t5))).bind fun t45 =>
 (guarded [(0,t39)] (some (0,true)) (mload none t45)).bind fun t46 =>
 (guarded [(0,t39)] (some (0,true)) (M.lift (Ax.faddr 17 t5))).bind fun t47 =>
 (guarded [(0,t39)] (some (0,true)) (mload none t47)).bind fun t48 =>
 (guarded [(0,t39)] (some (0,true)) (G ziw [t44,t46,t48])).bind fun t49 =>
 (guarded [(0,t39)] (some (0,true)) (M.lift (Ax.un .not t49))).bind fun t50 =>
 (M.lift (Ax.pick t39 t50 (V.bool false))).bind fun t51 =>
 M.ite t51
 ((M.lift (Ax.nilck t0)).bind fun t53 =>
 (M.lift (Ax.faddr 15 t53)).bind fun t54 =>
 (mstore 1 t54 (V.bool true)).bind fun _ =>
 M.pure (.ret [(V.int .i64 5)]))
 ((M.lift (Ax.faddr 0 t5)).bind fun t56 =>
 (mload none t56).bind fun t57 =>
 (M.lift (Ax.un .not t57)).bind fun t58 =>
 (guarded [(0,t58)] (some (0,true)) (M.pure t0)).bind fun t60 =>
 (guarded [(0,t58)] (some (0,true)) (M.lift (Ax.nilck t60))).bind fun t61 =>
 (guarded [(0,t58)] (some (0,true)) (M.lift (Ax.faddr 13 t61))).bind fun t62 =>
 (guarded [(0,t58)] (some (0,true)) (mload none t62)).bind fun t63 =>
 (guarded [(0,t58)] (some (0,true)) (M.lift (Ax.faddr 3 t5))).bind fun t64 =>
 (guarded [(0,t58)] (some (0,true)) (mload none t64)).bind fun t65 =>
 (guarded [(0,t58)] (some (0,true)) (G zfA [t63,t65])).bind fun t66 =>
 (guarded [(0,t58)] (some (0,true)) (M.lift (Ax.un .not t66))).bind fun t67 =>
 (M.lift (Ax.pick t58 t67 (V.bool false))).bind fun t68 =>
 M.ite t68
 (M.pure (.ret [(V.int .i64 6)]))
 (M.pure (.nrm [])))))) fun _ =>
 M.pure (.ret [(V.int .i64 0)]))
noncomputable def zjg:Fn':=(T zdG).getD noF
theorem zvf:T zdG = some zjg:=by kernel_rfl
theorem zvU (G:Sem') (t0 t1 t2 t3:V):execK G zjg.rv zjg.body [] [] (params 0 [t0,t1,t2,t3]) = zo3 G t0 t1 t2 t3:=by kernel_rfl
def zkJ (G:Sem'):List V → M V
 | [t0,t1,t2,t3]=>fin (zo3 G t0 t1 t2 t3)
 | _=>M.fail
theorem zwt {g:Sem'} (hg:Sims g (sem T)) (args:List V):Sim (zkJ g args) (sem T zdG args):=by
 unfold zkJ
 split
 ·exact zad zvf (Nat.le_of_ble_eq_true (by kernel_rfl)) hg (zvU g _ _ _ _)
 ·exact zaa
def zy2 (G:Sem') (t0 t1 t2 t3:V):M Res :=
 (mbox ziW t0).bind fun t4 =>
 (mbox ziW (V.agg [(V.bool false),(V.int .u16 0),(V.int .u32 0),(V.int .u32 0),(V.int .u16 0),(V.int .u16 0),(V.int .i64 0)])).bind fun t8 =>
 (M.lift (Ax.faddr 0 t4)).bind fun t14 =>
 (mload none t14).bind fun t15 =>
 M.join (M.ite t15
 ((M.lift (Ax.faddr 1 t4)).bind fun t16 =>
 (mload none t16).bind fun t17 =>
 (M.lift (Ax.bin .add t17 (V.int .u16 1))).bind fun t18 =>
 M.pure (.nrm [t18]))
 (M.pure (.nrm [(V.int .u16 0)]))) fun L0 =>
 (M.lift (Ax.faddr 3 t4)).bind fun t20 =>
 (mload none t20).bind fun t21 =>
 (M.lift (Ax.bin .add t1 t21)).bind fun t22 =>
 (M.lift (Ax.faddr 5 t4)).bind fun t24 =>
 (mload none t24).bind fun t25 =>
 (M.lift (Ax.bin .add t2 t25)).bind fun t26 =>
 (M.lift (Ax.faddr 2 t4)).bind fun t28 =>
 (mload none t28).bind fun t29 =>
 (M.lift (Ax.bin .sub t22 t29)).bind fun t30 =>
 (M.lift (Ax.faddr 0 t4)).bind fun t31 =>
 (mload none t31).bind fun t32 =>
 (M.lift (Ax.un .not t32)).bind fun t33 =>
 (guarded [(0,t33)] (some (0,false)) (M.pure t30)).bind fun t35 =>
 (guarded [(0,t33)] (some (0,false)) (M.lift (Ax.bin .geq t35 (V.int .u32 1)))).bind fun t36 =>
 (guarded [(0,t33)] (some (0,false)) (M.pure t36)).bind fun t37 =>
 (guarded [(0,t37)] (some (0,true)) (M.pure t30)).bind fun t38 =>
 (guarded [(0,t37)] (some (0,true)) (M.lift (Ax.bin .lss t38 (V.int .u32 2147483648)))).bind fun t39 =>
 (guarded [(0,t33)] (some (0,false)) (M.lift (Ax.pick t37 t39 (V.bool false)))).bind fun t40 =>
 (M.lift (Ax.pick t33 (V.bool true) t40)).bind fun t41 =>
 M.join (M.ite t41
 ((M.lift (Ax.faddr 2 t4)).bind fun t43 =>
 (mstore 1 t43 t22).bind fun _ =>
 M.pure (.nrm []))
 (M.pure (.nrm []))) fun _ =>
 (M.lift (Ax.faddr 4 t4)).bind fun t45 =>
 (mload none t45).bind fun t46 =>
 (M.lift (Ax.bin .sub t26 t46)).bind fun t47 =>
 (M.lift (Ax.faddr 0 t4)).bind fun t48 =>
 (mload none t48).bind fun t49 =>
 (M.lift (Ax.un .not t49)).bind fun t50 =>
 (guarded [(0,t50)] (some (0,false)) (M.pure t47)).bind fun t52 =>
 (guarded [(0,t50)] (some (0,false)) (M.lift (Ax.bin .geq t52 (V.int .u16 1)))).bind fun t53 =>
 (guarded [(0,t50)] (some (0,false)) (M.pure t53)).bind fun t54 =>
 (guarded [(0,t54)] (some (0,true)) (M.pure t47)).bind fun t55 =>
 (guarded [(0,t54)] (some (0,true)) (M.lift (Ax.bin .lss t55 (V.int .u16 32768)))).bind fun t56 =>
 (guarded [(0,t50)] (some (0,false)) (M.lift (Ax.pick t54 t56 (V.bool false)))).bind fun t57 =>
 (M.lift (Ax.pick t50 (V.bool true) t57)).bind fun t58 =>
 M.join (M.ite t58
 ((M.lift (Ax.faddr 4 t4)).bind fun t60 =>
 (mstore 1 t60 t26).bind fun _ =>
 M.pure (.nrm []))
 (M.pure (.nrm []))) fun _ =>
 (M.lift (Ax.faddr 0 t4)).bind fun t63 =>
 (mstore 1 t63 (V.bool true)).bind fun _ =>
 (M.lift (Ax.faddr 1 t4)).bind fun t64 =>
 (mstore 1 t64 (L0.getD 0 .undef)).bind fun _ =>
 (M.lift (Ax.faddr 6 t4)).bind fun t65 =>
 (mstore 1 t65 t3).bind fun _ =>
 (mload (some 7) t4).bind fun t66 =>
 (mstore 7 t8 t66).bind fun _ =>
 (mload (some 7) t8).bind fun r0 =>
 M.pure (.ret [r0,(L0.getD 0 .undef),t22,t26])
noncomputable def zqR:Fn':=(T ziq).getD noF
theorem zCH:T ziq = some zqR:=by kernel_rfl
theorem zDA (G:Sem') (t0 t1 t2 t3:V):execK G zqR.rv zqR.body [] [] (params 0 [t0,t1,t2,t3]) = zy2 G t0 t1 t2 t3:=by kernel_rfl
def zur (G:Sem'):List V → M V
 | [t0,t1,t2,t3]=>fin (zy2 G t0 t1 t2 t3)
 | _=>M.fail
theorem zED {g:Sem'} (hg:Sims g (sem T)) (args:List V):Sim (zur g args) (sem T ziq args):=by
 unfold zur
 split
 ·exact zad zCH (Nat.le_of_ble_eq_true (by kernel_rfl)) hg (zDA g _ _ _ _)
 ·exact zaa
def zB3 (G:Sem') (t0 t1 t2:V):M Res :=
 (mbox zbc t0).bind fun t3 =>
 (mbox zbc (V.agg [(V.bool false),(V.int .i64 0),(V.int .u16 0),(V.int .u32 0),(V.int .u32 0),V.nils,(V.int .i64 0),V.nils,(V.int .i64 0),V.nils])).bind fun t6 =>
 (mload (some 10) t3).bind fun t9 =>
 (G zfO [t9]).bind fun t10 =>
 (mstore 10 t3 t10).bind fun _ =>
 (mload (some 10) t3).bind fun t11 =>
 (G zkp [t11,t1]).bind fun t13 =>
 (M.lift (Ax.bin .lss t13 (V.int .i64 0))).bind fun t15 =>
 M.ite t15
 ((mload (some 10) t3).bind fun t16 =>
 (mstore 10 t6 t16).bind fun _ =>
 (mload (some 10) t6).bind fun r0 =>
 M.pure (.ret [r0,(V.bool false)]))
 ((M.lift (Ax.faddr 7 t3)).bind fun t17 =>
 (mload none t17).bind fun t18 =>
 M.getH.bind fun h0 =>
 (G zaN [t2]).bind fun t21 =>
 M.getH.bind fun h0' =>
 (M.unch t17 h0 h0').bind fun _ =>
 (M.lift (Ax.iaddr none 2 t18 t13)).bind fun t22 =>
 (M.lift (Ax.faddr 1 t22)).bind fun t23 =>
 (mstore 1 t23 t21).bind fun _ =>
 (mload (some 10) t3).bind fun t24 =>
 (mstore 10 t6 t24).bind fun _ =>
 (mload (some 10) t6).bind fun r0 =>
 M.pure (.ret [r0,(V.bool true)]))
noncomputable def ztV:Fn':=(T zj6).getD noF
theorem zEo:T zj6 = some ztV:=by kernel_rfl
theorem zE5 (G:Sem') (t0 t1 t2:V):execK G ztV.rv ztV.body [] [] (params 0 [t0,t1,t2]) = zB3 G t0 t1 t2:=by kernel_rfl
def zxE (G:Sem'):List V → M V
 | [t0,t1,t2]=>fin (zB3 G t0 t1 t2)
 | _=>M.fail
theorem zFz {g:Sem'} (hg:Sims g (sem T)) (args:List V):Sim (zxE g args) (sem T zj6 args):=by
 unfold zxE
 split
 ·exact zad zEo (Nat.le_of_ble_eq_true (by kernel_rfl)) hg (zE5 g _ _ _)
 ·exact zaa
def zpg (G:Sem') (t0 t1:V):M Res :=
 (G zaN [t0]).bind fun t7 =>
 (M.lift (vlen t7)).bind fun t9 =>
 (M.lift (Ax.bin .geq t9 (V.int .i64 3))).bind fun t10 =>
 M.join (M.ite t10
 ((M.lift (Ax.bin .shr t1 (V.int .u64 8))).bind fun t14 =>
 (M.lift (Ax.cint .u8 t14)).bind fun t15 =>
 (M.lift (Ax.cint .u8 t1)).bind fun t17 =>
 (M.lift (Ax.iaddr none 1 t7 (V.int .i64 1))).bind fun t18 =>
 (mstore 1 t18 t15).bind fun _ =>
 (M.lift (Ax.iaddr none 1 t7 (V.int .i64 2))).bind fun t19 =>
 (mstore 1 t19 t17).bind fun _ =>
 M.pure (.nrm []))
 (M.pure (.nrm []))) fun _ =>
 M.pure (.ret [t7])
noncomputable def zjp:Fn':=(T zdL).getD noF
theorem zvo:T zdL = some zjp:=by kernel_rfl
theorem zv3 (G:Sem') (t0 t1:V):execK G zjp.rv zjp.body [] [] (params 0 [t0,t1]) = zpg G t0 t1:=by kernel_rfl
def zkS (G:Sem'):List V → M V
 | [t0,t1]=>fin (zpg G t0 t1)
 | _=>M.fail
theorem zwC {g:Sem'} (hg:Sims g (sem T)) (args:List V):Sim (zkS g args) (sem T zdL args):=by
 unfold zkS
 split
 ·exact zad zvo (Nat.le_of_ble_eq_true (by kernel_rfl)) hg (zv3 g _ _)
 ·exact zaa
def zo2 (G:Sem') (t0 t1 t2:V):M Res :=
 (G zdo [t0,t1]).bind fun t9 =>
 (M.lift (Ax.bin .geq t9 (V.int .i64 0))).bind fun t11 =>
 M.join (M.ite t11
 ((M.lift (Ax.nilck t0)).bind fun t14 =>
 (M.lift (Ax.faddr 0 t14)).bind fun t15 =>
 (mload none t15).bind fun t16 =>
 (M.lift (Ax.bin .add t9 (V.int .i64 1))).bind fun t19 =>
 (G zao [t16,t9,t19]).bind fun t20 =>
 (M.lift (Ax.nilck t0)).bind fun t21 =>
 (M.lift (Ax.faddr 0 t21)).bind fun t22 =>
 (mstore 1 t22 t20).bind fun _ =>
 M.pure (.nrm []))
 (M.pure (.nrm []))) fun _ =>
 (M.lift (Ax.nilck t0)).bind fun t25 =>
 (M.lift (Ax.faddr 0 t25)).bind fun t26 =>
 (mload none t26).bind fun t27 =>
 M.getH.bind fun h0 =>
 (G zaN [t2]).bind fun t30 =>
 M.getH.bind fun h0' =>
 (M.unch t26 h0 h0').bind fun _ =>
 (M.lift (Ax.build [(V.int .u16 0),V.nils] [(0,1,t1),(1,1,t30)])).bind fun t31 =>
 (mslit zj0 1 [(V.int .u16 0),V.nils] [(0,2,t31)]).bind fun t32 =>
 (mappend zj0 2 32 t27 t32).bind fun t33 =>
 (M.lift (Ax.nilck t0)).bind fun t34 =>
 (M.lift (Ax.faddr 0 t34)).bind fun t35 =>
 (mstore 1 t35 t33).bind fun _ =>
 (M.lift (Ax.nilck t0)).bind fun t37 =>
 (M.lift (Ax.faddr 0 t37)).bind fun t38 =>
 (mload none t38).bind fun t39 =>
 (M.lift (vlen t39)).bind fun t40 =>
 (M.lift (Ax.bin .gtr t40 (V.int .i64 64))).bind fun t41 =>
 M.join (M.ite t41
 ((M.lift (Ax.nilck t0)).bind fun t44 =>
 (M.lift (Ax.faddr 0 t44)).bind fun t45 =>
 (mload none t45).bind fun t46 =>
 (G zao [t46,(V.int .i64 0),(V.int .i64 1)]).bind fun t47 =>
 (M.lift (Ax.nilck t0)).bind fun t48 =>
 (M.lift (Ax.faddr 0 t48)).bind fun t49 =>
 (mstore 1 t49 t47).bind fun _ =>
 M.pure (.nrm []))
 (M.pure (.nrm []))) fun _ =>
 M.pure (.ret [])
noncomputable def zjf:Fn':=(T zdF).getD noF
theorem zve:T zdF = some zjf:=by kernel_rfl
theorem zvT (G:Sem') (t0 t1 t2:V):execK G zjf.rv zjf.body [] [] (params 0 [t0,t1,t2]) = zo2 G t0 t1 t2:=by kernel_rfl
def zkI (G:Sem'):List V → M V
 | [t0,t1,t2]=>fin (zo2 G t0 t1 t2)
 | _=>M.fail
theorem zws {g:Sem'} (hg:Sims g (sem T)) (args:List V):Sim (zkI g args) (sem T zdF args):=by
 unfold zkI
 split
 ·exact zad zve (Nat.le_of_ble_eq_true (by kernel_rfl)) hg (zvT g _ _ _)
 ·exact zaa
def zhb (G:Sem') (t0 t1:V):M Res :=
 (mbox zev t1).bind fun t3 =>
 (M.lift (Ax.nilck t0)).bind fun t6 =>
 (M.lift (Ax.faddr 1 t6)).bind fun t7 =>
 (mload none t7).bind fun t8 =>
 (M.lift (vlen t8)).bind fun t9 =>
 (M.lift (Ax.nilck t0)).bind fun t11 =>
 (M.lift (Ax.faddr 0 t11)).bind fun t12 =>
 (mload none t12).bind fun t13 =>
 (M.lift (Ax.bin .geq t9 t13)).bind fun t14 =>
 M.ite t14
 (M.pure (.ret [(V.bool false)]))
 ((M.lift (Ax.nilck t0)).bind fun t17 =>
 (M.lift (Ax.faddr 1 t17)).bind fun t18 =>
 (mload none t18).bind fun t19 =>
 (mload (some 3) t3).bind fun t20 =>
 (mslit zev 1 [(V.int .i64 0),(V.int .i64 0),V.nils] [(0,3,t20)]).bind fun t21 =>
 (mappend zev 3 40 t19 t21).bind fun t22 =>
 (M.lift (Ax.nilck t0)).bind fun t23 =>
 (M.lift (Ax.faddr 1 t23)).bind fun t24 =>
 (mstore 1 t24 t22).bind fun _ =>
 M.pure (.ret [(V.bool true)]))
noncomputable def zdW:Fn':=(T zbk).getD noF
theorem zlk:T zbk = some zdW:=by kernel_rfl
theorem zlM (G:Sem') (t0 t1:V):execK G zdW.rv zdW.body [] [] (params 0 [t0,t1]) = zhb G t0 t1:=by kernel_rfl
def zen (G:Sem'):List V → M V
 | [t0,t1]=>fin (zhb G t0 t1)
 | _=>M.fail
theorem zl5 {g:Sem'} (hg:Sims g (sem T)) (args:List V):Sim (zen g args) (sem T zbk args):=by
 unfold zen
 split
 ·exact zad zlk (Nat.le_of_ble_eq_true (by kernel_rfl)) hg (zlM g _ _)
 ·exact zaa
def zyw (G:Sem') (t18 t17:V) (L:List V):M Res :=
 (M.lift (Ax.bin .lss (L.getD 1 .undef) t18)).bind fun t20 =>
 M.ite t20
 (M.blk 1 (
 (M.lift (Ax.iaddr none 16 t17 (L.getD 1 .undef))).bind fun t21 =>
 (mload (some 16) t21).bind fun t22 =>
 (mbox zaF (V.agg [(V.int .i64 0),(V.int .u32 0),(V.int .u32 0),(V.int .u64 0),(V.int .u32 0),(V.int .u32 0),(V.int .u32 0),V.nils,V.nils,V.nils,(V.int .i64 0),(V.int .u32 0),V.nils,(V.int .i64 0),(V.int .i64 0),V.nils])).bind fun t6 =>
 (mstore 16 t6 t22).bind fun _ =>
 (mload (some 16) t6).bind fun t24 =>
 (G zgU [t24]).bind fun t25 =>
 (M.lift (Ax.ext 0 t25)).bind fun t26 =>
 (M.lift (Ax.ext 1 t25)).bind fun t27 =>
 (M.lift (Ax.ext 2 t25)).bind fun t28 =>
 (M.lift (vlen (L.getD 0 .undef))).bind fun t30 =>
 (M.lift (Ax.bin .add t30 (V.int .i64 4))).bind fun t31 =>
 (M.lift (vlen t26)).bind fun t33 =>
 (M.lift (Ax.bin .add t31 t33)).bind fun t34 =>
 (M.lift (Ax.bin .gtr t34 (V.int .i64 1200))).bind fun t35 =>
 M.ite t35
 (M.pure (.ret [V.nils,(V.int .i64 4)]))
 ((M.lift (Ax.bin .or (V.int .i64 128) t28)).bind fun t38 =>
 (M.lift (Ax.cint .u8 t38)).bind fun t39 =>
 (M.lift (Ax.cint .u8 t27)).bind fun t41 =>
 (mslit zaw 2 [(V.int .u8 0)] [(0,1,t39),(1,1,t41)]).bind fun t42 =>
 (mappend zaw 1 1 (L.getD 0 .undef) t42).bind fun t43 =>
 (M.lift (vlen t26)).bind fun t46 =>
 (M.lift (Ax.bin .quo t46 (V.int .i64 4))).bind fun t47 =>
 (M.lift (Ax.cint .u64 t47)).bind fun t48 =>
 (G zbn [t43,t48,(V.int .i64 2)]).bind fun t49 =>
 (mappend zaw 1 1 t49 t26).bind fun t51 =>
 M.pure (.nrm [t51]))) fun L0 =>
 (M.lift (Ax.bin .add (L.getD 1 .undef) (V.int .i64 1))).bind fun t52 =>
 M.pure (.nrm [(L0.getD 0 .undef),t52]))
 (M.pure (.ex 0 [(L.getD 0 .undef)]))
def zuZ (G:Sem') (t0:V):M Res :=
 (M.lift (vlen t0)).bind fun t11 =>
 (M.lift (Ax.bin .eql t11 (V.int .i64 0))).bind fun t12 =>
 (guarded [(0,t12)] (some (0,false)) (M.pure t0)).bind fun t14 =>
 (guarded [(0,t12)] (some (0,false)) (G zak [t14,(V.fn zee [])])).bind fun t15 =>
 (M.lift (Ax.pick t12 (V.bool true) t15)).bind fun t16 =>
 M.ite t16
 (M.pure (.ret [V.nils,(V.int .i64 1)]))
 ((M.lift (vlen t0)).bind fun t18 =>
 M.blk 0 (
 M.iter (zyw G t18 t0) [V.nils,(V.int .i64 0)]) fun L1 =>
 M.pure (.ret [(L1.getD 0 .undef),(V.int .i64 0)]))
noncomputable def zmZ:Fn':=(T zfS).getD noF
theorem zzB:T zfS = some zmZ:=by kernel_rfl
theorem zAB (G:Sem') (t0:V):execK G zmZ.rv zmZ.body [] [] (params 0 [t0]) = zuZ G t0:=by kernel_rfl
def zpF (G:Sem'):List V → M V
 | [t0]=>fin (zuZ G t0)
 | _=>M.fail
theorem zBA {g:Sem'} (hg:Sims g (sem T)) (args:List V):Sim (zpF g args) (sem T zfS args):=by
 unfold zpF
 split
 ·exact zad zzB (Nat.le_of_ble_eq_true (by kernel_rfl)) hg (zAB g _)
 ·exact zaa
def zB9 (G:Sem') (t0:V):M Res :=
 (mbox zqk (V.agg [(V.int .i64 0),(V.int .i64 0),(V.int .i64 0),(V.int .i64 0),(V.int .i64 0),(V.int .i64 0),(V.int .i64 0)])).bind fun t2 =>
 M.blk 0 (
 (M.lift (Ax.bin .eql t0 (V.int .i64 1))).bind fun t6 =>
 M.ite t6
 ((M.lift (Ax.build [(V.int .i64 0),(V.int .i64 0),(V.int .i64 0),(V.int .i64 0),(V.int .i64 0),(V.int .i64 0),(V.int .i64 0)] [(0,1,(V.int .i64 3))])).bind fun t7 =>
 (mstore 7 t2 t7).bind fun _ =>
 (mload (some 7) t2).bind fun r0 =>
 M.pure (.ret [r0,(V.bool true)]))
 ((M.lift (Ax.bin .eql t0 (V.int .i64 2))).bind fun t9 =>
 M.join (M.ite t9
 (M.pure (.nrm [t9]))
 ((M.lift (Ax.bin .eql t0 (V.int .i64 9))).bind fun t10 =>
 M.join (M.ite t10
 (M.pure (.nrm [t10]))
 ((M.lift (Ax.bin .eql t0 (V.int .i64 23))).bind fun t11 =>
 M.pure (.nrm [t11]))) fun L0 =>
 M.pure (.nrm [(L0.getD 0 .undef)]))) fun L1 =>
 M.ite (L1.getD 0 .undef)
 ((M.lift (Ax.build [(V.int .i64 0),(V.int .i64 0),(V.int .i64 0),(V.int .i64 0),(V.int .i64 0),(V.int .i64 0),(V.int .i64 0)] [])).bind fun t12 =>
 (mstore 7 t2 t12).bind fun _ =>
 (mload (some 7) t2).bind fun r0 =>
 M.pure (.ret [r0,(V.bool true)]))
 ((M.lift (Ax.bin .eql t0 (V.int .i64 3))).bind fun t14 =>
 M.join (M.ite t14
 (M.pure (.nrm [t14]))
 ((M.lift (Ax.bin .eql t0 (V.int .i64 6))).bind fun t15 =>
 M.pure (.nrm [t15]))) fun L2 =>
 M.ite (L2.getD 0 .undef)
 ((M.lift (Ax.build [(V.int .i64 0),(V.int .i64 0),(V.int .i64 0),(V.int .i64 0),(V.int .i64 0),(V.int .i64 0),(V.int .i64 0)] [(1,1,(V.int .i64 7))])).bind fun t16 =>
 (mstore 7 t2 t16).bind fun _ =>
 (mload (some 7) t2).bind fun r0 =>
 M.pure (.ret [r0,(V.bool true)]))
 ((M.lift (Ax.bin .eql t0 (V.int .i64 4))).bind fun t18 =>
 M.ite t18
 ((M.lift (Ax.build [(V.int .i64 0),(V.int .i64 0),(V.int .i64 0),(V.int .i64 0),(V.int .i64 0),(V.int .i64 0),(V.int .i64 0)] [(3,1,(V.int .i64 2)),(4,1,(V.int .i64 65535)),(5,1,(V.int .i64 4)),(6,1,(V.int .i64 4))])).bind fun t19 =>
 (mstore 7 t2 t19).bind fun _ =>
 (mload (some 7) t2).bind fun r0 =>
 M.pure (.ret [r0,(V.bool true)]))
 ((M.lift (Ax.bin .eql t0 (V.int .i64 5))).bind fun t21 =>
 M.ite t21
 ((M.lift (Ax.build [(V.int .i64 0),(V.int .i64 0),(V.int .i64 0),(V.int .i64 0),(V.int .i64 0),(V.int .i64 0),(V.int .i64 0)] [(1,1,(V.int .i64 7)),(3,1,(V.int .i64 3)),(4,1,(V.int .i64 7))])).bind fun t22 =>
 (mstore 7 t2 t22).bind fun _ =>
 (mload (some 7) t2).bind fun r0 =>
 M.pure (.ret [r0,(V.bool true)]))
 ((M.lift (Ax.bin .eql t0 (V.int .i64 7))).bind fun t24 =>
 M.join (M.ite t24
 (M.pure (.nrm [t24]))
 ((M.lift (Ax.bin .eql t0 (V.int .i64 21))).bind fun t25 =>
 M.pure (.nrm [t25]))) fun L3 =>
 M.ite (L3.getD 0 .undef)
 ((M.lift (Ax.build [(V.int .i64 0),(V.int .i64 0),(V.int .i64 0),(V.int .i64 0),(V.int .i64 0),(V.int .i64 0),(V.int .i64 0)] [(1,1,(V.int .i64 7)),(2,1,(V.int .i64 65535)),(3,1,(V.int .i64 31)),(5,1,(V.int .i64 1)),(6,1,(V.int .i64 200))])).bind fun t26 =>
 (mstore 7 t2 t26).bind fun _ =>
 (mload (some 7) t2).bind fun r0 =>
 M.pure (.ret [r0,(V.bool true)]))
 ((M.lift (Ax.bin .eql t0 (V.int .i64 8))).bind fun t28 =>
 M.join (M.ite t28
 (M.pure (.nrm [t28]))
 ((M.lift (Ax.bin .eql t0 (V.int .i64 22))).bind fun t29 =>
 M.pure (.nrm [t29]))) fun L4 =>
 M.ite (L4.getD 0 .undef)
 ((M.lift (Ax.build [(V.int .i64 0),(V.int .i64 0),(V.int .i64 0),(V.int .i64 0),(V.int .i64 0),(V.int .i64 0),(V.int .i64 0)] [(2,1,(V.int .i64 65535))])).bind fun t30 =>
 (mstore 7 t2 t30).bind fun _ =>
 (mload (some 7) t2).bind fun r0 =>
 M.pure (.ret [r0,(V.bool true)]))
 ((M.lift (Ax.bin .eql t0 (V.int .i64 17))).bind fun t32 =>
 M.ite t32
 ((M.lift (Ax.build [(V.int .i64 0),(V.int .i64 0),(V.int .i64 0),(V.int .i64 0),(V.int .i64 0),(V.int .i64 0),(V.int .i64 0)] [(0,1,(V.int .i64 3)),(1,1,(V.int .i64 7)),(2,1,(V.int .i64 65535)),(3,1,(V.int .i64 255)),(4,1,(V.int .i64 65535)),(5,1,(V.int .i64 8)),(6,1,(V.int .i64 8))])).bind fun t33 =>
 (mstore 7 t2 t33).bind fun _ =>
 (mload (some 7) t2).bind fun r0 =>
 M.pure (.ret [r0,(V.bool true)]))
 ((M.lift (Ax.bin .eql t0 (V.int .i64 18))).bind fun t35 =>
 M.ite t35
 ((M.lift (Ax.build [(V.int .i64 0),(V.int .i64 0),(V.int .i64 0),(V.int .i64 0),(V.int .i64 0),(V.int .i64 0),(V.int .i64 0)] [(3,1,(V.int .i64 13)),(4,1,(V.int .i64 9))])).bind fun t36 =>
 (mstore 7 t2 t36).bind fun _ =>
 (mload (some 7) t2).bind fun r0 =>
 M.pure (.ret [r0,(V.bool true)]))
 ((M.lift (Ax.bin .eql t0 (V.int .i64 19))).bind fun t38 =>
 M.ite t38
 ((M.lift (Ax.build [(V.int .i64 0),(V.int .i64 0),(V.int .i64 0),(V.int .i64 0),(V.int .i64 0),(V.int .i64 0),(V.int .i64 0)] [(1,1,(V.int .i64 7)),(2,1,(V.int .i64 65535)),(3,1,(V.int .i64 255)),(4,1,(V.int .i64 63))])).bind fun t39 =>
 (mstore 7 t2 t39).bind fun _ =>
 (mload (some 7) t2).bind fun r0 =>
 M.pure (.ret [r0,(V.bool true)]))
 ((M.lift (Ax.bin .eql t0 (V.int .i64 20))).bind fun t41 =>
 M.ite t41
 ((M.lift (Ax.build [(V.int .i64 0),(V.int .i64 0),(V.int .i64 0),(V.int .i64 0),(V.int .i64 0),(V.int .i64 0),(V.int .i64 0)] [(1,1,(V.int .i64 7)),(2,1,(V.int .i64 65535)),(3,1,(V.int .i64 255))])).bind fun t42 =>
 (mstore 7 t2 t42).bind fun _ =>
 (mload (some 7) t2).bind fun r0 =>
 M.pure (.ret [r0,(V.bool true)]))
 ((M.lift (Ax.bin .eql t0 (V.int .i64 24))).bind fun t44 =>
 M.ite t44
 ((M.lift (Ax.build [(V.int .i64 0),(V.int .i64 0),(V.int .i64 0),(V.int .i64 0),(V.int .i64 0),(V.int .i64 0),(V.int .i64 0)] [(1,1,(V.int .i64 7)),(5,1,(V.int .i64 4)),(6,1,(V.int .i64 4))])).bind fun t45 =>
 (mstore 7 t2 t45).bind fun _ =>
 (mload (some 7) t2).bind fun r0 =>
 M.pure (.ret [r0,(V.bool true)]))
 (M.pure (.nrm [])))))))))))))) fun _ =>
 (M.lift (Ax.build [(V.int .i64 0),(V.int .i64 0),(V.int .i64 0),(V.int .i64 0),(V.int .i64 0),(V.int .i64 0),(V.int .i64 0)] [])).bind fun t46 =>
 (mstore 7 t2 t46).bind fun _ =>
 (mload (some 7) t2).bind fun r0 =>
 M.pure (.ret [r0,(V.bool false)])
noncomputable def ztY:Fn':=(T zj8).getD noF
theorem zEr:T zj8 = some ztY:=by kernel_rfl
theorem zE8 (G:Sem') (t0:V):execK G ztY.rv ztY.body [] [] (params 0 [t0]) = zB9 G t0:=by kernel_rfl
def zxH (G:Sem'):List V → M V
 | [t0]=>fin (zB9 G t0)
 | _=>M.fail
theorem zFC {g:Sem'} (hg:Sims g (sem T)) (args:List V):Sim (zxH g args) (sem T zj8 args):=by
 unfold zxH
 split
 ·exact zad zEr (Nat.le_of_ble_eq_true (by kernel_rfl)) hg (zE8 g _)
 ·exact zaa
def zss (G:Sem') (t0 t1:V):M Res :=
 (M.lift (Ax.bin .geq t0 (V.int .i64 0))).bind fun t6 =>
 (guarded [(0,t6)] (some (0,true)) (M.pure t0)).bind fun t8 =>
 (guarded [(0,t6)] (some (0,true)) (M.pure t1)).bind fun t9 =>
 (guarded [(0,t6)] (some (0,true)) (M.lift (Ax.bin .leq t8 t9))).bind fun t10 =>
 (M.lift (Ax.pick t6 t10 (V.bool false))).bind fun t11 =>
 M.pure (.ret [t11])
noncomputable def zlA:Fn':=(T zb1).getD noF
theorem zx4:T zb1 = some zlA:=by kernel_rfl
theorem zyH (G:Sem') (t0 t1:V):execK G zlA.rv zlA.body [] [] (params 0 [t0,t1]) = zss G t0 t1:=by kernel_rfl
def znt (G:Sem'):List V → M V
 | [t0,t1]=>fin (zss G t0 t1)
 | _=>M.fail
theorem zzX {g:Sem'} (hg:Sims g (sem T)) (args:List V):Sim (znt g args) (sem T zb1 args):=by
 unfold znt
 split
 ·exact zad zx4 (Nat.le_of_ble_eq_true (by kernel_rfl)) hg (zyH g _ _)
 ·exact zaa
def zvP (G:Sem') (t8 t7 t1:V) (L:List V):M Res :=
 (M.lift (Ax.bin .lss (L.getD 0 .undef) t8)).bind fun t10 =>
 M.ite t10
 (M.blk 1 (
 (M.lift (Ax.iaddr none 1 t7 (L.getD 0 .undef))).bind fun t12 =>
 (mload none t12).bind fun t13 =>
 (M.lift (Ax.faddr 4 t1)).bind fun t14 =>
 (mload none t14).bind fun t15 =>
 (M.lift (Ax.bin .shr t15 (L.getD 0 .undef))).bind fun t17 =>
 (M.lift (Ax.bin .and t17 (V.int .i64 1))).bind fun t18 =>
 (M.lift (Ax.bin .eql t18 (V.int .i64 1))).bind fun t19 =>
 (guarded [(0,t19)] (some (0,true)) (M.pure t13)).bind fun t22 =>
 (guarded [(0,t19)] (some (0,true)) (M.lift (Ax.bin .gtr t22 (V.int .u8 63)))).bind fun t23 =>
 (M.lift (Ax.pick t19 t23 (V.bool false))).bind fun t24 =>
 (guarded [(0,t24)] (some (0,false)) (M.pure t19)).bind fun t26 =>
 (guarded [(0,t24)] (some (0,false)) (M.lift (Ax.un .not t26))).bind fun t27 =>
 (guarded [(0,t24)] (some (0,false)) (M.pure t27)).bind fun t28 =>
 (guarded [(0,t28)] (some (0,true)) (M.pure t13)).bind fun t29 =>
 (guarded [(0,t28)] (some (0,true)) (M.lift (Ax.bin .neq t29 (V.int .u8 255)))).bind fun t30 =>
 (guarded [(0,t24)] (some (0,false)) (M.lift (Ax.pick t28 t30 (V.bool false)))).bind fun t31 =>
 (M.lift (Ax.pick t24 (V.bool true) t31)).bind fun t32 =>
 M.ite t32
 (M.pure (.ret [(V.bool false)]))
 (M.pure (.nrm []))) fun _ =>
 (M.lift (Ax.bin .add (L.getD 0 .undef) (V.int .i64 1))).bind fun t33 =>
 M.pure (.nrm [t33]))
 (M.pure (.ex 0 []))
def zqr (G:Sem') (t0:V):M Res :=
 (mbox zbU t0).bind fun t1 =>
 (M.lift (Ax.faddr 6 t1)).bind fun t6 =>
 (mload none t6).bind fun t7 =>
 (M.lift (vlen t7)).bind fun t8 =>
 M.blk 0 (
 M.iter (zvP G t8 t7 t1) [(V.int .i64 0)]) fun _ =>
 (M.lift (Ax.faddr 5 t1)).bind fun t34 =>
 (mload none t34).bind fun t35 =>
 (M.lift (Ax.faddr 3 t1)).bind fun t36 =>
 (mload none t36).bind fun t37 =>
 (M.lift (Ax.bin .geq t35 t37)).bind fun t38 =>
 (guarded [(0,t38)] (some (0,true)) (M.lift (Ax.faddr 4 t1))).bind fun t40 =>
 (guarded [(0,t38)] (some (0,true)) (mload none t40)).bind fun t41 =>
 (guarded [(0,t38)] (some (0,true)) (M.lift (Ax.faddr 2 t1))).bind fun t42 =>
 (guarded [(0,t38)] (some (0,true)) (mload none t42)).bind fun t43 =>
 (guarded [(0,t38)] (some (0,true)) (M.lift (Ax.bin .shr t41 t43))).bind fun t44 =>
 (guarded [(0,t38)] (some (0,true)) (M.lift (Ax.bin .and t44 (V.int .i64 1)))).bind fun t45 =>
 (guarded [(0,t38)] (some (0,true)) (M.lift (Ax.bin .eql t45 (V.int .i64 1)))).bind fun t46 =>
 (M.lift (Ax.pick t38 t46 (V.bool false))).bind fun t47 =>
 M.pure (.ret [t47])
noncomputable def zkh:Fn':=(T zef).getD noF
theorem zwg:T zef = some zkh:=by kernel_rfl
theorem zxr (G:Sem') (t0:V):execK G zkh.rv zkh.body [] [] (params 0 [t0]) = zqr G t0:=by kernel_rfl
def zlR (G:Sem'):List V → M V
 | [t0]=>fin (zqr G t0)
 | _=>M.fail
theorem zyi {g:Sem'} (hg:Sims g (sem T)) (args:List V):Sim (zlR g args) (sem T zef args):=by
 unfold zlR
 split
 ·exact zad zwg (Nat.le_of_ble_eq_true (by kernel_rfl)) hg (zxr g _)
 ·exact zaa
def zyx (G:Sem') (t30 t29 t2 t3:V) (L:List V):M Res :=
 (M.lift (Ax.bin .lss (L.getD 1 .undef) t30)).bind fun t32 =>
 M.ite t32
 (M.blk 1 (
 (M.lift (Ax.iaddr none 1 t29 (L.getD 1 .undef))).bind fun t33 =>
 (mload none t33).bind fun t34 =>
 (M.lift (Ax.bin .shr t34 (V.int .u64 8))).bind fun t37 =>
 (M.lift (Ax.cint .u8 t37)).bind fun t38 =>
 (M.lift (Ax.cint .u8 t34)).bind fun t40 =>
 (mslit zaw 2 [(V.int .u8 0)] [(0,1,t38),(1,1,t40)]).bind fun t41 =>
 (mappend zaw 1 1 (L.getD 0 .undef) t41).bind fun t42 =>
 M.pure (.nrm [t42])) fun L0 =>
 (M.lift (Ax.bin .add (L.getD 1 .undef) (V.int .i64 1))).bind fun t43 =>
 M.pure (.nrm [(L0.getD 0 .undef),t43]))
 (M.pure (.ex 0 [(L.getD 0 .undef)]))
def zu7 (G:Sem') (t0:V):M Res :=
 (mbox zbU t0).bind fun t1 =>
 (mload (some 7) t1).bind fun t7 =>
 (G zfB [t7]).bind fun t8 =>
 (M.lift (Ax.un .not t8)).bind fun t9 =>
 M.ite t9
 (M.pure (.ret [V.nils,(V.int .i64 1)]))
 ((M.lift (Ax.faddr 0 t1)).bind fun t10 =>
 (mload none t10).bind fun t11 =>
 (M.lift (Ax.cint .u8 t11)).bind fun t12 =>
 (M.lift (Ax.faddr 1 t1)).bind fun t13 =>
 (mload none t13).bind fun t14 =>
 (M.lift (Ax.cint .u8 t14)).bind fun t15 =>
 (M.lift (Ax.faddr 2 t1)).bind fun t16 =>
 (mload none t16).bind fun t17 =>
 (M.lift (Ax.cint .u8 t17)).bind fun t18 =>
 (mslit zaw 3 [(V.int .u8 0)] [(0,1,t12),(1,1,t15),(2,1,t18)]).bind fun t19 =>
 (M.lift (Ax.faddr 3 t1)).bind fun t20 =>
 (mload none t20).bind fun t21 =>
 (M.lift (Ax.faddr 4 t1)).bind fun t22 =>
 (mload none t22).bind fun t23 =>
 (M.lift (Ax.faddr 5 t1)).bind fun t24 =>
 (mload none t24).bind fun t25 =>
 (M.lift (Ax.faddr 6 t1)).bind fun t26 =>
 (mload none t26).bind fun t27 =>
 (M.lift (vlen t27)).bind fun t28 =>
 (mslit zgp 4 [(V.int .i64 0)] [(0,1,t21),(1,1,t23),(2,1,t25),(3,1,t28)]).bind fun t29 =>
 (M.lift (vlen t29)).bind fun t30 =>
 M.blk 0 (
 M.iter (zyx G t30 t29 V.nils (V.int .i64 0)) [t19,(V.int .i64 0)]) fun L1 =>
 (M.lift (Ax.faddr 6 t1)).bind fun t45 =>
 (mload none t45).bind fun t46 =>
 (mappend zaw 1 1 (L1.getD 0 .undef) t46).bind fun t47 =>
 M.pure (.ret [t47,(V.int .i64 0)]))
noncomputable def zm7:Fn':=(T zfY).getD noF
theorem zzJ:T zfY = some zm7:=by kernel_rfl
theorem zAJ (G:Sem') (t0:V):execK G zm7.rv zm7.body [] [] (params 0 [t0]) = zu7 G t0:=by kernel_rfl
def zpN (G:Sem'):List V → M V
 | [t0]=>fin (zu7 G t0)
 | _=>M.fail
theorem zBI {g:Sem'} (hg:Sims g (sem T)) (args:List V):Sim (zpN g args) (sem T zfY args):=by
 unfold zpN
 split
 ·exact zad zzJ (Nat.le_of_ble_eq_true (by kernel_rfl)) hg (zAJ g _)
 ·exact zaa
def zuQ (G:Sem') (t0 t1:V):M Res :=
 (mbox zbO t0).bind fun t2 =>
 (mbox zbO (V.agg [(V.bool false),(V.bool false),(V.bool false),(V.bool false),(V.bool false),(V.bool false),(V.bool false),(V.bool false),(V.int .i64 0),(V.int .i64 0),(V.int .i64 0),(V.int .i64 0),(V.int .i64 0),(V.int .i64 0),(V.int .i64 0),(V.int .i64 0)])).bind fun t4 =>
 (mload (some 16) t2).bind fun t10 =>
 (G zb4 [t10]).bind fun t11 =>
 (M.lift (Ax.un .not t11)).bind fun t12 =>
 (guarded [(0,t12)] (some (0,false)) (M.pure t1)).bind fun t14 =>
 (guarded [(0,t12)] (some (0,false)) (G zeF [t14])).bind fun t15 =>
 (guarded [(0,t12)] (some (0,false)) (M.lift (Ax.un .not t15))).bind fun t16 =>
 (M.lift (Ax.pick t12 (V.bool true) t16)).bind fun t17 =>
 M.ite t17
 ((mload (some 16) t2).bind fun t18 =>
 (mstore 16 t4 t18).bind fun _ =>
 (mload (some 16) t4).bind fun r0 =>
 M.pure (.ret [r0,(V.int .i64 0),(V.int .i64 1)]))
 ((mload (some 16) t2).bind fun t20 =>
 (G zdQ [t20,t1]).bind fun t22 =>
 (M.lift (Ax.ext 0 t22)).bind fun t23 =>
 (M.lift (Ax.ext 1 t22)).bind fun t24 =>
 M.ite t24
 ((mload (some 16) t2).bind fun t26 =>
 (mstore 16 t4 t26).bind fun _ =>
 (mload (some 16) t4).bind fun r0 =>
 M.pure (.ret [r0,(V.int .i64 0),(V.int .i64 7)]))
 ((M.lift (Ax.faddr 0 t2)).bind fun t27 =>
 (M.lift (zcx (.arr 8) 1 t27 none none none)).bind fun t28 =>
 (G za2 [t28,(V.bool false)]).bind fun t29 =>
 (M.lift (Ax.bin .lss t29 (V.int .i64 0))).bind fun t31 =>
 M.ite t31
 ((mload (some 16) t2).bind fun t32 =>
 (mstore 16 t4 t32).bind fun _ =>
 (mload (some 16) t4).bind fun r0 =>
 M.pure (.ret [r0,(V.int .i64 0),(V.int .i64 5)]))
 ((M.lift (Ax.faddr 0 t2)).bind fun t36 =>
 (M.lift (Ax.iaddr (some 8) 1 t36 t29)).bind fun t37 =>
 (mstore 1 t37 (V.bool true)).bind fun _ =>
 (M.lift (Ax.faddr 8 t2)).bind fun t38 =>
 (M.lift (Ax.iaddr (some 8) 1 t38 t29)).bind fun t39 =>
 (mstore 1 t39 t1).bind fun _ =>
 (mload (some 16) t2).bind fun t40 =>
 (mstore 16 t4 t40).bind fun _ =>
 (mload (some 16) t4).bind fun r0 =>
 M.pure (.ret [r0,t29,(V.int .i64 0)]))))
noncomputable def zmQ:Fn':=(T zfN).getD noF
theorem zzs:T zfN = some zmQ:=by kernel_rfl
theorem zAs (G:Sem') (t0 t1:V):execK G zmQ.rv zmQ.body [] [] (params 0 [t0,t1]) = zuQ G t0 t1:=by kernel_rfl
def zpw (G:Sem'):List V → M V
 | [t0,t1]=>fin (zuQ G t0 t1)
 | _=>M.fail
theorem zBr {g:Sem'} (hg:Sims g (sem T)) (args:List V):Sim (zpw g args) (sem T zfN args):=by
 unfold zpw
 split
 ·exact zad zzs (Nat.le_of_ble_eq_true (by kernel_rfl)) hg (zAs g _ _)
 ·exact zaa
def zu4 (G:Sem') (t0 t1:V):M Res :=
 (mbox zbA t0).bind fun t2 =>
 (mbox zbA (V.agg [(V.int .i64 0),(V.bool false),(V.int .i64 0),(V.int .i64 0),(V.int .i64 0),(V.int .i64 0)])).bind fun t4 =>
 M.blk 0 (
 (mload (some 6) t2).bind fun t7 =>
 (G zcA [t7]).bind fun t8 =>
 (M.lift (Ax.un .not t8)).bind fun t9 =>
 (guarded [(0,t9)] (some (0,false)) (M.pure t1)).bind fun t11 =>
 (guarded [(0,t9)] (some (0,false)) (G zeI [t11])).bind fun t12 =>
 (guarded [(0,t9)] (some (0,false)) (M.lift (Ax.un .not t12))).bind fun t13 =>
 (M.lift (Ax.pick t9 (V.bool true) t13)).bind fun t14 =>
 M.ite t14
 ((mload (some 6) t2).bind fun t15 =>
 (mstore 6 t4 t15).bind fun _ =>
 (mload (some 6) t4).bind fun r0 =>
 M.pure (.ret [r0,(V.int .i64 1)]))
 ((M.lift (Ax.faddr 1 t2)).bind fun t17 =>
 (mload none t17).bind fun t18 =>
 (M.lift (Ax.un .not t18)).bind fun t19 =>
 M.ite t19
 ((mload (some 6) t2).bind fun t20 =>
 (mstore 6 t4 t20).bind fun _ =>
 (mload (some 6) t4).bind fun r0 =>
 M.pure (.ret [r0,(V.int .i64 0)]))
 ((M.lift (Ax.faddr 3 t2)).bind fun t22 =>
 (mload none t22).bind fun t23 =>
 (M.lift (Ax.bin .shr t23 t1)).bind fun t25 =>
 (M.lift (Ax.bin .and t25 (V.int .i64 1))).bind fun t26 =>
 (M.lift (Ax.bin .eql t26 (V.int .i64 1))).bind fun t27 =>
 M.ite t27
 ((mload (some 6) t2).bind fun t28 =>
 (mstore 6 t4 t28).bind fun _ =>
 (mload (some 6) t4).bind fun r0 =>
 M.pure (.ret [r0,(V.int .i64 7)]))
 (M.pure (.nrm []))))) fun _ =>
 (M.lift (Ax.faddr 3 t2)).bind fun t29 =>
 (mload none t29).bind fun t30 =>
 (M.lift (Ax.bin .shl (V.int .i64 1) t1)).bind fun t32 =>
 (M.lift (Ax.bin .or t30 t32)).bind fun t33 =>
 (M.lift (Ax.faddr 3 t2)).bind fun t34 =>
 (mstore 1 t34 t33).bind fun _ =>
 (mload (some 6) t2).bind fun t35 =>
 (mstore 6 t4 t35).bind fun _ =>
 (mload (some 6) t4).bind fun r0 =>
 M.pure (.ret [r0,(V.int .i64 0)])
noncomputable def zm4:Fn':=(T zfW).getD noF
theorem zzG:T zfW = some zm4:=by kernel_rfl
theorem zAG (G:Sem') (t0 t1:V):execK G zm4.rv zm4.body [] [] (params 0 [t0,t1]) = zu4 G t0 t1:=by kernel_rfl
def zpK (G:Sem'):List V → M V
 | [t0,t1]=>fin (zu4 G t0 t1)
 | _=>M.fail
theorem zBF {g:Sem'} (hg:Sims g (sem T)) (args:List V):Sim (zpK g args) (sem T zfW args):=by
 unfold zpK
 split
 ·exact zad zzG (Nat.le_of_ble_eq_true (by kernel_rfl)) hg (zAG g _ _)
 ·exact zaa
def zqq (G:Sem') (t0:V):M Res :=
 (mbox zbA t0).bind fun t1 =>
 (M.lift (Ax.faddr 1 t1)).bind fun t3 =>
 (mload none t3).bind fun t4 =>
 M.ite t4
 ((M.lift (Ax.faddr 2 t1)).bind fun t5 =>
 (mload none t5).bind fun t6 =>
 M.pure (.ret [t6]))
 ((M.lift (Ax.faddr 0 t1)).bind fun t7 =>
 (mload none t7).bind fun t8 =>
 M.pure (.ret [t8]))
noncomputable def zkg:Fn':=(T zdp).getD noF
theorem zwf:T zdp = some zkg:=by kernel_rfl
theorem zxq (G:Sem') (t0:V):execK G zkg.rv zkg.body [] [] (params 0 [t0]) = zqq G t0:=by kernel_rfl
def zlQ (G:Sem'):List V → M V
 | [t0]=>fin (zqq G t0)
 | _=>M.fail
theorem zyh {g:Sem'} (hg:Sims g (sem T)) (args:List V):Sim (zlQ g args) (sem T zdp args):=by
 unfold zlQ
 split
 ·exact zad zwf (Nat.le_of_ble_eq_true (by kernel_rfl)) hg (zxq g _)
 ·exact zaa
def zsj (G:Sem') (t0:V):M Res :=
 (mbox zbO t0).bind fun t1 =>
 (M.lift (Ax.faddr 0 t1)).bind fun t5 =>
 (M.lift (zcx (.arr 8) 1 t5 none none none)).bind fun t6 =>
 (G za2 [t6,(V.bool true)]).bind fun t7 =>
 (M.lift (Ax.bin .lss t7 (V.int .i64 0))).bind fun t9 =>
 (guarded [(0,t9)] (some (0,false)) (mload (some 16) t1)).bind fun t11 =>
 (guarded [(0,t9)] (some (0,false)) (G zb4 [t11])).bind fun t12 =>
 (guarded [(0,t9)] (some (0,false)) (M.lift (Ax.un .not t12))).bind fun t13 =>
 (M.lift (Ax.pick t9 (V.bool true) t13)).bind fun t14 =>
 M.ite t14
 (M.pure (.ret [(V.int .i64 0),(V.bool false)]))
 (M.pure (.ret [t7,(V.bool true)]))
noncomputable def zlq:Fn':=(T zeU).getD noF
theorem zxV:T zeU = some zlq:=by kernel_rfl
theorem zyy (G:Sem') (t0:V):execK G zlq.rv zlq.body [] [] (params 0 [t0]) = zsj G t0:=by kernel_rfl
def znk (G:Sem'):List V → M V
 | [t0]=>fin (zsj G t0)
 | _=>M.fail
theorem zzO {g:Sem'} (hg:Sims g (sem T)) (args:List V):Sim (znk g args) (sem T zeU args):=by
 unfold znk
 split
 ·exact zad zxV (Nat.le_of_ble_eq_true (by kernel_rfl)) hg (zyy g _)
 ·exact zaa
def zuT (G:Sem') (t0 t1:V):M Res :=
 (mbox zbO t0).bind fun t2 =>
 (mbox zbO (V.agg [(V.bool false),(V.bool false),(V.bool false),(V.bool false),(V.bool false),(V.bool false),(V.bool false),(V.bool false),(V.int .i64 0),(V.int .i64 0),(V.int .i64 0),(V.int .i64 0),(V.int .i64 0),(V.int .i64 0),(V.int .i64 0),(V.int .i64 0)])).bind fun t4 =>
 M.blk 0 (
 (mload (some 16) t2).bind fun t7 =>
 (G zb4 [t7]).bind fun t8 =>
 (M.lift (Ax.un .not t8)).bind fun t9 =>
 (guarded [(0,t9)] (some (0,false)) (M.pure t1)).bind fun t11 =>
 (guarded [(0,t9)] (some (0,false)) (G zfM [t11])).bind fun t12 =>
 (guarded [(0,t9)] (some (0,false)) (M.lift (Ax.un .not t12))).bind fun t13 =>
 (M.lift (Ax.pick t9 (V.bool true) t13)).bind fun t14 =>
 M.ite t14
 ((mload (some 16) t2).bind fun t15 =>
 (mstore 16 t4 t15).bind fun _ =>
 (mload (some 16) t4).bind fun r0 =>
 M.pure (.ret [r0,(V.int .i64 1)]))
 ((M.lift (Ax.faddr 0 t2)).bind fun t18 =>
 (M.lift (Ax.iaddr (some 8) 1 t18 t1)).bind fun t19 =>
 (mload none t19).bind fun t20 =>
 (M.lift (Ax.un .not t20)).bind fun t21 =>
 M.ite t21
 ((mload (some 16) t2).bind fun t22 =>
 (mstore 16 t4 t22).bind fun _ =>
 (mload (some 16) t4).bind fun r0 =>
 M.pure (.ret [r0,(V.int .i64 6)]))
 (M.pure (.nrm [])))) fun _ =>
 (M.lift (Ax.faddr 0 t2)).bind fun t25 =>
 (M.lift (Ax.iaddr (some 8) 1 t25 t1)).bind fun t26 =>
 (mstore 1 t26 (V.bool false)).bind fun _ =>
 (M.lift (Ax.faddr 8 t2)).bind fun t27 =>
 (M.lift (Ax.iaddr (some 8) 1 t27 t1)).bind fun t28 =>
 (mstore 1 t28 (V.int .i64 0)).bind fun _ =>
 (mload (some 16) t2).bind fun t29 =>
 (mstore 16 t4 t29).bind fun _ =>
 (mload (some 16) t4).bind fun r0 =>
 M.pure (.ret [r0,(V.int .i64 0)])
noncomputable def zmT:Fn':=(T zeG).getD noF
theorem zzv:T zeG = some zmT:=by kernel_rfl
theorem zAv (G:Sem') (t0 t1:V):execK G zmT.rv zmT.body [] [] (params 0 [t0,t1]) = zuT G t0 t1:=by kernel_rfl
def zpz (G:Sem'):List V → M V
 | [t0,t1]=>fin (zuT G t0 t1)
 | _=>M.fail
theorem zBu {g:Sem'} (hg:Sims g (sem T)) (args:List V):Sim (zpz g args) (sem T zeG args):=by
 unfold zpz
 split
 ·exact zad zzv (Nat.le_of_ble_eq_true (by kernel_rfl)) hg (zAv g _ _)
 ·exact zaa
def znY (G:Sem') (t0 t1 t2:V):M Res :=
 (mbox zxT t1).bind fun t4 =>
 (mbox zgp t2).bind fun t5 =>
 (M.lift (Ax.nilck t0)).bind fun t11 =>
 (M.lift (Ax.faddr 1469 t11)).bind fun t12 =>
 (mload none t12).bind fun t13 =>
 (M.pure (.fn zcs [t4,t5])).bind fun t14 =>
 (G zaD [t13,t14]).bind fun t15 =>
 (M.lift (Ax.bin .lss t15 (V.int .i64 0))).bind fun t17 =>
 M.ite t17
 (M.pure (.ret [(V.int .u32 0),(V.bool false)]))
 ((M.lift (Ax.nilck t0)).bind fun t19 =>
 (M.lift (Ax.faddr 1469 t19)).bind fun t20 =>
 (mload none t20).bind fun t21 =>
 (M.lift (Ax.iaddr none 1 t21 t15)).bind fun t23 =>
 (mload none t23).bind fun t24 =>
 (M.lift (Ax.nilck t0)).bind fun t27 =>
 (M.lift (Ax.faddr 1469 t27)).bind fun t28 =>
 (mload none t28).bind fun t29 =>
 (M.lift (Ax.bin .add t15 (V.int .i64 1))).bind fun t32 =>
 (G zaS [t29,t15,t32]).bind fun t33 =>
 (M.lift (Ax.nilck t0)).bind fun t34 =>
 (M.lift (Ax.faddr 1469 t34)).bind fun t35 =>
 (mstore 1 t35 t33).bind fun _ =>
 M.pure (.ret [t24,(V.bool true)]))
noncomputable def zik:Fn':=(T zdi).getD noF
theorem zts:T zdi = some zik:=by kernel_rfl
theorem zum (G:Sem') (t0 t1 t2:V):execK G zik.rv zik.body [] [] (params 0 [t0,t1,t2]) = znY G t0 t1 t2:=by kernel_rfl
def zjM (G:Sem'):List V → M V
 | [t0,t1,t2]=>fin (znY G t0 t1 t2)
 | _=>M.fail
theorem zvI {g:Sem'} (hg:Sims g (sem T)) (args:List V):Sim (zjM g args) (sem T zdi args):=by
 unfold zjM
 split
 ·exact zad zts (Nat.le_of_ble_eq_true (by kernel_rfl)) hg (zum g _ _ _)
 ·exact zaa
end Go.Ax.Cc
/- CiK8 -/
namespace Go.Ax.Cc
open Go.Proofs
def zzc (G:Sem') (t0:V):M Res :=
 (G ziv []).bind fun t4 =>
 (M.lift (Ax.build [(V.int .u32 0),(V.int .i64 0),(V.int .i64 0),(V.bool false),(V.int .i64 0),(V.int .i64 0),(V.bool false),(V.int .u16 0),(V.int .u32 0),(V.int .u32 0),(V.int .u16 0),(V.int .u16 0),(V.int .i64 0),V.nils,V.nilp,(V.bool false)] [(0,1,t0),(1,1,(V.int .i64 3)),(2,1,(V.int .i64 7)),(14,1,t4)])).bind fun t5 =>
 (mbox zAT t5).bind fun t6 =>
 M.pure (.ret [t6])
noncomputable def zq1:Fn':=(T zix).getD noF
theorem zCR:T zix = some zq1:=by kernel_rfl
theorem zDK (G:Sem') (t0:V):execK G zq1.rv zq1.body [] [] (params 0 [t0]) = zzc G t0:=by kernel_rfl
def zuB (G:Sem'):List V → M V
 | [t0]=>fin (zzc G t0)
 | _=>M.fail
theorem zEN {g:Sem'} (hg:Sims g (sem T)) (args:List V):Sim (zuB g args) (sem T zix args):=by
 unfold zuB
 split
 ·exact zad zCR (Nat.le_of_ble_eq_true (by kernel_rfl)) hg (zDK g _)
 ·exact zaa
def zmf (G:Sem') (t0 t1 t2:V):M Res :=
 (M.lift (Ax.bin .lss t1 (V.int .i64 0))).bind fun t8 =>
 (guarded [(0,t8)] (some (0,false)) (M.pure t1)).bind fun t10 =>
 (guarded [(0,t8)] (some (0,false)) (M.lift (Ax.bin .gtr t10 (V.int .i64 3)))).bind fun t11 =>
 (M.lift (Ax.pick t8 (V.bool true) t11)).bind fun t12 =>
 (guarded [(0,t12)] (some (0,false)) (M.pure t2)).bind fun t14 =>
 (guarded [(0,t12)] (some (0,false)) (M.lift (Ax.bin .lss t14 (V.int .i64 0)))).bind fun t15 =>
 (M.lift (Ax.pick t12 (V.bool true) t15)).bind fun t16 =>
 (guarded [(0,t16)] (some (0,false)) (M.pure t2)).bind fun t18 =>
 (guarded [(0,t16)] (some (0,false)) (M.lift (Ax.bin .gtr t18 (V.int .i64 7)))).bind fun t19 =>
 (M.lift (Ax.pick t16 (V.bool true) t19)).bind fun t20 =>
 M.ite t20
 (M.pure (.ret [(V.int .i64 1)]))
 ((M.lift (Ax.nilck t0)).bind fun t25 =>
 (M.lift (Ax.faddr 1 t25)).bind fun t26 =>
 (mstore 1 t26 t1).bind fun _ =>
 (M.lift (Ax.nilck t0)).bind fun t27 =>
 (M.lift (Ax.faddr 2 t27)).bind fun t28 =>
 (mstore 1 t28 t2).bind fun _ =>
 M.pure (.ret [(V.int .i64 0)]))
noncomputable def zho:Fn':=(T zcJ).getD noF
theorem zrS:T zcJ = some zho:=by kernel_rfl
theorem zsT (G:Sem') (t0 t1 t2:V):execK G zho.rv zho.body [] [] (params 0 [t0,t1,t2]) = zmf G t0 t1 t2:=by kernel_rfl
def ziH (G:Sem'):List V → M V
 | [t0,t1,t2]=>fin (zmf G t0 t1 t2)
 | _=>M.fail
theorem ztE {g:Sem'} (hg:Sims g (sem T)) (args:List V):Sim (ziH g args) (sem T zcJ args):=by
 unfold ziH
 split
 ·exact zad zrS (Nat.le_of_ble_eq_true (by kernel_rfl)) hg (zsT g _ _ _)
 ·exact zaa
def zxc (G:Sem') (t0 t1 t2:V):M Res :=
 (mbox zbA t0).bind fun t3 =>
 (mbox zbA (V.agg [(V.int .i64 0),(V.bool false),(V.int .i64 0),(V.int .i64 0),(V.int .i64 0),(V.int .i64 0)])).bind fun t6 =>
 M.blk 0 (
 (mload (some 6) t3).bind fun t10 =>
 (G zcA [t10]).bind fun t11 =>
 (M.lift (Ax.un .not t11)).bind fun t12 =>
 (guarded [(0,t12)] (some (0,false)) (M.pure t1)).bind fun t14 =>
 (guarded [(0,t12)] (some (0,false)) (G zeI [t14])).bind fun t15 =>
 (guarded [(0,t12)] (some (0,false)) (M.lift (Ax.un .not t15))).bind fun t16 =>
 (M.lift (Ax.pick t12 (V.bool true) t16)).bind fun t17 =>
 M.ite t17
 ((mload (some 6) t3).bind fun t18 =>
 (mstore 6 t6 t18).bind fun _ =>
 (mload (some 6) t6).bind fun r0 =>
 M.pure (.ret [r0,(V.bool false),(V.int .i64 1)]))
 ((M.lift (Ax.faddr 1 t3)).bind fun t20 =>
 (mload none t20).bind fun t21 =>
 (M.lift (Ax.un .not t21)).bind fun t22 =>
 (guarded [(0,t22)] (some (0,false)) (M.lift (Ax.faddr 2 t3))).bind fun t24 =>
 (guarded [(0,t22)] (some (0,false)) (mload none t24)).bind fun t25 =>
 (guarded [(0,t22)] (some (0,false)) (M.pure t2)).bind fun t26 =>
 (guarded [(0,t22)] (some (0,false)) (M.lift (Ax.bin .neq t25 t26))).bind fun t27 =>
 (M.lift (Ax.pick t22 (V.bool true) t27)).bind fun t28 =>
 M.ite t28
 ((mload (some 6) t3).bind fun t29 =>
 (mstore 6 t6 t29).bind fun _ =>
 (mload (some 6) t6).bind fun r0 =>
 M.pure (.ret [r0,(V.bool false),(V.int .i64 12)]))
 ((M.lift (Ax.faddr 3 t3)).bind fun t31 =>
 (mload none t31).bind fun t32 =>
 (M.lift (Ax.bin .shr t32 t1)).bind fun t34 =>
 (M.lift (Ax.bin .and t34 (V.int .i64 1))).bind fun t35 =>
 (M.lift (Ax.bin .eql t35 (V.int .i64 0))).bind fun t36 =>
 M.ite t36
 ((mload (some 6) t3).bind fun t37 =>
 (mstore 6 t6 t37).bind fun _ =>
 (mload (some 6) t6).bind fun r0 =>
 M.pure (.ret [r0,(V.bool false),(V.int .i64 6)]))
 ((M.lift (Ax.faddr 4 t3)).bind fun t39 =>
 (mload none t39).bind fun t40 =>
 (M.lift (Ax.bin .shr t40 t1)).bind fun t42 =>
 (M.lift (Ax.bin .and t42 (V.int .i64 1))).bind fun t43 =>
 (M.lift (Ax.bin .eql t43 (V.int .i64 1))).bind fun t44 =>
 M.ite t44
 ((mload (some 6) t3).bind fun t45 =>
 (mstore 6 t6 t45).bind fun _ =>
 (mload (some 6) t6).bind fun r0 =>
 M.pure (.ret [r0,(V.bool false),(V.int .i64 7)]))
 (M.pure (.nrm [])))))) fun _ =>
 (M.lift (Ax.faddr 4 t3)).bind fun t46 =>
 (mload none t46).bind fun t47 =>
 (M.lift (Ax.bin .shl (V.int .i64 1) t1)).bind fun t49 =>
 (M.lift (Ax.bin .or t47 t49)).bind fun t50 =>
 (M.lift (Ax.faddr 4 t3)).bind fun t51 =>
 (mstore 1 t51 t50).bind fun _ =>
 (M.lift (Ax.faddr 4 t3)).bind fun t52 =>
 (mload none t52).bind fun t53 =>
 (M.lift (Ax.faddr 3 t3)).bind fun t54 =>
 (mload none t54).bind fun t55 =>
 (M.lift (Ax.bin .eql t53 t55)).bind fun t56 =>
 M.ite t56
 ((M.lift (Ax.faddr 2 t3)).bind fun t57 =>
 (mload none t57).bind fun t58 =>
 (M.lift (Ax.build [(V.int .i64 0),(V.bool false),(V.int .i64 0),(V.int .i64 0),(V.int .i64 0),(V.int .i64 0)] [(0,1,t58)])).bind fun t59 =>
 (mstore 6 t6 t59).bind fun _ =>
 (mload (some 6) t6).bind fun r0 =>
 M.pure (.ret [r0,(V.bool true),(V.int .i64 0)]))
 ((mload (some 6) t3).bind fun t60 =>
 (mstore 6 t6 t60).bind fun _ =>
 (mload (some 6) t6).bind fun r0 =>
 M.pure (.ret [r0,(V.bool false),(V.int .i64 0)]))
noncomputable def zoM:Fn':=(T zg3).getD noF
theorem zBa:T zg3 = some zoM:=by kernel_rfl
theorem zCr (G:Sem') (t0 t1 t2:V):execK G zoM.rv zoM.body [] [] (params 0 [t0,t1,t2]) = zxc G t0 t1 t2:=by kernel_rfl
def zrB (G:Sem'):List V → M V
 | [t0,t1,t2]=>fin (zxc G t0 t1 t2)
 | _=>M.fail
theorem zDd {g:Sem'} (hg:Sims g (sem T)) (args:List V):Sim (zrB g args) (sem T zg3 args):=by
 unfold zrB
 split
 ·exact zad zBa (Nat.le_of_ble_eq_true (by kernel_rfl)) hg (zCr g _ _ _)
 ·exact zaa
def zsq (G:Sem') (t0 t1 t2:V):M Res :=
 (mbox zbA t0).bind fun t3 =>
 (mbox zbA (V.agg [(V.int .i64 0),(V.bool false),(V.int .i64 0),(V.int .i64 0),(V.int .i64 0),(V.int .i64 0)])).bind fun t6 =>
 (mload (some 6) t3).bind fun t9 =>
 (G zdp [t9]).bind fun t10 =>
 (M.lift (Ax.bin .add t10 (V.int .i64 1))).bind fun t11 =>
 M.blk 0 (
 (mload (some 6) t3).bind fun t13 =>
 (G zcA [t13]).bind fun t14 =>
 (M.lift (Ax.un .not t14)).bind fun t15 =>
 (guarded [(0,t15)] (some (0,false)) (M.pure t1)).bind fun t17 =>
 (guarded [(0,t15)] (some (0,false)) (M.lift (Ax.bin .lss t17 (V.int .i64 0)))).bind fun t18 =>
 (M.lift (Ax.pick t15 (V.bool true) t18)).bind fun t19 =>
 (guarded [(0,t19)] (some (0,false)) (M.pure t1)).bind fun t21 =>
 (guarded [(0,t19)] (some (0,false)) (M.lift (Ax.bin .gtr t21 (V.int .i64 255)))).bind fun t22 =>
 (M.lift (Ax.pick t19 (V.bool true) t22)).bind fun t23 =>
 M.ite t23
 ((mload (some 6) t3).bind fun t24 =>
 (mstore 6 t6 t24).bind fun _ =>
 (mload (some 6) t6).bind fun r0 =>
 M.pure (.ret [r0,(V.int .i64 1)]))
 ((M.lift (Ax.bin .gtr t11 (V.int .i64 65535))).bind fun t27 =>
 M.ite t27
 ((mload (some 6) t3).bind fun t28 =>
 (mstore 6 t6 t28).bind fun _ =>
 (mload (some 6) t6).bind fun r0 =>
 M.pure (.ret [r0,(V.int .i64 11)]))
 ((M.lift (Ax.bin .eql t1 (V.int .i64 0))).bind fun t31 =>
 M.ite t31
 ((M.lift (Ax.build [(V.int .i64 0),(V.bool false),(V.int .i64 0),(V.int .i64 0),(V.int .i64 0),(V.int .i64 0)] [(0,1,t11)])).bind fun t33 =>
 (mstore 6 t6 t33).bind fun _ =>
 (mload (some 6) t6).bind fun r0 =>
 M.pure (.ret [r0,(V.int .i64 0)]))
 (M.pure (.nrm []))))) fun _ =>
 (M.lift (Ax.faddr 0 t3)).bind fun t34 =>
 (mload none t34).bind fun t35 =>
 (M.lift (Ax.build [(V.int .i64 0),(V.bool false),(V.int .i64 0),(V.int .i64 0),(V.int .i64 0),(V.int .i64 0)] [(0,1,t35),(1,1,(V.bool true)),(2,1,t11),(3,1,t1),(5,1,t2)])).bind fun t39 =>
 (mstore 6 t6 t39).bind fun _ =>
 (mload (some 6) t6).bind fun r0 =>
 M.pure (.ret [r0,(V.int .i64 0)])
noncomputable def zly:Fn':=(T zeZ).getD noF
theorem zx2:T zeZ = some zly:=by kernel_rfl
theorem zyF (G:Sem') (t0 t1 t2:V):execK G zly.rv zly.body [] [] (params 0 [t0,t1,t2]) = zsq G t0 t1 t2:=by kernel_rfl
def znr (G:Sem'):List V → M V
 | [t0,t1,t2]=>fin (zsq G t0 t1 t2)
 | _=>M.fail
theorem zzV {g:Sem'} (hg:Sims g (sem T)) (args:List V):Sim (znr g args) (sem T zeZ args):=by
 unfold znr
 split
 ·exact zad zx2 (Nat.le_of_ble_eq_true (by kernel_rfl)) hg (zyF g _ _ _)
 ·exact zaa
def zwZ (G:Sem') (t0 t1 t2:V):M Res :=
 M.blk 0 (
 (M.lift (Ax.bin .eql t0 (V.int .i64 200))).bind fun t9 =>
 M.ite t9
 (M.pure (.ret [(V.int .i64 1)]))
 ((M.lift (Ax.bin .eql t0 (V.int .i64 201))).bind fun t12 =>
 M.ite t12
 (M.pure (.ret [(V.int .i64 2)]))
 ((M.lift (Ax.bin .eql t0 (V.int .i64 205))).bind fun t15 =>
 (guarded [(0,t15)] (some (0,true)) (M.pure t1)).bind fun t17 =>
 (guarded [(0,t15)] (some (0,true)) (M.lift (Ax.bin .eql t17 (V.int .i64 1)))).bind fun t18 =>
 (M.lift (Ax.pick t15 t18 (V.bool false))).bind fun t19 =>
 M.ite t19
 (M.pure (.ret [(V.int .i64 3)]))
 ((M.lift (Ax.bin .eql t0 (V.int .i64 206))).bind fun t22 =>
 (guarded [(0,t22)] (some (0,true)) (M.pure t1)).bind fun t24 =>
 (guarded [(0,t22)] (some (0,true)) (M.lift (Ax.bin .eql t24 (V.int .i64 1)))).bind fun t25 =>
 (M.lift (Ax.pick t22 t25 (V.bool false))).bind fun t26 =>
 M.ite t26
 (M.pure (.ret [(V.int .i64 4)]))
 ((M.lift (Ax.bin .eql t0 (V.int .i64 206))).bind fun t29 =>
 (guarded [(0,t29)] (some (0,true)) (M.pure t1)).bind fun t31 =>
 (guarded [(0,t29)] (some (0,true)) (M.lift (Ax.bin .eql t31 (V.int .i64 4)))).bind fun t32 =>
 (M.lift (Ax.pick t29 t32 (V.bool false))).bind fun t33 =>
 M.ite t33
 (M.pure (.ret [(V.int .i64 5)]))
 ((M.lift (Ax.bin .eql t0 (V.int .i64 206))).bind fun t36 =>
 (guarded [(0,t36)] (some (0,true)) (M.pure t1)).bind fun t38 =>
 (guarded [(0,t36)] (some (0,true)) (M.lift (Ax.bin .eql t38 (V.int .i64 15)))).bind fun t39 =>
 (M.lift (Ax.pick t36 t39 (V.bool false))).bind fun t40 =>
 (guarded [(0,t40)] (some (0,true)) (M.pure t2)).bind fun t42 =>
 (guarded [(0,t40)] (some (0,true)) (M.lift (vlen t42))).bind fun t43 =>
 (guarded [(0,t40)] (some (0,true)) (M.lift (Ax.bin .geq t43 (V.int .i64 12)))).bind fun t44 =>
 (M.lift (Ax.pick t40 t44 (V.bool false))).bind fun t45 =>
 (guarded [(0,t45)] (some (0,true)) (M.pure t2)).bind fun t47 =>
 (guarded [(0,t45)] (some (0,true)) (M.lift (zcx .sl 1 t47 (some (V.int .i64 8)) (some (V.int .i64 12)) none))).bind fun t48 =>
 (guarded [(0,t45)] (some (0,true)) (mtostr t48)).bind fun t49 =>
 (guarded [(0,t45)] (some (0,true)) (M.lift (Ax.bin .eql t49 (V.str ⟨#[82,69,77,66]⟩)))).bind fun t50 =>
 (M.lift (Ax.pick t45 t50 (V.bool false))).bind fun t51 =>
 M.ite t51
 (M.pure (.ret [(V.int .i64 6)]))
 (M.pure (.nrm [])))))))) fun _ =>
 M.pure (.ret [(V.int .i64 7)])
noncomputable def zoB:Fn':=(T zfz).getD noF
theorem zAZ:T zfz = some zoB:=by kernel_rfl
theorem zCg (G:Sem') (t0 t1 t2:V):execK G zoB.rv zoB.body [] [] (params 0 [t0,t1,t2]) = zwZ G t0 t1 t2:=by kernel_rfl
def zrq (G:Sem'):List V → M V
 | [t0,t1,t2]=>fin (zwZ G t0 t1 t2)
 | _=>M.fail
theorem zC2 {g:Sem'} (hg:Sims g (sem T)) (args:List V):Sim (zrq g args) (sem T zfz args):=by
 unfold zrq
 split
 ·exact zad zAZ (Nat.le_of_ble_eq_true (by kernel_rfl)) hg (zCg g _ _ _)
 ·exact zaa
def zk8 (G:Sem') (t0:V):M Res :=
 (G zay [t0,(V.int .i64 4)]).bind fun t4 =>
 (M.lift (Ax.cint .u32 t4)).bind fun t5 =>
 M.pure (.ret [t5])
noncomputable def zgx:Fn':=(T zaj).getD noF
theorem zqB:T zaj = some zgx:=by kernel_rfl
theorem zrd (G:Sem') (t0:V):execK G zgx.rv zgx.body [] [] (params 0 [t0]) = zk8 G t0:=by kernel_rfl
def zhF (G:Sem'):List V → M V
 | [t0]=>fin (zk8 G t0)
 | _=>M.fail
theorem zr5 {g:Sem'} (hg:Sims g (sem T)) (args:List V):Sim (zhF g args) (sem T zaj args):=by
 unfold zhF
 split
 ·exact zad zqB (Nat.le_of_ble_eq_true (by kernel_rfl)) hg (zrd g _)
 ·exact zaa
def zq5 (G:Sem') (t27 t26 t4:V) (L:List V):M Res :=
 (M.lift (Ax.bin .lss (L.getD 1 .undef) t27)).bind fun t29 =>
 M.ite t29
 (M.blk 1 (
 (M.lift (Ax.iaddr none 1 t26 (L.getD 1 .undef))).bind fun t30 =>
 (mload none t30).bind fun t31 =>
 (M.lift (Ax.bin .shl (L.getD 0 .undef) (V.int .u64 8))).bind fun t33 =>
 (M.lift (Ax.cint .u64 t31)).bind fun t35 =>
 (M.lift (Ax.bin .or t33 t35)).bind fun t36 =>
 M.pure (.nrm [t36])) fun L0 =>
 (M.lift (Ax.bin .add (L.getD 1 .undef) (V.int .i64 1))).bind fun t37 =>
 M.pure (.nrm [(L0.getD 0 .undef),t37]))
 (M.pure (.ex 0 [(L.getD 0 .undef)]))
def zl8 (G:Sem') (t0 t1:V):M Res :=
 (M.lift (Ax.nilck t0)).bind fun t9 =>
 (M.lift (Ax.faddr 0 t9)).bind fun t10 =>
 (mload none t10).bind fun t11 =>
 (M.lift (vlen t11)).bind fun t12 =>
 (M.lift (Ax.bin .lss t12 t1)).bind fun t14 =>
 M.ite t14
 ((M.lift (Ax.nilck t0)).bind fun t17 =>
 (M.lift (Ax.faddr 1 t17)).bind fun t18 =>
 (mstore 1 t18 (V.bool true)).bind fun _ =>
 (M.lift (Ax.nilck t0)).bind fun t19 =>
 (M.lift (Ax.faddr 0 t19)).bind fun t20 =>
 (mstore 1 t20 V.nils).bind fun _ =>
 M.pure (.ret [(V.int .u64 0)]))
 ((M.lift (Ax.nilck t0)).bind fun t22 =>
 (M.lift (Ax.faddr 0 t22)).bind fun t23 =>
 (mload none t23).bind fun t24 =>
 (M.lift (zcx .sl 1 t24 none (some t1) none)).bind fun t26 =>
 (M.lift (vlen t26)).bind fun t27 =>
 M.blk 0 (
 M.iter (zq5 G t27 t26 (V.int .u64 0)) [(V.int .u64 0),(V.int .i64 0)]) fun L1 =>
 (M.lift (Ax.nilck t0)).bind fun t40 =>
 (M.lift (Ax.faddr 0 t40)).bind fun t41 =>
 (mload none t41).bind fun t42 =>
 (M.lift (zcx .sl 1 t42 (some t1) none none)).bind fun t44 =>
 (M.lift (Ax.nilck t0)).bind fun t45 =>
 (M.lift (Ax.faddr 0 t45)).bind fun t46 =>
 (mstore 1 t46 t44).bind fun _ =>
 M.pure (.ret [(L1.getD 0 .undef)]))
noncomputable def zhi:Fn':=(T zay).getD noF
theorem zrM:T zay = some zhi:=by kernel_rfl
theorem zsN (G:Sem') (t0 t1:V):execK G zhi.rv zhi.body [] [] (params 0 [t0,t1]) = zl8 G t0 t1:=by kernel_rfl
def ziB (G:Sem'):List V → M V
 | [t0,t1]=>fin (zl8 G t0 t1)
 | _=>M.fail
theorem zty {g:Sem'} (hg:Sims g (sem T)) (args:List V):Sim (ziB g args) (sem T zay args):=by
 unfold ziB
 split
 ·exact zad zrM (Nat.le_of_ble_eq_true (by kernel_rfl)) hg (zsN g _ _)
 ·exact zaa
def zod (G:Sem') (t7 t0 t4:V) (L:List V):M Res :=
 (M.lift (Ax.bin .lss (L.getD 1 .undef) t7)).bind fun t9 =>
 M.ite t9
 (M.blk 1 (
 (G zaj [t0]).bind fun t11 =>
 (G zay [t0,(V.int .i64 1)]).bind fun t13 =>
 (M.lift (Ax.cint .u8 t13)).bind fun t14 =>
 (G zay [t0,(V.int .i64 3)]).bind fun t16 =>
 (M.lift (Ax.cint .u32 t16)).bind fun t17 =>
 (M.lift (Ax.build [(V.int .u32 0),(V.int .u8 0),(V.int .u32 0),(V.int .u32 0),(V.int .u32 0),(V.int .u32 0),(V.int .u32 0)] [(0,1,t11),(1,1,t14),(2,1,t17)])).bind fun t18 =>
 (mbox zhg (V.agg [(V.int .u32 0),(V.int .u8 0),(V.int .u32 0),(V.int .u32 0),(V.int .u32 0),(V.int .u32 0),(V.int .u32 0)])).bind fun t6 =>
 (mstore 7 t6 t18).bind fun _ =>
 (G zaj [t0]).bind fun t20 =>
 (G zaj [t0]).bind fun t22 =>
 (G zaj [t0]).bind fun t24 =>
 (G zaj [t0]).bind fun t26 =>
 (M.lift (Ax.faddr 3 t6)).bind fun t27 =>
 (mstore 1 t27 t20).bind fun _ =>
 (M.lift (Ax.faddr 4 t6)).bind fun t28 =>
 (mstore 1 t28 t22).bind fun _ =>
 (M.lift (Ax.faddr 5 t6)).bind fun t29 =>
 (mstore 1 t29 t24).bind fun _ =>
 (M.lift (Ax.faddr 6 t6)).bind fun t30 =>
 (mstore 1 t30 t26).bind fun _ =>
 (mload (some 7) t6).bind fun t32 =>
 (mslit zhg 1 [(V.int .u32 0),(V.int .u8 0),(V.int .u32 0),(V.int .u32 0),(V.int .u32 0),(V.int .u32 0),(V.int .u32 0)] [(0,7,t32)]).bind fun t33 =>
 (mappend zhg 7 28 (L.getD 0 .undef) t33).bind fun t34 =>
 M.pure (.nrm [t34])) fun L0 =>
 (M.lift (Ax.bin .add (L.getD 1 .undef) (V.int .i64 1))).bind fun t35 =>
 M.pure (.nrm [(L0.getD 0 .undef),t35]))
 (M.pure (.ex 0 [(L.getD 0 .undef)]))
def zjS (G:Sem') (t0 t1:V):M Res :=
 M.blk 0 (
 M.iter (zod G t1 t0 V.nils) [V.nils,(V.int .i64 0)]) fun L1 =>
 M.pure (.ret [(L1.getD 0 .undef)])
noncomputable def zfq:Fn':=(T zbx).getD noF
theorem zol:T zbx = some zfq:=by kernel_rfl
theorem zpj (G:Sem') (t0 t1:V):execK G zfq.rv zfq.body [] [] (params 0 [t0,t1]) = zjS G t0 t1:=by kernel_rfl
def zgg (G:Sem'):List V → M V
 | [t0,t1]=>fin (zjS G t0 t1)
 | _=>M.fail
theorem zp2 {g:Sem'} (hg:Sims g (sem T)) (args:List V):Sim (zgg g args) (sem T zbx args):=by
 unfold zgg
 split
 ·exact zad zol (Nat.le_of_ble_eq_true (by kernel_rfl)) hg (zpj g _ _)
 ·exact zaa
def zo0 (G:Sem') (t1 t0:V) (L:List V):M Res :=
 M.ite (L.getD 0 .undef)
 (M.blk 2 (
 (M.lift (Ax.nilck t1)).bind fun t28 =>
 (M.lift (Ax.faddr 8 t28)).bind fun t29 =>
 (mload none t29).bind fun t30 =>
 M.getH.bind fun h0 =>
 (G zay [t0,(V.int .i64 2)]).bind fun t32 =>
 M.getH.bind fun h0' =>
 (M.unch t29 h0 h0').bind fun _ =>
 M.getH.bind fun h1 =>
 (G zay [t0,(V.int .i64 2)]).bind fun t35 =>
 M.getH.bind fun h1' =>
 (M.unch t29 h1 h1').bind fun _ =>
 (M.lift (Ax.cint .u16 t32)).bind fun t33 =>
 (M.lift (Ax.cint .u16 t35)).bind fun t36 =>
 (M.lift (Ax.build [(V.int .u16 0),(V.int .u16 0)] [(0,1,t33),(1,1,t36)])).bind fun t37 =>
 (mslit zk5 1 [(V.int .u16 0),(V.int .u16 0)] [(0,2,t37)]).bind fun t38 =>
 (mappend zk5 2 4 t30 t38).bind fun t39 =>
 (M.lift (Ax.nilck t1)).bind fun t40 =>
 (M.lift (Ax.faddr 8 t40)).bind fun t41 =>
 (mstore 1 t41 t39).bind fun _ =>
 M.pure (.nrm [])) fun _ =>
 (M.lift (Ax.nilck t0)).bind fun t21 =>
 (M.lift (Ax.faddr 0 t21)).bind fun t22 =>
 (mload none t22).bind fun t23 =>
 (M.lift (vlen t23)).bind fun t24 =>
 (M.lift (Ax.bin .gtr t24 (V.int .i64 0))).bind fun t25 =>
 M.pure (.nrm [t25]))
 (M.pure (.ex 1 []))
def zoZ (G:Sem') (t1 t0:V) (L:List V):M Res :=
 M.ite (L.getD 0 .undef)
 (M.blk 4 (
 (M.lift (Ax.nilck t1)).bind fun t53 =>
 (M.lift (Ax.faddr 9 t53)).bind fun t54 =>
 (mload none t54).bind fun t55 =>
 M.getH.bind fun h2 =>
 (G zaj [t0]).bind fun t57 =>
 M.getH.bind fun h2' =>
 (M.unch t54 h2 h2').bind fun _ =>
 M.getH.bind fun h3 =>
 (G zay [t0,(V.int .i64 1)]).bind fun t59 =>
 M.getH.bind fun h3' =>
 (M.unch t54 h3 h3').bind fun _ =>
 (M.lift (Ax.cint .u8 t59)).bind fun t60 =>
 (M.lift (Ax.build [(V.int .u32 0),(V.int .u8 0)] [(0,1,t57),(1,1,t60)])).bind fun t61 =>
 (mslit zmy 1 [(V.int .u32 0),(V.int .u8 0)] [(0,2,t61)]).bind fun t62 =>
 (mappend zmy 2 8 t55 t62).bind fun t63 =>
 (M.lift (Ax.nilck t1)).bind fun t64 =>
 (M.lift (Ax.faddr 9 t64)).bind fun t65 =>
 (mstore 1 t65 t63).bind fun _ =>
 (G zay [t0,(V.int .i64 3)]).bind fun t67 =>
 (M.lift (Ax.bin .neq t67 (V.int .u64 0))).bind fun t68 =>
 M.join (M.ite t68
 ((M.lift (Ax.nilck t0)).bind fun t70 =>
 (M.lift (Ax.faddr 1 t70)).bind fun t71 =>
 (mstore 1 t71 (V.bool true)).bind fun _ =>
 M.pure (.nrm []))
 (M.pure (.nrm []))) fun _ =>
 M.pure (.nrm [])) fun _ =>
 (M.lift (Ax.nilck t0)).bind fun t46 =>
 (M.lift (Ax.faddr 0 t46)).bind fun t47 =>
 (mload none t47).bind fun t48 =>
 (M.lift (vlen t48)).bind fun t49 =>
 (M.lift (Ax.bin .gtr t49 (V.int .i64 0))).bind fun t50 =>
 M.pure (.nrm [t50]))
 (M.pure (.ex 3 []))
def zoY (G:Sem') (t93 t1 t0:V) (L:List V):M Res :=
 (M.lift (Ax.bin .lss (L.getD 0 .undef) t93)).bind fun t95 =>
 M.ite t95
 (M.blk 6 (
 (M.lift (Ax.nilck t1)).bind fun t98 =>
 (M.lift (Ax.faddr 12 t98)).bind fun t99 =>
 (mload none t99).bind fun t100 =>
 M.getH.bind fun h4 =>
 (G zaj [t0]).bind fun t102 =>
 M.getH.bind fun h4' =>
 (M.unch t99 h4 h4').bind fun _ =>
 (mslit zfn 1 [(V.int .u32 0)] [(0,1,t102)]).bind fun t103 =>
 (mappend zfn 1 4 t100 t103).bind fun t104 =>
 (M.lift (Ax.nilck t1)).bind fun t105 =>
 (M.lift (Ax.faddr 12 t105)).bind fun t106 =>
 (mstore 1 t106 t104).bind fun _ =>
 M.pure (.nrm [])) fun _ =>
 (M.lift (Ax.bin .add (L.getD 0 .undef) (V.int .i64 1))).bind fun t107 =>
 M.pure (.nrm [t107]))
 (M.pure (.ex 5 []))
def zkq (G:Sem') (t0 t1:V):M Res :=
 (G zaj [t0]).bind fun t10 =>
 (M.lift (Ax.nilck t1)).bind fun t11 =>
 (M.lift (Ax.faddr 2 t11)).bind fun t12 =>
 (mstore 1 t12 t10).bind fun _ =>
 (M.lift (Ax.nilck t1)).bind fun t14 =>
 (M.lift (Ax.faddr 0 t14)).bind fun t15 =>
 (mload none t15).bind fun t16 =>
 M.blk 0 (
 (M.lift (Ax.bin .eql t16 (V.int .i64 3))).bind fun t18 =>
 M.join (M.ite t18
 (M.blk 1 (
 M.iter (zo0 G t1 t0) [(V.bool true)]) fun _ =>
 M.pure (.nrm []))
 ((M.lift (Ax.bin .eql t16 (V.int .i64 5))).bind fun t43 =>
 M.join (M.ite t43
 (M.blk 3 (
 M.iter (zoZ G t1 t0) [(V.bool true)]) fun _ =>
 M.pure (.nrm []))
 ((M.lift (Ax.bin .eql t16 (V.int .i64 6))).bind fun t73 =>
 M.join (M.ite t73
 ((G zaj [t0]).bind fun t75 =>
 (G zay [t0,(V.int .i64 1)]).bind fun t77 =>
 (M.lift (Ax.cint .i64 t77)).bind fun t78 =>
 (G zay [t0,(V.int .i64 3)]).bind fun t80 =>
 (M.lift (Ax.bin .shr t80 (V.int .u64 18))).bind fun t84 =>
 (M.lift (Ax.cint .i64 t84)).bind fun t85 =>
 (M.lift (Ax.bin .and t80 (V.int .u64 262143))).bind fun t87 =>
 (M.lift (Ax.cint .u32 t87)).bind fun t88 =>
 (M.lift (Ax.nilck t1)).bind fun t89 =>
 (M.lift (Ax.faddr 10 t89)).bind fun t90 =>
 (mstore 1 t90 t85).bind fun _ =>
 (M.lift (Ax.nilck t1)).bind fun t91 =>
 (M.lift (Ax.faddr 11 t91)).bind fun t92 =>
 (mstore 1 t92 t88).bind fun _ =>
 M.blk 5 (
 M.iter (zoY G t78 t1 t0) [(V.int .i64 0)]) fun _ =>
 M.pure (.nrm []))
 (M.pure (.nrm []))) fun _ =>
 M.pure (.nrm []))) fun _ =>
 M.pure (.nrm []))) fun _ =>
 M.pure (.nrm [])) fun _ =>
 M.pure (.ret [])
noncomputable def zf9:Fn':=(T zce).getD noF
theorem zpV:T zce = some zf9:=by kernel_rfl
theorem zqc (G:Sem') (t0 t1:V):execK G zf9.rv zf9.body [] [] (params 0 [t0,t1]) = zkq G t0 t1:=by kernel_rfl
def zgK (G:Sem'):List V → M V
 | [t0,t1]=>fin (zkq G t0 t1)
 | _=>M.fail
theorem zqJ {g:Sem'} (hg:Sims g (sem T)) (args:List V):Sim (zgK g args) (sem T zce args):=by
 unfold zgK
 split
 ·exact zad zpV (Nat.le_of_ble_eq_true (by kernel_rfl)) hg (zqc g _ _)
 ·exact zaa
def zAi (G:Sem') (t5 t2:V) (L:List V):M Res :=
 (M.lift (Ax.bin .lss (L.getD 1 .undef) (V.int .u16 16))).bind fun t19 =>
 M.ite t19
 (M.blk 3 (
 (M.lift (Ax.faddr 1 t5)).bind fun t21 =>
 (mload none t21).bind fun t22 =>
 (M.lift (Ax.bin .shr t22 (L.getD 1 .undef))).bind fun t24 =>
 (M.lift (Ax.bin .and t24 (V.int .u16 1))).bind fun t25 =>
 (M.lift (Ax.bin .eql t25 (V.int .u16 1))).bind fun t26 =>
 M.join (M.ite t26
 ((M.lift (Ax.faddr 0 t5)).bind fun t28 =>
 (mload none t28).bind fun t29 =>
 (M.lift (Ax.bin .add t29 (L.getD 1 .undef))).bind fun t31 =>
 (M.lift (Ax.bin .add t31 (V.int .u16 1))).bind fun t32 =>
 (mslit zfo 1 [(V.int .u16 0)] [(0,1,t32)]).bind fun t33 =>
 (mappend zfo 1 2 (L.getD 0 .undef) t33).bind fun t34 =>
 M.pure (.nrm [t34]))
 (M.pure (.nrm [(L.getD 0 .undef)]))) fun L0 =>
 M.pure (.nrm [(L0.getD 0 .undef)])) fun L1 =>
 (M.lift (Ax.bin .add (L.getD 1 .undef) (V.int .u16 1))).bind fun t35 =>
 M.pure (.nrm [(L1.getD 0 .undef),t35]))
 (M.pure (.ex 2 [(L.getD 0 .undef)]))
def zAh (G:Sem') (t8 t7 t2:V) (L:List V):M Res :=
 (M.lift (Ax.bin .lss (L.getD 1 .undef) t8)).bind fun t10 =>
 M.ite t10
 (M.blk 1 (
 (M.lift (Ax.iaddr none 2 t7 (L.getD 1 .undef))).bind fun t11 =>
 (mload (some 2) t11).bind fun t12 =>
 (mbox zk5 (V.agg [(V.int .u16 0),(V.int .u16 0)])).bind fun t5 =>
 (mstore 2 t5 t12).bind fun _ =>
 (M.lift (Ax.faddr 0 t5)).bind fun t14 =>
 (mload none t14).bind fun t15 =>
 (mslit zfo 1 [(V.int .u16 0)] [(0,1,t15)]).bind fun t16 =>
 (mappend zfo 1 2 (L.getD 0 .undef) t16).bind fun t17 =>
 M.blk 2 (
 M.iter (zAi G t5 t2) [t17,(V.int .u16 0)]) fun L2 =>
 M.pure (.nrm [(L2.getD 0 .undef)])) fun L3 =>
 (M.lift (Ax.bin .add (L.getD 1 .undef) (V.int .i64 1))).bind fun t36 =>
 M.pure (.nrm [(L3.getD 0 .undef),t36]))
 (M.pure (.ex 0 [(L.getD 0 .undef)]))
def zw4 (G:Sem') (t0:V):M Res :=
 (M.lift (vlen t0)).bind fun t8 =>
 M.blk 0 (
 M.iter (zAh G t8 t0 V.nils) [V.nils,(V.int .i64 0)]) fun L4 =>
 M.pure (.ret [(L4.getD 0 .undef)])
noncomputable def zoE:Fn':=(T zgX).getD noF
theorem zA2:T zgX = some zoE:=by kernel_rfl
theorem zCj (G:Sem') (t0:V):execK G zoE.rv zoE.body [] [] (params 0 [t0]) = zw4 G t0:=by kernel_rfl
def zrt (G:Sem'):List V → M V
 | [t0]=>fin (zw4 G t0)
 | _=>M.fail
theorem zC5 {g:Sem'} (hg:Sims g (sem T)) (args:List V):Sim (zrt g args) (sem T zgX args):=by
 unfold zrt
 split
 ·exact zad zA2 (Nat.le_of_ble_eq_true (by kernel_rfl)) hg (zCj g _)
 ·exact zaa
def zo1 (G:Sem') (t0 t1:V):M Res :=
 (G zdo [t0,t1]).bind fun t9 =>
 (M.lift (Ax.bin .lss t9 (V.int .i64 0))).bind fun t11 =>
 M.ite t11
 (M.pure (.ret [V.nils,(V.bool false)]))
 ((M.lift (Ax.nilck t0)).bind fun t13 =>
 (M.lift (Ax.faddr 0 t13)).bind fun t14 =>
 (mload none t14).bind fun t15 =>
 (M.lift (Ax.iaddr none 2 t15 t9)).bind fun t17 =>
 (M.lift (Ax.faddr 1 t17)).bind fun t18 =>
 (mload none t18).bind fun t19 =>
 (G zaN [t19]).bind fun t20 =>
 M.pure (.ret [t20,(V.bool true)]))
noncomputable def zje:Fn':=(T zdE).getD noF
theorem zvd:T zdE = some zje:=by kernel_rfl
theorem zvS (G:Sem') (t0 t1:V):execK G zje.rv zje.body [] [] (params 0 [t0,t1]) = zo1 G t0 t1:=by kernel_rfl
def zkH (G:Sem'):List V → M V
 | [t0,t1]=>fin (zo1 G t0 t1)
 | _=>M.fail
theorem zwr {g:Sem'} (hg:Sims g (sem T)) (args:List V):Sim (zkH g args) (sem T zdE args):=by
 unfold zkH
 split
 ·exact zad zvd (Nat.le_of_ble_eq_true (by kernel_rfl)) hg (zvS g _ _)
 ·exact zaa
def zmg (G:Sem') (t0:V):M Res :=
 (M.lift (Ax.nilck t0)).bind fun t5 =>
 (M.lift (Ax.faddr 3 t5)).bind fun t6 =>
 (mload (some 3) t6).bind fun t7 =>
 (G zfZ [t7]).bind fun t8 =>
 (M.lift (Ax.ext 0 t8)).bind fun t9 =>
 (M.lift (Ax.ext 1 t8)).bind fun t10 =>
 M.pure (.ret [t9,t10])
noncomputable def zhp:Fn':=(T zb6).getD noF
theorem zrT:T zb6 = some zhp:=by kernel_rfl
theorem zsU (G:Sem') (t0:V):execK G zhp.rv zhp.body [] [] (params 0 [t0]) = zmg G t0:=by kernel_rfl
def ziI (G:Sem'):List V → M V
 | [t0]=>fin (zmg G t0)
 | _=>M.fail
theorem ztF {g:Sem'} (hg:Sims g (sem T)) (args:List V):Sim (ziI g args) (sem T zb6 args):=by
 unfold ziI
 split
 ·exact zad zrT (Nat.le_of_ble_eq_true (by kernel_rfl)) hg (zsU g _)
 ·exact zaa
def znL (G:Sem') (t0:V):M Res :=
 (M.lift (Ax.nilck t0)).bind fun t5 =>
 (M.lift (Ax.faddr 3 t5)).bind fun t6 =>
 (M.lift (Ax.faddr 1 t6)).bind fun t7 =>
 (mload none t7).bind fun t8 =>
 (M.lift (Ax.nilck t0)).bind fun t10 =>
 (M.lift (Ax.faddr 3 t10)).bind fun t11 =>
 (M.lift (Ax.faddr 0 t11)).bind fun t12 =>
 (mload none t12).bind fun t13 =>
 M.pure (.ret [t8,t13])
noncomputable def zh7:Fn':=(T zc9).getD noF
theorem ztf:T zc9 = some zh7:=by kernel_rfl
theorem zt9 (G:Sem') (t0:V):execK G zh7.rv zh7.body [] [] (params 0 [t0]) = znL G t0:=by kernel_rfl
def zjz (G:Sem'):List V → M V
 | [t0]=>fin (znL G t0)
 | _=>M.fail
theorem zvv {g:Sem'} (hg:Sims g (sem T)) (args:List V):Sim (zjz g args) (sem T zc9 args):=by
 unfold zjz
 split
 ·exact zad ztf (Nat.le_of_ble_eq_true (by kernel_rfl)) hg (zt9 g _)
 ·exact zaa
def zze (G:Sem') (t0 t1:V):M Res :=
 (mbox zdO t0).bind fun t2 =>
 (mbox zdO (V.agg [(V.bool false),(V.int .i64 0),(V.int .i64 0)])).bind fun t4 =>
 (mload (some 3) t2).bind fun t6 =>
 (G zes [t6]).bind fun t7 =>
 (M.lift (Ax.un .not t7)).bind fun t8 =>
 (guarded [(0,t8)] (some (0,false)) (M.pure t1)).bind fun t10 =>
 (guarded [(0,t8)] (some (0,false)) (G zc5 [t10])).bind fun t11 =>
 (guarded [(0,t8)] (some (0,false)) (M.lift (Ax.un .not t11))).bind fun t12 =>
 (M.lift (Ax.pick t8 (V.bool true) t12)).bind fun t13 =>
 M.ite t13
 ((mload (some 3) t2).bind fun t14 =>
 (mstore 3 t4 t14).bind fun _ =>
 (mload (some 3) t4).bind fun r0 =>
 M.pure (.ret [r0,(V.int .i64 1)]))
 ((M.lift (Ax.faddr 2 t2)).bind fun t16 =>
 (mstore 1 t16 t1).bind fun _ =>
 (mload (some 3) t2).bind fun t17 =>
 (mstore 3 t4 t17).bind fun _ =>
 (mload (some 3) t4).bind fun r0 =>
 M.pure (.ret [r0,(V.int .i64 0)]))
noncomputable def zq3:Fn':=(T ziy).getD noF
theorem zCT:T ziy = some zq3:=by kernel_rfl
theorem zDM (G:Sem') (t0 t1:V):execK G zq3.rv zq3.body [] [] (params 0 [t0,t1]) = zze G t0 t1:=by kernel_rfl
def zuD (G:Sem'):List V → M V
 | [t0,t1]=>fin (zze G t0 t1)
 | _=>M.fail
theorem zEP {g:Sem'} (hg:Sims g (sem T)) (args:List V):Sim (zuD g args) (sem T ziy args):=by
 unfold zuD
 split
 ·exact zad zCT (Nat.le_of_ble_eq_true (by kernel_rfl)) hg (zDM g _ _)
 ·exact zaa
def zB2 (G:Sem') (t0:V) (L:List V):M Res :=
 (M.lift (vlen (L.getD 0 .undef))).bind fun t11 =>
 (M.lift (Ax.bin .gtr t11 (V.int .i64 0))).bind fun t12 =>
 M.ite t12
 (M.blk 1 (
 (M.lift (Ax.iaddr none 1 (L.getD 0 .undef) (V.int .i64 0))).bind fun t14 =>
 (mload none t14).bind fun t15 =>
 (M.lift (Ax.bin .eql t15 (V.int .u8 0))).bind fun t16 =>
 M.ite t16
 ((M.lift (zcx .sl 1 (L.getD 0 .undef) (some (V.int .i64 1)) none none)).bind fun t18 =>
 M.pure (.ex 1 [t18,(L.getD 1 .undef)]))
 ((M.lift (Ax.bin .eql t0 (V.int .i64 48862))).bind fun t20 =>
 (guarded [(0,t20)] (some (0,true)) (M.pure (L.getD 0 .undef))).bind fun t22 =>
 (guarded [(0,t20)] (some (0,true)) (M.lift (Ax.iaddr none 1 t22 (V.int .i64 0)))).bind fun t23 =>
 (guarded [(0,t20)] (some (0,true)) (mload none t23)).bind fun t24 =>
 (guarded [(0,t20)] (some (0,true)) (M.lift (Ax.bin .shr t24 (V.int .u64 4)))).bind fun t25 =>
 (guarded [(0,t20)] (some (0,true)) (M.lift (Ax.bin .eql t25 (V.int .u8 15)))).bind fun t26 =>
 (M.lift (Ax.pick t20 t26 (V.bool false))).bind fun t27 =>
 M.ite t27
 (M.pure (.ex 0 [(L.getD 1 .undef)]))
 ((G zeW [t0,(L.getD 0 .undef)]).bind fun t31 =>
 (M.lift (Ax.ext 0 t31)).bind fun t32 =>
 (M.lift (Ax.ext 1 t31)).bind fun t33 =>
 (M.lift (Ax.ext 2 t31)).bind fun t34 =>
 (mbox zd6 (V.agg [(V.int .i64 0),V.nils])).bind fun t7 =>
 (mstore 2 t7 t32).bind fun _ =>
 (M.lift (Ax.un .not t34)).bind fun t36 =>
 M.ite t36
 (M.pure (.ret [V.nils,(V.bool false)]))
 ((mload (some 2) t7).bind fun t38 =>
 (mslit zd6 1 [(V.int .i64 0),V.nils] [(0,2,t38)]).bind fun t39 =>
 (mappend zd6 2 32 (L.getD 1 .undef) t39).bind fun t40 =>
 (M.lift (zcx .sl 1 (L.getD 0 .undef) (some t33) none none)).bind fun t43 =>
 M.pure (.nrm [t43,t40]))))) fun L0 =>
 M.pure (.nrm [(L0.getD 0 .undef),(L0.getD 1 .undef)]))
 (M.pure (.ex 0 [(L.getD 1 .undef)]))
def zy3 (G:Sem') (t0 t1:V):M Res :=
 M.blk 0 (
 M.iter (zB2 G t0) [t1,V.nils]) fun L1 =>
 M.pure (.ret [(L1.getD 0 .undef),(V.bool true)])
noncomputable def zqS:Fn':=(T zir).getD noF
theorem zCI:T zir = some zqS:=by kernel_rfl
theorem zDB (G:Sem') (t0 t1:V):execK G zqS.rv zqS.body [] [] (params 0 [t0,t1]) = zy3 G t0 t1:=by kernel_rfl
def zus (G:Sem'):List V → M V
 | [t0,t1]=>fin (zy3 G t0 t1)
 | _=>M.fail
theorem zEE {g:Sem'} (hg:Sims g (sem T)) (args:List V):Sim (zus g args) (sem T zir args):=by
 unfold zus
 split
 ·exact zad zCI (Nat.le_of_ble_eq_true (by kernel_rfl)) hg (zDB g _ _)
 ·exact zaa
def zgq (G:Sem') (t7 t1 t0:V) (L:List V):M Res :=
 (M.lift (Ax.bin .lss (L.getD 0 .undef) t7)).bind fun t9 =>
 M.ite t9
 (M.blk 1 (
 (M.lift (Ax.iaddr none 2 t0 (L.getD 0 .undef))).bind fun t14 =>
 (mload (some 2) t14).bind fun t15 =>
 (callv G t1 [t15]).bind fun t16 =>
 M.ite t16
 (M.pure (.ret [(L.getD 0 .undef)]))
 (M.pure (.nrm []))) fun _ =>
 (M.lift (Ax.bin .add (L.getD 0 .undef) (V.int .i64 1))).bind fun t18 =>
 M.pure (.nrm [t18]))
 (M.pure (.ex 0 []))
def zdw (G:Sem') (t0 t1:V):M Res :=
 (M.lift (vlen t0)).bind fun t7 =>
 M.blk 0 (
 M.iter (zgq G t7 t1 t0) [(V.int .i64 0)]) fun _ =>
 M.pure (.ret [(V.int .i64 (-1))])
noncomputable def zbQ:Fn':=(T zav).getD noF
theorem zgw:T zav = some zbQ:=by kernel_rfl
theorem zgI (G:Sem') (t0 t1:V):execK G zbQ.rv zbQ.body [] [] (params 0 [t0,t1]) = zdw G t0 t1:=by kernel_rfl
def zb0 (G:Sem'):List V → M V
 | [t0,t1]=>fin (zdw G t0 t1)
 | _=>M.fail
theorem zhe {g:Sem'} (hg:Sims g (sem T)) (args:List V):Sim (zb0 g args) (sem T zav args):=by
 unfold zb0
 split
 ·exact zad zgw (Nat.le_of_ble_eq_true (by kernel_rfl)) hg (zgI g _ _)
 ·exact zaa
def zy4 (G:Sem') (t0 t1:V):M Res :=
 (mbox zd6 t0).bind fun t2 =>
 (M.lift (Ax.faddr 0 t2)).bind fun t4 =>
 (mload none t4).bind fun t5 =>
 (mload none t1).bind fun t6 =>
 (M.lift (Ax.bin .eql t5 t6)).bind fun t7 =>
 M.pure (.ret [t7])
noncomputable def zqT:Fn':=(T zis).getD noF
theorem zCJ:T zis = some zqT:=by kernel_rfl
theorem zDC (G:Sem') (t0 t1:V):execK G zqT.rv zqT.body [] [] (params 0 [t0,t1]) = zy4 G t0 t1:=by kernel_rfl
def zut (G:Sem'):List V → M V
 | [t0,t1]=>fin (zy4 G t0 t1)
 | _=>M.fail
theorem zEF {g:Sem'} (hg:Sims g (sem T)) (args:List V):Sim (zut g args) (sem T zis args):=by
 unfold zut
 split
 ·exact zad zCJ (Nat.le_of_ble_eq_true (by kernel_rfl)) hg (zDC g _ _)
 ·exact zaa
def zqb (G:Sem') (t19 t0:V) (L:List V):M Res :=
 (M.lift (Ax.bin .lss (L.getD 1 .undef) t19)).bind fun t21 =>
 M.ite t21
 (M.blk 2 (
 (M.lift (Ax.bin .shl (L.getD 0 .undef) (V.int .u64 1))).bind fun t23 =>
 (M.lift (Ax.nilck t0)).bind fun t25 =>
 (M.lift (Ax.faddr 0 t25)).bind fun t26 =>
 (mload none t26).bind fun t27 =>
 (M.lift (Ax.nilck t0)).bind fun t29 =>
 (M.lift (Ax.faddr 1 t29)).bind fun t30 =>
 (mload none t30).bind fun t31 =>
 (M.lift (Ax.bin .quo t31 (V.int .i64 8))).bind fun t32 =>
 (M.lift (Ax.iaddr none 1 t27 t32)).bind fun t33 =>
 (mload none t33).bind fun t34 =>
 (M.lift (Ax.nilck t0)).bind fun t36 =>
 (M.lift (Ax.faddr 1 t36)).bind fun t37 =>
 (mload none t37).bind fun t38 =>
 (M.lift (Ax.bin .rem t38 (V.int .i64 8))).bind fun t39 =>
 (M.lift (Ax.bin .sub (V.int .i64 7) t39)).bind fun t40 =>
 (M.lift (Ax.bin .shr t34 t40)).bind fun t41 =>
 (M.lift (Ax.bin .and t41 (V.int .u8 1))).bind fun t42 =>
 (M.lift (Ax.cint .u64 t42)).bind fun t43 =>
 (M.lift (Ax.bin .or t23 t43)).bind fun t44 =>
 (M.lift (Ax.nilck t0)).bind fun t46 =>
 (M.lift (Ax.faddr 1 t46)).bind fun t47 =>
 (mload none t47).bind fun t48 =>
 (M.lift (Ax.bin .add t48 (V.int .i64 1))).bind fun t49 =>
 (M.lift (Ax.nilck t0)).bind fun t50 =>
 (M.lift (Ax.faddr 1 t50)).bind fun t51 =>
 (mstore 1 t51 t49).bind fun _ =>
 M.pure (.nrm [t44])) fun L1 =>
 (M.lift (Ax.bin .add (L.getD 1 .undef) (V.int .i64 1))).bind fun t52 =>
 M.pure (.nrm [(L1.getD 0 .undef),t52]))
 (M.pure (.ex 1 [(L.getD 0 .undef)]))
def zle (G:Sem') (t0 t1:V):M Res :=
 M.blk 0 (
 (M.lift (Ax.bin .lss t1 (V.int .i64 0))).bind fun t9 =>
 (guarded [(0,t9)] (some (0,false)) (M.pure t1)).bind fun t11 =>
 (guarded [(0,t9)] (some (0,false)) (M.lift (Ax.bin .gtr t11 (V.int .i64 64)))).bind fun t12 =>
 (M.lift (Ax.pick t9 (V.bool true) t12)).bind fun t13 =>
 M.ite t13
 (M.pure (.ret [(V.int .u64 0),(V.int .i64 1)]))
 ((G zbT [t0]).bind fun t17 =>
 (M.lift (Ax.bin .gtr t1 t17)).bind fun t18 =>
 M.ite t18
 (M.pure (.ret [(V.int .u64 0),(V.int .i64 3)]))
 (M.pure (.nrm [])))) fun _ =>
 M.blk 1 (
 M.iter (zqb G t1 t0) [(V.int .u64 0),(V.int .i64 0)]) fun L2 =>
 M.pure (.ret [(L2.getD 0 .undef),(V.int .i64 0)])
noncomputable def zgD:Fn':=(T zbz).getD noF
theorem zqH:T zbz = some zgD:=by kernel_rfl
theorem zrj (G:Sem') (t0 t1:V):execK G zgD.rv zgD.body [] [] (params 0 [t0,t1]) = zle G t0 t1:=by kernel_rfl
def zhL (G:Sem'):List V → M V
 | [t0,t1]=>fin (zle G t0 t1)
 | _=>M.fail
theorem zsb {g:Sem'} (hg:Sims g (sem T)) (args:List V):Sim (zhL g args) (sem T zbz args):=by
 unfold zhL
 split
 ·exact zad zqH (Nat.le_of_ble_eq_true (by kernel_rfl)) hg (zrj g _ _)
 ·exact zaa
def zku (G:Sem') (t0:V) (L:List V):M Res :=
 (M.lift (Ax.nilck t0)).bind fun t8 =>
 (M.lift (Ax.faddr 1 t8)).bind fun t9 =>
 (mload none t9).bind fun t10 =>
 (M.lift (Ax.bin .eql t10 (V.int .i64 0))).bind fun t11 =>
 M.ite t11
 (M.blk 1 (
 (M.lift (vlen (L.getD 0 .undef))).bind fun t14 =>
 (M.lift (Ax.bin .sub t14 (V.int .i64 1))).bind fun t15 =>
 (M.lift (Ax.iaddr none 5 (L.getD 0 .undef) t15)).bind fun t16 =>
 (M.lift (Ax.faddr 0 t16)).bind fun t17 =>
 (mload none t17).bind fun t18 =>
 (M.lift (vlen (L.getD 0 .undef))).bind fun t21 =>
 (M.lift (Ax.bin .sub t21 (V.int .i64 1))).bind fun t22 =>
 (M.lift (Ax.iaddr none 5 (L.getD 0 .undef) t22)).bind fun t23 =>
 (M.lift (Ax.faddr 1 t23)).bind fun t24 =>
 (mload none t24).bind fun t25 =>
 (M.lift (Ax.build [(V.int .i64 0),(V.int .i64 0),V.nils,V.nils,V.nils] [(0,1,t18),(1,1,t25)])).bind fun t26 =>
 (mbox zam (V.agg [(V.int .i64 0),(V.int .i64 0),V.nils,V.nils,V.nils])).bind fun t4 =>
 (mstore 5 t4 t26).bind fun _ =>
 (G zaf [t0,(V.int .i64 2)]).bind fun t28 =>
 M.blk 2 (
 (M.lift (Ax.bin .eql t28 (V.int .i64 3))).bind fun t30 =>
 M.ite t30
 (M.pure (.ret [(L.getD 0 .undef)]))
 ((M.lift (Ax.bin .eql t28 (V.int .i64 1))).bind fun t33 =>
 M.join (M.ite t33
 ((M.lift (Ax.faddr 1 t4)).bind fun t34 =>
 (mload none t34).bind fun t35 =>
 (M.lift (Ax.bin .add t35 (V.int .i64 1))).bind fun t36 =>
 (M.lift (Ax.faddr 1 t4)).bind fun t37 =>
 (mstore 1 t37 t36).bind fun _ =>
 M.pure (.nrm []))
 ((M.lift (Ax.bin .eql t28 (V.int .i64 2))).bind fun t39 =>
 M.join (M.ite t39
 ((M.lift (Ax.faddr 0 t4)).bind fun t40 =>
 (mload none t40).bind fun t41 =>
 (M.lift (Ax.bin .add t41 (V.int .i64 1))).bind fun t42 =>
 (M.lift (Ax.faddr 0 t4)).bind fun t43 =>
 (mstore 1 t43 t42).bind fun _ =>
 (M.lift (Ax.faddr 1 t4)).bind fun t44 =>
 (mstore 1 t44 (V.int .i64 0)).bind fun _ =>
 M.pure (.nrm []))
 (M.pure (.nrm []))) fun _ =>
 M.pure (.nrm []))) fun _ =>
 M.pure (.nrm []))) fun _ =>
 (M.lift (Ax.faddr 0 t4)).bind fun t45 =>
 (mload none t45).bind fun t46 =>
 (M.lift (Ax.bin .gtr t46 (V.int .i64 3))).bind fun t47 =>
 (guarded [(0,t47)] (some (0,false)) (M.lift (Ax.faddr 1 t4))).bind fun t49 =>
 (guarded [(0,t47)] (some (0,false)) (mload none t49)).bind fun t50 =>
 (guarded [(0,t47)] (some (0,false)) (M.lift (Ax.bin .gtr t50 (V.int .i64 7)))).bind fun t51 =>
 (M.lift (Ax.pick t47 (V.bool true) t51)).bind fun t52 =>
 (guarded [(0,t52)] (some (0,false)) (M.pure (L.getD 0 .undef))).bind fun t54 =>
 (guarded [(0,t52)] (some (0,false)) (M.lift (vlen t54))).bind fun t55 =>
 (guarded [(0,t52)] (some (0,false)) (M.lift (Ax.bin .geq t55 (V.int .i64 64)))).bind fun t56 =>
 (M.lift (Ax.pick t52 (V.bool true) t56)).bind fun t57 =>
 M.join (M.ite t57
 ((G zaM [t0,(V.int .i64 2)]).bind fun t59 =>
 M.pure (.nrm []))
 (M.pure (.nrm []))) fun _ =>
 (mload (some 5) t4).bind fun t61 =>
 (mslit zam 1 [(V.int .i64 0),(V.int .i64 0),V.nils,V.nils,V.nils] [(0,5,t61)]).bind fun t62 =>
 (mappend zam 5 88 (L.getD 0 .undef) t62).bind fun t63 =>
 M.pure (.nrm [t63])) fun L4 =>
 M.pure (.nrm [(L4.getD 0 .undef)]))
 (M.pure (.ex 0 [(L.getD 0 .undef)]))
def zgs (G:Sem') (t0:V):M Res :=
 (M.lift (Ax.build [(V.int .i64 0),(V.int .i64 0),V.nils,V.nils,V.nils] [])).bind fun t5 =>
 (mslit zam 1 [(V.int .i64 0),(V.int .i64 0),V.nils,V.nils,V.nils] [(0,5,t5)]).bind fun t6 =>
 M.blk 0 (
 M.iter (zku G t0) [t6]) fun L5 =>
 M.pure (.ret [(L5.getD 0 .undef)])
noncomputable def zdy:Fn':=(T zba).getD noF
theorem zkW:T zba = some zdy:=by kernel_rfl
theorem zk3 (G:Sem') (t0:V):execK G zdy.rv zdy.body [] [] (params 0 [t0]) = zgs G t0:=by kernel_rfl
def zd0 (G:Sem'):List V → M V
 | [t0]=>fin (zgs G t0)
 | _=>M.fail
theorem zlm {g:Sem'} (hg:Sims g (sem T)) (args:List V):Sim (zd0 g args) (sem T zba args):=by
 unfold zd0
 split
 ·exact zad zkW (Nat.le_of_ble_eq_true (by kernel_rfl)) hg (zk3 g _)
 ·exact zaa
def znc (G:Sem') (t0:V) (L:List V):M Res :=
 (G zaq [t0]).bind fun t5 =>
 M.ite t5
 (M.blk 1 (
 (M.lift (vlen (L.getD 0 .undef))).bind fun t7 =>
 (M.lift (Ax.bin .geq t7 (V.int .i64 8))).bind fun t8 =>
 M.ite t8
 ((G zaM [t0,(V.int .i64 4)]).bind fun t10 =>
 M.pure (.ret [V.nils]))
 ((G zaf [t0,(V.int .i64 4)]).bind fun t13 =>
 (M.lift (Ax.bin .add t13 (V.int .i64 1))).bind fun t14 =>
 (mslit zgp 1 [(V.int .i64 0)] [(0,1,t14)]).bind fun t15 =>
 (mappend zgp 1 8 (L.getD 0 .undef) t15).bind fun t16 =>
 M.pure (.nrm [t16]))) fun L0 =>
 M.pure (.nrm [(L0.getD 0 .undef)]))
 (M.pure (.ex 0 [(L.getD 0 .undef)]))
def zi5 (G:Sem') (t0:V):M Res :=
 M.blk 0 (
 M.iter (znc G t0) [V.nils]) fun L1 =>
 M.pure (.ret [(L1.getD 0 .undef)])
noncomputable def ze8:Fn':=(T zbN).getD noF
theorem zn5:T zbN = some ze8:=by kernel_rfl
theorem zoi (G:Sem') (t0:V):execK G ze8.rv ze8.body [] [] (params 0 [t0]) = zi5 G t0:=by kernel_rfl
def zfG (G:Sem'):List V → M V
 | [t0]=>fin (zi5 G t0)
 | _=>M.fail
theorem zov {g:Sem'} (hg:Sims g (sem T)) (args:List V):Sim (zfG g args) (sem T zbN args):=by
 unfold zfG
 split
 ·exact zad zn5 (Nat.le_of_ble_eq_true (by kernel_rfl)) hg (zoi g _)
 ·exact zaa
def zld (G:Sem') (t0 t1:V):M Res :=
 (M.lift (Ax.nilck t0)).bind fun t8 =>
 (M.lift (Ax.faddr 1 t8)).bind fun t9 =>
 (mload none t9).bind fun t10 =>
 (M.lift (Ax.bin .neq t10 (V.int .i64 0))).bind fun t11 =>
 M.ite t11
 (M.pure (.ret [(V.int .i64 0)]))
 ((M.lift (Ax.nilck t0)).bind fun t14 =>
 (M.lift (Ax.faddr 0 t14)).bind fun t15 =>
 (mload none t15).bind fun t16 =>
 (M.lift (Ax.cint .u64 t1)).bind fun t18 =>
 (G zbY [t16,t18]).bind fun t19 =>
 (M.lift (Ax.ext 0 t19)).bind fun t20 =>
 (M.lift (Ax.ext 1 t19)).bind fun t21 =>
 (M.lift (Ax.nilck t0)).bind fun t24 =>
 (M.lift (Ax.faddr 1 t24)).bind fun t25 =>
 (mstore 1 t25 t21).bind fun _ =>
 (M.lift (Ax.cint .i64 t20)).bind fun t27 =>
 M.pure (.ret [t27]))
noncomputable def zgC:Fn':=(T zbS).getD noF
theorem zqG:T zbS = some zgC:=by kernel_rfl
theorem zri (G:Sem') (t0 t1:V):execK G zgC.rv zgC.body [] [] (params 0 [t0,t1]) = zld G t0 t1:=by kernel_rfl
def zhK (G:Sem'):List V → M V
 | [t0,t1]=>fin (zld G t0 t1)
 | _=>M.fail
theorem zsa {g:Sem'} (hg:Sims g (sem T)) (args:List V):Sim (zhK g args) (sem T zbS args):=by
 unfold zhK
 split
 ·exact zad zqG (Nat.le_of_ble_eq_true (by kernel_rfl)) hg (zri g _ _)
 ·exact zaa
def zsE (G:Sem') (t8 t7 t2:V) (L:List V):M Res :=
 (M.lift (Ax.bin .lss (L.getD 1 .undef) t8)).bind fun t10 =>
 M.ite t10
 (M.blk 1 (
 (M.lift (Ax.iaddr none 5 t7 (L.getD 1 .undef))).bind fun t11 =>
 (mload (some 5) t11).bind fun t12 =>
 (mbox zam (V.agg [(V.int .i64 0),(V.int .i64 0),V.nils,V.nils,V.nils])).bind fun t5 =>
 (mstore 5 t5 t12).bind fun _ =>
 (M.lift (Ax.faddr 0 t5)).bind fun t14 =>
 (mload none t14).bind fun t15 =>
 (M.lift (Ax.bin .add t15 (V.int .i64 1))).bind fun t16 =>
 (M.lift (Ax.minmax true (L.getD 0 .undef) [t16])).bind fun t17 =>
 M.pure (.nrm [t17])) fun L0 =>
 (M.lift (Ax.bin .add (L.getD 1 .undef) (V.int .i64 1))).bind fun t18 =>
 M.pure (.nrm [(L0.getD 0 .undef),t18]))
 (M.pure (.ex 0 [(L.getD 0 .undef)]))
def zn1 (G:Sem') (t0:V):M Res :=
 (mbox zag t0).bind fun t1 =>
 (M.lift (Ax.faddr 2 t1)).bind fun t6 =>
 (mload none t6).bind fun t7 =>
 (M.lift (vlen t7)).bind fun t8 =>
 M.blk 0 (
 M.iter (zsE G t8 t7 (V.int .i64 0)) [(V.int .i64 0),(V.int .i64 0)]) fun L1 =>
 M.pure (.ret [(L1.getD 0 .undef)])
noncomputable def zin:Fn':=(T zcv).getD noF
theorem ztv:T zcv = some zin:=by kernel_rfl
theorem zup (G:Sem') (t0:V):execK G zin.rv zin.body [] [] (params 0 [t0]) = zn1 G t0:=by kernel_rfl
def zjP (G:Sem'):List V → M V
 | [t0]=>fin (zn1 G t0)
 | _=>M.fail
theorem zvL {g:Sem'} (hg:Sims g (sem T)) (args:List V):Sim (zjP g args) (sem T zcv args):=by
 unfold zjP
 split
 ·exact zad ztv (Nat.le_of_ble_eq_true (by kernel_rfl)) hg (zup g _)
 ·exact zaa
def zpc (G:Sem') (t0 t1 t2 t3:V):M Res :=
 (mbox zgp t2).bind fun t6 =>
 (mbox zgp t3).bind fun t7 =>
 (M.lift (vlen t0)).bind fun t10 =>
 (M.lift (Ax.bin .eql t10 t1)).bind fun t12 =>
 (guarded [(0,t12)] (some (0,true)) (M.pure t0)).bind fun t14 =>
 (guarded [(0,t12)] (some (0,true)) (M.pure (.fn zcN [t6,t7]))).bind fun t15 =>
 (guarded [(0,t12)] (some (0,true)) (G zaT [t14,t15])).bind fun t16 =>
 (guarded [(0,t12)] (some (0,true)) (M.lift (Ax.un .not t16))).bind fun t17 =>
 (M.lift (Ax.pick t12 t17 (V.bool false))).bind fun t18 =>
 M.pure (.ret [t18])
noncomputable def zjm:Fn':=(T za4).getD noF
theorem zvl:T za4 = some zjm:=by kernel_rfl
theorem zv0 (G:Sem') (t0 t1 t2 t3:V):execK G zjm.rv zjm.body [] [] (params 0 [t0,t1,t2,t3]) = zpc G t0 t1 t2 t3:=by kernel_rfl
def zkP (G:Sem'):List V → M V
 | [t0,t1,t2,t3]=>fin (zpc G t0 t1 t2 t3)
 | _=>M.fail
theorem zwz {g:Sem'} (hg:Sims g (sem T)) (args:List V):Sim (zkP g args) (sem T za4 args):=by
 unfold zkP
 split
 ·exact zad zvl (Nat.le_of_ble_eq_true (by kernel_rfl)) hg (zv0 g _ _ _ _)
 ·exact zaa
def zt2 (G:Sem') (t11 t10 t3:V) (L:List V):M Res :=
 (M.lift (Ax.bin .lss (L.getD 0 .undef) t11)).bind fun t13 =>
 M.ite t13
 (M.blk 1 (
 (M.lift (Ax.iaddr none 5 t10 (L.getD 0 .undef))).bind fun t15 =>
 (mload (some 5) t15).bind fun t16 =>
 (mbox zam (V.agg [(V.int .i64 0),(V.int .i64 0),V.nils,V.nils,V.nils])).bind fun t5 =>
 (mstore 5 t5 t16).bind fun _ =>
 (mload (some 5) t3).bind fun t18 =>
 (mload (some 5) t5).bind fun t19 =>
 (G ze2 [t18,t19]).bind fun t20 =>
 (M.lift (Ax.ext 0 t20)).bind fun t21 =>
 (M.lift (Ax.ext 1 t20)).bind fun t22 =>
 (M.lift (Ax.un .not t22)).bind fun t24 =>
 (guarded [(0,t24)] (some (0,false)) (M.pure (L.getD 0 .undef))).bind fun t26 =>
 (guarded [(0,t24)] (some (0,false)) (M.lift (Ax.bin .eql t26 (V.int .i64 0)))).bind fun t27 =>
 (guarded [(0,t24)] (some (0,false)) (M.pure t27)).bind fun t28 =>
 (guarded [(0,t28)] (some (0,true)) (M.pure t21)).bind fun t29 =>
 (guarded [(0,t28)] (some (0,true)) (M.lift (Ax.bin .neq t29 (V.int .i64 0)))).bind fun t30 =>
 (guarded [(0,t24)] (some (0,false)) (M.lift (Ax.pick t28 t30 (V.bool false)))).bind fun t31 =>
 (M.lift (Ax.pick t24 (V.bool true) t31)).bind fun t32 =>
 (guarded [(0,t32)] (some (0,false)) (M.lift (Ax.faddr 0 t5))).bind fun t34 =>
 (guarded [(0,t32)] (some (0,false)) (mload none t34)).bind fun t35 =>
 (guarded [(0,t32)] (some (0,false)) (M.lift (Ax.bin .gtr t35 (V.int .i64 3)))).bind fun t36 =>
 (M.lift (Ax.pick t32 (V.bool true) t36)).bind fun t37 =>
 (guarded [(0,t37)] (some (0,false)) (M.lift (Ax.faddr 1 t5))).bind fun t39 =>
 (guarded [(0,t37)] (some (0,false)) (mload none t39)).bind fun t40 =>
 (guarded [(0,t37)] (some (0,false)) (M.lift (Ax.bin .gtr t40 (V.int .i64 7)))).bind fun t41 =>
 (M.lift (Ax.pick t37 (V.bool true) t41)).bind fun t42 =>
 M.ite t42
 (M.pure (.ret [(V.bool false)]))
 ((mload (some 5) t5).bind fun t43 =>
 (mstore 5 t3 t43).bind fun _ =>
 M.pure (.nrm []))) fun _ =>
 (M.lift (Ax.bin .add (L.getD 0 .undef) (V.int .i64 1))).bind fun t44 =>
 M.pure (.nrm [t44]))
 (M.pure (.ex 0 []))
def zpe (G:Sem') (t0:V):M Res :=
 (mbox zag t0).bind fun t1 =>
 (M.lift (Ax.build [(V.int .i64 0),(V.int .i64 0),V.nils,V.nils,V.nils] [])).bind fun t8 =>
 (mbox zam (V.agg [(V.int .i64 0),(V.int .i64 0),V.nils,V.nils,V.nils])).bind fun t3 =>
 (mstore 5 t3 t8).bind fun _ =>
 (M.lift (Ax.faddr 2 t1)).bind fun t9 =>
 (mload none t9).bind fun t10 =>
 (M.lift (vlen t10)).bind fun t11 =>
 M.blk 0 (
 M.iter (zt2 G t11 t10 t3) [(V.int .i64 0)]) fun _ =>
 (M.lift (Ax.faddr 2 t1)).bind fun t45 =>
 (mload none t45).bind fun t46 =>
 (M.lift (vlen t46)).bind fun t47 =>
 (M.lift (Ax.bin .geq t47 (V.int .i64 1))).bind fun t48 =>
 (guarded [(0,t48)] (some (0,true)) (M.lift (Ax.faddr 2 t1))).bind fun t50 =>
 (guarded [(0,t48)] (some (0,true)) (mload none t50)).bind fun t51 =>
 (guarded [(0,t48)] (some (0,true)) (M.lift (vlen t51))).bind fun t52 =>
 (guarded [(0,t48)] (some (0,true)) (M.lift (Ax.bin .leq t52 (V.int .i64 64)))).bind fun t53 =>
 (M.lift (Ax.pick t48 t53 (V.bool false))).bind fun t54 =>
 M.pure (.ret [t54])
noncomputable def zjn:Fn':=(T zdJ).getD noF
theorem zvm:T zdJ = some zjn:=by kernel_rfl
theorem zv1 (G:Sem') (t0:V):execK G zjn.rv zjn.body [] [] (params 0 [t0]) = zpe G t0:=by kernel_rfl
def zkQ (G:Sem'):List V → M V
 | [t0]=>fin (zpe G t0)
 | _=>M.fail
theorem zwA {g:Sem'} (hg:Sims g (sem T)) (args:List V):Sim (zkQ g args) (sem T zdJ args):=by
 unfold zkQ
 split
 ·exact zad zvm (Nat.le_of_ble_eq_true (by kernel_rfl)) hg (zv1 g _)
 ·exact zaa
def zbr (G:Sem') (t0 t1:V):M Res :=
 (G zah [t0,t1]).bind fun t7 =>
 (M.lift (Ax.bin .geq t7 (V.int .i64 0))).bind fun t8 =>
 M.pure (.ret [t8])
noncomputable def zaI:Fn':=(T zae).getD noF
theorem zcU:T zae = some zaI:=by kernel_rfl
theorem zcX (G:Sem') (t0 t1:V):execK G zaI.rv zaI.body [] [] (params 0 [t0,t1]) = zbr G t0 t1:=by kernel_rfl
def zaL (G:Sem'):List V → M V
 | [t0,t1]=>fin (zbr G t0 t1)
 | _=>M.fail
theorem zcY {g:Sem'} (hg:Sims g (sem T)) (args:List V):Sim (zaL g args) (sem T zae args):=by
 unfold zaL
 split
 ·exact zad zcU (Nat.le_of_ble_eq_true (by kernel_rfl)) hg (zcX g _ _)
 ·exact zaa
end Go.Ax.Cc
/- CiK9 -/
namespace Go.Ax.Cc
open Go.Proofs
def zpi (G:Sem') (t0 t1:V):M Res :=
 (mbox zam t0).bind fun t2 =>
 (mload (some 6) t1).bind fun t4 =>
 (mload (some 5) t2).bind fun t5 =>
 (G zbw [t4,t5]).bind fun t6 =>
 (M.lift (Ax.un .not t6)).bind fun t7 =>
 M.pure (.ret [t7])
noncomputable def zjr:Fn':=(T zdN).getD noF
theorem zvq:T zdN = some zjr:=by kernel_rfl
theorem zv5 (G:Sem') (t0 t1:V):execK G zjr.rv zjr.body [] [] (params 0 [t0,t1]) = zpi G t0 t1:=by kernel_rfl
def zkU (G:Sem'):List V → M V
 | [t0,t1]=>fin (zpi G t0 t1)
 | _=>M.fail
theorem zwE {g:Sem'} (hg:Sims g (sem T)) (args:List V):Sim (zkU g args) (sem T zdN args):=by
 unfold zkU
 split
 ·exact zad zvq (Nat.le_of_ble_eq_true (by kernel_rfl)) hg (zv5 g _ _)
 ·exact zaa
def zhD (G:Sem') (t0 t1:V):M Res :=
 (mbox zag t0).bind fun t2 =>
 (mbox zam t1).bind fun t3 =>
 (M.lift (Ax.faddr 2 t3)).bind fun t5 =>
 (mload none t5).bind fun t6 =>
 (M.lift (Ax.faddr 1 t2)).bind fun t7 =>
 (mload none t7).bind fun t8 =>
 (G za4 [t6,t8,(V.int .i64 0),(V.int .i64 3)]).bind fun t9 =>
 (guarded [(0,t9)] (some (0,true)) (M.lift (Ax.faddr 3 t3))).bind fun t11 =>
 (guarded [(0,t9)] (some (0,true)) (mload none t11)).bind fun t12 =>
 (guarded [(0,t9)] (some (0,true)) (G zdr [t12,(V.int .i64 8),(V.int .i64 16)])).bind fun t13 =>
 (M.lift (Ax.pick t9 t13 (V.bool false))).bind fun t14 =>
 (guarded [(0,t14)] (some (0,true)) (M.lift (Ax.faddr 4 t3))).bind fun t16 =>
 (guarded [(0,t14)] (some (0,true)) (mload none t16)).bind fun t17 =>
 (guarded [(0,t14)] (some (0,true)) (M.lift (Ax.faddr 3 t2))).bind fun t18 =>
 (guarded [(0,t14)] (some (0,true)) (mload none t18)).bind fun t19 =>
 (guarded [(0,t14)] (some (0,true)) (G za4 [t17,t19,(V.int .i64 0),(V.int .i64 15)])).bind fun t20 =>
 (M.lift (Ax.pick t14 t20 (V.bool false))).bind fun t21 =>
 M.pure (.ret [t21])
noncomputable def zea:Fn':=(T zbw).getD noF
theorem zl1:T zbw = some zea:=by kernel_rfl
theorem zmu (G:Sem') (t0 t1:V):execK G zea.rv zea.body [] [] (params 0 [t0,t1]) = zhD G t0 t1:=by kernel_rfl
def zeM (G:Sem'):List V → M V
 | [t0,t1]=>fin (zhD G t0 t1)
 | _=>M.fail
theorem zmK {g:Sem'} (hg:Sims g (sem T)) (args:List V):Sim (zeM g args) (sem T zbw args):=by
 unfold zeM
 split
 ·exact zad zl1 (Nat.le_of_ble_eq_true (by kernel_rfl)) hg (zmu g _ _)
 ·exact zaa
def zpf (G:Sem') (t0:V):M Res :=
 (mbox zam t0).bind fun t1 =>
 (mbox zam (V.agg [(V.int .i64 0),(V.int .i64 0),V.nils,V.nils,V.nils])).bind fun t2 =>
 (M.lift (Ax.faddr 2 t1)).bind fun t3 =>
 (mload none t3).bind fun t4 =>
 (M.lift (Ax.faddr 3 t1)).bind fun t6 =>
 (mload none t6).bind fun t7 =>
 (M.lift (Ax.faddr 4 t1)).bind fun t9 =>
 (mload none t9).bind fun t10 =>
 M.getH.bind fun h0 =>
 (G zaZ [t4]).bind fun t5 =>
 M.getH.bind fun h0' =>
 (M.unch t9 h0 h0').bind fun _ =>
 (M.unch t6 h0 h0').bind fun _ =>
 M.getH.bind fun h1 =>
 (G zaZ [t7]).bind fun t8 =>
 M.getH.bind fun h1' =>
 (M.unch t9 h1 h1').bind fun _ =>
 (G zaZ [t10]).bind fun t11 =>
 (M.lift (Ax.faddr 2 t1)).bind fun t12 =>
 (mstore 1 t12 t5).bind fun _ =>
 (M.lift (Ax.faddr 3 t1)).bind fun t13 =>
 (mstore 1 t13 t8).bind fun _ =>
 (M.lift (Ax.faddr 4 t1)).bind fun t14 =>
 (mstore 1 t14 t11).bind fun _ =>
 (mload (some 5) t1).bind fun t15 =>
 (mstore 5 t2 t15).bind fun _ =>
 (mload (some 5) t2).bind fun r0 =>
 M.pure (.ret [r0])
noncomputable def zjo:Fn':=(T zdK).getD noF
theorem zvn:T zdK = some zjo:=by kernel_rfl
theorem zv2 (G:Sem') (t0:V):execK G zjo.rv zjo.body [] [] (params 0 [t0]) = zpf G t0:=by kernel_rfl
def zkR (G:Sem'):List V → M V
 | [t0]=>fin (zpf G t0)
 | _=>M.fail
theorem zwB {g:Sem'} (hg:Sims g (sem T)) (args:List V):Sim (zkR g args) (sem T zdK args):=by
 unfold zkR
 split
 ·exact zad zvn (Nat.le_of_ble_eq_true (by kernel_rfl)) hg (zv2 g _)
 ·exact zaa
def zi2 (G:Sem') (t7 t1 t0:V) (L:List V):M Res :=
 (M.lift (Ax.bin .lss (L.getD 0 .undef) t7)).bind fun t9 =>
 M.ite t9
 (M.blk 1 (
 (M.lift (Ax.iaddr none 1 t0 (L.getD 0 .undef))).bind fun t14 =>
 (mload none t14).bind fun t15 =>
 (M.lift (Ax.bin .eql t1 t15)).bind fun t16 =>
 M.ite t16
 (M.pure (.ret [(L.getD 0 .undef)]))
 (M.pure (.nrm []))) fun _ =>
 (M.lift (Ax.bin .add (L.getD 0 .undef) (V.int .i64 1))).bind fun t18 =>
 M.pure (.nrm [t18]))
 (M.pure (.ex 0 []))
def zfi (G:Sem') (t0 t1:V):M Res :=
 (M.lift (vlen t0)).bind fun t7 =>
 M.blk 0 (
 M.iter (zi2 G t7 t1 t0) [(V.int .i64 0)]) fun _ =>
 M.pure (.ret [(V.int .i64 (-1))])
noncomputable def zcO:Fn':=(T zaV).getD noF
theorem zi8:T zaV = some zcO:=by kernel_rfl
theorem zjs (G:Sem') (t0 t1:V):execK G zcO.rv zcO.body [] [] (params 0 [t0,t1]) = zfi G t0 t1:=by kernel_rfl
def zc0 (G:Sem'):List V → M V
 | [t0,t1]=>fin (zfi G t0 t1)
 | _=>M.fail
theorem zj1 {g:Sem'} (hg:Sims g (sem T)) (args:List V):Sim (zc0 g args) (sem T zaV args):=by
 unfold zc0
 split
 ·exact zad zi8 (Nat.le_of_ble_eq_true (by kernel_rfl)) hg (zjs g _ _)
 ·exact zaa
def zy5 (G:Sem') (t0:V):M Res :=
 (mbox zbc t0).bind fun t1 =>
 M.blk 0 (
 (M.lift (Ax.faddr 1 t1)).bind fun t4 =>
 (mload none t4).bind fun t5 =>
 (M.lift (Ax.bin .lss t5 (V.int .i64 0))).bind fun t6 =>
 (guarded [(0,t6)] (some (0,false)) (M.lift (Ax.faddr 1 t1))).bind fun t8 =>
 (guarded [(0,t6)] (some (0,false)) (mload none t8)).bind fun t9 =>
 (guarded [(0,t6)] (some (0,false)) (M.lift (Ax.bin .gtr t9 (V.int .i64 127)))).bind fun t10 =>
 (M.lift (Ax.pick t6 (V.bool true) t10)).bind fun t11 =>
 (guarded [(0,t11)] (some (0,false)) (M.lift (Ax.faddr 5 t1))).bind fun t13 =>
 (guarded [(0,t11)] (some (0,false)) (mload none t13)).bind fun t14 =>
 (guarded [(0,t11)] (some (0,false)) (M.lift (vlen t14))).bind fun t15 =>
 (guarded [(0,t11)] (some (0,false)) (M.lift (Ax.bin .gtr t15 (V.int .i64 15)))).bind fun t16 =>
 (M.lift (Ax.pick t11 (V.bool true) t16)).bind fun t17 =>
 (guarded [(0,t17)] (some (0,false)) (M.lift (Ax.faddr 8 t1))).bind fun t19 =>
 (guarded [(0,t17)] (some (0,false)) (mload none t19)).bind fun t20 =>
 (guarded [(0,t17)] (some (0,false)) (M.lift (Ax.bin .lss t20 (V.int .i64 0)))).bind fun t21 =>
 (M.lift (Ax.pick t17 (V.bool true) t21)).bind fun t22 =>
 (guarded [(0,t22)] (some (0,false)) (M.lift (Ax.faddr 8 t1))).bind fun t24 =>
 (guarded [(0,t22)] (some (0,false)) (mload none t24)).bind fun t25 =>
 (guarded [(0,t22)] (some (0,false)) (M.lift (Ax.bin .gtr t25 (V.int .i64 255)))).bind fun t26 =>
 (M.lift (Ax.pick t22 (V.bool true) t26)).bind fun t27 =>
 M.ite t27
 (M.pure (.ret [(V.bool false)]))
 ((M.lift (Ax.faddr 6 t1)).bind fun t29 =>
 (mload none t29).bind fun t30 =>
 (M.lift (Ax.bin .eql t30 (V.int .i64 0))).bind fun t31 =>
 M.ite t31
 ((M.lift (Ax.faddr 7 t1)).bind fun t32 =>
 (mload none t32).bind fun t33 =>
 (M.lift (vlen t33)).bind fun t34 =>
 (M.lift (Ax.bin .eql t34 (V.int .i64 0))).bind fun t35 =>
 M.pure (.ret [t35]))
 ((M.lift (Ax.faddr 6 t1)).bind fun t37 =>
 (mload none t37).bind fun t38 =>
 (M.lift (Ax.bin .neq t38 (V.int .i64 48862))).bind fun t39 =>
 (guarded [(0,t39)] (some (0,true)) (M.lift (Ax.faddr 6 t1))).bind fun t41 =>
 (guarded [(0,t39)] (some (0,true)) (mload none t41)).bind fun t42 =>
 (guarded [(0,t39)] (some (0,true)) (M.lift (Ax.bin .neq t42 (V.int .i64 4096)))).bind fun t43 =>
 (M.lift (Ax.pick t39 t43 (V.bool false))).bind fun t44 =>
 M.ite t44
 (M.pure (.ret [(V.bool false)]))
 (M.pure (.nrm []))))) fun _ =>
 (M.lift (Ax.faddr 7 t1)).bind fun t45 =>
 (mload none t45).bind fun t46 =>
 (M.pure (.fn zfP [t1])).bind fun t47 =>
 (G zax [t46,t47]).bind fun t48 =>
 (M.lift (Ax.un .not t48)).bind fun t49 =>
 M.pure (.ret [t49])
noncomputable def zqU:Fn':=(T zit).getD noF
theorem zCK:T zit = some zqU:=by kernel_rfl
theorem zDD (G:Sem') (t0:V):execK G zqU.rv zqU.body [] [] (params 0 [t0]) = zy5 G t0:=by kernel_rfl
def zuu (G:Sem'):List V → M V
 | [t0]=>fin (zy5 G t0)
 | _=>M.fail
theorem zEG {g:Sem'} (hg:Sims g (sem T)) (args:List V):Sim (zuu g args) (sem T zit args):=by
 unfold zuu
 split
 ·exact zad zCK (Nat.le_of_ble_eq_true (by kernel_rfl)) hg (zDD g _)
 ·exact zaa
def zDy (G:Sem') (t1 t6:V) (L:List V):M Res :=
 (M.lift (Ax.bin .geq (L.getD 1 .undef) (V.int .i64 0))).bind fun t11 =>
 M.ite t11
 (M.blk 1 (
 (M.lift (Ax.bin .mul (V.int .i64 8) (L.getD 1 .undef))).bind fun t17 =>
 (M.lift (Ax.bin .shr t1 t17)).bind fun t18 =>
 (M.lift (Ax.cint .u8 t18)).bind fun t19 =>
 (mslit zaw 1 [(V.int .u8 0)] [(0,1,t19)]).bind fun t20 =>
 (mappend zaw 1 1 (L.getD 0 .undef) t20).bind fun t21 =>
 M.pure (.nrm [t21])) fun L0 =>
 (M.lift (Ax.bin .sub (L.getD 1 .undef) (V.int .i64 1))).bind fun t13 =>
 M.pure (.nrm [(L0.getD 0 .undef),t13]))
 (M.pure (.ex 0 [(L.getD 0 .undef)]))
def zB0 (G:Sem') (t0 t1 t2:V):M Res :=
 (M.lift (Ax.bin .sub t2 (V.int .i64 1))).bind fun t9 =>
 M.blk 0 (
 M.iter (zDy G t1 V.nils) [t0,t9]) fun L1 =>
 M.pure (.ret [(L1.getD 0 .undef)])
noncomputable def ztT:Fn':=(T zeb).getD noF
theorem zEm:T zeb = some ztT:=by kernel_rfl
theorem zE3 (G:Sem') (t0 t1 t2:V):execK G ztT.rv ztT.body [] [] (params 0 [t0,t1,t2]) = zB0 G t0 t1 t2:=by kernel_rfl
def zxC (G:Sem'):List V → M V
 | [t0,t1,t2]=>fin (zB0 G t0 t1 t2)
 | _=>M.fail
theorem zFx {g:Sem'} (hg:Sims g (sem T)) (args:List V):Sim (zxC g args) (sem T zeb args):=by
 unfold zxC
 split
 ·exact zad zEm (Nat.le_of_ble_eq_true (by kernel_rfl)) hg (zE3 g _ _ _)
 ·exact zaa
def zwV (G:Sem') (t0:V):M Res :=
 (mbox zbc t0).bind fun t1 =>
 (M.lift (Ax.faddr 5 t1)).bind fun t5 =>
 (mload none t5).bind fun t6 =>
 (M.lift (vlen t6)).bind fun t7 =>
 (M.lift (Ax.bin .or (V.int .i64 128) t7)).bind fun t8 =>
 (M.lift (Ax.cint .u8 t8)).bind fun t9 =>
 (M.lift (Ax.faddr 1 t1)).bind fun t10 =>
 (mload none t10).bind fun t11 =>
 (M.lift (Ax.cint .u8 t11)).bind fun t12 =>
 (M.lift (Ax.faddr 8 t1)).bind fun t13 =>
 (mload none t13).bind fun t14 =>
 (M.lift (Ax.bin .gtr t14 (V.int .i64 0))).bind fun t15 =>
 M.join (M.ite t15
 ((M.lift (Ax.bin .or t9 (V.int .u8 32))).bind fun t17 =>
 M.pure (.nrm [t17]))
 (M.pure (.nrm [t9]))) fun L0 =>
 (M.lift (Ax.faddr 6 t1)).bind fun t18 =>
 (mload none t18).bind fun t19 =>
 (M.lift (Ax.bin .neq t19 (V.int .i64 0))).bind fun t20 =>
 M.join (M.ite t20
 ((M.lift (Ax.bin .or (L0.getD 0 .undef) (V.int .u8 16))).bind fun t22 =>
 M.pure (.nrm [t22]))
 (M.pure (.nrm [(L0.getD 0 .undef)]))) fun L1 =>
 (M.lift (Ax.faddr 0 t1)).bind fun t23 =>
 (mload none t23).bind fun t24 =>
 M.join (M.ite t24
 ((M.lift (Ax.bin .or t12 (V.int .u8 128))).bind fun t26 =>
 M.pure (.nrm [t26]))
 (M.pure (.nrm [t12]))) fun L2 =>
 (mslit zaw 2 [(V.int .u8 0)] [(0,1,(L1.getD 0 .undef)),(1,1,(L2.getD 0 .undef))]).bind fun t29 =>
 M.pure (.ret [t29])
noncomputable def zox:Fn':=(T zgS).getD noF
theorem zAV:T zgS = some zox:=by kernel_rfl
theorem zCc (G:Sem') (t0:V):execK G zox.rv zox.body [] [] (params 0 [t0]) = zwV G t0:=by kernel_rfl
def zrm (G:Sem'):List V → M V
 | [t0]=>fin (zwV G t0)
 | _=>M.fail
theorem zCY {g:Sem'} (hg:Sims g (sem T)) (args:List V):Sim (zrm g args) (sem T zgS args):=by
 unfold zrm
 split
 ·exact zad zAV (Nat.le_of_ble_eq_true (by kernel_rfl)) hg (zCc g _)
 ·exact zaa
def zvO (G:Sem') (t8 t7 t1 t2:V) (L:List V):M Res :=
 (M.lift (Ax.bin .lss (L.getD 1 .undef) t8)).bind fun t10 =>
 M.ite t10
 (M.blk 1 (
 (M.lift (Ax.iaddr none 2 t7 (L.getD 1 .undef))).bind fun t11 =>
 (mload (some 2) t11).bind fun t12 =>
 (mbox zd6 (V.agg [(V.int .i64 0),V.nils])).bind fun t5 =>
 (mstore 2 t5 t12).bind fun _ =>
 (M.lift (Ax.faddr 6 t1)).bind fun t13 =>
 (mload none t13).bind fun t14 =>
 (M.lift (Ax.bin .eql t14 (V.int .i64 48862))).bind fun t15 =>
 M.join (M.ite t15
 ((M.lift (Ax.faddr 0 t5)).bind fun t17 =>
 (mload none t17).bind fun t18 =>
 (M.lift (Ax.bin .shl t18 (V.int .u64 4))).bind fun t19 =>
 (M.lift (Ax.faddr 1 t5)).bind fun t20 =>
 (mload none t20).bind fun t21 =>
 (M.lift (vlen t21)).bind fun t22 =>
 (M.lift (Ax.bin .sub t22 (V.int .i64 1))).bind fun t23 =>
 (M.lift (Ax.bin .or t19 t23)).bind fun t24 =>
 (M.lift (Ax.cint .u8 t24)).bind fun t25 =>
 (mslit zaw 1 [(V.int .u8 0)] [(0,1,t25)]).bind fun t26 =>
 (mappend zaw 1 1 (L.getD 0 .undef) t26).bind fun t27 =>
 M.pure (.nrm [t27]))
 ((M.lift (Ax.faddr 0 t5)).bind fun t29 =>
 (mload none t29).bind fun t30 =>
 (M.lift (Ax.cint .u8 t30)).bind fun t31 =>
 (M.lift (Ax.faddr 1 t5)).bind fun t32 =>
 (mload none t32).bind fun t33 =>
 (M.lift (vlen t33)).bind fun t34 =>
 (M.lift (Ax.cint .u8 t34)).bind fun t35 =>
 (mslit zaw 2 [(V.int .u8 0)] [(0,1,t31),(1,1,t35)]).bind fun t36 =>
 (mappend zaw 1 1 (L.getD 0 .undef) t36).bind fun t37 =>
 M.pure (.nrm [t37]))) fun L0 =>
 (M.lift (Ax.faddr 1 t5)).bind fun t39 =>
 (mload none t39).bind fun t40 =>
 (mappend zaw 1 1 (L0.getD 0 .undef) t40).bind fun t41 =>
 M.pure (.nrm [t41])) fun L1 =>
 (M.lift (Ax.bin .add (L.getD 1 .undef) (V.int .i64 1))).bind fun t42 =>
 M.pure (.nrm [(L1.getD 0 .undef),t42]))
 (M.pure (.ex 0 [(L.getD 0 .undef)]))
def zvN (G:Sem') (t2:V) (L:List V):M Res :=
 (M.lift (vlen (L.getD 0 .undef))).bind fun t44 =>
 (M.lift (Ax.bin .rem t44 (V.int .i64 4))).bind fun t45 =>
 (M.lift (Ax.bin .neq t45 (V.int .i64 0))).bind fun t46 =>
 M.ite t46
 (M.blk 3 (
 (mslit zaw 1 [(V.int .u8 0)] [(0,1,(V.int .u8 0))]).bind fun t48 =>
 (mappend zaw 1 1 (L.getD 0 .undef) t48).bind fun t49 =>
 M.pure (.nrm [t49])) fun L3 =>
 M.pure (.nrm [(L3.getD 0 .undef)]))
 (M.pure (.ex 2 [(L.getD 0 .undef)]))
def zqn (G:Sem') (t0:V):M Res :=
 (mbox zbc t0).bind fun t1 =>
 (M.lift (Ax.faddr 7 t1)).bind fun t6 =>
 (mload none t6).bind fun t7 =>
 (M.lift (vlen t7)).bind fun t8 =>
 M.blk 0 (
 M.iter (zvO G t8 t7 t1 V.nils) [V.nils,(V.int .i64 0)]) fun L2 =>
 M.blk 2 (
 M.iter (zvN G V.nils) [(L2.getD 0 .undef)]) fun L4 =>
 M.pure (.ret [(L4.getD 0 .undef)])
noncomputable def zkd:Fn':=(T zed).getD noF
theorem zwc:T zed = some zkd:=by kernel_rfl
theorem zxn (G:Sem') (t0:V):execK G zkd.rv zkd.body [] [] (params 0 [t0]) = zqn G t0:=by kernel_rfl
def zlN (G:Sem'):List V → M V
 | [t0]=>fin (zqn G t0)
 | _=>M.fail
theorem zye {g:Sem'} (hg:Sims g (sem T)) (args:List V):Sim (zlN g args) (sem T zed args):=by
 unfold zlN
 split
 ·exact zad zwc (Nat.le_of_ble_eq_true (by kernel_rfl)) hg (zxn g _)
 ·exact zaa
def zxj (G:Sem') (t0 t1:V):M Res :=
 (mbox zbP t0).bind fun t2 =>
 (mbox zag t1).bind fun t3 =>
 (mbox zam (V.agg [(V.int .i64 0),(V.int .i64 0),V.nils,V.nils,V.nils])).bind fun t4 =>
 (mload (some 19) t2).bind fun t7 =>
 (mload (some 6) t3).bind fun t8 =>
 (G zcE [t7,t8]).bind fun t9 =>
 (mbox zag (V.agg [(V.int .i64 0),(V.int .i64 0),V.nils,(V.int .i64 0),V.nils,V.nils])).bind fun t6 =>
 (mstore 6 t6 t9).bind fun _ =>
 (mload (some 6) t6).bind fun t10 =>
 (G zcB [t10]).bind fun t11 =>
 (M.lift (Ax.un .not t11)).bind fun t12 =>
 M.ite t12
 ((M.lift (Ax.build [(V.int .i64 0),(V.int .i64 0),V.nils,V.nils,V.nils] [])).bind fun t13 =>
 (mstore 5 t4 t13).bind fun _ =>
 (mload (some 5) t4).bind fun r0 =>
 M.pure (.ret [r0,(V.bool false)]))
 ((mload (some 6) t6).bind fun t14 =>
 (M.lift (Ax.faddr 2 t2)).bind fun t15 =>
 (mload none t15).bind fun t16 =>
 (G zcc [t14,t16]).bind fun t17 =>
 (M.lift (Ax.ext 0 t17)).bind fun t18 =>
 (M.lift (Ax.ext 1 t17)).bind fun t19 =>
 (mstore 5 t4 t18).bind fun _ =>
 (mload (some 5) t4).bind fun r0 =>
 M.pure (.ret [r0,t19]))
noncomputable def zoS:Fn':=(T zg6).getD noF
theorem zBg:T zg6 = some zoS:=by kernel_rfl
theorem zCx (G:Sem') (t0 t1:V):execK G zoS.rv zoS.body [] [] (params 0 [t0,t1]) = zxj G t0 t1:=by kernel_rfl
def zrH (G:Sem'):List V → M V
 | [t0,t1]=>fin (zxj G t0 t1)
 | _=>M.fail
theorem zDj {g:Sem'} (hg:Sims g (sem T)) (args:List V):Sim (zrH g args) (sem T zg6 args):=by
 unfold zrH
 split
 ·exact zad zBg (Nat.le_of_ble_eq_true (by kernel_rfl)) hg (zCx g _ _)
 ·exact zaa
def zsF (G:Sem') (t0:V):M Res :=
 (mbox zag t0).bind fun t1 =>
 (M.lift (Ax.faddr 0 t1)).bind fun t3 =>
 (mload none t3).bind fun t4 =>
 (M.lift (Ax.bin .eql t4 (V.int .i64 0))).bind fun t5 =>
 (guarded [(0,t5)] (some (0,true)) (M.lift (Ax.faddr 1 t1))).bind fun t7 =>
 (guarded [(0,t5)] (some (0,true)) (mload none t7)).bind fun t8 =>
 (guarded [(0,t5)] (some (0,true)) (M.lift (Ax.bin .eql t8 (V.int .i64 0)))).bind fun t9 =>
 (M.lift (Ax.pick t5 t9 (V.bool false))).bind fun t10 =>
 (guarded [(0,t10)] (some (0,true)) (M.lift (Ax.faddr 3 t1))).bind fun t12 =>
 (guarded [(0,t10)] (some (0,true)) (mload none t12)).bind fun t13 =>
 (guarded [(0,t10)] (some (0,true)) (M.lift (Ax.bin .eql t13 (V.int .i64 0)))).bind fun t14 =>
 (M.lift (Ax.pick t10 t14 (V.bool false))).bind fun t15 =>
 (guarded [(0,t15)] (some (0,true)) (M.lift (Ax.faddr 2 t1))).bind fun t17 =>
 (guarded [(0,t15)] (some (0,true)) (mload none t17)).bind fun t18 =>
 (guarded [(0,t15)] (some (0,true)) (M.lift (vlen t18))).bind fun t19 =>
 (guarded [(0,t15)] (some (0,true)) (M.lift (Ax.faddr 4 t1))).bind fun t20 =>
 (guarded [(0,t15)] (some (0,true)) (mload none t20)).bind fun t21 =>
 (guarded [(0,t15)] (some (0,true)) (M.lift (vlen t21))).bind fun t22 =>
 (guarded [(0,t15)] (some (0,true)) (M.lift (Ax.bin .add t19 t22))).bind fun t23 =>
 (guarded [(0,t15)] (some (0,true)) (M.lift (Ax.faddr 5 t1))).bind fun t24 =>
 (guarded [(0,t15)] (some (0,true)) (mload none t24)).bind fun t25 =>
 (guarded [(0,t15)] (some (0,true)) (M.lift (vlen t25))).bind fun t26 =>
 (guarded [(0,t15)] (some (0,true)) (M.lift (Ax.bin .add t23 t26))).bind fun t27 =>
 (guarded [(0,t15)] (some (0,true)) (M.lift (Ax.bin .eql t27 (V.int .i64 0)))).bind fun t28 =>
 (M.lift (Ax.pick t15 t28 (V.bool false))).bind fun t29 =>
 M.pure (.ret [t29])
noncomputable def zlD:Fn':=(T ze1).getD noF
theorem zx7:T ze1 = some zlD:=by kernel_rfl
theorem zyK (G:Sem') (t0:V):execK G zlD.rv zlD.body [] [] (params 0 [t0]) = zsF G t0:=by kernel_rfl
def znw (G:Sem'):List V → M V
 | [t0]=>fin (zsF G t0)
 | _=>M.fail
theorem zz0 {g:Sem'} (hg:Sims g (sem T)) (args:List V):Sim (znw g args) (sem T ze1 args):=by
 unfold znw
 split
 ·exact zad zx7 (Nat.le_of_ble_eq_true (by kernel_rfl)) hg (zyK g _)
 ·exact zaa
def zl7 (G:Sem') (t12 t0 t1:V) (L:List V):M Res :=
 (M.lift (Ax.bin .lss (L.getD 0 .undef) t12)).bind fun t14 =>
 M.ite t14
 (M.blk 1 (
 (M.lift (Ax.iaddr none 1 t0 (L.getD 0 .undef))).bind fun t18 =>
 (mload none t18).bind fun t19 =>
 (M.lift (Ax.iaddr none 1 t1 (L.getD 0 .undef))).bind fun t22 =>
 (mload none t22).bind fun t23 =>
 (M.lift (Ax.bin .neq t19 t23)).bind fun t24 =>
 M.ite t24
 (M.pure (.ret [(V.bool false)]))
 (M.pure (.nrm []))) fun _ =>
 (M.lift (Ax.bin .add (L.getD 0 .undef) (V.int .i64 1))).bind fun t25 =>
 M.pure (.nrm [t25]))
 (M.pure (.ex 0 []))
def zhS (G:Sem') (t0 t1:V):M Res :=
 (M.lift (vlen t0)).bind fun t7 =>
 (M.lift (vlen t1)).bind fun t9 =>
 (M.lift (Ax.bin .neq t7 t9)).bind fun t10 =>
 M.ite t10
 (M.pure (.ret [(V.bool false)]))
 ((M.lift (vlen t0)).bind fun t12 =>
 M.blk 0 (
 M.iter (zl7 G t12 t0 t1) [(V.int .i64 0)]) fun _ =>
 M.pure (.ret [(V.bool true)]))
noncomputable def zey:Fn':=(T zaY).getD noF
theorem zmz:T zaY = some zey:=by kernel_rfl
theorem znd (G:Sem') (t0 t1:V):execK G zey.rv zey.body [] [] (params 0 [t0,t1]) = zhS G t0 t1:=by kernel_rfl
def zfb (G:Sem'):List V → M V
 | [t0,t1]=>fin (zhS G t0 t1)
 | _=>M.fail
theorem zn6 {g:Sem'} (hg:Sims g (sem T)) (args:List V):Sim (zfb g args) (sem T zaY args):=by
 unfold zfb
 split
 ·exact zad zmz (Nat.le_of_ble_eq_true (by kernel_rfl)) hg (znd g _ _)
 ·exact zaa
def zqx (G:Sem') (t0 t1 t2:V):M Res :=
 (M.lift (vlen t0)).bind fun t8 =>
 (M.lift (Ax.bin .leq t8 t1)).bind fun t10 =>
 (guarded [(0,t10)] (some (0,true)) (M.pure t0)).bind fun t12 =>
 (guarded [(0,t10)] (some (0,true)) (M.pure t0)).bind fun t13 =>
 (guarded [(0,t10)] (some (0,true)) (M.lift (vlen t13))).bind fun t14 =>
 (guarded [(0,t10)] (some (0,true)) (M.pure t2)).bind fun t15 =>
 (guarded [(0,t10)] (some (0,true)) (G za4 [t12,t14,(V.int .i64 1),t15])).bind fun t16 =>
 (M.lift (Ax.pick t10 t16 (V.bool false))).bind fun t17 =>
 M.pure (.ret [t17])
noncomputable def zkn:Fn':=(T zdr).getD noF
theorem zwm:T zdr = some zkn:=by kernel_rfl
theorem zxx (G:Sem') (t0 t1 t2:V):execK G zkn.rv zkn.body [] [] (params 0 [t0,t1,t2]) = zqx G t0 t1 t2:=by kernel_rfl
def zlX (G:Sem'):List V → M V
 | [t0,t1,t2]=>fin (zqx G t0 t1 t2)
 | _=>M.fail
theorem zyo {g:Sem'} (hg:Sims g (sem T)) (args:List V):Sim (zlX g args) (sem T zdr args):=by
 unfold zlX
 split
 ·exact zad zwm (Nat.le_of_ble_eq_true (by kernel_rfl)) hg (zxx g _ _ _)
 ·exact zaa
def zCb (G:Sem') (t0 t1 t2:V):M Res :=
 (mbox zdO t0).bind fun t3 =>
 (mbox zdO (V.agg [(V.bool false),(V.int .i64 0),(V.int .i64 0)])).bind fun t6 =>
 M.blk 0 (
 (mload (some 3) t3).bind fun t10 =>
 (G zes [t10]).bind fun t11 =>
 (M.lift (Ax.un .not t11)).bind fun t12 =>
 M.ite t12
 ((mload (some 3) t3).bind fun t13 =>
 (mstore 3 t6 t13).bind fun _ =>
 (mload (some 3) t6).bind fun r0 =>
 M.pure (.ret [r0,(V.bool false),(V.bool false)]))
 ((M.lift (Ax.faddr 2 t3)).bind fun t16 =>
 (mload none t16).bind fun t17 =>
 (M.lift (Ax.bin .eql t1 t17)).bind fun t18 =>
 (guarded [(0,t18)] (some (0,true)) (M.pure t2)).bind fun t20 =>
 (M.lift (Ax.pick t18 t20 (V.bool false))).bind fun t21 =>
 (guarded [(0,t21)] (some (0,true)) (mload (some 3) t3)).bind fun t23 =>
 (guarded [(0,t21)] (some (0,true)) (M.pure t1)).bind fun t24 =>
 (guarded [(0,t21)] (some (0,true)) (G zbX [t23,t24])).bind fun t25 =>
 (guarded [(0,t21)] (some (0,true)) (M.lift (Ax.un .not t25))).bind fun t26 =>
 (M.lift (Ax.pick t21 t26 (V.bool false))).bind fun t27 =>
 M.ite t27
 ((M.lift (Ax.faddr 0 t3)).bind fun t29 =>
 (mstore 1 t29 (V.bool true)).bind fun _ =>
 (M.lift (Ax.faddr 1 t3)).bind fun t30 =>
 (mstore 1 t30 t1).bind fun _ =>
 (mload (some 3) t3).bind fun t31 =>
 (mstore 3 t6 t31).bind fun _ =>
 (mload (some 3) t6).bind fun r0 =>
 M.pure (.ret [r0,(V.bool true),(V.bool true)]))
 (M.pure (.nrm [])))) fun _ =>
 (mload (some 3) t3).bind fun t32 =>
 (mload (some 3) t3).bind fun t33 =>
 M.getH.bind fun h0 =>
 (G zbX [t33,t1]).bind fun t35 =>
 M.getH.bind fun h0' =>
 (M.unch t3 h0 h0').bind fun _ =>
 (mstore 3 t6 t32).bind fun _ =>
 (mload (some 3) t6).bind fun r0 =>
 M.pure (.ret [r0,t35,(V.bool false)])
noncomputable def ztZ:Fn':=(T zj9).getD noF
theorem zEs:T zj9 = some ztZ:=by kernel_rfl
theorem zE9 (G:Sem') (t0 t1 t2:V):execK G ztZ.rv ztZ.body [] [] (params 0 [t0,t1,t2]) = zCb G t0 t1 t2:=by kernel_rfl
def zxI (G:Sem'):List V → M V
 | [t0,t1,t2]=>fin (zCb G t0 t1 t2)
 | _=>M.fail
theorem zFD {g:Sem'} (hg:Sims g (sem T)) (args:List V):Sim (zxI g args) (sem T zj9 args):=by
 unfold zxI
 split
 ·exact zad zEs (Nat.le_of_ble_eq_true (by kernel_rfl)) hg (zE9 g _ _ _)
 ·exact zaa
def zmd (G:Sem') (t0:V):M Res :=
 (M.lift (Ax.nilck t0)).bind fun t4 =>
 (M.lift (Ax.faddr 13 t4)).bind fun t5 =>
 (mstore 1 t5 V.nils).bind fun _ =>
 (M.lift (Ax.nilck t0)).bind fun t6 =>
 (M.lift (Ax.faddr 15 t6)).bind fun t7 =>
 (mstore 1 t7 (V.bool false)).bind fun _ =>
 M.pure (.ret [])
noncomputable def zhm:Fn':=(T zcH).getD noF
theorem zrQ:T zcH = some zhm:=by kernel_rfl
theorem zsR (G:Sem') (t0:V):execK G zhm.rv zhm.body [] [] (params 0 [t0]) = zmd G t0:=by kernel_rfl
def ziF (G:Sem'):List V → M V
 | [t0]=>fin (zmd G t0)
 | _=>M.fail
theorem ztC {g:Sem'} (hg:Sims g (sem T)) (args:List V):Sim (ziF g args) (sem T zcH args):=by
 unfold ziF
 split
 ·exact zad zrQ (Nat.le_of_ble_eq_true (by kernel_rfl)) hg (zsR g _)
 ·exact zaa
def zuM (G:Sem') (t0 t1 t2 t3:V):M Res :=
 (mbox ziW t0).bind fun t4 =>
 (mbox ziW (V.agg [(V.bool false),(V.int .u16 0),(V.int .u32 0),(V.int .u32 0),(V.int .u16 0),(V.int .u16 0),(V.int .i64 0)])).bind fun t8 =>
 (M.lift (Ax.faddr 3 t4)).bind fun t9 =>
 (mstore 1 t9 (V.int .u32 0)).bind fun _ =>
 (M.lift (Ax.faddr 5 t4)).bind fun t10 =>
 (mstore 1 t10 (V.int .u16 0)).bind fun _ =>
 (M.lift (Ax.faddr 0 t4)).bind fun t11 =>
 (mload none t11).bind fun t12 =>
 M.join (M.ite t12
 ((M.lift (Ax.faddr 2 t4)).bind fun t13 =>
 (mload none t13).bind fun t14 =>
 (M.lift (Ax.faddr 6 t4)).bind fun t15 =>
 (mload none t15).bind fun t16 =>
 M.getH.bind fun h0 =>
 (G zfK [t16,t3]).bind fun t18 =>
 M.getH.bind fun h0' =>
 (M.unch t13 h0 h0').bind fun _ =>
 (M.lift (Ax.bin .mul (V.int .u32 90) t18)).bind fun t19 =>
 (M.lift (Ax.bin .add t14 t19)).bind fun t20 =>
 (M.lift (Ax.bin .sub t20 t1)).bind fun t22 =>
 (M.lift (Ax.faddr 3 t4)).bind fun t23 =>
 (mstore 1 t23 t22).bind fun _ =>
 (M.lift (Ax.faddr 4 t4)).bind fun t24 =>
 (mload none t24).bind fun t25 =>
 (M.lift (Ax.bin .add t25 (V.int .u16 1))).bind fun t26 =>
 (M.lift (Ax.bin .sub t26 t2)).bind fun t28 =>
 (M.lift (Ax.faddr 5 t4)).bind fun t29 =>
 (mstore 1 t29 t28).bind fun _ =>
 M.pure (.nrm []))
 (M.pure (.nrm []))) fun _ =>
 (mload (some 7) t4).bind fun t30 =>
 (mstore 7 t8 t30).bind fun _ =>
 (mload (some 7) t8).bind fun r0 =>
 M.pure (.ret [r0])
noncomputable def zmM:Fn':=(T zfL).getD noF
theorem zzo:T zfL = some zmM:=by kernel_rfl
theorem zAo (G:Sem') (t0 t1 t2 t3:V):execK G zmM.rv zmM.body [] [] (params 0 [t0,t1,t2,t3]) = zuM G t0 t1 t2 t3:=by kernel_rfl
def zps (G:Sem'):List V → M V
 | [t0,t1,t2,t3]=>fin (zuM G t0 t1 t2 t3)
 | _=>M.fail
theorem zBn {g:Sem'} (hg:Sims g (sem T)) (args:List V):Sim (zps g args) (sem T zfL args):=by
 unfold zps
 split
 ·exact zad zzo (Nat.le_of_ble_eq_true (by kernel_rfl)) hg (zAo g _ _ _ _)
 ·exact zaa
def zAm (G:Sem') (t22 t4 t1 t2 t3 t8 t9:V) (L:List V):M Res :=
 (M.lift (Ax.bin .lss (L.getD 4 .undef) t22)).bind fun t24 =>
 M.ite t24
 (M.blk 1 (
 (mload (some 6) t4).bind fun t27 =>
 (G zdM [t27,(L.getD 4 .undef)]).bind fun t29 =>
 (M.lift (Ax.ext 0 t29)).bind fun t30 =>
 (M.lift (Ax.ext 1 t29)).bind fun t31 =>
 (M.lift (Ax.ext 2 t29)).bind fun t32 =>
 (M.lift (Ax.un .not t32)).bind fun t34 =>
 (guarded [(0,t34)] (some (0,false)) (M.pure t1)).bind fun t36 =>
 (guarded [(0,t34)] (some (0,false)) (M.pure (L.getD 4 .undef))).bind fun t37 =>
 (guarded [(0,t34)] (some (0,false)) (M.lift (Ax.bin .shr t36 t37))).bind fun t38 =>
 (guarded [(0,t34)] (some (0,false)) (M.lift (Ax.bin .and t38 (V.int .u32 1)))).bind fun t39 =>
 (guarded [(0,t34)] (some (0,false)) (M.lift (Ax.bin .eql t39 (V.int .u32 0)))).bind fun t40 =>
 (M.lift (Ax.pick t34 (V.bool true) t40)).bind fun t41 =>
 (guarded [(0,t41)] (some (0,false)) (M.pure t30)).bind fun t43 =>
 (guarded [(0,t41)] (some (0,false)) (M.pure t2)).bind fun t44 =>
 (guarded [(0,t41)] (some (0,false)) (M.lift (Ax.bin .gtr t43 t44))).bind fun t45 =>
 (M.lift (Ax.pick t41 (V.bool true) t45)).bind fun t46 =>
 (guarded [(0,t46)] (some (0,false)) (M.pure t31)).bind fun t48 =>
 (guarded [(0,t46)] (some (0,false)) (M.pure t3)).bind fun t49 =>
 (guarded [(0,t46)] (some (0,false)) (M.lift (Ax.bin .gtr t48 t49))).bind fun t50 =>
 (M.lift (Ax.pick t46 (V.bool true) t50)).bind fun t51 =>
 M.ite t51
 (M.pure (.ex 1 [(L.getD 0 .undef),(L.getD 1 .undef),(L.getD 2 .undef),(L.getD 3 .undef)]))
 ((M.lift (Ax.un .not (L.getD 3 .undef))).bind fun t53 =>
 (guarded [(0,t53)] (some (0,false)) (M.pure t30)).bind fun t55 =>
 (guarded [(0,t53)] (some (0,false)) (M.pure (L.getD 1 .undef))).bind fun t56 =>
 (guarded [(0,t53)] (some (0,false)) (M.lift (Ax.bin .gtr t55 t56))).bind fun t57 =>
 (M.lift (Ax.pick t53 (V.bool true) t57)).bind fun t58 =>
 (guarded [(0,t58)] (some (0,false)) (M.pure t30)).bind fun t60 =>
 (guarded [(0,t58)] (some (0,false)) (M.pure (L.getD 1 .undef))).bind fun t61 =>
 (guarded [(0,t58)] (some (0,false)) (M.lift (Ax.bin .eql t60 t61))).bind fun t62 =>
 (guarded [(0,t58)] (some (0,false)) (M.pure t62)).bind fun t63 =>
 (guarded [(0,t63)] (some (0,true)) (M.pure t31)).bind fun t64 =>
 (guarded [(0,t63)] (some (0,true)) (M.pure (L.getD 2 .undef))).bind fun t65 =>
 (guarded [(0,t63)] (some (0,true)) (M.lift (Ax.bin .gtr t64 t65))).bind fun t66 =>
 (guarded [(0,t58)] (some (0,false)) (M.lift (Ax.pick t63 t66 (V.bool false)))).bind fun t67 =>
 (M.lift (Ax.pick t58 (V.bool true) t67)).bind fun t68 =>
 M.join (M.ite t68
 (M.pure (.nrm [(L.getD 4 .undef),t30,t31,(V.bool true)]))
 (M.pure (.nrm [(L.getD 0 .undef),(L.getD 1 .undef),(L.getD 2 .undef),(L.getD 3 .undef)]))) fun L0 =>
 M.pure (.nrm [(L0.getD 0 .undef),(L0.getD 1 .undef),(L0.getD 2 .undef),(L0.getD 3 .undef)]))) fun L1 =>
 (M.lift (Ax.bin .add (L.getD 4 .undef) (V.int .i64 1))).bind fun t72 =>
 M.pure (.nrm [(L1.getD 0 .undef),(L1.getD 1 .undef),(L1.getD 2 .undef),(L1.getD 3 .undef),t72]))
 (M.pure (.ex 0 [(L.getD 0 .undef),(L.getD 3 .undef)]))
def zxe (G:Sem') (t0 t1 t2 t3:V):M Res :=
 (mbox zag t0).bind fun t4 =>
 (mload (some 6) t4).bind fun t18 =>
 (G zcB [t18]).bind fun t19 =>
 (M.lift (Ax.un .not t19)).bind fun t20 =>
 M.ite t20
 (M.pure (.ret [(V.int .i64 0),(V.bool false)]))
 ((M.lift (Ax.faddr 1 t4)).bind fun t21 =>
 (mload none t21).bind fun t22 =>
 M.blk 0 (
 M.iter (zAm G t22 t4 t1 t2 t3 (V.int .i64 0) (V.bool false)) [(V.int .i64 0),(V.int .i64 0),(V.int .i64 0),(V.bool false),(V.int .i64 0)]) fun L2 =>
 M.pure (.ret [(L2.getD 0 .undef),(L2.getD 1 .undef)]))
noncomputable def zoN:Fn':=(T zg4).getD noF
theorem zBb:T zg4 = some zoN:=by kernel_rfl
theorem zCs (G:Sem') (t0 t1 t2 t3:V):execK G zoN.rv zoN.body [] [] (params 0 [t0,t1,t2,t3]) = zxe G t0 t1 t2 t3:=by kernel_rfl
def zrC (G:Sem'):List V → M V
 | [t0,t1,t2,t3]=>fin (zxe G t0 t1 t2 t3)
 | _=>M.fail
theorem zDe {g:Sem'} (hg:Sims g (sem T)) (args:List V):Sim (zrC g args) (sem T zg4 args):=by
 unfold zrC
 split
 ·exact zad zBb (Nat.le_of_ble_eq_true (by kernel_rfl)) hg (zCs g _ _ _ _)
 ·exact zaa
def zB8 (G:Sem') (t0 t1:V):M Res :=
 (mbox zbP t0).bind fun t2 =>
 (M.lift (Ax.bin .geq t1 (V.int .i64 0))).bind fun t6 =>
 (guarded [(0,t6)] (some (0,true)) (M.pure t1)).bind fun t8 =>
 (guarded [(0,t6)] (some (0,true)) (M.lift (Ax.faddr 16 t2))).bind fun t9 =>
 (guarded [(0,t6)] (some (0,true)) (mload none t9)).bind fun t10 =>
 (guarded [(0,t6)] (some (0,true)) (M.lift (vlen t10))).bind fun t11 =>
 (guarded [(0,t6)] (some (0,true)) (M.lift (Ax.bin .lss t8 t11))).bind fun t12 =>
 (M.lift (Ax.pick t6 t12 (V.bool false))).bind fun t13 =>
 (guarded [(0,t13)] (some (0,true)) (M.lift (Ax.faddr 16 t2))).bind fun t15 =>
 (guarded [(0,t13)] (some (0,true)) (mload none t15)).bind fun t16 =>
 (guarded [(0,t13)] (some (0,true)) (M.pure t1)).bind fun t17 =>
 (guarded [(0,t13)] (some (0,true)) (M.lift (Ax.iaddr none 1 t16 t17))).bind fun t18 =>
 (guarded [(0,t13)] (some (0,true)) (mload none t18)).bind fun t19 =>
 (guarded [(0,t13)] (some (0,true)) (M.lift (Ax.bin .neq t19 (V.int .i64 0)))).bind fun t20 =>
 (M.lift (Ax.pick t13 t20 (V.bool false))).bind fun t21 =>
 M.pure (.ret [t21])
noncomputable def ztX:Fn':=(T zj7).getD noF
theorem zEq:T zj7 = some ztX:=by kernel_rfl
theorem zE7 (G:Sem') (t0 t1:V):execK G ztX.rv ztX.body [] [] (params 0 [t0,t1]) = zB8 G t0 t1:=by kernel_rfl
def zxG (G:Sem'):List V → M V
 | [t0,t1]=>fin (zB8 G t0 t1)
 | _=>M.fail
theorem zFB {g:Sem'} (hg:Sims g (sem T)) (args:List V):Sim (zxG g args) (sem T zj7 args):=by
 unfold zxG
 split
 ·exact zad zEq (Nat.le_of_ble_eq_true (by kernel_rfl)) hg (zE7 g _ _)
 ·exact zaa
def zB6 (G:Sem') (t10 t9 t0 t1:V) (L:List V):M Res :=
 (M.lift (Ax.bin .lss (L.getD 0 .undef) t10)).bind fun t12 =>
 M.ite t12
 (M.blk 1 (
 (M.lift (Ax.iaddr none 1 t9 (L.getD 0 .undef))).bind fun t13 =>
 (mload none t13).bind fun t14 =>
 (M.lift (Ax.bin .lss t14 (V.int .i64 1))).bind fun t16 =>
 (guarded [(0,t16)] (some (0,false)) (M.pure t14)).bind fun t18 =>
 (guarded [(0,t16)] (some (0,false)) (M.lift (Ax.bin .gtr t18 (V.int .i64 4096)))).bind fun t19 =>
 (M.lift (Ax.pick t16 (V.bool true) t19)).bind fun t20 =>
 (guarded [(0,t20)] (some (0,false)) (M.pure t0)).bind fun t22 =>
 (guarded [(0,t20)] (some (0,false)) (M.pure t1)).bind fun t23 =>
 (guarded [(0,t20)] (some (0,false)) (M.pure t14)).bind fun t24 =>
 (guarded [(0,t20)] (some (0,false)) (M.lift (Ax.cint .u16 t24))).bind fun t25 =>
 (guarded [(0,t20)] (some (0,false)) (M.lift (Ax.bin .sub t23 t25))).bind fun t26 =>
 (guarded [(0,t20)] (some (0,false)) (G zfA [t22,t26])).bind fun t27 =>
 (guarded [(0,t20)] (some (0,false)) (M.lift (Ax.un .not t27))).bind fun t28 =>
 (M.lift (Ax.pick t20 (V.bool true) t28)).bind fun t29 =>
 M.ite t29
 (M.pure (.ret [(V.bool false)]))
 (M.pure (.nrm []))) fun _ =>
 (M.lift (Ax.bin .add (L.getD 0 .undef) (V.int .i64 1))).bind fun t30 =>
 M.pure (.nrm [t30]))
 (M.pure (.ex 0 []))
def zza (G:Sem') (t0 t1 t2:V):M Res :=
 (M.lift (vlen t2)).bind fun t10 =>
 M.blk 0 (
 M.iter (zB6 G t10 t2 t0 t1) [(V.int .i64 0)]) fun _ =>
 M.pure (.ret [(V.bool true)])
noncomputable def zqZ:Fn':=(T ziw).getD noF
theorem zCP:T ziw = some zqZ:=by kernel_rfl
theorem zDI (G:Sem') (t0 t1 t2:V):execK G zqZ.rv zqZ.body [] [] (params 0 [t0,t1,t2]) = zza G t0 t1 t2:=by kernel_rfl
def zuz (G:Sem'):List V → M V
 | [t0,t1,t2]=>fin (zza G t0 t1 t2)
 | _=>M.fail
theorem zEL {g:Sem'} (hg:Sims g (sem T)) (args:List V):Sim (zuz g args) (sem T ziw args):=by
 unfold zuz
 split
 ·exact zad zCP (Nat.le_of_ble_eq_true (by kernel_rfl)) hg (zDI g _ _ _)
 ·exact zaa
def zyu (G:Sem') (t18 t1 t2:V) (L:List V):M Res :=
 (M.lift (Ax.bin .lss (L.getD 0 .undef) t18)).bind fun t20 =>
 M.ite t20
 (M.blk 1 (
 (M.lift (Ax.faddr 7 t1)).bind fun t22 =>
 (mload none t22).bind fun t23 =>
 (M.lift (Ax.faddr 7 t1)).bind fun t25 =>
 (mload none t25).bind fun t26 =>
 (M.lift (Ax.iaddr none 2 t26 (L.getD 0 .undef))).bind fun t28 =>
 (M.lift (Ax.faddr 1 t28)).bind fun t29 =>
 (mload none t29).bind fun t30 =>
 M.getH.bind fun h2 =>
 (G zaN [t30]).bind fun t31 =>
 M.getH.bind fun h2' =>
 (M.unch t22 h2 h2').bind fun _ =>
 (M.lift (Ax.iaddr none 2 t23 (L.getD 0 .undef))).bind fun t32 =>
 (M.lift (Ax.faddr 1 t32)).bind fun t33 =>
 (mstore 1 t33 t31).bind fun _ =>
 M.pure (.nrm [])) fun _ =>
 (M.lift (Ax.bin .add (L.getD 0 .undef) (V.int .i64 1))).bind fun t34 =>
 M.pure (.nrm [t34]))
 (M.pure (.ex 0 []))
def zuV (G:Sem') (t0:V):M Res :=
 (mbox zbc t0).bind fun t1 =>
 (mbox zbc (V.agg [(V.bool false),(V.int .i64 0),(V.int .u16 0),(V.int .u32 0),(V.int .u32 0),V.nils,(V.int .i64 0),V.nils,(V.int .i64 0),V.nils])).bind fun t2 =>
 (M.lift (Ax.faddr 5 t1)).bind fun t4 =>
 (mload none t4).bind fun t5 =>
 (M.lift (Ax.faddr 9 t1)).bind fun t7 =>
 (mload none t7).bind fun t8 =>
 (M.lift (Ax.faddr 7 t1)).bind fun t10 =>
 (mload none t10).bind fun t11 =>
 M.getH.bind fun h0 =>
 (G zaW [t5]).bind fun t6 =>
 M.getH.bind fun h0' =>
 (M.unch t10 h0 h0').bind fun _ =>
 (M.unch t7 h0 h0').bind fun _ =>
 M.getH.bind fun h1 =>
 (G zaN [t8]).bind fun t9 =>
 M.getH.bind fun h1' =>
 (M.unch t10 h1 h1').bind fun _ =>
 (G zaP [t11]).bind fun t12 =>
 (M.lift (Ax.faddr 5 t1)).bind fun t13 =>
 (mstore 1 t13 t6).bind fun _ =>
 (M.lift (Ax.faddr 9 t1)).bind fun t14 =>
 (mstore 1 t14 t9).bind fun _ =>
 (M.lift (Ax.faddr 7 t1)).bind fun t15 =>
 (mstore 1 t15 t12).bind fun _ =>
 (M.lift (Ax.faddr 7 t1)).bind fun t16 =>
 (mload none t16).bind fun t17 =>
 (M.lift (vlen t17)).bind fun t18 =>
 M.blk 0 (
 M.iter (zyu G t18 t1 t2) [(V.int .i64 0)]) fun _ =>
 (mload (some 10) t1).bind fun t35 =>
 (mstore 10 t2 t35).bind fun _ =>
 (mload (some 10) t2).bind fun r0 =>
 M.pure (.ret [r0])
noncomputable def zmV:Fn':=(T zfO).getD noF
theorem zzx:T zfO = some zmV:=by kernel_rfl
theorem zAx (G:Sem') (t0:V):execK G zmV.rv zmV.body [] [] (params 0 [t0]) = zuV G t0:=by kernel_rfl
def zpB (G:Sem'):List V → M V
 | [t0]=>fin (zuV G t0)
 | _=>M.fail
theorem zBw {g:Sem'} (hg:Sims g (sem T)) (args:List V):Sim (zpB g args) (sem T zfO args):=by
 unfold zpB
 split
 ·exact zad zzx (Nat.le_of_ble_eq_true (by kernel_rfl)) hg (zAx g _)
 ·exact zaa
def zqp (G:Sem') (t0 t1:V):M Res :=
 (mbox zfo t1).bind fun t3 =>
 (M.lift (Ax.nilck t0)).bind fun t6 =>
 (M.lift (Ax.faddr 0 t6)).bind fun t7 =>
 (mload none t7).bind fun t8 =>
 (M.pure (.fn zc6 [t3])).bind fun t9 =>
 (G zat [t8,t9]).bind fun t10 =>
 M.pure (.ret [t10])
noncomputable def zkf:Fn':=(T zdo).getD noF
theorem zwe:T zdo = some zkf:=by kernel_rfl
theorem zxp (G:Sem') (t0 t1:V):execK G zkf.rv zkf.body [] [] (params 0 [t0,t1]) = zqp G t0 t1:=by kernel_rfl
def zlP (G:Sem'):List V → M V
 | [t0,t1]=>fin (zqp G t0 t1)
 | _=>M.fail
theorem zyg {g:Sem'} (hg:Sims g (sem T)) (args:List V):Sim (zlP g args) (sem T zdo args):=by
 unfold zlP
 split
 ·exact zad zwe (Nat.le_of_ble_eq_true (by kernel_rfl)) hg (zxp g _ _)
 ·exact zaa
def zcV (G:Sem') (t0 t1 t2:V):M Res :=
 (M.lift (vlen t0)).bind fun t12 =>
 (M.lift (zcx .sl 2 t0 (some t1) (some t2) (some t12))).bind fun t13 =>
 (M.lift (Ax.bin .eql t1 t2)).bind fun t16 =>
 M.ite t16
 (M.pure (.ret [t0]))
 ((M.lift (vlen t0)).bind fun t19 =>
 (M.lift (zcx .sl 2 t0 none (some t1) none)).bind fun t22 =>
 (M.lift (zcx .sl 2 t0 (some t2) none none)).bind fun t25 =>
 (mappend zj0 2 32 t22 t25).bind fun t26 =>
 (M.lift (vlen t26)).bind fun t29 =>
 (mslice2 2 t26 t29 t19).bind fun t31 =>
 (mclear [(V.int .u16 0),V.nils] t31).bind fun _ =>
 M.pure (.ret [t26]))
noncomputable def zbC:Fn':=(T zao).getD noF
theorem zfH:T zao = some zbC:=by kernel_rfl
theorem zf1 (G:Sem') (t0 t1 t2:V):execK G zbC.rv zbC.body [] [] (params 0 [t0,t1,t2]) = zcV G t0 t1 t2:=by kernel_rfl
def zbK (G:Sem'):List V → M V
 | [t0,t1,t2]=>fin (zcV G t0 t1 t2)
 | _=>M.fail
theorem zf7 {g:Sem'} (hg:Sims g (sem T)) (args:List V):Sim (zbK g args) (sem T zao args):=by
 unfold zbK
 split
 ·exact zad zfH (Nat.le_of_ble_eq_true (by kernel_rfl)) hg (zf1 g _ _ _)
 ·exact zaa
def zbZ (G:Sem') (t0 t1:V):M Res :=
 (G zan [t0,t1]).bind fun t7 =>
 (M.lift (Ax.bin .geq t7 (V.int .i64 0))).bind fun t8 =>
 M.pure (.ret [t8])
noncomputable def za3:Fn':=(T zak).getD noF
theorem zd3:T zak = some za3:=by kernel_rfl
theorem zd4 (G:Sem') (t0 t1:V):execK G za3.rv za3.body [] [] (params 0 [t0,t1]) = zbZ G t0 t1:=by kernel_rfl
def za7 (G:Sem'):List V → M V
 | [t0,t1]=>fin (zbZ G t0 t1)
 | _=>M.fail
theorem zd7 {g:Sem'} (hg:Sims g (sem T)) (args:List V):Sim (za7 g args) (sem T zak args):=by
 unfold za7
 split
 ·exact zad zd3 (Nat.le_of_ble_eq_true (by kernel_rfl)) hg (zd4 g _ _)
 ·exact zaa
def zqo (G:Sem') (t0:V):M Res :=
 (mbox zaF t0).bind fun t1 =>
 (mload (some 16) t1).bind fun t3 =>
 (G zgY [t3]).bind fun t4 =>
 (M.lift (Ax.un .not t4)).bind fun t5 =>
 M.pure (.ret [t5])
noncomputable def zke:Fn':=(T zee).getD noF
theorem zwd:T zee = some zke:=by kernel_rfl
theorem zxo (G:Sem') (t0:V):execK G zke.rv zke.body [] [] (params 0 [t0]) = zqo G t0:=by kernel_rfl
def zlO (G:Sem'):List V → M V
 | [t0]=>fin (zqo G t0)
 | _=>M.fail
theorem zyf {g:Sem'} (hg:Sims g (sem T)) (args:List V):Sim (zlO g args) (sem T zee args):=by
 unfold zlO
 split
 ·exact zad zwd (Nat.le_of_ble_eq_true (by kernel_rfl)) hg (zxo g _)
 ·exact zaa
def zw5 (G:Sem') (t0:V):M Res :=
 (mbox zaF t0).bind fun t1 =>
 (M.lift (Ax.faddr 0 t1)).bind fun t3 =>
 (mload none t3).bind fun t4 =>
 (M.lift (Ax.bin .lss t4 (V.int .i64 1))).bind fun t5 =>
 (guarded [(0,t5)] (some (0,false)) (M.lift (Ax.faddr 0 t1))).bind fun t7 =>
 (guarded [(0,t5)] (some (0,false)) (mload none t7)).bind fun t8 =>
 (guarded [(0,t5)] (some (0,false)) (M.lift (Ax.bin .gtr t8 (V.int .i64 7)))).bind fun t9 =>
 (M.lift (Ax.pick t5 (V.bool true) t9)).bind fun t10 =>
 (guarded [(0,t10)] (some (0,false)) (mload (some 16) t1)).bind fun t12 =>
 (guarded [(0,t10)] (some (0,false)) (mload (some 16) t1)).bind fun t13 =>
 M.getH.bind fun h0 =>
 (guarded [(0,t10)] (some (0,false)) (G zgV [t13])).bind fun t14 =>
 M.getH.bind fun h0' =>
 (M.unch t1 h0 h0').bind fun _ =>
 (guarded [(0,t10)] (some (0,false)) (G zfQ [t12,t14])).bind fun t15 =>
 (guarded [(0,t10)] (some (0,false)) (M.lift (Ax.un .not t15))).bind fun t16 =>
 (M.lift (Ax.pick t10 (V.bool true) t16)).bind fun t17 =>
 M.ite t17
 (M.pure (.ret [(V.bool false)]))
 ((M.lift (Ax.faddr 0 t1)).bind fun t18 =>
 (mload none t18).bind fun t19 =>
 M.blk 0 (
 (M.lift (Ax.bin .eql t19 (V.int .i64 1))).bind fun t21 =>
 M.join (M.ite t21
 (M.pure (.nrm [t21]))
 ((M.lift (Ax.bin .eql t19 (V.int .i64 2))).bind fun t22 =>
 M.pure (.nrm [t22]))) fun L0 =>
 M.ite (L0.getD 0 .undef)
 ((M.lift (Ax.faddr 7 t1)).bind fun t23 =>
 (mload none t23).bind fun t24 =>
 (M.lift (vlen t24)).bind fun t25 =>
 (M.lift (Ax.bin .leq t25 (V.int .i64 31))).bind fun t26 =>
 (guarded [(0,t26)] (some (0,true)) (M.lift (Ax.faddr 7 t1))).bind fun t28 =>
 (guarded [(0,t26)] (some (0,true)) (mload none t28)).bind fun t29 =>
 (guarded [(0,t26)] (some (0,true)) (G zal [t29,(V.fn zeY [])])).bind fun t30 =>
 (guarded [(0,t26)] (some (0,true)) (M.lift (Ax.un .not t30))).bind fun t31 =>
 (M.lift (Ax.pick t26 t31 (V.bool false))).bind fun t32 =>
 M.pure (.ret [t32]))
 ((M.lift (Ax.bin .eql t19 (V.int .i64 3))).bind fun t34 =>
 M.ite t34
 ((M.lift (Ax.faddr 8 t1)).bind fun t35 =>
 (mload none t35).bind fun t36 =>
 (M.lift (vlen t36)).bind fun t37 =>
 (M.lift (Ax.bin .gtr t37 (V.int .i64 0))).bind fun t38 =>
 M.pure (.ret [t38]))
 ((M.lift (Ax.bin .eql t19 (V.int .i64 5))).bind fun t40 =>
 M.ite t40
 ((M.lift (Ax.faddr 9 t1)).bind fun t41 =>
 (mload none t41).bind fun t42 =>
 (M.lift (vlen t42)).bind fun t43 =>
 (M.lift (Ax.bin .gtr t43 (V.int .i64 0))).bind fun t44 =>
 M.pure (.ret [t44]))
 ((M.lift (Ax.bin .eql t19 (V.int .i64 6))).bind fun t46 =>
 M.ite t46
 ((M.lift (Ax.faddr 12 t1)).bind fun t47 =>
 (mload none t47).bind fun t48 =>
 (M.lift (vlen t48)).bind fun t49 =>
 (M.lift (Ax.bin .leq t49 (V.int .i64 255))).bind fun t50 =>
 (guarded [(0,t50)] (some (0,true)) (M.lift (Ax.faddr 10 t1))).bind fun t52 =>
 (guarded [(0,t50)] (some (0,true)) (mload none t52)).bind fun t53 =>
 (guarded [(0,t50)] (some (0,true)) (M.lift (Ax.bin .geq t53 (V.int .i64 0)))).bind fun t54 =>
 (M.lift (Ax.pick t50 t54 (V.bool false))).bind fun t55 =>
 (guarded [(0,t55)] (some (0,true)) (M.lift (Ax.faddr 10 t1))).bind fun t57 =>
 (guarded [(0,t55)] (some (0,true)) (mload none t57)).bind fun t58 =>
 (guarded [(0,t55)] (some (0,true)) (M.lift (Ax.bin .leq t58 (V.int .i64 63)))).bind fun t59 =>
 (M.lift (Ax.pick t55 t59 (V.bool false))).bind fun t60 =>
 (guarded [(0,t60)] (some (0,true)) (M.lift (Ax.faddr 11 t1))).bind fun t62 =>
 (guarded [(0,t60)] (some (0,true)) (mload none t62)).bind fun t63 =>
 (guarded [(0,t60)] (some (0,true)) (M.lift (Ax.bin .lss t63 (V.int .u32 262144)))).bind fun t64 =>
 (M.lift (Ax.pick t60 t64 (V.bool false))).bind fun t65 =>
 M.pure (.ret [t65]))
 ((M.lift (Ax.bin .eql t19 (V.int .i64 7))).bind fun t67 =>
 M.ite t67
 ((M.lift (Ax.faddr 13 t1)).bind fun t68 =>
 (mload none t68).bind fun t69 =>
 (M.lift (Ax.bin .geq t69 (V.int .i64 192))).bind fun t70 =>
 (guarded [(0,t70)] (some (0,true)) (M.lift (Ax.faddr 13 t1))).bind fun t72 =>
 (guarded [(0,t70)] (some (0,true)) (mload none t72)).bind fun t73 =>
 (guarded [(0,t70)] (some (0,true)) (M.lift (Ax.bin .leq t73 (V.int .i64 223)))).bind fun t74 =>
 (M.lift (Ax.pick t70 t74 (V.bool false))).bind fun t75 =>
 (guarded [(0,t75)] (some (0,true)) (M.lift (Ax.faddr 14 t1))).bind fun t77 =>
 (guarded [(0,t75)] (some (0,true)) (mload none t77)).bind fun t78 =>
 (guarded [(0,t75)] (some (0,true)) (M.lift (Ax.bin .geq t78 (V.int .i64 0)))).bind fun t79 =>
 (M.lift (Ax.pick t75 t79 (V.bool false))).bind fun t80 =>
 (guarded [(0,t80)] (some (0,true)) (M.lift (Ax.faddr 14 t1))).bind fun t82 =>
 (guarded [(0,t80)] (some (0,true)) (mload none t82)).bind fun t83 =>
 (guarded [(0,t80)] (some (0,true)) (M.lift (Ax.bin .leq t83 (V.int .i64 31)))).bind fun t84 =>
 (M.lift (Ax.pick t80 t84 (V.bool false))).bind fun t85 =>
 (guarded [(0,t85)] (some (0,true)) (M.lift (Ax.faddr 15 t1))).bind fun t87 =>
 (guarded [(0,t85)] (some (0,true)) (mload none t87)).bind fun t88 =>
 (guarded [(0,t85)] (some (0,true)) (M.lift (vlen t88))).bind fun t89 =>
 (guarded [(0,t85)] (some (0,true)) (M.lift (Ax.bin .rem t89 (V.int .i64 4)))).bind fun t90 =>
 (guarded [(0,t85)] (some (0,true)) (M.lift (Ax.bin .eql t90 (V.int .i64 0)))).bind fun t91 =>
 (M.lift (Ax.pick t85 t91 (V.bool false))).bind fun t92 =>
 (guarded [(0,t92)] (some (0,true)) (M.lift (Ax.faddr 13 t1))).bind fun t94 =>
 (guarded [(0,t92)] (some (0,true)) (mload none t94)).bind fun t95 =>
 (guarded [(0,t92)] (some (0,true)) (M.lift (Ax.faddr 14 t1))).bind fun t96 =>
 (guarded [(0,t92)] (some (0,true)) (mload none t96)).bind fun t97 =>
 (guarded [(0,t92)] (some (0,true)) (M.lift (Ax.faddr 15 t1))).bind fun t98 =>
 (guarded [(0,t92)] (some (0,true)) (mload none t98)).bind fun t99 =>
 (guarded [(0,t92)] (some (0,true)) (G zfz [t95,t97,t99])).bind fun t100 =>
 (guarded [(0,t92)] (some (0,true)) (M.lift (Ax.bin .eql t100 (V.int .i64 7)))).bind fun t101 =>
 (M.lift (Ax.pick t92 t101 (V.bool false))).bind fun t102 =>
 M.pure (.ret [t102]))
 (M.pure (.nrm []))))))) fun _ =>
 M.pure (.ret [(V.bool true)]))
noncomputable def zoF:Fn':=(T zgY).getD noF
theorem zA3:T zgY = some zoF:=by kernel_rfl
theorem zCk (G:Sem') (t0:V):execK G zoF.rv zoF.body [] [] (params 0 [t0]) = zw5 G t0:=by kernel_rfl
def zru (G:Sem'):List V → M V
 | [t0]=>fin (zw5 G t0)
 | _=>M.fail
theorem zC6 {g:Sem'} (hg:Sims g (sem T)) (args:List V):Sim (zru g args) (sem T zgY args):=by
 unfold zru
 split
 ·exact zad zA3 (Nat.le_of_ble_eq_true (by kernel_rfl)) hg (zCk g _)
 ·exact zaa
def zAg (G:Sem') (t32 t31 t3 t4:V) (L:List V):M Res :=
 (M.lift (Ax.bin .lss (L.getD 1 .undef) t32)).bind fun t34 =>
 M.ite t34
 (M.blk 2 (
 (M.lift (Ax.iaddr none 1 t31 (L.getD 1 .undef))).bind fun t35 =>
 (mload none t35).bind fun t36 =>
 (M.lift (Ax.cint .u64 t36)).bind fun t39 =>
 (G zbn [(L.getD 0 .undef),t39,(V.int .i64 4)]).bind fun t40 =>
 M.pure (.nrm [t40])) fun L0 =>
 (M.lift (Ax.bin .add (L.getD 1 .undef) (V.int .i64 1))).bind fun t41 =>
 M.pure (.nrm [(L0.getD 0 .undef),t41]))
 (M.pure (.ex 1 [(L.getD 0 .undef)]))
def zAf (G:Sem') (t77 t76:V) (L:List V):M Res :=
 (M.lift (Ax.bin .lss (L.getD 1 .undef) t77)).bind fun t79 =>
 M.ite t79
 (M.blk 5 (
 (M.lift (Ax.iaddr none 2 t76 (L.getD 1 .undef))).bind fun t80 =>
 (mload (some 2) t80).bind fun t81 =>
 (mbox zk5 (V.agg [(V.int .u16 0),(V.int .u16 0)])).bind fun t8 =>
 (mstore 2 t8 t81).bind fun _ =>
 (M.lift (Ax.faddr 0 t8)).bind fun t83 =>
 (mload none t83).bind fun t84 =>
 (M.lift (Ax.cint .u64 t84)).bind fun t85 =>
 (M.lift (Ax.faddr 1 t8)).bind fun t87 =>
 (mload none t87).bind fun t88 =>
 (M.lift (Ax.cint .u64 t88)).bind fun t89 =>
 M.getH.bind fun h2 =>
 (G zbn [(L.getD 0 .undef),t85,(V.int .i64 2)]).bind fun t86 =>
 M.getH.bind fun h2' =>
 (M.unch t87 h2 h2').bind fun _ =>
 (G zbn [t86,t89,(V.int .i64 2)]).bind fun t90 =>
 M.pure (.nrm [t90])) fun L3 =>
 (M.lift (Ax.bin .add (L.getD 1 .undef) (V.int .i64 1))).bind fun t91 =>
 M.pure (.nrm [(L3.getD 0 .undef),t91]))
 (M.pure (.ex 4 [(L.getD 0 .undef)]))
def zAe (G:Sem') (t97 t96:V) (L:List V):M Res :=
 (M.lift (Ax.bin .lss (L.getD 1 .undef) t97)).bind fun t99 =>
 M.ite t99
 (M.blk 7 (
 (M.lift (Ax.iaddr none 2 t96 (L.getD 1 .undef))).bind fun t100 =>
 (mload (some 2) t100).bind fun t101 =>
 (mbox zmy (V.agg [(V.int .u32 0),(V.int .u8 0)])).bind fun t10 =>
 (mstore 2 t10 t101).bind fun _ =>
 (M.lift (Ax.faddr 0 t10)).bind fun t103 =>
 (mload none t103).bind fun t104 =>
 (M.lift (Ax.cint .u64 t104)).bind fun t105 =>
 (M.lift (Ax.faddr 1 t10)).bind fun t107 =>
 (mload none t107).bind fun t108 =>
 M.getH.bind fun h3 =>
 (G zbn [(L.getD 0 .undef),t105,(V.int .i64 4)]).bind fun t106 =>
 M.getH.bind fun h3' =>
 (M.unch t107 h3 h3').bind fun _ =>
 (mslit zaw 4 [(V.int .u8 0)] [(0,1,t108),(1,1,(V.int .u8 0)),(2,1,(V.int .u8 0)),(3,1,(V.int .u8 0))]).bind fun t109 =>
 (mappend zaw 1 1 t106 t109).bind fun t110 =>
 M.pure (.nrm [t110])) fun L5 =>
 (M.lift (Ax.bin .add (L.getD 1 .undef) (V.int .i64 1))).bind fun t111 =>
 M.pure (.nrm [(L5.getD 0 .undef),t111]))
 (M.pure (.ex 6 [(L.getD 0 .undef)]))
def zAd (G:Sem') (t135 t134:V) (L:List V):M Res :=
 (M.lift (Ax.bin .lss (L.getD 1 .undef) t135)).bind fun t137 =>
 M.ite t137
 (M.blk 9 (
 (M.lift (Ax.iaddr none 1 t134 (L.getD 1 .undef))).bind fun t138 =>
 (mload none t138).bind fun t139 =>
 (M.lift (Ax.cint .u64 t139)).bind fun t142 =>
 (G zbn [(L.getD 0 .undef),t142,(V.int .i64 4)]).bind fun t143 =>
 M.pure (.nrm [t143])) fun L7 =>
 (M.lift (Ax.bin .add (L.getD 1 .undef) (V.int .i64 1))).bind fun t144 =>
 M.pure (.nrm [(L7.getD 0 .undef),t144]))
 (M.pure (.ex 8 [(L.getD 0 .undef)]))
def zwY (G:Sem') (t0:V):M Res :=
 (mbox zaF t0).bind fun t1 =>
 (M.lift (Ax.faddr 1 t1)).bind fun t13 =>
 (mload none t13).bind fun t14 =>
 (M.lift (Ax.cint .u64 t14)).bind fun t15 =>
 (G zbn [V.nils,t15,(V.int .i64 4)]).bind fun t16 =>
 (M.lift (Ax.faddr 0 t1)).bind fun t17 =>
 (mload none t17).bind fun t18 =>
 M.blk 0 (
 (M.lift (Ax.bin .eql t18 (V.int .i64 1))).bind fun t20 =>
 M.ite t20
 ((M.lift (Ax.faddr 3 t1)).bind fun t22 =>
 (mload none t22).bind fun t23 =>
 (G zbn [t16,t23,(V.int .i64 8)]).bind fun t24 =>
 (M.lift (Ax.faddr 4 t1)).bind fun t25 =>
 (mload none t25).bind fun t26 =>
 (M.lift (Ax.faddr 5 t1)).bind fun t27 =>
 (mload none t27).bind fun t28 =>
 (M.lift (Ax.faddr 6 t1)).bind fun t29 =>
 (mload none t29).bind fun t30 =>
 (mslit zfn 3 [(V.int .u32 0)] [(0,1,t26),(1,1,t28),(2,1,t30)]).bind fun t31 =>
 (M.lift (vlen t31)).bind fun t32 =>
 M.blk 1 (
 M.iter (zAg G t32 t31 (V.int .i64 0) (V.int .i64 0)) [t24,(V.int .i64 0)]) fun L1 =>
 (M.lift (Ax.faddr 7 t1)).bind fun t43 =>
 (mload none t43).bind fun t44 =>
 (M.lift (Ax.faddr 7 t1)).bind fun t46 =>
 (mload none t46).bind fun t47 =>
 (M.lift (vlen t47)).bind fun t48 =>
 M.getH.bind fun h0 =>
 (G zdX [(L1.getD 0 .undef),t44]).bind fun t45 =>
 M.getH.bind fun h0' =>
 (M.unch t46 h0 h0').bind fun _ =>
 M.pure (.ret [t45,(V.int .i64 200),t48]))
 ((M.lift (Ax.bin .eql t18 (V.int .i64 2))).bind fun t50 =>
 M.ite t50
 ((M.lift (Ax.faddr 7 t1)).bind fun t52 =>
 (mload none t52).bind fun t53 =>
 (M.lift (Ax.faddr 7 t1)).bind fun t55 =>
 (mload none t55).bind fun t56 =>
 (M.lift (vlen t56)).bind fun t57 =>
 M.getH.bind fun h1 =>
 (G zdX [t16,t53]).bind fun t54 =>
 M.getH.bind fun h1' =>
 (M.unch t55 h1 h1').bind fun _ =>
 M.pure (.ret [t54,(V.int .i64 201),t57]))
 ((M.lift (Ax.bin .eql t18 (V.int .i64 7))).bind fun t59 =>
 M.ite t59
 ((M.lift (Ax.faddr 15 t1)).bind fun t60 =>
 (mload none t60).bind fun t61 =>
 (M.lift (Ax.faddr 13 t1)).bind fun t62 =>
 (mload none t62).bind fun t63 =>
 (M.lift (Ax.faddr 14 t1)).bind fun t64 =>
 (mload none t64).bind fun t65 =>
 M.pure (.ret [t61,t63,t65]))
 (M.pure (.nrm [t16]))))) fun L2 =>
 (M.lift (Ax.faddr 2 t1)).bind fun t67 =>
 (mload none t67).bind fun t68 =>
 (M.lift (Ax.cint .u64 t68)).bind fun t69 =>
 (G zbn [(L2.getD 0 .undef),t69,(V.int .i64 4)]).bind fun t70 =>
 (M.lift (Ax.faddr 0 t1)).bind fun t71 =>
 (mload none t71).bind fun t72 =>
 M.blk 3 (
 (M.lift (Ax.bin .eql t72 (V.int .i64 3))).bind fun t74 =>
 M.ite t74
 ((M.lift (Ax.faddr 8 t1)).bind fun t75 =>
 (mload none t75).bind fun t76 =>
 (M.lift (vlen t76)).bind fun t77 =>
 M.blk 4 (
 M.iter (zAf G t77 t76) [t70,(V.int .i64 0)]) fun L4 =>
 M.pure (.ret [(L4.getD 0 .undef),(V.int .i64 205),(V.int .i64 1)]))
 ((M.lift (Ax.bin .eql t72 (V.int .i64 5))).bind fun t94 =>
 M.ite t94
 ((M.lift (Ax.faddr 9 t1)).bind fun t95 =>
 (mload none t95).bind fun t96 =>
 (M.lift (vlen t96)).bind fun t97 =>
 M.blk 6 (
 M.iter (zAe G t97 t96) [t70,(V.int .i64 0)]) fun L6 =>
 M.pure (.ret [(L6.getD 0 .undef),(V.int .i64 206),(V.int .i64 4)]))
 ((M.lift (Ax.bin .eql t72 (V.int .i64 6))).bind fun t114 =>
 M.ite t114
 ((M.lift (Ax.faddr 12 t1)).bind fun t117 =>
 (mload none t117).bind fun t118 =>
 (M.lift (vlen t118)).bind fun t119 =>
 (M.lift (Ax.cint .u8 t119)).bind fun t120 =>
 M.getH.bind fun h4 =>
 (mappend zaw 1 1 t70 (V.str ⟨#[82,69,77,66]⟩)).bind fun t116 =>
 M.getH.bind fun h4' =>
 (M.unch t117 h4 h4').bind fun _ =>
 (mslit zaw 1 [(V.int .u8 0)] [(0,1,t120)]).bind fun t121 =>
 (mappend zaw 1 1 t116 t121).bind fun t122 =>
 (M.lift (Ax.faddr 10 t1)).bind fun t124 =>
 (mload none t124).bind fun t125 =>
 (M.lift (Ax.cint .u64 t125)).bind fun t126 =>
 (M.lift (Ax.bin .shl t126 (V.int .u64 18))).bind fun t127 =>
 (M.lift (Ax.faddr 11 t1)).bind fun t128 =>
 (mload none t128).bind fun t129 =>
 (M.lift (Ax.cint .u64 t129)).bind fun t130 =>
 (M.lift (Ax.bin .or t127 t130)).bind fun t131 =>
 (G zbn [t122,t131,(V.int .i64 3)]).bind fun t132 =>
 (M.lift (Ax.faddr 12 t1)).bind fun t133 =>
 (mload none t133).bind fun t134 =>
 (M.lift (vlen t134)).bind fun t135 =>
 M.blk 8 (
 M.iter (zAd G t135 t134) [t132,(V.int .i64 0)]) fun L8 =>
 M.pure (.ret [(L8.getD 0 .undef),(V.int .i64 206),(V.int .i64 15)]))
 (M.pure (.nrm [t70]))))) fun L9 =>
 M.pure (.ret [(L9.getD 0 .undef),(V.int .i64 206),(V.int .i64 1)])
noncomputable def zoA:Fn':=(T zgU).getD noF
theorem zAY:T zgU = some zoA:=by kernel_rfl
theorem zCf (G:Sem') (t0:V):execK G zoA.rv zoA.body [] [] (params 0 [t0]) = zwY G t0:=by kernel_rfl
def zrp (G:Sem'):List V → M V
 | [t0]=>fin (zwY G t0)
 | _=>M.fail
theorem zC1 {g:Sem'} (hg:Sims g (sem T)) (args:List V):Sim (zrp g args) (sem T zgU args):=by
 unfold zrp
 split
 ·exact zad zAY (Nat.le_of_ble_eq_true (by kernel_rfl)) hg (zCf g _)
 ·exact zaa
end Go.Ax.Cc
/- CiK10 -/
namespace Go.Ax.Cc
open Go.Proofs
def zB4 (G:Sem') (t1 t6:V) (L:List V):M Res :=
 (M.lift (Ax.bin .geq (L.getD 1 .undef) (V.int .i64 0))).bind fun t11 =>
 M.ite t11
 (M.blk 1 (
 (M.lift (Ax.bin .mul (V.int .i64 8) (L.getD 1 .undef))).bind fun t17 =>
 (M.lift (Ax.bin .shr t1 t17)).bind fun t18 =>
 (M.lift (Ax.cint .u8 t18)).bind fun t19 =>
 (mslit zaw 1 [(V.int .u8 0)] [(0,1,t19)]).bind fun t20 =>
 (mappend zaw 1 1 (L.getD 0 .undef) t20).bind fun t21 =>
 M.pure (.nrm [t21])) fun L0 =>
 (M.lift (Ax.bin .sub (L.getD 1 .undef) (V.int .i64 1))).bind fun t13 =>
 M.pure (.nrm [(L0.getD 0 .undef),t13]))
 (M.pure (.ex 0 [(L.getD 0 .undef)]))
def zy7 (G:Sem') (t0 t1 t2:V):M Res :=
 (M.lift (Ax.bin .sub t2 (V.int .i64 1))).bind fun t9 =>
 M.blk 0 (
 M.iter (zB4 G t1 V.nils) [t0,t9]) fun L1 =>
 M.pure (.ret [(L1.getD 0 .undef)])
noncomputable def zqW:Fn':=(T zbn).getD noF
theorem zCM:T zbn = some zqW:=by kernel_rfl
theorem zDF (G:Sem') (t0 t1 t2:V):execK G zqW.rv zqW.body [] [] (params 0 [t0,t1,t2]) = zy7 G t0 t1 t2:=by kernel_rfl
def zuw (G:Sem'):List V → M V
 | [t0,t1,t2]=>fin (zy7 G t0 t1 t2)
 | _=>M.fail
theorem zEI {g:Sem'} (hg:Sims g (sem T)) (args:List V):Sim (zuw g args) (sem T zbn args):=by
 unfold zuw
 split
 ·exact zad zCM (Nat.le_of_ble_eq_true (by kernel_rfl)) hg (zDF g _ _ _)
 ·exact zaa
def zk1 (G:Sem') (t7 t1 t0:V) (L:List V):M Res :=
 (M.lift (Ax.bin .lss (L.getD 0 .undef) t7)).bind fun t9 =>
 M.ite t9
 (M.blk 1 (
 (M.lift (Ax.iaddr none 1 t0 (L.getD 0 .undef))).bind fun t14 =>
 (mload none t14).bind fun t15 =>
 (M.lift (eqr .bool false t1 t15)).bind fun t16 =>
 M.ite t16
 (M.pure (.ret [(L.getD 0 .undef)]))
 (M.pure (.nrm []))) fun _ =>
 (M.lift (Ax.bin .add (L.getD 0 .undef) (V.int .i64 1))).bind fun t18 =>
 M.pure (.nrm [t18]))
 (M.pure (.ex 0 []))
def zg9 (G:Sem') (t0 t1:V):M Res :=
 (M.lift (vlen t0)).bind fun t7 =>
 M.blk 0 (
 M.iter (zk1 G t7 t1 t0) [(V.int .i64 0)]) fun _ =>
 M.pure (.ret [(V.int .i64 (-1))])
noncomputable def zdU:Fn':=(T za2).getD noF
theorem zli:T za2 = some zdU:=by kernel_rfl
theorem zlK (G:Sem') (t0 t1:V):execK G zdU.rv zdU.body [] [] (params 0 [t0,t1]) = zg9 G t0 t1:=by kernel_rfl
def zel (G:Sem'):List V → M V
 | [t0,t1]=>fin (zg9 G t0 t1)
 | _=>M.fail
theorem zl3 {g:Sem'} (hg:Sims g (sem T)) (args:List V):Sim (zel g args) (sem T za2 args):=by
 unfold zel
 split
 ·exact zad zli (Nat.le_of_ble_eq_true (by kernel_rfl)) hg (zlK g _ _)
 ·exact zaa
def zu2 (G:Sem') (t0:V):M Res :=
 (M.lift (Ax.bin .geq t0 (V.int .i64 0))).bind fun t4 =>
 (guarded [(0,t4)] (some (0,true)) (M.pure t0)).bind fun t6 =>
 (guarded [(0,t4)] (some (0,true)) (M.lift (Ax.bin .lss t6 (V.int .i64 8)))).bind fun t7 =>
 (M.lift (Ax.pick t4 t7 (V.bool false))).bind fun t8 =>
 M.pure (.ret [t8])
noncomputable def zm2:Fn':=(T zeI).getD noF
theorem zzE:T zeI = some zm2:=by kernel_rfl
theorem zAE (G:Sem') (t0:V):execK G zm2.rv zm2.body [] [] (params 0 [t0]) = zu2 G t0:=by kernel_rfl
def zpI (G:Sem'):List V → M V
 | [t0]=>fin (zu2 G t0)
 | _=>M.fail
theorem zBD {g:Sem'} (hg:Sims g (sem T)) (args:List V):Sim (zpI g args) (sem T zeI args):=by
 unfold zpI
 split
 ·exact zad zzE (Nat.le_of_ble_eq_true (by kernel_rfl)) hg (zAE g _)
 ·exact zaa
def zuN (G:Sem') (t0:V):M Res :=
 (M.lift (Ax.bin .geq t0 (V.int .i64 0))).bind fun t4 =>
 (guarded [(0,t4)] (some (0,true)) (M.pure t0)).bind fun t6 =>
 (guarded [(0,t4)] (some (0,true)) (M.lift (Ax.bin .lss t6 (V.int .i64 8)))).bind fun t7 =>
 (M.lift (Ax.pick t4 t7 (V.bool false))).bind fun t8 =>
 M.pure (.ret [t8])
noncomputable def zmN:Fn':=(T zfM).getD noF
theorem zzp:T zfM = some zmN:=by kernel_rfl
theorem zAp (G:Sem') (t0:V):execK G zmN.rv zmN.body [] [] (params 0 [t0]) = zuN G t0:=by kernel_rfl
def zpt (G:Sem'):List V → M V
 | [t0]=>fin (zuN G t0)
 | _=>M.fail
theorem zBo {g:Sem'} (hg:Sims g (sem T)) (args:List V):Sim (zpt g args) (sem T zfM args):=by
 unfold zpt
 split
 ·exact zad zzp (Nat.le_of_ble_eq_true (by kernel_rfl)) hg (zAp g _)
 ·exact zaa
def zhf (G:Sem') (t7 t1 t0:V) (L:List V):M Res :=
 (M.lift (Ax.bin .lss (L.getD 0 .undef) t7)).bind fun t9 =>
 M.ite t9
 (M.blk 1 (
 (M.lift (Ax.iaddr none 1 t0 (L.getD 0 .undef))).bind fun t14 =>
 (mload none t14).bind fun t15 =>
 (callv G t1 [t15]).bind fun t16 =>
 M.ite t16
 (M.pure (.ret [(L.getD 0 .undef)]))
 (M.pure (.nrm []))) fun _ =>
 (M.lift (Ax.bin .add (L.getD 0 .undef) (V.int .i64 1))).bind fun t18 =>
 M.pure (.nrm [t18]))
 (M.pure (.ex 0 []))
def zd2 (G:Sem') (t0 t1:V):M Res :=
 (M.lift (vlen t0)).bind fun t7 =>
 M.blk 0 (
 M.iter (zhf G t7 t1 t0) [(V.int .i64 0)]) fun _ =>
 M.pure (.ret [(V.int .i64 (-1))])
noncomputable def zb3:Fn':=(T zaD).getD noF
theorem zhh:T zaD = some zb3:=by kernel_rfl
theorem zhE (G:Sem') (t0 t1:V):execK G zb3.rv zb3.body [] [] (params 0 [t0,t1]) = zd2 G t0 t1:=by kernel_rfl
def zcm (G:Sem'):List V → M V
 | [t0,t1]=>fin (zd2 G t0 t1)
 | _=>M.fail
theorem zhO {g:Sem'} (hg:Sims g (sem T)) (args:List V):Sim (zcm g args) (sem T zaD args):=by
 unfold zcm
 split
 ·exact zad zhh (Nat.le_of_ble_eq_true (by kernel_rfl)) hg (zhE g _ _)
 ·exact zaa
def zlc (G:Sem') (t0 t1 t2:V):M Res :=
 (mload none t1).bind fun t8 =>
 (mload none t2).bind fun t9 =>
 (G zbI [t8,t9,t0]).bind fun t11 =>
 (M.lift (Ax.ext 0 t11)).bind fun t12 =>
 (M.lift (Ax.ext 1 t11)).bind fun t13 =>
 (M.lift (Ax.un .not t13)).bind fun t15 =>
 M.pure (.ret [t15])
noncomputable def zgB:Fn':=(T zcs).getD noF
theorem zqF:T zcs = some zgB:=by kernel_rfl
theorem zrh (G:Sem') (t0 t1 t2:V):execK G zgB.rv zgB.body [] [] (params 0 [t0,t1,t2]) = zlc G t0 t1 t2:=by kernel_rfl
def zhJ (G:Sem'):List V → M V
 | [t0,t1,t2]=>fin (zlc G t0 t1 t2)
 | _=>M.fail
theorem zr9 {g:Sem'} (hg:Sims g (sem T)) (args:List V):Sim (zhJ g args) (sem T zcs args):=by
 unfold zhJ
 split
 ·exact zad zqF (Nat.le_of_ble_eq_true (by kernel_rfl)) hg (zrh g _ _ _)
 ·exact zaa
def zeR (G:Sem') (t0 t1 t2:V):M Res :=
 (M.lift (vlen t0)).bind fun t12 =>
 (M.lift (zcx .sl 1 t0 (some t1) (some t2) (some t12))).bind fun t13 =>
 (M.lift (Ax.bin .eql t1 t2)).bind fun t16 =>
 M.ite t16
 (M.pure (.ret [t0]))
 ((M.lift (vlen t0)).bind fun t19 =>
 (M.lift (zcx .sl 1 t0 none (some t1) none)).bind fun t22 =>
 (M.lift (zcx .sl 1 t0 (some t2) none none)).bind fun t25 =>
 (mappend zfn 1 4 t22 t25).bind fun t26 =>
 (M.lift (vlen t26)).bind fun t29 =>
 (mslice2 1 t26 t29 t19).bind fun t31 =>
 (mclear [(V.int .u32 0)] t31).bind fun _ =>
 M.pure (.ret [t26]))
noncomputable def zcC:Fn':=(T zaS).getD noF
theorem ziX:T zaS = some zcC:=by kernel_rfl
theorem zi6 (G:Sem') (t0 t1 t2:V):execK G zcC.rv zcC.body [] [] (params 0 [t0,t1,t2]) = zeR G t0 t1 t2:=by kernel_rfl
def zcS (G:Sem'):List V → M V
 | [t0,t1,t2]=>fin (zeR G t0 t1 t2)
 | _=>M.fail
theorem zjb {g:Sem'} (hg:Sims g (sem T)) (args:List V):Sim (zcS g args) (sem T zaS args):=by
 unfold zcS
 split
 ·exact zad ziX (Nat.le_of_ble_eq_true (by kernel_rfl)) hg (zi6 g _ _ _)
 ·exact zaa
def zy8 (G:Sem'):M Res :=
 (M.lift (Ax.build [V.nils] [])).bind fun t1 =>
 (mbox zAS t1).bind fun t2 =>
 M.pure (.ret [t2])
noncomputable def zqX:Fn':=(T ziv).getD noF
theorem zCN:T ziv = some zqX:=by kernel_rfl
theorem zDG (G:Sem'):execK G zqX.rv zqX.body [] [] (params 0 []) = zy8 G:=by kernel_rfl
def zux (G:Sem'):List V → M V
 | []=>fin (zy8 G)
 | _=>M.fail
theorem zEJ {g:Sem'} (hg:Sims g (sem T)) (args:List V):Sim (zux g args) (sem T ziv args):=by
 unfold zux
 split
 ·exact zad zCN (Nat.le_of_ble_eq_true (by kernel_rfl)) hg (zDG g)
 ·exact zaa
def zu8 (G:Sem') (t0:V):M Res :=
 (mbox zdO t0).bind fun t1 =>
 (mload (some 3) t1).bind fun t4 =>
 (G zes [t4]).bind fun t5 =>
 (M.lift (Ax.un .not t5)).bind fun t6 =>
 (guarded [(0,t6)] (some (0,false)) (mload (some 3) t1)).bind fun t8 =>
 (guarded [(0,t6)] (some (0,false)) (M.lift (Ax.faddr 2 t1))).bind fun t9 =>
 (guarded [(0,t6)] (some (0,false)) (mload none t9)).bind fun t10 =>
 (guarded [(0,t6)] (some (0,false)) (G zbX [t8,t10])).bind fun t11 =>
 (M.lift (Ax.pick t6 (V.bool true) t11)).bind fun t12 =>
 M.ite t12
 (M.pure (.ret [(V.int .i64 0),(V.bool false)]))
 ((M.lift (Ax.faddr 2 t1)).bind fun t13 =>
 (mload none t13).bind fun t14 =>
 M.pure (.ret [t14,(V.bool true)]))
noncomputable def zm8:Fn':=(T zfZ).getD noF
theorem zzK:T zfZ = some zm8:=by kernel_rfl
theorem zAK (G:Sem') (t0:V):execK G zm8.rv zm8.body [] [] (params 0 [t0]) = zu8 G t0:=by kernel_rfl
def zpO (G:Sem'):List V → M V
 | [t0]=>fin (zu8 G t0)
 | _=>M.fail
theorem zBJ {g:Sem'} (hg:Sims g (sem T)) (args:List V):Sim (zpO g args) (sem T zfZ args):=by
 unfold zpO
 split
 ·exact zad zzK (Nat.le_of_ble_eq_true (by kernel_rfl)) hg (zAK g _)
 ·exact zaa
def zxl (G:Sem') (t0:V):M Res :=
 (mbox zdO t0).bind fun t1 =>
 (M.lift (Ax.faddr 1 t1)).bind fun t3 =>
 (mload none t3).bind fun t4 =>
 (G zc5 [t4]).bind fun t5 =>
 (guarded [(0,t5)] (some (0,true)) (M.lift (Ax.faddr 2 t1))).bind fun t7 =>
 (guarded [(0,t5)] (some (0,true)) (mload none t7)).bind fun t8 =>
 (guarded [(0,t5)] (some (0,true)) (G zc5 [t8])).bind fun t9 =>
 (M.lift (Ax.pick t5 t9 (V.bool false))).bind fun t10 =>
 (guarded [(0,t10)] (some (0,true)) (M.lift (Ax.faddr 0 t1))).bind fun t12 =>
 (guarded [(0,t10)] (some (0,true)) (mload none t12)).bind fun t13 =>
 (guarded [(0,t10)] (some (0,true)) (M.pure t13)).bind fun t14 =>
 (guarded [(0,t14)] (some (0,false)) (M.lift (Ax.faddr 1 t1))).bind fun t15 =>
 (guarded [(0,t14)] (some (0,false)) (mload none t15)).bind fun t16 =>
 (guarded [(0,t14)] (some (0,false)) (M.lift (Ax.bin .eql t16 (V.int .i64 0)))).bind fun t17 =>
 (guarded [(0,t10)] (some (0,true)) (M.lift (Ax.pick t14 (V.bool true) t17))).bind fun t18 =>
 (M.lift (Ax.pick t10 t18 (V.bool false))).bind fun t19 =>
 M.pure (.ret [t19])
noncomputable def zoT:Fn':=(T zes).getD noF
theorem zBh:T zes = some zoT:=by kernel_rfl
theorem zCy (G:Sem') (t0:V):execK G zoT.rv zoT.body [] [] (params 0 [t0]) = zxl G t0:=by kernel_rfl
def zrI (G:Sem'):List V → M V
 | [t0]=>fin (zxl G t0)
 | _=>M.fail
theorem zDk {g:Sem'} (hg:Sims g (sem T)) (args:List V):Sim (zrI g args) (sem T zes args):=by
 unfold zrI
 split
 ·exact zad zBh (Nat.le_of_ble_eq_true (by kernel_rfl)) hg (zCy g _)
 ·exact zaa
def zsJ (G:Sem') (t0:V):M Res :=
 (M.lift (Ax.bin .geq t0 (V.int .i64 0))).bind fun t4 =>
 (guarded [(0,t4)] (some (0,true)) (M.pure t0)).bind fun t6 =>
 (guarded [(0,t4)] (some (0,true)) (M.lift (Ax.bin .lss t6 (V.int .i64 3)))).bind fun t7 =>
 (M.lift (Ax.pick t4 t7 (V.bool false))).bind fun t8 =>
 M.pure (.ret [t8])
noncomputable def zlH:Fn':=(T zc5).getD noF
theorem zyb:T zc5 = some zlH:=by kernel_rfl
theorem zyO (G:Sem') (t0:V):execK G zlH.rv zlH.body [] [] (params 0 [t0]) = zsJ G t0:=by kernel_rfl
def znA (G:Sem'):List V → M V
 | [t0]=>fin (zsJ G t0)
 | _=>M.fail
theorem zz4 {g:Sem'} (hg:Sims g (sem T)) (args:List V):Sim (znA g args) (sem T zc5 args):=by
 unfold znA
 split
 ·exact zad zyb (Nat.le_of_ble_eq_true (by kernel_rfl)) hg (zyO g _)
 ·exact zaa
def zsl (G:Sem') (t0 t1:V):M Res :=
 (mbox zd6 (V.agg [(V.int .i64 0),V.nils])).bind fun t4 =>
 (M.lift (Ax.iaddr none 1 t1 (V.int .i64 0))).bind fun t11 =>
 (mload none t11).bind fun t12 =>
 (M.lift (Ax.cint .i64 t12)).bind fun t13 =>
 (M.lift (Ax.build [(V.int .i64 0),V.nils] [(0,1,t13)])).bind fun t14 =>
 (mbox zd6 (V.agg [(V.int .i64 0),V.nils])).bind fun t7 =>
 (mstore 2 t7 t14).bind fun _ =>
 (M.lift (Ax.bin .eql t0 (V.int .i64 48862))).bind fun t16 =>
 M.join (M.ite t16
 ((M.lift (Ax.iaddr none 1 t1 (V.int .i64 0))).bind fun t18 =>
 (mload none t18).bind fun t19 =>
 (M.lift (Ax.bin .shr t19 (V.int .u64 4))).bind fun t20 =>
 (M.lift (Ax.cint .i64 t20)).bind fun t21 =>
 (M.lift (Ax.faddr 0 t7)).bind fun t22 =>
 (mstore 1 t22 t21).bind fun _ =>
 (M.lift (Ax.iaddr none 1 t1 (V.int .i64 0))).bind fun t24 =>
 (mload none t24).bind fun t25 =>
 (M.lift (Ax.bin .and t25 (V.int .u8 15))).bind fun t26 =>
 (M.lift (Ax.cint .i64 t26)).bind fun t27 =>
 (M.lift (Ax.bin .add t27 (V.int .i64 1))).bind fun t28 =>
 M.pure (.nrm [(V.int .i64 1),t28]))
 ((M.lift (vlen t1)).bind fun t30 =>
 (M.lift (Ax.bin .gtr t30 (V.int .i64 1))).bind fun t31 =>
 M.join (M.ite t31
 ((M.lift (Ax.iaddr none 1 t1 (V.int .i64 1))).bind fun t33 =>
 (mload none t33).bind fun t34 =>
 (M.lift (Ax.cint .i64 t34)).bind fun t35 =>
 M.pure (.nrm [t35]))
 (M.pure (.nrm [(V.int .i64 0)]))) fun L0 =>
 M.pure (.nrm [(V.int .i64 2),(L0.getD 0 .undef)]))) fun L1 =>
 (M.lift (Ax.faddr 0 t7)).bind fun t36 =>
 (mload none t36).bind fun t37 =>
 (M.lift (Ax.bin .eql t37 (V.int .i64 0))).bind fun t38 =>
 (guarded [(0,t38)] (some (0,false)) (M.pure t1)).bind fun t40 =>
 (guarded [(0,t38)] (some (0,false)) (M.lift (vlen t40))).bind fun t41 =>
 (guarded [(0,t38)] (some (0,false)) (M.pure (L1.getD 0 .undef))).bind fun t42 =>
 (guarded [(0,t38)] (some (0,false)) (M.pure (L1.getD 1 .undef))).bind fun t43 =>
 (guarded [(0,t38)] (some (0,false)) (M.lift (Ax.bin .add t42 t43))).bind fun t44 =>
 (guarded [(0,t38)] (some (0,false)) (M.lift (Ax.bin .lss t41 t44))).bind fun t45 =>
 (M.lift (Ax.pick t38 (V.bool true) t45)).bind fun t46 =>
 M.ite t46
 ((M.lift (Ax.build [(V.int .i64 0),V.nils] [])).bind fun t47 =>
 (mstore 2 t4 t47).bind fun _ =>
 (mload (some 2) t4).bind fun r0 =>
 M.pure (.ret [r0,(V.int .i64 0),(V.bool false)]))
 ((M.lift (Ax.bin .add (L1.getD 0 .undef) (L1.getD 1 .undef))).bind fun t52 =>
 (M.lift (zcx .sl 1 t1 (some (L1.getD 0 .undef)) (some t52) none)).bind fun t53 =>
 (G zaN [t53]).bind fun t54 =>
 (M.lift (Ax.faddr 1 t7)).bind fun t55 =>
 (mstore 1 t55 t54).bind fun _ =>
 (mload (some 2) t7).bind fun t56 =>
 (M.lift (Ax.bin .add (L1.getD 0 .undef) (L1.getD 1 .undef))).bind fun t59 =>
 (mstore 2 t4 t56).bind fun _ =>
 (mload (some 2) t4).bind fun r0 =>
 M.pure (.ret [r0,t59,(V.bool true)]))
noncomputable def zls:Fn':=(T zeW).getD noF
theorem zxX:T zeW = some zls:=by kernel_rfl
theorem zyA (G:Sem') (t0 t1:V):execK G zls.rv zls.body [] [] (params 0 [t0,t1]) = zsl G t0 t1:=by kernel_rfl
def znm (G:Sem'):List V → M V
 | [t0,t1]=>fin (zsl G t0 t1)
 | _=>M.fail
theorem zzQ {g:Sem'} (hg:Sims g (sem T)) (args:List V):Sim (znm g args) (sem T zeW args):=by
 unfold znm
 split
 ·exact zad zxX (Nat.le_of_ble_eq_true (by kernel_rfl)) hg (zyA g _ _)
 ·exact zaa
def zjZ (G:Sem') (t0 t1:V):M Res :=
 (M.lift (Ax.bin .lss t1 (V.int .u64 1))).bind fun t13 =>
 (guarded [(0,t13)] (some (0,false)) (M.pure t1)).bind fun t15 =>
 (guarded [(0,t13)] (some (0,false)) (M.lift (Ax.bin .gtr t15 (V.int .u64 4294967296)))).bind fun t16 =>
 (M.lift (Ax.pick t13 (V.bool true) t16)).bind fun t17 =>
 M.ite t17
 (M.pure (.ret [(V.int .u64 0),(V.int .i64 1)]))
 ((M.lift (Ax.nilck t0)).bind fun t19 =>
 (M.lift (Ax.faddr 1 t19)).bind fun t20 =>
 (mload none t20).bind fun t21 =>
 (G zf0 [t1]).bind fun t24 =>
 (M.lift (Ax.ext 0 t24)).bind fun t25 =>
 (M.lift (Ax.ext 1 t24)).bind fun t26 =>
 (M.lift (Ax.bin .sub t25 (V.int .i64 1))).bind fun t30 =>
 (G zbz [t0,t30]).bind fun t31 =>
 (M.lift (Ax.ext 0 t31)).bind fun t32 =>
 (M.lift (Ax.ext 1 t31)).bind fun t33 =>
 (M.lift (Ax.bin .neq t33 (V.int .i64 0))).bind fun t35 =>
 (guarded [(0,t35)] (some (0,false)) (M.pure t32)).bind fun t37 =>
 (guarded [(0,t35)] (some (0,false)) (M.pure t26)).bind fun t38 =>
 (guarded [(0,t35)] (some (0,false)) (M.lift (Ax.bin .lss t37 t38))).bind fun t39 =>
 (M.lift (Ax.pick t35 (V.bool true) t39)).bind fun t40 =>
 M.ite t40
 (M.pure (.ret [t32,t33]))
 ((G zbz [t0,(V.int .i64 1)]).bind fun t45 =>
 (M.lift (Ax.ext 0 t45)).bind fun t46 =>
 (M.lift (Ax.ext 1 t45)).bind fun t47 =>
 (M.lift (Ax.bin .neq t47 (V.int .i64 0))).bind fun t49 =>
 M.ite t49
 ((M.lift (Ax.nilck t0)).bind fun t52 =>
 (M.lift (Ax.faddr 1 t52)).bind fun t53 =>
 (mstore 1 t53 t21).bind fun _ =>
 M.pure (.ret [(V.int .u64 0),t47]))
 ((M.lift (Ax.bin .shl t32 (V.int .u64 1))).bind fun t56 =>
 (M.lift (Ax.bin .add t56 t46)).bind fun t58 =>
 (M.lift (Ax.bin .sub t58 t26)).bind fun t60 =>
 M.pure (.ret [t60,(V.int .i64 0)]))))
noncomputable def zfx:Fn':=(T zbY).getD noF
theorem zos:T zbY = some zfx:=by kernel_rfl
theorem zpq (G:Sem') (t0 t1:V):execK G zfx.rv zfx.body [] [] (params 0 [t0,t1]) = zjZ G t0 t1:=by kernel_rfl
def zgn (G:Sem'):List V → M V
 | [t0,t1]=>fin (zjZ G t0 t1)
 | _=>M.fail
theorem zp9 {g:Sem'} (hg:Sims g (sem T)) (args:List V):Sim (zgn g args) (sem T zbY args):=by
 unfold zgn
 split
 ·exact zad zos (Nat.le_of_ble_eq_true (by kernel_rfl)) hg (zpq g _ _)
 ·exact zaa
def zeS (G:Sem') (t0 t1:V):M Res :=
 (G za5 [t0,t1]).bind fun t7 =>
 (M.lift (Ax.bin .geq t7 (V.int .i64 0))).bind fun t8 =>
 M.pure (.ret [t8])
noncomputable def zcD:Fn':=(T zaT).getD noF
theorem ziY:T zaT = some zcD:=by kernel_rfl
theorem zi7 (G:Sem') (t0 t1:V):execK G zcD.rv zcD.body [] [] (params 0 [t0,t1]) = zeS G t0 t1:=by kernel_rfl
def zcT (G:Sem'):List V → M V
 | [t0,t1]=>fin (zeS G t0 t1)
 | _=>M.fail
theorem zjc {g:Sem'} (hg:Sims g (sem T)) (args:List V):Sim (zcT g args) (sem T zaT args):=by
 unfold zcT
 split
 ·exact zad ziY (Nat.le_of_ble_eq_true (by kernel_rfl)) hg (zi7 g _ _)
 ·exact zaa
def zmq (G:Sem') (t0 t1 t2:V):M Res :=
 (mload none t1).bind fun t6 =>
 (M.lift (Ax.bin .lss t0 t6)).bind fun t7 =>
 (guarded [(0,t7)] (some (0,false)) (M.pure t0)).bind fun t9 =>
 (guarded [(0,t7)] (some (0,false)) (mload none t2)).bind fun t10 =>
 (guarded [(0,t7)] (some (0,false)) (M.lift (Ax.bin .gtr t9 t10))).bind fun t11 =>
 (M.lift (Ax.pick t7 (V.bool true) t11)).bind fun t12 =>
 M.pure (.ret [t12])
noncomputable def zhz:Fn':=(T zcN).getD noF
theorem zr3:T zcN = some zhz:=by kernel_rfl
theorem zs4 (G:Sem') (t0 t1 t2:V):execK G zhz.rv zhz.body [] [] (params 0 [t0,t1,t2]) = zmq G t0 t1 t2:=by kernel_rfl
def ziS (G:Sem'):List V → M V
 | [t0,t1,t2]=>fin (zmq G t0 t1 t2)
 | _=>M.fail
theorem ztP {g:Sem'} (hg:Sims g (sem T)) (args:List V):Sim (ziS g args) (sem T zcN args):=by
 unfold ziS
 split
 ·exact zad zr3 (Nat.le_of_ble_eq_true (by kernel_rfl)) hg (zs4 g _ _ _)
 ·exact zaa
def zsG (G:Sem') (t0 t1:V):M Res :=
 (mbox zam t0).bind fun t2 =>
 (mbox zam t1).bind fun t3 =>
 M.blk 0 (
 (M.lift (Ax.faddr 0 t3)).bind fun t7 =>
 (mload none t7).bind fun t8 =>
 (M.lift (Ax.faddr 0 t2)).bind fun t9 =>
 (mload none t9).bind fun t10 =>
 (M.lift (Ax.bin .eql t8 t10)).bind fun t11 =>
 (guarded [(0,t11)] (some (0,true)) (M.lift (Ax.faddr 1 t3))).bind fun t13 =>
 (guarded [(0,t11)] (some (0,true)) (mload none t13)).bind fun t14 =>
 (guarded [(0,t11)] (some (0,true)) (M.lift (Ax.faddr 1 t2))).bind fun t15 =>
 (guarded [(0,t11)] (some (0,true)) (mload none t15)).bind fun t16 =>
 (guarded [(0,t11)] (some (0,true)) (M.lift (Ax.bin .eql t14 t16))).bind fun t17 =>
 (M.lift (Ax.pick t11 t17 (V.bool false))).bind fun t18 =>
 M.ite t18
 (M.pure (.ret [(V.int .i64 0),(V.bool true)]))
 ((M.lift (Ax.faddr 0 t3)).bind fun t20 =>
 (mload none t20).bind fun t21 =>
 (M.lift (Ax.faddr 0 t2)).bind fun t22 =>
 (mload none t22).bind fun t23 =>
 (M.lift (Ax.bin .eql t21 t23)).bind fun t24 =>
 (guarded [(0,t24)] (some (0,true)) (M.lift (Ax.faddr 1 t3))).bind fun t26 =>
 (guarded [(0,t24)] (some (0,true)) (mload none t26)).bind fun t27 =>
 (guarded [(0,t24)] (some (0,true)) (M.lift (Ax.faddr 1 t2))).bind fun t28 =>
 (guarded [(0,t24)] (some (0,true)) (mload none t28)).bind fun t29 =>
 (guarded [(0,t24)] (some (0,true)) (M.lift (Ax.bin .add t29 (V.int .i64 1)))).bind fun t30 =>
 (guarded [(0,t24)] (some (0,true)) (M.lift (Ax.bin .eql t27 t30))).bind fun t31 =>
 (M.lift (Ax.pick t24 t31 (V.bool false))).bind fun t32 =>
 M.ite t32
 (M.pure (.ret [(V.int .i64 1),(V.bool true)]))
 ((M.lift (Ax.faddr 0 t3)).bind fun t34 =>
 (mload none t34).bind fun t35 =>
 (M.lift (Ax.faddr 0 t2)).bind fun t36 =>
 (mload none t36).bind fun t37 =>
 (M.lift (Ax.bin .add t37 (V.int .i64 1))).bind fun t38 =>
 (M.lift (Ax.bin .eql t35 t38)).bind fun t39 =>
 (guarded [(0,t39)] (some (0,true)) (M.lift (Ax.faddr 1 t3))).bind fun t41 =>
 (guarded [(0,t39)] (some (0,true)) (mload none t41)).bind fun t42 =>
 (guarded [(0,t39)] (some (0,true)) (M.lift (Ax.bin .eql t42 (V.int .i64 0)))).bind fun t43 =>
 (M.lift (Ax.pick t39 t43 (V.bool false))).bind fun t44 =>
 M.ite t44
 (M.pure (.ret [(V.int .i64 2),(V.bool true)]))
 (M.pure (.nrm []))))) fun _ =>
 M.pure (.ret [(V.int .i64 0),(V.bool false)])
noncomputable def zlE:Fn':=(T ze2).getD noF
theorem zx8:T ze2 = some zlE:=by kernel_rfl
theorem zyL (G:Sem') (t0 t1:V):execK G zlE.rv zlE.body [] [] (params 0 [t0,t1]) = zsG G t0 t1:=by kernel_rfl
def znx (G:Sem'):List V → M V
 | [t0,t1]=>fin (zsG G t0 t1)
 | _=>M.fail
theorem zz1 {g:Sem'} (hg:Sims g (sem T)) (args:List V):Sim (znx g args) (sem T ze2 args):=by
 unfold znx
 split
 ·exact zad zx8 (Nat.le_of_ble_eq_true (by kernel_rfl)) hg (zyL g _ _)
 ·exact zaa
def zdj (G:Sem') (t7 t1 t0:V) (L:List V):M Res :=
 (M.lift (Ax.bin .lss (L.getD 0 .undef) t7)).bind fun t9 =>
 M.ite t9
 (M.blk 1 (
 (M.lift (Ax.iaddr none 5 t0 (L.getD 0 .undef))).bind fun t14 =>
 (mload (some 5) t14).bind fun t15 =>
 (callv G t1 [t15]).bind fun t16 =>
 M.ite t16
 (M.pure (.ret [(L.getD 0 .undef)]))
 (M.pure (.nrm []))) fun _ =>
 (M.lift (Ax.bin .add (L.getD 0 .undef) (V.int .i64 1))).bind fun t18 =>
 M.pure (.nrm [t18]))
 (M.pure (.ex 0 []))
def zbB (G:Sem') (t0 t1:V):M Res :=
 (M.lift (vlen t0)).bind fun t7 =>
 M.blk 0 (
 M.iter (zdj G t7 t1 t0) [(V.int .i64 0)]) fun _ =>
 M.pure (.ret [(V.int .i64 (-1))])
noncomputable def zaQ:Fn':=(T zah).getD noF
theorem zdk:T zah = some zaQ:=by kernel_rfl
theorem zdt (G:Sem') (t0 t1:V):execK G zaQ.rv zaQ.body [] [] (params 0 [t0,t1]) = zbB G t0 t1:=by kernel_rfl
def zaU (G:Sem'):List V → M V
 | [t0,t1]=>fin (zbB G t0 t1)
 | _=>M.fail
theorem zdv {g:Sem'} (hg:Sims g (sem T)) (args:List V):Sim (zaU g args) (sem T zah args):=by
 unfold zaU
 split
 ·exact zad zdk (Nat.le_of_ble_eq_true (by kernel_rfl)) hg (zdt g _ _)
 ·exact zaa
def zhT (G:Sem') (t0:V):M Res :=
 (M.lift (eqr .sl false t0 V.nils)).bind fun t4 =>
 M.ite t4
 (M.pure (.ret [V.nils]))
 ((mslit zgp 0 [(V.int .i64 0)] []).bind fun t5 =>
 (mappend zgp 1 8 t5 t0).bind fun t7 =>
 M.pure (.ret [t7]))
noncomputable def zez:Fn':=(T zaZ).getD noF
theorem zmA:T zaZ = some zez:=by kernel_rfl
theorem zne (G:Sem') (t0:V):execK G zez.rv zez.body [] [] (params 0 [t0]) = zhT G t0:=by kernel_rfl
def zfc (G:Sem'):List V → M V
 | [t0]=>fin (zhT G t0)
 | _=>M.fail
theorem zn7 {g:Sem'} (hg:Sims g (sem T)) (args:List V):Sim (zfc g args) (sem T zaZ args):=by
 unfold zfc
 split
 ·exact zad zmA (Nat.le_of_ble_eq_true (by kernel_rfl)) hg (zne g _)
 ·exact zaa
def zcW (G:Sem') (t0 t1:V):M Res :=
 (G zav [t0,t1]).bind fun t7 =>
 (M.lift (Ax.bin .geq t7 (V.int .i64 0))).bind fun t8 =>
 M.pure (.ret [t8])
noncomputable def zbD:Fn':=(T zax).getD noF
theorem zfI:T zax = some zbD:=by kernel_rfl
theorem zf2 (G:Sem') (t0 t1:V):execK G zbD.rv zbD.body [] [] (params 0 [t0,t1]) = zcW G t0 t1:=by kernel_rfl
def zbL (G:Sem'):List V → M V
 | [t0,t1]=>fin (zcW G t0 t1)
 | _=>M.fail
theorem zf8 {g:Sem'} (hg:Sims g (sem T)) (args:List V):Sim (zbL g args) (sem T zax args):=by
 unfold zbL
 split
 ·exact zad zfI (Nat.le_of_ble_eq_true (by kernel_rfl)) hg (zf2 g _ _)
 ·exact zaa
def zuW (G:Sem') (t0 t1:V):M Res :=
 (mbox zd6 t0).bind fun t2 =>
 (M.lift (Ax.faddr 6 t1)).bind fun t4 =>
 (mload none t4).bind fun t5 =>
 (mload (some 2) t2).bind fun t6 =>
 (G zeV [t5,t6]).bind fun t7 =>
 (M.lift (Ax.un .not t7)).bind fun t8 =>
 M.pure (.ret [t8])
noncomputable def zmW:Fn':=(T zfP).getD noF
theorem zzy:T zfP = some zmW:=by kernel_rfl
theorem zAy (G:Sem') (t0 t1:V):execK G zmW.rv zmW.body [] [] (params 0 [t0,t1]) = zuW G t0 t1:=by kernel_rfl
def zpC (G:Sem'):List V → M V
 | [t0,t1]=>fin (zuW G t0 t1)
 | _=>M.fail
theorem zBx {g:Sem'} (hg:Sims g (sem T)) (args:List V):Sim (zpC g args) (sem T zfP args):=by
 unfold zpC
 split
 ·exact zad zzy (Nat.le_of_ble_eq_true (by kernel_rfl)) hg (zAy g _ _)
 ·exact zaa
def zsk (G:Sem') (t0 t1:V):M Res :=
 (mbox zd6 t1).bind fun t3 =>
 (M.lift (Ax.bin .eql t0 (V.int .i64 48862))).bind fun t6 =>
 M.ite t6
 ((M.lift (Ax.faddr 0 t3)).bind fun t7 =>
 (mload none t7).bind fun t8 =>
 (M.lift (Ax.bin .geq t8 (V.int .i64 1))).bind fun t9 =>
 (guarded [(0,t9)] (some (0,true)) (M.lift (Ax.faddr 0 t3))).bind fun t11 =>
 (guarded [(0,t9)] (some (0,true)) (mload none t11)).bind fun t12 =>
 (guarded [(0,t9)] (some (0,true)) (M.lift (Ax.bin .leq t12 (V.int .i64 14)))).bind fun t13 =>
 (M.lift (Ax.pick t9 t13 (V.bool false))).bind fun t14 =>
 (guarded [(0,t14)] (some (0,true)) (M.lift (Ax.faddr 1 t3))).bind fun t16 =>
 (guarded [(0,t14)] (some (0,true)) (mload none t16)).bind fun t17 =>
 (guarded [(0,t14)] (some (0,true)) (M.lift (vlen t17))).bind fun t18 =>
 (guarded [(0,t14)] (some (0,true)) (M.lift (Ax.bin .geq t18 (V.int .i64 1)))).bind fun t19 =>
 (M.lift (Ax.pick t14 t19 (V.bool false))).bind fun t20 =>
 (guarded [(0,t20)] (some (0,true)) (M.lift (Ax.faddr 1 t3))).bind fun t22 =>
 (guarded [(0,t20)] (some (0,true)) (mload none t22)).bind fun t23 =>
 (guarded [(0,t20)] (some (0,true)) (M.lift (vlen t23))).bind fun t24 =>
 (guarded [(0,t20)] (some (0,true)) (M.lift (Ax.bin .leq t24 (V.int .i64 16)))).bind fun t25 =>
 (M.lift (Ax.pick t20 t25 (V.bool false))).bind fun t26 =>
 M.pure (.ret [t26]))
 ((M.lift (Ax.faddr 0 t3)).bind fun t27 =>
 (mload none t27).bind fun t28 =>
 (M.lift (Ax.bin .geq t28 (V.int .i64 1))).bind fun t29 =>
 (guarded [(0,t29)] (some (0,true)) (M.lift (Ax.faddr 0 t3))).bind fun t31 =>
 (guarded [(0,t29)] (some (0,true)) (mload none t31)).bind fun t32 =>
 (guarded [(0,t29)] (some (0,true)) (M.lift (Ax.bin .leq t32 (V.int .i64 255)))).bind fun t33 =>
 (M.lift (Ax.pick t29 t33 (V.bool false))).bind fun t34 =>
 (guarded [(0,t34)] (some (0,true)) (M.lift (Ax.faddr 1 t3))).bind fun t36 =>
 (guarded [(0,t34)] (some (0,true)) (mload none t36)).bind fun t37 =>
 (guarded [(0,t34)] (some (0,true)) (M.lift (vlen t37))).bind fun t38 =>
 (guarded [(0,t34)] (some (0,true)) (M.lift (Ax.bin .leq t38 (V.int .i64 255)))).bind fun t39 =>
 (M.lift (Ax.pick t34 t39 (V.bool false))).bind fun t40 =>
 M.pure (.ret [t40]))
noncomputable def zlr:Fn':=(T zeV).getD noF
theorem zxW:T zeV = some zlr:=by kernel_rfl
theorem zyz (G:Sem') (t0 t1:V):execK G zlr.rv zlr.body [] [] (params 0 [t0,t1]) = zsk G t0 t1:=by kernel_rfl
def znl (G:Sem'):List V → M V
 | [t0,t1]=>fin (zsk G t0 t1)
 | _=>M.fail
theorem zzP {g:Sem'} (hg:Sims g (sem T)) (args:List V):Sim (znl g args) (sem T zeV args):=by
 unfold znl
 split
 ·exact zad zxW (Nat.le_of_ble_eq_true (by kernel_rfl)) hg (zyz g _ _)
 ·exact zaa
def zn2 (G:Sem') (t0 t1:V):M Res :=
 (mbox zdO t0).bind fun t2 =>
 (M.lift (Ax.faddr 0 t2)).bind fun t5 =>
 (mload none t5).bind fun t6 =>
 (guarded [(0,t6)] (some (0,true)) (M.lift (Ax.faddr 1 t2))).bind fun t8 =>
 (guarded [(0,t6)] (some (0,true)) (mload none t8)).bind fun t9 =>
 (guarded [(0,t6)] (some (0,true)) (M.pure t1)).bind fun t10 =>
 (guarded [(0,t6)] (some (0,true)) (M.lift (Ax.bin .eql t9 t10))).bind fun t11 =>
 (M.lift (Ax.pick t6 t11 (V.bool false))).bind fun t12 =>
 M.pure (.ret [t12])
noncomputable def zio:Fn':=(T zbX).getD noF
theorem ztw:T zbX = some zio:=by kernel_rfl
theorem zuq (G:Sem') (t0 t1:V):execK G zio.rv zio.body [] [] (params 0 [t0,t1]) = zn2 G t0 t1:=by kernel_rfl
def zjQ (G:Sem'):List V → M V
 | [t0,t1]=>fin (zn2 G t0 t1)
 | _=>M.fail
theorem zvM {g:Sem'} (hg:Sims g (sem T)) (args:List V):Sim (zjQ g args) (sem T zbX args):=by
 unfold zjQ
 split
 ·exact zad ztw (Nat.le_of_ble_eq_true (by kernel_rfl)) hg (zuq g _ _)
 ·exact zaa
def zuL (G:Sem') (t0 t1:V):M Res :=
 (M.lift (Ax.bin .leq t1 t0)).bind fun t7 =>
 M.ite t7
 (M.pure (.ret [(V.int .u32 1)]))
 ((M.lift (Ax.cint .u64 t1)).bind fun t9 =>
 (M.lift (Ax.cint .u64 t0)).bind fun t11 =>
 (M.lift (Ax.bin .sub t9 t11)).bind fun t12 =>
 (M.lift (Ax.minmax false t12 [(V.int .u64 100000)])).bind fun t13 =>
 (M.lift (Ax.cint .u32 t13)).bind fun t14 =>
 M.pure (.ret [t14]))
noncomputable def zmL:Fn':=(T zfK).getD noF
theorem zzn:T zfK = some zmL:=by kernel_rfl
theorem zAn (G:Sem') (t0 t1:V):execK G zmL.rv zmL.body [] [] (params 0 [t0,t1]) = zuL G t0 t1:=by kernel_rfl
def zpr (G:Sem'):List V → M V
 | [t0,t1]=>fin (zuL G t0 t1)
 | _=>M.fail
theorem zBm {g:Sem'} (hg:Sims g (sem T)) (args:List V):Sim (zpr g args) (sem T zfK args):=by
 unfold zpr
 split
 ·exact zad zzn (Nat.le_of_ble_eq_true (by kernel_rfl)) hg (zAn g _ _)
 ·exact zaa
def zt3 (G:Sem') (t24 t23 t1:V) (L:List V):M Res :=
 (M.lift (Ax.bin .lss (L.getD 3 .undef) t24)).bind fun t26 =>
 M.ite t26
 (M.blk 1 (
 (M.lift (Ax.iaddr none 5 t23 (L.getD 3 .undef))).bind fun t27 =>
 (mload (some 5) t27).bind fun t28 =>
 (mbox zam (V.agg [(V.int .i64 0),(V.int .i64 0),V.nils,V.nils,V.nils])).bind fun t8 =>
 (mstore 5 t8 t28).bind fun _ =>
 (M.lift (Ax.faddr 2 t8)).bind fun t29 =>
 (mload none t29).bind fun t30 =>
 (M.lift (Ax.iaddr none 1 t30 t1)).bind fun t32 =>
 (mload none t32).bind fun t33 =>
 (M.lift (Ax.bin .neq t33 (V.int .i64 0))).bind fun t34 =>
 M.join (M.ite t34
 ((M.lift (Ax.faddr 0 t8)).bind fun t36 =>
 (mload none t36).bind fun t37 =>
 (M.lift (Ax.minmax true (L.getD 0 .undef) [t37])).bind fun t38 =>
 (M.lift (Ax.faddr 1 t8)).bind fun t40 =>
 (mload none t40).bind fun t41 =>
 (M.lift (Ax.minmax true (L.getD 1 .undef) [t41])).bind fun t42 =>
 M.pure (.nrm [t38,t42,(V.bool true)]))
 (M.pure (.nrm [(L.getD 0 .undef),(L.getD 1 .undef),(L.getD 2 .undef)]))) fun L0 =>
 M.pure (.nrm [(L0.getD 0 .undef),(L0.getD 1 .undef),(L0.getD 2 .undef)])) fun L1 =>
 (M.lift (Ax.bin .add (L.getD 3 .undef) (V.int .i64 1))).bind fun t43 =>
 M.pure (.nrm [(L1.getD 0 .undef),(L1.getD 1 .undef),(L1.getD 2 .undef),t43]))
 (M.pure (.ex 0 [(L.getD 0 .undef),(L.getD 1 .undef),(L.getD 2 .undef)]))
def zph (G:Sem') (t0 t1:V):M Res :=
 (mbox zag t0).bind fun t2 =>
 (mload (some 6) t2).bind fun t9 =>
 (G zcB [t9]).bind fun t10 =>
 (M.lift (Ax.un .not t10)).bind fun t11 =>
 (guarded [(0,t11)] (some (0,false)) (M.pure t1)).bind fun t13 =>
 (guarded [(0,t11)] (some (0,false)) (M.lift (Ax.bin .lss t13 (V.int .i64 0)))).bind fun t14 =>
 (M.lift (Ax.pick t11 (V.bool true) t14)).bind fun t15 =>
 (guarded [(0,t15)] (some (0,false)) (M.pure t1)).bind fun t17 =>
 (guarded [(0,t15)] (some (0,false)) (M.lift (Ax.faddr 1 t2))).bind fun t18 =>
 (guarded [(0,t15)] (some (0,false)) (mload none t18)).bind fun t19 =>
 (guarded [(0,t15)] (some (0,false)) (M.lift (Ax.bin .geq t17 t19))).bind fun t20 =>
 (M.lift (Ax.pick t15 (V.bool true) t20)).bind fun t21 =>
 M.ite t21
 (M.pure (.ret [(V.int .i64 0),(V.int .i64 0),(V.bool false)]))
 ((M.lift (Ax.faddr 2 t2)).bind fun t22 =>
 (mload none t22).bind fun t23 =>
 (M.lift (vlen t23)).bind fun t24 =>
 M.blk 0 (
 M.iter (zt3 G t24 t23 t1) [(V.int .i64 0),(V.int .i64 0),(V.bool false),(V.int .i64 0)]) fun L2 =>
 M.pure (.ret [(L2.getD 0 .undef),(L2.getD 1 .undef),(L2.getD 2 .undef)]))
noncomputable def zjq:Fn':=(T zdM).getD noF
theorem zvp:T zdM = some zjq:=by kernel_rfl
theorem zv4 (G:Sem') (t0 t1:V):execK G zjq.rv zjq.body [] [] (params 0 [t0,t1]) = zph G t0 t1:=by kernel_rfl
def zkT (G:Sem'):List V → M V
 | [t0,t1]=>fin (zph G t0 t1)
 | _=>M.fail
theorem zwD {g:Sem'} (hg:Sims g (sem T)) (args:List V):Sim (zkT g args) (sem T zdM args):=by
 unfold zkT
 split
 ·exact zad zvp (Nat.le_of_ble_eq_true (by kernel_rfl)) hg (zv4 g _ _)
 ·exact zaa
def zfj (G:Sem') (t0:V):M Res :=
 (M.lift (eqr .sl false t0 V.nils)).bind fun t4 =>
 M.ite t4
 (M.pure (.ret [V.nils]))
 ((mslit zfn 0 [(V.int .u32 0)] []).bind fun t5 =>
 (mappend zfn 1 4 t5 t0).bind fun t7 =>
 M.pure (.ret [t7]))
noncomputable def zcP:Fn':=(T zaW).getD noF
theorem zi9:T zaW = some zcP:=by kernel_rfl
theorem zjt (G:Sem') (t0:V):execK G zcP.rv zcP.body [] [] (params 0 [t0]) = zfj G t0:=by kernel_rfl
def zc1 (G:Sem'):List V → M V
 | [t0]=>fin (zfj G t0)
 | _=>M.fail
theorem zj2 {g:Sem'} (hg:Sims g (sem T)) (args:List V):Sim (zc1 g args) (sem T zaW args):=by
 unfold zc1
 split
 ·exact zad zi9 (Nat.le_of_ble_eq_true (by kernel_rfl)) hg (zjt g _)
 ·exact zaa
def zeu (G:Sem') (t0:V):M Res :=
 (M.lift (eqr .sl false t0 V.nils)).bind fun t4 =>
 M.ite t4
 (M.pure (.ret [V.nils]))
 ((mslit zd6 0 [(V.int .i64 0),V.nils] []).bind fun t5 =>
 (mappend zd6 2 32 t5 t0).bind fun t7 =>
 M.pure (.ret [t7]))
noncomputable def zco:Fn':=(T zaP).getD noF
theorem zh0:T zaP = some zco:=by kernel_rfl
theorem ziA (G:Sem') (t0:V):execK G zco.rv zco.body [] [] (params 0 [t0]) = zeu G t0:=by kernel_rfl
def zcG (G:Sem'):List V → M V
 | [t0]=>fin (zeu G t0)
 | _=>M.fail
theorem zi0 {g:Sem'} (hg:Sims g (sem T)) (args:List V):Sim (zcG g args) (sem T zaP args):=by
 unfold zcG
 split
 ·exact zad zh0 (Nat.le_of_ble_eq_true (by kernel_rfl)) hg (ziA g _)
 ·exact zaa
def zeQ (G:Sem') (t7 t1 t0:V) (L:List V):M Res :=
 (M.lift (Ax.bin .lss (L.getD 0 .undef) t7)).bind fun t9 =>
 M.ite t9
 (M.blk 1 (
 (M.lift (Ax.iaddr none 2 t0 (L.getD 0 .undef))).bind fun t14 =>
 (mload (some 2) t14).bind fun t15 =>
 (callv G t1 [t15]).bind fun t16 =>
 M.ite t16
 (M.pure (.ret [(L.getD 0 .undef)]))
 (M.pure (.nrm []))) fun _ =>
 (M.lift (Ax.bin .add (L.getD 0 .undef) (V.int .i64 1))).bind fun t18 =>
 M.pure (.nrm [t18]))
 (M.pure (.ex 0 []))
def zcz (G:Sem') (t0 t1:V):M Res :=
 (M.lift (vlen t0)).bind fun t7 =>
 M.blk 0 (
 M.iter (zeQ G t7 t1 t0) [(V.int .i64 0)]) fun _ =>
 M.pure (.ret [(V.int .i64 (-1))])
noncomputable def zbm:Fn':=(T zat).getD noF
theorem ze5:T zat = some zbm:=by kernel_rfl
theorem zfa (G:Sem') (t0 t1:V):execK G zbm.rv zbm.body [] [] (params 0 [t0,t1]) = zcz G t0 t1:=by kernel_rfl
def zbt (G:Sem'):List V → M V
 | [t0,t1]=>fin (zcz G t0 t1)
 | _=>M.fail
theorem zfm {g:Sem'} (hg:Sims g (sem T)) (args:List V):Sim (zbt g args) (sem T zat args):=by
 unfold zbt
 split
 ·exact zad ze5 (Nat.le_of_ble_eq_true (by kernel_rfl)) hg (zfa g _ _)
 ·exact zaa
def znH (G:Sem') (t0 t1:V):M Res :=
 (mbox zj0 t0).bind fun t2 =>
 (M.lift (Ax.faddr 0 t2)).bind fun t4 =>
 (mload none t4).bind fun t5 =>
 (mload none t1).bind fun t6 =>
 (M.lift (Ax.bin .eql t5 t6)).bind fun t7 =>
 M.pure (.ret [t7])
noncomputable def zh3:Fn':=(T zc6).getD noF
theorem ztb:T zc6 = some zh3:=by kernel_rfl
theorem zt5 (G:Sem') (t0 t1:V):execK G zh3.rv zh3.body [] [] (params 0 [t0,t1]) = znH G t0 t1:=by kernel_rfl
def zjv (G:Sem'):List V → M V
 | [t0,t1]=>fin (znH G t0 t1)
 | _=>M.fail
theorem zvr {g:Sem'} (hg:Sims g (sem T)) (args:List V):Sim (zjv g args) (sem T zc6 args):=by
 unfold zjv
 split
 ·exact zad ztb (Nat.le_of_ble_eq_true (by kernel_rfl)) hg (zt5 g _ _)
 ·exact zaa
def zep (G:Sem') (t7 t1 t0:V) (L:List V):M Res :=
 (M.lift (Ax.bin .lss (L.getD 0 .undef) t7)).bind fun t9 =>
 M.ite t9
 (M.blk 1 (
 (M.lift (Ax.iaddr none 16 t0 (L.getD 0 .undef))).bind fun t14 =>
 (mload (some 16) t14).bind fun t15 =>
 (callv G t1 [t15]).bind fun t16 =>
 M.ite t16
 (M.pure (.ret [(L.getD 0 .undef)]))
 (M.pure (.nrm []))) fun _ =>
 (M.lift (Ax.bin .add (L.getD 0 .undef) (V.int .i64 1))).bind fun t18 =>
 M.pure (.nrm [t18]))
 (M.pure (.ex 0 []))
def zcj (G:Sem') (t0 t1:V):M Res :=
 (M.lift (vlen t0)).bind fun t7 =>
 M.blk 0 (
 M.iter (zep G t7 t1 t0) [(V.int .i64 0)]) fun _ =>
 M.pure (.ret [(V.int .i64 (-1))])
noncomputable def zbd:Fn':=(T zan).getD noF
theorem zew:T zan = some zbd:=by kernel_rfl
theorem zeJ (G:Sem') (t0 t1:V):execK G zbd.rv zbd.body [] [] (params 0 [t0,t1]) = zcj G t0 t1:=by kernel_rfl
def zbh (G:Sem'):List V → M V
 | [t0,t1]=>fin (zcj G t0 t1)
 | _=>M.fail
theorem zeN {g:Sem'} (hg:Sims g (sem T)) (args:List V):Sim (zbh g args) (sem T zan args):=by
 unfold zbh
 split
 ·exact zad zew (Nat.le_of_ble_eq_true (by kernel_rfl)) hg (zeJ g _ _)
 ·exact zaa
def zuX (G:Sem') (t0 t1:V):M Res :=
 (mbox zaF t0).bind fun t2 =>
 (mbox zaF t1).bind fun t3 =>
 (M.lift (Ax.faddr 1 t2)).bind fun t5 =>
 (mload none t5).bind fun t6 =>
 (M.lift (Ax.faddr 1 t3)).bind fun t7 =>
 (mload none t7).bind fun t8 =>
 (M.lift (Ax.bin .eql t6 t8)).bind fun t9 =>
 (guarded [(0,t9)] (some (0,true)) (M.lift (Ax.faddr 2 t2))).bind fun t11 =>
 (guarded [(0,t9)] (some (0,true)) (mload none t11)).bind fun t12 =>
 (guarded [(0,t9)] (some (0,true)) (M.lift (Ax.faddr 2 t3))).bind fun t13 =>
 (guarded [(0,t9)] (some (0,true)) (mload none t13)).bind fun t14 =>
 (guarded [(0,t9)] (some (0,true)) (M.lift (Ax.bin .eql t12 t14))).bind fun t15 =>
 (M.lift (Ax.pick t9 t15 (V.bool false))).bind fun t16 =>
 (guarded [(0,t16)] (some (0,true)) (M.lift (Ax.faddr 3 t2))).bind fun t18 =>
 (guarded [(0,t16)] (some (0,true)) (mload none t18)).bind fun t19 =>
 (guarded [(0,t16)] (some (0,true)) (M.lift (Ax.faddr 3 t3))).bind fun t20 =>
 (guarded [(0,t16)] (some (0,true)) (mload none t20)).bind fun t21 =>
 (guarded [(0,t16)] (some (0,true)) (M.lift (Ax.bin .eql t19 t21))).bind fun t22 =>
 (M.lift (Ax.pick t16 t22 (V.bool false))).bind fun t23 =>
 (guarded [(0,t23)] (some (0,true)) (M.lift (Ax.faddr 4 t2))).bind fun t25 =>
 (guarded [(0,t23)] (some (0,true)) (mload none t25)).bind fun t26 =>
 (guarded [(0,t23)] (some (0,true)) (M.lift (Ax.faddr 4 t3))).bind fun t27 =>
 (guarded [(0,t23)] (some (0,true)) (mload none t27)).bind fun t28 =>
 (guarded [(0,t23)] (some (0,true)) (M.lift (Ax.bin .eql t26 t28))).bind fun t29 =>
 (M.lift (Ax.pick t23 t29 (V.bool false))).bind fun t30 =>
 (guarded [(0,t30)] (some (0,true)) (M.lift (Ax.faddr 5 t2))).bind fun t32 =>
 (guarded [(0,t30)] (some (0,true)) (mload none t32)).bind fun t33 =>
 (guarded [(0,t30)] (some (0,true)) (M.lift (Ax.faddr 5 t3))).bind fun t34 =>
 (guarded [(0,t30)] (some (0,true)) (mload none t34)).bind fun t35 =>
 (guarded [(0,t30)] (some (0,true)) (M.lift (Ax.bin .eql t33 t35))).bind fun t36 =>
 (M.lift (Ax.pick t30 t36 (V.bool false))).bind fun t37 =>
 (guarded [(0,t37)] (some (0,true)) (M.lift (Ax.faddr 6 t2))).bind fun t39 =>
 (guarded [(0,t37)] (some (0,true)) (mload none t39)).bind fun t40 =>
 (guarded [(0,t37)] (some (0,true)) (M.lift (Ax.faddr 6 t3))).bind fun t41 =>
 (guarded [(0,t37)] (some (0,true)) (mload none t41)).bind fun t42 =>
 (guarded [(0,t37)] (some (0,true)) (M.lift (Ax.bin .eql t40 t42))).bind fun t43 =>
 (M.lift (Ax.pick t37 t43 (V.bool false))).bind fun t44 =>
 (guarded [(0,t44)] (some (0,true)) (M.lift (Ax.faddr 10 t2))).bind fun t46 =>
 (guarded [(0,t44)] (some (0,true)) (mload none t46)).bind fun t47 =>
 (guarded [(0,t44)] (some (0,true)) (M.lift (Ax.faddr 10 t3))).bind fun t48 =>
 (guarded [(0,t44)] (some (0,true)) (mload none t48)).bind fun t49 =>
 (guarded [(0,t44)] (some (0,true)) (M.lift (Ax.bin .eql t47 t49))).bind fun t50 =>
 (M.lift (Ax.pick t44 t50 (V.bool false))).bind fun t51 =>
 (guarded [(0,t51)] (some (0,true)) (M.lift (Ax.faddr 11 t2))).bind fun t53 =>
 (guarded [(0,t51)] (some (0,true)) (mload none t53)).bind fun t54 =>
 (guarded [(0,t51)] (some (0,true)) (M.lift (Ax.faddr 11 t3))).bind fun t55 =>
 (guarded [(0,t51)] (some (0,true)) (mload none t55)).bind fun t56 =>
 (guarded [(0,t51)] (some (0,true)) (M.lift (Ax.bin .eql t54 t56))).bind fun t57 =>
 (M.lift (Ax.pick t51 t57 (V.bool false))).bind fun t58 =>
 (guarded [(0,t58)] (some (0,true)) (M.lift (Ax.faddr 13 t2))).bind fun t60 =>
 (guarded [(0,t58)] (some (0,true)) (mload none t60)).bind fun t61 =>
 (guarded [(0,t58)] (some (0,true)) (M.lift (Ax.faddr 13 t3))).bind fun t62 =>
 (guarded [(0,t58)] (some (0,true)) (mload none t62)).bind fun t63 =>
 (guarded [(0,t58)] (some (0,true)) (M.lift (Ax.bin .eql t61 t63))).bind fun t64 =>
 (M.lift (Ax.pick t58 t64 (V.bool false))).bind fun t65 =>
 (guarded [(0,t65)] (some (0,true)) (M.lift (Ax.faddr 14 t2))).bind fun t67 =>
 (guarded [(0,t65)] (some (0,true)) (mload none t67)).bind fun t68 =>
 (guarded [(0,t65)] (some (0,true)) (M.lift (Ax.faddr 14 t3))).bind fun t69 =>
 (guarded [(0,t65)] (some (0,true)) (mload none t69)).bind fun t70 =>
 (guarded [(0,t65)] (some (0,true)) (M.lift (Ax.bin .eql t68 t70))).bind fun t71 =>
 (M.lift (Ax.pick t65 t71 (V.bool false))).bind fun t72 =>
 (guarded [(0,t72)] (some (0,true)) (M.lift (Ax.faddr 7 t2))).bind fun t74 =>
 (guarded [(0,t72)] (some (0,true)) (mload none t74)).bind fun t75 =>
 (guarded [(0,t72)] (some (0,true)) (M.lift (vlen t75))).bind fun t76 =>
 (guarded [(0,t72)] (some (0,true)) (M.lift (Ax.faddr 7 t3))).bind fun t77 =>
 (guarded [(0,t72)] (some (0,true)) (mload none t77)).bind fun t78 =>
 (guarded [(0,t72)] (some (0,true)) (M.lift (vlen t78))).bind fun t79 =>
 (guarded [(0,t72)] (some (0,true)) (M.lift (Ax.bin .eql t76 t79))).bind fun t80 =>
 (M.lift (Ax.pick t72 t80 (V.bool false))).bind fun t81 =>
 (guarded [(0,t81)] (some (0,true)) (M.lift (Ax.faddr 8 t2))).bind fun t83 =>
 (guarded [(0,t81)] (some (0,true)) (mload none t83)).bind fun t84 =>
 (guarded [(0,t81)] (some (0,true)) (M.lift (vlen t84))).bind fun t85 =>
 (guarded [(0,t81)] (some (0,true)) (M.lift (Ax.faddr 8 t3))).bind fun t86 =>
 (guarded [(0,t81)] (some (0,true)) (mload none t86)).bind fun t87 =>
 (guarded [(0,t81)] (some (0,true)) (M.lift (vlen t87))).bind fun t88 =>
 (guarded [(0,t81)] (some (0,true)) (M.lift (Ax.bin .eql t85 t88))).bind fun t89 =>
 (M.lift (Ax.pick t81 t89 (V.bool false))).bind fun t90 =>
 (guarded [(0,t90)] (some (0,true)) (M.lift (Ax.faddr 9 t2))).bind fun t92 =>
 (guarded [(0,t90)] (some (0,true)) (mload none t92)).bind fun t93 =>
 (guarded [(0,t90)] (some (0,true)) (M.lift (vlen t93))).bind fun t94 =>
 (guarded [(0,t90)] (some (0,true)) (M.lift (Ax.faddr 9 t3))).bind fun t95 =>
 (guarded [(0,t90)] (some (0,true)) (mload none t95)).bind fun t96 =>
 (guarded [(0,t90)] (some (0,true)) (M.lift (vlen t96))).bind fun t97 =>
 (guarded [(0,t90)] (some (0,true)) (M.lift (Ax.bin .eql t94 t97))).bind fun t98 =>
 (M.lift (Ax.pick t90 t98 (V.bool false))).bind fun t99 =>
 (guarded [(0,t99)] (some (0,true)) (M.lift (Ax.faddr 12 t2))).bind fun t101 =>
 (guarded [(0,t99)] (some (0,true)) (mload none t101)).bind fun t102 =>
 (guarded [(0,t99)] (some (0,true)) (M.lift (vlen t102))).bind fun t103 =>
 (guarded [(0,t99)] (some (0,true)) (M.lift (Ax.faddr 12 t3))).bind fun t104 =>
 (guarded [(0,t99)] (some (0,true)) (mload none t104)).bind fun t105 =>
 (guarded [(0,t99)] (some (0,true)) (M.lift (vlen t105))).bind fun t106 =>
 (guarded [(0,t99)] (some (0,true)) (M.lift (Ax.bin .eql t103 t106))).bind fun t107 =>
 (M.lift (Ax.pick t99 t107 (V.bool false))).bind fun t108 =>
 (guarded [(0,t108)] (some (0,true)) (M.lift (Ax.faddr 15 t2))).bind fun t110 =>
 (guarded [(0,t108)] (some (0,true)) (mload none t110)).bind fun t111 =>
 (guarded [(0,t108)] (some (0,true)) (M.lift (vlen t111))).bind fun t112 =>
 (guarded [(0,t108)] (some (0,true)) (M.lift (Ax.faddr 15 t3))).bind fun t113 =>
 (guarded [(0,t108)] (some (0,true)) (mload none t113)).bind fun t114 =>
 (guarded [(0,t108)] (some (0,true)) (M.lift (vlen t114))).bind fun t115 =>
 (guarded [(0,t108)] (some (0,true)) (M.lift (Ax.bin .eql t112 t115))).bind fun t116 =>
 (M.lift (Ax.pick t108 t116 (V.bool false))).bind fun t117 =>
 M.pure (.ret [t117])
noncomputable def zmX:Fn':=(T zfQ).getD noF
theorem zzz:T zfQ = some zmX:=by kernel_rfl
theorem zAz (G:Sem') (t0 t1:V):execK G zmX.rv zmX.body [] [] (params 0 [t0,t1]) = zuX G t0 t1:=by kernel_rfl
def zpD (G:Sem'):List V → M V
 | [t0,t1]=>fin (zuX G t0 t1)
 | _=>M.fail
theorem zBy {g:Sem'} (hg:Sims g (sem T)) (args:List V):Sim (zpD g args) (sem T zfQ args):=by
 unfold zpD
 split
 ·exact zad zzz (Nat.le_of_ble_eq_true (by kernel_rfl)) hg (zAz g _ _)
 ·exact zaa
def zw2 (G:Sem') (t0:V):M Res :=
 (mbox zaF t0).bind fun t1 =>
 (mbox zaF (V.agg [(V.int .i64 0),(V.int .u32 0),(V.int .u32 0),(V.int .u64 0),(V.int .u32 0),(V.int .u32 0),(V.int .u32 0),V.nils,V.nils,V.nils,(V.int .i64 0),(V.int .u32 0),V.nils,(V.int .i64 0),(V.int .i64 0),V.nils])).bind fun t2 =>
 (M.lift (Ax.faddr 0 t1)).bind fun t4 =>
 (mload none t4).bind fun t5 =>
 (M.lift (Ax.faddr 1 t1)).bind fun t6 =>
 (mload none t6).bind fun t7 =>
 (M.lift (Ax.build [(V.int .i64 0),(V.int .u32 0),(V.int .u32 0),(V.int .u64 0),(V.int .u32 0),(V.int .u32 0),(V.int .u32 0),V.nils,V.nils,V.nils,(V.int .i64 0),(V.int .u32 0),V.nils,(V.int .i64 0),(V.int .i64 0),V.nils] [(0,1,t5),(1,1,t7)])).bind fun t8 =>
 (mbox zaF (V.agg [(V.int .i64 0),(V.int .u32 0),(V.int .u32 0),(V.int .u64 0),(V.int .u32 0),(V.int .u32 0),(V.int .u32 0),V.nils,V.nils,V.nils,(V.int .i64 0),(V.int .u32 0),V.nils,(V.int .i64 0),(V.int .i64 0),V.nils])).bind fun t3 =>
 (mstore 16 t3 t8).bind fun _ =>
 (M.lift (Ax.faddr 0 t1)).bind fun t9 =>
 (mload none t9).bind fun t10 =>
 M.blk 0 (
 (M.lift (Ax.bin .eql t10 (V.int .i64 1))).bind fun t22 =>
 M.join (M.ite t22
 ((M.lift (Ax.faddr 3 t1)).bind fun t23 =>
 (mload none t23).bind fun t24 =>
 (M.lift (Ax.faddr 4 t1)).bind fun t25 =>
 (mload none t25).bind fun t26 =>
 (M.lift (Ax.faddr 5 t1)).bind fun t27 =>
 (mload none t27).bind fun t28 =>
 (M.lift (Ax.faddr 6 t1)).bind fun t29 =>
 (mload none t29).bind fun t30 =>
 (M.lift (Ax.faddr 7 t1)).bind fun t31 =>
 (mload none t31).bind fun t32 =>
 (M.lift (Ax.faddr 3 t3)).bind fun t33 =>
 M.getH.bind fun h0 =>
 (mstore 1 t33 t24).bind fun _ =>
 M.getH.bind fun h0' =>
 (M.unch t31 h0 h0').bind fun _ =>
 (M.unch t29 h0 h0').bind fun _ =>
 (M.unch t27 h0 h0').bind fun _ =>
 (M.unch t25 h0 h0').bind fun _ =>
 (M.lift (Ax.faddr 4 t3)).bind fun t34 =>
 M.getH.bind fun h1 =>
 (mstore 1 t34 t26).bind fun _ =>
 M.getH.bind fun h1' =>
 (M.unch t31 h1 h1').bind fun _ =>
 (M.unch t29 h1 h1').bind fun _ =>
 (M.unch t27 h1 h1').bind fun _ =>
 (M.lift (Ax.faddr 5 t3)).bind fun t35 =>
 M.getH.bind fun h2 =>
 (mstore 1 t35 t28).bind fun _ =>
 M.getH.bind fun h2' =>
 (M.unch t31 h2 h2').bind fun _ =>
 (M.unch t29 h2 h2').bind fun _ =>
 (M.lift (Ax.faddr 6 t3)).bind fun t36 =>
 M.getH.bind fun h3 =>
 (mstore 1 t36 t30).bind fun _ =>
 M.getH.bind fun h3' =>
 (M.unch t31 h3 h3').bind fun _ =>
 (M.lift (Ax.faddr 7 t3)).bind fun t37 =>
 (mstore 1 t37 t32).bind fun _ =>
 M.pure (.nrm []))
 ((M.lift (Ax.bin .eql t10 (V.int .i64 2))).bind fun t39 =>
 M.join (M.ite t39
 ((M.lift (Ax.faddr 7 t1)).bind fun t40 =>
 (mload none t40).bind fun t41 =>
 (M.lift (Ax.faddr 7 t3)).bind fun t42 =>
 (mstore 1 t42 t41).bind fun _ =>
 M.pure (.nrm []))
 ((M.lift (Ax.bin .eql t10 (V.int .i64 3))).bind fun t44 =>
 M.join (M.ite t44
 ((M.lift (Ax.faddr 2 t1)).bind fun t45 =>
 (mload none t45).bind fun t46 =>
 (M.lift (Ax.faddr 8 t1)).bind fun t47 =>
 (mload none t47).bind fun t48 =>
 (M.lift (Ax.faddr 2 t3)).bind fun t49 =>
 M.getH.bind fun h4 =>
 (mstore 1 t49 t46).bind fun _ =>
 M.getH.bind fun h4' =>
 (M.unch t47 h4 h4').bind fun _ =>
 (M.lift (Ax.faddr 8 t3)).bind fun t50 =>
 (mstore 1 t50 t48).bind fun _ =>
 M.pure (.nrm []))
 ((M.lift (Ax.bin .eql t10 (V.int .i64 4))).bind fun t52 =>
 M.join (M.ite t52
 ((M.lift (Ax.faddr 2 t1)).bind fun t53 =>
 (mload none t53).bind fun t54 =>
 (M.lift (Ax.faddr 2 t3)).bind fun t55 =>
 (mstore 1 t55 t54).bind fun _ =>
 M.pure (.nrm []))
 ((M.lift (Ax.bin .eql t10 (V.int .i64 5))).bind fun t57 =>
 M.join (M.ite t57
 ((M.lift (Ax.faddr 2 t1)).bind fun t58 =>
 (mload none t58).bind fun t59 =>
 (M.lift (Ax.faddr 9 t1)).bind fun t60 =>
 (mload none t60).bind fun t61 =>
 (M.lift (Ax.faddr 2 t3)).bind fun t62 =>
 M.getH.bind fun h5 =>
 (mstore 1 t62 t59).bind fun _ =>
 M.getH.bind fun h5' =>
 (M.unch t60 h5 h5').bind fun _ =>
 (M.lift (Ax.faddr 9 t3)).bind fun t63 =>
 (mstore 1 t63 t61).bind fun _ =>
 M.pure (.nrm []))
 ((M.lift (Ax.bin .eql t10 (V.int .i64 6))).bind fun t65 =>
 M.join (M.ite t65
 ((M.lift (Ax.faddr 2 t1)).bind fun t66 =>
 (mload none t66).bind fun t67 =>
 (M.lift (Ax.faddr 10 t1)).bind fun t68 =>
 (mload none t68).bind fun t69 =>
 (M.lift (Ax.faddr 11 t1)).bind fun t70 =>
 (mload none t70).bind fun t71 =>
 (M.lift (Ax.faddr 12 t1)).bind fun t72 =>
 (mload none t72).bind fun t73 =>
 (M.lift (Ax.faddr 2 t3)).bind fun t74 =>
 M.getH.bind fun h6 =>
 (mstore 1 t74 t67).bind fun _ =>
 M.getH.bind fun h6' =>
 (M.unch t72 h6 h6').bind fun _ =>
 (M.unch t70 h6 h6').bind fun _ =>
 (M.unch t68 h6 h6').bind fun _ =>
 (M.lift (Ax.faddr 10 t3)).bind fun t75 =>
 M.getH.bind fun h7 =>
 (mstore 1 t75 t69).bind fun _ =>
 M.getH.bind fun h7' =>
 (M.unch t72 h7 h7').bind fun _ =>
 (M.unch t70 h7 h7').bind fun _ =>
 (M.lift (Ax.faddr 11 t3)).bind fun t76 =>
 M.getH.bind fun h8 =>
 (mstore 1 t76 t71).bind fun _ =>
 M.getH.bind fun h8' =>
 (M.unch t72 h8 h8').bind fun _ =>
 (M.lift (Ax.faddr 12 t3)).bind fun t77 =>
 (mstore 1 t77 t73).bind fun _ =>
 M.pure (.nrm []))
 ((M.lift (Ax.faddr 1 t3)).bind fun t11 =>
 (mstore 1 t11 (V.int .u32 0)).bind fun _ =>
 (M.lift (Ax.faddr 13 t1)).bind fun t12 =>
 (mload none t12).bind fun t13 =>
 (M.lift (Ax.faddr 14 t1)).bind fun t14 =>
 (mload none t14).bind fun t15 =>
 (M.lift (Ax.faddr 15 t1)).bind fun t16 =>
 (mload none t16).bind fun t17 =>
 (M.lift (Ax.faddr 13 t3)).bind fun t18 =>
 M.getH.bind fun h9 =>
 (mstore 1 t18 t13).bind fun _ =>
 M.getH.bind fun h9' =>
 (M.unch t16 h9 h9').bind fun _ =>
 (M.unch t14 h9 h9').bind fun _ =>
 (M.lift (Ax.faddr 14 t3)).bind fun t19 =>
 M.getH.bind fun h10 =>
 (mstore 1 t19 t15).bind fun _ =>
 M.getH.bind fun h10' =>
 (M.unch t16 h10 h10').bind fun _ =>
 (M.lift (Ax.faddr 15 t3)).bind fun t20 =>
 (mstore 1 t20 t17).bind fun _ =>
 M.pure (.nrm []))) fun _ =>
 M.pure (.nrm []))) fun _ =>
 M.pure (.nrm []))) fun _ =>
 M.pure (.nrm []))) fun _ =>
 M.pure (.nrm []))) fun _ =>
 M.pure (.nrm []))) fun _ =>
 M.pure (.nrm [])) fun _ =>
 (mload (some 16) t3).bind fun t78 =>
 (mstore 16 t2 t78).bind fun _ =>
 (mload (some 16) t2).bind fun r0 =>
 M.pure (.ret [r0])
noncomputable def zoC:Fn':=(T zgV).getD noF
theorem zA0:T zgV = some zoC:=by kernel_rfl
theorem zCh (G:Sem') (t0:V):execK G zoC.rv zoC.body [] [] (params 0 [t0]) = zw2 G t0:=by kernel_rfl
def zrr (G:Sem'):List V → M V
 | [t0]=>fin (zw2 G t0)
 | _=>M.fail
theorem zC3 {g:Sem'} (hg:Sims g (sem T)) (args:List V):Sim (zrr g args) (sem T zgV args):=by
 unfold zrr
 split
 ·exact zad zA0 (Nat.le_of_ble_eq_true (by kernel_rfl)) hg (zCh g _)
 ·exact zaa
end Go.Ax.Cc
/- CiK11 -/
namespace Go.Ax.Cc
open Go.Proofs
def zcd (G:Sem') (t0 t1:V):M Res :=
 (G zas [t0,t1]).bind fun t7 =>
 (M.lift (Ax.bin .geq t7 (V.int .i64 0))).bind fun t8 =>
 M.pure (.ret [t8])
noncomputable def za8:Fn':=(T zal).getD noF
theorem zeo:T zal = some za8:=by kernel_rfl
theorem zeq (G:Sem') (t0 t1:V):execK G za8.rv za8.body [] [] (params 0 [t0,t1]) = zcd G t0 t1:=by kernel_rfl
def zbf (G:Sem'):List V → M V
 | [t0,t1]=>fin (zcd G t0 t1)
 | _=>M.fail
theorem zex {g:Sem'} (hg:Sims g (sem T)) (args:List V):Sim (zbf g args) (sem T zal args):=by
 unfold zbf
 split
 ·exact zad zeo (Nat.le_of_ble_eq_true (by kernel_rfl)) hg (zeq g _ _)
 ·exact zaa
def zso (G:Sem') (t0:V):M Res :=
 (mbox zhg t0).bind fun t1 =>
 (M.lift (Ax.faddr 2 t1)).bind fun t3 =>
 (mload none t3).bind fun t4 =>
 (M.lift (Ax.bin .geq t4 (V.int .u32 16777216))).bind fun t5 =>
 M.pure (.ret [t5])
noncomputable def zlw:Fn':=(T zeY).getD noF
theorem zx0:T zeY = some zlw:=by kernel_rfl
theorem zyD (G:Sem') (t0:V):execK G zlw.rv zlw.body [] [] (params 0 [t0]) = zso G t0:=by kernel_rfl
def znp (G:Sem'):List V → M V
 | [t0]=>fin (zso G t0)
 | _=>M.fail
theorem zzT {g:Sem'} (hg:Sims g (sem T)) (args:List V):Sim (znp g args) (sem T zeY args):=by
 unfold znp
 split
 ·exact zad zx0 (Nat.le_of_ble_eq_true (by kernel_rfl)) hg (zyD g _)
 ·exact zaa
def zw1 (G:Sem') (t39 t38 t4:V) (L:List V):M Res :=
 (M.lift (Ax.bin .lss (L.getD 1 .undef) t39)).bind fun t41 =>
 M.ite t41
 (M.blk 3 (
 (M.lift (Ax.iaddr none 1 t38 (L.getD 1 .undef))).bind fun t42 =>
 (mload none t42).bind fun t43 =>
 (M.lift (Ax.cint .u64 t43)).bind fun t46 =>
 (G zbn [(L.getD 0 .undef),t46,(V.int .i64 4)]).bind fun t47 =>
 M.pure (.nrm [t47])) fun L0 =>
 (M.lift (Ax.bin .add (L.getD 1 .undef) (V.int .i64 1))).bind fun t48 =>
 M.pure (.nrm [(L0.getD 0 .undef),t48]))
 (M.pure (.ex 2 [(L.getD 0 .undef)]))
def zw0 (G:Sem') (t10 t9 t4:V) (L:List V):M Res :=
 (M.lift (Ax.bin .lss (L.getD 1 .undef) t10)).bind fun t12 =>
 M.ite t12
 (M.blk 1 (
 (M.lift (Ax.iaddr none 7 t9 (L.getD 1 .undef))).bind fun t13 =>
 (mload (some 7) t13).bind fun t14 =>
 (mbox zhg (V.agg [(V.int .u32 0),(V.int .u8 0),(V.int .u32 0),(V.int .u32 0),(V.int .u32 0),(V.int .u32 0),(V.int .u32 0)])).bind fun t6 =>
 (mstore 7 t6 t14).bind fun _ =>
 (M.lift (Ax.faddr 0 t6)).bind fun t16 =>
 (mload none t16).bind fun t17 =>
 (M.lift (Ax.cint .u64 t17)).bind fun t18 =>
 (G zbn [(L.getD 0 .undef),t18,(V.int .i64 4)]).bind fun t19 =>
 (M.lift (Ax.faddr 1 t6)).bind fun t21 =>
 (mload none t21).bind fun t22 =>
 (mslit zaw 1 [(V.int .u8 0)] [(0,1,t22)]).bind fun t23 =>
 (mappend zaw 1 1 t19 t23).bind fun t24 =>
 (M.lift (Ax.faddr 2 t6)).bind fun t26 =>
 (mload none t26).bind fun t27 =>
 (M.lift (Ax.cint .u64 t27)).bind fun t28 =>
 (G zbn [t24,t28,(V.int .i64 3)]).bind fun t29 =>
 (M.lift (Ax.faddr 3 t6)).bind fun t30 =>
 (mload none t30).bind fun t31 =>
 (M.lift (Ax.faddr 4 t6)).bind fun t32 =>
 (mload none t32).bind fun t33 =>
 (M.lift (Ax.faddr 5 t6)).bind fun t34 =>
 (mload none t34).bind fun t35 =>
 (M.lift (Ax.faddr 6 t6)).bind fun t36 =>
 (mload none t36).bind fun t37 =>
 (mslit zfn 4 [(V.int .u32 0)] [(0,1,t31),(1,1,t33),(2,1,t35),(3,1,t37)]).bind fun t38 =>
 (M.lift (vlen t38)).bind fun t39 =>
 M.blk 2 (
 M.iter (zw1 G t39 t38 t4) [t29,(V.int .i64 0)]) fun L1 =>
 M.pure (.nrm [(L1.getD 0 .undef)])) fun L2 =>
 (M.lift (Ax.bin .add (L.getD 1 .undef) (V.int .i64 1))).bind fun t49 =>
 M.pure (.nrm [(L2.getD 0 .undef),t49]))
 (M.pure (.ex 0 [(L.getD 0 .undef)]))
def zsn (G:Sem') (t0 t1:V):M Res :=
 (M.lift (vlen t1)).bind fun t10 =>
 M.blk 0 (
 M.iter (zw0 G t10 t1 V.nils) [t0,(V.int .i64 0)]) fun L3 =>
 M.pure (.ret [(L3.getD 0 .undef)])
noncomputable def zlv:Fn':=(T zdX).getD noF
theorem zxZ:T zdX = some zlv:=by kernel_rfl
theorem zyC (G:Sem') (t0 t1:V):execK G zlv.rv zlv.body [] [] (params 0 [t0,t1]) = zsn G t0 t1:=by kernel_rfl
def zno (G:Sem'):List V → M V
 | [t0,t1]=>fin (zsn G t0 t1)
 | _=>M.fail
theorem zzS {g:Sem'} (hg:Sims g (sem T)) (args:List V):Sim (zno g args) (sem T zdX args):=by
 unfold zno
 split
 ·exact zad zxZ (Nat.le_of_ble_eq_true (by kernel_rfl)) hg (zyC g _ _)
 ·exact zaa
def zu9 (G:Sem') (t0:V):M Res :=
 (G zb5 [t0]).bind fun t6 =>
 (M.lift (Ax.bin .shl (V.int .u64 1) t6)).bind fun t9 =>
 (M.lift (Ax.bin .sub t9 t0)).bind fun t11 =>
 M.pure (.ret [t6,t11])
noncomputable def zm9:Fn':=(T zf0).getD noF
theorem zzL:T zf0 = some zm9:=by kernel_rfl
theorem zAL (G:Sem') (t0:V):execK G zm9.rv zm9.body [] [] (params 0 [t0]) = zu9 G t0:=by kernel_rfl
def zpP (G:Sem'):List V → M V
 | [t0]=>fin (zu9 G t0)
 | _=>M.fail
theorem zBK {g:Sem'} (hg:Sims g (sem T)) (args:List V):Sim (zpP g args) (sem T zf0 args):=by
 unfold zpP
 split
 ·exact zad zzL (Nat.le_of_ble_eq_true (by kernel_rfl)) hg (zAL g _)
 ·exact zaa
def zj4 (G:Sem') (t7 t1 t0:V) (L:List V):M Res :=
 (M.lift (Ax.bin .lss (L.getD 0 .undef) t7)).bind fun t9 =>
 M.ite t9
 (M.blk 1 (
 (M.lift (Ax.iaddr none 1 t0 (L.getD 0 .undef))).bind fun t14 =>
 (mload none t14).bind fun t15 =>
 (callv G t1 [t15]).bind fun t16 =>
 M.ite t16
 (M.pure (.ret [(L.getD 0 .undef)]))
 (M.pure (.nrm []))) fun _ =>
 (M.lift (Ax.bin .add (L.getD 0 .undef) (V.int .i64 1))).bind fun t18 =>
 M.pure (.nrm [t18]))
 (M.pure (.ex 0 []))
def zf4 (G:Sem') (t0 t1:V):M Res :=
 (M.lift (vlen t0)).bind fun t7 =>
 M.blk 0 (
 M.iter (zj4 G t7 t1 t0) [(V.int .i64 0)]) fun _ =>
 M.pure (.ret [(V.int .i64 (-1))])
noncomputable def zdl:Fn':=(T za5).getD noF
theorem zka:T za5 = some zdl:=by kernel_rfl
theorem zkD (G:Sem') (t0 t1:V):execK G zdl.rv zdl.body [] [] (params 0 [t0,t1]) = zf4 G t0 t1:=by kernel_rfl
def zdA (G:Sem'):List V → M V
 | [t0,t1]=>fin (zf4 G t0 t1)
 | _=>M.fail
theorem zkY {g:Sem'} (hg:Sims g (sem T)) (args:List V):Sim (zdA g args) (sem T za5 args):=by
 unfold zdA
 split
 ·exact zad zka (Nat.le_of_ble_eq_true (by kernel_rfl)) hg (zkD g _ _)
 ·exact zaa
def zeP (G:Sem') (t7 t1 t0:V) (L:List V):M Res :=
 (M.lift (Ax.bin .lss (L.getD 0 .undef) t7)).bind fun t9 =>
 M.ite t9
 (M.blk 1 (
 (M.lift (Ax.iaddr none 7 t0 (L.getD 0 .undef))).bind fun t14 =>
 (mload (some 7) t14).bind fun t15 =>
 (callv G t1 [t15]).bind fun t16 =>
 M.ite t16
 (M.pure (.ret [(L.getD 0 .undef)]))
 (M.pure (.nrm []))) fun _ =>
 (M.lift (Ax.bin .add (L.getD 0 .undef) (V.int .i64 1))).bind fun t18 =>
 M.pure (.nrm [t18]))
 (M.pure (.ex 0 []))
def zcy (G:Sem') (t0 t1:V):M Res :=
 (M.lift (vlen t0)).bind fun t7 =>
 M.blk 0 (
 M.iter (zeP G t7 t1 t0) [(V.int .i64 0)]) fun _ =>
 M.pure (.ret [(V.int .i64 (-1))])
noncomputable def zbl:Fn':=(T zas).getD noF
theorem ze4:T zas = some zbl:=by kernel_rfl
theorem ze9 (G:Sem') (t0 t1:V):execK G zbl.rv zbl.body [] [] (params 0 [t0,t1]) = zcy G t0 t1:=by kernel_rfl
def zbs (G:Sem'):List V → M V
 | [t0,t1]=>fin (zcy G t0 t1)
 | _=>M.fail
theorem zfl {g:Sem'} (hg:Sims g (sem T)) (args:List V):Sim (zbs g args) (sem T zas args):=by
 unfold zbs
 split
 ·exact zad ze4 (Nat.le_of_ble_eq_true (by kernel_rfl)) hg (ze9 g _ _)
 ·exact zaa
end Go.Ax.Cc
