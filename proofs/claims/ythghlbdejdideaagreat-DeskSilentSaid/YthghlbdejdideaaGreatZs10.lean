/-
  Texts of mine, put together by program (wip/slim.py), for law_deskSilent: part 10.
-/
import Derived.Test.YthghlbdejdideaaGreatZs9
noncomputable section
set_option linter.unusedVariables false
set_option linter.unusedSimpArgs false
set_option linter.defProp false
set_option maxRecDepth 100000
/- CiS3 -/
namespace Go.Ax.Cc
open Go.Proofs
def f_post_Post_desk_Out_Take (G:Sem') (t0:V):M Res :=
 (mbox zaZ (V.agg [(V.int .i64 0),(V.int .i64 0),V.nils])).bind fun t2 =>
 (mbox zaZ (V.agg [(V.int .i64 0),(V.int .i64 0),V.nils])).bind fun t4 =>
 (M.lift (Ax.nilck t0)).bind fun t7 =>
 (M.lift (Ax.faddr 1 t7)).bind fun t8 =>
 (mload none t8).bind fun t9 =>
 (M.lift (vlen t9)).bind fun t10 =>
 (M.lift (Ax.bin .eql t10 (V.int .i64 0))).bind fun t11 =>
 M.ite t11
 ((mload (some 3) t4).bind fun t12 =>
 (mstore 3 t2 t12).bind fun _ =>
 (mload (some 3) t2).bind fun r0 =>
 M.pure (.ret [r0,(V.bool false)]))
 ((M.lift (Ax.nilck t0)).bind fun t14 =>
 (M.lift (Ax.faddr 1 t14)).bind fun t15 =>
 (mload none t15).bind fun t16 =>
 (M.lift (Ax.iaddr none 3 t16 (V.int .i64 0))).bind fun t17 =>
 (mload (some 3) t17).bind fun t18 =>
 (mbox zaZ (V.agg [(V.int .i64 0),(V.int .i64 0),V.nils])).bind fun t5 =>
 (mstore 3 t5 t18).bind fun _ =>
 (M.lift (Ax.nilck t0)).bind fun t21 =>
 (M.lift (Ax.faddr 1 t21)).bind fun t22 =>
 (mload none t22).bind fun t23 =>
 (M.lift (zbI .sl 3 t23 (some (V.int .i64 1)) none none)).bind fun t24 =>
 (M.lift (Ax.nilck t0)).bind fun t25 =>
 (M.lift (Ax.faddr 1 t25)).bind fun t26 =>
 (mstore 1 t26 t24).bind fun _ =>
 (mload (some 3) t5).bind fun t27 =>
 (mstore 3 t2 t27).bind fun _ =>
 (mload (some 3) t2).bind fun r0 =>
 M.pure (.ret [r0,(V.bool true)]))
def ir_post_Post_desk_Out_Take:Fn':=(T zat).getD noF
theorem tb_post_Post_desk_Out_Take:T zat = some ir_post_Post_desk_Out_Take:=by kernel_rfl
theorem eq_post_Post_desk_Out_Take (G:Sem') (t0:V):execK G ir_post_Post_desk_Out_Take.rv ir_post_Post_desk_Out_Take.body [] [] (params 0 [t0]) = f_post_Post_desk_Out_Take G t0:=by kernel_rfl
def zbV (G:Sem'):List V → M V
 | [t0]=>fin (f_post_Post_desk_Out_Take G t0)
 | _=>M.fail
theorem zeo {g:Sem'} (hg:Sims g (sem T)) (args:List V):Sim (zbV g args) (sem T zat args):=by
 unfold zbV;split
 ·exact zaO tb_post_Post_desk_Out_Take (Nat.le_of_ble_eq_true (by kernel_rfl)) hg (eq_post_Post_desk_Out_Take g _)
 ·exact zac
def zc2 (G:Sem') (t0:V):M Res :=
 (M.lift (Ax.nilck t0)).bind fun t4 =>
 (M.lift (Ax.faddr 0 t4)).bind fun t5 =>
 (matoload .i64 t5).bind fun t6 =>
 M.pure (.ret [t6])
def zbS:Fn':=(T za4).getD noF
theorem zek:T za4 = some zbS:=by kernel_rfl
theorem zev (G:Sem') (t0:V):execK G zbS.rv zbS.body [] [] (params 0 [t0]) = zc2 G t0:=by kernel_rfl
def zb0 (G:Sem'):List V → M V
 | [t0]=>fin (zc2 G t0)
 | _=>M.fail
theorem zeD {g:Sem'} (hg:Sims g (sem T)) (args:List V):Sim (zb0 g args) (sem T za4 args):=by
 unfold zb0;split
 ·exact zaO zek (Nat.le_of_ble_eq_true (by kernel_rfl)) hg (zev g _)
 ·exact zac
def f_palanquinref16_fields (G:Sem') (t0:V):M Res :=
 M.blk 0 (
 (M.lift (Ax.bin .eql t0 (V.int .i64 1))).bind fun t5 =>
 M.ite t5
 (M.pure (.ret [(V.str ⟨#[114]⟩)]))
 ((M.lift (Ax.bin .eql t0 (V.int .i64 2))).bind fun t7 =>
 M.join (M.ite t7
 (M.pure (.nrm [t7]))
 ((M.lift (Ax.bin .eql t0 (V.int .i64 9))).bind fun t8 =>
 M.join (M.ite t8
 (M.pure (.nrm [t8]))
 ((M.lift (Ax.bin .eql t0 (V.int .i64 23))).bind fun t9 =>
 M.pure (.nrm [t9]))) fun L0 =>
 M.pure (.nrm [(L0.getD 0 .undef)]))) fun L1 =>
 M.ite (L1.getD 0 .undef)
 (M.pure (.ret [(V.str ⟨#[45]⟩)]))
 ((M.lift (Ax.bin .eql t0 (V.int .i64 3))).bind fun t11 =>
 M.join (M.ite t11
 (M.pure (.nrm [t11]))
 ((M.lift (Ax.bin .eql t0 (V.int .i64 6))).bind fun t12 =>
 M.pure (.nrm [t12]))) fun L2 =>
 M.ite (L2.getD 0 .undef)
 (M.pure (.ret [(V.str ⟨#[115]⟩)]))
 ((M.lift (Ax.bin .eql t0 (V.int .i64 4))).bind fun t14 =>
 M.ite t14
 (M.pure (.ret [(V.str ⟨#[110,109,98]⟩)]))
 ((M.lift (Ax.bin .eql t0 (V.int .i64 5))).bind fun t16 =>
 M.ite t16
 (M.pure (.ret [(V.str ⟨#[115,110,109]⟩)]))
 ((M.lift (Ax.bin .eql t0 (V.int .i64 7))).bind fun t18 =>
 M.join (M.ite t18
 (M.pure (.nrm [t18]))
 ((M.lift (Ax.bin .eql t0 (V.int .i64 21))).bind fun t19 =>
 M.pure (.nrm [t19]))) fun L3 =>
 M.ite (L3.getD 0 .undef)
 (M.pure (.ret [(V.str ⟨#[115,101,110,98]⟩)]))
 ((M.lift (Ax.bin .eql t0 (V.int .i64 8))).bind fun t21 =>
 M.join (M.ite t21
 (M.pure (.nrm [t21]))
 ((M.lift (Ax.bin .eql t0 (V.int .i64 22))).bind fun t22 =>
 M.pure (.nrm [t22]))) fun L4 =>
 M.ite (L4.getD 0 .undef)
 (M.pure (.ret [(V.str ⟨#[101]⟩)]))
 ((M.lift (Ax.bin .eql t0 (V.int .i64 17))).bind fun t24 =>
 M.ite t24
 (M.pure (.ret [(V.str ⟨#[114,115,101,110,109,98]⟩)]))
 ((M.lift (Ax.bin .eql t0 (V.int .i64 18))).bind fun t26 =>
 M.ite t26
 (M.pure (.ret [(V.str ⟨#[110,109]⟩)]))
 ((M.lift (Ax.bin .eql t0 (V.int .i64 19))).bind fun t28 =>
 M.ite t28
 (M.pure (.ret [(V.str ⟨#[115,101,110,109]⟩)]))
 ((M.lift (Ax.bin .eql t0 (V.int .i64 20))).bind fun t30 =>
 M.ite t30
 (M.pure (.ret [(V.str ⟨#[115,101,110]⟩)]))
 ((M.lift (Ax.bin .eql t0 (V.int .i64 24))).bind fun t32 =>
 M.ite t32
 (M.pure (.ret [(V.str ⟨#[115,98]⟩)]))
 (M.pure (.nrm [])))))))))))))) fun _ =>
 M.pure (.ret [(V.str ⟨#[]⟩)])
def ir_palanquinref16_fields:Fn':=(T zau).getD noF
theorem tb_palanquinref16_fields:T zau = some ir_palanquinref16_fields:=by kernel_rfl
theorem eq_palanquinref16_fields (G:Sem') (t0:V):execK G ir_palanquinref16_fields.rv ir_palanquinref16_fields.body [] [] (params 0 [t0]) = f_palanquinref16_fields G t0:=by kernel_rfl
def zce (G:Sem'):List V → M V
 | [t0]=>fin (f_palanquinref16_fields G t0)
 | _=>M.fail
theorem ze0 {g:Sem'} (hg:Sims g (sem T)) (args:List V):Sim (zce g args) (sem T zau args):=by
 unfold zce;split
 ·exact zaO tb_palanquinref16_fields (Nat.le_of_ble_eq_true (by kernel_rfl)) hg (eq_palanquinref16_fields g _)
 ·exact zac
def f_palanquinref16_in (G:Sem') (t0 t1 t2:V):M Res :=
 (M.lift (Ax.bin .geq t0 t1)).bind fun t9 =>
 (guarded [(0,t9)] (some (0,true)) (M.pure t0)).bind fun t11 =>
 (guarded [(0,t9)] (some (0,true)) (M.pure t2)).bind fun t12 =>
 (guarded [(0,t9)] (some (0,true)) (M.lift (Ax.bin .leq t11 t12))).bind fun t13 =>
 (M.lift (Ax.pick t9 t13 (V.bool false))).bind fun t14 =>
 M.pure (.ret [t14])
def ir_palanquinref16_in:Fn':=(T zai).getD noF
theorem tb_palanquinref16_in:T zai = some ir_palanquinref16_in:=by kernel_rfl
theorem eq_palanquinref16_in (G:Sem') (t0 t1 t2:V):execK G ir_palanquinref16_in.rv ir_palanquinref16_in.body [] [] (params 0 [t0,t1,t2]) = f_palanquinref16_in G t0 t1 t2:=by kernel_rfl
def zcY (G:Sem'):List V → M V
 | [t0,t1,t2]=>fin (f_palanquinref16_in G t0 t1 t2)
 | _=>M.fail
theorem zgD {g:Sem'} (hg:Sims g (sem T)) (args:List V):Sim (zcY g args) (sem T zai args):=by
 unfold zcY;split
 ·exact zaO tb_palanquinref16_in (Nat.le_of_ble_eq_true (by kernel_rfl)) hg (eq_palanquinref16_in g _ _ _)
 ·exact zac
def f_palanquinref16_has_0 (G:Sem') (t0 t1:V) (L:List V):M Res :=
 (M.lift (Ax.slen t0)).bind fun t8 =>
 (M.lift (Ax.bin .lss (L.getD 0 .undef) t8)).bind fun t9 =>
 M.ite t9
 (M.blk 1 (
 (M.lift (Ax.sindex t0 (L.getD 0 .undef))).bind fun t14 =>
 (M.lift (Ax.bin .eql t14 t1)).bind fun t16 =>
 M.ite t16
 (M.pure (.ret [(V.bool true)]))
 (M.pure (.nrm []))) fun _ =>
 (M.lift (Ax.bin .add (L.getD 0 .undef) (V.int .i64 1))).bind fun t11 =>
 M.pure (.nrm [t11]))
 (M.pure (.ex 0 []))
def f_palanquinref16_has (G:Sem') (t0 t1:V):M Res :=
 M.blk 0 (
 M.iter (f_palanquinref16_has_0 G t0 t1) [(V.int .i64 0)]) fun _ =>
 M.pure (.ret [(V.bool false)])
def ir_palanquinref16_has:Fn':=(T zag).getD noF
theorem tb_palanquinref16_has:T zag = some ir_palanquinref16_has:=by kernel_rfl
theorem eq_palanquinref16_has (G:Sem') (t0 t1:V):execK G ir_palanquinref16_has.rv ir_palanquinref16_has.body [] [] (params 0 [t0,t1]) = f_palanquinref16_has G t0 t1:=by kernel_rfl
def zcK (G:Sem'):List V → M V
 | [t0,t1]=>fin (f_palanquinref16_has G t0 t1)
 | _=>M.fail
theorem zgo {g:Sem'} (hg:Sims g (sem T)) (args:List V):Sim (zcK g args) (sem T zag args):=by
 unfold zcK;split
 ·exact zaO tb_palanquinref16_has (Nat.le_of_ble_eq_true (by kernel_rfl)) hg (eq_palanquinref16_has g _ _)
 ·exact zac
def zeM (G:Sem') (t1:V) (L:List V):M Res :=
 (M.lift (Ax.bin .lss (L.getD 0 .undef) (V.int .i64 8))).bind fun t10 =>
 M.ite t10
 (M.blk 1 (
 (M.lift (Ax.faddr 4 t1)).bind fun t13 =>
 (mload none t13).bind fun t14 =>
 (M.lift (Ax.cint .u64 (L.getD 0 .undef))).bind fun t16 =>
 (M.lift (Ax.bin .shr t14 t16)).bind fun t17 =>
 (M.lift (Ax.bin .and t17 (V.int .i64 1))).bind fun t18 =>
 (M.lift (Ax.bin .eql t18 (V.int .i64 1))).bind fun t19 =>
 (guarded [(0,t19)] (some (0,true)) (M.lift (Ax.faddr 6 t1))).bind fun t22 =>
 (guarded [(0,t19)] (some (0,true)) (mload none t22)).bind fun t23 =>
 (guarded [(0,t19)] (some (0,true)) (M.pure (L.getD 0 .undef))).bind fun t24 =>
 (guarded [(0,t19)] (some (0,true)) (M.lift (Ax.iaddr none 1 t23 t24))).bind fun t25 =>
 (guarded [(0,t19)] (some (0,true)) (mload none t25)).bind fun t26 =>
 (guarded [(0,t19)] (some (0,true)) (M.lift (Ax.bin .gtr t26 (V.int .u8 63)))).bind fun t27 =>
 (M.lift (Ax.pick t19 t27 (V.bool false))).bind fun t28 =>
 (guarded [(0,t28)] (some (0,false)) (M.pure t19)).bind fun t30 =>
 (guarded [(0,t28)] (some (0,false)) (M.lift (Ax.un .not t30))).bind fun t31 =>
 (guarded [(0,t28)] (some (0,false)) (M.pure t31)).bind fun t32 =>
 (guarded [(0,t32)] (some (0,true)) (M.lift (Ax.faddr 6 t1))).bind fun t33 =>
 (guarded [(0,t32)] (some (0,true)) (mload none t33)).bind fun t34 =>
 (guarded [(0,t32)] (some (0,true)) (M.pure (L.getD 0 .undef))).bind fun t35 =>
 (guarded [(0,t32)] (some (0,true)) (M.lift (Ax.iaddr none 1 t34 t35))).bind fun t36 =>
 (guarded [(0,t32)] (some (0,true)) (mload none t36)).bind fun t37 =>
 (guarded [(0,t32)] (some (0,true)) (M.lift (Ax.bin .neq t37 (V.int .u8 255)))).bind fun t38 =>
 (guarded [(0,t28)] (some (0,false)) (M.lift (Ax.pick t32 t38 (V.bool false)))).bind fun t39 =>
 (M.lift (Ax.pick t28 (V.bool true) t39)).bind fun t40 =>
 M.ite t40
 (M.pure (.ret [(V.bool false)]))
 (M.pure (.nrm []))) fun _ =>
 (M.lift (Ax.bin .add (L.getD 0 .undef) (V.int .i64 1))).bind fun t12 =>
 M.pure (.nrm [t12]))
 (M.pure (.ex 0 []))
def zdf (G:Sem') (t0:V):M Res :=
 (mbox zab t0).bind fun t1 =>
 (M.lift (Ax.faddr 6 t1)).bind fun t5 =>
 (mload none t5).bind fun t6 =>
 (M.lift (vlen t6)).bind fun t7 =>
 (M.lift (Ax.bin .neq t7 (V.int .i64 8))).bind fun t8 =>
 M.ite t8
 (M.pure (.ret [(V.bool false)]))
 (M.blk 0 (
 M.iter (zeM G t1) [(V.int .i64 0)]) fun _ =>
 M.pure (.ret [(V.bool true)]))
def zb8:Fn':=(T za2).getD noF
theorem zeU:T za2 = some zb8:=by kernel_rfl
theorem zfb (G:Sem') (t0:V):execK G zb8.rv zb8.body [] [] (params 0 [t0]) = zdf G t0:=by kernel_rfl
def zck (G:Sem'):List V → M V
 | [t0]=>fin (zdf G t0)
 | _=>M.fail
theorem zft {g:Sem'} (hg:Sims g (sem T)) (args:List V):Sim (zck g args) (sem T za2 args):=by
 unfold zck;split
 ·exact zaO zeU (Nat.le_of_ble_eq_true (by kernel_rfl)) hg (zfb g _)
 ·exact zac
def f_slots_find_0 (G:Sem') (t9 t2 t1:V) (L:List V):M Res :=
 (M.lift (Ax.bin .lss (L.getD 0 .undef) (V.int .i64 8))).bind fun t11 =>
 M.ite t11
 (M.blk 1 (
 (M.lift (Ax.index 8 1 none t9 (L.getD 0 .undef))).bind fun t13 =>
 (M.lift (Ax.faddr 0 t2)).bind fun t15 =>
 (M.lift (Ax.iaddr (some 8) 1 t15 (L.getD 0 .undef))).bind fun t16 =>
 (mload none t16).bind fun t17 =>
 (guarded [(0,t17)] (some (0,true)) (M.pure t1)).bind fun t19 =>
 (guarded [(0,t17)] (some (0,true)) (M.pure t13)).bind fun t20 =>
 (guarded [(0,t17)] (some (0,true)) (M.lift (Ax.bin .eql t19 t20))).bind fun t21 =>
 (M.lift (Ax.pick t17 t21 (V.bool false))).bind fun t22 =>
 M.ite t22
 (M.pure (.ret [(L.getD 0 .undef),(V.bool true)]))
 (M.pure (.nrm []))) fun _ =>
 (M.lift (Ax.bin .add (L.getD 0 .undef) (V.int .i64 1))).bind fun t24 =>
 M.pure (.nrm [t24]))
 (M.pure (.ex 0 []))
def f_slots_find (G:Sem') (t0 t1:V):M Res :=
 (mbox zah t0).bind fun t2 =>
 (M.lift (Ax.faddr 8 t2)).bind fun t8 =>
 (mload (some 8) t8).bind fun t9 =>
 M.blk 0 (
 M.iter (f_slots_find_0 G t9 t2 t1) [(V.int .i64 0)]) fun _ =>
 M.pure (.ret [(V.int .i64 0),(V.bool false)])
def ir_slots_find:Fn':=(T za8).getD noF
theorem tb_slots_find:T za8 = some ir_slots_find:=by kernel_rfl
theorem eq_slots_find (G:Sem') (t0 t1:V):execK G ir_slots_find.rv ir_slots_find.body [] [] (params 0 [t0,t1]) = f_slots_find G t0 t1:=by kernel_rfl
def zfZ (G:Sem'):List V → M V
 | [t0,t1]=>fin (f_slots_find G t0 t1)
 | _=>M.fail
theorem zmf {g:Sem'} (hg:Sims g (sem T)) (args:List V):Sim (zfZ g args) (sem T za8 args):=by
 unfold zfZ;split
 ·exact zaO tb_slots_find (Nat.le_of_ble_eq_true (by kernel_rfl)) hg (eq_slots_find g _ _)
 ·exact zac
def f_slots_addr (G:Sem') (t0:V):M Res :=
 (M.lift (Ax.bin .geq t0 (V.int .i64 0))).bind fun t4 =>
 (guarded [(0,t4)] (some (0,true)) (M.pure t0)).bind fun t6 =>
 (guarded [(0,t4)] (some (0,true)) (M.lift (Ax.bin .leq t6 (V.int .i64 63)))).bind fun t7 =>
 (M.lift (Ax.pick t4 t7 (V.bool false))).bind fun t8 =>
 M.pure (.ret [t8])
def ir_slots_addr:Fn':=(T zbe).getD noF
theorem tb_slots_addr:T zbe = some ir_slots_addr:=by kernel_rfl
theorem eq_slots_addr (G:Sem') (t0:V):execK G ir_slots_addr.rv ir_slots_addr.body [] [] (params 0 [t0]) = f_slots_addr G t0:=by kernel_rfl
def zf0 (G:Sem'):List V → M V
 | [t0]=>fin (f_slots_addr G t0)
 | _=>M.fail
theorem zmg {g:Sem'} (hg:Sims g (sem T)) (args:List V):Sim (zf0 g args) (sem T zbe args):=by
 unfold zf0;split
 ·exact zaO tb_slots_addr (Nat.le_of_ble_eq_true (by kernel_rfl)) hg (eq_slots_addr g _)
 ·exact zac
def f_sync_atomic_Int64_Add (G:Sem') (t0 t1:V):M Res :=
 (M.lift (Ax.nilck t0)).bind fun t6 =>
 (M.lift (Ax.faddr 0 t6)).bind fun t7 =>
 (matoadd .i64 t7 t1).bind fun t9 =>
 M.pure (.ret [t9])
def ir_sync_atomic_Int64_Add:Fn':=(T zaE).getD noF
theorem tb_sync_atomic_Int64_Add:T zaE = some ir_sync_atomic_Int64_Add:=by kernel_rfl
theorem eq_sync_atomic_Int64_Add (G:Sem') (t0 t1:V):execK G ir_sync_atomic_Int64_Add.rv ir_sync_atomic_Int64_Add.body [] [] (params 0 [t0,t1]) = f_sync_atomic_Int64_Add G t0 t1:=by kernel_rfl
def zcd (G:Sem'):List V → M V
 | [t0,t1]=>fin (f_sync_atomic_Int64_Add G t0 t1)
 | _=>M.fail
theorem zeZ {g:Sem'} (hg:Sims g (sem T)) (args:List V):Sim (zcd g args) (sem T zaE args):=by
 unfold zcd;split
 ·exact zaO tb_sync_atomic_Int64_Add (Nat.le_of_ble_eq_true (by kernel_rfl)) hg (eq_sync_atomic_Int64_Add g _ _)
 ·exact zac
def f_slots_Find (G:Sem') (t0 t1:V):M Res :=
 (mbox zah t0).bind fun t2 =>
 (mload (some 16) t2).bind fun t6 =>
 (G zaT [t6]).bind fun t7 =>
 (M.lift (Ax.un .not t7)).bind fun t8 =>
 M.ite t8
 (M.pure (.ret [(V.int .i64 0),(V.bool false)]))
 ((mload (some 16) t2).bind fun t9 =>
 (G za8 [t9,t1]).bind fun t11 =>
 (M.lift (Ax.ext 0 t11)).bind fun t12 =>
 (M.lift (Ax.ext 1 t11)).bind fun t13 =>
 M.pure (.ret [t12,t13]))
def ir_slots_Find:Fn':=(T zbf).getD noF
theorem tb_slots_Find:T zbf = some ir_slots_Find:=by kernel_rfl
theorem eq_slots_Find (G:Sem') (t0 t1:V):execK G ir_slots_Find.rv ir_slots_Find.body [] [] (params 0 [t0,t1]) = f_slots_Find G t0 t1:=by kernel_rfl
def zf4 (G:Sem'):List V → M V
 | [t0,t1]=>fin (f_slots_Find G t0 t1)
 | _=>M.fail
theorem zmk {g:Sem'} (hg:Sims g (sem T)) (args:List V):Sim (zf4 g args) (sem T zbf args):=by
 unfold zf4;split
 ·exact zaO tb_slots_Find (Nat.le_of_ble_eq_true (by kernel_rfl)) hg (eq_slots_Find g _ _)
 ·exact zac
def f_desk_Desk_tell (G:Sem') (t0 t1 t2 t3:V):M Res :=
 (M.lift (Ax.nilck t0)).bind fun t10 =>
 (M.lift (Ax.faddr 1470 t10)).bind fun t11 =>
 (M.lift (Ax.iaddr (some 64) 1 t11 t1)).bind fun t12 =>
 (mload none t12).bind fun t13 =>
 M.getH.bind fun h0 =>
 (G za7 [t3]).bind fun t17 =>
 M.getH.bind fun h0' =>
 (M.unch t12 h0 h0').bind fun _ =>
 (M.lift (Ax.build [(V.int .i64 0),(V.int .i64 0),V.nils] [(0,1,t1),(1,1,t2),(2,1,t17)])).bind fun t18 =>
 (G zax [t13,t18]).bind fun t19 =>
 (M.lift (Ax.un .not t19)).bind fun t20 =>
 M.join (M.ite t20
 ((M.lift (Ax.nilck t0)).bind fun t22 =>
 (M.lift (Ax.faddr 1534 t22)).bind fun t23 =>
 (mload none t23).bind fun t24 =>
 (G zaG [t24,(V.int .i64 10)]).bind fun t25 =>
 M.pure (.nrm []))
 (M.pure (.nrm []))) fun _ =>
 M.pure (.ret [])
def ir_desk_Desk_tell:Fn':=(T zaW).getD noF
theorem tb_desk_Desk_tell:T zaW = some ir_desk_Desk_tell:=by kernel_rfl
theorem eq_desk_Desk_tell (G:Sem') (t0 t1 t2 t3:V):execK G ir_desk_Desk_tell.rv ir_desk_Desk_tell.body [] [] (params 0 [t0,t1,t2,t3]) = f_desk_Desk_tell G t0 t1 t2 t3:=by kernel_rfl
def zdK (G:Sem'):List V → M V
 | [t0,t1,t2,t3]=>fin (f_desk_Desk_tell G t0 t1 t2 t3)
 | _=>M.fail
theorem ziU {g:Sem'} (hg:Sims g (sem T)) (args:List V):Sim (zdK g args) (sem T zaW args):=by
 unfold zdK;split
 ·exact zaO tb_desk_Desk_tell (Nat.le_of_ble_eq_true (by kernel_rfl)) hg (eq_desk_Desk_tell g _ _ _ _)
 ·exact zac
def f_note_Parse_1 (G:Sem') (t0 t1:V):M Res :=
 (mload none t1).bind fun t4 =>
 (M.lift (Ax.iaddr none 1 t4 t0)).bind fun t6 =>
 (mload none t6).bind fun t7 =>
 (M.lift (Ax.cint .i64 t7)).bind fun t8 =>
 (M.lift (Ax.bin .shl t8 (V.int .u64 8))).bind fun t9 =>
 (mload none t1).bind fun t10 =>
 (M.lift (Ax.bin .add t0 (V.int .i64 1))).bind fun t12 =>
 (M.lift (Ax.iaddr none 1 t10 t12)).bind fun t13 =>
 (mload none t13).bind fun t14 =>
 (M.lift (Ax.cint .i64 t14)).bind fun t15 =>
 (M.lift (Ax.bin .or t9 t15)).bind fun t16 =>
 M.pure (.ret [t16])
def ir_note_Parse_1:Fn':=(T zaN).getD noF
theorem tb_note_Parse_1:T zaN = some ir_note_Parse_1:=by kernel_rfl
theorem eq_note_Parse_1 (G:Sem') (t0 t1:V):execK G ir_note_Parse_1.rv ir_note_Parse_1.body [] [] (params 0 [t0,t1]) = f_note_Parse_1 G t0 t1:=by kernel_rfl
def zeA (G:Sem'):List V → M V
 | [t0,t1]=>fin (f_note_Parse_1 G t0 t1)
 | _=>M.fail
theorem zko {g:Sem'} (hg:Sims g (sem T)) (args:List V):Sim (zeA g args) (sem T zaN args):=by
 unfold zeA;split
 ·exact zaO tb_note_Parse_1 (Nat.le_of_ble_eq_true (by kernel_rfl)) hg (eq_note_Parse_1 g _ _)
 ·exact zac
def f_bytes_Clone (G:Sem') (t0:V):M Res :=
 (M.lift (eqr .sl false t0 V.nils)).bind fun t4 =>
 M.ite t4
 (M.pure (.ret [V.nils]))
 ((mslit zaB 0 [(V.int .u8 0)] []).bind fun t5 =>
 (mappend zaB 1 1 t5 t0).bind fun t7 =>
 M.pure (.ret [t7]))
def ir_bytes_Clone:Fn':=(T za7).getD noF
theorem tb_bytes_Clone:T za7 = some ir_bytes_Clone:=by kernel_rfl
theorem eq_bytes_Clone (G:Sem') (t0:V):execK G ir_bytes_Clone.rv ir_bytes_Clone.body [] [] (params 0 [t0]) = f_bytes_Clone G t0:=by kernel_rfl
def zfg (G:Sem'):List V → M V
 | [t0]=>fin (f_bytes_Clone G t0)
 | _=>M.fail
theorem zlo {g:Sem'} (hg:Sims g (sem T)) (args:List V):Sim (zfg g args) (sem T za7 args):=by
 unfold zfg;split
 ·exact zaO tb_bytes_Clone (Nat.le_of_ble_eq_true (by kernel_rfl)) hg (eq_bytes_Clone g _)
 ·exact zac
def f_note_Good (G:Sem') (t0:V):M Res :=
 (mbox zae t0).bind fun t1 =>
 (M.lift (Ax.faddr 0 t1)).bind fun t6 =>
 (mload none t6).bind fun t7 =>
 (G zbY [t7]).bind fun t8 =>
 (M.lift (Ax.ext 0 t8)).bind fun t9 =>
 (M.lift (Ax.ext 1 t8)).bind fun t10 =>
 (mbox zcg (V.agg [(V.int .i64 0),(V.int .i64 0),(V.int .i64 0),(V.int .i64 0),(V.int .i64 0),(V.int .i64 0),(V.int .i64 0)])).bind fun t3 =>
 (mstore 7 t3 t9).bind fun _ =>
 (M.lift (Ax.un .not t10)).bind fun t12 =>
 (guarded [(0,t12)] (some (0,false)) (M.lift (Ax.faddr 1 t1))).bind fun t14 =>
 (guarded [(0,t12)] (some (0,false)) (mload none t14)).bind fun t15 =>
 (guarded [(0,t12)] (some (0,false)) (M.lift (Ax.faddr 0 t3))).bind fun t16 =>
 (guarded [(0,t12)] (some (0,false)) (mload none t16)).bind fun t17 =>
 (guarded [(0,t12)] (some (0,false)) (G zaF [t15,t17])).bind fun t18 =>
 (guarded [(0,t12)] (some (0,false)) (M.lift (Ax.un .not t18))).bind fun t19 =>
 (M.lift (Ax.pick t12 (V.bool true) t19)).bind fun t20 =>
 (guarded [(0,t20)] (some (0,false)) (M.lift (Ax.faddr 2 t1))).bind fun t22 =>
 (guarded [(0,t20)] (some (0,false)) (mload none t22)).bind fun t23 =>
 (guarded [(0,t20)] (some (0,false)) (M.lift (Ax.faddr 1 t3))).bind fun t24 =>
 (guarded [(0,t20)] (some (0,false)) (mload none t24)).bind fun t25 =>
 (guarded [(0,t20)] (some (0,false)) (G zaF [t23,t25])).bind fun t26 =>
 (guarded [(0,t20)] (some (0,false)) (M.lift (Ax.un .not t26))).bind fun t27 =>
 (M.lift (Ax.pick t20 (V.bool true) t27)).bind fun t28 =>
 (guarded [(0,t28)] (some (0,false)) (M.lift (Ax.faddr 3 t1))).bind fun t30 =>
 (guarded [(0,t28)] (some (0,false)) (mload none t30)).bind fun t31 =>
 (guarded [(0,t28)] (some (0,false)) (M.lift (Ax.faddr 2 t3))).bind fun t32 =>
 (guarded [(0,t28)] (some (0,false)) (mload none t32)).bind fun t33 =>
 (guarded [(0,t28)] (some (0,false)) (G zaF [t31,t33])).bind fun t34 =>
 (guarded [(0,t28)] (some (0,false)) (M.lift (Ax.un .not t34))).bind fun t35 =>
 (M.lift (Ax.pick t28 (V.bool true) t35)).bind fun t36 =>
 (guarded [(0,t36)] (some (0,false)) (M.lift (Ax.faddr 4 t1))).bind fun t38 =>
 (guarded [(0,t36)] (some (0,false)) (mload none t38)).bind fun t39 =>
 (guarded [(0,t36)] (some (0,false)) (M.lift (Ax.faddr 3 t3))).bind fun t40 =>
 (guarded [(0,t36)] (some (0,false)) (mload none t40)).bind fun t41 =>
 (guarded [(0,t36)] (some (0,false)) (G zaF [t39,t41])).bind fun t42 =>
 (guarded [(0,t36)] (some (0,false)) (M.lift (Ax.un .not t42))).bind fun t43 =>
 (M.lift (Ax.pick t36 (V.bool true) t43)).bind fun t44 =>
 (guarded [(0,t44)] (some (0,false)) (M.lift (Ax.faddr 5 t1))).bind fun t46 =>
 (guarded [(0,t44)] (some (0,false)) (mload none t46)).bind fun t47 =>
 (guarded [(0,t44)] (some (0,false)) (M.lift (Ax.faddr 4 t3))).bind fun t48 =>
 (guarded [(0,t44)] (some (0,false)) (mload none t48)).bind fun t49 =>
 (guarded [(0,t44)] (some (0,false)) (G zaF [t47,t49])).bind fun t50 =>
 (guarded [(0,t44)] (some (0,false)) (M.lift (Ax.un .not t50))).bind fun t51 =>
 (M.lift (Ax.pick t44 (V.bool true) t51)).bind fun t52 =>
 (guarded [(0,t52)] (some (0,false)) (M.lift (Ax.faddr 6 t1))).bind fun t54 =>
 (guarded [(0,t52)] (some (0,false)) (mload none t54)).bind fun t55 =>
 (guarded [(0,t52)] (some (0,false)) (M.lift (vlen t55))).bind fun t56 =>
 (guarded [(0,t52)] (some (0,false)) (M.lift (Ax.faddr 5 t3))).bind fun t57 =>
 (guarded [(0,t52)] (some (0,false)) (mload none t57)).bind fun t58 =>
 (guarded [(0,t52)] (some (0,false)) (M.lift (Ax.bin .lss t56 t58))).bind fun t59 =>
 (M.lift (Ax.pick t52 (V.bool true) t59)).bind fun t60 =>
 (guarded [(0,t60)] (some (0,false)) (M.lift (Ax.faddr 6 t1))).bind fun t62 =>
 (guarded [(0,t60)] (some (0,false)) (mload none t62)).bind fun t63 =>
 (guarded [(0,t60)] (some (0,false)) (M.lift (vlen t63))).bind fun t64 =>
 (guarded [(0,t60)] (some (0,false)) (M.lift (Ax.faddr 6 t3))).bind fun t65 =>
 (guarded [(0,t60)] (some (0,false)) (mload none t65)).bind fun t66 =>
 (guarded [(0,t60)] (some (0,false)) (M.lift (Ax.bin .gtr t64 t66))).bind fun t67 =>
 (M.lift (Ax.pick t60 (V.bool true) t67)).bind fun t68 =>
 M.ite t68
 (M.pure (.ret [(V.bool false)]))
 ((M.lift (Ax.faddr 0 t1)).bind fun t69 =>
 (mload none t69).bind fun t70 =>
 M.blk 0 (
 (M.lift (Ax.bin .eql t70 (V.int .i64 17))).bind fun t72 =>
 M.ite t72
 ((mload (some 7) t1).bind fun t73 =>
 (G zbL [t73]).bind fun t74 =>
 M.pure (.ret [t74]))
 ((M.lift (Ax.bin .eql t70 (V.int .i64 18))).bind fun t76 =>
 M.ite t76
 ((M.lift (Ax.faddr 4 t1)).bind fun t77 =>
 (mload none t77).bind fun t78 =>
 (M.lift (Ax.bin .geq t78 (V.int .i64 1))).bind fun t79 =>
 M.pure (.ret [t79]))
 ((M.lift (Ax.bin .eql t70 (V.int .i64 19))).bind fun t81 =>
 M.ite t81
 ((M.lift (Ax.faddr 4 t1)).bind fun t82 =>
 (mload none t82).bind fun t83 =>
 (M.lift (Ax.faddr 2 t1)).bind fun t84 =>
 (mload none t84).bind fun t85 =>
 (M.lift (Ax.bin .shr t83 t85)).bind fun t86 =>
 (M.lift (Ax.bin .and t86 (V.int .i64 1))).bind fun t87 =>
 (M.lift (Ax.bin .eql t87 (V.int .i64 1))).bind fun t88 =>
 M.pure (.ret [t88]))
 ((M.lift (Ax.bin .eql t70 (V.int .i64 20))).bind fun t90 =>
 M.ite t90
 ((M.lift (Ax.faddr 4 t1)).bind fun t91 =>
 (mload none t91).bind fun t92 =>
 (M.lift (Ax.faddr 2 t1)).bind fun t93 =>
 (mload none t93).bind fun t94 =>
 (M.lift (Ax.bin .shr t92 t94)).bind fun t95 =>
 (M.lift (Ax.bin .and t95 (V.int .i64 1))).bind fun t96 =>
 (M.lift (Ax.bin .eql t96 (V.int .i64 0))).bind fun t97 =>
 M.pure (.ret [t97]))
 (M.pure (.nrm [])))))) fun _ =>
 M.pure (.ret [(V.bool true)]))
def ir_note_Good:Fn':=(T zbb).getD noF
theorem tb_note_Good:T zbb = some ir_note_Good:=by kernel_rfl
theorem eq_note_Good (G:Sem') (t0:V):execK G ir_note_Good.rv ir_note_Good.body [] [] (params 0 [t0]) = f_note_Good G t0:=by kernel_rfl
def zgZ (G:Sem'):List V → M V
 | [t0]=>fin (f_note_Good G t0)
 | _=>M.fail
theorem zny {g:Sem'} (hg:Sims g (sem T)) (args:List V):Sim (zgZ g args) (sem T zbb args):=by
 unfold zgZ;split
 ·exact zaO tb_note_Good (Nat.le_of_ble_eq_true (by kernel_rfl)) hg (eq_note_Good g _)
 ·exact zac
def f_desk_Desk_say (G:Sem') (t0 t1 t2:V):M Res :=
 (mbox zae t2).bind fun t5 =>
 (mload (some 7) t5).bind fun t9 =>
 (G zbs [t9]).bind fun t10 =>
 (M.lift (Ax.ext 0 t10)).bind fun t11 =>
 (M.lift (Ax.ext 1 t10)).bind fun t12 =>
 (M.lift (Ax.bin .eql t12 (V.int .i64 0))).bind fun t14 =>
 M.join (M.ite t14
 ((G zaW [t0,t1,(V.int .i64 2),t11]).bind fun t18 =>
 M.pure (.nrm []))
 (M.pure (.nrm []))) fun _ =>
 M.pure (.ret [])
def ir_desk_Desk_say:Fn':=(T zaM).getD noF
theorem tb_desk_Desk_say:T zaM = some ir_desk_Desk_say:=by kernel_rfl
theorem eq_desk_Desk_say (G:Sem') (t0 t1 t2:V):execK G ir_desk_Desk_say.rv ir_desk_Desk_say.body [] [] (params 0 [t0,t1,t2]) = f_desk_Desk_say G t0 t1 t2:=by kernel_rfl
def zd6 (G:Sem'):List V → M V
 | [t0,t1,t2]=>fin (f_desk_Desk_say G t0 t1 t2)
 | _=>M.fail
theorem zjw {g:Sem'} (hg:Sims g (sem T)) (args:List V):Sim (zd6 g args) (sem T zaM args):=by
 unfold zd6;split
 ·exact zaO tb_desk_Desk_say (Nat.le_of_ble_eq_true (by kernel_rfl)) hg (eq_desk_Desk_say g _ _ _)
 ·exact zac
def zj1 (G:Sem') (t0 t1 t2:V):M Res :=
 (mbox zad t0).bind fun t3 =>
 (mbox zad (V.agg [(V.bool false),(V.bool false),(V.bool false),(V.bool false),(V.bool false),(V.bool false),(V.bool false),(V.bool false),(V.int .i64 0),(V.int .i64 0),(V.int .i64 0),(V.int .i64 0),(V.int .i64 0),(V.int .i64 0),(V.int .i64 0),(V.int .i64 0),(V.int .i64 0),(V.bool false),(V.int .i64 0),(V.int .i64 0),(V.int .i64 0),(V.int .i64 0),(V.int .i64 0),(V.int .i64 0),(V.int .i64 0),(V.int .i64 0),(V.int .i64 0),(V.int .i64 0),(V.int .i64 0),(V.int .i64 0),(V.int .i64 0),(V.int .i64 0),(V.int .i64 0),(V.int .i64 0),(V.int .i64 0),(V.int .i64 0),(V.int .i64 0),(V.int .i64 0),(V.bool false)])).bind fun t6 =>
 M.blk 0 (
 (mload (some 39) t3).bind fun t14 =>
 (G zbl [t14]).bind fun t15 =>
 (M.lift (Ax.un .not t15)).bind fun t16 =>
 M.ite t16
 ((mload (some 39) t3).bind fun t17 =>
 (mstore 39 t6 t17).bind fun _ =>
 (mload (some 39) t6).bind fun r0 =>
 M.pure (.ret [r0,(V.int .i64 0),(V.int .i64 1)]))
 ((M.lift (Ax.faddr 38 t3)).bind fun t19 =>
 (mload none t19).bind fun t20 =>
 M.ite t20
 ((mload (some 39) t3).bind fun t21 =>
 (mstore 39 t6 t21).bind fun _ =>
 (mload (some 39) t6).bind fun r0 =>
 M.pure (.ret [r0,(V.int .i64 0),(V.int .i64 12)]))
 (M.pure (.nrm [])))) fun _ =>
 (M.lift (Ax.faddr 0 t3)).bind fun t23 =>
 (mload (some 16) t23).bind fun t24 =>
 (G zcA [t24,t1]).bind fun t26 =>
 (M.lift (Ax.ext 0 t26)).bind fun t27 =>
 (M.lift (Ax.ext 1 t26)).bind fun t28 =>
 (M.lift (Ax.ext 2 t26)).bind fun t29 =>
 (mbox zah (V.agg [(V.bool false),(V.bool false),(V.bool false),(V.bool false),(V.bool false),(V.bool false),(V.bool false),(V.bool false),(V.int .i64 0),(V.int .i64 0),(V.int .i64 0),(V.int .i64 0),(V.int .i64 0),(V.int .i64 0),(V.int .i64 0),(V.int .i64 0)])).bind fun t9 =>
 (mstore 16 t9 t27).bind fun _ =>
 (M.lift (Ax.bin .neq t29 (V.int .i64 0))).bind fun t31 =>
 M.ite t31
 ((mload (some 39) t3).bind fun t32 =>
 (mstore 39 t6 t32).bind fun _ =>
 (mload (some 39) t6).bind fun r0 =>
 M.pure (.ret [r0,(V.int .i64 0),t29]))
 ((M.lift (Ax.faddr 16 t3)).bind fun t35 =>
 (mload (some 6) t35).bind fun t36 =>
 (G zcE [t36,t28]).bind fun t38 =>
 (M.lift (Ax.ext 0 t38)).bind fun t39 =>
 (M.lift (Ax.ext 1 t38)).bind fun t40 =>
 (mbox zal (V.agg [(V.int .i64 0),(V.bool false),(V.int .i64 0),(V.int .i64 0),(V.int .i64 0),(V.int .i64 0)])).bind fun t12 =>
 (mstore 6 t12 t39).bind fun _ =>
 (M.lift (Ax.bin .neq t40 (V.int .i64 0))).bind fun t42 =>
 M.ite t42
 ((mload (some 39) t3).bind fun t43 =>
 (mstore 39 t6 t43).bind fun _ =>
 (mload (some 39) t6).bind fun r0 =>
 M.pure (.ret [r0,(V.int .i64 0),t40]))
 ((mload (some 16) t9).bind fun t45 =>
 (mload (some 6) t12).bind fun t46 =>
 (M.lift (Ax.faddr 0 t3)).bind fun t47 =>
 M.getH.bind fun h0 =>
 (mstore 16 t47 t45).bind fun _ =>
 M.getH.bind fun h0' =>
 (M.unch t12 h0 h0').bind fun _ =>
 (M.lift (Ax.faddr 16 t3)).bind fun t48 =>
 (mstore 6 t48 t46).bind fun _ =>
 (M.lift (Ax.faddr 0 t12)).bind fun t52 =>
 (mload none t52).bind fun t53 =>
 (M.lift (Ax.faddr 22 t3)).bind fun t54 =>
 (M.lift (Ax.iaddr (some 8) 1 t54 t28)).bind fun t55 =>
 (M.lift (Ax.faddr 30 t3)).bind fun t56 =>
 M.getH.bind fun h1 =>
 (mstore 1 t55 t2).bind fun _ =>
 M.getH.bind fun h1' =>
 (M.unch t52 h1 h1').bind fun _ =>
 (M.lift (Ax.iaddr (some 8) 1 t56 t28)).bind fun t57 =>
 (mstore 1 t57 t53).bind fun _ =>
 (mload (some 39) t3).bind fun t58 =>
 (mstore 39 t6 t58).bind fun _ =>
 (mload (some 39) t6).bind fun r0 =>
 M.pure (.ret [r0,t28,(V.int .i64 0)])))
def zfN:Fn':=(T zc1).getD noF
theorem zl9:T zc1 = some zfN:=by kernel_rfl
theorem zm5 (G:Sem') (t0 t1 t2:V):execK G zfN.rv zfN.body [] [] (params 0 [t0,t1,t2]) = zj1 G t0 t1 t2:=by kernel_rfl
def zgX (G:Sem'):List V → M V
 | [t0,t1,t2]=>fin (zj1 G t0 t1 t2)
 | _=>M.fail
theorem znw {g:Sem'} (hg:Sims g (sem T)) (args:List V):Sim (zgX g args) (sem T zc1 args):=by
 unfold zgX;split
 ·exact zaO zl9 (Nat.le_of_ble_eq_true (by kernel_rfl)) hg (zm5 g _ _ _)
 ·exact zac
def f_desk_coming (G:Sem') (t0:V):M Res :=
 (M.lift (Ax.nilck t0)).bind fun t4 =>
 (M.lift (Ax.faddr 0 t4)).bind fun t5 =>
 (M.lift (Ax.faddr 16 t5)).bind fun t6 =>
 (mload (some 6) t6).bind fun t7 =>
 (G za3 [t7]).bind fun t8 =>
 M.pure (.ret [t8])
def ir_desk_coming:Fn':=(T zbd).getD noF
theorem tb_desk_coming:T zbd = some ir_desk_coming:=by kernel_rfl
theorem eq_desk_coming (G:Sem') (t0:V):execK G ir_desk_coming.rv ir_desk_coming.body [] [] (params 0 [t0]) = f_desk_coming G t0:=by kernel_rfl
def zff (G:Sem'):List V → M V
 | [t0]=>fin (f_desk_coming G t0)
 | _=>M.fail
theorem zln {g:Sem'} (hg:Sims g (sem T)) (args:List V):Sim (zff g args) (sem T zbd args):=by
 unfold zff;split
 ·exact zaO tb_desk_coming (Nat.le_of_ble_eq_true (by kernel_rfl)) hg (eq_desk_coming g _)
 ·exact zac
def f_desk_Desk_all_0 (G:Sem') (t15 t2 t0 t1 t7:V) (L:List V):M Res :=
 (M.lift (Ax.bin .lss (L.getD 0 .undef) (V.int .i64 8))).bind fun t17 =>
 M.ite t17
 (M.blk 1 (
 (M.lift (Ax.index 8 1 none t15 (L.getD 0 .undef))).bind fun t19 =>
 (guarded [(0,t19)] (some (0,true)) (M.pure (L.getD 0 .undef))).bind fun t22 =>
 (guarded [(0,t19)] (some (0,true)) (M.pure t2)).bind fun t23 =>
 (guarded [(0,t19)] (some (0,true)) (M.lift (Ax.bin .neq t22 t23))).bind fun t24 =>
 (M.lift (Ax.pick t19 t24 (V.bool false))).bind fun t25 =>
 M.join (M.ite t25
 ((M.lift (Ax.nilck t1)).bind fun t29 =>
 (M.lift (Ax.faddr 0 t29)).bind fun t30 =>
 (M.lift (Ax.faddr 0 t30)).bind fun t31 =>
 (M.lift (Ax.faddr 8 t31)).bind fun t32 =>
 (M.lift (Ax.iaddr (some 8) 1 t32 (L.getD 0 .undef))).bind fun t33 =>
 (mload none t33).bind fun t34 =>
 (mload (some 7) t7).bind fun t35 =>
 (G zaM [t0,t34,t35]).bind fun t36 =>
 M.pure (.nrm []))
 (M.pure (.nrm []))) fun _ =>
 M.pure (.nrm [])) fun _ =>
 (M.lift (Ax.bin .add (L.getD 0 .undef) (V.int .i64 1))).bind fun t37 =>
 M.pure (.nrm [t37]))
 (M.pure (.ex 0 []))
def f_desk_Desk_all (G:Sem') (t0 t1 t2 t3:V):M Res :=
 (mbox zae t3).bind fun t7 =>
 (M.lift (Ax.nilck t1)).bind fun t11 =>
 (M.lift (Ax.faddr 0 t11)).bind fun t12 =>
 (M.lift (Ax.faddr 0 t12)).bind fun t13 =>
 (M.lift (Ax.faddr 0 t13)).bind fun t14 =>
 (mload (some 8) t14).bind fun t15 =>
 M.blk 0 (
 M.iter (f_desk_Desk_all_0 G t15 t2 t0 t1 t7) [(V.int .i64 0)]) fun _ =>
 M.pure (.ret [])
def ir_desk_Desk_all:Fn':=(T zaR).getD noF
theorem tb_desk_Desk_all:T zaR = some ir_desk_Desk_all:=by kernel_rfl
theorem eq_desk_Desk_all (G:Sem') (t0 t1 t2 t3:V):execK G ir_desk_Desk_all.rv ir_desk_Desk_all.body [] [] (params 0 [t0,t1,t2,t3]) = f_desk_Desk_all G t0 t1 t2 t3:=by kernel_rfl
def zd7 (G:Sem'):List V → M V
 | [t0,t1,t2,t3]=>fin (f_desk_Desk_all G t0 t1 t2 t3)
 | _=>M.fail
theorem zjx {g:Sem'} (hg:Sims g (sem T)) (args:List V):Sim (zd7 g args) (sem T zaR args):=by
 unfold zd7;split
 ·exact zaO tb_desk_Desk_all (Nat.le_of_ble_eq_true (by kernel_rfl)) hg (eq_desk_Desk_all g _ _ _ _)
 ·exact zac
def f_rekey_Late (G:Sem') (t0 t1:V):M Res :=
 (mbox zal t0).bind fun t2 =>
 (mload (some 6) t2).bind fun t5 =>
 (G za1 [t5]).bind fun t6 =>
 (M.lift (Ax.un .not t6)).bind fun t7 =>
 (guarded [(0,t7)] (some (0,false)) (M.lift (Ax.faddr 1 t2))).bind fun t9 =>
 (guarded [(0,t7)] (some (0,false)) (mload none t9)).bind fun t10 =>
 (guarded [(0,t7)] (some (0,false)) (M.lift (Ax.un .not t10))).bind fun t11 =>
 (M.lift (Ax.pick t7 (V.bool true) t11)).bind fun t12 =>
 (guarded [(0,t12)] (some (0,false)) (M.pure t1)).bind fun t14 =>
 (guarded [(0,t12)] (some (0,false)) (M.lift (Ax.faddr 5 t2))).bind fun t15 =>
 (guarded [(0,t12)] (some (0,false)) (mload none t15)).bind fun t16 =>
 (guarded [(0,t12)] (some (0,false)) (M.lift (Ax.bin .lss t14 t16))).bind fun t17 =>
 (M.lift (Ax.pick t12 (V.bool true) t17)).bind fun t18 =>
 (guarded [(0,t18)] (some (0,false)) (M.pure t1)).bind fun t20 =>
 (guarded [(0,t18)] (some (0,false)) (M.lift (Ax.cint .u64 t20))).bind fun t21 =>
 (guarded [(0,t18)] (some (0,false)) (M.lift (Ax.faddr 5 t2))).bind fun t22 =>
 (guarded [(0,t18)] (some (0,false)) (mload none t22)).bind fun t23 =>
 (guarded [(0,t18)] (some (0,false)) (M.lift (Ax.cint .u64 t23))).bind fun t24 =>
 (guarded [(0,t18)] (some (0,false)) (M.lift (Ax.bin .sub t21 t24))).bind fun t25 =>
 (guarded [(0,t18)] (some (0,false)) (M.lift (Ax.bin .lss t25 (V.int .u64 200)))).bind fun t26 =>
 (M.lift (Ax.pick t18 (V.bool true) t26)).bind fun t27 =>
 M.ite t27
 (M.pure (.ret [(V.int .i64 0)]))
 ((M.lift (Ax.faddr 3 t2)).bind fun t28 =>
 (mload none t28).bind fun t29 =>
 (M.lift (Ax.faddr 4 t2)).bind fun t30 =>
 (mload none t30).bind fun t31 =>
 (M.lift (Ax.bin .andNot t29 t31)).bind fun t32 =>
 M.pure (.ret [t32]))
def ir_rekey_Late:Fn':=(T zbq).getD noF
theorem tb_rekey_Late:T zbq = some ir_rekey_Late:=by kernel_rfl
theorem eq_rekey_Late (G:Sem') (t0 t1:V):execK G ir_rekey_Late.rv ir_rekey_Late.body [] [] (params 0 [t0,t1]) = f_rekey_Late G t0 t1:=by kernel_rfl
def zf6 (G:Sem'):List V → M V
 | [t0,t1]=>fin (f_rekey_Late G t0 t1)
 | _=>M.fail
theorem zmm {g:Sem'} (hg:Sims g (sem T)) (args:List V):Sim (zf6 g args) (sem T zbq args):=by
 unfold zf6;split
 ·exact zaO tb_rekey_Late (Nat.le_of_ble_eq_true (by kernel_rfl)) hg (eq_rekey_Late g _ _)
 ·exact zac
def f_post_Post_desk_Out_Add (G:Sem') (t0 t1:V):M Res :=
 (mbox zaZ t1).bind fun t3 =>
 (M.lift (Ax.nilck t0)).bind fun t6 =>
 (M.lift (Ax.faddr 1 t6)).bind fun t7 =>
 (mload none t7).bind fun t8 =>
 (M.lift (vlen t8)).bind fun t9 =>
 (M.lift (Ax.nilck t0)).bind fun t11 =>
 (M.lift (Ax.faddr 0 t11)).bind fun t12 =>
 (mload none t12).bind fun t13 =>
 (M.lift (Ax.bin .geq t9 t13)).bind fun t14 =>
 M.ite t14
 (M.pure (.ret [(V.bool false)]))
 ((M.lift (Ax.nilck t0)).bind fun t17 =>
 (M.lift (Ax.faddr 1 t17)).bind fun t18 =>
 (mload none t18).bind fun t19 =>
 (mload (some 3) t3).bind fun t20 =>
 (mslit zaZ 1 [(V.int .i64 0),(V.int .i64 0),V.nils] [(0,3,t20)]).bind fun t21 =>
 (mappend zaZ 3 40 t19 t21).bind fun t22 =>
 (M.lift (Ax.nilck t0)).bind fun t23 =>
 (M.lift (Ax.faddr 1 t23)).bind fun t24 =>
 (mstore 1 t24 t22).bind fun _ =>
 M.pure (.ret [(V.bool true)]))
def ir_post_Post_desk_Out_Add:Fn':=(T zax).getD noF
theorem tb_post_Post_desk_Out_Add:T zax = some ir_post_Post_desk_Out_Add:=by kernel_rfl
theorem eq_post_Post_desk_Out_Add (G:Sem') (t0 t1:V):execK G ir_post_Post_desk_Out_Add.rv ir_post_Post_desk_Out_Add.body [] [] (params 0 [t0,t1]) = f_post_Post_desk_Out_Add G t0 t1:=by kernel_rfl
def zb3 (G:Sem'):List V → M V
 | [t0,t1]=>fin (f_post_Post_desk_Out_Add G t0 t1)
 | _=>M.fail
theorem zeG {g:Sem'} (hg:Sims g (sem T)) (args:List V):Sim (zb3 g args) (sem T zax args):=by
 unfold zb3;split
 ·exact zaO tb_post_Post_desk_Out_Add (Nat.le_of_ble_eq_true (by kernel_rfl)) hg (eq_post_Post_desk_Out_Add g _ _)
 ·exact zac
def f_note_of (G:Sem') (t0:V):M Res :=
 (mbox zcg (V.agg [(V.int .i64 0),(V.int .i64 0),(V.int .i64 0),(V.int .i64 0),(V.int .i64 0),(V.int .i64 0),(V.int .i64 0)])).bind fun t2 =>
 M.blk 0 (
 (M.lift (Ax.bin .eql t0 (V.int .i64 1))).bind fun t6 =>
 M.ite t6
 ((M.lift (Ax.build [(V.int .i64 0),(V.int .i64 0),(V.int .i64 0),(V.int .i64 0),(V.int .i64 0),(V.int .i64 0),(V.int .i64 0)] [(0,1,(V.int .i64 3))])).bind fun t7 =>
 (mstore 7 t2 t7).bind fun _ =>
 (mload (some 7) t2).bind fun r0 =>
 M.pure (.ret [r0,(V.bool true)]))
 ((M.lift (Ax.bin .eql t0 (V.int .i64 2))).bind fun t9 =>
 M.join (M.ite t9
 (M.pure (.nrm [t9]))
 ((M.lift (Ax.bin .eql t0 (V.int .i64 9))).bind fun t10 =>
 M.join (M.ite t10
 (M.pure (.nrm [t10]))
 ((M.lift (Ax.bin .eql t0 (V.int .i64 23))).bind fun t11 =>
 M.pure (.nrm [t11]))) fun L0 =>
 M.pure (.nrm [(L0.getD 0 .undef)]))) fun L1 =>
 M.ite (L1.getD 0 .undef)
 ((M.lift (Ax.build [(V.int .i64 0),(V.int .i64 0),(V.int .i64 0),(V.int .i64 0),(V.int .i64 0),(V.int .i64 0),(V.int .i64 0)] [])).bind fun t12 =>
 (mstore 7 t2 t12).bind fun _ =>
 (mload (some 7) t2).bind fun r0 =>
 M.pure (.ret [r0,(V.bool true)]))
 ((M.lift (Ax.bin .eql t0 (V.int .i64 3))).bind fun t14 =>
 M.join (M.ite t14
 (M.pure (.nrm [t14]))
 ((M.lift (Ax.bin .eql t0 (V.int .i64 6))).bind fun t15 =>
 M.pure (.nrm [t15]))) fun L2 =>
 M.ite (L2.getD 0 .undef)
 ((M.lift (Ax.build [(V.int .i64 0),(V.int .i64 0),(V.int .i64 0),(V.int .i64 0),(V.int .i64 0),(V.int .i64 0),(V.int .i64 0)] [(1,1,(V.int .i64 7))])).bind fun t16 =>
 (mstore 7 t2 t16).bind fun _ =>
 (mload (some 7) t2).bind fun r0 =>
 M.pure (.ret [r0,(V.bool true)]))
 ((M.lift (Ax.bin .eql t0 (V.int .i64 4))).bind fun t18 =>
 M.ite t18
 ((M.lift (Ax.build [(V.int .i64 0),(V.int .i64 0),(V.int .i64 0),(V.int .i64 0),(V.int .i64 0),(V.int .i64 0),(V.int .i64 0)] [(3,1,(V.int .i64 2)),(4,1,(V.int .i64 65535)),(5,1,(V.int .i64 4)),(6,1,(V.int .i64 4))])).bind fun t19 =>
 (mstore 7 t2 t19).bind fun _ =>
 (mload (some 7) t2).bind fun r0 =>
 M.pure (.ret [r0,(V.bool true)]))
 ((M.lift (Ax.bin .eql t0 (V.int .i64 5))).bind fun t21 =>
 M.ite t21
 ((M.lift (Ax.build [(V.int .i64 0),(V.int .i64 0),(V.int .i64 0),(V.int .i64 0),(V.int .i64 0),(V.int .i64 0),(V.int .i64 0)] [(1,1,(V.int .i64 7)),(3,1,(V.int .i64 3)),(4,1,(V.int .i64 7))])).bind fun t22 =>
 (mstore 7 t2 t22).bind fun _ =>
 (mload (some 7) t2).bind fun r0 =>
 M.pure (.ret [r0,(V.bool true)]))
 ((M.lift (Ax.bin .eql t0 (V.int .i64 7))).bind fun t24 =>
 M.join (M.ite t24
 (M.pure (.nrm [t24]))
 ((M.lift (Ax.bin .eql t0 (V.int .i64 21))).bind fun t25 =>
 M.pure (.nrm [t25]))) fun L3 =>
 M.ite (L3.getD 0 .undef)
 ((M.lift (Ax.build [(V.int .i64 0),(V.int .i64 0),(V.int .i64 0),(V.int .i64 0),(V.int .i64 0),(V.int .i64 0),(V.int .i64 0)] [(1,1,(V.int .i64 7)),(2,1,(V.int .i64 65535)),(3,1,(V.int .i64 31)),(5,1,(V.int .i64 1)),(6,1,(V.int .i64 200))])).bind fun t26 =>
 (mstore 7 t2 t26).bind fun _ =>
 (mload (some 7) t2).bind fun r0 =>
 M.pure (.ret [r0,(V.bool true)]))
 ((M.lift (Ax.bin .eql t0 (V.int .i64 8))).bind fun t28 =>
 M.join (M.ite t28
 (M.pure (.nrm [t28]))
 ((M.lift (Ax.bin .eql t0 (V.int .i64 22))).bind fun t29 =>
 M.pure (.nrm [t29]))) fun L4 =>
 M.ite (L4.getD 0 .undef)
 ((M.lift (Ax.build [(V.int .i64 0),(V.int .i64 0),(V.int .i64 0),(V.int .i64 0),(V.int .i64 0),(V.int .i64 0),(V.int .i64 0)] [(2,1,(V.int .i64 65535))])).bind fun t30 =>
 (mstore 7 t2 t30).bind fun _ =>
 (mload (some 7) t2).bind fun r0 =>
 M.pure (.ret [r0,(V.bool true)]))
 ((M.lift (Ax.bin .eql t0 (V.int .i64 17))).bind fun t32 =>
 M.ite t32
 ((M.lift (Ax.build [(V.int .i64 0),(V.int .i64 0),(V.int .i64 0),(V.int .i64 0),(V.int .i64 0),(V.int .i64 0),(V.int .i64 0)] [(0,1,(V.int .i64 3)),(1,1,(V.int .i64 7)),(2,1,(V.int .i64 65535)),(3,1,(V.int .i64 255)),(4,1,(V.int .i64 65535)),(5,1,(V.int .i64 8)),(6,1,(V.int .i64 8))])).bind fun t33 =>
 (mstore 7 t2 t33).bind fun _ =>
 (mload (some 7) t2).bind fun r0 =>
 M.pure (.ret [r0,(V.bool true)]))
 ((M.lift (Ax.bin .eql t0 (V.int .i64 18))).bind fun t35 =>
 M.ite t35
 ((M.lift (Ax.build [(V.int .i64 0),(V.int .i64 0),(V.int .i64 0),(V.int .i64 0),(V.int .i64 0),(V.int .i64 0),(V.int .i64 0)] [(3,1,(V.int .i64 13)),(4,1,(V.int .i64 9))])).bind fun t36 =>
 (mstore 7 t2 t36).bind fun _ =>
 (mload (some 7) t2).bind fun r0 =>
 M.pure (.ret [r0,(V.bool true)]))
 ((M.lift (Ax.bin .eql t0 (V.int .i64 19))).bind fun t38 =>
 M.ite t38
 ((M.lift (Ax.build [(V.int .i64 0),(V.int .i64 0),(V.int .i64 0),(V.int .i64 0),(V.int .i64 0),(V.int .i64 0),(V.int .i64 0)] [(1,1,(V.int .i64 7)),(2,1,(V.int .i64 65535)),(3,1,(V.int .i64 255)),(4,1,(V.int .i64 63))])).bind fun t39 =>
 (mstore 7 t2 t39).bind fun _ =>
 (mload (some 7) t2).bind fun r0 =>
 M.pure (.ret [r0,(V.bool true)]))
 ((M.lift (Ax.bin .eql t0 (V.int .i64 20))).bind fun t41 =>
 M.ite t41
 ((M.lift (Ax.build [(V.int .i64 0),(V.int .i64 0),(V.int .i64 0),(V.int .i64 0),(V.int .i64 0),(V.int .i64 0),(V.int .i64 0)] [(1,1,(V.int .i64 7)),(2,1,(V.int .i64 65535)),(3,1,(V.int .i64 255))])).bind fun t42 =>
 (mstore 7 t2 t42).bind fun _ =>
 (mload (some 7) t2).bind fun r0 =>
 M.pure (.ret [r0,(V.bool true)]))
 ((M.lift (Ax.bin .eql t0 (V.int .i64 24))).bind fun t44 =>
 M.ite t44
 ((M.lift (Ax.build [(V.int .i64 0),(V.int .i64 0),(V.int .i64 0),(V.int .i64 0),(V.int .i64 0),(V.int .i64 0),(V.int .i64 0)] [(1,1,(V.int .i64 7)),(5,1,(V.int .i64 4)),(6,1,(V.int .i64 4))])).bind fun t45 =>
 (mstore 7 t2 t45).bind fun _ =>
 (mload (some 7) t2).bind fun r0 =>
 M.pure (.ret [r0,(V.bool true)]))
 (M.pure (.nrm [])))))))))))))) fun _ =>
 (M.lift (Ax.build [(V.int .i64 0),(V.int .i64 0),(V.int .i64 0),(V.int .i64 0),(V.int .i64 0),(V.int .i64 0),(V.int .i64 0)] [])).bind fun t46 =>
 (mstore 7 t2 t46).bind fun _ =>
 (mload (some 7) t2).bind fun r0 =>
 M.pure (.ret [r0,(V.bool false)])
def ir_note_of:Fn':=(T zbY).getD noF
theorem tb_note_of:T zbY = some ir_note_of:=by kernel_rfl
theorem eq_note_of (G:Sem') (t0:V):execK G ir_note_of.rv ir_note_of.body [] [] (params 0 [t0]) = f_note_of G t0:=by kernel_rfl
def zj7 (G:Sem'):List V → M V
 | [t0]=>fin (f_note_of G t0)
 | _=>M.fail
theorem zqA {g:Sem'} (hg:Sims g (sem T)) (args:List V):Sim (zj7 g args) (sem T zbY args):=by
 unfold zj7;split
 ·exact zaO tb_note_of (Nat.le_of_ble_eq_true (by kernel_rfl)) hg (eq_note_of g _)
 ·exact zac
def f_note_within (G:Sem') (t0 t1:V):M Res :=
 (M.lift (Ax.bin .geq t0 (V.int .i64 0))).bind fun t6 =>
 (guarded [(0,t6)] (some (0,true)) (M.pure t0)).bind fun t8 =>
 (guarded [(0,t6)] (some (0,true)) (M.pure t1)).bind fun t9 =>
 (guarded [(0,t6)] (some (0,true)) (M.lift (Ax.bin .leq t8 t9))).bind fun t10 =>
 (M.lift (Ax.pick t6 t10 (V.bool false))).bind fun t11 =>
 M.pure (.ret [t11])
def ir_note_within:Fn':=(T zaF).getD noF
theorem tb_note_within:T zaF = some ir_note_within:=by kernel_rfl
theorem eq_note_within (G:Sem') (t0 t1:V):execK G ir_note_within.rv ir_note_within.body [] [] (params 0 [t0,t1]) = f_note_within G t0 t1:=by kernel_rfl
def zfe (G:Sem'):List V → M V
 | [t0,t1]=>fin (f_note_within G t0 t1)
 | _=>M.fail
theorem zlm {g:Sem'} (hg:Sims g (sem T)) (args:List V):Sim (zfe g args) (sem T zaF args):=by
 unfold zfe;split
 ·exact zaO tb_note_within (Nat.le_of_ble_eq_true (by kernel_rfl)) hg (eq_note_within g _ _)
 ·exact zac
def zjd (G:Sem') (t8 t7 t1:V) (L:List V):M Res :=
 (M.lift (Ax.bin .lss (L.getD 0 .undef) t8)).bind fun t10 =>
 M.ite t10
 (M.blk 1 (
 (M.lift (Ax.iaddr none 1 t7 (L.getD 0 .undef))).bind fun t12 =>
 (mload none t12).bind fun t13 =>
 (M.lift (Ax.faddr 4 t1)).bind fun t14 =>
 (mload none t14).bind fun t15 =>
 (M.lift (Ax.bin .shr t15 (L.getD 0 .undef))).bind fun t17 =>
 (M.lift (Ax.bin .and t17 (V.int .i64 1))).bind fun t18 =>
 (M.lift (Ax.bin .eql t18 (V.int .i64 1))).bind fun t19 =>
 (guarded [(0,t19)] (some (0,true)) (M.pure t13)).bind fun t22 =>
 (guarded [(0,t19)] (some (0,true)) (M.lift (Ax.bin .gtr t22 (V.int .u8 63)))).bind fun t23 =>
 (M.lift (Ax.pick t19 t23 (V.bool false))).bind fun t24 =>
 (guarded [(0,t24)] (some (0,false)) (M.pure t19)).bind fun t26 =>
 (guarded [(0,t24)] (some (0,false)) (M.lift (Ax.un .not t26))).bind fun t27 =>
 (guarded [(0,t24)] (some (0,false)) (M.pure t27)).bind fun t28 =>
 (guarded [(0,t28)] (some (0,true)) (M.pure t13)).bind fun t29 =>
 (guarded [(0,t28)] (some (0,true)) (M.lift (Ax.bin .neq t29 (V.int .u8 255)))).bind fun t30 =>
 (guarded [(0,t24)] (some (0,false)) (M.lift (Ax.pick t28 t30 (V.bool false)))).bind fun t31 =>
 (M.lift (Ax.pick t24 (V.bool true) t31)).bind fun t32 =>
 M.ite t32
 (M.pure (.ret [(V.bool false)]))
 (M.pure (.nrm []))) fun _ =>
 (M.lift (Ax.bin .add (L.getD 0 .undef) (V.int .i64 1))).bind fun t33 =>
 M.pure (.nrm [t33]))
 (M.pure (.ex 0 []))
def zgA (G:Sem') (t0:V):M Res :=
 (mbox zae t0).bind fun t1 =>
 (M.lift (Ax.faddr 6 t1)).bind fun t6 =>
 (mload none t6).bind fun t7 =>
 (M.lift (vlen t7)).bind fun t8 =>
 M.blk 0 (
 M.iter (zjd G t8 t7 t1) [(V.int .i64 0)]) fun _ =>
 (M.lift (Ax.faddr 5 t1)).bind fun t34 =>
 (mload none t34).bind fun t35 =>
 (M.lift (Ax.faddr 3 t1)).bind fun t36 =>
 (mload none t36).bind fun t37 =>
 (M.lift (Ax.bin .geq t35 t37)).bind fun t38 =>
 (guarded [(0,t38)] (some (0,true)) (M.lift (Ax.faddr 4 t1))).bind fun t40 =>
 (guarded [(0,t38)] (some (0,true)) (mload none t40)).bind fun t41 =>
 (guarded [(0,t38)] (some (0,true)) (M.lift (Ax.faddr 2 t1))).bind fun t42 =>
 (guarded [(0,t38)] (some (0,true)) (mload none t42)).bind fun t43 =>
 (guarded [(0,t38)] (some (0,true)) (M.lift (Ax.bin .shr t41 t43))).bind fun t44 =>
 (guarded [(0,t38)] (some (0,true)) (M.lift (Ax.bin .and t44 (V.int .i64 1)))).bind fun t45 =>
 (guarded [(0,t38)] (some (0,true)) (M.lift (Ax.bin .eql t45 (V.int .i64 1)))).bind fun t46 =>
 (M.lift (Ax.pick t38 t46 (V.bool false))).bind fun t47 =>
 M.pure (.ret [t47])
def zd0:Fn':=(T zbL).getD noF
theorem zjr:T zbL = some zd0:=by kernel_rfl
theorem zj2 (G:Sem') (t0:V):execK G zd0.rv zd0.body [] [] (params 0 [t0]) = zgA G t0:=by kernel_rfl
def zez (G:Sem'):List V → M V
 | [t0]=>fin (zgA G t0)
 | _=>M.fail
theorem zkn {g:Sem'} (hg:Sims g (sem T)) (args:List V):Sim (zez g args) (sem T zbL args):=by
 unfold zez;split
 ·exact zaO zjr (Nat.le_of_ble_eq_true (by kernel_rfl)) hg (zj2 g _)
 ·exact zac
def f_note_Bytes_0 (G:Sem') (t30 t29 t2 t3:V) (L:List V):M Res :=
 (M.lift (Ax.bin .lss (L.getD 1 .undef) t30)).bind fun t32 =>
 M.ite t32
 (M.blk 1 (
 (M.lift (Ax.iaddr none 1 t29 (L.getD 1 .undef))).bind fun t33 =>
 (mload none t33).bind fun t34 =>
 (M.lift (Ax.bin .shr t34 (V.int .u64 8))).bind fun t37 =>
 (M.lift (Ax.cint .u8 t37)).bind fun t38 =>
 (M.lift (Ax.cint .u8 t34)).bind fun t40 =>
 (mslit zaB 2 [(V.int .u8 0)] [(0,1,t38),(1,1,t40)]).bind fun t41 =>
 (mappend zaB 1 1 (L.getD 0 .undef) t41).bind fun t42 =>
 M.pure (.nrm [t42])) fun L0 =>
 (M.lift (Ax.bin .add (L.getD 1 .undef) (V.int .i64 1))).bind fun t43 =>
 M.pure (.nrm [(L0.getD 0 .undef),t43]))
 (M.pure (.ex 0 [(L.getD 0 .undef)]))
def f_note_Bytes (G:Sem') (t0:V):M Res :=
 (mbox zae t0).bind fun t1 =>
 (mload (some 7) t1).bind fun t7 =>
 (G zbb [t7]).bind fun t8 =>
 (M.lift (Ax.un .not t8)).bind fun t9 =>
 M.ite t9
 (M.pure (.ret [V.nils,(V.int .i64 1)]))
 ((M.lift (Ax.faddr 0 t1)).bind fun t10 =>
 (mload none t10).bind fun t11 =>
 (M.lift (Ax.cint .u8 t11)).bind fun t12 =>
 (M.lift (Ax.faddr 1 t1)).bind fun t13 =>
 (mload none t13).bind fun t14 =>
 (M.lift (Ax.cint .u8 t14)).bind fun t15 =>
 (M.lift (Ax.faddr 2 t1)).bind fun t16 =>
 (mload none t16).bind fun t17 =>
 (M.lift (Ax.cint .u8 t17)).bind fun t18 =>
 (mslit zaB 3 [(V.int .u8 0)] [(0,1,t12),(1,1,t15),(2,1,t18)]).bind fun t19 =>
 (M.lift (Ax.faddr 3 t1)).bind fun t20 =>
 (mload none t20).bind fun t21 =>
 (M.lift (Ax.faddr 4 t1)).bind fun t22 =>
 (mload none t22).bind fun t23 =>
 (M.lift (Ax.faddr 5 t1)).bind fun t24 =>
 (mload none t24).bind fun t25 =>
 (M.lift (Ax.faddr 6 t1)).bind fun t26 =>
 (mload none t26).bind fun t27 =>
 (M.lift (vlen t27)).bind fun t28 =>
 (mslit zcp 4 [(V.int .i64 0)] [(0,1,t21),(1,1,t23),(2,1,t25),(3,1,t28)]).bind fun t29 =>
 (M.lift (vlen t29)).bind fun t30 =>
 M.blk 0 (
 M.iter (f_note_Bytes_0 G t30 t29 V.nils (V.int .i64 0)) [t19,(V.int .i64 0)]) fun L1 =>
 (M.lift (Ax.faddr 6 t1)).bind fun t45 =>
 (mload none t45).bind fun t46 =>
 (mappend zaB 1 1 (L1.getD 0 .undef) t46).bind fun t47 =>
 M.pure (.ret [t47,(V.int .i64 0)]))
def ir_note_Bytes:Fn':=(T zbs).getD noF
theorem tb_note_Bytes:T zbs = some ir_note_Bytes:=by kernel_rfl
theorem eq_note_Bytes (G:Sem') (t0:V):execK G ir_note_Bytes.rv ir_note_Bytes.body [] [] (params 0 [t0]) = f_note_Bytes G t0:=by kernel_rfl
def zga (G:Sem'):List V → M V
 | [t0]=>fin (f_note_Bytes G t0)
 | _=>M.fail
theorem zmq {g:Sem'} (hg:Sims g (sem T)) (args:List V):Sim (zga g args) (sem T zbs args):=by
 unfold zga;split
 ·exact zaO tb_note_Bytes (Nat.le_of_ble_eq_true (by kernel_rfl)) hg (eq_note_Bytes g _)
 ·exact zac
def ziK (G:Sem') (t0 t1:V):M Res :=
 (mbox zah t0).bind fun t2 =>
 (mbox zah (V.agg [(V.bool false),(V.bool false),(V.bool false),(V.bool false),(V.bool false),(V.bool false),(V.bool false),(V.bool false),(V.int .i64 0),(V.int .i64 0),(V.int .i64 0),(V.int .i64 0),(V.int .i64 0),(V.int .i64 0),(V.int .i64 0),(V.int .i64 0)])).bind fun t4 =>
 (mload (some 16) t2).bind fun t10 =>
 (G zaT [t10]).bind fun t11 =>
 (M.lift (Ax.un .not t11)).bind fun t12 =>
 (guarded [(0,t12)] (some (0,false)) (M.pure t1)).bind fun t14 =>
 (guarded [(0,t12)] (some (0,false)) (G zbe [t14])).bind fun t15 =>
 (guarded [(0,t12)] (some (0,false)) (M.lift (Ax.un .not t15))).bind fun t16 =>
 (M.lift (Ax.pick t12 (V.bool true) t16)).bind fun t17 =>
 M.ite t17
 ((mload (some 16) t2).bind fun t18 =>
 (mstore 16 t4 t18).bind fun _ =>
 (mload (some 16) t4).bind fun r0 =>
 M.pure (.ret [r0,(V.int .i64 0),(V.int .i64 1)]))
 ((mload (some 16) t2).bind fun t20 =>
 (G za8 [t20,t1]).bind fun t22 =>
 (M.lift (Ax.ext 0 t22)).bind fun t23 =>
 (M.lift (Ax.ext 1 t22)).bind fun t24 =>
 M.ite t24
 ((mload (some 16) t2).bind fun t26 =>
 (mstore 16 t4 t26).bind fun _ =>
 (mload (some 16) t4).bind fun r0 =>
 M.pure (.ret [r0,(V.int .i64 0),(V.int .i64 7)]))
 ((M.lift (Ax.faddr 0 t2)).bind fun t27 =>
 (M.lift (zbI (.arr 8) 1 t27 none none none)).bind fun t28 =>
 (G za5 [t28,(V.bool false)]).bind fun t29 =>
 (M.lift (Ax.bin .lss t29 (V.int .i64 0))).bind fun t31 =>
 M.ite t31
 ((mload (some 16) t2).bind fun t32 =>
 (mstore 16 t4 t32).bind fun _ =>
 (mload (some 16) t4).bind fun r0 =>
 M.pure (.ret [r0,(V.int .i64 0),(V.int .i64 5)]))
 ((M.lift (Ax.faddr 0 t2)).bind fun t36 =>
 (M.lift (Ax.iaddr (some 8) 1 t36 t29)).bind fun t37 =>
 (mstore 1 t37 (V.bool true)).bind fun _ =>
 (M.lift (Ax.faddr 8 t2)).bind fun t38 =>
 (M.lift (Ax.iaddr (some 8) 1 t38 t29)).bind fun t39 =>
 (mstore 1 t39 t1).bind fun _ =>
 (mload (some 16) t2).bind fun t40 =>
 (mstore 16 t4 t40).bind fun _ =>
 (mload (some 16) t4).bind fun r0 =>
 M.pure (.ret [r0,t29,(V.int .i64 0)]))))
def ze3:Fn':=(T zcA).getD noF
theorem zlh:T zcA = some ze3:=by kernel_rfl
theorem zlX (G:Sem') (t0 t1:V):execK G ze3.rv ze3.body [] [] (params 0 [t0,t1]) = ziK G t0 t1:=by kernel_rfl
def zf1 (G:Sem'):List V → M V
 | [t0,t1]=>fin (ziK G t0 t1)
 | _=>M.fail
theorem zmh {g:Sem'} (hg:Sims g (sem T)) (args:List V):Sim (zf1 g args) (sem T zcA args):=by
 unfold zf1;split
 ·exact zaO zlh (Nat.le_of_ble_eq_true (by kernel_rfl)) hg (zlX g _ _)
 ·exact zac
end Go.Ax.Cc
/- CiS4 -/
namespace Go.Ax.Cc
open Go.Proofs
def ziO (G:Sem') (t0 t1:V):M Res :=
 (mbox zal t0).bind fun t2 =>
 (mbox zal (V.agg [(V.int .i64 0),(V.bool false),(V.int .i64 0),(V.int .i64 0),(V.int .i64 0),(V.int .i64 0)])).bind fun t4 =>
 M.blk 0 (
 (mload (some 6) t2).bind fun t7 =>
 (G za1 [t7]).bind fun t8 =>
 (M.lift (Ax.un .not t8)).bind fun t9 =>
 (guarded [(0,t9)] (some (0,false)) (M.pure t1)).bind fun t11 =>
 (guarded [(0,t9)] (some (0,false)) (G zcD [t11])).bind fun t12 =>
 (guarded [(0,t9)] (some (0,false)) (M.lift (Ax.un .not t12))).bind fun t13 =>
 (M.lift (Ax.pick t9 (V.bool true) t13)).bind fun t14 =>
 M.ite t14
 ((mload (some 6) t2).bind fun t15 =>
 (mstore 6 t4 t15).bind fun _ =>
 (mload (some 6) t4).bind fun r0 =>
 M.pure (.ret [r0,(V.int .i64 1)]))
 ((M.lift (Ax.faddr 1 t2)).bind fun t17 =>
 (mload none t17).bind fun t18 =>
 (M.lift (Ax.un .not t18)).bind fun t19 =>
 M.ite t19
 ((mload (some 6) t2).bind fun t20 =>
 (mstore 6 t4 t20).bind fun _ =>
 (mload (some 6) t4).bind fun r0 =>
 M.pure (.ret [r0,(V.int .i64 0)]))
 ((M.lift (Ax.faddr 3 t2)).bind fun t22 =>
 (mload none t22).bind fun t23 =>
 (M.lift (Ax.bin .shr t23 t1)).bind fun t25 =>
 (M.lift (Ax.bin .and t25 (V.int .i64 1))).bind fun t26 =>
 (M.lift (Ax.bin .eql t26 (V.int .i64 1))).bind fun t27 =>
 M.ite t27
 ((mload (some 6) t2).bind fun t28 =>
 (mstore 6 t4 t28).bind fun _ =>
 (mload (some 6) t4).bind fun r0 =>
 M.pure (.ret [r0,(V.int .i64 7)]))
 (M.pure (.nrm []))))) fun _ =>
 (M.lift (Ax.faddr 3 t2)).bind fun t29 =>
 (mload none t29).bind fun t30 =>
 (M.lift (Ax.bin .shl (V.int .i64 1) t1)).bind fun t32 =>
 (M.lift (Ax.bin .or t30 t32)).bind fun t33 =>
 (M.lift (Ax.faddr 3 t2)).bind fun t34 =>
 (mstore 1 t34 t33).bind fun _ =>
 (mload (some 6) t2).bind fun t35 =>
 (mstore 6 t4 t35).bind fun _ =>
 (mload (some 6) t4).bind fun r0 =>
 M.pure (.ret [r0,(V.int .i64 0)])
def ze5:Fn':=(T zcE).getD noF
theorem zlj:T zcE = some ze5:=by kernel_rfl
theorem zlZ (G:Sem') (t0 t1:V):execK G ze5.rv ze5.body [] [] (params 0 [t0,t1]) = ziO G t0 t1:=by kernel_rfl
def zf7 (G:Sem'):List V → M V
 | [t0,t1]=>fin (ziO G t0 t1)
 | _=>M.fail
theorem zmn {g:Sem'} (hg:Sims g (sem T)) (args:List V):Sim (zf7 g args) (sem T zcE args):=by
 unfold zf7;split
 ·exact zaO zlj (Nat.le_of_ble_eq_true (by kernel_rfl)) hg (zlZ g _ _)
 ·exact zac
def f_rekey_Coming (G:Sem') (t0:V):M Res :=
 (mbox zal t0).bind fun t1 =>
 (M.lift (Ax.faddr 1 t1)).bind fun t3 =>
 (mload none t3).bind fun t4 =>
 M.ite t4
 ((M.lift (Ax.faddr 2 t1)).bind fun t5 =>
 (mload none t5).bind fun t6 =>
 M.pure (.ret [t6]))
 ((M.lift (Ax.faddr 0 t1)).bind fun t7 =>
 (mload none t7).bind fun t8 =>
 M.pure (.ret [t8]))
def ir_rekey_Coming:Fn':=(T za3).getD noF
theorem tb_rekey_Coming:T za3 = some ir_rekey_Coming:=by kernel_rfl
theorem eq_rekey_Coming (G:Sem') (t0:V):execK G ir_rekey_Coming.rv ir_rekey_Coming.body [] [] (params 0 [t0]) = f_rekey_Coming G t0:=by kernel_rfl
def zey (G:Sem'):List V → M V
 | [t0]=>fin (f_rekey_Coming G t0)
 | _=>M.fail
theorem zkm {g:Sem'} (hg:Sims g (sem T)) (args:List V):Sim (zey g args) (sem T za3 args):=by
 unfold zey;split
 ·exact zaO tb_rekey_Coming (Nat.le_of_ble_eq_true (by kernel_rfl)) hg (eq_rekey_Coming g _)
 ·exact zac
def zee (G:Sem') (t7 t1 t0:V) (L:List V):M Res :=
 (M.lift (Ax.bin .lss (L.getD 0 .undef) t7)).bind fun t9 =>
 M.ite t9
 (M.blk 1 (
 (M.lift (Ax.iaddr none 1 t0 (L.getD 0 .undef))).bind fun t14 =>
 (mload none t14).bind fun t15 =>
 (M.lift (eqr .bool false t1 t15)).bind fun t16 =>
 M.ite t16
 (M.pure (.ret [(L.getD 0 .undef)]))
 (M.pure (.nrm []))) fun _ =>
 (M.lift (Ax.bin .add (L.getD 0 .undef) (V.int .i64 1))).bind fun t18 =>
 M.pure (.nrm [t18]))
 (M.pure (.ex 0 []))
def zc3 (G:Sem') (t0 t1:V):M Res :=
 (M.lift (vlen t0)).bind fun t7 =>
 M.blk 0 (
 M.iter (zee G t7 t1 t0) [(V.int .i64 0)]) fun _ =>
 M.pure (.ret [(V.int .i64 (-1))])
def zbT:Fn':=(T za5).getD noF
theorem zel:T za5 = some zbT:=by kernel_rfl
theorem zew (G:Sem') (t0 t1:V):execK G zbT.rv zbT.body [] [] (params 0 [t0,t1]) = zc3 G t0 t1:=by kernel_rfl
def zb1 (G:Sem'):List V → M V
 | [t0,t1]=>fin (zc3 G t0 t1)
 | _=>M.fail
theorem zeE {g:Sem'} (hg:Sims g (sem T)) (args:List V):Sim (zb1 g args) (sem T za5 args):=by
 unfold zb1;split
 ·exact zaO zel (Nat.le_of_ble_eq_true (by kernel_rfl)) hg (zew g _ _)
 ·exact zac
def ziN (G:Sem') (t0:V):M Res :=
 (M.lift (Ax.bin .geq t0 (V.int .i64 0))).bind fun t4 =>
 (guarded [(0,t4)] (some (0,true)) (M.pure t0)).bind fun t6 =>
 (guarded [(0,t4)] (some (0,true)) (M.lift (Ax.bin .lss t6 (V.int .i64 8)))).bind fun t7 =>
 (M.lift (Ax.pick t4 t7 (V.bool false))).bind fun t8 =>
 M.pure (.ret [t8])
def ze4:Fn':=(T zcD).getD noF
theorem zli:T zcD = some ze4:=by kernel_rfl
theorem zlY (G:Sem') (t0:V):execK G ze4.rv ze4.body [] [] (params 0 [t0]) = ziN G t0:=by kernel_rfl
def zf5 (G:Sem'):List V → M V
 | [t0]=>fin (ziN G t0)
 | _=>M.fail
theorem zml {g:Sem'} (hg:Sims g (sem T)) (args:List V):Sim (zf5 g args) (sem T zcD args):=by
 unfold zf5;split
 ·exact zaO zli (Nat.le_of_ble_eq_true (by kernel_rfl)) hg (zlY g _)
 ·exact zac
end Go.Ax.Cc
/- CiS -/
namespace Go.Ax.Cc
open Go.Proofs
def disp (G:Sem') (f:FuncId) (args:List V):M V :=
 if f < 96 then (if f < 53 then (if f < 26 then (if f < 18 then (if f < 16 then (if f = zcc then zix G args else M.fail) else (if f < 17 then (if f = zaU then zco G args else M.fail) else (if f = zaH then zcn G args else M.fail))) else (if f < 24 then (if f < 19 then (if f = zaX then zdN G args else M.fail) else (if f = zap then zeB G args else M.fail)) else (if f < 25 then (if f = zbC then zdt G args else M.fail) else (if f = zbB then zds G args else M.fail)))) else (if f < 49 then (if f < 46 then (if f < 27 then (if f = zay then zcl G args else M.fail) else (if f = zaA then zcx G args else M.fail)) else (if f < 48 then (if f = zbl then zgY G args else M.fail) else (if f = zbG then zdG G args else M.fail))) else (if f < 51 then (if f < 50 then (if f = zbt then zcX G args else M.fail) else (if f = zbu then zg0 G args else M.fail)) else (if f < 52 then (if f = zbc then zcL G args else M.fail) else (if f = zaQ then zdL G args else M.fail))))) else (if f < 66 then (if f < 59 then (if f < 54 then (if f = zaP then zdJ G args else M.fail) else (if f < 58 then (if f = zaL then zdr G args else M.fail) else (if f = zbH then zdH G args else M.fail))) else (if f < 61 then (if f < 60 then (if f = za6 then zb2 G args else M.fail) else (if f = zak then zcJ G args else M.fail)) else (if f < 62 then (if f = zaj then zcw G args else M.fail) else (if f = zaC then zcm G args else M.fail)))) else (if f < 85 then (if f < 83 then (if f < 82 then (if f = zav then zdp G args else M.fail) else (if f = zaT then zf3 G args else M.fail)) else (if f < 84 then (if f = za1 then zf8 G args else M.fail) else (if f = za0 then zf2 G args else M.fail))) else (if f < 92 then (if f < 86 then (if f = zaG then zdo G args else M.fail) else (if f = zaK then zdq G args else M.fail)) else (if f < 94 then (if f = zbr then zf9 G args else M.fail) else (if f = zbx then zdM G args else M.fail)))))) else (if f < 151 then (if f < 105 then (if f < 101 then (if f < 97 then (if f = zbz then zgW G args else M.fail) else (if f < 98 then (if f = zaJ then zdI G args else M.fail) else (if f = zat then zbV G args else M.fail))) else (if f < 103 then (if f < 102 then (if f = za4 then zb0 G args else M.fail) else (if f = zau then zce G args else M.fail)) else (if f < 104 then (if f = zai then zcY G args else M.fail) else (if f = zag then zcK G args else M.fail)))) else (if f < 131 then (if f < 129 then (if f < 128 then (if f = za2 then zck G args else M.fail) else (if f = za8 then zfZ G args else M.fail)) else (if f < 130 then (if f = zbe then zf0 G args else M.fail) else (if f = zaE then zcd G args else M.fail))) else (if f < 149 then (if f < 147 then (if f = zbf then zf4 G args else M.fail) else (if f = zaW then zdK G args else M.fail)) else (if f < 150 then (if f = zaN then zeA G args else M.fail) else (if f = za7 then zfg G args else M.fail))))) else (if f < 239 then (if f < 155 then (if f < 153 then (if f < 152 then (if f = zbb then zgZ G args else M.fail) else (if f = zaM then zd6 G args else M.fail)) else (if f < 154 then (if f = zc1 then zgX G args else M.fail) else (if f = zbd then zff G args else M.fail))) else (if f < 236 then (if f < 162 then (if f = zaR then zd7 G args else M.fail) else (if f = zbq then zf6 G args else M.fail)) else (if f < 238 then (if f = zax then zb3 G args else M.fail) else (if f = zbY then zj7 G args else M.fail)))) else (if f < 243 then (if f < 241 then (if f < 240 then (if f = zaF then zfe G args else M.fail) else (if f = zbL then zez G args else M.fail)) else (if f < 242 then (if f = zbs then zga G args else M.fail) else (if f = zcA then zf1 G args else M.fail))) else (if f < 325 then (if f < 244 then (if f = zcE then zf7 G args else M.fail) else (if f = za3 then zey G args else M.fail)) else (if f < 326 then (if f = za5 then zb1 G args else M.fail) else (if f = zcD then zf5 G args else M.fail))))))
theorem zqo {g:Sem'} (hg:Sims g (sem T)):Sims (disp g) (sem T):=fun f args =>
 (zam (fun _=>(zam (fun _=>(zam (fun _=>(zam (fun _=>(zam (fun _=>(zam (fun e=>e ▸ zpf hg args) zac)) (zam (fun _=>(zam (fun e=>e ▸ zfx hg args) zac)) (zam (fun e=>e ▸ zfw hg args) zac)))) (zam (fun _=>(zam (fun _=>(zam (fun e=>e ▸ ziX hg args) zac)) (zam (fun e=>e ▸ zkp hg args) zac))) (zam (fun _=>(zam (fun e=>e ▸ zh5 hg args) zac)) (zam (fun e=>e ▸ zh4 hg args) zac))))) (zam (fun _=>(zam (fun _=>(zam (fun _=>(zam (fun e=>e ▸ zfu hg args) zac)) (zam (fun e=>e ▸ zfI hg args) zac))) (zam (fun _=>(zam (fun e=>e ▸ znx hg args) zac)) (zam (fun e=>e ▸ ziQ hg args) zac)))) (zam (fun _=>(zam (fun _=>(zam (fun e=>e ▸ zgC hg args) zac)) (zam (fun e=>e ▸ znz hg args) zac))) (zam (fun _=>(zam (fun e=>e ▸ zgp hg args) zac)) (zam (fun e=>e ▸ ziV hg args) zac)))))) (zam (fun _=>(zam (fun _=>(zam (fun _=>(zam (fun e=>e ▸ ziT hg args) zac)) (zam (fun _=>(zam (fun e=>e ▸ zh3 hg args) zac)) (zam (fun e=>e ▸ ziR hg args) zac)))) (zam (fun _=>(zam (fun _=>(zam (fun e=>e ▸ zeF hg args) zac)) (zam (fun e=>e ▸ zgn hg args) zac))) (zam (fun _=>(zam (fun e=>e ▸ zfH hg args) zac)) (zam (fun e=>e ▸ zfv hg args) zac))))) (zam (fun _=>(zam (fun _=>(zam (fun _=>(zam (fun e=>e ▸ zh1 hg args) zac)) (zam (fun e=>e ▸ zmj hg args) zac))) (zam (fun _=>(zam (fun e=>e ▸ zmo hg args) zac)) (zam (fun e=>e ▸ zmi hg args) zac)))) (zam (fun _=>(zam (fun _=>(zam (fun e=>e ▸ zh0 hg args) zac)) (zam (fun e=>e ▸ zh2 hg args) zac))) (zam (fun _=>(zam (fun e=>e ▸ zmp hg args) zac)) (zam (fun e=>e ▸ ziW hg args) zac))))))) (zam (fun _=>(zam (fun _=>(zam (fun _=>(zam (fun _=>(zam (fun e=>e ▸ znv hg args) zac)) (zam (fun _=>(zam (fun e=>e ▸ ziS hg args) zac)) (zam (fun e=>e ▸ zeo hg args) zac)))) (zam (fun _=>(zam (fun _=>(zam (fun e=>e ▸ zeD hg args) zac)) (zam (fun e=>e ▸ ze0 hg args) zac))) (zam (fun _=>(zam (fun e=>e ▸ zgD hg args) zac)) (zam (fun e=>e ▸ zgo hg args) zac))))) (zam (fun _=>(zam (fun _=>(zam (fun _=>(zam (fun e=>e ▸ zft hg args) zac)) (zam (fun e=>e ▸ zmf hg args) zac))) (zam (fun _=>(zam (fun e=>e ▸ zmg hg args) zac)) (zam (fun e=>e ▸ zeZ hg args) zac)))) (zam (fun _=>(zam (fun _=>(zam (fun e=>e ▸ zmk hg args) zac)) (zam (fun e=>e ▸ ziU hg args) zac))) (zam (fun _=>(zam (fun e=>e ▸ zko hg args) zac)) (zam (fun e=>e ▸ zlo hg args) zac)))))) (zam (fun _=>(zam (fun _=>(zam (fun _=>(zam (fun _=>(zam (fun e=>e ▸ zny hg args) zac)) (zam (fun e=>e ▸ zjw hg args) zac))) (zam (fun _=>(zam (fun e=>e ▸ znw hg args) zac)) (zam (fun e=>e ▸ zln hg args) zac)))) (zam (fun _=>(zam (fun _=>(zam (fun e=>e ▸ zjx hg args) zac)) (zam (fun e=>e ▸ zmm hg args) zac))) (zam (fun _=>(zam (fun e=>e ▸ zeG hg args) zac)) (zam (fun e=>e ▸ zqA hg args) zac))))) (zam (fun _=>(zam (fun _=>(zam (fun _=>(zam (fun e=>e ▸ zlm hg args) zac)) (zam (fun e=>e ▸ zkn hg args) zac))) (zam (fun _=>(zam (fun e=>e ▸ zmq hg args) zac)) (zam (fun e=>e ▸ zmh hg args) zac)))) (zam (fun _=>(zam (fun _=>(zam (fun e=>e ▸ zmn hg args) zac)) (zam (fun e=>e ▸ zkm hg args) zac))) (zam (fun _=>(zam (fun e=>e ▸ zeE hg args) zac)) (zam (fun e=>e ▸ zml hg args) zac)))))))
def cs:Nat → Sem'
 | 0=>fun _ _=>M.fail
 | n + 1=>disp (cs n)
theorem sims_cs:∀ n,Sims (cs n) (sem T)
 | 0=>fun _ _=>zac
 | n + 1=>zqo (sims_cs n)
end Go.Ax.Cc
/- Dk17 -/
namespace Go.Ax.SU
open Go.Ax
def pre1:Option (V × Cc.Heap):=Cc.cs 80 zcc [] ⟨.e,0⟩
def pre2:Option (V × V × Cc.Heap):=pre1.bind fun q=>(Cc.cs 80 zaU [] q.2).map fun r=>(q.1,r.1,r.2)
end Go.Ax.SU
/- De11 -/
namespace Go.Ax.SU
open Go.Ax
def incr:List Nat → Bool
 | []=>true
 | a :: l=>l.all (fun b=>decide (a < b)) && incr l
def dist:List Nat → Bool
 | []=>true
 | a :: l=>l.all (fun b=>decide (a ≠ b)) && dist l
theorem incr_pw:∀ {l:List Nat},incr l = true → l.Pairwise (· < ·):=by
 intro l
 induction l with
 | nil=>exact fun _=>List.Pairwise.nil
 | cons a l ih =>
  intro h;simp only [incr,Bool.and_eq_true,List.all_eq_true,decide_eq_true_eq] at h;exact List.Pairwise.cons h.1 (ih h.2)
theorem dist_pw:∀ {l:List Nat},dist l = true → l.Pairwise (· ≠ ·):=by
 intro l
 induction l with
 | nil=>exact fun _=>List.Pairwise.nil
 | cons a l ih =>
  intro h;simp only [dist,Bool.and_eq_true,List.all_eq_true,decide_eq_true_eq] at h;exact List.Pairwise.cons h.1 (ih h.2)
theorem zjj {R:Nat → Nat → Prop} {n a b:Nat} (h:(List.range n).Pairwise R) (hab:a < b) (hb:b < n):R a b:=by
 have:=List.pairwise_iff_getElem.1 h a b (by rw [List.length_range]; omega) (by rw [List.length_range]; exact hb) hab;simpa using this
def zgF:Option V → Nat | some (V.ptr p 0)=>p | _=>0
def zhZ:Option Blk → V | some ⟨_,[_,lv],_⟩=>lv | _=>.undef
def zqJ (h : Cc.Heap) (lo : Nat) (o : Option V) : Bool :=
  match o with
  | some (V.ptr p 0) =>
    match h.get p with
    | some ⟨tp, [V.int .i64 n, lv], none⟩ => decide (p < lo) && (decide (tp = tyPo) && (decide (n = 32) &&
      (match lv with
       | V.nils => true
       | V.sl id off 0 (.opn 3) => (match h.get id with | some ⟨ty, cs, some 3⟩ => decide (ty = tyOu) && (decide (cs.length = off) && (decide (lo ≤ id) && decide (id < h.next))) | _ => false)
       | _ => false)))
    | _ => false
  | _ => false
theorem zqI {h:Cc.Heap} {lo:Nat} {o:Option V} (hp:zqJ h lo o = true):o = some (.ptr (zgF o) 0) ∧ zgF o < lo ∧ h.abs.get (zgF o) = some ⟨tyPo,[.int .i64 32,zhZ (h.get (zgF o))],none⟩ ∧ Apo tyOu 3 lo h.abs (zhZ (h.get (zgF o))) [] 0:=by
 unfold zqJ at hp;split at hp
 case h_2=>cases hp
 rename_i o p;split at hp
 case h_2=>cases hp
 rename_i tp n lv hg;simp only [Bool.and_eq_true,decide_eq_true_eq] at hp;obtain ⟨h1,h2,h3,hp⟩:=hp;subst h2 h3;have hg':h.abs.get p = some ⟨tyPo,[.int .i64 32,lv],none⟩:=hg;refine ⟨rfl,h1,?_⟩;show h.abs.get p = some ⟨tyPo,[.int .i64 32,zhZ (h.get p)],none⟩ ∧ Apo tyOu 3 lo h.abs (zhZ (h.get p)) [] 0;rw [hg];refine ⟨hg',?_⟩;show Apo tyOu 3 lo h.abs lv [] 0;split at hp
 ·exact Apo.nil
 ·rename_i id off;split at hp
  case h_2=>cases hp
  rename_i ty cs hi;simp only [Bool.and_eq_true,decide_eq_true_eq] at hp;obtain ⟨k1,k2,k3,k4⟩:=hp;subst k1;have:=Apo.mid (ty:=tyOu) (e:=3) (lo:=lo) (H:=h.abs) (id:=id) (off:=off) (n:=0) (cs:=cs) hi (by omega) k3 k4;rw [List.drop_of_length_le (by omega)] at this;exact this
 ·cases hp
def deskB (h:Cc.Heap) (D:List V) (d C cs lo:Nat):Bool :=
 decide (lo ≤ h.next) && (decide (d < lo) && (decide (C < lo) && (decide (cs < lo) && (decide (d ≠ cs) && (decide (C ≠ cs) && (decide (d ≠ C) &&
  (((List.range 64).all fun a=>zqJ h lo (D.drop 1470)[a]?) && (((List.range 64).all fun a=>decide (zgF (D.drop 1470)[a]? ≠ d) && (decide (zgF (D.drop 1470)[a]? ≠ C) && decide (zgF (D.drop 1470)[a]? ≠ cs))) &&
  (incr ((List.range 64).map fun a=>zgF (D.drop 1470)[a]?) && dist ((List.range 64).filterMap fun a=>(zhZ (h.get (zgF (D.drop 1470)[a]?))).pid))))))))))
def deskA (rm : Nat → Rm) (h : Cc.Heap) (v : V) : Bool :=
  match v with
  | V.ptr d 0 =>
    match h.get d with
    | some ⟨ty, D, none⟩ => decide (ty = tyDk) && (decide (D.length = 1535) && (((List.range 4).all fun i => Cc.sames ((D.drop (i * 367)).take 39) (rC (rm i))) &&
      (match (D.drop 1468)[0]?, (D.drop 1468)[66]? with
       | some (V.int .i64 0), some (V.ptr C 0) =>
         match h.get C with
         | some ⟨tc, [V.sl cs 0 11 _], none⟩ =>
           match h.get cs with
           | some ⟨ta, ns, _⟩ => decide (tc = zej) && (decide (ta = zcq) && (Cc.sames ns ((List.replicate 11 0).map c64) &&
               deskB h D d C cs (zgF (D.drop 1468)[65]? + 1)))
           | _ => false
         | _ => false
       | _, _ => false)))
    | _ => false
  | _ => false
theorem deskA_da {rm:Nat → Rm} (hrm:∀ i,i < 4 → RmO (rm i)) {h:Cc.Heap} {v:V} (hd:deskA rm h v = true):∃ K L,v = .ptr K.d 0 ∧ DW K h.abs L rm (fun _=>[]) (List.replicate 11 0) 0:=by
 unfold deskA at hd;split at hd
 case h_2=>cases hd
 rename_i d;split at hd
 case h_2=>cases hd
 rename_i ty D hg;simp only [Bool.and_eq_true,decide_eq_true_eq] at hd;obtain ⟨h1,h2,h3,hd⟩:=hd;subst h1;split at hd
 case h_2=>cases hd
 rename_i C hnow hC0;split at hd
 case h_2=>cases hd
 rename_i tc cs cap hC;split at hd
 case h_2=>cases hd
 rename_i ta ns o hcs;unfold deskB at hd;simp only [Bool.and_eq_true,decide_eq_true_eq] at hd;obtain ⟨e3,e4,e5,l0,l1,l2,l3,n1,n2,n3,hpo,hne,hinc,hdis⟩:=hd;have e5:=Cc.sames_eq e5;subst e3 e4 e5;generalize hlo:zgF (D.drop 1468)[65]? + 1 = lo at *;have hp:∀ a,a < 64 → _:=fun a ha=>zqI (List.all_eq_true.1 hpo a (List.mem_range.2 ha));have hn:∀ a,a < 64 → _:=fun a ha=>List.all_eq_true.1 hne a (List.mem_range.2 ha);have pi:=(List.pairwise_map.1 (incr_pw hinc));have pd:=(List.pairwise_filterMap.1 (dist_pw hdis));refine ⟨⟨lo,d,C,cs,fun a=>zgF (D.drop 1470)[a]?⟩,fun a=>zhZ (h.get (zgF (D.drop 1470)[a]?)),rfl,D,fun _=>[],⟨hg,h2,fun i hi=>⟨Cc.sames_eq (List.all_eq_true.1 h3 i (List.mem_range.2 hi)),hrm i hi⟩,?_,fun a ha=>?_,?_,⟨⟨cap,hC⟩,⟨o,hcs⟩,rfl,by decide⟩,⟨l0,fun a ha=>(hp a ha).2.1,?_,fun a ha=>(hp a ha).2.2.1,fun a ha=>(hp a ha).2.2.2,fun a ha=>by simp,?_,fun a ha e he=>by simp at he⟩,l1,l2,l3,n1,n2,n3,fun a ha=>?_⟩,fun b=>rfl⟩
 ·rw [List.getElem?_drop] at hnow;exact hnow
 ·have:=(hp a ha).1;show D[1470 + a]? = some (.ptr (zgF (D.drop 1470)[a]?) 0);rw [← this,List.getElem?_drop]
 ·rw [List.getElem?_drop] at hC0;exact hC0
 ·intro a b ha hb e;rcases Nat.lt_trichotomy a b with h | h | h
  ·have:=zjj pi h hb;dsimp only at e;omega
  ·exact h
  ·have:=zjj pi h ha;dsimp only at e;omega
 ·intro a b i ha hb hab hi hi';rcases Nat.lt_trichotomy a b with h | h | h
  ·exact zjj pd h hb i hi i hi' rfl
  ·exact hab h
  ·exact zjj pd h ha i hi' i hi rfl
 ·have:=hn a ha;simp only [Bool.and_eq_true,decide_eq_true_eq] at this;exact this
end Go.Ax.SU
/- De12 -/
namespace Go.Ax.SU
open Go.Ax
def jn (v:V) (a r:Nat) (h:Cc.Heap):Option Cc.Heap:=(Cc.cs 80 zaH [v,.int .i64 (a:Nat),.int .i64 (r:Nat)] h).bind fun q=>match q.1 with | .tup [_,.bool true]=>some q.2 | _=>none
def tk (v:V) (a:Nat) (h:Cc.Heap):Option Cc.Heap:=(Cc.cs 80 zap [v,.agg [.int .i64 5,.int .i64 (a:Nat),.int .i64 32,.nils]] h).map (·.2)
def chain (f:Nat → Cc.Heap → Option Cc.Heap):Nat → Cc.Heap → Option Cc.Heap
 | 0,h=>some h
 | n + 1,h=>(chain f n h).bind (f n)
theorem jn_eq {v:V} {a r:Nat} {h h':Cc.Heap} (e:jn v a r h = some h'):∃ s,sem T zaH [v,.int .i64 (a:Nat),.int .i64 (r:Nat)] h.abs = some (.tup [s,.bool true],h'.abs):=by
 unfold jn at e;rw [Option.bind_eq_some_iff] at e;obtain ⟨⟨r1,h1⟩,e1,e2⟩:=e;dsimp only at e2;split at e2
 ·rename_i s;injection e2 with e2
  subst e2;exact ⟨s,Cc.sims_cs 80 _ _ _ _ _ e1⟩
 ·cases e2
theorem tk_eq {v:V} {a:Nat} {h h':Cc.Heap} (e:tk v a h = some h'):∃ s,sem T zap [v,.agg [.int .i64 5,.int .i64 (a:Nat),.int .i64 32,.nils]] h.abs = some (s,h'.abs):=by
 unfold tk at e;rw [Option.map_eq_some_iff] at e;obtain ⟨⟨r1,h1⟩,e1,e2⟩:=e;subst e2;exact ⟨r1,Cc.sims_cs 80 _ _ _ _ _ e1⟩
theorem zoK {f:Nat → Cc.Heap → Option Cc.Heap} {R:Nat → Heap → Heap → Prop} (hf:∀ i h h',f i h = some h' → R i h.abs h'.abs):∀ {n:Nat} {h h':Cc.Heap},chain f n h = some h' → ∃ J:Nat → Heap,J 0 = h.abs ∧ J n = h'.abs ∧ ∀ i,i < n → R i (J i) (J (i + 1)):=by
 intro n
 induction n with
 | zero =>
  intro h h' e;injection e with e
  exact ⟨fun _=>h.abs,rfl,by rw [e],fun i hi=>by omega⟩
 | succ n ih =>
  intro h h' e;unfold chain at e;rw [Option.bind_eq_some_iff] at e;obtain ⟨h1,e1,e2⟩:=e;obtain ⟨J,j0,jn,jr⟩:=ih e1;refine ⟨fun i=>if i ≤ n then J i else h'.abs,by dsimp only; rw [if_pos (by omega)]; exact j0,by dsimp only; rw [if_neg (by omega)],fun i hi=>?_⟩;dsimp only;by_cases hin:i < n
  ·rw [if_pos (by omega),if_pos (by omega)];exact jr i hin
  ·have:i = n:=by omega
   subst this;rw [if_pos (by omega),if_neg (by omega),jn];exact hf _ _ _ e2
def preJ (a r n:Nat) (rm:Nat → Rm):Bool :=
 match pre2 with
 | some (v,V.bool true,h)=>(match (chain (fun i=>jn v (a + i) r) n h).bind (chain (fun i=>tk v (a + i)) n) with | some h'=>deskA rm h' v | none=>false)
 | _=>false
theorem preJ_da {a r n:Nat} {rm:Nat → Rm} (hrm:∀ i,i < 4 → RmO (rm i)) (h:preJ a r n rm = true):∃ K L H1,∃ J J':Nat → Heap,sem T zcc [] H0 = some (.ptr K.d 0,H1) ∧ sem T zaU [] H1 = some (.bool true,J 0) ∧
  (∀ i,i < n → ∃ s,sem T zaH [.ptr K.d 0,.int .i64 (a + i:Nat),.int .i64 (r:Nat)] (J i) = some (.tup [s,.bool true],J (i + 1))) ∧ J n = J' 0 ∧
  (∀ i,i < n → ∃ s,sem T zap [.ptr K.d 0,.agg [.int .i64 5,.int .i64 (a + i:Nat),.int .i64 32,.nils]] (J' i) = some (s,J' (i + 1))) ∧ DW K (J' n) L rm (fun _=>[]) (List.replicate 11 0) 0:=by
 unfold preJ at h;split at h
 case h_2=>cases h
 rename_i v hh hp;unfold pre2 at hp;rw [Option.bind_eq_some_iff] at hp;obtain ⟨⟨v1,h1⟩,hp1,hp2⟩:=hp;rw [Option.map_eq_some_iff] at hp2;obtain ⟨⟨v2,h2⟩,hp2,e⟩:=hp2;injection e with e1 e
 injection e with e2 e3
 dsimp only at e1 e2 e3 hp2;subst e1 e2 e3;split at h
 case h_2=>cases h
 rename_i h3 hc;rw [Option.bind_eq_some_iff] at hc;obtain ⟨h4,c1,c2⟩:=hc;obtain ⟨K,L,rfl,hda⟩:=deskA_da hrm h;obtain ⟨J,j0,jn,jr⟩:=zoK (R:=fun i H H'=>∃ s,sem T zaH [.ptr K.d 0,.int .i64 (a + i:Nat),.int .i64 (r:Nat)] H = some (.tup [s,.bool true],H')) (fun i h h' e=>jn_eq e) c1;obtain ⟨J',j0',jn',jr'⟩:=zoK (R:=fun i H H'=>∃ s,sem T zap [.ptr K.d 0,.agg [.int .i64 5,.int .i64 (a + i:Nat),.int .i64 32,.nils]] H = some (s,H')) (fun i h h' e=>tk_eq e) c2;refine ⟨K,L,h1.abs,J,J',Cc.sims_cs 80 _ _ _ _ _ hp1,?_,jr,jn.trans j0'.symm,jr',by rw [jn']; exact hda⟩;rw [j0];exact Cc.sims_cs 80 _ _ _ _ _ hp2
end Go.Ax.SU
/- De14 -/
namespace Go.Ax.SU
open Go.Ax
end Go.Ax.SU
/- De25 -/
namespace Go.Ax.SU
open Go.Ax
def tS (k:Nat):Tb:=⟨(List.range 8).map fun j=>decide (j < k),(List.range 8).map fun j=>if j < k then ((20 + j:Nat):Int) else 0⟩
def rS (k:Nat) (se:List Int):Rm:=⟨tS k,0,false,0,0,0,0,se,List.replicate 8 0,false⟩
def rmS (k i:Nat):Rm:=if i = 3 then rS k (List.replicate 8 0) else rmZ
theorem pre_S1:preJ 20 3 1 (rmS 1) = true:=by kernel_rfl
theorem pre_S2:preJ 20 3 2 (rmS 2) = true:=by kernel_rfl
theorem pre_S3:preJ 20 3 3 (rmS 3) = true:=by kernel_rfl
theorem pre_S4:preJ 20 3 4 (rmS 4) = true:=by kernel_rfl
theorem pre_S {k:Nat} (h1:1 ≤ k) (h4:k ≤ 4):preJ 20 3 k (rmS k) = true:=by
 have:k = 1 ∨ k = 2 ∨ k = 3 ∨ k = 4:=by omega
 rcases this with rfl | rfl | rfl | rfl
 ·exact pre_S1
 ·exact pre_S2
 ·exact pre_S3
 ·exact pre_S4
theorem tS_u {k j:Nat} (hk:k ≤ 4):(tS k).uG j = decide (j < k):=by
 unfold tS Tb.uG;dsimp only;rw [List.getD_eq_getElem?_getD,List.getElem?_map];by_cases hj:j < 8
 ·rw [List.getElem?_range hj]; rfl
 ·rw [List.getElem?_eq_none (by rw [List.length_range]; omega),decide_eq_false (by omega)];rfl
theorem tS_a {k j:Nat} (hk:k ≤ 4) (hj:j < k):(tS k).aG j = ((20 + j:Nat):Int):=by
 unfold tS Tb.aG;dsimp only;rw [List.getD_eq_getElem?_getD,List.getElem?_map,List.getElem?_range (by omega)];show (if j < k then _ else _) = _;rw [if_pos hj]
theorem tS_o (k:Nat):TbO (tS k):=⟨by simp [tS],by simp [tS]⟩
theorem tS_g {k:Nat} (h1:1 ≤ k) (h4:k ≤ 4):zdT (tS k) = true:=by
 have:k = 1 ∨ k = 2 ∨ k = 3 ∨ k = 4:=by omega
 rcases this with rfl | rfl | rfl | rfl <;> decide
theorem inS_S {k i:Nat} (h4:k ≤ 4) (hi:i < k):inS (tS k) ((20 + i:Nat):Int) = some i:=by
 have h:k = 1 ∨ k = 2 ∨ k = 3 ∨ k = 4:=by omega
 have h':i = 0 ∨ i = 1 ∨ i = 2 ∨ i = 3:=by omega
 rcases h with rfl | rfl | rfl | rfl <;> rcases h' with rfl | rfl | rfl | rfl <;> first | (exfalso; omega) | decide
theorem rS_g {k:Nat} (h1:1 ≤ k) (h4:k ≤ 4) {se:List Int} (hl:se.length = 8) (hz:∀ j,k ≤ j → se.getD j 0 = 0):RmG (rS k se):=by
 refine ⟨⟨tS_o k,hl,rfl⟩,⟨by show (0:Int) ≤ 0; decide,by show (0:Int) ≤ 65535; decide,fun _=>⟨rfl,rfl,rfl,rfl⟩,fun h=>(by cases h)⟩,tS_g h1 h4,fun j hj hu=>⟨?_,?_⟩,fun j hj=>?_,fun h=>(by cases h),fun h=>(by cases h)⟩
 ·have hu':(tS k).uG j = false:=hu;rw [tS_u h4] at hu';exact hz j (by have:=of_decide_eq_false hu'; omega)
 ·show (List.replicate 8 (0:Int)).getD j 0 = 0;rw [List.getD_eq_getElem?_getD,List.getElem?_replicate];split <;> rfl
 ·have:(List.replicate 8 (0:Int)).getD j 0 = 0:=by
   rw [List.getD_eq_getElem?_getD,List.getElem?_replicate];split <;> rfl
  show 0 ≤ (List.replicate 8 (0:Int)).getD j 0 ∧ (List.replicate 8 (0:Int)).getD j 0 ≤ 0;rw [this];exact ⟨Int.le_refl _,Int.le_refl _⟩
theorem aliveS {k i:Nat} (h4:k ≤ 4) (hi:i < k) (se:List Int) (now:Int):zeS (rS k se) ((20 + i:Nat):Int) now = rS k (se.set i now):=by
 unfold zeS;have:inS (rS k se).t ((20 + i:Nat):Int) = some i:=inS_S h4 hi;rw [this];rfl
def bitS (sp i:Nat):Bool:=sp.testBit i
def seN (sp:Nat):Nat → List Int
 | 0=>List.replicate 8 0
 | i + 1=>if bitS sp i then (seN sp i).set i 400 else seN sp i
theorem znu (sp i:Nat):(seN sp i).length = 8:=by
 induction i with
 | zero=>rfl
 | succ i ih =>
  unfold seN;split
  ·rw [List.length_set]; exact ih
  ·exact ih
theorem zok (sp i:Nat) (hi:i ≤ 8) (j:Nat):(seN sp i).getD j 0 = if j < i ∧ bitS sp j = true then 400 else 0:=by
 induction i with
 | zero =>
  rw [if_neg (by omega)];show (List.replicate 8 (0:Int)).getD j 0 = 0;rw [List.getD_eq_getElem?_getD,List.getElem?_replicate];split <;> rfl
 | succ i ih =>
  have ih:=ih (by omega);unfold seN;split
  ·rename_i hb;rw [List.getD_eq_getElem?_getD,List.getElem?_set];by_cases hij:i = j
   ·subst hij;rw [if_pos rfl,if_pos (by rw [znu]; omega),if_pos ⟨by omega,hb⟩];rfl
   ·rw [if_neg hij,← List.getD_eq_getElem?_getD,ih];by_cases h:j < i ∧ bitS sp j = true
    ·rw [if_pos h,if_pos ⟨by omega,h.2⟩]
    ·rw [if_neg h,if_neg fun h'=>h ⟨by omega,h'.2⟩]
  ·rename_i hb;rw [ih];by_cases h:j < i ∧ bitS sp j = true
   ·rw [if_pos h,if_pos ⟨by omega,h.2⟩]
   ·rw [if_neg h,if_neg fun h'=>?_];by_cases hij:j = i
    ·subst hij; exact hb h'.2
    ·exact h ⟨by omega,h'.2⟩
def stS (sp t i:Nat):Bool:=decide (t < 100) || (bitS sp i && decide (t < 500))
theorem silS_S {k sp t i:Nat} (h4:k ≤ 4) (hi:i < k):silS (rS k (seN sp k)) ((400 + t:Nat):Int) i = !stS sp t i:=by
 unfold silS stS;have hu:(rS k (seN sp k)).t.uG i = true:=(tS_u h4).trans (decide_eq_true hi);have hs:(rS k (seN sp k)).se.getD i 0 = if i < k ∧ bitS sp i = true then 400 else 0:=zok sp k (by omega) i
 rw [hu,hs,Bool.true_and];cases hb:bitS sp i with
 | true =>
  rw [if_pos ⟨hi,rfl⟩,Bool.true_and];by_cases h5:t < 500
  ·rw [decide_eq_false (by omega),decide_eq_true h5,Bool.or_true]; rfl
  ·rw [decide_eq_true (by omega),decide_eq_false h5,decide_eq_false (by omega:¬ t < 100)]; rfl
 | false =>
  rw [if_neg (fun h=>by cases h.2),Bool.false_and,Bool.or_false];by_cases h1:t < 100
  ·rw [decide_eq_false (by omega),decide_eq_true h1]; rfl
  ·rw [decide_eq_true (by omega),decide_eq_false h1]; rfl
/-! What waits for one. -/
theorem ov_no {was:Rm} {c:Nat}:∀ (l:List Nat) {Q:Nat → List Ot},(∀ g ∈ l,(was.t.aG g).toNat ≠ c) → (l.foldl (ovF was) Q) c = Q c:=by
 intro l
 induction l with
 | nil=>intro Q _; rfl
 | cons g l ih =>
  intro Q h;rw [List.foldl_cons,ih fun g' hg'=>h g' (List.mem_cons_of_mem _ hg')];unfold ovF;exact upd_ne _ _ (fun e=>h g List.mem_cons_self e.symm)
theorem ov_yes {was:Rm} {c:Nat}:∀ (l:List Nat) {Q:Nat → List Ot},(Q c = [⟨(c:Nat),2,zbw zlr⟩] ∨ ∃ g ∈ l,(was.t.aG g).toNat = c) → (l.foldl (ovF was) Q) c = [⟨(c:Nat),2,zbw zlr⟩]:=by
 intro l
 induction l with
 | nil =>
  rintro Q (h | ⟨g,hg,_⟩)
  ·exact h
  ·cases hg
 | cons g l ih =>
  intro Q h;rw [List.foldl_cons];refine ih ?_;by_cases hg:(was.t.aG g).toNat = c
  ·left;unfold ovF;rw [hg,zaY]
  ·rcases h with h | ⟨g',hg',he⟩
   ·left;unfold ovF;rw [upd_ne _ _ (fun e=>hg e.symm)];exact h
   ·right;rcases List.mem_cons.1 hg' with rfl | hg'
    ·exact absurd he hg
    ·exact ⟨g',hg',he⟩
theorem we_no {r:Rm} {c:Nat}:∀ (l:List Nat) {Q:Nat → List Ot},(∀ g:Nat,g ∈ l → hitA r.t (g:Nat) 8 c = false) → (l.foldl (weF r) Q) c = Q c:=by
 intro l
 induction l with
 | nil=>intro Q _; rfl
 | cons g l ih =>
  intro Q h;rw [List.foldl_cons,ih fun g' hg'=>h g' (List.mem_cons_of_mem _ hg')];unfold weF allN;rw [h g List.mem_cons_self];rfl
theorem we_yes {r:Rm} {c:Nat}:∀ (l:List Nat) {Q:Nat → List Ot},(∀ g:Nat,g ∈ l → hitA r.t (g:Nat) 8 c = true) → (l.foldl (weF r) Q) c = Q c ++ l.map fun g=>⟨(c:Nat),2,zbw (zfF g (comR r) (zcP r.t))⟩:=by
 intro l
 induction l with
 | nil=>intro Q _; simp
 | cons g l ih =>
  intro Q h;rw [List.foldl_cons,ih fun g' hg'=>h g' (List.mem_cons_of_mem _ hg')];have:weF r Q g c = Q c ++ [⟨(c:Nat),2,zbw (zfF g (comR r) (zcP r.t))⟩]:=by
   unfold weF allN;rw [h g List.mem_cons_self];rfl
  rw [this,List.map_cons,List.append_assoc];rfl
end Go.Ax.SU
/- De26 -/
namespace Go.Ax.SU
open Go.Ax
def cntL (sp t n:Nat):Nat:=((List.range n).filter fun j=>stS sp t j).length
def cntG (sp t n:Nat):Nat:=((List.range n).filter fun j=>!stS sp t j).length
theorem zna (sp t n:Nat):cntL sp t (n + 1) = cntL sp t n + (if stS sp t n then 1 else 0):=by
 unfold cntL;rw [List.range_succ,List.filter_append,List.length_append,List.filter_cons,List.filter_nil];split <;> rfl
theorem zka (sp t n:Nat):cntG sp t (n + 1) = cntG sp t n + (if stS sp t n then 0 else 1):=by
 unfold cntG;rw [List.range_succ,List.filter_append,List.length_append,List.filter_cons,List.filter_nil];cases stS sp t n <;> rfl
theorem zn9 (sp t n:Nat):cntL sp t n + cntG sp t n = n:=by
 induction n with
 | zero=>rfl
 | succ n ih =>
  rw [zna,zka];split <;> omega
def rE (k sp t:Nat):Rm:=zd8 (rS k (seN sp k)) ((400 + t:Nat):Int)
structure SE (k sp t:Nat):Prop where
 g:RmG (rE k sp t)
 c0:0 ≤ comR (rE k sp t)
 c1:comR (rE k sp t) ≤ 65535
 u:∀ j,j < 8 → (rE k sp t).t.uG j = (decide (j < k) && stS sp t j)
 a:∀ j,j < 8 → (rE k sp t).t.uG j = true → (rE k sp t).t.aG j = ((20 + j:Nat):Int)
 gl:∀ g ∈ zc6 (rS k (seN sp k)) (rE k sp t) 8,g < k ∧ stS sp t g = false
 ln:(zc6 (rS k (seN sp k)) (rE k sp t) 8).length = cntG sp t k
 mem:∀ i,i < k → stS sp t i = false → i ∈ zc6 (rS k (seN sp k)) (rE k sp t) 8
theorem seN_hi {sp k j:Nat} (h4:k ≤ 4) (h:k ≤ j):(seN sp k).getD j 0 = 0:=by
 rw [zok sp k (by omega),if_neg (by omega)]
theorem rS_T {k sp:Nat} {now:Int} (h1:1 ≤ k) (h4:k ≤ 4) (hn:400 ≤ now):RmT (rS k (seN sp k)) now:=by
 refine ⟨rS_g h1 h4 (znu sp k) fun j hj=>seN_hi h4 hj,rfl,rfl,by show (0:Int) + 8 ≤ 65535; decide,fun j hj=>?_⟩;show 0 ≤ (seN sp k).getD j 0 ∧ (seN sp k).getD j 0 ≤ now;rw [zok sp k (by omega)];split <;> omega
theorem sE {k sp t:Nat} (h1:1 ≤ k) (h4:k ≤ 4):SE k sp t:=by
 have T:=rS_T (sp:=sp) (now:=((400 + t:Nat):Int)) h1 h4 (by omega);obtain ⟨t1,t2,t3,t4,t5⟩:=zqg T.g T.ov T.c ((400 + t:Nat):Int);have hu:∀ j,j < 8 → (rE k sp t).t.uG j = (decide (j < k) && stS sp t j):=fun j hj=>by
  have:=t4 j hj;unfold rE;rw [this];have hr:(rS k (seN sp k)).t.uG j = decide (j < k):=tS_u h4;rw [hr];by_cases hjk:j < k
  ·rw [silS_S h4 hjk,Bool.not_not]
  ·rw [decide_eq_false hjk,Bool.false_and,Bool.false_and]
 have hc:=zn8 t1.k;have he:=t1.k.e0;have hr:∀ j,(rS k (seN sp k)).t.uG j = decide (j < k):=fun j=>tS_u h4;have hgl:∀ g ∈ zc6 (rS k (seN sp k)) (rE k sp t) 8,g < k ∧ stS sp t g = false:=fun g hg=>by
  obtain ⟨a1,a2,a3⟩:=zfQ hg;rw [hr] at a2;have a2:=of_decide_eq_true a2;rw [hu g a1,decide_eq_true a2,Bool.true_and] at a3;exact ⟨a2,a3⟩
 have hln:∀ n,n ≤ 8 → (zc6 (rS k (seN sp k)) (rE k sp t) n).length = cntG sp t (min n k):=by
  intro n
  induction n with
  | zero=>intro _; rw [Nat.zero_min]; rfl
  | succ n ih =>
   intro hn;rw [zk2,List.length_append,ih (by omega),hr,hu n (by omega)];by_cases hnk:n < k
   ·rw [decide_eq_true hnk,Bool.true_and,Bool.true_and,Nat.min_eq_left (by omega:n ≤ k),Nat.min_eq_left (by omega:n + 1 ≤ k),zka];cases stS sp t n <;> rfl
   ·rw [decide_eq_false hnk,Bool.false_and,Nat.min_eq_right (by omega:k ≤ n),Nat.min_eq_right (by omega:k ≤ n + 1)];rfl
 refine ⟨t1,by show (0:Int) ≤ comR (zd8 _ _); omega,?_,hu,fun j hj huj=>?_,hgl,?_,fun i hi hs=>?_⟩
 ·show comR (zd8 _ _) ≤ 65535;unfold comR;split
  ·rename_i ho; exact (t1.k.on ho).2.1
  ·exact t1.k.e1
 ·have hjk:j < k:=by
   rw [hu j hj] at huj;simp only [Bool.and_eq_true,decide_eq_true_eq] at huj;exact huj.1
  exact (t5 j hj huj).trans (tS_a h4 hjk)
 ·have:=hln 8 (by omega);rw [this,Nat.min_eq_right (by omega)]
 ·unfold zc6;rw [List.mem_filter,hr,hu i (by omega),decide_eq_true hi,hs];exact ⟨List.mem_range.2 (by omega),rfl⟩
def qE (k sp t:Nat):Nat → List Ot:=zjp (rS k (seN sp k)) (rE k sp t) (fun _=>[])
theorem zqG {k sp t i:Nat} (h1:1 ≤ k) (h4:k ≤ 4) (hi:i < k) (hs:stS sp t i = true):qE k sp t (20 + i) = (zc6 (rS k (seN sp k)) (rE k sp t) 8).map fun g=>⟨((20 + i:Nat):Int),2,zbw (zfF g (comR (rE k sp t)) (zcP (rE k sp t).t))⟩:=by
 have S:=sE (sp:=sp) (t:=t) h1 h4;have hui:(rE k sp t).t.uG i = true:=by rw [S.u i (by omega),decide_eq_true hi,hs]; rfl
 unfold qE zjp;rw [we_yes,ov_no]
 ·rfl
 ·intro g hg e;obtain ⟨a1,a2⟩:=S.gl g hg;have:(rS k (seN sp k)).t.aG g = ((20 + g:Nat):Int):=tS_a h4 a1;rw [this] at e;have:g = i:=by omega
  subst this;rw [hs] at a2;cases a2
 ·intro g hg;obtain ⟨a1,a2⟩:=S.gl g hg;unfold hitA;rw [List.any_eq_true];refine ⟨i,List.mem_range.2 (by omega),?_⟩;unfold hit1;have hne:((i:Nat):Int) ≠ ((g:Nat):Int):=fun e=>by
   have:i = g:=by omega
   subst this;rw [hs] at a2;cases a2
  rw [hui,decide_eq_true hne,decide_eq_true (S.a i (by omega) hui)];rfl
theorem zqH {k sp t i:Nat} (h1:1 ≤ k) (h4:k ≤ 4) (hi:i < k) (hs:stS sp t i = false):qE k sp t (20 + i) = [⟨((20 + i:Nat):Int),2,zbw zlr⟩]:=by
 have S:=sE (sp:=sp) (t:=t) h1 h4;unfold qE zjp;rw [we_no]
 ·refine ov_yes _ (.inr ⟨i,S.mem i hi hs,?_⟩);have:(rS k (seN sp k)).t.aG i = ((20 + i:Nat):Int):=tS_a h4 hi;rw [this];omega
 ·intro g hg;unfold hitA;rw [List.any_eq_false];intro j hj h;have hj:=List.mem_range.1 hj;unfold hit1 at h;simp only [Bool.and_eq_true,decide_eq_true_eq] at h;obtain ⟨b1,b2,b3⟩:=h;have:=S.a j hj b1;have e:j = i:=by omega
  subst e;rw [S.u j hj,hs,Bool.and_false] at b1;cases b1
structure TellOk (kind:Nat) (o:Ot):Prop where
 x:∃ x:Nt,o.b = zbw x ∧ x.b = [] ∧ x.k = (kind:Nat) ∧ ((1 ≤ x.k ∧ x.k ≤ 24) ∧ (0 ≤ x.r ∧ x.r ≤ 3) ∧ (0 ≤ x.s ∧ x.s ≤ 7) ∧ (0 ≤ x.e ∧ x.e ≤ 65535) ∧ (0 ≤ x.n ∧ x.n ≤ 65535) ∧ (0 ≤ x.m ∧ x.m ≤ 65535) ∧ x.b.length ≤ 200) ∧
  ∀ (H':Heap) (lo':Nat) (v:V),By lo' H' v x.b → Ok (sem T zaj [.agg (nC x v)]) H' fun r' H''=>r' = .bool true ∧ Grow H' H''
theorem zqL (c:Nat):TellOk 23 ⟨(c:Nat),2,zbw zlr⟩:=⟨zlr,rfl,rfl,rfl,zqM.le,fun H' lo' v hv=>zq4 (k:=23) (.inr rfl) hv⟩
theorem zp9 {k sp t g c:Nat} (h1:1 ≤ k) (h4:k ≤ 4) (hg:g ∈ zc6 (rS k (seN sp k)) (rE k sp t) 8):TellOk 20 ⟨(c:Nat),2,zbw (zfF g (comR (rE k sp t)) (zcP (rE k sp t).t))⟩:=by
 have S:=sE (sp:=sp) (t:=t) h1 h4;obtain ⟨a1,a2⟩:=S.gl g hg;have hb:(zcP (rE k sp t).t).testBit g = false:=by
  have:=zot (rE k sp t).t g 8;unfold zcP;rw [this,S.u g (by omega),a2,Bool.and_false,Bool.and_false]
 have hm:zcP (rE k sp t).t < 256:=zhi _ 8;exact ⟨_,rfl,rfl,rfl,(zqa (by omega) ⟨S.c0,S.c1⟩ hm hb).le,fun H' lo' v hv=>good_r20 (by omega) ⟨S.c0,S.c1⟩ hm hb hv⟩
theorem at3x {lo n:Nat} {H:Heap} {v:V} {es:List (V × Ot)} (h:Lc 3 lo H v ((es.map oC).flatten) es.length) {i:Nat} (hi:i < es.length):∃ p,(∀ {k:IntKind},Ax.iaddr none 3 v (.int k (i:Nat)) = some p) ∧ Pl H p (oC es[i]) v.pid:=by
 obtain ⟨p,hp,hl⟩:=h.at (i:=(i:Nat)) (by omega) (by omega);have e:=(flat_at (k:=3) (es.map oC) (fun x hx=>by
  obtain ⟨w,hw,rfl⟩:=List.mem_map.1 hx;rfl) i (oC es[i]) (by rw [List.getElem?_map,List.getElem?_eq_getElem hi]; rfl)).1
 rw [Int.toNat_natCast,e] at hl;exact ⟨p,hp,hl⟩
theorem zjq {lo m kind:Nat} {H:Heap} {v:V} {es:List (V × Ot)} (hv:Lc 3 lo H v ((es.map oC).flatten) es.length) (he:∀ e ∈ es,TellOk kind e.2) (hb:∀ e ∈ es,By m H e.1 e.2.b) (hl:es.length ≤ 32) :
  Ok (M.iter (zbh (sem T) v (.int .i64 (kind:Nat))) [.int .i64 0]) H fun r H'=>r = .ex 10 [] ∧ Grow H H':=by
 refine zbJ (fun i L H'=>L = [.int .i64 (i:Nat)] ∧ Grow H H') es.length ?_ ?_ ?_
 ·exact ⟨rfl,Grow.refl _⟩
 ·rintro i _ H1 hi ⟨rfl,s1⟩;have hv1:=hv.ext s1;have hvl:=hv1.vlen;have d1:decide (((i:Nat):Int) < ((es.length:Nat):Int)) = true:=decide_eq_true (by omega);have d1':decide (i < es.length) = true:=decide_eq_true hi;obtain ⟨p,hp,hpl⟩:=at3x (n:=0) hv1 hi;have fa:=@hpl.fa;obtain ⟨x,e2,exb,exk,hle,hgd⟩:=(he _ (List.getElem_mem hi)).x;have hbi:=(hb _ (List.getElem_mem hi)).ext s1;rw [e2] at hbi;have c2:(oC es[i])[2]? = some es[i].1:=rfl;have hol:(oC es[i]).length = 3:=rfl;have l2:∀ {f:V → M Res} {Q:Res → Heap → Prop},@OkB V Res (mload none (Ax.fa p 2)) H1 ⟨f⟩ ⟨Q⟩ ↔ Ok (f es[i].1) H1 Q:=fun {f Q}=>(hpl.ld (by omega)).trans (by rw [c2]; exact Iff.rfl);have w1:IntKind.i64.wrap (((i:Nat):Int) + 1) = ((i + 1:Nat):Int):=by rw [wrap_i64 (by omega) (by omega)]; omega
  generalize es[i].1 = bv at *;have bk:(((kind:Nat):Int) != ((kind:Nat):Int)) = false:=by simp
  unfold zbh uL uT uFM uE uB uI uO uc ug;simp (disch:=omega) only [↓RD,RZ,hvl,d1,d1',hp,fa,l2];refine zan (zpY hbi (by rw [exb]; intro y hy; cases hy) hle hgd) ?_;rintro _ H2 ⟨s2,v2,rfl,hv2⟩;have c0:(nC x v2)[0]? = some (.int .i64 (kind:Nat)):=by rw [← exk]; rfl
  refine zb6 rfl ?_;refine zb6 rfl ?_;refine zdy rfl rfl fun q H3 eq g3 s3 n3=>?_;simp (disch:=omega) only [↓RD,RZ,g3,c0,bk,w1];exact s1.trans (s2.trans s3)
 ·rintro _ H1 ⟨rfl,s1⟩;have hvl:=(hv.ext s1).vlen;have d1:decide (((es.length:Nat):Int) < ((es.length:Nat):Int)) = false:=decide_eq_false (by omega);have d1':decide (es.length < es.length) = false:=decide_eq_false (by omega);unfold zbh uL uT uFM uE uB uI uO uc ug;simp (disch:=omega) only [↓RD,RZ,hvl,d1,d1'];exact s1
end Go.Ax.SU
/- De27 -/
namespace Go.Ax.SU
open Go.Ax
theorem znj {a n:Nat} {K:Kd} {H:Heap} {L:Nat → V} {rm:Nat → Rm} {Q:Nat → List Ot} {ns:List Nat} {nw:Int} (hh:DW K H L rm Q ns nw) (ha:a < 64) (hn:n ≤ 32) :
  Ok (sem T zap [.ptr K.d 0,.agg [.int .i64 5,.int .i64 (a:Nat),.int .i64 (n:Nat),.nils]]) H fun r H'=>∃ v,r = .tup [v,.int .i64 0] ∧ ∃ (l:List (V × Ot)) (L':Nat → V),Lc 3 H.next H' v ((l.map oC).flatten) l.length ∧ l.map (·.2) = (Q a).take n ∧ (∀ e ∈ l,By K.lo H' e.1 e.2.b) ∧ FrD K.lo L L' H H' ∧ DW K H' L' rm (upd Q a ((Q a).drop n)) ns nw:=by
 refine zp1 (Q:=fun v H'=>∃ (l:List (V × Ot)) (L':Nat → V),Lc 3 H.next H' v ((l.map oC).flatten) l.length ∧ l.map (·.2) = (Q a).take n ∧ (∀ e ∈ l,By K.lo H' e.1 e.2.b) ∧ FrD K.lo L L' H H' ∧ DW K H' L' rm (upd Q a ((Q a).drop n)) ns nw) ha hn rfl rfl fun H1 s1=>?_;refine za9 (zo4 (hh.grow s1) ha hn) ?_;rintro v H2 ⟨l,x,h1,h2,h3,h4,h5⟩;exact ⟨l,_,Lc.low h1 s1.next,h2,h3,(s1.frD _ _).trans h4,h5⟩
def qtI (b:Nat) (Q:Nat → List Ot) (i:Nat):Nat → List Ot:=fun c=>if b ≤ c ∧ c < b + i then [] else Q c
theorem qtI_0 (b:Nat) (Q:Nat → List Ot):qtI b Q 0 = Q:=by
 funext c;unfold qtI;rw [if_neg (by omega)]
theorem qtI_at (b:Nat) (Q:Nat → List Ot) (i:Nat):qtI b Q i (b + i) = Q (b + i):=by
 unfold qtI;rw [if_neg (by omega)]
theorem qtI_succ {b:Nat} {Q:Nat → List Ot} (i:Nat) (h:(Q (b + i)).length ≤ 32):upd (qtI b Q i) (b + i) ((qtI b Q i (b + i)).drop 32) = qtI b Q (i + 1):=by
 rw [qtI_at,List.drop_of_length_le h];funext c;unfold upd qtI;by_cases hc:c = b + i
 ·rw [if_pos hc,if_pos (by omega)]
 ·rw [if_neg hc];by_cases h2:b ≤ c ∧ c < b + i
  ·rw [if_pos h2,if_pos (by omega)]
  ·rw [if_neg h2,if_neg (by omega)]
theorem zo5 {k sp:Nat} {K:Kd} {H:Heap} {L:Nat → V} {ns:List Nat} (hh:DW K H L (rmS k) (fun _=>[]) ns 400) (h1:1 ≤ k) (h4:k ≤ 4) (hsp:sp < 256) :
  Ok (M.iter (zbj (sem T) (.int .i64 (k:Nat)) (.int .u8 (sp:Nat)) (.ptr K.d 0)) [.int .i64 0]) H fun r H'=>r = .ex 4 [] ∧ DW K H' L (upd (rmS k) 3 (rS k (seN sp k))) (fun _=>[]) ns 400:=by
 have hX:zig (oneX 9) = true:=by decide
 refine zbJ (fun i L0 H'=>L0 = [.int .i64 (i:Nat)] ∧ DW K H' L (upd (rmS k) 3 (rS k (seN sp i))) (fun _=>[]) ns 400) k ?_ ?_ ?_
 ·refine ⟨rfl,?_⟩;have:upd (rmS k) 3 (rS k (seN sp 0)) = rmS k:=by
   have:=upd_same (rmS k) 3;exact this
  rw [this];exact hh
 ·rintro i _ H1 hi ⟨rfl,hd⟩;have d1:decide (((i:Nat):Int) < ((k:Nat):Int)) = true:=decide_eq_true (by omega);have d1':decide (i < k) = true:=decide_eq_true hi;have w0:IntKind.i64.wrap (20 + ((i:Nat):Int)) = ((20 + i:Nat):Int):=by rw [wrap_i64 (by omega) (by omega)]; omega
  have w1:IntKind.i64.wrap (((i:Nat):Int) + 1) = ((i + 1:Nat):Int):=by rw [wrap_i64 (by omega) (by omega)]; omega
  have cu:IntKind.u64.wrap ((i:Nat):Int) = ((i:Nat):Int):=by rw [wrap_u64]; omega
  have hb:shr sp i % 2 = if bitS sp i then 1 else 0:=by
   rw [zen,Nat.shiftRight_eq_div_pow];unfold bitS;rw [Nat.testBit_eq_decide_div_mod_eq];by_cases h:sp / 2 ^ i % 2 = 1
   ·rw [decide_eq_true h,h]; rfl
   ·rw [decide_eq_false h]; show _ = 0; omega
  have ea:Ax.bin .and (.int .u8 (shr sp i:Nat)) (.int .u8 1) = some (.int .u8 (if bitS sp i then 1 else 0:Nat)):=by
   have hle:shr sp i ≤ sp:=by rw [zen,Nat.shiftRight_eq_div_pow]; exact Nat.div_le_self _ _
   have:=@zrC ((shr sp i:Nat):Int) 1 (by omega) (by omega) (by decide) (by decide);rw [this];have:((shr sp i:Nat):Int).toNat &&& (1:Int).toNat = if bitS sp i then 1 else 0:=by
    rw [Int.toNat_natCast];show shr sp i &&& 1 = _;rw [Nat.and_one_is_mod];exact hb
   rw [this]
  unfold zbj uL uB uc ub ug;cases hbs:bitS sp i with
  | false =>
   rw [hbs] at ea;have es:seN sp (i + 1) = seN sp i:=by show (if bitS sp i then _ else _) = _; rw [hbs]; rfl
   rw [es];simp (disch:=omega) only [↓RD,RZ,d1,d1',cu,ea,w1];exact hd
  | true =>
   rw [hbs] at ea;have es:seN sp (i + 1) = (seN sp i).set i 400:=by show (if bitS sp i then _ else _) = _; rw [hbs]; rfl
   rw [es];simp (disch:=first | omega | (simp only [RY] <;> omega) | decide) only [↓RD,RZ,eq_self,Int.reduceToNat,Int.reduceAdd,Nat.reduceAdd,Nat.reduceSub,Nat.reduceMul,Nat.reduceLeDiff,d1,d1',cu,ea,w0];refine zan (says_ok (lo:=0) (k:=9) (r:=0) (s:=0) (e:=0) (n:=0) (m:=0) (b:=[]) Lc.nil (fun H' hb'=>zq4 (k:=9) (.inl rfl) hb') (by omega) (by omega) (by decide)) ?_;rintro bv H2 ⟨s2,hbv⟩;have hbv':By H1.next H2 bv (zbw (oneX 9)):=hbv.by;have c1:=hbv.by.cells1;have c2:=hbv.by.okc;simp (disch:=first | omega | (simp only [RY] <;> omega) | decide) only [↓RD,RZ,eq_self,Int.reduceToNat,Int.reduceAdd,Nat.reduceAdd,Nat.reduceSub,Nat.reduceMul,Nat.reduceLeDiff,c1,c2];obtain ⟨r1,r2,r3⟩:=zkR hX;have p0:=zmv hX;have b8:=bytesN_8 hX (by intro x hx; cases hx);have hg3:RmG (upd (rmS k) 3 (rS k (seN sp i)) 3):=by
    rw [zaY];exact rS_g h1 h4 (znu sp i) fun j hj=>by rw [zok sp i (by omega),if_neg (by omega)]
   have hw:zg5 (fun j=>(upd (rmS k) 3 (rS k (seN sp i)) j).t) ((20 + i:Nat):Int) = some (3,i):=by
    refine zkM (by decide) ?_ fun j hj=>?_
    ·rw [zaY]; exact inS_S h4 hi
    ·rw [upd_ne _ _ (by omega)];unfold rmS;rw [if_neg (by omega)];exact inS_Z _
   refine zan (zp2 (a:=20 + i) 0 (Q:=fun H'=>DW K H' L (upd (rmS k) 3 (rS k ((seN sp i).set i 400))) (fun _=>[]) ns 400) (by omega) c1 c2 fun H3 s3=>?_) ?_
   ·refine za9 (note9_ok (a:=20 + i) (i:=3) (s:=i) ((hd.grow s2).grow s3) (hbv'.ext s3) b8 (by decide) p0 (by rw [r1]; rfl) hw (by decide) (by omega) hg3) ?_;rintro r H4 ⟨rfl,f4,h4'⟩;refine ⟨rfl,?_⟩;rw [zaY,aliveS h4 hi] at h4';have:upd (upd (rmS k) 3 (rS k (seN sp i))) 3 (rS k ((seN sp i).set i 400)) = upd (rmS k) 3 (rS k ((seN sp i).set i 400)):=by funext b; unfold upd; split <;> rfl
    rw [this] at h4';exact h4'
   ·rintro _ H5 ⟨rfl,h5⟩;simp (disch:=omega) only [↓RD,RZ,w1];exact ⟨rfl,h5⟩
 ·rintro _ H1 ⟨rfl,hd⟩;have d1:decide (((k:Nat):Int) < ((k:Nat):Int)) = false:=decide_eq_false (by omega);have d1':decide (k < k) = false:=decide_eq_false (by omega);unfold zbj uL uB uc ub ug;simp (disch:=omega) only [↓RD,RZ,d1,d1'];exact hd
theorem zql {k sp t q:Nat} {H:Heap} (h1:1 ≤ k) (h4:k ≤ 4) (hsp:sp < 256) (ht:t < 1200) (g:H.get q = some ⟨zad,rC (rE k sp t),none⟩) :
  Ok (M.iter (zbi (sem T) (.int .i64 (k:Nat)) (.int .u8 (sp:Nat)) (.int .i64 (t:Nat)) (.ptr q 0)) [.int .i64 0,.int .i64 0,.int .i64 0]) H fun r H'=>r = .ex 6 [.int .i64 (cntL sp t k:Nat),.int .i64 (cntG sp t k:Nat)] ∧ H' = H:=by
 have S:=sE (sp:=sp) (t:=t) h1 h4;have ho:=S.g.o;refine zbJ (fun i L0 H'=>L0 = [.int .i64 (cntL sp t i:Nat),.int .i64 (cntG sp t i:Nat),.int .i64 (i:Nat)] ∧ H' = H) k ?_ ?_ ?_
 ·exact ⟨rfl,rfl⟩
 ·rintro i _ H1 hi ⟨rfl,rfl⟩;have d1:decide (((i:Nat):Int) < ((k:Nat):Int)) = true:=decide_eq_true (by omega);have d1':decide (i < k) = true:=decide_eq_true hi;have hadd:=zn9 sp t i;have w1:IntKind.i64.wrap (((i:Nat):Int) + 1) = ((i + 1:Nat):Int):=by rw [wrap_i64 (by omega) (by omega)]; omega
  have wl:IntKind.i64.wrap (((cntL sp t i:Nat):Int) + 1) = ((cntL sp t i + 1:Nat):Int):=by rw [wrap_i64 (by omega) (by omega)]; omega
  have wg:IntKind.i64.wrap (((cntG sp t i:Nat):Int) + 1) = ((cntG sp t i + 1:Nat):Int):=by rw [wrap_i64 (by omega) (by omega)]; omega
  have cu:IntKind.u64.wrap ((i:Nat):Int) = ((i:Nat):Int):=by rw [wrap_u64]; omega
  have hb:shr sp i % 2 = if bitS sp i then 1 else 0:=by
   rw [zen,Nat.shiftRight_eq_div_pow];unfold bitS;rw [Nat.testBit_eq_decide_div_mod_eq];by_cases h:sp / 2 ^ i % 2 = 1
   ·rw [decide_eq_true h,h]; rfl
   ·rw [decide_eq_false h]; show _ = 0; omega
  have ea:Ax.bin .and (.int .u8 (shr sp i:Nat)) (.int .u8 1) = some (.int .u8 (if bitS sp i then 1 else 0:Nat)):=by
   have hle:shr sp i ≤ sp:=by rw [zen,Nat.shiftRight_eq_div_pow]; exact Nat.div_le_self _ _
   have:=@zrC ((shr sp i:Nat):Int) 1 (by omega) (by omega) (by decide) (by decide);rw [this];have:((shr sp i:Nat):Int).toNat &&& (1:Int).toNat = if bitS sp i then 1 else 0:=by
    rw [Int.toNat_natCast];show shr sp i &&& 1 = _;rw [Nat.and_one_is_mod];exact hb
   rw [this]
  have i0:=fun {k}=>@ia8 q i (by omega:i < 8) k;have cI:=rC_u1 ho (i:=i) (by omega);rw [S.u i (by omega),decide_eq_true hi,Bool.true_and] at cI;have el:=zna sp t i;have eg:=zka sp t i;have k1:∀ b,decide (t < 100) = b → decide (((t:Nat):Int) < 100) = b:=fun b h=>by rw [← h]; exact decide_eq_decide.2 (by omega)
  have k5:∀ b,decide (t < 500) = b → decide (((t:Nat):Int) < 500) = b:=fun b h=>by rw [← h]; exact decide_eq_decide.2 (by omega)
  unfold stS at cI el eg;unfold zbi uL uF uB uIM uG uH uc ub ug;cases h100:decide (t < 100) with
  | true =>
   rw [h100] at cI el eg;have k1:=k1 _ h100;simp only [Bool.true_or,if_true,Nat.add_zero] at cI el eg;have ee:Ax.eqr .bool true (.bool true) (.bool true) = some (.bool false):=rfl;simp (disch:=omega) only [↓RD,RZ,d1,d1',k1,h100,i0,g,cI,ee,wl,w1];rw [el,eg]
  | false =>
   rw [h100] at cI el eg;have k1:=k1 _ h100;cases hbs:bitS sp i with
   | false =>
    rw [hbs] at cI el eg ea;simp only [Bool.false_or,Bool.false_and,Bool.false_eq_true,if_false,Nat.add_zero] at cI el eg;have ee:Ax.eqr .bool true (.bool false) (.bool false) = some (.bool false):=rfl;simp (disch:=omega) only [↓RD,RZ,d1,d1',k1,h100,cu,ea,i0,g,cI,ee,wg,w1];rw [el,eg]
   | true =>
    rw [hbs] at cI el eg ea;cases h500:decide (t < 500) with
    | true =>
     rw [h500] at cI el eg;have k5:=k5 _ h500;simp only [Bool.false_or,Bool.true_and,if_true,Nat.add_zero] at cI el eg;have ee:Ax.eqr .bool true (.bool true) (.bool true) = some (.bool false):=rfl;simp (disch:=omega) only [↓RD,RZ,d1,d1',k1,h100,k5,h500,cu,ea,i0,g,cI,ee,wl,w1];rw [el,eg]
    | false =>
     rw [h500] at cI el eg;have k5:=k5 _ h500;simp only [Bool.false_or,Bool.true_and,Bool.false_eq_true,if_false,Nat.add_zero] at cI el eg;have ee:Ax.eqr .bool true (.bool false) (.bool false) = some (.bool false):=rfl;simp (disch:=omega) only [↓RD,RZ,d1,d1',k1,h100,k5,h500,cu,ea,i0,g,cI,ee,wg,w1];rw [el,eg]
 ·rintro _ H1 ⟨rfl,rfl⟩;have d1:decide (((k:Nat):Int) < ((k:Nat):Int)) = false:=decide_eq_false (by omega);have d1':decide (k < k) = false:=decide_eq_false (by omega);unfold zbi uL uF uB uIM uG uH uc ub ug;simp (disch:=omega) only [↓RD,RZ,d1,d1']
end Go.Ax.SU
/- De28 -/
namespace Go.Ax.SU
open Go.Ax
theorem zns {k sp t qb:Nat} {K:Kd} {H:Heap} {L:Nat → V} {rm:Nat → Rm} {ns:List Nat} {nw:Int} (hh:DW K H L rm (qE k sp t) ns nw) (h1:1 ≤ k) (h4:k ≤ 4) (hqb:K.lo ≤ qb) (hqb':qb < H.next) (hqL:∀ c,c < 64 → (L c).pid ≠ some qb) (g:H.get qb = some ⟨zad,rC (rE k sp t),none⟩) :
  Ok (M.iter (zbg (sem T) (.int .i64 (k:Nat)) (.ptr K.d 0) (.ptr qb 0) (.int .i64 (cntG sp t k:Nat))) [.int .i64 0]) H fun r H'=>r = .ex 8 []:=by
 have S:=sE (sp:=sp) (t:=t) h1 h4;have ho:=S.g.o;have hadd:=zn9 sp t k;refine zbJ (fun i L0 H'=>L0 = [.int .i64 (i:Nat)] ∧ qb < H'.next ∧ ∃ L',DW K H' L' rm (qtI 20 (qE k sp t) i) ns nw ∧ (∀ c,c < 64 → (L' c).pid ≠ some qb) ∧ H'.get qb = some ⟨zad,rC (rE k sp t),none⟩) k ?_ ?_ ?_
 ·refine ⟨rfl,hqb',L,?_,hqL,g⟩;rw [qtI_0];exact hh
 ·rintro i _ H1 hi ⟨rfl,q1,L1,hd,hL1,g1⟩;have d1:decide (((i:Nat):Int) < ((k:Nat):Int)) = true:=decide_eq_true (by omega);have d1':decide (i < k) = true:=decide_eq_true hi;have w0:IntKind.i64.wrap (20 + ((i:Nat):Int)) = ((20 + i:Nat):Int):=by rw [wrap_i64 (by omega) (by omega)]; omega
  have w1:IntKind.i64.wrap (((i:Nat):Int) + 1) = ((i + 1:Nat):Int):=by rw [wrap_i64 (by omega) (by omega)]; omega
  have i0:=fun {k}=>@ia8 qb i (by omega:i < 8) k;have cI:=rC_u1 ho (i:=i) (by omega);rw [S.u i (by omega),decide_eq_true hi,Bool.true_and] at cI;have hgl8:=zhr (rS k (seN sp k)) (rE k sp t) 8;have hlen:(qE k sp t (20 + i)).length ≤ 32:=by
   cases hs:stS sp t i with
   | true=>rw [zqG h1 h4 hi hs,List.length_map]; omega
   | false=>rw [zqH h1 h4 hi hs]; show (1:Nat) ≤ 32; decide
  unfold zbg uL uF uE uB uIM uc ug;simp (disch:=first | omega | (simp only [RY] <;> omega) | decide) only [↓RD,RZ,eq_self,Int.reduceToNat,Int.reduceAdd,Nat.reduceAdd,Nat.reduceSub,Nat.reduceMul,Nat.reduceLeDiff,d1,d1',w0];refine zan (znj (a:=20 + i) (n:=32) hd (by omega) (by omega)) ?_;rintro _ H2 ⟨v,rfl,l2,L2,hv,hl,hbs,f2,h2⟩;rw [qtI_succ i hlen] at h2;rw [qtI_at,List.take_of_length_le hlen] at hl;have hvl:=hv.vlen;have n2:=f2.next;have hL2:∀ c,c < 64 → (L2 c).pid ≠ some qb:=fun c hc e'=>by
   rcases f2.own c qb hc e' with h | ⟨b',hb',h⟩
   ·omega
   ·exact hL1 b' hb' h
  have g2:=(f2.same qb hqb q1 hL1).trans g1;have hl2:l2.length = (qE k sp t (20 + i)).length:=by rw [← hl,List.length_map]
  cases hs:stS sp t i with
  | true =>
   rw [hs] at cI;rw [zqG h1 h4 hi hs] at hl hl2;rw [List.length_map,S.ln] at hl2;have bl:(((l2.length:Nat):Int) != ((cntG sp t k:Nat):Int)) = false:=by rw [hl2]; simp
   have bl':(l2.length != cntG sp t k) = false:=by rw [hl2]; simp
   have htell:∀ e ∈ l2,TellOk 20 e.2:=fun e he=>by
    have:e.2 ∈ l2.map (·.2):=List.mem_map_of_mem he;rw [hl] at this;obtain ⟨g',hg',e'⟩:=List.mem_map.1 this;rw [← e'];exact zp9 (c:=20 + i) h1 h4 hg'
   simp (disch:=omega) only [↓RD,RZ,i0,g2,cI,hvl,bl,bl'];refine za9 (zjq (kind:=20) hv htell hbs (by rw [hl2]; omega)) ?_;rintro _ H3 ⟨rfl,s3⟩;have n3:=s3.next;simp (disch:=omega) only [↓RD,RZ,w1];exact ⟨rfl,by omega,L2,h2.grow s3,hL2,(s3.same qb (by omega)).trans g2⟩
  | false =>
   rw [hs] at cI;rw [zqH h1 h4 hi hs] at hl hl2;have bl:(((l2.length:Nat):Int) != 1) = false:=by rw [hl2]; rfl
   have bl':(l2.length == 1) = true:=by rw [hl2]; rfl
   have bl2:(((l2.length:Nat):Int) == 1) = true:=by rw [hl2]; rfl
   have htell:∀ e ∈ l2,TellOk 23 e.2:=fun e he=>by
    have:e.2 ∈ l2.map (·.2):=List.mem_map_of_mem he;rw [hl,List.mem_singleton] at this;rw [this];exact zqL (20 + i)
   simp (disch:=omega) only [↓RD,RZ,i0,g2,cI,hvl,bl,bl',bl2,Bool.not_true];refine za9 (zjq (kind:=23) hv htell hbs (by rw [hl2]; show (1:Nat) ≤ 32; decide)) ?_;rintro _ H3 ⟨rfl,s3⟩;have n3:=s3.next;simp (disch:=omega) only [↓RD,RZ,w1];exact ⟨rfl,by omega,L2,h2.grow s3,hL2,(s3.same qb (by omega)).trans g2⟩
 ·rintro _ H1 ⟨rfl,-,-⟩;have d1:decide (((k:Nat):Int) < ((k:Nat):Int)) = false:=decide_eq_false (by omega);have d1':decide (k < k) = false:=decide_eq_false (by omega);unfold zbg uL uF uE uB uIM uc ug;simp (disch:=omega) only [↓RD,RZ,d1,d1']
theorem rmS_o (k:Nat):∀ i,i < 4 → RmO (rmS k i):=by
 intro i hi;unfold rmS;split
 ·exact ⟨tS_o k,rfl,rfl⟩
 ·exact rmZ_o
theorem rmZ_T {now:Int} (h:0 ≤ now):RmT rmZ now:=by
 refine ⟨rmZ_g,rfl,rfl,by decide,fun j hj=>?_⟩;have:rmZ.se.getD j 0 = 0:=by
  show (List.replicate 8 (0:Int)).getD j 0 = 0;rw [List.getD_eq_getElem?_getD,List.getElem?_replicate];split <;> rfl
 rw [this];exact ⟨Int.le_refl _,h⟩
theorem silZ (now:Int) (j:Nat) (hj:j < 8):silS rmZ now j = false:=by
 unfold silS;have:rmZ.t.uG j = false:=by
  have:j = 0 ∨ j = 1 ∨ j = 2 ∨ j = 3 ∨ j = 4 ∨ j = 5 ∨ j = 6 ∨ j = 7:=by omega
  rcases this with rfl | rfl | rfl | rfl | rfl | rfl | rfl | rfl <;> rfl
 rw [this,Bool.false_and]
theorem rem_kn (k:IntKind) (x m:Nat) (hm:m ≠ 0):Ax.bin .rem (.int k (x:Nat)) (.int k (m:Nat)) = some (.int k (x % m:Nat)):=by
 have h0:¬ ((m:Nat):Int) = 0:=by omega
 have e:((x:Nat):Int).tmod (m:Nat) = ((x % m:Nat):Int):=by rw [Int.tmod_eq_emod_of_nonneg (by omega)]; exact (Int.natCast_emod x m).symm
 simp only [Ax.bin,zde];rw [if_pos trivial,if_neg h0,e]
theorem zqx {n sp tk:Nat} (hn:n < 256) (hsp:sp < 256) (htk:tk < 65536):Ok (sem T zbm [.int .u8 (n:Nat),.int .u8 (sp:Nat),.int .u16 (tk:Nat)]) H0 fun r H'=>r = .bool true:=by
 refine zdS ?_;unfold zcv uL uT uE uB uG uH uO uc ub ug;have rn:Ax.bin .rem (.int .u8 (n:Nat)) (.int .u8 4) = some (.int .u8 (n % 4:Nat)):=rem_kn .u8 n 4 (by decide);have rt:Ax.bin .rem (.int .u16 (tk:Nat)) (.int .u16 1200) = some (.int .u16 (tk % 1200:Nat)):=rem_kn .u16 tk 1200 (by decide);have rn':((n:Nat):Int) % 4 = ((n % 4:Nat):Int):=by omega
 have rt':((tk:Nat):Int) % 1200 = ((tk % 1200:Nat):Int):=by omega
 have hn4:n % 4 < 4:=Nat.mod_lt _ (by decide);have ht:tk % 1200 < 1200:=Nat.mod_lt _ (by decide);generalize n % 4 = k0 at *;generalize tk % 1200 = t at *;have cn:IntKind.i64.wrap ((k0:Nat):Int) = ((k0:Nat):Int):=wrap_i64 (by omega) (by omega);have ct:IntKind.i64.wrap ((t:Nat):Int) = ((t:Nat):Int):=wrap_i64 (by omega) (by omega);have wk:IntKind.i64.wrap (((k0:Nat):Int) + 1) = ((k0 + 1:Nat):Int):=by rw [wrap_i64 (by omega) (by omega)]; omega
 have h1:1 ≤ k0 + 1:=by omega
 have h4:k0 + 1 ≤ 4:=by omega
 obtain ⟨K,L,H1,J,J',hnew,haw,hj,hjj,hts,hd⟩:=preJ_da (rmS_o (k0 + 1)) (pre_S h1 h4);refine zaz ⟨_,_,hnew,?_⟩;refine zaz ⟨_,_,haw,?_⟩;have e1:Ax.eqr .ptr false (.ptr K.d 0) .nilp = some (.bool false):=rfl;simp (disch:=omega) only [↓RD,RZ,e1,rn,rt,rn',rt',cn,ct,wk];generalize k0 + 1 = k at *;refine za9 (Q:=fun r H'=>r = .ex 0 [] ∧ H' = J k) ?_ ?_
 ·refine zbJ (fun i L0 H'=>L0 = [.int .i64 (i:Nat)] ∧ H' = J i) k ?_ ?_ ?_
  ·exact ⟨rfl,rfl⟩
  ·rintro i _ _ hi ⟨rfl,rfl⟩;have d1:decide (((i:Nat):Int) < ((k:Nat):Int)) = true:=decide_eq_true (by omega);have d1':decide (i < k) = true:=decide_eq_true hi;have w0:IntKind.i64.wrap (20 + ((i:Nat):Int)) = ((20 + i:Nat):Int):=by rw [wrap_i64 (by omega) (by omega)]; omega
   have w1:IntKind.i64.wrap (((i:Nat):Int) + 1) = ((i + 1:Nat):Int):=by rw [wrap_i64 (by omega) (by omega)]; omega
   obtain ⟨s,hs⟩:=hj i hi;unfold zbE uL uE uB uc ug;simp (disch:=omega) only [↓RD,RZ,d1,d1',w0];refine zaz ⟨_,_,hs,?_⟩;simp (disch:=omega) only [↓RD,RZ,w1,Bool.not_true]
  ·rintro _ _ ⟨rfl,rfl⟩;have d1:decide (((k:Nat):Int) < ((k:Nat):Int)) = false:=decide_eq_false (by omega);have d1':decide (k < k) = false:=decide_eq_false (by omega);unfold zbE uL uE uB uc ug;simp (disch:=omega) only [↓RD,RZ,d1,d1']
 rintro _ _ ⟨rfl,rfl⟩;simp (disch:=omega) only [↓RD,RZ];refine za9 (Q:=fun r H'=>r = .ex 2 [] ∧ H' = J' k) ?_ ?_
 ·refine zbJ (fun i L0 H'=>L0 = [.int .i64 (i:Nat)] ∧ H' = J' i) k ?_ ?_ ?_
  ·exact ⟨rfl,hjj⟩
  ·rintro i _ _ hi ⟨rfl,rfl⟩;have d1:decide (((i:Nat):Int) < ((k:Nat):Int)) = true:=decide_eq_true (by omega);have d1':decide (i < k) = true:=decide_eq_true hi;have w0:IntKind.i64.wrap (20 + ((i:Nat):Int)) = ((20 + i:Nat):Int):=by rw [wrap_i64 (by omega) (by omega)]; omega
   have w1:IntKind.i64.wrap (((i:Nat):Int) + 1) = ((i + 1:Nat):Int):=by rw [wrap_i64 (by omega) (by omega)]; omega
   obtain ⟨s,hs⟩:=hts i hi;unfold zbD uL uB uc ug;simp (disch:=first | omega | (simp only [RY] <;> omega) | decide) only [↓RD,RZ,eq_self,Int.reduceToNat,Int.reduceAdd,Nat.reduceAdd,Nat.reduceSub,Nat.reduceMul,Nat.reduceLeDiff,d1,d1',w0];refine zaz ⟨_,_,hs,?_⟩;simp (disch:=omega) only [↓RD,RZ,w1]
  ·rintro _ _ ⟨rfl,rfl⟩;have d1:decide (((k:Nat):Int) < ((k:Nat):Int)) = false:=decide_eq_false (by omega);have d1':decide (k < k) = false:=decide_eq_false (by omega);unfold zbD uL uB uc ug;simp (disch:=omega) only [↓RD,RZ,d1,d1']
 rintro _ _ ⟨rfl,rfl⟩;have hz8:∀ j,k ≤ j → (List.replicate 8 (0:Int)).getD j 0 = 0:=fun j _=>by
  rw [List.getD_eq_getElem?_getD,List.getElem?_replicate];split <;> rfl
 have T400:∀ i,i < 4 → RmT (rmS k i) (0 + 400):=fun i hi=>by
  unfold rmS;split
  ·refine ⟨rS_g h1 h4 rfl hz8,rfl,rfl,by show (0:Int) + 8 ≤ 65535; decide,fun j hj=>?_⟩;have:(rS k (List.replicate 8 0)).se.getD j 0 = 0:=by
    show (List.replicate 8 (0:Int)).getD j 0 = 0;rw [List.getD_eq_getElem?_getD,List.getElem?_replicate];split <;> rfl
   rw [this];decide
  ·exact rmZ_T (by decide)
 have S400:∀ i,i < 4 → ∀ j,j < 8 → silS (rmS k i) (0 + 400) j = false:=fun i hi j hj=>by
  unfold rmS;split
  ·unfold silS;have:(rS k (List.replicate 8 0)).se.getD j 0 = 0:=by
    show (List.replicate 8 (0:Int)).getD j 0 = 0;rw [List.getD_eq_getElem?_getD,List.getElem?_replicate];split <;> rfl
   rw [this,decide_eq_false (by decide),Bool.and_false]
  ·exact silZ _ j hj
 simp (disch:=first | omega | (simp only [RY] <;> omega) | decide) only [↓RD,RZ,eq_self,Int.reduceToNat,Int.reduceAdd,Nat.reduceAdd,Nat.reduceSub,Nat.reduceMul,Nat.reduceLeDiff];refine zan (zlc (bv:=.nils) (n:=400) (a:=0) (Q:=fun H'=>∃ L',FrD K.lo L L' (J' k) H' ∧ DW K H' L' (rmS k) (fun _=>[]) (List.replicate 11 0) 400) (by decide) (by decide) rfl rfl fun H2 s2=>?_) ?_
 ·refine za9 (zqf (B:=1) (hd.grow s2) (i1:=3) (n:=400) (by decide) (by decide) T400 (fun i hi _=>S400 i hi) (by decide) (by decide) (fun c=>by show (0:Nat) ≤ 1; decide)) ?_;rintro r H3 ⟨rfl,L3,f3,h3⟩;rw [zl8 (S400 3 (by decide)),zkN,upd_same] at h3;exact ⟨rfl,L3,(s2.frD _ _).trans f3,h3⟩
 rintro _ H4 ⟨rfl,L4,f4,h4'⟩;simp (disch:=omega) only [↓RD,RZ];refine za9 (zo5 h4' h1 h4 hsp) ?_;rintro _ H5 ⟨rfl,h5⟩;have Tt:∀ i,i < 4 → RmT (upd (rmS k) 3 (rS k (seN sp k)) i) (400 + (t:Nat)):=fun i hi=>by
  by_cases h:i = 3
  ·subst h;rw [zaY];exact rS_T h1 h4 (by omega)
  ·rw [upd_ne _ _ h];unfold rmS;rw [if_neg h];exact rmZ_T (by omega)
 have St:∀ i,i < 4 → i ≠ 3 → ∀ j,j < 8 → silS (upd (rmS k) 3 (rS k (seN sp k)) i) (400 + (t:Nat)) j = false:=fun i hi h j hj=>by
  rw [upd_ne _ _ h];unfold rmS;rw [if_neg h];exact silZ _ j hj
 simp (disch:=first | omega | (simp only [RY] <;> omega) | decide) only [↓RD,RZ,eq_self,Int.reduceToNat,Int.reduceAdd,Nat.reduceAdd,Nat.reduceSub,Nat.reduceMul,Nat.reduceLeDiff];refine zan (zlc (bv:=.nils) (n:=(t:Nat)) (a:=0) (Q:=fun H'=>∃ L',FrD K.lo L4 L' H5 H' ∧ DW K H' L' (upd (rmS k) 3 (rE k sp t)) (qE k sp t) (List.replicate 11 0) (400 + (t:Nat))) (by omega) (by omega) rfl rfl fun H2 s2=>?_) ?_
 ·refine za9 (zqf (B:=1) (h5.grow s2) (i1:=3) (n:=(t:Nat)) (by decide) (by omega) Tt St (by decide) (by decide) (fun c=>by show (0:Nat) ≤ 1; decide)) ?_;rintro r H3 ⟨rfl,L3,f3,h3⟩;rw [zaY] at h3;have et:zd8 (rS k (seN sp k)) (400 + ((t:Nat):Int)) = rE k sp t:=by
   unfold rE;rw [show (400:Int) + ((t:Nat):Int) = ((400 + t:Nat):Int) by omega]
  have eu:upd (upd (rmS k) 3 (rS k (seN sp k))) 3 (rE k sp t) = upd (rmS k) 3 (rE k sp t):=by funext b; unfold upd; split <;> rfl
  rw [et,eu] at h3;exact ⟨rfl,L3,(s2.frD _ _).trans f3,h3⟩
 rintro _ H6 ⟨rfl,L6,f6,h6⟩;simp (disch:=omega) only [↓RD,RZ];refine zan (Room_ok h6 (i:=3) (by decide)) ?_;rintro _ H7 ⟨rfl,s7⟩;rw [zaY];have h7:=h6.grow s7;have S:=sE (sp:=sp) (t:=t) h1 h4;have ho:=S.g.o;have spz:=zg9 ho;have l0:=zb5 ho;have ok0:=zfy (rE k sp t);have gz:∀ b c,Grow H7 ((H7.new b).set H7.next c):=fun b c=>AtS.new (S:=[H7.next]) (Grow.new H7 b) (AtS.set _ (by simp) c) (by simp);have s8:=gz ⟨zad,zRl,none⟩ (some ⟨zad,rC (rE k sp t),none⟩);have g8:((H7.new ⟨zad,zRl,none⟩).set H7.next (some ⟨zad,rC (rE k sp t),none⟩)).get H7.next = some ⟨zad,rC (rE k sp t),none⟩:=zaS _ _ _;have n8:((H7.new ⟨zad,zRl,none⟩).set H7.next (some ⟨zad,rC (rE k sp t),none⟩)).next = H7.next + 1:=by rw [zbP,zao]
 have hold:∀ c,c < 64 → (L6 c).pid ≠ some H7.next:=fun c hc=>h7.old hc (Nat.le_refl _);have hlo:=h7.lo;simp (disch:=first | omega | (simp only [RY] <;> omega) | decide) only [↓RD,RZ,eq_self,Int.reduceToNat,Int.reduceAdd,Nat.reduceAdd,Nat.reduceSub,Nat.reduceMul,Nat.reduceLeDiff,spz,l0,ok0];generalize (H7.new ⟨zad,zRl,none⟩).set H7.next (some ⟨zad,rC (rE k sp t),none⟩) = H8 at *;generalize H7.next = qb at *;refine za9 (zql h1 h4 hsp ht g8) ?_;rintro _ _ ⟨rfl,rfl⟩;simp (disch:=omega) only [↓RD,RZ];refine za9 (zns (h7.grow s8) h1 h4 hlo (by omega) hold g8) ?_;rintro _ H9 rfl;have hadd:=zn9 sp t k;have ws:IntKind.i64.wrap (((cntL sp t k:Nat):Int) + ((cntG sp t k:Nat):Int)) = ((k:Nat):Int):=by rw [wrap_i64 (by omega) (by omega)]; omega
 have bk:(((k:Nat):Int) == ((k:Nat):Int)) = true:=by simp
 simp (disch:=omega) only [↓RD,RZ,ws,bk]
end Go.Ax.SU
namespace Go.Ax
open SU
theorem law_deskSilent (us:List V) (h:zrP [.int .u8,.int .u8,.int .u16] us):∃ H',sem T zbm us H0 = some (.bool true,H'):=by
 obtain ⟨a1,a2,a3,rfl⟩:∃ a1 a2 a3,us = [a1,a2,a3]:=by
  rcases us with _ | ⟨a1,_ | ⟨a2,_ | ⟨a3,_ | ⟨a4,us⟩⟩⟩⟩
  ·cases h
  ·cases h.2
  ·cases h.2.2
  ·exact ⟨a1,a2,a3,rfl⟩
  ·cases h.2.2.2
 obtain ⟨n1,h1,h1'⟩:=sh_u8 h.1;obtain ⟨n2,h2,h2'⟩:=sh_u8 h.2.1;obtain ⟨n3,h3,h3'⟩:=sh_u16 h.2.2.1;cases h1; cases h2; cases h3;obtain ⟨r,H',k1,rfl⟩:=zqx h1' h2' h3';exact ⟨H',k1⟩
end Go.Ax
