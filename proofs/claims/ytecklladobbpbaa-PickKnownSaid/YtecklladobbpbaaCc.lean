/-
  The functions of closed calls, over a heap to compute with: printed by program (wip/gen/Emit.lean).
-/
import Derived.Test.YtecklladobbpbaaAx21
import Derived.Test.YtecklladobbpbaaFn1
import Derived.Test.YtecklladobbpbaaFn2
set_option maxRecDepth 100000
set_option linter.unusedVariables false
namespace Go.Ax.Cc
open Go.Proofs

/-- palanquin/palanquinlaw20.PickKnown. -/
def f_palanquinlaw20_PickKnown (G : Sem') : M Res :=
  (G fn_palanquinlaw20_awake []).bind fun t11 =>
  (M.lift (Ax.un .not t11)).bind fun t12 =>
  M.ite t12
    (M.pure (.ret [(V.bool false)]))
    ((G fn_palanquinlaw20_three []).bind fun t14 =>
    (G fn_pick_Fits [t14, (V.int .u32 1), (V.int .i64 3), (V.int .i64 7)]).bind fun t15 =>
    (M.lift (Ax.ext 0 t15)).bind fun t16 =>
    (M.lift (Ax.ext 1 t15)).bind fun t17 =>
    (G fn_palanquinlaw20_three []).bind fun t19 =>
    (G fn_pick_Fits [t19, (V.int .u32 0), (V.int .i64 3), (V.int .i64 7)]).bind fun t20 =>
    (M.lift (Ax.ext 0 t20)).bind fun t21 =>
    (M.lift (Ax.ext 1 t20)).bind fun t22 =>
    (M.lift (Ax.build [(V.int .i64 0), (V.int .i64 0), V.nils, (V.int .i64 0), V.nils, V.nils] [])).bind fun t24 =>
    (G fn_pick_Fits [t24, (V.int .u32 7), (V.int .i64 3), (V.int .i64 7)]).bind fun t25 =>
    (M.lift (Ax.ext 0 t25)).bind fun t26 =>
    (M.lift (Ax.ext 1 t25)).bind fun t27 =>
    (G fn_palanquinlaw20_three []).bind fun t29 =>
    (G fn_pick_Fits [t29, (V.int .u32 6), (V.int .i64 0), (V.int .i64 0)]).bind fun t30 =>
    (M.lift (Ax.ext 0 t30)).bind fun t31 =>
    (M.lift (Ax.ext 1 t30)).bind fun t32 =>
    (G fn_palanquinlaw20_three []).bind fun t34 =>
    (G fn_pick_Fits [t34, (V.int .u32 7), (V.int .i64 1), (V.int .i64 0)]).bind fun t35 =>
    (M.lift (Ax.ext 0 t35)).bind fun t36 =>
    (M.lift (Ax.ext 1 t35)).bind fun t37 =>
    (guarded [(0, t17)] (some (0, true)) (M.pure t16)).bind fun t40 =>
    (guarded [(0, t17)] (some (0, true)) (M.lift (Ax.bin .eql t40 (V.int .i64 0)))).bind fun t41 =>
    (M.lift (Ax.pick t17 t41 (V.bool false))).bind fun t42 =>
    (guarded [(0, t42)] (some (0, true)) (M.pure t22)).bind fun t44 =>
    (guarded [(0, t42)] (some (0, true)) (M.lift (Ax.un .not t44))).bind fun t45 =>
    (M.lift (Ax.pick t42 t45 (V.bool false))).bind fun t46 =>
    (guarded [(0, t46)] (some (0, true)) (M.pure t27)).bind fun t48 =>
    (guarded [(0, t46)] (some (0, true)) (M.lift (Ax.un .not t48))).bind fun t49 =>
    (M.lift (Ax.pick t46 t49 (V.bool false))).bind fun t50 =>
    (guarded [(0, t50)] (some (0, true)) (M.pure t32)).bind fun t52 =>
    (guarded [(0, t50)] (some (0, true)) (M.lift (Ax.un .not t52))).bind fun t53 =>
    (M.lift (Ax.pick t50 t53 (V.bool false))).bind fun t54 =>
    (guarded [(0, t54)] (some (0, true)) (M.pure t31)).bind fun t56 =>
    (guarded [(0, t54)] (some (0, true)) (M.lift (Ax.bin .eql t56 (V.int .i64 0)))).bind fun t57 =>
    (M.lift (Ax.pick t54 t57 (V.bool false))).bind fun t58 =>
    (guarded [(0, t58)] (some (0, true)) (M.pure t37)).bind fun t60 =>
    (M.lift (Ax.pick t58 t60 (V.bool false))).bind fun t61 =>
    (guarded [(0, t61)] (some (0, true)) (M.pure t36)).bind fun t63 =>
    (guarded [(0, t61)] (some (0, true)) (M.lift (Ax.bin .eql t63 (V.int .i64 0)))).bind fun t64 =>
    (M.lift (Ax.pick t61 t64 (V.bool false))).bind fun t65 =>
    (guarded [(0, t65)] (some (0, true)) (mslit ty_int 2 [(V.int .i64 0)] [(0, 1, (V.int .i64 (-1))), (1, 1, (V.int .i64 3))])).bind fun t67 =>
    (guarded [(0, t65)] (some (0, true)) (G fn_pick_Source [(V.int .u64 0), t67])).bind fun t68 =>
    (guarded [(0, t65)] (some (0, true)) (M.lift (Ax.bin .eql t68 (V.int .i64 1)))).bind fun t69 =>
    (M.lift (Ax.pick t65 t69 (V.bool false))).bind fun t70 =>
    (guarded [(0, t70)] (some (0, true)) (mslit ty_int 3 [(V.int .i64 0)] [(0, 1, (V.int .i64 1)), (1, 1, (V.int .i64 2)), (2, 1, (V.int .i64 (-5)))])).bind fun t72 =>
    (guarded [(0, t70)] (some (0, true)) (G fn_pick_Source [(V.int .u64 18446744073709551615), t72])).bind fun t73 =>
    (guarded [(0, t70)] (some (0, true)) (M.lift (Ax.bin .eql t73 (V.int .i64 1)))).bind fun t74 =>
    (M.lift (Ax.pick t70 t74 (V.bool false))).bind fun t75 =>
    (guarded [(0, t75)] (some (0, true)) (G fn_pick_Source [(V.int .u64 9), V.nils])).bind fun t77 =>
    (guarded [(0, t75)] (some (0, true)) (M.lift (Ax.bin .eql t77 (V.int .i64 0)))).bind fun t78 =>
    (M.lift (Ax.pick t75 t78 (V.bool false))).bind fun t79 =>
    (guarded [(0, t79)] (some (0, true)) (mslit ty_int 1 [(V.int .i64 0)] [(0, 1, (V.int .i64 (-1)))])).bind fun t81 =>
    (guarded [(0, t79)] (some (0, true)) (G fn_pick_Source [(V.int .u64 9), t81])).bind fun t82 =>
    (guarded [(0, t79)] (some (0, true)) (M.lift (Ax.bin .eql t82 (V.int .i64 0)))).bind fun t83 =>
    (M.lift (Ax.pick t79 t83 (V.bool false))).bind fun t84 =>
    (guarded [(0, t84)] (some (0, true)) (mslit ty_int 1 [(V.int .i64 0)] [(0, 1, (V.int .i64 1))])).bind fun t86 =>
    (guarded [(0, t84)] (some (0, true)) (M.lift (Ax.build [(V.bool false), (V.bool false), (V.int .i64 0), (V.int .u16 0), (V.bool false), (V.int .i64 0), (V.int .i64 0), V.nils, (V.int .i64 0), V.nils, V.nils, (V.bool false), (V.int .u32 0), (V.bool false), (V.bool false), (V.bool false), V.nils, V.nils, V.nils] [(16, 1, t86)]))).bind fun t87 =>
    (guarded [(0, t84)] (some (0, true)) (G fn_pick_In [t87, (V.int .i64 1)])).bind fun t88 =>
    (guarded [(0, t84)] (some (0, true)) (M.lift (Ax.un .not t88))).bind fun t89 =>
    (M.lift (Ax.pick t84 t89 (V.bool false))).bind fun t90 =>
    (guarded [(0, t90)] (some (0, true)) (mslit ty_int 1 [(V.int .i64 0)] [(0, 1, (V.int .i64 1))])).bind fun t92 =>
    (guarded [(0, t90)] (some (0, true)) (M.lift (Ax.build [(V.bool false), (V.bool false), (V.int .i64 0), (V.int .u16 0), (V.bool false), (V.int .i64 0), (V.int .i64 0), V.nils, (V.int .i64 0), V.nils, V.nils, (V.bool false), (V.int .u32 0), (V.bool false), (V.bool false), (V.bool false), V.nils, V.nils, V.nils] [(16, 1, t92)]))).bind fun t93 =>
    (guarded [(0, t90)] (some (0, true)) (G fn_pick_In [t93, (V.int .i64 (-1))])).bind fun t94 =>
    (guarded [(0, t90)] (some (0, true)) (M.lift (Ax.un .not t94))).bind fun t95 =>
    (M.lift (Ax.pick t90 t95 (V.bool false))).bind fun t96 =>
    (guarded [(0, t96)] (some (0, true)) (mslit ty_int 1 [(V.int .i64 0)] [(0, 1, (V.int .i64 0))])).bind fun t98 =>
    (guarded [(0, t96)] (some (0, true)) (M.lift (Ax.build [(V.bool false), (V.bool false), (V.int .i64 0), (V.int .u16 0), (V.bool false), (V.int .i64 0), (V.int .i64 0), V.nils, (V.int .i64 0), V.nils, V.nils, (V.bool false), (V.int .u32 0), (V.bool false), (V.bool false), (V.bool false), V.nils, V.nils, V.nils] [(16, 1, t98)]))).bind fun t99 =>
    (guarded [(0, t96)] (some (0, true)) (G fn_pick_In [t99, (V.int .i64 0)])).bind fun t100 =>
    (guarded [(0, t96)] (some (0, true)) (M.lift (Ax.un .not t100))).bind fun t101 =>
    (M.lift (Ax.pick t96 t101 (V.bool false))).bind fun t102 =>
    M.pure (.ret [t102]))

theorem eq_palanquinlaw20_PickKnown (G : Sem') : execK G ir_palanquinlaw20_PickKnown.rv ir_palanquinlaw20_PickKnown.body [] [] (params 0 []) = f_palanquinlaw20_PickKnown G := by kernel_rfl

def d_palanquinlaw20_PickKnown (G : Sem') : List V → M V
  | [] => fin (f_palanquinlaw20_PickKnown G)
  | _ => M.fail

theorem s_palanquinlaw20_PickKnown {g : Sem'} (hg : Sims g (sem T)) (args : List V) : Sim (d_palanquinlaw20_PickKnown g args) (sem T fn_palanquinlaw20_PickKnown args) := by
  unfold d_palanquinlaw20_PickKnown
  split
  · exact sim_fn tb_palanquinlaw20_PickKnown (Nat.le_of_ble_eq_true rfl) hg (eq_palanquinlaw20_PickKnown g)
  · exact sim_fail

/-- palanquin/palanquinlaw20.awake. -/
def f_palanquinlaw20_awake (G : Sem') : M Res :=
  (G fn_palanquinlaw20_three []).bind fun t6 =>
  (G fn_pick_Fits [t6, (V.int .u32 7), (V.int .i64 3), (V.int .i64 7)]).bind fun t7 =>
  (M.lift (Ax.ext 0 t7)).bind fun t8 =>
  (M.lift (Ax.ext 1 t7)).bind fun t9 =>
  (G fn_palanquinlaw20_three []).bind fun t11 =>
  (G fn_pick_Fits [t11, (V.int .u32 7), (V.int .i64 0), (V.int .i64 7)]).bind fun t12 =>
  (M.lift (Ax.ext 0 t12)).bind fun t13 =>
  (M.lift (Ax.ext 1 t12)).bind fun t14 =>
  (guarded [(0, t9)] (some (0, true)) (M.pure t8)).bind fun t17 =>
  (guarded [(0, t9)] (some (0, true)) (M.lift (Ax.bin .eql t17 (V.int .i64 2)))).bind fun t18 =>
  (M.lift (Ax.pick t9 t18 (V.bool false))).bind fun t19 =>
  (guarded [(0, t19)] (some (0, true)) (M.pure t14)).bind fun t21 =>
  (M.lift (Ax.pick t19 t21 (V.bool false))).bind fun t22 =>
  (guarded [(0, t22)] (some (0, true)) (M.pure t13)).bind fun t24 =>
  (guarded [(0, t22)] (some (0, true)) (M.lift (Ax.bin .eql t24 (V.int .i64 1)))).bind fun t25 =>
  (M.lift (Ax.pick t22 t25 (V.bool false))).bind fun t26 =>
  (guarded [(0, t26)] (some (0, true)) (mslit ty_int 3 [(V.int .i64 0)] [(0, 1, (V.int .i64 2)), (1, 1, (V.int .i64 5)), (2, 1, (V.int .i64 6))])).bind fun t28 =>
  (guarded [(0, t26)] (some (0, true)) (G fn_pick_Source [(V.int .u64 50000), t28])).bind fun t29 =>
  (guarded [(0, t26)] (some (0, true)) (M.lift (Ax.bin .eql t29 (V.int .i64 1)))).bind fun t30 =>
  (M.lift (Ax.pick t26 t30 (V.bool false))).bind fun t31 =>
  (guarded [(0, t31)] (some (0, true)) (mslit ty_int 2 [(V.int .i64 0)] [(0, 1, (V.int .i64 0)), (1, 1, (V.int .i64 1))])).bind fun t33 =>
  (guarded [(0, t31)] (some (0, true)) (M.lift (Ax.build [(V.bool false), (V.bool false), (V.int .i64 0), (V.int .u16 0), (V.bool false), (V.int .i64 0), (V.int .i64 0), V.nils, (V.int .i64 0), V.nils, V.nils, (V.bool false), (V.int .u32 0), (V.bool false), (V.bool false), (V.bool false), V.nils, V.nils, V.nils] [(16, 1, t33)]))).bind fun t34 =>
  (guarded [(0, t31)] (some (0, true)) (G fn_pick_In [t34, (V.int .i64 1)])).bind fun t35 =>
  (M.lift (Ax.pick t31 t35 (V.bool false))).bind fun t36 =>
  M.pure (.ret [t36])

theorem eq_palanquinlaw20_awake (G : Sem') : execK G ir_palanquinlaw20_awake.rv ir_palanquinlaw20_awake.body [] [] (params 0 []) = f_palanquinlaw20_awake G := by kernel_rfl

def d_palanquinlaw20_awake (G : Sem') : List V → M V
  | [] => fin (f_palanquinlaw20_awake G)
  | _ => M.fail

theorem s_palanquinlaw20_awake {g : Sem'} (hg : Sims g (sem T)) (args : List V) : Sim (d_palanquinlaw20_awake g args) (sem T fn_palanquinlaw20_awake args) := by
  unfold d_palanquinlaw20_awake
  split
  · exact sim_fn tb_palanquinlaw20_awake (Nat.le_of_ble_eq_true rfl) hg (eq_palanquinlaw20_awake g)
  · exact sim_fail

/-- palanquin/pick.Fits. -/
def f_pick_Fits_0 (G : Sem') (t22 t4 t1 t2 t3 t8 t9 : V) (L : List V) : M Res :=
  (M.lift (Ax.bin .lss (L.getD 4 .undef) t22)).bind fun t24 =>
  M.ite t24
    (M.blk 1 (
      (mload (some 6) t4).bind fun t27 =>
      (G fn_depend_Layers [t27, (L.getD 4 .undef)]).bind fun t29 =>
      (M.lift (Ax.ext 0 t29)).bind fun t30 =>
      (M.lift (Ax.ext 1 t29)).bind fun t31 =>
      (M.lift (Ax.ext 2 t29)).bind fun t32 =>
      (M.lift (Ax.un .not t32)).bind fun t34 =>
      (guarded [(0, t34)] (some (0, false)) (M.pure t1)).bind fun t36 =>
      (guarded [(0, t34)] (some (0, false)) (M.pure (L.getD 4 .undef))).bind fun t37 =>
      (guarded [(0, t34)] (some (0, false)) (M.lift (Ax.bin .shr t36 t37))).bind fun t38 =>
      (guarded [(0, t34)] (some (0, false)) (M.lift (Ax.bin .and t38 (V.int .u32 1)))).bind fun t39 =>
      (guarded [(0, t34)] (some (0, false)) (M.lift (Ax.bin .eql t39 (V.int .u32 0)))).bind fun t40 =>
      (M.lift (Ax.pick t34 (V.bool true) t40)).bind fun t41 =>
      (guarded [(0, t41)] (some (0, false)) (M.pure t30)).bind fun t43 =>
      (guarded [(0, t41)] (some (0, false)) (M.pure t2)).bind fun t44 =>
      (guarded [(0, t41)] (some (0, false)) (M.lift (Ax.bin .gtr t43 t44))).bind fun t45 =>
      (M.lift (Ax.pick t41 (V.bool true) t45)).bind fun t46 =>
      (guarded [(0, t46)] (some (0, false)) (M.pure t31)).bind fun t48 =>
      (guarded [(0, t46)] (some (0, false)) (M.pure t3)).bind fun t49 =>
      (guarded [(0, t46)] (some (0, false)) (M.lift (Ax.bin .gtr t48 t49))).bind fun t50 =>
      (M.lift (Ax.pick t46 (V.bool true) t50)).bind fun t51 =>
      M.ite t51
        (M.pure (.ex 1 [(L.getD 0 .undef), (L.getD 1 .undef), (L.getD 2 .undef), (L.getD 3 .undef)]))
        ((M.lift (Ax.un .not (L.getD 3 .undef))).bind fun t53 =>
        (guarded [(0, t53)] (some (0, false)) (M.pure t30)).bind fun t55 =>
        (guarded [(0, t53)] (some (0, false)) (M.pure (L.getD 1 .undef))).bind fun t56 =>
        (guarded [(0, t53)] (some (0, false)) (M.lift (Ax.bin .gtr t55 t56))).bind fun t57 =>
        (M.lift (Ax.pick t53 (V.bool true) t57)).bind fun t58 =>
        (guarded [(0, t58)] (some (0, false)) (M.pure t30)).bind fun t60 =>
        (guarded [(0, t58)] (some (0, false)) (M.pure (L.getD 1 .undef))).bind fun t61 =>
        (guarded [(0, t58)] (some (0, false)) (M.lift (Ax.bin .eql t60 t61))).bind fun t62 =>
        (guarded [(0, t58)] (some (0, false)) (M.pure t62)).bind fun t63 =>
        (guarded [(0, t63)] (some (0, true)) (M.pure t31)).bind fun t64 =>
        (guarded [(0, t63)] (some (0, true)) (M.pure (L.getD 2 .undef))).bind fun t65 =>
        (guarded [(0, t63)] (some (0, true)) (M.lift (Ax.bin .gtr t64 t65))).bind fun t66 =>
        (guarded [(0, t58)] (some (0, false)) (M.lift (Ax.pick t63 t66 (V.bool false)))).bind fun t67 =>
        (M.lift (Ax.pick t58 (V.bool true) t67)).bind fun t68 =>
        M.join (M.ite t68
          (M.pure (.nrm [(L.getD 4 .undef), t30, t31, (V.bool true)]))
          (M.pure (.nrm [(L.getD 0 .undef), (L.getD 1 .undef), (L.getD 2 .undef), (L.getD 3 .undef)]))) fun L0 =>
        M.pure (.nrm [(L0.getD 0 .undef), (L0.getD 1 .undef), (L0.getD 2 .undef), (L0.getD 3 .undef)]))) fun L1 =>
    (M.lift (Ax.bin .add (L.getD 4 .undef) (V.int .i64 1))).bind fun t72 =>
    M.pure (.nrm [(L1.getD 0 .undef), (L1.getD 1 .undef), (L1.getD 2 .undef), (L1.getD 3 .undef), t72]))
    (M.pure (.ex 0 [(L.getD 0 .undef), (L.getD 3 .undef)]))

def f_pick_Fits (G : Sem') (t0 t1 t2 t3 : V) : M Res :=
  (mbox ty_depend_Structure t0).bind fun t4 =>
  (mload (some 6) t4).bind fun t18 =>
  (G fn_depend_Fine [t18]).bind fun t19 =>
  (M.lift (Ax.un .not t19)).bind fun t20 =>
  M.ite t20
    (M.pure (.ret [(V.int .i64 0), (V.bool false)]))
    ((M.lift (Ax.faddr 1 t4)).bind fun t21 =>
    (mload none t21).bind fun t22 =>
    M.blk 0 (
      M.iter (f_pick_Fits_0 G t22 t4 t1 t2 t3 (V.int .i64 0) (V.bool false)) [(V.int .i64 0), (V.int .i64 0), (V.int .i64 0), (V.bool false), (V.int .i64 0)]) fun L2 =>
    M.pure (.ret [(L2.getD 0 .undef), (L2.getD 1 .undef)]))

theorem eq_pick_Fits (G : Sem') (t0 t1 t2 t3 : V) : execK G ir_pick_Fits.rv ir_pick_Fits.body [] [] (params 0 [t0, t1, t2, t3]) = f_pick_Fits G t0 t1 t2 t3 := by kernel_rfl

def d_pick_Fits (G : Sem') : List V → M V
  | [t0, t1, t2, t3] => fin (f_pick_Fits G t0 t1 t2 t3)
  | _ => M.fail

theorem s_pick_Fits {g : Sem'} (hg : Sims g (sem T)) (args : List V) : Sim (d_pick_Fits g args) (sem T fn_pick_Fits args) := by
  unfold d_pick_Fits
  split
  · exact sim_fn tb_pick_Fits (Nat.le_of_ble_eq_true rfl) hg (eq_pick_Fits g _ _ _ _)
  · exact sim_fail

/-- palanquin/palanquinlaw20.three. -/
def f_palanquinlaw20_three (G : Sem') : M Res :=
  (mbox ty_depend_Structure (V.agg [(V.int .i64 0), (V.int .i64 0), V.nils, (V.int .i64 0), V.nils, V.nils])).bind fun t0 =>
  (mslit ty_int 3 [(V.int .i64 0)] [(0, 1, (V.int .i64 2)), (1, 1, (V.int .i64 2)), (2, 1, (V.int .i64 2))]).bind fun t1 =>
  (M.lift (Ax.build [(V.int .i64 0), (V.int .i64 0), V.nils, V.nils, V.nils] [(2, 1, t1)])).bind fun t2 =>
  (mslit ty_int 3 [(V.int .i64 0)] [(0, 1, (V.int .i64 0)), (1, 1, (V.int .i64 1)), (2, 1, (V.int .i64 2))]).bind fun t3 =>
  (M.lift (Ax.build [(V.int .i64 0), (V.int .i64 0), V.nils, V.nils, V.nils] [(1, 1, (V.int .i64 1)), (2, 1, t3)])).bind fun t4 =>
  (mslit ty_int 3 [(V.int .i64 0)] [(0, 1, (V.int .i64 0)), (1, 1, (V.int .i64 0)), (2, 1, (V.int .i64 3))]).bind fun t5 =>
  (M.lift (Ax.build [(V.int .i64 0), (V.int .i64 0), V.nils, V.nils, V.nils] [(0, 1, (V.int .i64 1)), (2, 1, t5)])).bind fun t6 =>
  (mslit ty_depend_Template 3 [(V.int .i64 0), (V.int .i64 0), V.nils, V.nils, V.nils] [(0, 5, t2), (5, 5, t4), (10, 5, t6)]).bind fun t7 =>
  (M.lift (Ax.build [(V.int .i64 0), (V.int .i64 0), V.nils, (V.int .i64 0), V.nils, V.nils] [(1, 1, (V.int .i64 3)), (2, 1, t7)])).bind fun t8 =>
  (mstore 6 t0 t8).bind fun _ =>
  (mload (some 6) t0).bind fun r0 =>
  M.pure (.ret [r0])

theorem eq_palanquinlaw20_three (G : Sem') : execK G ir_palanquinlaw20_three.rv ir_palanquinlaw20_three.body [] [] (params 0 []) = f_palanquinlaw20_three G := by kernel_rfl

def d_palanquinlaw20_three (G : Sem') : List V → M V
  | [] => fin (f_palanquinlaw20_three G)
  | _ => M.fail

theorem s_palanquinlaw20_three {g : Sem'} (hg : Sims g (sem T)) (args : List V) : Sim (d_palanquinlaw20_three g args) (sem T fn_palanquinlaw20_three args) := by
  unfold d_palanquinlaw20_three
  split
  · exact sim_fn tb_palanquinlaw20_three (Nat.le_of_ble_eq_true rfl) hg (eq_palanquinlaw20_three g)
  · exact sim_fail

/-- palanquin/pick.Source. -/
def f_pick_Source_0 (G : Sem') (t10 t9 t0 t4 : V) (L : List V) : M Res :=
  (M.lift (Ax.bin .lss (L.getD 2 .undef) t10)).bind fun t12 =>
  M.ite t12
    (M.blk 1 (
      (M.lift (Ax.iaddr none 1 t9 (L.getD 2 .undef))).bind fun t14 =>
      (mload none t14).bind fun t15 =>
      (M.lift (Ax.bin .lss t15 (V.int .i64 0))).bind fun t17 =>
      M.ite t17
        (M.pure (.ex 1 [(L.getD 0 .undef), (L.getD 1 .undef)]))
        ((M.lift (Ax.bin .lss (L.getD 1 .undef) (V.int .i64 0))).bind fun t19 =>
        M.join (M.ite t19
          (M.pure (.nrm [(L.getD 2 .undef)]))
          (M.pure (.nrm [(L.getD 1 .undef)]))) fun L0 =>
        (M.lift (Ax.cint .u64 t15)).bind fun t22 =>
        (M.lift (Ax.bin .quo t0 (V.int .u64 10000))).bind fun t24 =>
        (M.lift (Ax.bin .leq t22 t24)).bind fun t25 =>
        M.join (M.ite t25
          (M.pure (.nrm [(L.getD 2 .undef)]))
          (M.pure (.nrm [(L.getD 0 .undef)]))) fun L1 =>
        M.pure (.nrm [(L1.getD 0 .undef), (L0.getD 0 .undef)]))) fun L2 =>
    (M.lift (Ax.bin .add (L.getD 2 .undef) (V.int .i64 1))).bind fun t27 =>
    M.pure (.nrm [(L2.getD 0 .undef), (L2.getD 1 .undef), t27]))
    (M.pure (.ex 0 [(L.getD 0 .undef), (L.getD 1 .undef)]))

def f_pick_Source (G : Sem') (t0 t1 : V) : M Res :=
  (M.lift (vlen t1)).bind fun t10 =>
  M.blk 0 (
    M.iter (f_pick_Source_0 G t10 t1 t0 (V.int .i64 0)) [(V.int .i64 (-1)), (V.int .i64 (-1)), (V.int .i64 0)]) fun L3 =>
  (M.lift (Ax.minmax true (L3.getD 0 .undef) [(L3.getD 1 .undef), (V.int .i64 0)])).bind fun t30 =>
  M.pure (.ret [t30])

theorem eq_pick_Source (G : Sem') (t0 t1 : V) : execK G ir_pick_Source.rv ir_pick_Source.body [] [] (params 0 [t0, t1]) = f_pick_Source G t0 t1 := by kernel_rfl

def d_pick_Source (G : Sem') : List V → M V
  | [t0, t1] => fin (f_pick_Source G t0 t1)
  | _ => M.fail

theorem s_pick_Source {g : Sem'} (hg : Sims g (sem T)) (args : List V) : Sim (d_pick_Source g args) (sem T fn_pick_Source args) := by
  unfold d_pick_Source
  split
  · exact sim_fn tb_pick_Source (Nat.le_of_ble_eq_true rfl) hg (eq_pick_Source g _ _)
  · exact sim_fail

/-- palanquin/pick.In. -/
def f_pick_In (G : Sem') (t0 t1 : V) : M Res :=
  (mbox ty_depend_Frame t0).bind fun t2 =>
  (M.lift (Ax.bin .geq t1 (V.int .i64 0))).bind fun t6 =>
  (guarded [(0, t6)] (some (0, true)) (M.pure t1)).bind fun t8 =>
  (guarded [(0, t6)] (some (0, true)) (M.lift (Ax.faddr 16 t2))).bind fun t9 =>
  (guarded [(0, t6)] (some (0, true)) (mload none t9)).bind fun t10 =>
  (guarded [(0, t6)] (some (0, true)) (M.lift (vlen t10))).bind fun t11 =>
  (guarded [(0, t6)] (some (0, true)) (M.lift (Ax.bin .lss t8 t11))).bind fun t12 =>
  (M.lift (Ax.pick t6 t12 (V.bool false))).bind fun t13 =>
  (guarded [(0, t13)] (some (0, true)) (M.lift (Ax.faddr 16 t2))).bind fun t15 =>
  (guarded [(0, t13)] (some (0, true)) (mload none t15)).bind fun t16 =>
  (guarded [(0, t13)] (some (0, true)) (M.pure t1)).bind fun t17 =>
  (guarded [(0, t13)] (some (0, true)) (M.lift (Ax.iaddr none 1 t16 t17))).bind fun t18 =>
  (guarded [(0, t13)] (some (0, true)) (mload none t18)).bind fun t19 =>
  (guarded [(0, t13)] (some (0, true)) (M.lift (Ax.bin .neq t19 (V.int .i64 0)))).bind fun t20 =>
  (M.lift (Ax.pick t13 t20 (V.bool false))).bind fun t21 =>
  M.pure (.ret [t21])

theorem eq_pick_In (G : Sem') (t0 t1 : V) : execK G ir_pick_In.rv ir_pick_In.body [] [] (params 0 [t0, t1]) = f_pick_In G t0 t1 := by kernel_rfl

def d_pick_In (G : Sem') : List V → M V
  | [t0, t1] => fin (f_pick_In G t0 t1)
  | _ => M.fail

theorem s_pick_In {g : Sem'} (hg : Sims g (sem T)) (args : List V) : Sim (d_pick_In g args) (sem T fn_pick_In args) := by
  unfold d_pick_In
  split
  · exact sim_fn tb_pick_In (Nat.le_of_ble_eq_true rfl) hg (eq_pick_In g _ _)
  · exact sim_fail

/-- palanquin/depend.Layers. -/
def f_depend_Layers_0 (G : Sem') (t24 t23 t1 : V) (L : List V) : M Res :=
  (M.lift (Ax.bin .lss (L.getD 3 .undef) t24)).bind fun t26 =>
  M.ite t26
    (M.blk 1 (
      (M.lift (Ax.iaddr none 5 t23 (L.getD 3 .undef))).bind fun t27 =>
      (mload (some 5) t27).bind fun t28 =>
      (mbox ty_depend_Template (V.agg [(V.int .i64 0), (V.int .i64 0), V.nils, V.nils, V.nils])).bind fun t8 =>
      (mstore 5 t8 t28).bind fun _ =>
      (M.lift (Ax.faddr 2 t8)).bind fun t29 =>
      (mload none t29).bind fun t30 =>
      (M.lift (Ax.iaddr none 1 t30 t1)).bind fun t32 =>
      (mload none t32).bind fun t33 =>
      (M.lift (Ax.bin .neq t33 (V.int .i64 0))).bind fun t34 =>
      M.join (M.ite t34
        ((M.lift (Ax.faddr 0 t8)).bind fun t36 =>
        (mload none t36).bind fun t37 =>
        (M.lift (Ax.minmax true (L.getD 0 .undef) [t37])).bind fun t38 =>
        (M.lift (Ax.faddr 1 t8)).bind fun t40 =>
        (mload none t40).bind fun t41 =>
        (M.lift (Ax.minmax true (L.getD 1 .undef) [t41])).bind fun t42 =>
        M.pure (.nrm [t38, t42, (V.bool true)]))
        (M.pure (.nrm [(L.getD 0 .undef), (L.getD 1 .undef), (L.getD 2 .undef)]))) fun L0 =>
      M.pure (.nrm [(L0.getD 0 .undef), (L0.getD 1 .undef), (L0.getD 2 .undef)])) fun L1 =>
    (M.lift (Ax.bin .add (L.getD 3 .undef) (V.int .i64 1))).bind fun t43 =>
    M.pure (.nrm [(L1.getD 0 .undef), (L1.getD 1 .undef), (L1.getD 2 .undef), t43]))
    (M.pure (.ex 0 [(L.getD 0 .undef), (L.getD 1 .undef), (L.getD 2 .undef)]))

def f_depend_Layers (G : Sem') (t0 t1 : V) : M Res :=
  (mbox ty_depend_Structure t0).bind fun t2 =>
  (mload (some 6) t2).bind fun t9 =>
  (G fn_depend_Fine [t9]).bind fun t10 =>
  (M.lift (Ax.un .not t10)).bind fun t11 =>
  (guarded [(0, t11)] (some (0, false)) (M.pure t1)).bind fun t13 =>
  (guarded [(0, t11)] (some (0, false)) (M.lift (Ax.bin .lss t13 (V.int .i64 0)))).bind fun t14 =>
  (M.lift (Ax.pick t11 (V.bool true) t14)).bind fun t15 =>
  (guarded [(0, t15)] (some (0, false)) (M.pure t1)).bind fun t17 =>
  (guarded [(0, t15)] (some (0, false)) (M.lift (Ax.faddr 1 t2))).bind fun t18 =>
  (guarded [(0, t15)] (some (0, false)) (mload none t18)).bind fun t19 =>
  (guarded [(0, t15)] (some (0, false)) (M.lift (Ax.bin .geq t17 t19))).bind fun t20 =>
  (M.lift (Ax.pick t15 (V.bool true) t20)).bind fun t21 =>
  M.ite t21
    (M.pure (.ret [(V.int .i64 0), (V.int .i64 0), (V.bool false)]))
    ((M.lift (Ax.faddr 2 t2)).bind fun t22 =>
    (mload none t22).bind fun t23 =>
    (M.lift (vlen t23)).bind fun t24 =>
    M.blk 0 (
      M.iter (f_depend_Layers_0 G t24 t23 t1) [(V.int .i64 0), (V.int .i64 0), (V.bool false), (V.int .i64 0)]) fun L2 =>
    M.pure (.ret [(L2.getD 0 .undef), (L2.getD 1 .undef), (L2.getD 2 .undef)]))

theorem eq_depend_Layers (G : Sem') (t0 t1 : V) : execK G ir_depend_Layers.rv ir_depend_Layers.body [] [] (params 0 [t0, t1]) = f_depend_Layers G t0 t1 := by kernel_rfl

def d_depend_Layers (G : Sem') : List V → M V
  | [t0, t1] => fin (f_depend_Layers G t0 t1)
  | _ => M.fail

theorem s_depend_Layers {g : Sem'} (hg : Sims g (sem T)) (args : List V) : Sim (d_depend_Layers g args) (sem T fn_depend_Layers args) := by
  unfold d_depend_Layers
  split
  · exact sim_fn tb_depend_Layers (Nat.le_of_ble_eq_true rfl) hg (eq_depend_Layers g _ _)
  · exact sim_fail

/-- palanquin/depend.Fine. -/
def f_depend_Fine_0 (G : Sem') (t70 t69 : V) (L : List V) : M Res :=
  (M.lift (Ax.bin .lss (L.getD 0 .undef) t70)).bind fun t72 =>
  M.ite t72
    (M.blk 1 (
      (M.lift (Ax.iaddr none 2 t69 (L.getD 0 .undef))).bind fun t73 =>
      (mload (some 2) t73).bind fun t74 =>
      (mbox ty_2_int (V.agg [(V.int .i64 0), (V.int .i64 0)])).bind fun t6 =>
      (mstore 2 t6 t74).bind fun _ =>
      (M.lift (vslice (.arr 2) 1 t6 none none none)).bind fun t75 =>
      (G fn_depend_within [t75, (V.int .i64 2), (V.int .i64 1), (V.int .i64 65536)]).bind fun t76 =>
      (M.lift (Ax.un .not t76)).bind fun t77 =>
      M.ite t77
        (M.pure (.ret [(V.bool false)]))
        (M.pure (.nrm []))) fun _ =>
    (M.lift (Ax.bin .add (L.getD 0 .undef) (V.int .i64 1))).bind fun t78 =>
    M.pure (.nrm [t78]))
    (M.pure (.ex 0 []))

def f_depend_Fine (G : Sem') (t0 : V) : M Res :=
  (mbox ty_depend_Structure t0).bind fun t1 =>
  (M.lift (Ax.faddr 1 t1)).bind fun t7 =>
  (mload none t7).bind fun t8 =>
  (M.lift (Ax.faddr 3 t1)).bind fun t9 =>
  (mload none t9).bind fun t10 =>
  (M.lift (Ax.bin .eql t10 (V.int .i64 0))).bind fun t11 =>
  M.join (M.ite t11
    (M.pure (.nrm [(V.int .i64 0)]))
    (M.pure (.nrm [t8]))) fun L0 =>
  (M.lift (Ax.faddr 0 t1)).bind fun t12 =>
  (mload none t12).bind fun t13 =>
  (M.lift (Ax.bin .lss t13 (V.int .i64 0))).bind fun t14 =>
  (guarded [(0, t14)] (some (0, false)) (M.lift (Ax.faddr 0 t1))).bind fun t16 =>
  (guarded [(0, t14)] (some (0, false)) (mload none t16)).bind fun t17 =>
  (guarded [(0, t14)] (some (0, false)) (M.lift (Ax.bin .geq t17 (V.int .i64 64)))).bind fun t18 =>
  (M.lift (Ax.pick t14 (V.bool true) t18)).bind fun t19 =>
  (guarded [(0, t19)] (some (0, false)) (M.lift (Ax.faddr 1 t1))).bind fun t21 =>
  (guarded [(0, t19)] (some (0, false)) (mload none t21)).bind fun t22 =>
  (guarded [(0, t19)] (some (0, false)) (M.lift (Ax.bin .lss t22 (V.int .i64 1)))).bind fun t23 =>
  (M.lift (Ax.pick t19 (V.bool true) t23)).bind fun t24 =>
  (guarded [(0, t24)] (some (0, false)) (M.lift (Ax.faddr 1 t1))).bind fun t26 =>
  (guarded [(0, t24)] (some (0, false)) (mload none t26)).bind fun t27 =>
  (guarded [(0, t24)] (some (0, false)) (M.lift (Ax.bin .gtr t27 (V.int .i64 32)))).bind fun t28 =>
  (M.lift (Ax.pick t24 (V.bool true) t28)).bind fun t29 =>
  (guarded [(0, t29)] (some (0, false)) (M.lift (Ax.faddr 3 t1))).bind fun t31 =>
  (guarded [(0, t29)] (some (0, false)) (mload none t31)).bind fun t32 =>
  (guarded [(0, t29)] (some (0, false)) (M.lift (Ax.bin .lss t32 (V.int .i64 0)))).bind fun t33 =>
  (M.lift (Ax.pick t29 (V.bool true) t33)).bind fun t34 =>
  (guarded [(0, t34)] (some (0, false)) (M.lift (Ax.faddr 3 t1))).bind fun t36 =>
  (guarded [(0, t34)] (some (0, false)) (mload none t36)).bind fun t37 =>
  (guarded [(0, t34)] (some (0, false)) (M.lift (Ax.faddr 1 t1))).bind fun t38 =>
  (guarded [(0, t34)] (some (0, false)) (mload none t38)).bind fun t39 =>
  (guarded [(0, t34)] (some (0, false)) (M.lift (Ax.bin .gtr t37 t39))).bind fun t40 =>
  (M.lift (Ax.pick t34 (V.bool true) t40)).bind fun t41 =>
  (guarded [(0, t41)] (some (0, false)) (M.lift (Ax.faddr 4 t1))).bind fun t43 =>
  (guarded [(0, t41)] (some (0, false)) (mload none t43)).bind fun t44 =>
  (guarded [(0, t41)] (some (0, false)) (M.pure (L0.getD 0 .undef))).bind fun t45 =>
  (guarded [(0, t41)] (some (0, false)) (M.lift (Ax.faddr 3 t1))).bind fun t46 =>
  (guarded [(0, t41)] (some (0, false)) (mload none t46)).bind fun t47 =>
  (guarded [(0, t41)] (some (0, false)) (M.lift (Ax.bin .sub t47 (V.int .i64 1)))).bind fun t48 =>
  (guarded [(0, t41)] (some (0, false)) (G fn_depend_within [t44, t45, (V.int .i64 0), t48])).bind fun t49 =>
  (guarded [(0, t41)] (some (0, false)) (M.lift (Ax.un .not t49))).bind fun t50 =>
  (M.lift (Ax.pick t41 (V.bool true) t50)).bind fun t51 =>
  (guarded [(0, t51)] (some (0, false)) (mload (some 6) t1)).bind fun t53 =>
  (guarded [(0, t51)] (some (0, false)) (G fn_depend_layers [t53])).bind fun t54 =>
  (guarded [(0, t51)] (some (0, false)) (M.lift (Ax.un .not t54))).bind fun t55 =>
  (M.lift (Ax.pick t51 (V.bool true) t55)).bind fun t56 =>
  M.ite t56
    (M.pure (.ret [(V.bool false)]))
    ((M.lift (Ax.faddr 5 t1)).bind fun t57 =>
    (mload none t57).bind fun t58 =>
    (M.lift (vlen t58)).bind fun t59 =>
    (M.lift (Ax.bin .neq t59 (V.int .i64 0))).bind fun t61 =>
    (guarded [(0, t61)] (some (0, true)) (M.pure t59)).bind fun t63 =>
    (guarded [(0, t61)] (some (0, true)) (mload (some 6) t1)).bind fun t64 =>
    (guarded [(0, t61)] (some (0, true)) (G fn_depend_spatial [t64])).bind fun t65 =>
    (guarded [(0, t61)] (some (0, true)) (M.lift (Ax.bin .neq t63 t65))).bind fun t66 =>
    (M.lift (Ax.pick t61 t66 (V.bool false))).bind fun t67 =>
    M.ite t67
      (M.pure (.ret [(V.bool false)]))
      ((M.lift (Ax.faddr 5 t1)).bind fun t68 =>
      (mload none t68).bind fun t69 =>
      (M.lift (vlen t69)).bind fun t70 =>
      M.blk 0 (
        M.iter (f_depend_Fine_0 G t70 t69) [(V.int .i64 0)]) fun _ =>
      (M.lift (Ax.faddr 2 t1)).bind fun t79 =>
      (mload none t79).bind fun t80 =>
      (M.pure (.fn fn_depend_Fine_1 [t1])).bind fun t81 =>
      (G fn_slices_ContainsFunc_depend_Template_depend_Template [t80, t81]).bind fun t82 =>
      (M.lift (Ax.un .not t82)).bind fun t83 =>
      M.pure (.ret [t83])))

theorem eq_depend_Fine (G : Sem') (t0 : V) : execK G ir_depend_Fine.rv ir_depend_Fine.body [] [] (params 0 [t0]) = f_depend_Fine G t0 := by kernel_rfl

def d_depend_Fine (G : Sem') : List V → M V
  | [t0] => fin (f_depend_Fine G t0)
  | _ => M.fail

theorem s_depend_Fine {g : Sem'} (hg : Sims g (sem T)) (args : List V) : Sim (d_depend_Fine g args) (sem T fn_depend_Fine args) := by
  unfold d_depend_Fine
  split
  · exact sim_fn tb_depend_Fine (Nat.le_of_ble_eq_true rfl) hg (eq_depend_Fine g _)
  · exact sim_fail

/-- palanquin/depend.within. -/
def f_depend_within (G : Sem') (t0 t1 t2 t3 : V) : M Res :=
  (mbox ty_int t2).bind fun t6 =>
  (mbox ty_int t3).bind fun t7 =>
  (M.lift (vlen t0)).bind fun t10 =>
  (M.lift (Ax.bin .eql t10 t1)).bind fun t12 =>
  (guarded [(0, t12)] (some (0, true)) (M.pure t0)).bind fun t14 =>
  (guarded [(0, t12)] (some (0, true)) (M.pure (.fn fn_depend_within_1 [t6, t7]))).bind fun t15 =>
  (guarded [(0, t12)] (some (0, true)) (G fn_slices_ContainsFunc_int_int [t14, t15])).bind fun t16 =>
  (guarded [(0, t12)] (some (0, true)) (M.lift (Ax.un .not t16))).bind fun t17 =>
  (M.lift (Ax.pick t12 t17 (V.bool false))).bind fun t18 =>
  M.pure (.ret [t18])

theorem eq_depend_within (G : Sem') (t0 t1 t2 t3 : V) : execK G ir_depend_within.rv ir_depend_within.body [] [] (params 0 [t0, t1, t2, t3]) = f_depend_within G t0 t1 t2 t3 := by kernel_rfl

def d_depend_within (G : Sem') : List V → M V
  | [t0, t1, t2, t3] => fin (f_depend_within G t0 t1 t2 t3)
  | _ => M.fail

theorem s_depend_within {g : Sem'} (hg : Sims g (sem T)) (args : List V) : Sim (d_depend_within g args) (sem T fn_depend_within args) := by
  unfold d_depend_within
  split
  · exact sim_fn tb_depend_within (Nat.le_of_ble_eq_true rfl) hg (eq_depend_within g _ _ _ _)
  · exact sim_fail

/-- palanquin/depend.layers. -/
def f_depend_layers_0 (G : Sem') (t11 t10 t3 : V) (L : List V) : M Res :=
  (M.lift (Ax.bin .lss (L.getD 0 .undef) t11)).bind fun t13 =>
  M.ite t13
    (M.blk 1 (
      (M.lift (Ax.iaddr none 5 t10 (L.getD 0 .undef))).bind fun t15 =>
      (mload (some 5) t15).bind fun t16 =>
      (mbox ty_depend_Template (V.agg [(V.int .i64 0), (V.int .i64 0), V.nils, V.nils, V.nils])).bind fun t5 =>
      (mstore 5 t5 t16).bind fun _ =>
      (mload (some 5) t3).bind fun t18 =>
      (mload (some 5) t5).bind fun t19 =>
      (G fn_depend_next [t18, t19]).bind fun t20 =>
      (M.lift (Ax.ext 0 t20)).bind fun t21 =>
      (M.lift (Ax.ext 1 t20)).bind fun t22 =>
      (M.lift (Ax.un .not t22)).bind fun t24 =>
      (guarded [(0, t24)] (some (0, false)) (M.pure (L.getD 0 .undef))).bind fun t26 =>
      (guarded [(0, t24)] (some (0, false)) (M.lift (Ax.bin .eql t26 (V.int .i64 0)))).bind fun t27 =>
      (guarded [(0, t24)] (some (0, false)) (M.pure t27)).bind fun t28 =>
      (guarded [(0, t28)] (some (0, true)) (M.pure t21)).bind fun t29 =>
      (guarded [(0, t28)] (some (0, true)) (M.lift (Ax.bin .neq t29 (V.int .i64 0)))).bind fun t30 =>
      (guarded [(0, t24)] (some (0, false)) (M.lift (Ax.pick t28 t30 (V.bool false)))).bind fun t31 =>
      (M.lift (Ax.pick t24 (V.bool true) t31)).bind fun t32 =>
      (guarded [(0, t32)] (some (0, false)) (M.lift (Ax.faddr 0 t5))).bind fun t34 =>
      (guarded [(0, t32)] (some (0, false)) (mload none t34)).bind fun t35 =>
      (guarded [(0, t32)] (some (0, false)) (M.lift (Ax.bin .gtr t35 (V.int .i64 3)))).bind fun t36 =>
      (M.lift (Ax.pick t32 (V.bool true) t36)).bind fun t37 =>
      (guarded [(0, t37)] (some (0, false)) (M.lift (Ax.faddr 1 t5))).bind fun t39 =>
      (guarded [(0, t37)] (some (0, false)) (mload none t39)).bind fun t40 =>
      (guarded [(0, t37)] (some (0, false)) (M.lift (Ax.bin .gtr t40 (V.int .i64 7)))).bind fun t41 =>
      (M.lift (Ax.pick t37 (V.bool true) t41)).bind fun t42 =>
      M.ite t42
        (M.pure (.ret [(V.bool false)]))
        ((mload (some 5) t5).bind fun t43 =>
        (mstore 5 t3 t43).bind fun _ =>
        M.pure (.nrm []))) fun _ =>
    (M.lift (Ax.bin .add (L.getD 0 .undef) (V.int .i64 1))).bind fun t44 =>
    M.pure (.nrm [t44]))
    (M.pure (.ex 0 []))

def f_depend_layers (G : Sem') (t0 : V) : M Res :=
  (mbox ty_depend_Structure t0).bind fun t1 =>
  (M.lift (Ax.build [(V.int .i64 0), (V.int .i64 0), V.nils, V.nils, V.nils] [])).bind fun t8 =>
  (mbox ty_depend_Template (V.agg [(V.int .i64 0), (V.int .i64 0), V.nils, V.nils, V.nils])).bind fun t3 =>
  (mstore 5 t3 t8).bind fun _ =>
  (M.lift (Ax.faddr 2 t1)).bind fun t9 =>
  (mload none t9).bind fun t10 =>
  (M.lift (vlen t10)).bind fun t11 =>
  M.blk 0 (
    M.iter (f_depend_layers_0 G t11 t10 t3) [(V.int .i64 0)]) fun _ =>
  (M.lift (Ax.faddr 2 t1)).bind fun t45 =>
  (mload none t45).bind fun t46 =>
  (M.lift (vlen t46)).bind fun t47 =>
  (M.lift (Ax.bin .geq t47 (V.int .i64 1))).bind fun t48 =>
  (guarded [(0, t48)] (some (0, true)) (M.lift (Ax.faddr 2 t1))).bind fun t50 =>
  (guarded [(0, t48)] (some (0, true)) (mload none t50)).bind fun t51 =>
  (guarded [(0, t48)] (some (0, true)) (M.lift (vlen t51))).bind fun t52 =>
  (guarded [(0, t48)] (some (0, true)) (M.lift (Ax.bin .leq t52 (V.int .i64 64)))).bind fun t53 =>
  (M.lift (Ax.pick t48 t53 (V.bool false))).bind fun t54 =>
  M.pure (.ret [t54])

theorem eq_depend_layers (G : Sem') (t0 : V) : execK G ir_depend_layers.rv ir_depend_layers.body [] [] (params 0 [t0]) = f_depend_layers G t0 := by kernel_rfl

def d_depend_layers (G : Sem') : List V → M V
  | [t0] => fin (f_depend_layers G t0)
  | _ => M.fail

theorem s_depend_layers {g : Sem'} (hg : Sims g (sem T)) (args : List V) : Sim (d_depend_layers g args) (sem T fn_depend_layers args) := by
  unfold d_depend_layers
  split
  · exact sim_fn tb_depend_layers (Nat.le_of_ble_eq_true rfl) hg (eq_depend_layers g _)
  · exact sim_fail

/-- palanquin/depend.spatial. -/
def f_depend_spatial_0 (G : Sem') (t8 t7 t2 : V) (L : List V) : M Res :=
  (M.lift (Ax.bin .lss (L.getD 1 .undef) t8)).bind fun t10 =>
  M.ite t10
    (M.blk 1 (
      (M.lift (Ax.iaddr none 5 t7 (L.getD 1 .undef))).bind fun t11 =>
      (mload (some 5) t11).bind fun t12 =>
      (mbox ty_depend_Template (V.agg [(V.int .i64 0), (V.int .i64 0), V.nils, V.nils, V.nils])).bind fun t5 =>
      (mstore 5 t5 t12).bind fun _ =>
      (M.lift (Ax.faddr 0 t5)).bind fun t14 =>
      (mload none t14).bind fun t15 =>
      (M.lift (Ax.bin .add t15 (V.int .i64 1))).bind fun t16 =>
      (M.lift (Ax.minmax true (L.getD 0 .undef) [t16])).bind fun t17 =>
      M.pure (.nrm [t17])) fun L0 =>
    (M.lift (Ax.bin .add (L.getD 1 .undef) (V.int .i64 1))).bind fun t18 =>
    M.pure (.nrm [(L0.getD 0 .undef), t18]))
    (M.pure (.ex 0 [(L.getD 0 .undef)]))

def f_depend_spatial (G : Sem') (t0 : V) : M Res :=
  (mbox ty_depend_Structure t0).bind fun t1 =>
  (M.lift (Ax.faddr 2 t1)).bind fun t6 =>
  (mload none t6).bind fun t7 =>
  (M.lift (vlen t7)).bind fun t8 =>
  M.blk 0 (
    M.iter (f_depend_spatial_0 G t8 t7 (V.int .i64 0)) [(V.int .i64 0), (V.int .i64 0)]) fun L1 =>
  M.pure (.ret [(L1.getD 0 .undef)])

theorem eq_depend_spatial (G : Sem') (t0 : V) : execK G ir_depend_spatial.rv ir_depend_spatial.body [] [] (params 0 [t0]) = f_depend_spatial G t0 := by kernel_rfl

def d_depend_spatial (G : Sem') : List V → M V
  | [t0] => fin (f_depend_spatial G t0)
  | _ => M.fail

theorem s_depend_spatial {g : Sem'} (hg : Sims g (sem T)) (args : List V) : Sim (d_depend_spatial g args) (sem T fn_depend_spatial args) := by
  unfold d_depend_spatial
  split
  · exact sim_fn tb_depend_spatial (Nat.le_of_ble_eq_true rfl) hg (eq_depend_spatial g _)
  · exact sim_fail

/-- slices.ContainsFunc[[]palanquin/depend.Template,palanquin/depend.Template]. -/
def f_slices_ContainsFunc_depend_Template_depend_Template (G : Sem') (t0 t1 : V) : M Res :=
  (G fn_slices_IndexFunc_depend_Template_depend_Template [t0, t1]).bind fun t7 =>
  (M.lift (Ax.bin .geq t7 (V.int .i64 0))).bind fun t8 =>
  M.pure (.ret [t8])

theorem eq_slices_ContainsFunc_depend_Template_depend_Template (G : Sem') (t0 t1 : V) : execK G ir_slices_ContainsFunc_depend_Template_depend_Template.rv ir_slices_ContainsFunc_depend_Template_depend_Template.body [] [] (params 0 [t0, t1]) = f_slices_ContainsFunc_depend_Template_depend_Template G t0 t1 := by kernel_rfl

def d_slices_ContainsFunc_depend_Template_depend_Template (G : Sem') : List V → M V
  | [t0, t1] => fin (f_slices_ContainsFunc_depend_Template_depend_Template G t0 t1)
  | _ => M.fail

theorem s_slices_ContainsFunc_depend_Template_depend_Template {g : Sem'} (hg : Sims g (sem T)) (args : List V) : Sim (d_slices_ContainsFunc_depend_Template_depend_Template g args) (sem T fn_slices_ContainsFunc_depend_Template_depend_Template args) := by
  unfold d_slices_ContainsFunc_depend_Template_depend_Template
  split
  · exact sim_fn tb_slices_ContainsFunc_depend_Template_depend_Template (Nat.le_of_ble_eq_true rfl) hg (eq_slices_ContainsFunc_depend_Template_depend_Template g _ _)
  · exact sim_fail

/-- palanquin/depend.Fine$1. -/
def f_depend_Fine_1 (G : Sem') (t0 t1 : V) : M Res :=
  (mbox ty_depend_Template t0).bind fun t2 =>
  (mload (some 6) t1).bind fun t4 =>
  (mload (some 5) t2).bind fun t5 =>
  (G fn_depend_Structure_fine [t4, t5]).bind fun t6 =>
  (M.lift (Ax.un .not t6)).bind fun t7 =>
  M.pure (.ret [t7])

theorem eq_depend_Fine_1 (G : Sem') (t0 t1 : V) : execK G ir_depend_Fine_1.rv ir_depend_Fine_1.body [] [] (params 0 [t0, t1]) = f_depend_Fine_1 G t0 t1 := by kernel_rfl

def d_depend_Fine_1 (G : Sem') : List V → M V
  | [t0, t1] => fin (f_depend_Fine_1 G t0 t1)
  | _ => M.fail

theorem s_depend_Fine_1 {g : Sem'} (hg : Sims g (sem T)) (args : List V) : Sim (d_depend_Fine_1 g args) (sem T fn_depend_Fine_1 args) := by
  unfold d_depend_Fine_1
  split
  · exact sim_fn tb_depend_Fine_1 (Nat.le_of_ble_eq_true rfl) hg (eq_depend_Fine_1 g _ _)
  · exact sim_fail

/-- (palanquin/depend.Structure).fine. -/
def f_depend_Structure_fine (G : Sem') (t0 t1 : V) : M Res :=
  (mbox ty_depend_Structure t0).bind fun t2 =>
  (mbox ty_depend_Template t1).bind fun t3 =>
  (M.lift (Ax.faddr 2 t3)).bind fun t5 =>
  (mload none t5).bind fun t6 =>
  (M.lift (Ax.faddr 1 t2)).bind fun t7 =>
  (mload none t7).bind fun t8 =>
  (G fn_depend_within [t6, t8, (V.int .i64 0), (V.int .i64 3)]).bind fun t9 =>
  (guarded [(0, t9)] (some (0, true)) (M.lift (Ax.faddr 3 t3))).bind fun t11 =>
  (guarded [(0, t9)] (some (0, true)) (mload none t11)).bind fun t12 =>
  (guarded [(0, t9)] (some (0, true)) (G fn_depend_diffs [t12, (V.int .i64 8), (V.int .i64 16)])).bind fun t13 =>
  (M.lift (Ax.pick t9 t13 (V.bool false))).bind fun t14 =>
  (guarded [(0, t14)] (some (0, true)) (M.lift (Ax.faddr 4 t3))).bind fun t16 =>
  (guarded [(0, t14)] (some (0, true)) (mload none t16)).bind fun t17 =>
  (guarded [(0, t14)] (some (0, true)) (M.lift (Ax.faddr 3 t2))).bind fun t18 =>
  (guarded [(0, t14)] (some (0, true)) (mload none t18)).bind fun t19 =>
  (guarded [(0, t14)] (some (0, true)) (G fn_depend_within [t17, t19, (V.int .i64 0), (V.int .i64 15)])).bind fun t20 =>
  (M.lift (Ax.pick t14 t20 (V.bool false))).bind fun t21 =>
  M.pure (.ret [t21])

theorem eq_depend_Structure_fine (G : Sem') (t0 t1 : V) : execK G ir_depend_Structure_fine.rv ir_depend_Structure_fine.body [] [] (params 0 [t0, t1]) = f_depend_Structure_fine G t0 t1 := by kernel_rfl

def d_depend_Structure_fine (G : Sem') : List V → M V
  | [t0, t1] => fin (f_depend_Structure_fine G t0 t1)
  | _ => M.fail

theorem s_depend_Structure_fine {g : Sem'} (hg : Sims g (sem T)) (args : List V) : Sim (d_depend_Structure_fine g args) (sem T fn_depend_Structure_fine args) := by
  unfold d_depend_Structure_fine
  split
  · exact sim_fn tb_depend_Structure_fine (Nat.le_of_ble_eq_true rfl) hg (eq_depend_Structure_fine g _ _)
  · exact sim_fail

/-- palanquin/depend.diffs. -/
def f_depend_diffs (G : Sem') (t0 t1 t2 : V) : M Res :=
  (M.lift (vlen t0)).bind fun t8 =>
  (M.lift (Ax.bin .leq t8 t1)).bind fun t10 =>
  (guarded [(0, t10)] (some (0, true)) (M.pure t0)).bind fun t12 =>
  (guarded [(0, t10)] (some (0, true)) (M.pure t0)).bind fun t13 =>
  (guarded [(0, t10)] (some (0, true)) (M.lift (vlen t13))).bind fun t14 =>
  (guarded [(0, t10)] (some (0, true)) (M.pure t2)).bind fun t15 =>
  (guarded [(0, t10)] (some (0, true)) (G fn_depend_within [t12, t14, (V.int .i64 1), t15])).bind fun t16 =>
  (M.lift (Ax.pick t10 t16 (V.bool false))).bind fun t17 =>
  M.pure (.ret [t17])

theorem eq_depend_diffs (G : Sem') (t0 t1 t2 : V) : execK G ir_depend_diffs.rv ir_depend_diffs.body [] [] (params 0 [t0, t1, t2]) = f_depend_diffs G t0 t1 t2 := by kernel_rfl

def d_depend_diffs (G : Sem') : List V → M V
  | [t0, t1, t2] => fin (f_depend_diffs G t0 t1 t2)
  | _ => M.fail

theorem s_depend_diffs {g : Sem'} (hg : Sims g (sem T)) (args : List V) : Sim (d_depend_diffs g args) (sem T fn_depend_diffs args) := by
  unfold d_depend_diffs
  split
  · exact sim_fn tb_depend_diffs (Nat.le_of_ble_eq_true rfl) hg (eq_depend_diffs g _ _ _)
  · exact sim_fail

/-- slices.ContainsFunc[[]int,int]. -/
def f_slices_ContainsFunc_int_int (G : Sem') (t0 t1 : V) : M Res :=
  (G fn_slices_IndexFunc_int_int [t0, t1]).bind fun t7 =>
  (M.lift (Ax.bin .geq t7 (V.int .i64 0))).bind fun t8 =>
  M.pure (.ret [t8])

theorem eq_slices_ContainsFunc_int_int (G : Sem') (t0 t1 : V) : execK G ir_slices_ContainsFunc_int_int.rv ir_slices_ContainsFunc_int_int.body [] [] (params 0 [t0, t1]) = f_slices_ContainsFunc_int_int G t0 t1 := by kernel_rfl

def d_slices_ContainsFunc_int_int (G : Sem') : List V → M V
  | [t0, t1] => fin (f_slices_ContainsFunc_int_int G t0 t1)
  | _ => M.fail

theorem s_slices_ContainsFunc_int_int {g : Sem'} (hg : Sims g (sem T)) (args : List V) : Sim (d_slices_ContainsFunc_int_int g args) (sem T fn_slices_ContainsFunc_int_int args) := by
  unfold d_slices_ContainsFunc_int_int
  split
  · exact sim_fn tb_slices_ContainsFunc_int_int (Nat.le_of_ble_eq_true rfl) hg (eq_slices_ContainsFunc_int_int g _ _)
  · exact sim_fail

/-- palanquin/depend.within$1. -/
def f_depend_within_1 (G : Sem') (t0 t1 t2 : V) : M Res :=
  (mload none t1).bind fun t6 =>
  (M.lift (Ax.bin .lss t0 t6)).bind fun t7 =>
  (guarded [(0, t7)] (some (0, false)) (M.pure t0)).bind fun t9 =>
  (guarded [(0, t7)] (some (0, false)) (mload none t2)).bind fun t10 =>
  (guarded [(0, t7)] (some (0, false)) (M.lift (Ax.bin .gtr t9 t10))).bind fun t11 =>
  (M.lift (Ax.pick t7 (V.bool true) t11)).bind fun t12 =>
  M.pure (.ret [t12])

theorem eq_depend_within_1 (G : Sem') (t0 t1 t2 : V) : execK G ir_depend_within_1.rv ir_depend_within_1.body [] [] (params 0 [t0, t1, t2]) = f_depend_within_1 G t0 t1 t2 := by kernel_rfl

def d_depend_within_1 (G : Sem') : List V → M V
  | [t0, t1, t2] => fin (f_depend_within_1 G t0 t1 t2)
  | _ => M.fail

theorem s_depend_within_1 {g : Sem'} (hg : Sims g (sem T)) (args : List V) : Sim (d_depend_within_1 g args) (sem T fn_depend_within_1 args) := by
  unfold d_depend_within_1
  split
  · exact sim_fn tb_depend_within_1 (Nat.le_of_ble_eq_true rfl) hg (eq_depend_within_1 g _ _ _)
  · exact sim_fail

/-- palanquin/depend.next. -/
def f_depend_next (G : Sem') (t0 t1 : V) : M Res :=
  (mbox ty_depend_Template t0).bind fun t2 =>
  (mbox ty_depend_Template t1).bind fun t3 =>
  M.blk 0 (
    (M.lift (Ax.faddr 0 t3)).bind fun t7 =>
    (mload none t7).bind fun t8 =>
    (M.lift (Ax.faddr 0 t2)).bind fun t9 =>
    (mload none t9).bind fun t10 =>
    (M.lift (Ax.bin .eql t8 t10)).bind fun t11 =>
    (guarded [(0, t11)] (some (0, true)) (M.lift (Ax.faddr 1 t3))).bind fun t13 =>
    (guarded [(0, t11)] (some (0, true)) (mload none t13)).bind fun t14 =>
    (guarded [(0, t11)] (some (0, true)) (M.lift (Ax.faddr 1 t2))).bind fun t15 =>
    (guarded [(0, t11)] (some (0, true)) (mload none t15)).bind fun t16 =>
    (guarded [(0, t11)] (some (0, true)) (M.lift (Ax.bin .eql t14 t16))).bind fun t17 =>
    (M.lift (Ax.pick t11 t17 (V.bool false))).bind fun t18 =>
    M.ite t18
      (M.pure (.ret [(V.int .i64 0), (V.bool true)]))
      ((M.lift (Ax.faddr 0 t3)).bind fun t20 =>
      (mload none t20).bind fun t21 =>
      (M.lift (Ax.faddr 0 t2)).bind fun t22 =>
      (mload none t22).bind fun t23 =>
      (M.lift (Ax.bin .eql t21 t23)).bind fun t24 =>
      (guarded [(0, t24)] (some (0, true)) (M.lift (Ax.faddr 1 t3))).bind fun t26 =>
      (guarded [(0, t24)] (some (0, true)) (mload none t26)).bind fun t27 =>
      (guarded [(0, t24)] (some (0, true)) (M.lift (Ax.faddr 1 t2))).bind fun t28 =>
      (guarded [(0, t24)] (some (0, true)) (mload none t28)).bind fun t29 =>
      (guarded [(0, t24)] (some (0, true)) (M.lift (Ax.bin .add t29 (V.int .i64 1)))).bind fun t30 =>
      (guarded [(0, t24)] (some (0, true)) (M.lift (Ax.bin .eql t27 t30))).bind fun t31 =>
      (M.lift (Ax.pick t24 t31 (V.bool false))).bind fun t32 =>
      M.ite t32
        (M.pure (.ret [(V.int .i64 1), (V.bool true)]))
        ((M.lift (Ax.faddr 0 t3)).bind fun t34 =>
        (mload none t34).bind fun t35 =>
        (M.lift (Ax.faddr 0 t2)).bind fun t36 =>
        (mload none t36).bind fun t37 =>
        (M.lift (Ax.bin .add t37 (V.int .i64 1))).bind fun t38 =>
        (M.lift (Ax.bin .eql t35 t38)).bind fun t39 =>
        (guarded [(0, t39)] (some (0, true)) (M.lift (Ax.faddr 1 t3))).bind fun t41 =>
        (guarded [(0, t39)] (some (0, true)) (mload none t41)).bind fun t42 =>
        (guarded [(0, t39)] (some (0, true)) (M.lift (Ax.bin .eql t42 (V.int .i64 0)))).bind fun t43 =>
        (M.lift (Ax.pick t39 t43 (V.bool false))).bind fun t44 =>
        M.ite t44
          (M.pure (.ret [(V.int .i64 2), (V.bool true)]))
          (M.pure (.nrm []))))) fun _ =>
  M.pure (.ret [(V.int .i64 0), (V.bool false)])

theorem eq_depend_next (G : Sem') (t0 t1 : V) : execK G ir_depend_next.rv ir_depend_next.body [] [] (params 0 [t0, t1]) = f_depend_next G t0 t1 := by kernel_rfl

def d_depend_next (G : Sem') : List V → M V
  | [t0, t1] => fin (f_depend_next G t0 t1)
  | _ => M.fail

theorem s_depend_next {g : Sem'} (hg : Sims g (sem T)) (args : List V) : Sim (d_depend_next g args) (sem T fn_depend_next args) := by
  unfold d_depend_next
  split
  · exact sim_fn tb_depend_next (Nat.le_of_ble_eq_true rfl) hg (eq_depend_next g _ _)
  · exact sim_fail

/-- slices.IndexFunc[[]palanquin/depend.Template,palanquin/depend.Template]. -/
def f_slices_IndexFunc_depend_Template_depend_Template_0 (G : Sem') (t7 t1 t0 : V) (L : List V) : M Res :=
  (M.lift (Ax.bin .lss (L.getD 0 .undef) t7)).bind fun t9 =>
  M.ite t9
    (M.blk 1 (
      (M.lift (Ax.iaddr none 5 t0 (L.getD 0 .undef))).bind fun t14 =>
      (mload (some 5) t14).bind fun t15 =>
      (callv G t1 [t15]).bind fun t16 =>
      M.ite t16
        (M.pure (.ret [(L.getD 0 .undef)]))
        (M.pure (.nrm []))) fun _ =>
    (M.lift (Ax.bin .add (L.getD 0 .undef) (V.int .i64 1))).bind fun t18 =>
    M.pure (.nrm [t18]))
    (M.pure (.ex 0 []))

def f_slices_IndexFunc_depend_Template_depend_Template (G : Sem') (t0 t1 : V) : M Res :=
  (M.lift (vlen t0)).bind fun t7 =>
  M.blk 0 (
    M.iter (f_slices_IndexFunc_depend_Template_depend_Template_0 G t7 t1 t0) [(V.int .i64 0)]) fun _ =>
  M.pure (.ret [(V.int .i64 (-1))])

theorem eq_slices_IndexFunc_depend_Template_depend_Template (G : Sem') (t0 t1 : V) : execK G ir_slices_IndexFunc_depend_Template_depend_Template.rv ir_slices_IndexFunc_depend_Template_depend_Template.body [] [] (params 0 [t0, t1]) = f_slices_IndexFunc_depend_Template_depend_Template G t0 t1 := by kernel_rfl

def d_slices_IndexFunc_depend_Template_depend_Template (G : Sem') : List V → M V
  | [t0, t1] => fin (f_slices_IndexFunc_depend_Template_depend_Template G t0 t1)
  | _ => M.fail

theorem s_slices_IndexFunc_depend_Template_depend_Template {g : Sem'} (hg : Sims g (sem T)) (args : List V) : Sim (d_slices_IndexFunc_depend_Template_depend_Template g args) (sem T fn_slices_IndexFunc_depend_Template_depend_Template args) := by
  unfold d_slices_IndexFunc_depend_Template_depend_Template
  split
  · exact sim_fn tb_slices_IndexFunc_depend_Template_depend_Template (Nat.le_of_ble_eq_true rfl) hg (eq_slices_IndexFunc_depend_Template_depend_Template g _ _)
  · exact sim_fail

/-- slices.IndexFunc[[]int,int]. -/
def f_slices_IndexFunc_int_int_0 (G : Sem') (t7 t1 t0 : V) (L : List V) : M Res :=
  (M.lift (Ax.bin .lss (L.getD 0 .undef) t7)).bind fun t9 =>
  M.ite t9
    (M.blk 1 (
      (M.lift (Ax.iaddr none 1 t0 (L.getD 0 .undef))).bind fun t14 =>
      (mload none t14).bind fun t15 =>
      (callv G t1 [t15]).bind fun t16 =>
      M.ite t16
        (M.pure (.ret [(L.getD 0 .undef)]))
        (M.pure (.nrm []))) fun _ =>
    (M.lift (Ax.bin .add (L.getD 0 .undef) (V.int .i64 1))).bind fun t18 =>
    M.pure (.nrm [t18]))
    (M.pure (.ex 0 []))

def f_slices_IndexFunc_int_int (G : Sem') (t0 t1 : V) : M Res :=
  (M.lift (vlen t0)).bind fun t7 =>
  M.blk 0 (
    M.iter (f_slices_IndexFunc_int_int_0 G t7 t1 t0) [(V.int .i64 0)]) fun _ =>
  M.pure (.ret [(V.int .i64 (-1))])

theorem eq_slices_IndexFunc_int_int (G : Sem') (t0 t1 : V) : execK G ir_slices_IndexFunc_int_int.rv ir_slices_IndexFunc_int_int.body [] [] (params 0 [t0, t1]) = f_slices_IndexFunc_int_int G t0 t1 := by kernel_rfl

def d_slices_IndexFunc_int_int (G : Sem') : List V → M V
  | [t0, t1] => fin (f_slices_IndexFunc_int_int G t0 t1)
  | _ => M.fail

theorem s_slices_IndexFunc_int_int {g : Sem'} (hg : Sims g (sem T)) (args : List V) : Sim (d_slices_IndexFunc_int_int g args) (sem T fn_slices_IndexFunc_int_int args) := by
  unfold d_slices_IndexFunc_int_int
  split
  · exact sim_fn tb_slices_IndexFunc_int_int (Nat.le_of_ble_eq_true rfl) hg (eq_slices_IndexFunc_int_int g _ _)
  · exact sim_fail

def disp (G : Sem') (f : FuncId) (args : List V) : M V :=
  if f < 65 then (if f < 15 then (if f < 12 then (if f < 11 then (if f = fn_palanquinlaw20_PickKnown then d_palanquinlaw20_PickKnown G args else M.fail) else (if f = fn_palanquinlaw20_awake then d_palanquinlaw20_awake G args else M.fail)) else (if f < 13 then (if f = fn_pick_Fits then d_pick_Fits G args else M.fail) else (if f < 14 then (if f = fn_palanquinlaw20_three then d_palanquinlaw20_three G args else M.fail) else (if f = fn_pick_Source then d_pick_Source G args else M.fail)))) else (if f < 40 then (if f < 21 then (if f = fn_pick_In then d_pick_In G args else M.fail) else (if f = fn_depend_Layers then d_depend_Layers G args else M.fail)) else (if f < 63 then (if f = fn_depend_Fine then d_depend_Fine G args else M.fail) else (if f < 64 then (if f = fn_depend_within then d_depend_within G args else M.fail) else (if f = fn_depend_layers then d_depend_layers G args else M.fail))))) else (if f < 96 then (if f < 67 then (if f < 66 then (if f = fn_depend_spatial then d_depend_spatial G args else M.fail) else (if f = fn_slices_ContainsFunc_depend_Template_depend_Template then d_slices_ContainsFunc_depend_Template_depend_Template G args else M.fail)) else (if f < 68 then (if f = fn_depend_Fine_1 then d_depend_Fine_1 G args else M.fail) else (if f < 86 then (if f = fn_depend_Structure_fine then d_depend_Structure_fine G args else M.fail) else (if f = fn_depend_diffs then d_depend_diffs G args else M.fail)))) else (if f < 98 then (if f < 97 then (if f = fn_slices_ContainsFunc_int_int then d_slices_ContainsFunc_int_int G args else M.fail) else (if f = fn_depend_within_1 then d_depend_within_1 G args else M.fail)) else (if f < 99 then (if f = fn_depend_next then d_depend_next G args else M.fail) else (if f < 118 then (if f = fn_slices_IndexFunc_depend_Template_depend_Template then d_slices_IndexFunc_depend_Template_depend_Template G args else M.fail) else (if f = fn_slices_IndexFunc_int_int then d_slices_IndexFunc_int_int G args else M.fail)))))

theorem sims_disp {g : Sem'} (hg : Sims g (sem T)) : Sims (disp g) (sem T) := fun f args =>
  (sim_if (fun _ => (sim_if (fun _ => (sim_if (fun _ => (sim_if (fun _ => (sim_if (fun e => e ▸ s_palanquinlaw20_PickKnown hg args) sim_fail)) (sim_if (fun e => e ▸ s_palanquinlaw20_awake hg args) sim_fail))) (sim_if (fun _ => (sim_if (fun e => e ▸ s_pick_Fits hg args) sim_fail)) (sim_if (fun _ => (sim_if (fun e => e ▸ s_palanquinlaw20_three hg args) sim_fail)) (sim_if (fun e => e ▸ s_pick_Source hg args) sim_fail))))) (sim_if (fun _ => (sim_if (fun _ => (sim_if (fun e => e ▸ s_pick_In hg args) sim_fail)) (sim_if (fun e => e ▸ s_depend_Layers hg args) sim_fail))) (sim_if (fun _ => (sim_if (fun e => e ▸ s_depend_Fine hg args) sim_fail)) (sim_if (fun _ => (sim_if (fun e => e ▸ s_depend_within hg args) sim_fail)) (sim_if (fun e => e ▸ s_depend_layers hg args) sim_fail)))))) (sim_if (fun _ => (sim_if (fun _ => (sim_if (fun _ => (sim_if (fun e => e ▸ s_depend_spatial hg args) sim_fail)) (sim_if (fun e => e ▸ s_slices_ContainsFunc_depend_Template_depend_Template hg args) sim_fail))) (sim_if (fun _ => (sim_if (fun e => e ▸ s_depend_Fine_1 hg args) sim_fail)) (sim_if (fun _ => (sim_if (fun e => e ▸ s_depend_Structure_fine hg args) sim_fail)) (sim_if (fun e => e ▸ s_depend_diffs hg args) sim_fail))))) (sim_if (fun _ => (sim_if (fun _ => (sim_if (fun e => e ▸ s_slices_ContainsFunc_int_int hg args) sim_fail)) (sim_if (fun e => e ▸ s_depend_within_1 hg args) sim_fail))) (sim_if (fun _ => (sim_if (fun e => e ▸ s_depend_next hg args) sim_fail)) (sim_if (fun _ => (sim_if (fun e => e ▸ s_slices_IndexFunc_depend_Template_depend_Template hg args) sim_fail)) (sim_if (fun e => e ▸ s_slices_IndexFunc_int_int hg args) sim_fail))))))

def cs : Nat → Sem'
  | 0 => fun _ _ => M.fail
  | n + 1 => disp (cs n)

theorem sims_cs : ∀ n, Sims (cs n) (sem T)
  | 0 => fun _ _ => sim_fail
  | n + 1 => sims_disp (sims_cs n)

end Go.Ax.Cc
