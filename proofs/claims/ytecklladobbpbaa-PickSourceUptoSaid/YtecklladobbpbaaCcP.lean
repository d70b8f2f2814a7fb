/-
  The functions of closed calls, over a heap to compute with: printed by program (wip/gen/Emit.lean).
-/
import Derived.Test.YtecklladobbpbaaAx21
import Derived.Test.YtecklladobbpbaaFnP1
import Derived.Test.YtecklladobbpbaaFnP2
set_option maxRecDepth 100000
set_option linter.unusedVariables false
namespace Go.Ax.Cc
open Go.Proofs

/-- palanquin/palanquinlaw20.PickSays. -/
def f_palanquinlaw20_PickSays (G : Sem') (t0 t1 t2 t3 t4 t5 t6 t7 : V) : M Res :=
  (mbox ty_depend_Structure t0).bind fun t8 =>
  (mbox ty_depend_Frame t4).bind fun t12 =>
  (G fn_palanquinlaw20_awake []).bind fun t21 =>
  (M.lift (Ax.un .not t21)).bind fun t22 =>
  M.ite t22
    (M.pure (.ret [(V.bool false)]))
    ((mload (some 6) t8).bind fun t23 =>
    (G fn_palanquinlaw20_heavy [t23]).bind fun t24 =>
    (guarded [(0, t24)] (some (0, false)) (M.lift (Ax.faddr 5 t12))).bind fun t26 =>
    (guarded [(0, t24)] (some (0, false)) (mload (some 6) t26)).bind fun t27 =>
    (guarded [(0, t24)] (some (0, false)) (G fn_palanquinlaw20_heavy [t27])).bind fun t28 =>
    (M.lift (Ax.pick t24 (V.bool true) t28)).bind fun t29 =>
    M.ite t29
      (M.pure (.ret [(V.bool true)]))
      ((mload (some 6) t8).bind fun t31 =>
      (G fn_pick_Fits [t31, t1, t2, t3]).bind fun t35 =>
      (M.lift (Ax.ext 0 t35)).bind fun t36 =>
      (M.lift (Ax.ext 1 t35)).bind fun t37 =>
      (mload (some 6) t8).bind fun t39 =>
      (G fn_palanquinhelp_Structure [t39]).bind fun t40 =>
      (G fn_palanquinref20_Fits [t40, t1, t2, t3]).bind fun t44 =>
      (M.lift (Ax.ext 0 t44)).bind fun t45 =>
      (M.lift (Ax.ext 1 t44)).bind fun t46 =>
      (M.lift (Ax.bin .eql t36 t45)).bind fun t49 =>
      (guarded [(0, t49)] (some (0, true)) (M.pure t37)).bind fun t51 =>
      (guarded [(0, t49)] (some (0, true)) (M.pure t46)).bind fun t52 =>
      (guarded [(0, t49)] (some (0, true)) (M.lift (eqr .bool false t51 t52))).bind fun t53 =>
      (M.lift (Ax.pick t49 t53 (V.bool false))).bind fun t54 =>
      (guarded [(0, t54)] (some (0, true)) (mload (some 19) t12)).bind fun t56 =>
      (guarded [(0, t54)] (some (0, true)) (M.pure t5)).bind fun t57 =>
      (guarded [(0, t54)] (some (0, true)) (M.lift (Ax.faddr 16 t12))).bind fun t59 =>
      (guarded [(0, t54)] (some (0, true)) (mload none t59)).bind fun t60 =>
      (guarded [(0, t54)] (some (0, true)) (M.lift (Ax.build [(V.bool false), (V.bool false), (V.int .i64 0), (V.int .u16 0), (V.bool false), (V.int .i64 0), (V.int .i64 0), V.nils, (V.int .i64 0), V.nils, V.nils, (V.bool false), (V.int .u32 0), (V.bool false), (V.bool false), (V.bool false), V.nils, V.nils, V.nils] [(16, 1, t60)]))).bind fun t61 =>
      (guarded [(0, t54)] (some (0, true)) (M.pure t5)).bind fun t62 =>
      M.getH.bind fun h0 =>
      (guarded [(0, t54)] (some (0, true)) (G fn_pick_In [t56, t57])).bind fun t58 =>
      M.getH.bind fun h0' =>
      (M.unch t59 h0 h0').bind fun _ =>
      (guarded [(0, t54)] (some (0, true)) (G fn_palanquinref20_In [t61, t62])).bind fun t63 =>
      (guarded [(0, t54)] (some (0, true)) (M.lift (eqr .bool false t58 t63))).bind fun t64 =>
      (M.lift (Ax.pick t54 t64 (V.bool false))).bind fun t65 =>
      (guarded [(0, t65)] (some (0, true)) (M.pure t6)).bind fun t67 =>
      (guarded [(0, t65)] (some (0, true)) (M.pure t7)).bind fun t68 =>
      (guarded [(0, t65)] (some (0, true)) (G fn_pick_Source [t67, t68])).bind fun t69 =>
      (guarded [(0, t65)] (some (0, true)) (M.pure t6)).bind fun t70 =>
      (guarded [(0, t65)] (some (0, true)) (M.pure t7)).bind fun t71 =>
      (guarded [(0, t65)] (some (0, true)) (G fn_palanquinref20_Source [t70, t71])).bind fun t72 =>
      (guarded [(0, t65)] (some (0, true)) (M.lift (Ax.bin .eql t69 t72))).bind fun t73 =>
      (M.lift (Ax.pick t65 t73 (V.bool false))).bind fun t74 =>
      M.pure (.ret [t74])))

theorem eq_palanquinlaw20_PickSays (G : Sem') (t0 t1 t2 t3 t4 t5 t6 t7 : V) : execK G ir_palanquinlaw20_PickSays.rv ir_palanquinlaw20_PickSays.body [] [] (params 0 [t0, t1, t2, t3, t4, t5, t6, t7]) = f_palanquinlaw20_PickSays G t0 t1 t2 t3 t4 t5 t6 t7 := by kernel_rfl

def d_palanquinlaw20_PickSays (G : Sem') : List V → M V
  | [t0, t1, t2, t3, t4, t5, t6, t7] => fin (f_palanquinlaw20_PickSays G t0 t1 t2 t3 t4 t5 t6 t7)
  | _ => M.fail

theorem s_palanquinlaw20_PickSays {g : Sem'} (hg : Sims g (sem T)) (args : List V) : Sim (d_palanquinlaw20_PickSays g args) (sem T fn_palanquinlaw20_PickSays args) := by
  unfold d_palanquinlaw20_PickSays
  split
  · exact sim_fn tb_palanquinlaw20_PickSays (Nat.le_of_ble_eq_true rfl) hg (eq_palanquinlaw20_PickSays g _ _ _ _ _ _ _ _)
  · exact sim_fail

/-- palanquin/palanquinlaw20.PickBest. -/
def f_palanquinlaw20_PickBest_0 (G : Sem') (t5 t1 t11 t12 t14 t15 t16 t13 : V) (L : List V) : M Res :=
  (M.lift (Ax.bin .lss (L.getD 0 .undef) (V.int .i64 32))).bind fun t84 =>
  M.ite t84
    (M.blk 1 (
      (mload (some 6) t5).bind fun t88 =>
      (G fn_depend_Layers [t88, (L.getD 0 .undef)]).bind fun t90 =>
      (M.lift (Ax.ext 0 t90)).bind fun t91 =>
      (M.lift (Ax.ext 1 t90)).bind fun t92 =>
      (M.lift (Ax.ext 2 t90)).bind fun t93 =>
      (M.lift (Ax.un .not t93)).bind fun t95 =>
      (guarded [(0, t95)] (some (0, false)) (M.pure t1)).bind fun t97 =>
      (guarded [(0, t95)] (some (0, false)) (M.pure (L.getD 0 .undef))).bind fun t98 =>
      (guarded [(0, t95)] (some (0, false)) (M.lift (Ax.cint .u64 t98))).bind fun t99 =>
      (guarded [(0, t95)] (some (0, false)) (M.lift (Ax.bin .shr t97 t99))).bind fun t100 =>
      (guarded [(0, t95)] (some (0, false)) (M.lift (Ax.bin .and t100 (V.int .u32 1)))).bind fun t101 =>
      (guarded [(0, t95)] (some (0, false)) (M.lift (Ax.bin .eql t101 (V.int .u32 0)))).bind fun t102 =>
      (M.lift (Ax.pick t95 (V.bool true) t102)).bind fun t103 =>
      (guarded [(0, t103)] (some (0, false)) (M.pure t91)).bind fun t105 =>
      (guarded [(0, t103)] (some (0, false)) (M.pure t11)).bind fun t106 =>
      (guarded [(0, t103)] (some (0, false)) (M.lift (Ax.bin .gtr t105 t106))).bind fun t107 =>
      (M.lift (Ax.pick t103 (V.bool true) t107)).bind fun t108 =>
      (guarded [(0, t108)] (some (0, false)) (M.pure t92)).bind fun t110 =>
      (guarded [(0, t108)] (some (0, false)) (M.pure t12)).bind fun t111 =>
      (guarded [(0, t108)] (some (0, false)) (M.lift (Ax.bin .gtr t110 t111))).bind fun t112 =>
      (M.lift (Ax.pick t108 (V.bool true) t112)).bind fun t113 =>
      M.ite t113
        (M.pure (.ex 1 []))
        ((M.lift (Ax.un .not t14)).bind fun t115 =>
        (guarded [(0, t115)] (some (0, false)) (M.pure t91)).bind fun t117 =>
        (guarded [(0, t115)] (some (0, false)) (M.pure t15)).bind fun t118 =>
        (guarded [(0, t115)] (some (0, false)) (M.lift (Ax.bin .gtr t117 t118))).bind fun t119 =>
        (M.lift (Ax.pick t115 (V.bool true) t119)).bind fun t120 =>
        (guarded [(0, t120)] (some (0, false)) (M.pure t91)).bind fun t122 =>
        (guarded [(0, t120)] (some (0, false)) (M.pure t15)).bind fun t123 =>
        (guarded [(0, t120)] (some (0, false)) (M.lift (Ax.bin .eql t122 t123))).bind fun t124 =>
        (guarded [(0, t120)] (some (0, false)) (M.pure t124)).bind fun t125 =>
        (guarded [(0, t125)] (some (0, true)) (M.pure t92)).bind fun t126 =>
        (guarded [(0, t125)] (some (0, true)) (M.pure t16)).bind fun t127 =>
        (guarded [(0, t125)] (some (0, true)) (M.lift (Ax.bin .gtr t126 t127))).bind fun t128 =>
        (guarded [(0, t120)] (some (0, false)) (M.lift (Ax.pick t125 t128 (V.bool false)))).bind fun t129 =>
        (M.lift (Ax.pick t120 (V.bool true) t129)).bind fun t130 =>
        (guarded [(0, t130)] (some (0, false)) (M.pure t91)).bind fun t132 =>
        (guarded [(0, t130)] (some (0, false)) (M.pure t15)).bind fun t133 =>
        (guarded [(0, t130)] (some (0, false)) (M.lift (Ax.bin .eql t132 t133))).bind fun t134 =>
        (guarded [(0, t130)] (some (0, false)) (M.pure t134)).bind fun t135 =>
        (guarded [(0, t135)] (some (0, true)) (M.pure t92)).bind fun t136 =>
        (guarded [(0, t135)] (some (0, true)) (M.pure t16)).bind fun t137 =>
        (guarded [(0, t135)] (some (0, true)) (M.lift (Ax.bin .eql t136 t137))).bind fun t138 =>
        (guarded [(0, t130)] (some (0, false)) (M.lift (Ax.pick t135 t138 (V.bool false)))).bind fun t139 =>
        (guarded [(0, t130)] (some (0, false)) (M.pure t139)).bind fun t140 =>
        (guarded [(0, t140)] (some (0, true)) (M.pure (L.getD 0 .undef))).bind fun t141 =>
        (guarded [(0, t140)] (some (0, true)) (M.pure t13)).bind fun t142 =>
        (guarded [(0, t140)] (some (0, true)) (M.lift (Ax.bin .lss t141 t142))).bind fun t143 =>
        (guarded [(0, t130)] (some (0, false)) (M.lift (Ax.pick t140 t143 (V.bool false)))).bind fun t144 =>
        (M.lift (Ax.pick t130 (V.bool true) t144)).bind fun t145 =>
        M.ite t145
          (M.pure (.ret [(V.bool false)]))
          (M.pure (.nrm [])))) fun _ =>
    (M.lift (Ax.bin .add (L.getD 0 .undef) (V.int .i64 1))).bind fun t86 =>
    M.pure (.nrm [t86]))
    (M.pure (.ex 0 []))

def f_palanquinlaw20_PickBest (G : Sem') (t0 t1 t2 t3 t4 : V) : M Res :=
  (mbox ty_depend_Structure t0).bind fun t5 =>
  (G fn_palanquinlaw20_awake []).bind fun t27 =>
  (M.lift (Ax.un .not t27)).bind fun t28 =>
  M.ite t28
    (M.pure (.ret [(V.bool false)]))
    ((mload (some 6) t5).bind fun t29 =>
    (G fn_palanquinlaw20_heavy [t29]).bind fun t30 =>
    M.ite t30
      (M.pure (.ret [(V.bool true)]))
      ((M.lift (Ax.bin .rem t2 (V.int .u8 4))).bind fun t32 =>
      (M.lift (Ax.cint .i64 t32)).bind fun t33 =>
      (M.lift (Ax.bin .rem t3 (V.int .u8 8))).bind fun t35 =>
      (M.lift (Ax.cint .i64 t35)).bind fun t36 =>
      (mload (some 6) t5).bind fun t38 =>
      (G fn_pick_Fits [t38, t1, t33, t36]).bind fun t42 =>
      (M.lift (Ax.ext 0 t42)).bind fun t43 =>
      (M.lift (Ax.ext 1 t42)).bind fun t44 =>
      (mload (some 6) t5).bind fun t46 =>
      (G fn_depend_Layers [t46, t43]).bind fun t48 =>
      (M.lift (Ax.ext 0 t48)).bind fun t49 =>
      (M.lift (Ax.ext 1 t48)).bind fun t50 =>
      (M.lift (Ax.ext 2 t48)).bind fun t51 =>
      (guarded [(0, t44)] (some (0, true)) (M.pure t51)).bind fun t54 =>
      (guarded [(0, t44)] (some (0, true)) (M.lift (Ax.un .not t54))).bind fun t55 =>
      (guarded [(0, t44)] (some (0, true)) (M.pure t55)).bind fun t56 =>
      (guarded [(0, t56)] (some (0, false)) (M.pure t1)).bind fun t57 =>
      (guarded [(0, t56)] (some (0, false)) (M.pure t43)).bind fun t58 =>
      (guarded [(0, t56)] (some (0, false)) (M.lift (Ax.cint .u64 t58))).bind fun t59 =>
      (guarded [(0, t56)] (some (0, false)) (M.lift (Ax.bin .shr t57 t59))).bind fun t60 =>
      (guarded [(0, t56)] (some (0, false)) (M.lift (Ax.bin .and t60 (V.int .u32 1)))).bind fun t61 =>
      (guarded [(0, t56)] (some (0, false)) (M.lift (Ax.bin .eql t61 (V.int .u32 0)))).bind fun t62 =>
      (guarded [(0, t44)] (some (0, true)) (M.lift (Ax.pick t56 (V.bool true) t62))).bind fun t63 =>
      (guarded [(0, t44)] (some (0, true)) (M.pure t63)).bind fun t64 =>
      (guarded [(0, t64)] (some (0, false)) (M.pure t49)).bind fun t65 =>
      (guarded [(0, t64)] (some (0, false)) (M.pure t33)).bind fun t66 =>
      (guarded [(0, t64)] (some (0, false)) (M.lift (Ax.bin .gtr t65 t66))).bind fun t67 =>
      (guarded [(0, t44)] (some (0, true)) (M.lift (Ax.pick t64 (V.bool true) t67))).bind fun t68 =>
      (guarded [(0, t44)] (some (0, true)) (M.pure t68)).bind fun t69 =>
      (guarded [(0, t69)] (some (0, false)) (M.pure t50)).bind fun t70 =>
      (guarded [(0, t69)] (some (0, false)) (M.pure t36)).bind fun t71 =>
      (guarded [(0, t69)] (some (0, false)) (M.lift (Ax.bin .gtr t70 t71))).bind fun t72 =>
      (guarded [(0, t44)] (some (0, true)) (M.lift (Ax.pick t69 (V.bool true) t72))).bind fun t73 =>
      (M.lift (Ax.pick t44 t73 (V.bool false))).bind fun t74 =>
      (guarded [(0, t74)] (some (0, false)) (M.pure t44)).bind fun t76 =>
      (guarded [(0, t74)] (some (0, false)) (M.lift (Ax.un .not t76))).bind fun t77 =>
      (guarded [(0, t74)] (some (0, false)) (M.pure t77)).bind fun t78 =>
      (guarded [(0, t78)] (some (0, true)) (M.pure t43)).bind fun t79 =>
      (guarded [(0, t78)] (some (0, true)) (M.lift (Ax.bin .neq t79 (V.int .i64 0)))).bind fun t80 =>
      (guarded [(0, t74)] (some (0, false)) (M.lift (Ax.pick t78 t80 (V.bool false)))).bind fun t81 =>
      (M.lift (Ax.pick t74 (V.bool true) t81)).bind fun t82 =>
      M.ite t82
        (M.pure (.ret [(V.bool false)]))
        (M.blk 0 (
          M.iter (f_palanquinlaw20_PickBest_0 G t5 t1 t33 t36 t44 t49 t50 t43) [(V.int .i64 0)]) fun _ =>
        (mload (some 6) t5).bind fun t147 =>
        (M.lift (Ax.bin .rem t4 (V.int .u8 4))).bind fun t151 =>
        (M.lift (Ax.cint .i64 t151)).bind fun t152 =>
        (M.lift (Ax.bin .add t33 t152)).bind fun t153 =>
        (G fn_pick_Fits [t147, t1, t153, t36]).bind fun t155 =>
        (M.lift (Ax.ext 0 t155)).bind fun t156 =>
        (M.lift (Ax.ext 1 t155)).bind fun t157 =>
        (mload (some 6) t5).bind fun t159 =>
        (G fn_depend_Layers [t159, t156]).bind fun t161 =>
        (M.lift (Ax.ext 0 t161)).bind fun t162 =>
        (M.lift (Ax.ext 1 t161)).bind fun t163 =>
        (M.lift (Ax.ext 2 t161)).bind fun t164 =>
        (M.lift (Ax.un .not t44)).bind fun t166 =>
        (guarded [(0, t166)] (some (0, false)) (M.pure t157)).bind fun t168 =>
        (guarded [(0, t166)] (some (0, false)) (M.pure t168)).bind fun t169 =>
        (guarded [(0, t169)] (some (0, true)) (M.pure t162)).bind fun t170 =>
        (guarded [(0, t169)] (some (0, true)) (M.pure t49)).bind fun t171 =>
        (guarded [(0, t169)] (some (0, true)) (M.lift (Ax.bin .geq t170 t171))).bind fun t172 =>
        (guarded [(0, t166)] (some (0, false)) (M.lift (Ax.pick t169 t172 (V.bool false)))).bind fun t173 =>
        (M.lift (Ax.pick t166 (V.bool true) t173)).bind fun t174 =>
        M.pure (.ret [t174]))))

theorem eq_palanquinlaw20_PickBest (G : Sem') (t0 t1 t2 t3 t4 : V) : execK G ir_palanquinlaw20_PickBest.rv ir_palanquinlaw20_PickBest.body [] [] (params 0 [t0, t1, t2, t3, t4]) = f_palanquinlaw20_PickBest G t0 t1 t2 t3 t4 := by kernel_rfl

def d_palanquinlaw20_PickBest (G : Sem') : List V → M V
  | [t0, t1, t2, t3, t4] => fin (f_palanquinlaw20_PickBest G t0 t1 t2 t3 t4)
  | _ => M.fail

theorem s_palanquinlaw20_PickBest {g : Sem'} (hg : Sims g (sem T)) (args : List V) : Sim (d_palanquinlaw20_PickBest g args) (sem T fn_palanquinlaw20_PickBest args) := by
  unfold d_palanquinlaw20_PickBest
  split
  · exact sim_fn tb_palanquinlaw20_PickBest (Nat.le_of_ble_eq_true rfl) hg (eq_palanquinlaw20_PickBest g _ _ _ _ _)
  · exact sim_fail

/-- palanquin/palanquinlaw20.PickSource. -/
def f_palanquinlaw20_PickSource_0 (G : Sem') (t2 t6 : V) (L : List V) : M Res :=
  (M.lift (vlen t2)).bind fun t29 =>
  (M.lift (Ax.bin .lss (L.getD 1 .undef) t29)).bind fun t30 =>
  M.ite t30
    (M.blk 1 (
      (M.lift (Ax.iaddr none 1 t2 (L.getD 1 .undef))).bind fun t36 =>
      (mload none t36).bind fun t37 =>
      (M.lift (Ax.cint .i64 t37)).bind fun t38 =>
      (mslit ty_int 1 [(V.int .i64 0)] [(0, 1, t38)]).bind fun t39 =>
      (mappend ty_int 1 8 (L.getD 0 .undef) t39).bind fun t40 =>
      M.pure (.nrm [t40])) fun L0 =>
    (M.lift (Ax.bin .add (L.getD 1 .undef) (V.int .i64 1))).bind fun t32 =>
    M.pure (.nrm [(L0.getD 0 .undef), t32]))
    (M.pure (.ex 0 [(L.getD 0 .undef)]))

def f_palanquinlaw20_PickSource_1 (G : Sem') (t7 t0 t9 : V) (L : List V) : M Res :=
  (M.lift (vlen t7)).bind fun t54 =>
  (M.lift (Ax.bin .lss (L.getD 1 .undef) t54)).bind fun t55 =>
  M.ite t55
    (M.blk 3 (
      (M.lift (Ax.iaddr none 1 t7 (L.getD 1 .undef))).bind fun t60 =>
      (mload none t60).bind fun t61 =>
      (M.lift (Ax.cint .u64 t61)).bind fun t62 =>
      (M.lift (Ax.bin .mul t62 (V.int .u64 10000))).bind fun t63 =>
      (M.lift (Ax.bin .leq t63 t0)).bind fun t65 =>
      (guarded [(0, (L.getD 0 .undef))] (some (0, false)) (M.pure t65)).bind fun t68 =>
      (M.lift (Ax.pick (L.getD 0 .undef) (V.bool true) t68)).bind fun t69 =>
      (guarded [(0, t65)] (some (0, true)) (M.pure (L.getD 1 .undef))).bind fun t72 =>
      (guarded [(0, t65)] (some (0, true)) (M.pure t9)).bind fun t73 =>
      (guarded [(0, t65)] (some (0, true)) (M.lift (Ax.bin .gtr t72 t73))).bind fun t74 =>
      (M.lift (Ax.pick t65 t74 (V.bool false))).bind fun t75 =>
      M.ite t75
        (M.pure (.ret [(V.bool false)]))
        (M.pure (.nrm [t69]))) fun L2 =>
    (M.lift (Ax.bin .add (L.getD 1 .undef) (V.int .i64 1))).bind fun t57 =>
    M.pure (.nrm [(L2.getD 0 .undef), t57]))
    (M.pure (.ex 2 [(L.getD 0 .undef)]))

def f_palanquinlaw20_PickSource (G : Sem') (t0 t1 t2 : V) : M Res :=
  (G fn_palanquinlaw20_awake []).bind fun t14 =>
  (M.lift (Ax.un .not t14)).bind fun t15 =>
  M.ite t15
    (M.pure (.ret [(V.bool false)]))
    ((M.lift (vlen t2)).bind fun t17 =>
    (M.lift (Ax.bin .eql t17 (V.int .i64 0))).bind fun t18 =>
    (guarded [(0, t18)] (some (0, false)) (M.pure t2)).bind fun t20 =>
    (guarded [(0, t18)] (some (0, false)) (M.lift (vlen t20))).bind fun t21 =>
    (guarded [(0, t18)] (some (0, false)) (M.lift (Ax.bin .gtr t21 (V.int .i64 50)))).bind fun t22 =>
    (M.lift (Ax.pick t18 (V.bool true) t22)).bind fun t23 =>
    M.ite t23
      ((G fn_pick_Source [t0, V.nils]).bind fun t25 =>
      (M.lift (Ax.bin .eql t25 (V.int .i64 0))).bind fun t26 =>
      M.pure (.ret [t26]))
      (M.blk 0 (
        M.iter (f_palanquinlaw20_PickSource_0 G t2 (V.bool false)) [V.nils, (V.int .i64 0)]) fun L1 =>
      (G fn_pick_Source [t0, (L1.getD 0 .undef)]).bind fun t43 =>
      (M.lift (Ax.bin .lss t43 (V.int .i64 0))).bind fun t45 =>
      (guarded [(0, t45)] (some (0, false)) (M.pure t43)).bind fun t47 =>
      (guarded [(0, t45)] (some (0, false)) (M.pure (L1.getD 0 .undef))).bind fun t48 =>
      (guarded [(0, t45)] (some (0, false)) (M.lift (vlen t48))).bind fun t49 =>
      (guarded [(0, t45)] (some (0, false)) (M.lift (Ax.bin .geq t47 t49))).bind fun t50 =>
      (M.lift (Ax.pick t45 (V.bool true) t50)).bind fun t51 =>
      M.ite t51
        (M.pure (.ret [(V.bool false)]))
        (M.blk 2 (
          M.iter (f_palanquinlaw20_PickSource_1 G (L1.getD 0 .undef) t0 t43) [(V.bool false), (V.int .i64 0)]) fun L3 =>
        (M.lift (Ax.iaddr none 1 (L1.getD 0 .undef) t43)).bind fun t78 =>
        (mload none t78).bind fun t79 =>
        (M.lift (Ax.cint .u64 t79)).bind fun t80 =>
        (M.lift (Ax.bin .mul t80 (V.int .u64 10000))).bind fun t81 =>
        (M.lift (Ax.bin .leq t81 t0)).bind fun t83 =>
        (M.lift (eqr .bool true t83 (L3.getD 0 .undef))).bind fun t85 =>
        (guarded [(0, t85)] (some (0, false)) (M.pure (L3.getD 0 .undef))).bind fun t87 =>
        (guarded [(0, t85)] (some (0, false)) (M.lift (Ax.un .not t87))).bind fun t88 =>
        (guarded [(0, t85)] (some (0, false)) (M.pure t88)).bind fun t89 =>
        (guarded [(0, t89)] (some (0, true)) (M.pure t43)).bind fun t90 =>
        (guarded [(0, t89)] (some (0, true)) (M.lift (Ax.bin .neq t90 (V.int .i64 0)))).bind fun t91 =>
        (guarded [(0, t85)] (some (0, false)) (M.lift (Ax.pick t89 t91 (V.bool false)))).bind fun t92 =>
        (M.lift (Ax.pick t85 (V.bool true) t92)).bind fun t93 =>
        M.ite t93
          (M.pure (.ret [(V.bool false)]))
          ((M.lift (Ax.minmax true t0 [t1])).bind fun t96 =>
          (G fn_pick_Source [t96, (L1.getD 0 .undef)]).bind fun t98 =>
          (M.lift (Ax.bin .geq t98 t43)).bind fun t101 =>
          M.pure (.ret [t101])))))

theorem eq_palanquinlaw20_PickSource (G : Sem') (t0 t1 t2 : V) : execK G ir_palanquinlaw20_PickSource.rv ir_palanquinlaw20_PickSource.body [] [] (params 0 [t0, t1, t2]) = f_palanquinlaw20_PickSource G t0 t1 t2 := by kernel_rfl

def d_palanquinlaw20_PickSource (G : Sem') : List V → M V
  | [t0, t1, t2] => fin (f_palanquinlaw20_PickSource G t0 t1 t2)
  | _ => M.fail

theorem s_palanquinlaw20_PickSource {g : Sem'} (hg : Sims g (sem T)) (args : List V) : Sim (d_palanquinlaw20_PickSource g args) (sem T fn_palanquinlaw20_PickSource args) := by
  unfold d_palanquinlaw20_PickSource
  split
  · exact sim_fn tb_palanquinlaw20_PickSource (Nat.le_of_ble_eq_true rfl) hg (eq_palanquinlaw20_PickSource g _ _ _)
  · exact sim_fail

/-- palanquin/palanquinlaw20.awake. -/
def f_palanquinlaw20_awake (G : Sem') : M Res :=
  (G fn_palanquinlaw20_three []).bind fun t6 =>
  (G fn_pick_Fits [t6, (V.int .u32 7), (V.int .i64 3), (V.int .i64 7)]).bind fun t7 =>
  (M.lift (Ax.ext 0 t7)).bind fun t8 =>
  (M.lift (Ax.ext 1 t7)).bind fun t9 =>
  (G fn_palanquinlaw20_three []).bind fun t11 =>
  (G fn_pick_Fits [t11, (V.int .u32 7), (V.int .i64 0), (V.int .i64 7)]).bind fun t12 =>
  (M.lift (Ax.ext 0 t12)).bind fun t13 =>
  (M.lift (Ax.ext 1 t12)).bind fun t14 =>
  (guarded [(0, t9)] (some (0, true)) (M.pure t8)).bind fun t17 =>
  (guarded [(0, t9)] (some (0, true)) (M.lift (Ax.bin .eql t17 (V.int .i64 2)))).bind fun t18 =>
  (M.lift (Ax.pick t9 t18 (V.bool false))).bind fun t19 =>
  (guarded [(0, t19)] (some (0, true)) (M.pure t14)).bind fun t21 =>
  (M.lift (Ax.pick t19 t21 (V.bool false))).bind fun t22 =>
  (guarded [(0, t22)] (some (0, true)) (M.pure t13)).bind fun t24 =>
  (guarded [(0, t22)] (some (0, true)) (M.lift (Ax.bin .eql t24 (V.int .i64 1)))).bind fun t25 =>
  (M.lift (Ax.pick t22 t25 (V.bool false))).bind fun t26 =>
  (guarded [(0, t26)] (some (0, true)) (mslit ty_int 3 [(V.int .i64 0)] [(0, 1, (V.int .i64 2)), (1, 1, (V.int .i64 5)), (2, 1, (V.int .i64 6))])).bind fun t28 =>
  (guarded [(0, t26)] (some (0, true)) (G fn_pick_Source [(V.int .u64 50000), t28])).bind fun t29 =>
  (guarded [(0, t26)] (some (0, true)) (M.lift (Ax.bin .eql t29 (V.int .i64 1)))).bind fun t30 =>
  (M.lift (Ax.pick t26 t30 (V.bool false))).bind fun t31 =>
  (guarded [(0, t31)] (some (0, true)) (mslit ty_int 2 [(V.int .i64 0)] [(0, 1, (V.int .i64 0)), (1, 1, (V.int .i64 1))])).bind fun t33 =>
  (guarded [(0, t31)] (some (0, true)) (M.lift (Ax.build [(V.bool false), (V.bool false), (V.int .i64 0), (V.int .u16 0), (V.bool false), (V.int .i64 0), (V.int .i64 0), V.nils, (V.int .i64 0), V.nils, V.nils, (V.bool false), (V.int .u32 0), (V.bool false), (V.bool false), (V.bool false), V.nils, V.nils, V.nils] [(16, 1, t33)]))).bind fun t34 =>
  (guarded [(0, t31)] (some (0, true)) (G fn_pick_In [t34, (V.int .i64 1)])).bind fun t35 =>
  (M.lift (Ax.pick t31 t35 (V.bool false))).bind fun t36 =>
  M.pure (.ret [t36])

theorem eq_palanquinlaw20_awake (G : Sem') : execK G ir_palanquinlaw20_awake.rv ir_palanquinlaw20_awake.body [] [] (params 0 []) = f_palanquinlaw20_awake G := by kernel_rfl

def d_palanquinlaw20_awake (G : Sem') : List V → M V
  | [] => fin (f_palanquinlaw20_awake G)
  | _ => M.fail

theorem s_palanquinlaw20_awake {g : Sem'} (hg : Sims g (sem T)) (args : List V) : Sim (d_palanquinlaw20_awake g args) (sem T fn_palanquinlaw20_awake args) := by
  unfold d_palanquinlaw20_awake
  split
  · exact sim_fn tb_palanquinlaw20_awake (Nat.le_of_ble_eq_true rfl) hg (eq_palanquinlaw20_awake g)
  · exact sim_fail

/-- palanquin/pick.Fits. -/
def f_pick_Fits_0 (G : Sem') (t22 t4 t1 t2 t3 t8 t9 : V) (L : List V) : M Res :=
  (M.lift (Ax.bin .lss (L.getD 4 .undef) t22)).bind fun t24 =>
  M.ite t24
    (M.blk 1 (
      (mload (some 6) t4).bind fun t27 =>
      (G fn_depend_Layers [t27, (L.getD 4 .undef)]).bind fun t29 =>
      (M.lift (Ax.ext 0 t29)).bind fun t30 =>
      (M.lift (Ax.ext 1 t29)).bind fun t31 =>
      (M.lift (Ax.ext 2 t29)).bind fun t32 =>
      (M.lift (Ax.un .not t32)).bind fun t34 =>
      (guarded [(0, t34)] (some (0, false)) (M.pure t1)).bind fun t36 =>
      (guarded [(0, t34)] (some (0, false)) (M.pure (L.getD 4 .undef))).bind fun t37 =>
      (guarded [(0, t34)] (some (0, false)) (M.lift (Ax.bin .shr t36 t37))).bind fun t38 =>
      (guarded [(0, t34)] (some (0, false)) (M.lift (Ax.bin .and t38 (V.int .u32 1)))).bind fun t39 =>
      (guarded [(0, t34)] (some (0, false)) (M.lift (Ax.bin .eql t39 (V.int .u32 0)))).bind fun t40 =>
      (M.lift (Ax.pick t34 (V.bool true) t40)).bind fun t41 =>
      (guarded [(0, t41)] (some (0, false)) (M.pure t30)).bind fun t43 =>
      (guarded [(0, t41)] (some (0, false)) (M.pure t2)).bind fun t44 =>
      (guarded [(0, t41)] (some (0, false)) (M.lift (Ax.bin .gtr t43 t44))).bind fun t45 =>
      (M.lift (Ax.pick t41 (V.bool true) t45)).bind fun t46 =>
      (guarded [(0, t46)] (some (0, false)) (M.pure t31)).bind fun t48 =>
      (guarded [(0, t46)] (some (0, false)) (M.pure t3)).bind fun t49 =>
      (guarded [(0, t46)] (some (0, false)) (M.lift (Ax.bin .gtr t48 t49))).bind fun t50 =>
      (M.lift (Ax.pick t46 (V.bool true) t50)).bind fun t51 =>
      M.ite t51
        (M.pure (.ex 1 [(L.getD 0 .undef), (L.getD 1 .undef), (L.getD 2 .undef), (L.getD 3 .undef)]))
        ((M.lift (Ax.un .not (L.getD 3 .undef))).bind fun t53 =>
        (guarded [(0, t53)] (some (0, false)) (M.pure t30)).bind fun t55 =>
        (guarded [(0, t53)] (some (0, false)) (M.pure (L.getD 1 .undef))).bind fun t56 =>
        (guarded [(0, t53)] (some (0, false)) (M.lift (Ax.bin .gtr t55 t56))).bind fun t57 =>
        (M.lift (Ax.pick t53 (V.bool true) t57)).bind fun t58 =>
        (guarded [(0, t58)] (some (0, false)) (M.pure t30)).bind fun t60 =>
        (guarded [(0, t58)] (some (0, false)) (M.pure (L.getD 1 .undef))).bind fun t61 =>
        (guarded [(0, t58)] (some (0, false)) (M.lift (Ax.bin .eql t60 t61))).bind fun t62 =>
        (guarded [(0, t58)] (some (0, false)) (M.pure t62)).bind fun t63 =>
        (guarded [(0, t63)] (some (0, true)) (M.pure t31)).bind fun t64 =>
        (guarded [(0, t63)] (some (0, true)) (M.pure (L.getD 2 .undef))).bind fun t65 =>
        (guarded [(0, t63)] (some (0, true)) (M.lift (Ax.bin .gtr t64 t65))).bind fun t66 =>
        (guarded [(0, t58)] (some (0, false)) (M.lift (Ax.pick t63 t66 (V.bool false)))).bind fun t67 =>
        (M.lift (Ax.pick t58 (V.bool true) t67)).bind fun t68 =>
        M.join (M.ite t68
          (M.pure (.nrm [(L.getD 4 .undef), t30, t31, (V.bool true)]))
          (M.pure (.nrm [(L.getD 0 .undef), (L.getD 1 .undef), (L.getD 2 .undef), (L.getD 3 .undef)]))) fun L0 =>
        M.pure (.nrm [(L0.getD 0 .undef), (L0.getD 1 .undef), (L0.getD 2 .undef), (L0.getD 3 .undef)]))) fun L1 =>
    (M.lift (Ax.bin .add (L.getD 4 .undef) (V.int .i64 1))).bind fun t72 =>
    M.pure (.nrm [(L1.getD 0 .undef), (L1.getD 1 .undef), (L1.getD 2 .undef), (L1.getD 3 .undef), t72]))
    (M.pure (.ex 0 [(L.getD 0 .undef), (L.getD 3 .undef)]))

def f_pick_Fits (G : Sem') (t0 t1 t2 t3 : V) : M Res :=
  (mbox ty_depend_Structure t0).bind fun t4 =>
  (mload (some 6) t4).bind fun t18 =>
  (G fn_depend_Fine [t18]).bind fun t19 =>
  (M.lift (Ax.un .not t19)).bind fun t20 =>
  M.ite t20
    (M.pure (.ret [(V.int .i64 0), (V.bool false)]))
    ((M.lift (Ax.faddr 1 t4)).bind fun t21 =>
    (mload none t21).bind fun t22 =>
    M.blk 0 (
      M.iter (f_pick_Fits_0 G t22 t4 t1 t2 t3 (V.int .i64 0) (V.bool false)) [(V.int .i64 0), (V.int .i64 0), (V.int .i64 0), (V.bool false), (V.int .i64 0)]) fun L2 =>
    M.pure (.ret [(L2.getD 0 .undef), (L2.getD 1 .undef)]))

theorem eq_pick_Fits (G : Sem') (t0 t1 t2 t3 : V) : execK G ir_pick_Fits.rv ir_pick_Fits.body [] [] (params 0 [t0, t1, t2, t3]) = f_pick_Fits G t0 t1 t2 t3 := by kernel_rfl

def d_pick_Fits (G : Sem') : List V → M V
  | [t0, t1, t2, t3] => fin (f_pick_Fits G t0 t1 t2 t3)
  | _ => M.fail

theorem s_pick_Fits {g : Sem'} (hg : Sims g (sem T)) (args : List V) : Sim (d_pick_Fits g args) (sem T fn_pick_Fits args) := by
  unfold d_pick_Fits
  split
  · exact sim_fn tb_pick_Fits (Nat.le_of_ble_eq_true rfl) hg (eq_pick_Fits g _ _ _ _)
  · exact sim_fail

/-- palanquin/palanquinlaw20.three. -/
def f_palanquinlaw20_three (G : Sem') : M Res :=
  (mbox ty_depend_Structure (V.agg [(V.int .i64 0), (V.int .i64 0), V.nils, (V.int .i64 0), V.nils, V.nils])).bind fun t0 =>
  (mslit ty_int 3 [(V.int .i64 0)] [(0, 1, (V.int .i64 2)), (1, 1, (V.int .i64 2)), (2, 1, (V.int .i64 2))]).bind fun t1 =>
  (M.lift (Ax.build [(V.int .i64 0), (V.int .i64 0), V.nils, V.nils, V.nils] [(2, 1, t1)])).bind fun t2 =>
  (mslit ty_int 3 [(V.int .i64 0)] [(0, 1, (V.int .i64 0)), (1, 1, (V.int .i64 1)), (2, 1, (V.int .i64 2))]).bind fun t3 =>
  (M.lift (Ax.build [(V.int .i64 0), (V.int .i64 0), V.nils, V.nils, V.nils] [(1, 1, (V.int .i64 1)), (2, 1, t3)])).bind fun t4 =>
  (mslit ty_int 3 [(V.int .i64 0)] [(0, 1, (V.int .i64 0)), (1, 1, (V.int .i64 0)), (2, 1, (V.int .i64 3))]).bind fun t5 =>
  (M.lift (Ax.build [(V.int .i64 0), (V.int .i64 0), V.nils, V.nils, V.nils] [(0, 1, (V.int .i64 1)), (2, 1, t5)])).bind fun t6 =>
  (mslit ty_depend_Template 3 [(V.int .i64 0), (V.int .i64 0), V.nils, V.nils, V.nils] [(0, 5, t2), (5, 5, t4), (10, 5, t6)]).bind fun t7 =>
  (M.lift (Ax.build [(V.int .i64 0), (V.int .i64 0), V.nils, (V.int .i64 0), V.nils, V.nils] [(1, 1, (V.int .i64 3)), (2, 1, t7)])).bind fun t8 =>
  (mstore 6 t0 t8).bind fun _ =>
  (mload (some 6) t0).bind fun r0 =>
  M.pure (.ret [r0])

theorem eq_palanquinlaw20_three (G : Sem') : execK G ir_palanquinlaw20_three.rv ir_palanquinlaw20_three.body [] [] (params 0 []) = f_palanquinlaw20_three G := by kernel_rfl

def d_palanquinlaw20_three (G : Sem') : List V → M V
  | [] => fin (f_palanquinlaw20_three G)
  | _ => M.fail

theorem s_palanquinlaw20_three {g : Sem'} (hg : Sims g (sem T)) (args : List V) : Sim (d_palanquinlaw20_three g args) (sem T fn_palanquinlaw20_three args) := by
  unfold d_palanquinlaw20_three
  split
  · exact sim_fn tb_palanquinlaw20_three (Nat.le_of_ble_eq_true rfl) hg (eq_palanquinlaw20_three g)
  · exact sim_fail

/-- palanquin/pick.Source. -/
def f_pick_Source_0 (G : Sem') (t10 t9 t0 t4 : V) (L : List V) : M Res :=
  (M.lift (Ax.bin .lss (L.getD 2 .undef) t10)).bind fun t12 =>
  M.ite t12
    (M.blk 1 (
      (M.lift (Ax.iaddr none 1 t9 (L.getD 2 .undef))).bind fun t14 =>
      (mload none t14).bind fun t15 =>
      (M.lift (Ax.bin .lss t15 (V.int .i64 0))).bind fun t17 =>
      M.ite t17
        (M.pure (.ex 1 [(L.getD 0 .undef), (L.getD 1 .undef)]))
        ((M.lift (Ax.bin .lss (L.getD 1 .undef) (V.int .i64 0))).bind fun t19 =>
        M.join (M.ite t19
          (M.pure (.nrm [(L.getD 2 .undef)]))
          (M.pure (.nrm [(L.getD 1 .undef)]))) fun L0 =>
        (M.lift (Ax.cint .u64 t15)).bind fun t22 =>
        (M.lift (Ax.bin .quo t0 (V.int .u64 10000))).bind fun t24 =>
        (M.lift (Ax.bin .leq t22 t24)).bind fun t25 =>
        M.join (M.ite t25
          (M.pure (.nrm [(L.getD 2 .undef)]))
          (M.pure (.nrm [(L.getD 0 .undef)]))) fun L1 =>
        M.pure (.nrm [(L1.getD 0 .undef), (L0.getD 0 .undef)]))) fun L2 =>
    (M.lift (Ax.bin .add (L.getD 2 .undef) (V.int .i64 1))).bind fun t27 =>
    M.pure (.nrm [(L2.getD 0 .undef), (L2.getD 1 .undef), t27]))
    (M.pure (.ex 0 [(L.getD 0 .undef), (L.getD 1 .undef)]))

def f_pick_Source (G : Sem') (t0 t1 : V) : M Res :=
  (M.lift (vlen t1)).bind fun t10 =>
  M.blk 0 (
    M.iter (f_pick_Source_0 G t10 t1 t0 (V.int .i64 0)) [(V.int .i64 (-1)), (V.int .i64 (-1)), (V.int .i64 0)]) fun L3 =>
  (M.lift (Ax.minmax true (L3.getD 0 .undef) [(L3.getD 1 .undef), (V.int .i64 0)])).bind fun t30 =>
  M.pure (.ret [t30])

theorem eq_pick_Source (G : Sem') (t0 t1 : V) : execK G ir_pick_Source.rv ir_pick_Source.body [] [] (params 0 [t0, t1]) = f_pick_Source G t0 t1 := by kernel_rfl

def d_pick_Source (G : Sem') : List V → M V
  | [t0, t1] => fin (f_pick_Source G t0 t1)
  | _ => M.fail

theorem s_pick_Source {g : Sem'} (hg : Sims g (sem T)) (args : List V) : Sim (d_pick_Source g args) (sem T fn_pick_Source args) := by
  unfold d_pick_Source
  split
  · exact sim_fn tb_pick_Source (Nat.le_of_ble_eq_true rfl) hg (eq_pick_Source g _ _)
  · exact sim_fail

/-- palanquin/pick.In. -/
def f_pick_In (G : Sem') (t0 t1 : V) : M Res :=
  (mbox ty_depend_Frame t0).bind fun t2 =>
  (M.lift (Ax.bin .geq t1 (V.int .i64 0))).bind fun t6 =>
  (guarded [(0, t6)] (some (0, true)) (M.pure t1)).bind fun t8 =>
  (guarded [(0, t6)] (some (0, true)) (M.lift (Ax.faddr 16 t2))).bind fun t9 =>
  (guarded [(0, t6)] (some (0, true)) (mload none t9)).bind fun t10 =>
  (guarded [(0, t6)] (some (0, true)) (M.lift (vlen t10))).bind fun t11 =>
  (guarded [(0, t6)] (some (0, true)) (M.lift (Ax.bin .lss t8 t11))).bind fun t12 =>
  (M.lift (Ax.pick t6 t12 (V.bool false))).bind fun t13 =>
  (guarded [(0, t13)] (some (0, true)) (M.lift (Ax.faddr 16 t2))).bind fun t15 =>
  (guarded [(0, t13)] (some (0, true)) (mload none t15)).bind fun t16 =>
  (guarded [(0, t13)] (some (0, true)) (M.pure t1)).bind fun t17 =>
  (guarded [(0, t13)] (some (0, true)) (M.lift (Ax.iaddr none 1 t16 t17))).bind fun t18 =>
  (guarded [(0, t13)] (some (0, true)) (mload none t18)).bind fun t19 =>
  (guarded [(0, t13)] (some (0, true)) (M.lift (Ax.bin .neq t19 (V.int .i64 0)))).bind fun t20 =>
  (M.lift (Ax.pick t13 t20 (V.bool false))).bind fun t21 =>
  M.pure (.ret [t21])

theorem eq_pick_In (G : Sem') (t0 t1 : V) : execK G ir_pick_In.rv ir_pick_In.body [] [] (params 0 [t0, t1]) = f_pick_In G t0 t1 := by kernel_rfl

def d_pick_In (G : Sem') : List V → M V
  | [t0, t1] => fin (f_pick_In G t0 t1)
  | _ => M.fail

theorem s_pick_In {g : Sem'} (hg : Sims g (sem T)) (args : List V) : Sim (d_pick_In g args) (sem T fn_pick_In args) := by
  unfold d_pick_In
  split
  · exact sim_fn tb_pick_In (Nat.le_of_ble_eq_true rfl) hg (eq_pick_In g _ _)
  · exact sim_fail

/-- palanquin/palanquinlaw20.heavy. -/
def f_palanquinlaw20_heavy_0 (G : Sem') (t1 t2 : V) (L : List V) : M Res :=
  (M.lift (Ax.faddr 2 t1)).bind fun t18 =>
  (mload none t18).bind fun t19 =>
  (M.lift (vlen t19)).bind fun t20 =>
  (M.lift (Ax.bin .lss (L.getD 1 .undef) t20)).bind fun t21 =>
  (guarded [(0, t21)] (some (0, true)) (M.pure (L.getD 1 .undef))).bind fun t23 =>
  (guarded [(0, t21)] (some (0, true)) (M.lift (Ax.bin .lss t23 (V.int .i64 100)))).bind fun t24 =>
  (M.lift (Ax.pick t21 t24 (V.bool false))).bind fun t25 =>
  M.ite t25
    (M.blk 1 (
      (M.lift (Ax.faddr 2 t1)).bind fun t28 =>
      (mload none t28).bind fun t29 =>
      (M.lift (Ax.iaddr none 5 t29 (L.getD 1 .undef))).bind fun t31 =>
      (mload (some 5) t31).bind fun t32 =>
      (mbox ty_depend_Template (V.agg [(V.int .i64 0), (V.int .i64 0), V.nils, V.nils, V.nils])).bind fun t5 =>
      (mstore 5 t5 t32).bind fun _ =>
      (M.lift (Ax.faddr 2 t5)).bind fun t34 =>
      (mload none t34).bind fun t35 =>
      (M.lift (vlen t35)).bind fun t36 =>
      (M.lift (Ax.bin .add (L.getD 0 .undef) t36)).bind fun t37 =>
      (M.lift (Ax.faddr 3 t5)).bind fun t38 =>
      (mload none t38).bind fun t39 =>
      (M.lift (vlen t39)).bind fun t40 =>
      (M.lift (Ax.bin .add t37 t40)).bind fun t41 =>
      (M.lift (Ax.faddr 4 t5)).bind fun t42 =>
      (mload none t42).bind fun t43 =>
      (M.lift (vlen t43)).bind fun t44 =>
      (M.lift (Ax.bin .add t41 t44)).bind fun t45 =>
      M.pure (.nrm [t45])) fun L0 =>
    (M.lift (Ax.bin .add (L.getD 1 .undef) (V.int .i64 1))).bind fun t27 =>
    M.pure (.nrm [(L0.getD 0 .undef), t27]))
    (M.pure (.ex 0 [(L.getD 0 .undef)]))

def f_palanquinlaw20_heavy (G : Sem') (t0 : V) : M Res :=
  (mbox ty_depend_Structure t0).bind fun t1 =>
  (M.lift (Ax.faddr 2 t1)).bind fun t6 =>
  (mload none t6).bind fun t7 =>
  (M.lift (vlen t7)).bind fun t8 =>
  (M.lift (Ax.faddr 4 t1)).bind fun t9 =>
  (mload none t9).bind fun t10 =>
  (M.lift (vlen t10)).bind fun t11 =>
  (M.lift (Ax.bin .add t8 t11)).bind fun t12 =>
  (M.lift (Ax.faddr 5 t1)).bind fun t13 =>
  (mload none t13).bind fun t14 =>
  (M.lift (vlen t14)).bind fun t15 =>
  (M.lift (Ax.bin .add t12 t15)).bind fun t16 =>
  M.blk 0 (
    M.iter (f_palanquinlaw20_heavy_0 G t1 (V.bool false)) [t16, (V.int .i64 0)]) fun L1 =>
  (M.lift (Ax.bin .gtr (L1.getD 0 .undef) (V.int .i64 6000))).bind fun t47 =>
  (guarded [(0, t47)] (some (0, false)) (M.lift (Ax.faddr 2 t1))).bind fun t49 =>
  (guarded [(0, t47)] (some (0, false)) (mload none t49)).bind fun t50 =>
  (guarded [(0, t47)] (some (0, false)) (M.lift (vlen t50))).bind fun t51 =>
  (guarded [(0, t47)] (some (0, false)) (M.lift (Ax.bin .gtr t51 (V.int .i64 80)))).bind fun t52 =>
  (M.lift (Ax.pick t47 (V.bool true) t52)).bind fun t53 =>
  M.pure (.ret [t53])

theorem eq_palanquinlaw20_heavy (G : Sem') (t0 : V) : execK G ir_palanquinlaw20_heavy.rv ir_palanquinlaw20_heavy.body [] [] (params 0 [t0]) = f_palanquinlaw20_heavy G t0 := by kernel_rfl

def d_palanquinlaw20_heavy (G : Sem') : List V → M V
  | [t0] => fin (f_palanquinlaw20_heavy G t0)
  | _ => M.fail

theorem s_palanquinlaw20_heavy {g : Sem'} (hg : Sims g (sem T)) (args : List V) : Sim (d_palanquinlaw20_heavy g args) (sem T fn_palanquinlaw20_heavy args) := by
  unfold d_palanquinlaw20_heavy
  split
  · exact sim_fn tb_palanquinlaw20_heavy (Nat.le_of_ble_eq_true rfl) hg (eq_palanquinlaw20_heavy g _)
  · exact sim_fail

/-- palanquin/palanquinref20.Fits. -/
def f_palanquinref20_Fits_0 (G : Sem') (t4 t1 t2 t3 t8 t9 : V) (L : List V) : M Res :=
  (M.lift (Ax.bin .lss (L.getD 4 .undef) (V.int .i64 32))).bind fun t19 =>
  M.ite t19
    (M.blk 1 (
      (mload (some 6) t4).bind fun t23 =>
      (G fn_palanquinref9_Layers [t23, (L.getD 4 .undef)]).bind fun t25 =>
      (M.lift (Ax.ext 0 t25)).bind fun t26 =>
      (M.lift (Ax.ext 1 t25)).bind fun t27 =>
      (M.lift (Ax.ext 2 t25)).bind fun t28 =>
      (M.lift (Ax.un .not t28)).bind fun t30 =>
      (guarded [(0, t30)] (some (0, false)) (M.pure t1)).bind fun t32 =>
      (guarded [(0, t30)] (some (0, false)) (M.pure (L.getD 4 .undef))).bind fun t33 =>
      (guarded [(0, t30)] (some (0, false)) (M.lift (Ax.cint .u64 t33))).bind fun t34 =>
      (guarded [(0, t30)] (some (0, false)) (M.lift (Ax.bin .shr t32 t34))).bind fun t35 =>
      (guarded [(0, t30)] (some (0, false)) (M.lift (Ax.bin .and t35 (V.int .u32 1)))).bind fun t36 =>
      (guarded [(0, t30)] (some (0, false)) (M.lift (Ax.bin .eql t36 (V.int .u32 0)))).bind fun t37 =>
      (M.lift (Ax.pick t30 (V.bool true) t37)).bind fun t38 =>
      (guarded [(0, t38)] (some (0, false)) (M.pure t26)).bind fun t40 =>
      (guarded [(0, t38)] (some (0, false)) (M.pure t2)).bind fun t41 =>
      (guarded [(0, t38)] (some (0, false)) (M.lift (Ax.bin .gtr t40 t41))).bind fun t42 =>
      (M.lift (Ax.pick t38 (V.bool true) t42)).bind fun t43 =>
      (guarded [(0, t43)] (some (0, false)) (M.pure t27)).bind fun t45 =>
      (guarded [(0, t43)] (some (0, false)) (M.pure t3)).bind fun t46 =>
      (guarded [(0, t43)] (some (0, false)) (M.lift (Ax.bin .gtr t45 t46))).bind fun t47 =>
      (M.lift (Ax.pick t43 (V.bool true) t47)).bind fun t48 =>
      M.ite t48
        (M.pure (.ex 1 [(L.getD 0 .undef), (L.getD 1 .undef), (L.getD 2 .undef), (L.getD 3 .undef)]))
        ((M.lift (Ax.un .not (L.getD 3 .undef))).bind fun t50 =>
        (guarded [(0, t50)] (some (0, false)) (M.pure t26)).bind fun t52 =>
        (guarded [(0, t50)] (some (0, false)) (M.pure (L.getD 1 .undef))).bind fun t53 =>
        (guarded [(0, t50)] (some (0, false)) (M.lift (Ax.bin .gtr t52 t53))).bind fun t54 =>
        (M.lift (Ax.pick t50 (V.bool true) t54)).bind fun t55 =>
        (guarded [(0, t55)] (some (0, false)) (M.pure t26)).bind fun t57 =>
        (guarded [(0, t55)] (some (0, false)) (M.pure (L.getD 1 .undef))).bind fun t58 =>
        (guarded [(0, t55)] (some (0, false)) (M.lift (Ax.bin .eql t57 t58))).bind fun t59 =>
        (guarded [(0, t55)] (some (0, false)) (M.pure t59)).bind fun t60 =>
        (guarded [(0, t60)] (some (0, true)) (M.pure t27)).bind fun t61 =>
        (guarded [(0, t60)] (some (0, true)) (M.pure (L.getD 2 .undef))).bind fun t62 =>
        (guarded [(0, t60)] (some (0, true)) (M.lift (Ax.bin .gtr t61 t62))).bind fun t63 =>
        (guarded [(0, t55)] (some (0, false)) (M.lift (Ax.pick t60 t63 (V.bool false)))).bind fun t64 =>
        (M.lift (Ax.pick t55 (V.bool true) t64)).bind fun t65 =>
        M.join (M.ite t65
          (M.pure (.nrm [(L.getD 4 .undef), t26, t27, (V.bool true)]))
          (M.pure (.nrm [(L.getD 0 .undef), (L.getD 1 .undef), (L.getD 2 .undef), (L.getD 3 .undef)]))) fun L0 =>
        M.pure (.nrm [(L0.getD 0 .undef), (L0.getD 1 .undef), (L0.getD 2 .undef), (L0.getD 3 .undef)]))) fun L1 =>
    (M.lift (Ax.bin .add (L.getD 4 .undef) (V.int .i64 1))).bind fun t21 =>
    M.pure (.nrm [(L1.getD 0 .undef), (L1.getD 1 .undef), (L1.getD 2 .undef), (L1.getD 3 .undef), t21]))
    (M.pure (.ex 0 [(L.getD 0 .undef), (L.getD 3 .undef)]))

def f_palanquinref20_Fits (G : Sem') (t0 t1 t2 t3 : V) : M Res :=
  (mbox ty_palanquinref9_Structure t0).bind fun t4 =>
  M.blk 0 (
    M.iter (f_palanquinref20_Fits_0 G t4 t1 t2 t3 (V.int .i64 0) (V.bool false)) [(V.int .i64 0), (V.int .i64 0), (V.int .i64 0), (V.bool false), (V.int .i64 0)]) fun L2 =>
  M.pure (.ret [(L2.getD 0 .undef), (L2.getD 1 .undef)])

theorem eq_palanquinref20_Fits (G : Sem') (t0 t1 t2 t3 : V) : execK G ir_palanquinref20_Fits.rv ir_palanquinref20_Fits.body [] [] (params 0 [t0, t1, t2, t3]) = f_palanquinref20_Fits G t0 t1 t2 t3 := by kernel_rfl

def d_palanquinref20_Fits (G : Sem') : List V → M V
  | [t0, t1, t2, t3] => fin (f_palanquinref20_Fits G t0 t1 t2 t3)
  | _ => M.fail

theorem s_palanquinref20_Fits {g : Sem'} (hg : Sims g (sem T)) (args : List V) : Sim (d_palanquinref20_Fits g args) (sem T fn_palanquinref20_Fits args) := by
  unfold d_palanquinref20_Fits
  split
  · exact sim_fn tb_palanquinref20_Fits (Nat.le_of_ble_eq_true rfl) hg (eq_palanquinref20_Fits g _ _ _ _)
  · exact sim_fail

/-- palanquin/palanquinhelp.Structure. -/
def f_palanquinhelp_Structure_0 (G : Sem') (t1 t3 t2 : V) (L : List V) : M Res :=
  (M.lift (Ax.faddr 2 t1)).bind fun t17 =>
  (mload none t17).bind fun t18 =>
  (M.lift (vlen t18)).bind fun t19 =>
  (M.lift (Ax.bin .lss (L.getD 0 .undef) t19)).bind fun t20 =>
  M.ite t20
    (M.blk 1 (
      (M.lift (Ax.faddr 2 t3)).bind fun t23 =>
      (mload none t23).bind fun t24 =>
      (M.lift (Ax.faddr 2 t1)).bind fun t25 =>
      (mload none t25).bind fun t26 =>
      (M.lift (Ax.iaddr none 5 t26 (L.getD 0 .undef))).bind fun t28 =>
      (mload (some 5) t28).bind fun t29 =>
      (mslit ty_palanquinref9_Template 1 [(V.int .i64 0), (V.int .i64 0), V.nils, V.nils, V.nils] [(0, 5, t29)]).bind fun t30 =>
      (mappend ty_palanquinref9_Template 5 88 t24 t30).bind fun t31 =>
      (M.lift (Ax.faddr 2 t3)).bind fun t32 =>
      (mstore 1 t32 t31).bind fun _ =>
      M.pure (.nrm [])) fun _ =>
    (M.lift (Ax.bin .add (L.getD 0 .undef) (V.int .i64 1))).bind fun t22 =>
    M.pure (.nrm [t22]))
    (M.pure (.ex 0 []))

def f_palanquinhelp_Structure (G : Sem') (t0 : V) : M Res :=
  (mbox ty_depend_Structure t0).bind fun t1 =>
  (mbox ty_palanquinref9_Structure (V.agg [(V.int .i64 0), (V.int .i64 0), V.nils, (V.int .i64 0), V.nils, V.nils])).bind fun t2 =>
  (M.lift (Ax.faddr 0 t1)).bind fun t5 =>
  (mload none t5).bind fun t6 =>
  (M.lift (Ax.faddr 1 t1)).bind fun t7 =>
  (mload none t7).bind fun t8 =>
  (M.lift (Ax.faddr 3 t1)).bind fun t9 =>
  (mload none t9).bind fun t10 =>
  (M.lift (Ax.faddr 4 t1)).bind fun t11 =>
  (mload none t11).bind fun t12 =>
  (M.lift (Ax.faddr 5 t1)).bind fun t13 =>
  (mload none t13).bind fun t14 =>
  (M.lift (Ax.build [(V.int .i64 0), (V.int .i64 0), V.nils, (V.int .i64 0), V.nils, V.nils] [(0, 1, t6), (1, 1, t8), (3, 1, t10), (4, 1, t12), (5, 1, t14)])).bind fun t15 =>
  (mbox ty_palanquinref9_Structure (V.agg [(V.int .i64 0), (V.int .i64 0), V.nils, (V.int .i64 0), V.nils, V.nils])).bind fun t3 =>
  (mstore 6 t3 t15).bind fun _ =>
  M.blk 0 (
    M.iter (f_palanquinhelp_Structure_0 G t1 t3 t2) [(V.int .i64 0)]) fun _ =>
  (mload (some 6) t3).bind fun t33 =>
  (mstore 6 t2 t33).bind fun _ =>
  (mload (some 6) t2).bind fun r0 =>
  M.pure (.ret [r0])

theorem eq_palanquinhelp_Structure (G : Sem') (t0 : V) : execK G ir_palanquinhelp_Structure.rv ir_palanquinhelp_Structure.body [] [] (params 0 [t0]) = f_palanquinhelp_Structure G t0 := by kernel_rfl

def d_palanquinhelp_Structure (G : Sem') : List V → M V
  | [t0] => fin (f_palanquinhelp_Structure G t0)
  | _ => M.fail

theorem s_palanquinhelp_Structure {g : Sem'} (hg : Sims g (sem T)) (args : List V) : Sim (d_palanquinhelp_Structure g args) (sem T fn_palanquinhelp_Structure args) := by
  unfold d_palanquinhelp_Structure
  split
  · exact sim_fn tb_palanquinhelp_Structure (Nat.le_of_ble_eq_true rfl) hg (eq_palanquinhelp_Structure g _)
  · exact sim_fail

/-- palanquin/palanquinref20.In. -/
def f_palanquinref20_In (G : Sem') (t0 t1 : V) : M Res :=
  (mbox ty_palanquinref9_Frame t0).bind fun t2 =>
  (M.lift (Ax.bin .geq t1 (V.int .i64 0))).bind fun t6 =>
  (guarded [(0, t6)] (some (0, true)) (M.pure t1)).bind fun t8 =>
  (guarded [(0, t6)] (some (0, true)) (M.lift (Ax.faddr 16 t2))).bind fun t9 =>
  (guarded [(0, t6)] (some (0, true)) (mload none t9)).bind fun t10 =>
  (guarded [(0, t6)] (some (0, true)) (M.lift (vlen t10))).bind fun t11 =>
  (guarded [(0, t6)] (some (0, true)) (M.lift (Ax.bin .lss t8 t11))).bind fun t12 =>
  (M.lift (Ax.pick t6 t12 (V.bool false))).bind fun t13 =>
  (guarded [(0, t13)] (some (0, true)) (M.lift (Ax.faddr 16 t2))).bind fun t15 =>
  (guarded [(0, t13)] (some (0, true)) (mload none t15)).bind fun t16 =>
  (guarded [(0, t13)] (some (0, true)) (M.pure t1)).bind fun t17 =>
  (guarded [(0, t13)] (some (0, true)) (M.lift (Ax.iaddr none 1 t16 t17))).bind fun t18 =>
  (guarded [(0, t13)] (some (0, true)) (mload none t18)).bind fun t19 =>
  (guarded [(0, t13)] (some (0, true)) (M.lift (Ax.bin .neq t19 (V.int .i64 0)))).bind fun t20 =>
  (M.lift (Ax.pick t13 t20 (V.bool false))).bind fun t21 =>
  M.pure (.ret [t21])

theorem eq_palanquinref20_In (G : Sem') (t0 t1 : V) : execK G ir_palanquinref20_In.rv ir_palanquinref20_In.body [] [] (params 0 [t0, t1]) = f_palanquinref20_In G t0 t1 := by kernel_rfl

def d_palanquinref20_In (G : Sem') : List V → M V
  | [t0, t1] => fin (f_palanquinref20_In G t0 t1)
  | _ => M.fail

theorem s_palanquinref20_In {g : Sem'} (hg : Sims g (sem T)) (args : List V) : Sim (d_palanquinref20_In g args) (sem T fn_palanquinref20_In args) := by
  unfold d_palanquinref20_In
  split
  · exact sim_fn tb_palanquinref20_In (Nat.le_of_ble_eq_true rfl) hg (eq_palanquinref20_In g _ _)
  · exact sim_fail

/-- palanquin/palanquinref20.Source. -/
def f_palanquinref20_Source_0 (G : Sem') (t1 t0 t4 : V) (L : List V) : M Res :=
  (M.lift (vlen t1)).bind fun t10 =>
  (M.lift (Ax.bin .lss (L.getD 2 .undef) t10)).bind fun t11 =>
  M.ite t11
    (M.blk 1 (
      (M.lift (Ax.iaddr none 1 t1 (L.getD 2 .undef))).bind fun t16 =>
      (mload none t16).bind fun t17 =>
      (M.lift (Ax.bin .lss t17 (V.int .i64 0))).bind fun t18 =>
      M.ite t18
        (M.pure (.ex 1 [(L.getD 0 .undef), (L.getD 1 .undef)]))
        ((M.lift (Ax.bin .lss (L.getD 1 .undef) (V.int .i64 0))).bind fun t20 =>
        M.join (M.ite t20
          (M.pure (.nrm [(L.getD 2 .undef)]))
          (M.pure (.nrm [(L.getD 1 .undef)]))) fun L0 =>
        (M.lift (Ax.iaddr none 1 t1 (L.getD 2 .undef))).bind fun t24 =>
        (mload none t24).bind fun t25 =>
        (M.lift (Ax.cint .u64 t25)).bind fun t26 =>
        (M.lift (Ax.bin .quo t0 (V.int .u64 10000))).bind fun t28 =>
        (M.lift (Ax.bin .leq t26 t28)).bind fun t29 =>
        M.join (M.ite t29
          (M.pure (.nrm [(L.getD 2 .undef)]))
          (M.pure (.nrm [(L.getD 0 .undef)]))) fun L1 =>
        M.pure (.nrm [(L1.getD 0 .undef), (L0.getD 0 .undef)]))) fun L2 =>
    (M.lift (Ax.bin .add (L.getD 2 .undef) (V.int .i64 1))).bind fun t13 =>
    M.pure (.nrm [(L2.getD 0 .undef), (L2.getD 1 .undef), t13]))
    (M.pure (.ex 0 [(L.getD 0 .undef), (L.getD 1 .undef)]))

def f_palanquinref20_Source (G : Sem') (t0 t1 : V) : M Res :=
  M.blk 0 (
    M.iter (f_palanquinref20_Source_0 G t1 t0 (V.int .i64 0)) [(V.int .i64 (-1)), (V.int .i64 (-1)), (V.int .i64 0)]) fun L3 =>
  (M.lift (Ax.minmax true (L3.getD 0 .undef) [(L3.getD 1 .undef), (V.int .i64 0)])).bind fun t33 =>
  M.pure (.ret [t33])

theorem eq_palanquinref20_Source (G : Sem') (t0 t1 : V) : execK G ir_palanquinref20_Source.rv ir_palanquinref20_Source.body [] [] (params 0 [t0, t1]) = f_palanquinref20_Source G t0 t1 := by kernel_rfl

def d_palanquinref20_Source (G : Sem') : List V → M V
  | [t0, t1] => fin (f_palanquinref20_Source G t0 t1)
  | _ => M.fail

theorem s_palanquinref20_Source {g : Sem'} (hg : Sims g (sem T)) (args : List V) : Sim (d_palanquinref20_Source g args) (sem T fn_palanquinref20_Source args) := by
  unfold d_palanquinref20_Source
  split
  · exact sim_fn tb_palanquinref20_Source (Nat.le_of_ble_eq_true rfl) hg (eq_palanquinref20_Source g _ _)
  · exact sim_fail

/-- palanquin/depend.Layers. -/
def f_depend_Layers_0 (G : Sem') (t24 t23 t1 : V) (L : List V) : M Res :=
  (M.lift (Ax.bin .lss (L.getD 3 .undef) t24)).bind fun t26 =>
  M.ite t26
    (M.blk 1 (
      (M.lift (Ax.iaddr none 5 t23 (L.getD 3 .undef))).bind fun t27 =>
      (mload (some 5) t27).bind fun t28 =>
      (mbox ty_depend_Template (V.agg [(V.int .i64 0), (V.int .i64 0), V.nils, V.nils, V.nils])).bind fun t8 =>
      (mstore 5 t8 t28).bind fun _ =>
      (M.lift (Ax.faddr 2 t8)).bind fun t29 =>
      (mload none t29).bind fun t30 =>
      (M.lift (Ax.iaddr none 1 t30 t1)).bind fun t32 =>
      (mload none t32).bind fun t33 =>
      (M.lift (Ax.bin .neq t33 (V.int .i64 0))).bind fun t34 =>
      M.join (M.ite t34
        ((M.lift (Ax.faddr 0 t8)).bind fun t36 =>
        (mload none t36).bind fun t37 =>
        (M.lift (Ax.minmax true (L.getD 0 .undef) [t37])).bind fun t38 =>
        (M.lift (Ax.faddr 1 t8)).bind fun t40 =>
        (mload none t40).bind fun t41 =>
        (M.lift (Ax.minmax true (L.getD 1 .undef) [t41])).bind fun t42 =>
        M.pure (.nrm [t38, t42, (V.bool true)]))
        (M.pure (.nrm [(L.getD 0 .undef), (L.getD 1 .undef), (L.getD 2 .undef)]))) fun L0 =>
      M.pure (.nrm [(L0.getD 0 .undef), (L0.getD 1 .undef), (L0.getD 2 .undef)])) fun L1 =>
    (M.lift (Ax.bin .add (L.getD 3 .undef) (V.int .i64 1))).bind fun t43 =>
    M.pure (.nrm [(L1.getD 0 .undef), (L1.getD 1 .undef), (L1.getD 2 .undef), t43]))
    (M.pure (.ex 0 [(L.getD 0 .undef), (L.getD 1 .undef), (L.getD 2 .undef)]))

def f_depend_Layers (G : Sem') (t0 t1 : V) : M Res :=
  (mbox ty_depend_Structure t0).bind fun t2 =>
  (mload (some 6) t2).bind fun t9 =>
  (G fn_depend_Fine [t9]).bind fun t10 =>
  (M.lift (Ax.un .not t10)).bind fun t11 =>
  (guarded [(0, t11)] (some (0, false)) (M.pure t1)).bind fun t13 =>
  (guarded [(0, t11)] (some (0, false)) (M.lift (Ax.bin .lss t13 (V.int .i64 0)))).bind fun t14 =>
  (M.lift (Ax.pick t11 (V.bool true) t14)).bind fun t15 =>
  (guarded [(0, t15)] (some (0, false)) (M.pure t1)).bind fun t17 =>
  (guarded [(0, t15)] (some (0, false)) (M.lift (Ax.faddr 1 t2))).bind fun t18 =>
  (guarded [(0, t15)] (some (0, false)) (mload none t18)).bind fun t19 =>
  (guarded [(0, t15)] (some (0, false)) (M.lift (Ax.bin .geq t17 t19))).bind fun t20 =>
  (M.lift (Ax.pick t15 (V.bool true) t20)).bind fun t21 =>
  M.ite t21
    (M.pure (.ret [(V.int .i64 0), (V.int .i64 0), (V.bool false)]))
    ((M.lift (Ax.faddr 2 t2)).bind fun t22 =>
    (mload none t22).bind fun t23 =>
    (M.lift (vlen t23)).bind fun t24 =>
    M.blk 0 (
      M.iter (f_depend_Layers_0 G t24 t23 t1) [(V.int .i64 0), (V.int .i64 0), (V.bool false), (V.int .i64 0)]) fun L2 =>
    M.pure (.ret [(L2.getD 0 .undef), (L2.getD 1 .undef), (L2.getD 2 .undef)]))

theorem eq_depend_Layers (G : Sem') (t0 t1 : V) : execK G ir_depend_Layers.rv ir_depend_Layers.body [] [] (params 0 [t0, t1]) = f_depend_Layers G t0 t1 := by kernel_rfl

def d_depend_Layers (G : Sem') : List V → M V
  | [t0, t1] => fin (f_depend_Layers G t0 t1)
  | _ => M.fail

theorem s_depend_Layers {g : Sem'} (hg : Sims g (sem T)) (args : List V) : Sim (d_depend_Layers g args) (sem T fn_depend_Layers args) := by
  unfold d_depend_Layers
  split
  · exact sim_fn tb_depend_Layers (Nat.le_of_ble_eq_true rfl) hg (eq_depend_Layers g _ _)
  · exact sim_fail

/-- palanquin/depend.Fine. -/
def f_depend_Fine_0 (G : Sem') (t70 t69 : V) (L : List V) : M Res :=
  (M.lift (Ax.bin .lss (L.getD 0 .undef) t70)).bind fun t72 =>
  M.ite t72
    (M.blk 1 (
      (M.lift (Ax.iaddr none 2 t69 (L.getD 0 .undef))).bind fun t73 =>
      (mload (some 2) t73).bind fun t74 =>
      (mbox ty_2_int (V.agg [(V.int .i64 0), (V.int .i64 0)])).bind fun t6 =>
      (mstore 2 t6 t74).bind fun _ =>
      (M.lift (vslice (.arr 2) 1 t6 none none none)).bind fun t75 =>
      (G fn_depend_within [t75, (V.int .i64 2), (V.int .i64 1), (V.int .i64 65536)]).bind fun t76 =>
      (M.lift (Ax.un .not t76)).bind fun t77 =>
      M.ite t77
        (M.pure (.ret [(V.bool false)]))
        (M.pure (.nrm []))) fun _ =>
    (M.lift (Ax.bin .add (L.getD 0 .undef) (V.int .i64 1))).bind fun t78 =>
    M.pure (.nrm [t78]))
    (M.pure (.ex 0 []))

def f_depend_Fine (G : Sem') (t0 : V) : M Res :=
  (mbox ty_depend_Structure t0).bind fun t1 =>
  (M.lift (Ax.faddr 1 t1)).bind fun t7 =>
  (mload none t7).bind fun t8 =>
  (M.lift (Ax.faddr 3 t1)).bind fun t9 =>
  (mload none t9).bind fun t10 =>
  (M.lift (Ax.bin .eql t10 (V.int .i64 0))).bind fun t11 =>
  M.join (M.ite t11
    (M.pure (.nrm [(V.int .i64 0)]))
    (M.pure (.nrm [t8]))) fun L0 =>
  (M.lift (Ax.faddr 0 t1)).bind fun t12 =>
  (mload none t12).bind fun t13 =>
  (M.lift (Ax.bin .lss t13 (V.int .i64 0))).bind fun t14 =>
  (guarded [(0, t14)] (some (0, false)) (M.lift (Ax.faddr 0 t1))).bind fun t16 =>
  (guarded [(0, t14)] (some (0, false)) (mload none t16)).bind fun t17 =>
  (guarded [(0, t14)] (some (0, false)) (M.lift (Ax.bin .geq t17 (V.int .i64 64)))).bind fun t18 =>
  (M.lift (Ax.pick t14 (V.bool true) t18)).bind fun t19 =>
  (guarded [(0, t19)] (some (0, false)) (M.lift (Ax.faddr 1 t1))).bind fun t21 =>
  (guarded [(0, t19)] (some (0, false)) (mload none t21)).bind fun t22 =>
  (guarded [(0, t19)] (some (0, false)) (M.lift (Ax.bin .lss t22 (V.int .i64 1)))).bind fun t23 =>
  (M.lift (Ax.pick t19 (V.bool true) t23)).bind fun t24 =>
  (guarded [(0, t24)] (some (0, false)) (M.lift (Ax.faddr 1 t1))).bind fun t26 =>
  (guarded [(0, t24)] (some (0, false)) (mload none t26)).bind fun t27 =>
  (guarded [(0, t24)] (some (0, false)) (M.lift (Ax.bin .gtr t27 (V.int .i64 32)))).bind fun t28 =>
  (M.lift (Ax.pick t24 (V.bool true) t28)).bind fun t29 =>
  (guarded [(0, t29)] (some (0, false)) (M.lift (Ax.faddr 3 t1))).bind fun t31 =>
  (guarded [(0, t29)] (some (0, false)) (mload none t31)).bind fun t32 =>
  (guarded [(0, t29)] (some (0, false)) (M.lift (Ax.bin .lss t32 (V.int .i64 0)))).bind fun t33 =>
  (M.lift (Ax.pick t29 (V.bool true) t33)).bind fun t34 =>
  (guarded [(0, t34)] (some (0, false)) (M.lift (Ax.faddr 3 t1))).bind fun t36 =>
  (guarded [(0, t34)] (some (0, false)) (mload none t36)).bind fun t37 =>
  (guarded [(0, t34)] (some (0, false)) (M.lift (Ax.faddr 1 t1))).bind fun t38 =>
  (guarded [(0, t34)] (some (0, false)) (mload none t38)).bind fun t39 =>
  (guarded [(0, t34)] (some (0, false)) (M.lift (Ax.bin .gtr t37 t39))).bind fun t40 =>
  (M.lift (Ax.pick t34 (V.bool true) t40)).bind fun t41 =>
  (guarded [(0, t41)] (some (0, false)) (M.lift (Ax.faddr 4 t1))).bind fun t43 =>
  (guarded [(0, t41)] (some (0, false)) (mload none t43)).bind fun t44 =>
  (guarded [(0, t41)] (some (0, false)) (M.pure (L0.getD 0 .undef))).bind fun t45 =>
  (guarded [(0, t41)] (some (0, false)) (M.lift (Ax.faddr 3 t1))).bind fun t46 =>
  (guarded [(0, t41)] (some (0, false)) (mload none t46)).bind fun t47 =>
  (guarded [(0, t41)] (some (0, false)) (M.lift (Ax.bin .sub t47 (V.int .i64 1)))).bind fun t48 =>
  (guarded [(0, t41)] (some (0, false)) (G fn_depend_within [t44, t45, (V.int .i64 0), t48])).bind fun t49 =>
  (guarded [(0, t41)] (some (0, false)) (M.lift (Ax.un .not t49))).bind fun t50 =>
  (M.lift (Ax.pick t41 (V.bool true) t50)).bind fun t51 =>
  (guarded [(0, t51)] (some (0, false)) (mload (some 6) t1)).bind fun t53 =>
  (guarded [(0, t51)] (some (0, false)) (G fn_depend_layers [t53])).bind fun t54 =>
  (guarded [(0, t51)] (some (0, false)) (M.lift (Ax.un .not t54))).bind fun t55 =>
  (M.lift (Ax.pick t51 (V.bool true) t55)).bind fun t56 =>
  M.ite t56
    (M.pure (.ret [(V.bool false)]))
    ((M.lift (Ax.faddr 5 t1)).bind fun t57 =>
    (mload none t57).bind fun t58 =>
    (M.lift (vlen t58)).bind fun t59 =>
    (M.lift (Ax.bin .neq t59 (V.int .i64 0))).bind fun t61 =>
    (guarded [(0, t61)] (some (0, true)) (M.pure t59)).bind fun t63 =>
    (guarded [(0, t61)] (some (0, true)) (mload (some 6) t1)).bind fun t64 =>
    (guarded [(0, t61)] (some (0, true)) (G fn_depend_spatial [t64])).bind fun t65 =>
    (guarded [(0, t61)] (some (0, true)) (M.lift (Ax.bin .neq t63 t65))).bind fun t66 =>
    (M.lift (Ax.pick t61 t66 (V.bool false))).bind fun t67 =>
    M.ite t67
      (M.pure (.ret [(V.bool false)]))
      ((M.lift (Ax.faddr 5 t1)).bind fun t68 =>
      (mload none t68).bind fun t69 =>
      (M.lift (vlen t69)).bind fun t70 =>
      M.blk 0 (
        M.iter (f_depend_Fine_0 G t70 t69) [(V.int .i64 0)]) fun _ =>
      (M.lift (Ax.faddr 2 t1)).bind fun t79 =>
      (mload none t79).bind fun t80 =>
      (M.pure (.fn fn_depend_Fine_1 [t1])).bind fun t81 =>
      (G fn_slices_ContainsFunc_depend_Template_depend_Template [t80, t81]).bind fun t82 =>
      (M.lift (Ax.un .not t82)).bind fun t83 =>
      M.pure (.ret [t83])))

theorem eq_depend_Fine (G : Sem') (t0 : V) : execK G ir_depend_Fine.rv ir_depend_Fine.body [] [] (params 0 [t0]) = f_depend_Fine G t0 := by kernel_rfl

def d_depend_Fine (G : Sem') : List V → M V
  | [t0] => fin (f_depend_Fine G t0)
  | _ => M.fail

theorem s_depend_Fine {g : Sem'} (hg : Sims g (sem T)) (args : List V) : Sim (d_depend_Fine g args) (sem T fn_depend_Fine args) := by
  unfold d_depend_Fine
  split
  · exact sim_fn tb_depend_Fine (Nat.le_of_ble_eq_true rfl) hg (eq_depend_Fine g _)
  · exact sim_fail

/-- palanquin/palanquinref9.Layers. -/
def f_palanquinref9_Layers_0 (G : Sem') (t1 t2 t4 t5 t6 : V) (L : List V) : M Res :=
  (M.lift (Ax.faddr 2 t2)).bind fun t25 =>
  (mload none t25).bind fun t26 =>
  (M.lift (vlen t26)).bind fun t27 =>
  (M.lift (Ax.bin .lss (L.getD 3 .undef) t27)).bind fun t28 =>
  M.ite t28
    (M.blk 1 (
      (M.lift (Ax.faddr 2 t2)).bind fun t31 =>
      (mload none t31).bind fun t32 =>
      (M.lift (Ax.iaddr none 5 t32 (L.getD 3 .undef))).bind fun t34 =>
      (M.lift (Ax.faddr 2 t34)).bind fun t35 =>
      (mload none t35).bind fun t36 =>
      (M.lift (Ax.iaddr none 1 t36 t1)).bind fun t38 =>
      (mload none t38).bind fun t39 =>
      (M.lift (Ax.bin .neq t39 (V.int .i64 0))).bind fun t40 =>
      M.join (M.ite t40
        ((M.lift (Ax.faddr 2 t2)).bind fun t42 =>
        (mload none t42).bind fun t43 =>
        (M.lift (Ax.iaddr none 5 t43 (L.getD 3 .undef))).bind fun t45 =>
        (M.lift (Ax.faddr 0 t45)).bind fun t46 =>
        (mload none t46).bind fun t47 =>
        (M.lift (Ax.minmax true (L.getD 0 .undef) [t47])).bind fun t48 =>
        (M.lift (Ax.faddr 2 t2)).bind fun t50 =>
        (mload none t50).bind fun t51 =>
        (M.lift (Ax.iaddr none 5 t51 (L.getD 3 .undef))).bind fun t53 =>
        (M.lift (Ax.faddr 1 t53)).bind fun t54 =>
        (mload none t54).bind fun t55 =>
        (M.lift (Ax.minmax true (L.getD 1 .undef) [t55])).bind fun t56 =>
        M.pure (.nrm [t48, t56, (V.bool true)]))
        (M.pure (.nrm [(L.getD 0 .undef), (L.getD 1 .undef), (L.getD 2 .undef)]))) fun L0 =>
      M.pure (.nrm [(L0.getD 0 .undef), (L0.getD 1 .undef), (L0.getD 2 .undef)])) fun L1 =>
    (M.lift (Ax.bin .add (L.getD 3 .undef) (V.int .i64 1))).bind fun t30 =>
    M.pure (.nrm [(L1.getD 0 .undef), (L1.getD 1 .undef), (L1.getD 2 .undef), t30]))
    (M.pure (.ex 0 [(L.getD 0 .undef), (L.getD 1 .undef), (L.getD 2 .undef)]))

def f_palanquinref9_Layers (G : Sem') (t0 t1 : V) : M Res :=
  (mbox ty_palanquinref9_Structure t0).bind fun t2 =>
  (mload (some 6) t2).bind fun t11 =>
  (G fn_palanquinref9_Fine [t11]).bind fun t12 =>
  (M.lift (Ax.un .not t12)).bind fun t13 =>
  (guarded [(0, t13)] (some (0, false)) (M.pure t1)).bind fun t15 =>
  (guarded [(0, t13)] (some (0, false)) (M.lift (Ax.bin .lss t15 (V.int .i64 0)))).bind fun t16 =>
  (M.lift (Ax.pick t13 (V.bool true) t16)).bind fun t17 =>
  (guarded [(0, t17)] (some (0, false)) (M.pure t1)).bind fun t19 =>
  (guarded [(0, t17)] (some (0, false)) (M.lift (Ax.faddr 1 t2))).bind fun t20 =>
  (guarded [(0, t17)] (some (0, false)) (mload none t20)).bind fun t21 =>
  (guarded [(0, t17)] (some (0, false)) (M.lift (Ax.bin .geq t19 t21))).bind fun t22 =>
  (M.lift (Ax.pick t17 (V.bool true) t22)).bind fun t23 =>
  M.ite t23
    (M.pure (.ret [(V.int .i64 0), (V.int .i64 0), (V.bool false)]))
    (M.blk 0 (
      M.iter (f_palanquinref9_Layers_0 G t1 t2 (V.int .i64 0) (V.int .i64 0) (V.bool false)) [(V.int .i64 0), (V.int .i64 0), (V.bool false), (V.int .i64 0)]) fun L2 =>
    M.pure (.ret [(L2.getD 0 .undef), (L2.getD 1 .undef), (L2.getD 2 .undef)]))

theorem eq_palanquinref9_Layers (G : Sem') (t0 t1 : V) : execK G ir_palanquinref9_Layers.rv ir_palanquinref9_Layers.body [] [] (params 0 [t0, t1]) = f_palanquinref9_Layers G t0 t1 := by kernel_rfl

def d_palanquinref9_Layers (G : Sem') : List V → M V
  | [t0, t1] => fin (f_palanquinref9_Layers G t0 t1)
  | _ => M.fail

theorem s_palanquinref9_Layers {g : Sem'} (hg : Sims g (sem T)) (args : List V) : Sim (d_palanquinref9_Layers g args) (sem T fn_palanquinref9_Layers args) := by
  unfold d_palanquinref9_Layers
  split
  · exact sim_fn tb_palanquinref9_Layers (Nat.le_of_ble_eq_true rfl) hg (eq_palanquinref9_Layers g _ _)
  · exact sim_fail

/-- palanquin/depend.within. -/
def f_depend_within (G : Sem') (t0 t1 t2 t3 : V) : M Res :=
  (mbox ty_int t2).bind fun t6 =>
  (mbox ty_int t3).bind fun t7 =>
  (M.lift (vlen t0)).bind fun t10 =>
  (M.lift (Ax.bin .eql t10 t1)).bind fun t12 =>
  (guarded [(0, t12)] (some (0, true)) (M.pure t0)).bind fun t14 =>
  (guarded [(0, t12)] (some (0, true)) (M.pure (.fn fn_depend_within_1 [t6, t7]))).bind fun t15 =>
  (guarded [(0, t12)] (some (0, true)) (G fn_slices_ContainsFunc_int_int [t14, t15])).bind fun t16 =>
  (guarded [(0, t12)] (some (0, true)) (M.lift (Ax.un .not t16))).bind fun t17 =>
  (M.lift (Ax.pick t12 t17 (V.bool false))).bind fun t18 =>
  M.pure (.ret [t18])

theorem eq_depend_within (G : Sem') (t0 t1 t2 t3 : V) : execK G ir_depend_within.rv ir_depend_within.body [] [] (params 0 [t0, t1, t2, t3]) = f_depend_within G t0 t1 t2 t3 := by kernel_rfl

def d_depend_within (G : Sem') : List V → M V
  | [t0, t1, t2, t3] => fin (f_depend_within G t0 t1 t2 t3)
  | _ => M.fail

theorem s_depend_within {g : Sem'} (hg : Sims g (sem T)) (args : List V) : Sim (d_depend_within g args) (sem T fn_depend_within args) := by
  unfold d_depend_within
  split
  · exact sim_fn tb_depend_within (Nat.le_of_ble_eq_true rfl) hg (eq_depend_within g _ _ _ _)
  · exact sim_fail

/-- palanquin/depend.layers. -/
def f_depend_layers_0 (G : Sem') (t11 t10 t3 : V) (L : List V) : M Res :=
  (M.lift (Ax.bin .lss (L.getD 0 .undef) t11)).bind fun t13 =>
  M.ite t13
    (M.blk 1 (
      (M.lift (Ax.iaddr none 5 t10 (L.getD 0 .undef))).bind fun t15 =>
      (mload (some 5) t15).bind fun t16 =>
      (mbox ty_depend_Template (V.agg [(V.int .i64 0), (V.int .i64 0), V.nils, V.nils, V.nils])).bind fun t5 =>
      (mstore 5 t5 t16).bind fun _ =>
      (mload (some 5) t3).bind fun t18 =>
      (mload (some 5) t5).bind fun t19 =>
      (G fn_depend_next [t18, t19]).bind fun t20 =>
      (M.lift (Ax.ext 0 t20)).bind fun t21 =>
      (M.lift (Ax.ext 1 t20)).bind fun t22 =>
      (M.lift (Ax.un .not t22)).bind fun t24 =>
      (guarded [(0, t24)] (some (0, false)) (M.pure (L.getD 0 .undef))).bind fun t26 =>
      (guarded [(0, t24)] (some (0, false)) (M.lift (Ax.bin .eql t26 (V.int .i64 0)))).bind fun t27 =>
      (guarded [(0, t24)] (some (0, false)) (M.pure t27)).bind fun t28 =>
      (guarded [(0, t28)] (some (0, true)) (M.pure t21)).bind fun t29 =>
      (guarded [(0, t28)] (some (0, true)) (M.lift (Ax.bin .neq t29 (V.int .i64 0)))).bind fun t30 =>
      (guarded [(0, t24)] (some (0, false)) (M.lift (Ax.pick t28 t30 (V.bool false)))).bind fun t31 =>
      (M.lift (Ax.pick t24 (V.bool true) t31)).bind fun t32 =>
      (guarded [(0, t32)] (some (0, false)) (M.lift (Ax.faddr 0 t5))).bind fun t34 =>
      (guarded [(0, t32)] (some (0, false)) (mload none t34)).bind fun t35 =>
      (guarded [(0, t32)] (some (0, false)) (M.lift (Ax.bin .gtr t35 (V.int .i64 3)))).bind fun t36 =>
      (M.lift (Ax.pick t32 (V.bool true) t36)).bind fun t37 =>
      (guarded [(0, t37)] (some (0, false)) (M.lift (Ax.faddr 1 t5))).bind fun t39 =>
      (guarded [(0, t37)] (some (0, false)) (mload none t39)).bind fun t40 =>
      (guarded [(0, t37)] (some (0, false)) (M.lift (Ax.bin .gtr t40 (V.int .i64 7)))).bind fun t41 =>
      (M.lift (Ax.pick t37 (V.bool true) t41)).bind fun t42 =>
      M.ite t42
        (M.pure (.ret [(V.bool false)]))
        ((mload (some 5) t5).bind fun t43 =>
        (mstore 5 t3 t43).bind fun _ =>
        M.pure (.nrm []))) fun _ =>
    (M.lift (Ax.bin .add (L.getD 0 .undef) (V.int .i64 1))).bind fun t44 =>
    M.pure (.nrm [t44]))
    (M.pure (.ex 0 []))

def f_depend_layers (G : Sem') (t0 : V) : M Res :=
  (mbox ty_depend_Structure t0).bind fun t1 =>
  (M.lift (Ax.build [(V.int .i64 0), (V.int .i64 0), V.nils, V.nils, V.nils] [])).bind fun t8 =>
  (mbox ty_depend_Template (V.agg [(V.int .i64 0), (V.int .i64 0), V.nils, V.nils, V.nils])).bind fun t3 =>
  (mstore 5 t3 t8).bind fun _ =>
  (M.lift (Ax.faddr 2 t1)).bind fun t9 =>
  (mload none t9).bind fun t10 =>
  (M.lift (vlen t10)).bind fun t11 =>
  M.blk 0 (
    M.iter (f_depend_layers_0 G t11 t10 t3) [(V.int .i64 0)]) fun _ =>
  (M.lift (Ax.faddr 2 t1)).bind fun t45 =>
  (mload none t45).bind fun t46 =>
  (M.lift (vlen t46)).bind fun t47 =>
  (M.lift (Ax.bin .geq t47 (V.int .i64 1))).bind fun t48 =>
  (guarded [(0, t48)] (some (0, true)) (M.lift (Ax.faddr 2 t1))).bind fun t50 =>
  (guarded [(0, t48)] (some (0, true)) (mload none t50)).bind fun t51 =>
  (guarded [(0, t48)] (some (0, true)) (M.lift (vlen t51))).bind fun t52 =>
  (guarded [(0, t48)] (some (0, true)) (M.lift (Ax.bin .leq t52 (V.int .i64 64)))).bind fun t53 =>
  (M.lift (Ax.pick t48 t53 (V.bool false))).bind fun t54 =>
  M.pure (.ret [t54])

theorem eq_depend_layers (G : Sem') (t0 : V) : execK G ir_depend_layers.rv ir_depend_layers.body [] [] (params 0 [t0]) = f_depend_layers G t0 := by kernel_rfl

def d_depend_layers (G : Sem') : List V → M V
  | [t0] => fin (f_depend_layers G t0)
  | _ => M.fail

theorem s_depend_layers {g : Sem'} (hg : Sims g (sem T)) (args : List V) : Sim (d_depend_layers g args) (sem T fn_depend_layers args) := by
  unfold d_depend_layers
  split
  · exact sim_fn tb_depend_layers (Nat.le_of_ble_eq_true rfl) hg (eq_depend_layers g _)
  · exact sim_fail

/-- palanquin/depend.spatial. -/
def f_depend_spatial_0 (G : Sem') (t8 t7 t2 : V) (L : List V) : M Res :=
  (M.lift (Ax.bin .lss (L.getD 1 .undef) t8)).bind fun t10 =>
  M.ite t10
    (M.blk 1 (
      (M.lift (Ax.iaddr none 5 t7 (L.getD 1 .undef))).bind fun t11 =>
      (mload (some 5) t11).bind fun t12 =>
      (mbox ty_depend_Template (V.agg [(V.int .i64 0), (V.int .i64 0), V.nils, V.nils, V.nils])).bind fun t5 =>
      (mstore 5 t5 t12).bind fun _ =>
      (M.lift (Ax.faddr 0 t5)).bind fun t14 =>
      (mload none t14).bind fun t15 =>
      (M.lift (Ax.bin .add t15 (V.int .i64 1))).bind fun t16 =>
      (M.lift (Ax.minmax true (L.getD 0 .undef) [t16])).bind fun t17 =>
      M.pure (.nrm [t17])) fun L0 =>
    (M.lift (Ax.bin .add (L.getD 1 .undef) (V.int .i64 1))).bind fun t18 =>
    M.pure (.nrm [(L0.getD 0 .undef), t18]))
    (M.pure (.ex 0 [(L.getD 0 .undef)]))

def f_depend_spatial (G : Sem') (t0 : V) : M Res :=
  (mbox ty_depend_Structure t0).bind fun t1 =>
  (M.lift (Ax.faddr 2 t1)).bind fun t6 =>
  (mload none t6).bind fun t7 =>
  (M.lift (vlen t7)).bind fun t8 =>
  M.blk 0 (
    M.iter (f_depend_spatial_0 G t8 t7 (V.int .i64 0)) [(V.int .i64 0), (V.int .i64 0)]) fun L1 =>
  M.pure (.ret [(L1.getD 0 .undef)])

theorem eq_depend_spatial (G : Sem') (t0 : V) : execK G ir_depend_spatial.rv ir_depend_spatial.body [] [] (params 0 [t0]) = f_depend_spatial G t0 := by kernel_rfl

def d_depend_spatial (G : Sem') : List V → M V
  | [t0] => fin (f_depend_spatial G t0)
  | _ => M.fail

theorem s_depend_spatial {g : Sem'} (hg : Sims g (sem T)) (args : List V) : Sim (d_depend_spatial g args) (sem T fn_depend_spatial args) := by
  unfold d_depend_spatial
  split
  · exact sim_fn tb_depend_spatial (Nat.le_of_ble_eq_true rfl) hg (eq_depend_spatial g _)
  · exact sim_fail

/-- slices.ContainsFunc[[]palanquin/depend.Template,palanquin/depend.Template]. -/
def f_slices_ContainsFunc_depend_Template_depend_Template (G : Sem') (t0 t1 : V) : M Res :=
  (G fn_slices_IndexFunc_depend_Template_depend_Template [t0, t1]).bind fun t7 =>
  (M.lift (Ax.bin .geq t7 (V.int .i64 0))).bind fun t8 =>
  M.pure (.ret [t8])

theorem eq_slices_ContainsFunc_depend_Template_depend_Template (G : Sem') (t0 t1 : V) : execK G ir_slices_ContainsFunc_depend_Template_depend_Template.rv ir_slices_ContainsFunc_depend_Template_depend_Template.body [] [] (params 0 [t0, t1]) = f_slices_ContainsFunc_depend_Template_depend_Template G t0 t1 := by kernel_rfl

def d_slices_ContainsFunc_depend_Template_depend_Template (G : Sem') : List V → M V
  | [t0, t1] => fin (f_slices_ContainsFunc_depend_Template_depend_Template G t0 t1)
  | _ => M.fail

theorem s_slices_ContainsFunc_depend_Template_depend_Template {g : Sem'} (hg : Sims g (sem T)) (args : List V) : Sim (d_slices_ContainsFunc_depend_Template_depend_Template g args) (sem T fn_slices_ContainsFunc_depend_Template_depend_Template args) := by
  unfold d_slices_ContainsFunc_depend_Template_depend_Template
  split
  · exact sim_fn tb_slices_ContainsFunc_depend_Template_depend_Template (Nat.le_of_ble_eq_true rfl) hg (eq_slices_ContainsFunc_depend_Template_depend_Template g _ _)
  · exact sim_fail

/-- palanquin/depend.Fine$1. -/
def f_depend_Fine_1 (G : Sem') (t0 t1 : V) : M Res :=
  (mbox ty_depend_Template t0).bind fun t2 =>
  (mload (some 6) t1).bind fun t4 =>
  (mload (some 5) t2).bind fun t5 =>
  (G fn_depend_Structure_fine [t4, t5]).bind fun t6 =>
  (M.lift (Ax.un .not t6)).bind fun t7 =>
  M.pure (.ret [t7])

theorem eq_depend_Fine_1 (G : Sem') (t0 t1 : V) : execK G ir_depend_Fine_1.rv ir_depend_Fine_1.body [] [] (params 0 [t0, t1]) = f_depend_Fine_1 G t0 t1 := by kernel_rfl

def d_depend_Fine_1 (G : Sem') : List V → M V
  | [t0, t1] => fin (f_depend_Fine_1 G t0 t1)
  | _ => M.fail

theorem s_depend_Fine_1 {g : Sem'} (hg : Sims g (sem T)) (args : List V) : Sim (d_depend_Fine_1 g args) (sem T fn_depend_Fine_1 args) := by
  unfold d_depend_Fine_1
  split
  · exact sim_fn tb_depend_Fine_1 (Nat.le_of_ble_eq_true rfl) hg (eq_depend_Fine_1 g _ _)
  · exact sim_fail

/-- (palanquin/depend.Structure).fine. -/
def f_depend_Structure_fine (G : Sem') (t0 t1 : V) : M Res :=
  (mbox ty_depend_Structure t0).bind fun t2 =>
  (mbox ty_depend_Template t1).bind fun t3 =>
  (M.lift (Ax.faddr 2 t3)).bind fun t5 =>
  (mload none t5).bind fun t6 =>
  (M.lift (Ax.faddr 1 t2)).bind fun t7 =>
  (mload none t7).bind fun t8 =>
  (G fn_depend_within [t6, t8, (V.int .i64 0), (V.int .i64 3)]).bind fun t9 =>
  (guarded [(0, t9)] (some (0, true)) (M.lift (Ax.faddr 3 t3))).bind fun t11 =>
  (guarded [(0, t9)] (some (0, true)) (mload none t11)).bind fun t12 =>
  (guarded [(0, t9)] (some (0, true)) (G fn_depend_diffs [t12, (V.int .i64 8), (V.int .i64 16)])).bind fun t13 =>
  (M.lift (Ax.pick t9 t13 (V.bool false))).bind fun t14 =>
  (guarded [(0, t14)] (some (0, true)) (M.lift (Ax.faddr 4 t3))).bind fun t16 =>
  (guarded [(0, t14)] (some (0, true)) (mload none t16)).bind fun t17 =>
  (guarded [(0, t14)] (some (0, true)) (M.lift (Ax.faddr 3 t2))).bind fun t18 =>
  (guarded [(0, t14)] (some (0, true)) (mload none t18)).bind fun t19 =>
  (guarded [(0, t14)] (some (0, true)) (G fn_depend_within [t17, t19, (V.int .i64 0), (V.int .i64 15)])).bind fun t20 =>
  (M.lift (Ax.pick t14 t20 (V.bool false))).bind fun t21 =>
  M.pure (.ret [t21])

theorem eq_depend_Structure_fine (G : Sem') (t0 t1 : V) : execK G ir_depend_Structure_fine.rv ir_depend_Structure_fine.body [] [] (params 0 [t0, t1]) = f_depend_Structure_fine G t0 t1 := by kernel_rfl

def d_depend_Structure_fine (G : Sem') : List V → M V
  | [t0, t1] => fin (f_depend_Structure_fine G t0 t1)
  | _ => M.fail

theorem s_depend_Structure_fine {g : Sem'} (hg : Sims g (sem T)) (args : List V) : Sim (d_depend_Structure_fine g args) (sem T fn_depend_Structure_fine args) := by
  unfold d_depend_Structure_fine
  split
  · exact sim_fn tb_depend_Structure_fine (Nat.le_of_ble_eq_true rfl) hg (eq_depend_Structure_fine g _ _)
  · exact sim_fail

/-- palanquin/palanquinref9.Fine. -/
def f_palanquinref9_Fine_0 (G : Sem') (t3 t1 : V) (L : List V) : M Res :=
  (M.lift (Ax.bin .lss (L.getD 0 .undef) t3)).bind fun t51 =>
  M.ite t51
    (M.blk 1 (
      (M.lift (Ax.faddr 2 t1)).bind fun t54 =>
      (mload none t54).bind fun t55 =>
      (M.lift (Ax.iaddr none 5 t55 (L.getD 0 .undef))).bind fun t57 =>
      (mload (some 5) t57).bind fun t58 =>
      (mbox ty_palanquinref9_Template (V.agg [(V.int .i64 0), (V.int .i64 0), V.nils, V.nils, V.nils])).bind fun t5 =>
      (mstore 5 t5 t58).bind fun _ =>
      (M.lift (Ax.faddr 0 t5)).bind fun t59 =>
      (mload none t59).bind fun t60 =>
      (M.lift (Ax.bin .lss t60 (V.int .i64 0))).bind fun t61 =>
      (guarded [(0, t61)] (some (0, false)) (M.lift (Ax.faddr 0 t5))).bind fun t63 =>
      (guarded [(0, t61)] (some (0, false)) (mload none t63)).bind fun t64 =>
      (guarded [(0, t61)] (some (0, false)) (M.lift (Ax.bin .gtr t64 (V.int .i64 3)))).bind fun t65 =>
      (M.lift (Ax.pick t61 (V.bool true) t65)).bind fun t66 =>
      (guarded [(0, t66)] (some (0, false)) (M.lift (Ax.faddr 1 t5))).bind fun t68 =>
      (guarded [(0, t66)] (some (0, false)) (mload none t68)).bind fun t69 =>
      (guarded [(0, t66)] (some (0, false)) (M.lift (Ax.bin .lss t69 (V.int .i64 0)))).bind fun t70 =>
      (M.lift (Ax.pick t66 (V.bool true) t70)).bind fun t71 =>
      (guarded [(0, t71)] (some (0, false)) (M.lift (Ax.faddr 1 t5))).bind fun t73 =>
      (guarded [(0, t71)] (some (0, false)) (mload none t73)).bind fun t74 =>
      (guarded [(0, t71)] (some (0, false)) (M.lift (Ax.bin .gtr t74 (V.int .i64 7)))).bind fun t75 =>
      (M.lift (Ax.pick t71 (V.bool true) t75)).bind fun t76 =>
      (guarded [(0, t76)] (some (0, false)) (M.pure (L.getD 0 .undef))).bind fun t78 =>
      (guarded [(0, t76)] (some (0, false)) (M.lift (Ax.bin .eql t78 (V.int .i64 0)))).bind fun t79 =>
      (guarded [(0, t76)] (some (0, false)) (M.pure t79)).bind fun t80 =>
      (guarded [(0, t80)] (some (0, true)) (M.lift (Ax.faddr 0 t5))).bind fun t81 =>
      (guarded [(0, t80)] (some (0, true)) (mload none t81)).bind fun t82 =>
      (guarded [(0, t80)] (some (0, true)) (M.lift (Ax.bin .neq t82 (V.int .i64 0)))).bind fun t83 =>
      (guarded [(0, t80)] (some (0, true)) (M.pure t83)).bind fun t84 =>
      (guarded [(0, t84)] (some (0, false)) (M.lift (Ax.faddr 1 t5))).bind fun t85 =>
      (guarded [(0, t84)] (some (0, false)) (mload none t85)).bind fun t86 =>
      (guarded [(0, t84)] (some (0, false)) (M.lift (Ax.bin .neq t86 (V.int .i64 0)))).bind fun t87 =>
      (guarded [(0, t80)] (some (0, true)) (M.lift (Ax.pick t84 (V.bool true) t87))).bind fun t88 =>
      (guarded [(0, t76)] (some (0, false)) (M.lift (Ax.pick t80 t88 (V.bool false)))).bind fun t89 =>
      (M.lift (Ax.pick t76 (V.bool true) t89)).bind fun t90 =>
      M.ite t90
        (M.pure (.ret [(V.bool false)]))
        ((M.lift (Ax.bin .gtr (L.getD 0 .undef) (V.int .i64 0))).bind fun t92 =>
        (guarded [(0, t92)] (some (0, true)) (M.lift (Ax.faddr 2 t1))).bind fun t94 =>
        (guarded [(0, t92)] (some (0, true)) (mload none t94)).bind fun t95 =>
        (guarded [(0, t92)] (some (0, true)) (M.pure (L.getD 0 .undef))).bind fun t96 =>
        (guarded [(0, t92)] (some (0, true)) (M.lift (Ax.bin .sub t96 (V.int .i64 1)))).bind fun t97 =>
        (guarded [(0, t92)] (some (0, true)) (M.lift (Ax.iaddr none 5 t95 t97))).bind fun t98 =>
        (guarded [(0, t92)] (some (0, true)) (mload (some 5) t98)).bind fun t99 =>
        (guarded [(0, t92)] (some (0, true)) (mload (some 5) t5)).bind fun t100 =>
        (guarded [(0, t92)] (some (0, true)) (G fn_palanquinref9_step [t99, t100])).bind fun t101 =>
        (guarded [(0, t92)] (some (0, true)) (M.lift (Ax.bin .eql t101 (V.int .i64 3)))).bind fun t102 =>
        (M.lift (Ax.pick t92 t102 (V.bool false))).bind fun t103 =>
        M.ite t103
          (M.pure (.ret [(V.bool false)]))
          ((M.lift (Ax.faddr 2 t5)).bind fun t104 =>
          (mload none t104).bind fun t105 =>
          (M.lift (Ax.faddr 1 t1)).bind fun t106 =>
          (mload none t106).bind fun t107 =>
          (G fn_palanquinref9_within [t105, t107, (V.int .i64 0), (V.int .i64 3)]).bind fun t108 =>
          (M.lift (Ax.un .not t108)).bind fun t109 =>
          (guarded [(0, t109)] (some (0, false)) (M.lift (Ax.faddr 3 t5))).bind fun t111 =>
          (guarded [(0, t109)] (some (0, false)) (mload none t111)).bind fun t112 =>
          (guarded [(0, t109)] (some (0, false)) (M.lift (vlen t112))).bind fun t113 =>
          (guarded [(0, t109)] (some (0, false)) (M.lift (Ax.bin .gtr t113 (V.int .i64 8)))).bind fun t114 =>
          (M.lift (Ax.pick t109 (V.bool true) t114)).bind fun t115 =>
          (guarded [(0, t115)] (some (0, false)) (M.lift (Ax.faddr 3 t5))).bind fun t117 =>
          (guarded [(0, t115)] (some (0, false)) (mload none t117)).bind fun t118 =>
          (guarded [(0, t115)] (some (0, false)) (G fn_palanquinref9_within [t118, (V.int .i64 (-1)), (V.int .i64 1), (V.int .i64 16)])).bind fun t119 =>
          (guarded [(0, t115)] (some (0, false)) (M.lift (Ax.un .not t119))).bind fun t120 =>
          (M.lift (Ax.pick t115 (V.bool true) t120)).bind fun t121 =>
          (guarded [(0, t121)] (some (0, false)) (M.lift (Ax.faddr 4 t5))).bind fun t123 =>
          (guarded [(0, t121)] (some (0, false)) (mload none t123)).bind fun t124 =>
          (guarded [(0, t121)] (some (0, false)) (M.lift (Ax.faddr 3 t1))).bind fun t125 =>
          (guarded [(0, t121)] (some (0, false)) (mload none t125)).bind fun t126 =>
          (guarded [(0, t121)] (some (0, false)) (G fn_palanquinref9_within [t124, t126, (V.int .i64 0), (V.int .i64 15)])).bind fun t127 =>
          (guarded [(0, t121)] (some (0, false)) (M.lift (Ax.un .not t127))).bind fun t128 =>
          (M.lift (Ax.pick t121 (V.bool true) t128)).bind fun t129 =>
          M.ite t129
            (M.pure (.ret [(V.bool false)]))
            (M.pure (.nrm []))))) fun _ =>
    (M.lift (Ax.bin .add (L.getD 0 .undef) (V.int .i64 1))).bind fun t53 =>
    M.pure (.nrm [t53]))
    (M.pure (.ex 0 []))

def f_palanquinref9_Fine_1 (G : Sem') (t1 : V) (L : List V) : M Res :=
  (M.lift (Ax.faddr 5 t1)).bind fun t159 =>
  (mload none t159).bind fun t160 =>
  (M.lift (vlen t160)).bind fun t161 =>
  (M.lift (Ax.bin .lss (L.getD 0 .undef) t161)).bind fun t162 =>
  M.ite t162
    (M.blk 3 (
      (M.lift (Ax.faddr 5 t1)).bind fun t165 =>
      (mload none t165).bind fun t166 =>
      (M.lift (Ax.iaddr none 2 t166 (L.getD 0 .undef))).bind fun t168 =>
      (M.lift (Ax.iaddr (some 2) 1 t168 (V.int .i64 0))).bind fun t169 =>
      (mload none t169).bind fun t170 =>
      (M.lift (Ax.faddr 5 t1)).bind fun t171 =>
      (mload none t171).bind fun t172 =>
      (M.lift (Ax.iaddr none 2 t172 (L.getD 0 .undef))).bind fun t174 =>
      (M.lift (Ax.iaddr (some 2) 1 t174 (V.int .i64 1))).bind fun t175 =>
      (mload none t175).bind fun t176 =>
      (mslit ty_int 2 [(V.int .i64 0)] [(0, 1, t170), (1, 1, t176)]).bind fun t177 =>
      (G fn_palanquinref9_within [t177, (V.int .i64 2), (V.int .i64 1), (V.int .i64 65536)]).bind fun t178 =>
      (M.lift (Ax.un .not t178)).bind fun t179 =>
      M.ite t179
        (M.pure (.ret [(V.bool false)]))
        (M.pure (.nrm []))) fun _ =>
    (M.lift (Ax.bin .add (L.getD 0 .undef) (V.int .i64 1))).bind fun t164 =>
    M.pure (.nrm [t164]))
    (M.pure (.ex 2 []))

def f_palanquinref9_Fine (G : Sem') (t0 : V) : M Res :=
  (mbox ty_palanquinref9_Structure t0).bind fun t1 =>
  (M.lift (Ax.faddr 2 t1)).bind fun t8 =>
  (mload none t8).bind fun t9 =>
  (M.lift (vlen t9)).bind fun t10 =>
  (M.lift (Ax.faddr 0 t1)).bind fun t11 =>
  (mload none t11).bind fun t12 =>
  (M.lift (Ax.bin .lss t12 (V.int .i64 0))).bind fun t13 =>
  (guarded [(0, t13)] (some (0, false)) (M.lift (Ax.faddr 0 t1))).bind fun t15 =>
  (guarded [(0, t13)] (some (0, false)) (mload none t15)).bind fun t16 =>
  (guarded [(0, t13)] (some (0, false)) (M.lift (Ax.bin .gtr t16 (V.int .i64 63)))).bind fun t17 =>
  (M.lift (Ax.pick t13 (V.bool true) t17)).bind fun t18 =>
  (guarded [(0, t18)] (some (0, false)) (M.lift (Ax.faddr 1 t1))).bind fun t20 =>
  (guarded [(0, t18)] (some (0, false)) (mload none t20)).bind fun t21 =>
  (guarded [(0, t18)] (some (0, false)) (M.lift (Ax.bin .lss t21 (V.int .i64 1)))).bind fun t22 =>
  (M.lift (Ax.pick t18 (V.bool true) t22)).bind fun t23 =>
  (guarded [(0, t23)] (some (0, false)) (M.lift (Ax.faddr 1 t1))).bind fun t25 =>
  (guarded [(0, t23)] (some (0, false)) (mload none t25)).bind fun t26 =>
  (guarded [(0, t23)] (some (0, false)) (M.lift (Ax.bin .gtr t26 (V.int .i64 32)))).bind fun t27 =>
  (M.lift (Ax.pick t23 (V.bool true) t27)).bind fun t28 =>
  (guarded [(0, t28)] (some (0, false)) (M.pure t10)).bind fun t30 =>
  (guarded [(0, t28)] (some (0, false)) (M.lift (Ax.bin .lss t30 (V.int .i64 1)))).bind fun t31 =>
  (M.lift (Ax.pick t28 (V.bool true) t31)).bind fun t32 =>
  (guarded [(0, t32)] (some (0, false)) (M.pure t10)).bind fun t34 =>
  (guarded [(0, t32)] (some (0, false)) (M.lift (Ax.bin .gtr t34 (V.int .i64 64)))).bind fun t35 =>
  (M.lift (Ax.pick t32 (V.bool true) t35)).bind fun t36 =>
  (guarded [(0, t36)] (some (0, false)) (M.lift (Ax.faddr 3 t1))).bind fun t38 =>
  (guarded [(0, t36)] (some (0, false)) (mload none t38)).bind fun t39 =>
  (guarded [(0, t36)] (some (0, false)) (M.lift (Ax.bin .lss t39 (V.int .i64 0)))).bind fun t40 =>
  (M.lift (Ax.pick t36 (V.bool true) t40)).bind fun t41 =>
  (guarded [(0, t41)] (some (0, false)) (M.lift (Ax.faddr 3 t1))).bind fun t43 =>
  (guarded [(0, t41)] (some (0, false)) (mload none t43)).bind fun t44 =>
  (guarded [(0, t41)] (some (0, false)) (M.lift (Ax.faddr 1 t1))).bind fun t45 =>
  (guarded [(0, t41)] (some (0, false)) (mload none t45)).bind fun t46 =>
  (guarded [(0, t41)] (some (0, false)) (M.lift (Ax.bin .gtr t44 t46))).bind fun t47 =>
  (M.lift (Ax.pick t41 (V.bool true) t47)).bind fun t48 =>
  M.ite t48
    (M.pure (.ret [(V.bool false)]))
    (M.blk 0 (
      M.iter (f_palanquinref9_Fine_0 G t10 t1) [(V.int .i64 0)]) fun _ =>
    (M.lift (Ax.faddr 3 t1)).bind fun t130 =>
    (mload none t130).bind fun t131 =>
    (M.lift (Ax.bin .gtr t131 (V.int .i64 0))).bind fun t132 =>
    M.join (M.ite t132
      ((M.lift (Ax.faddr 1 t1)).bind fun t133 =>
      (mload none t133).bind fun t134 =>
      M.pure (.nrm [t134]))
      (M.pure (.nrm [(V.int .i64 0)]))) fun L2 =>
    (M.lift (Ax.faddr 4 t1)).bind fun t135 =>
    (mload none t135).bind fun t136 =>
    (M.lift (Ax.faddr 3 t1)).bind fun t138 =>
    (mload none t138).bind fun t139 =>
    (M.lift (Ax.bin .sub t139 (V.int .i64 1))).bind fun t140 =>
    (G fn_palanquinref9_within [t136, (L2.getD 0 .undef), (V.int .i64 0), t140]).bind fun t141 =>
    (M.lift (Ax.un .not t141)).bind fun t142 =>
    (guarded [(0, t142)] (some (0, false)) (M.lift (Ax.faddr 5 t1))).bind fun t144 =>
    (guarded [(0, t142)] (some (0, false)) (mload none t144)).bind fun t145 =>
    (guarded [(0, t142)] (some (0, false)) (M.lift (vlen t145))).bind fun t146 =>
    (guarded [(0, t142)] (some (0, false)) (M.lift (Ax.bin .gtr t146 (V.int .i64 0)))).bind fun t147 =>
    (guarded [(0, t142)] (some (0, false)) (M.pure t147)).bind fun t148 =>
    (guarded [(0, t148)] (some (0, true)) (mload (some 6) t1)).bind fun t152 =>
    M.getH.bind fun h0 =>
    (guarded [(0, t148)] (some (0, true)) (G fn_palanquinref9_top [t152])).bind fun t153 =>
    M.getH.bind fun h0' =>
    (guarded [(0, t148)] (some (0, true)) (M.lift (Ax.faddr 5 t1))).bind fun t149 =>
    (guarded [(0, t148)] (some (0, true)) (mload none t149)).bind fun t150 =>
    (M.unch t149 h0 h0').bind fun _ =>
    (guarded [(0, t148)] (some (0, true)) (M.lift (vlen t150))).bind fun t151 =>
    (guarded [(0, t148)] (some (0, true)) (M.lift (Ax.bin .add t153 (V.int .i64 1)))).bind fun t154 =>
    (guarded [(0, t148)] (some (0, true)) (M.lift (Ax.bin .neq t151 t154))).bind fun t155 =>
    (guarded [(0, t142)] (some (0, false)) (M.lift (Ax.pick t148 t155 (V.bool false)))).bind fun t156 =>
    (M.lift (Ax.pick t142 (V.bool true) t156)).bind fun t157 =>
    M.ite t157
      (M.pure (.ret [(V.bool false)]))
      (M.blk 2 (
        M.iter (f_palanquinref9_Fine_1 G t1) [(V.int .i64 0)]) fun _ =>
      M.pure (.ret [(V.bool true)])))

theorem eq_palanquinref9_Fine (G : Sem') (t0 : V) : execK G ir_palanquinref9_Fine.rv ir_palanquinref9_Fine.body [] [] (params 0 [t0]) = f_palanquinref9_Fine G t0 := by kernel_rfl

def d_palanquinref9_Fine (G : Sem') : List V → M V
  | [t0] => fin (f_palanquinref9_Fine G t0)
  | _ => M.fail

theorem s_palanquinref9_Fine {g : Sem'} (hg : Sims g (sem T)) (args : List V) : Sim (d_palanquinref9_Fine g args) (sem T fn_palanquinref9_Fine args) := by
  unfold d_palanquinref9_Fine
  split
  · exact sim_fn tb_palanquinref9_Fine (Nat.le_of_ble_eq_true rfl) hg (eq_palanquinref9_Fine g _)
  · exact sim_fail

/-- palanquin/depend.diffs. -/
def f_depend_diffs (G : Sem') (t0 t1 t2 : V) : M Res :=
  (M.lift (vlen t0)).bind fun t8 =>
  (M.lift (Ax.bin .leq t8 t1)).bind fun t10 =>
  (guarded [(0, t10)] (some (0, true)) (M.pure t0)).bind fun t12 =>
  (guarded [(0, t10)] (some (0, true)) (M.pure t0)).bind fun t13 =>
  (guarded [(0, t10)] (some (0, true)) (M.lift (vlen t13))).bind fun t14 =>
  (guarded [(0, t10)] (some (0, true)) (M.pure t2)).bind fun t15 =>
  (guarded [(0, t10)] (some (0, true)) (G fn_depend_within [t12, t14, (V.int .i64 1), t15])).bind fun t16 =>
  (M.lift (Ax.pick t10 t16 (V.bool false))).bind fun t17 =>
  M.pure (.ret [t17])

theorem eq_depend_diffs (G : Sem') (t0 t1 t2 : V) : execK G ir_depend_diffs.rv ir_depend_diffs.body [] [] (params 0 [t0, t1, t2]) = f_depend_diffs G t0 t1 t2 := by kernel_rfl

def d_depend_diffs (G : Sem') : List V → M V
  | [t0, t1, t2] => fin (f_depend_diffs G t0 t1 t2)
  | _ => M.fail

theorem s_depend_diffs {g : Sem'} (hg : Sims g (sem T)) (args : List V) : Sim (d_depend_diffs g args) (sem T fn_depend_diffs args) := by
  unfold d_depend_diffs
  split
  · exact sim_fn tb_depend_diffs (Nat.le_of_ble_eq_true rfl) hg (eq_depend_diffs g _ _ _)
  · exact sim_fail

/-- slices.ContainsFunc[[]int,int]. -/
def f_slices_ContainsFunc_int_int (G : Sem') (t0 t1 : V) : M Res :=
  (G fn_slices_IndexFunc_int_int [t0, t1]).bind fun t7 =>
  (M.lift (Ax.bin .geq t7 (V.int .i64 0))).bind fun t8 =>
  M.pure (.ret [t8])

theorem eq_slices_ContainsFunc_int_int (G : Sem') (t0 t1 : V) : execK G ir_slices_ContainsFunc_int_int.rv ir_slices_ContainsFunc_int_int.body [] [] (params 0 [t0, t1]) = f_slices_ContainsFunc_int_int G t0 t1 := by kernel_rfl

def d_slices_ContainsFunc_int_int (G : Sem') : List V → M V
  | [t0, t1] => fin (f_slices_ContainsFunc_int_int G t0 t1)
  | _ => M.fail

theorem s_slices_ContainsFunc_int_int {g : Sem'} (hg : Sims g (sem T)) (args : List V) : Sim (d_slices_ContainsFunc_int_int g args) (sem T fn_slices_ContainsFunc_int_int args) := by
  unfold d_slices_ContainsFunc_int_int
  split
  · exact sim_fn tb_slices_ContainsFunc_int_int (Nat.le_of_ble_eq_true rfl) hg (eq_slices_ContainsFunc_int_int g _ _)
  · exact sim_fail

/-- palanquin/depend.within$1. -/
def f_depend_within_1 (G : Sem') (t0 t1 t2 : V) : M Res :=
  (mload none t1).bind fun t6 =>
  (M.lift (Ax.bin .lss t0 t6)).bind fun t7 =>
  (guarded [(0, t7)] (some (0, false)) (M.pure t0)).bind fun t9 =>
  (guarded [(0, t7)] (some (0, false)) (mload none t2)).bind fun t10 =>
  (guarded [(0, t7)] (some (0, false)) (M.lift (Ax.bin .gtr t9 t10))).bind fun t11 =>
  (M.lift (Ax.pick t7 (V.bool true) t11)).bind fun t12 =>
  M.pure (.ret [t12])

theorem eq_depend_within_1 (G : Sem') (t0 t1 t2 : V) : execK G ir_depend_within_1.rv ir_depend_within_1.body [] [] (params 0 [t0, t1, t2]) = f_depend_within_1 G t0 t1 t2 := by kernel_rfl

def d_depend_within_1 (G : Sem') : List V → M V
  | [t0, t1, t2] => fin (f_depend_within_1 G t0 t1 t2)
  | _ => M.fail

theorem s_depend_within_1 {g : Sem'} (hg : Sims g (sem T)) (args : List V) : Sim (d_depend_within_1 g args) (sem T fn_depend_within_1 args) := by
  unfold d_depend_within_1
  split
  · exact sim_fn tb_depend_within_1 (Nat.le_of_ble_eq_true rfl) hg (eq_depend_within_1 g _ _ _)
  · exact sim_fail

/-- palanquin/depend.next. -/
def f_depend_next (G : Sem') (t0 t1 : V) : M Res :=
  (mbox ty_depend_Template t0).bind fun t2 =>
  (mbox ty_depend_Template t1).bind fun t3 =>
  M.blk 0 (
    (M.lift (Ax.faddr 0 t3)).bind fun t7 =>
    (mload none t7).bind fun t8 =>
    (M.lift (Ax.faddr 0 t2)).bind fun t9 =>
    (mload none t9).bind fun t10 =>
    (M.lift (Ax.bin .eql t8 t10)).bind fun t11 =>
    (guarded [(0, t11)] (some (0, true)) (M.lift (Ax.faddr 1 t3))).bind fun t13 =>
    (guarded [(0, t11)] (some (0, true)) (mload none t13)).bind fun t14 =>
    (guarded [(0, t11)] (some (0, true)) (M.lift (Ax.faddr 1 t2))).bind fun t15 =>
    (guarded [(0, t11)] (some (0, true)) (mload none t15)).bind fun t16 =>
    (guarded [(0, t11)] (some (0, true)) (M.lift (Ax.bin .eql t14 t16))).bind fun t17 =>
    (M.lift (Ax.pick t11 t17 (V.bool false))).bind fun t18 =>
    M.ite t18
      (M.pure (.ret [(V.int .i64 0), (V.bool true)]))
      ((M.lift (Ax.faddr 0 t3)).bind fun t20 =>
      (mload none t20).bind fun t21 =>
      (M.lift (Ax.faddr 0 t2)).bind fun t22 =>
      (mload none t22).bind fun t23 =>
      (M.lift (Ax.bin .eql t21 t23)).bind fun t24 =>
      (guarded [(0, t24)] (some (0, true)) (M.lift (Ax.faddr 1 t3))).bind fun t26 =>
      (guarded [(0, t24)] (some (0, true)) (mload none t26)).bind fun t27 =>
      (guarded [(0, t24)] (some (0, true)) (M.lift (Ax.faddr 1 t2))).bind fun t28 =>
      (guarded [(0, t24)] (some (0, true)) (mload none t28)).bind fun t29 =>
      (guarded [(0, t24)] (some (0, true)) (M.lift (Ax.bin .add t29 (V.int .i64 1)))).bind fun t30 =>
      (guarded [(0, t24)] (some (0, true)) (M.lift (Ax.bin .eql t27 t30))).bind fun t31 =>
      (M.lift (Ax.pick t24 t31 (V.bool false))).bind fun t32 =>
      M.ite t32
        (M.pure (.ret [(V.int .i64 1), (V.bool true)]))
        ((M.lift (Ax.faddr 0 t3)).bind fun t34 =>
        (mload none t34).bind fun t35 =>
        (M.lift (Ax.faddr 0 t2)).bind fun t36 =>
        (mload none t36).bind fun t37 =>
        (M.lift (Ax.bin .add t37 (V.int .i64 1))).bind fun t38 =>
        (M.lift (Ax.bin .eql t35 t38)).bind fun t39 =>
        (guarded [(0, t39)] (some (0, true)) (M.lift (Ax.faddr 1 t3))).bind fun t41 =>
        (guarded [(0, t39)] (some (0, true)) (mload none t41)).bind fun t42 =>
        (guarded [(0, t39)] (some (0, true)) (M.lift (Ax.bin .eql t42 (V.int .i64 0)))).bind fun t43 =>
        (M.lift (Ax.pick t39 t43 (V.bool false))).bind fun t44 =>
        M.ite t44
          (M.pure (.ret [(V.int .i64 2), (V.bool true)]))
          (M.pure (.nrm []))))) fun _ =>
  M.pure (.ret [(V.int .i64 0), (V.bool false)])

theorem eq_depend_next (G : Sem') (t0 t1 : V) : execK G ir_depend_next.rv ir_depend_next.body [] [] (params 0 [t0, t1]) = f_depend_next G t0 t1 := by kernel_rfl

def d_depend_next (G : Sem') : List V → M V
  | [t0, t1] => fin (f_depend_next G t0 t1)
  | _ => M.fail

theorem s_depend_next {g : Sem'} (hg : Sims g (sem T)) (args : List V) : Sim (d_depend_next g args) (sem T fn_depend_next args) := by
  unfold d_depend_next
  split
  · exact sim_fn tb_depend_next (Nat.le_of_ble_eq_true rfl) hg (eq_depend_next g _ _)
  · exact sim_fail

/-- slices.IndexFunc[[]palanquin/depend.Template,palanquin/depend.Template]. -/
def f_slices_IndexFunc_depend_Template_depend_Template_0 (G : Sem') (t7 t1 t0 : V) (L : List V) : M Res :=
  (M.lift (Ax.bin .lss (L.getD 0 .undef) t7)).bind fun t9 =>
  M.ite t9
    (M.blk 1 (
      (M.lift (Ax.iaddr none 5 t0 (L.getD 0 .undef))).bind fun t14 =>
      (mload (some 5) t14).bind fun t15 =>
      (callv G t1 [t15]).bind fun t16 =>
      M.ite t16
        (M.pure (.ret [(L.getD 0 .undef)]))
        (M.pure (.nrm []))) fun _ =>
    (M.lift (Ax.bin .add (L.getD 0 .undef) (V.int .i64 1))).bind fun t18 =>
    M.pure (.nrm [t18]))
    (M.pure (.ex 0 []))

def f_slices_IndexFunc_depend_Template_depend_Template (G : Sem') (t0 t1 : V) : M Res :=
  (M.lift (vlen t0)).bind fun t7 =>
  M.blk 0 (
    M.iter (f_slices_IndexFunc_depend_Template_depend_Template_0 G t7 t1 t0) [(V.int .i64 0)]) fun _ =>
  M.pure (.ret [(V.int .i64 (-1))])

theorem eq_slices_IndexFunc_depend_Template_depend_Template (G : Sem') (t0 t1 : V) : execK G ir_slices_IndexFunc_depend_Template_depend_Template.rv ir_slices_IndexFunc_depend_Template_depend_Template.body [] [] (params 0 [t0, t1]) = f_slices_IndexFunc_depend_Template_depend_Template G t0 t1 := by kernel_rfl

def d_slices_IndexFunc_depend_Template_depend_Template (G : Sem') : List V → M V
  | [t0, t1] => fin (f_slices_IndexFunc_depend_Template_depend_Template G t0 t1)
  | _ => M.fail

theorem s_slices_IndexFunc_depend_Template_depend_Template {g : Sem'} (hg : Sims g (sem T)) (args : List V) : Sim (d_slices_IndexFunc_depend_Template_depend_Template g args) (sem T fn_slices_IndexFunc_depend_Template_depend_Template args) := by
  unfold d_slices_IndexFunc_depend_Template_depend_Template
  split
  · exact sim_fn tb_slices_IndexFunc_depend_Template_depend_Template (Nat.le_of_ble_eq_true rfl) hg (eq_slices_IndexFunc_depend_Template_depend_Template g _ _)
  · exact sim_fail

/-- palanquin/palanquinref9.step. -/
def f_palanquinref9_step (G : Sem') (t0 t1 : V) : M Res :=
  (mbox ty_palanquinref9_Template t0).bind fun t2 =>
  (mbox ty_palanquinref9_Template t1).bind fun t3 =>
  M.blk 0 (
    (M.lift (Ax.faddr 0 t2)).bind fun t6 =>
    (mload none t6).bind fun t7 =>
    (M.lift (Ax.faddr 0 t3)).bind fun t8 =>
    (mload none t8).bind fun t9 =>
    (M.lift (Ax.bin .eql t7 t9)).bind fun t10 =>
    (guarded [(0, t10)] (some (0, true)) (M.lift (Ax.faddr 1 t2))).bind fun t12 =>
    (guarded [(0, t10)] (some (0, true)) (mload none t12)).bind fun t13 =>
    (guarded [(0, t10)] (some (0, true)) (M.lift (Ax.faddr 1 t3))).bind fun t14 =>
    (guarded [(0, t10)] (some (0, true)) (mload none t14)).bind fun t15 =>
    (guarded [(0, t10)] (some (0, true)) (M.lift (Ax.bin .eql t13 t15))).bind fun t16 =>
    (M.lift (Ax.pick t10 t16 (V.bool false))).bind fun t17 =>
    M.ite t17
      (M.pure (.ret [(V.int .i64 0)]))
      ((M.lift (Ax.faddr 0 t2)).bind fun t19 =>
      (mload none t19).bind fun t20 =>
      (M.lift (Ax.faddr 0 t3)).bind fun t21 =>
      (mload none t21).bind fun t22 =>
      (M.lift (Ax.bin .eql t20 t22)).bind fun t23 =>
      (guarded [(0, t23)] (some (0, true)) (M.lift (Ax.faddr 1 t2))).bind fun t25 =>
      (guarded [(0, t23)] (some (0, true)) (mload none t25)).bind fun t26 =>
      (guarded [(0, t23)] (some (0, true)) (M.lift (Ax.bin .add t26 (V.int .i64 1)))).bind fun t27 =>
      (guarded [(0, t23)] (some (0, true)) (M.lift (Ax.faddr 1 t3))).bind fun t28 =>
      (guarded [(0, t23)] (some (0, true)) (mload none t28)).bind fun t29 =>
      (guarded [(0, t23)] (some (0, true)) (M.lift (Ax.bin .eql t27 t29))).bind fun t30 =>
      (M.lift (Ax.pick t23 t30 (V.bool false))).bind fun t31 =>
      M.ite t31
        (M.pure (.ret [(V.int .i64 1)]))
        ((M.lift (Ax.faddr 0 t2)).bind fun t33 =>
        (mload none t33).bind fun t34 =>
        (M.lift (Ax.bin .add t34 (V.int .i64 1))).bind fun t35 =>
        (M.lift (Ax.faddr 0 t3)).bind fun t36 =>
        (mload none t36).bind fun t37 =>
        (M.lift (Ax.bin .eql t35 t37)).bind fun t38 =>
        (guarded [(0, t38)] (some (0, true)) (M.lift (Ax.faddr 1 t3))).bind fun t40 =>
        (guarded [(0, t38)] (some (0, true)) (mload none t40)).bind fun t41 =>
        (guarded [(0, t38)] (some (0, true)) (M.lift (Ax.bin .eql t41 (V.int .i64 0)))).bind fun t42 =>
        (M.lift (Ax.pick t38 t42 (V.bool false))).bind fun t43 =>
        M.ite t43
          (M.pure (.ret [(V.int .i64 2)]))
          (M.pure (.nrm []))))) fun _ =>
  M.pure (.ret [(V.int .i64 3)])

theorem eq_palanquinref9_step (G : Sem') (t0 t1 : V) : execK G ir_palanquinref9_step.rv ir_palanquinref9_step.body [] [] (params 0 [t0, t1]) = f_palanquinref9_step G t0 t1 := by kernel_rfl

def d_palanquinref9_step (G : Sem') : List V → M V
  | [t0, t1] => fin (f_palanquinref9_step G t0 t1)
  | _ => M.fail

theorem s_palanquinref9_step {g : Sem'} (hg : Sims g (sem T)) (args : List V) : Sim (d_palanquinref9_step g args) (sem T fn_palanquinref9_step args) := by
  unfold d_palanquinref9_step
  split
  · exact sim_fn tb_palanquinref9_step (Nat.le_of_ble_eq_true rfl) hg (eq_palanquinref9_step g _ _)
  · exact sim_fail

/-- palanquin/palanquinref9.within. -/
def f_palanquinref9_within_0 (G : Sem') (t2 t0 t3 : V) (L : List V) : M Res :=
  (M.lift (vlen t0)).bind fun t20 =>
  (M.lift (Ax.bin .lss (L.getD 0 .undef) t20)).bind fun t21 =>
  M.ite t21
    (M.blk 1 (
      (M.lift (Ax.iaddr none 1 t0 (L.getD 0 .undef))).bind fun t26 =>
      (mload none t26).bind fun t27 =>
      (M.lift (Ax.bin .lss t27 t2)).bind fun t29 =>
      (guarded [(0, t29)] (some (0, false)) (M.pure t0)).bind fun t31 =>
      (guarded [(0, t29)] (some (0, false)) (M.pure (L.getD 0 .undef))).bind fun t32 =>
      (guarded [(0, t29)] (some (0, false)) (M.lift (Ax.iaddr none 1 t31 t32))).bind fun t33 =>
      (guarded [(0, t29)] (some (0, false)) (mload none t33)).bind fun t34 =>
      (guarded [(0, t29)] (some (0, false)) (M.pure t3)).bind fun t35 =>
      (guarded [(0, t29)] (some (0, false)) (M.lift (Ax.bin .gtr t34 t35))).bind fun t36 =>
      (M.lift (Ax.pick t29 (V.bool true) t36)).bind fun t37 =>
      M.ite t37
        (M.pure (.ret [(V.bool false)]))
        (M.pure (.nrm []))) fun _ =>
    (M.lift (Ax.bin .add (L.getD 0 .undef) (V.int .i64 1))).bind fun t23 =>
    M.pure (.nrm [t23]))
    (M.pure (.ex 0 []))

def f_palanquinref9_within (G : Sem') (t0 t1 t2 t3 : V) : M Res :=
  (M.lift (Ax.bin .geq t1 (V.int .i64 0))).bind fun t11 =>
  (guarded [(0, t11)] (some (0, true)) (M.pure t0)).bind fun t13 =>
  (guarded [(0, t11)] (some (0, true)) (M.lift (vlen t13))).bind fun t14 =>
  (guarded [(0, t11)] (some (0, true)) (M.pure t1)).bind fun t15 =>
  (guarded [(0, t11)] (some (0, true)) (M.lift (Ax.bin .neq t14 t15))).bind fun t16 =>
  (M.lift (Ax.pick t11 t16 (V.bool false))).bind fun t17 =>
  M.ite t17
    (M.pure (.ret [(V.bool false)]))
    (M.blk 0 (
      M.iter (f_palanquinref9_within_0 G t2 t0 t3) [(V.int .i64 0)]) fun _ =>
    M.pure (.ret [(V.bool true)]))

theorem eq_palanquinref9_within (G : Sem') (t0 t1 t2 t3 : V) : execK G ir_palanquinref9_within.rv ir_palanquinref9_within.body [] [] (params 0 [t0, t1, t2, t3]) = f_palanquinref9_within G t0 t1 t2 t3 := by kernel_rfl

def d_palanquinref9_within (G : Sem') : List V → M V
  | [t0, t1, t2, t3] => fin (f_palanquinref9_within G t0 t1 t2 t3)
  | _ => M.fail

theorem s_palanquinref9_within {g : Sem'} (hg : Sims g (sem T)) (args : List V) : Sim (d_palanquinref9_within g args) (sem T fn_palanquinref9_within args) := by
  unfold d_palanquinref9_within
  split
  · exact sim_fn tb_palanquinref9_within (Nat.le_of_ble_eq_true rfl) hg (eq_palanquinref9_within g _ _ _ _)
  · exact sim_fail

/-- palanquin/palanquinref9.top. -/
def f_palanquinref9_top_0 (G : Sem') (t1 t2 : V) (L : List V) : M Res :=
  (M.lift (Ax.faddr 2 t1)).bind fun t6 =>
  (mload none t6).bind fun t7 =>
  (M.lift (vlen t7)).bind fun t8 =>
  (M.lift (Ax.bin .lss (L.getD 1 .undef) t8)).bind fun t9 =>
  M.ite t9
    (M.blk 1 (
      (M.lift (Ax.faddr 2 t1)).bind fun t13 =>
      (mload none t13).bind fun t14 =>
      (M.lift (Ax.iaddr none 5 t14 (L.getD 1 .undef))).bind fun t16 =>
      (M.lift (Ax.faddr 0 t16)).bind fun t17 =>
      (mload none t17).bind fun t18 =>
      (M.lift (Ax.minmax true (L.getD 0 .undef) [t18])).bind fun t19 =>
      M.pure (.nrm [t19])) fun L0 =>
    (M.lift (Ax.bin .add (L.getD 1 .undef) (V.int .i64 1))).bind fun t11 =>
    M.pure (.nrm [(L0.getD 0 .undef), t11]))
    (M.pure (.ex 0 [(L.getD 0 .undef)]))

def f_palanquinref9_top (G : Sem') (t0 : V) : M Res :=
  (mbox ty_palanquinref9_Structure t0).bind fun t1 =>
  M.blk 0 (
    M.iter (f_palanquinref9_top_0 G t1 (V.int .i64 0)) [(V.int .i64 0), (V.int .i64 0)]) fun L1 =>
  M.pure (.ret [(L1.getD 0 .undef)])

theorem eq_palanquinref9_top (G : Sem') (t0 : V) : execK G ir_palanquinref9_top.rv ir_palanquinref9_top.body [] [] (params 0 [t0]) = f_palanquinref9_top G t0 := by kernel_rfl

def d_palanquinref9_top (G : Sem') : List V → M V
  | [t0] => fin (f_palanquinref9_top G t0)
  | _ => M.fail

theorem s_palanquinref9_top {g : Sem'} (hg : Sims g (sem T)) (args : List V) : Sim (d_palanquinref9_top g args) (sem T fn_palanquinref9_top args) := by
  unfold d_palanquinref9_top
  split
  · exact sim_fn tb_palanquinref9_top (Nat.le_of_ble_eq_true rfl) hg (eq_palanquinref9_top g _)
  · exact sim_fail

/-- slices.IndexFunc[[]int,int]. -/
def f_slices_IndexFunc_int_int_0 (G : Sem') (t7 t1 t0 : V) (L : List V) : M Res :=
  (M.lift (Ax.bin .lss (L.getD 0 .undef) t7)).bind fun t9 =>
  M.ite t9
    (M.blk 1 (
      (M.lift (Ax.iaddr none 1 t0 (L.getD 0 .undef))).bind fun t14 =>
      (mload none t14).bind fun t15 =>
      (callv G t1 [t15]).bind fun t16 =>
      M.ite t16
        (M.pure (.ret [(L.getD 0 .undef)]))
        (M.pure (.nrm []))) fun _ =>
    (M.lift (Ax.bin .add (L.getD 0 .undef) (V.int .i64 1))).bind fun t18 =>
    M.pure (.nrm [t18]))
    (M.pure (.ex 0 []))

def f_slices_IndexFunc_int_int (G : Sem') (t0 t1 : V) : M Res :=
  (M.lift (vlen t0)).bind fun t7 =>
  M.blk 0 (
    M.iter (f_slices_IndexFunc_int_int_0 G t7 t1 t0) [(V.int .i64 0)]) fun _ =>
  M.pure (.ret [(V.int .i64 (-1))])

theorem eq_slices_IndexFunc_int_int (G : Sem') (t0 t1 : V) : execK G ir_slices_IndexFunc_int_int.rv ir_slices_IndexFunc_int_int.body [] [] (params 0 [t0, t1]) = f_slices_IndexFunc_int_int G t0 t1 := by kernel_rfl

def d_slices_IndexFunc_int_int (G : Sem') : List V → M V
  | [t0, t1] => fin (f_slices_IndexFunc_int_int G t0 t1)
  | _ => M.fail

theorem s_slices_IndexFunc_int_int {g : Sem'} (hg : Sims g (sem T)) (args : List V) : Sim (d_slices_IndexFunc_int_int g args) (sem T fn_slices_IndexFunc_int_int args) := by
  unfold d_slices_IndexFunc_int_int
  split
  · exact sim_fn tb_slices_IndexFunc_int_int (Nat.le_of_ble_eq_true rfl) hg (eq_slices_IndexFunc_int_int g _ _)
  · exact sim_fail

def disp (G : Sem') (f : FuncId) (args : List V) : M V :=
  if f < 63 then (if f < 16 then (if f < 12 then (if f < 6 then (if f < 5 then (if f = fn_palanquinlaw20_PickSays then d_palanquinlaw20_PickSays G args else M.fail) else (if f = fn_palanquinlaw20_PickBest then d_palanquinlaw20_PickBest G args else M.fail)) else (if f < 11 then (if f = fn_palanquinlaw20_PickSource then d_palanquinlaw20_PickSource G args else M.fail) else (if f = fn_palanquinlaw20_awake then d_palanquinlaw20_awake G args else M.fail))) else (if f < 14 then (if f < 13 then (if f = fn_pick_Fits then d_pick_Fits G args else M.fail) else (if f = fn_palanquinlaw20_three then d_palanquinlaw20_three G args else M.fail)) else (if f < 15 then (if f = fn_pick_Source then d_pick_Source G args else M.fail) else (if f = fn_pick_In then d_pick_In G args else M.fail)))) else (if f < 20 then (if f < 18 then (if f < 17 then (if f = fn_palanquinlaw20_heavy then d_palanquinlaw20_heavy G args else M.fail) else (if f = fn_palanquinref20_Fits then d_palanquinref20_Fits G args else M.fail)) else (if f < 19 then (if f = fn_palanquinhelp_Structure then d_palanquinhelp_Structure G args else M.fail) else (if f = fn_palanquinref20_In then d_palanquinref20_In G args else M.fail))) else (if f < 40 then (if f < 21 then (if f = fn_palanquinref20_Source then d_palanquinref20_Source G args else M.fail) else (if f = fn_depend_Layers then d_depend_Layers G args else M.fail)) else (if f < 41 then (if f = fn_depend_Fine then d_depend_Fine G args else M.fail) else (if f = fn_palanquinref9_Layers then d_palanquinref9_Layers G args else M.fail))))) else (if f < 96 then (if f < 67 then (if f < 65 then (if f < 64 then (if f = fn_depend_within then d_depend_within G args else M.fail) else (if f = fn_depend_layers then d_depend_layers G args else M.fail)) else (if f < 66 then (if f = fn_depend_spatial then d_depend_spatial G args else M.fail) else (if f = fn_slices_ContainsFunc_depend_Template_depend_Template then d_slices_ContainsFunc_depend_Template_depend_Template G args else M.fail))) else (if f < 69 then (if f < 68 then (if f = fn_depend_Fine_1 then d_depend_Fine_1 G args else M.fail) else (if f = fn_depend_Structure_fine then d_depend_Structure_fine G args else M.fail)) else (if f < 86 then (if f = fn_palanquinref9_Fine then d_palanquinref9_Fine G args else M.fail) else (if f = fn_depend_diffs then d_depend_diffs G args else M.fail)))) else (if f < 100 then (if f < 98 then (if f < 97 then (if f = fn_slices_ContainsFunc_int_int then d_slices_ContainsFunc_int_int G args else M.fail) else (if f = fn_depend_within_1 then d_depend_within_1 G args else M.fail)) else (if f < 99 then (if f = fn_depend_next then d_depend_next G args else M.fail) else (if f = fn_slices_IndexFunc_depend_Template_depend_Template then d_slices_IndexFunc_depend_Template_depend_Template G args else M.fail))) else (if f < 102 then (if f < 101 then (if f = fn_palanquinref9_step then d_palanquinref9_step G args else M.fail) else (if f = fn_palanquinref9_within then d_palanquinref9_within G args else M.fail)) else (if f < 118 then (if f = fn_palanquinref9_top then d_palanquinref9_top G args else M.fail) else (if f = fn_slices_IndexFunc_int_int then d_slices_IndexFunc_int_int G args else M.fail)))))

theorem sims_disp {g : Sem'} (hg : Sims g (sem T)) : Sims (disp g) (sem T) := fun f args =>
  (sim_if (fun _ => (sim_if (fun _ => (sim_if (fun _ => (sim_if (fun _ => (sim_if (fun _ => (sim_if (fun e => e ▸ s_palanquinlaw20_PickSays hg args) sim_fail)) (sim_if (fun e => e ▸ s_palanquinlaw20_PickBest hg args) sim_fail))) (sim_if (fun _ => (sim_if (fun e => e ▸ s_palanquinlaw20_PickSource hg args) sim_fail)) (sim_if (fun e => e ▸ s_palanquinlaw20_awake hg args) sim_fail)))) (sim_if (fun _ => (sim_if (fun _ => (sim_if (fun e => e ▸ s_pick_Fits hg args) sim_fail)) (sim_if (fun e => e ▸ s_palanquinlaw20_three hg args) sim_fail))) (sim_if (fun _ => (sim_if (fun e => e ▸ s_pick_Source hg args) sim_fail)) (sim_if (fun e => e ▸ s_pick_In hg args) sim_fail))))) (sim_if (fun _ => (sim_if (fun _ => (sim_if (fun _ => (sim_if (fun e => e ▸ s_palanquinlaw20_heavy hg args) sim_fail)) (sim_if (fun e => e ▸ s_palanquinref20_Fits hg args) sim_fail))) (sim_if (fun _ => (sim_if (fun e => e ▸ s_palanquinhelp_Structure hg args) sim_fail)) (sim_if (fun e => e ▸ s_palanquinref20_In hg args) sim_fail)))) (sim_if (fun _ => (sim_if (fun _ => (sim_if (fun e => e ▸ s_palanquinref20_Source hg args) sim_fail)) (sim_if (fun e => e ▸ s_depend_Layers hg args) sim_fail))) (sim_if (fun _ => (sim_if (fun e => e ▸ s_depend_Fine hg args) sim_fail)) (sim_if (fun e => e ▸ s_palanquinref9_Layers hg args) sim_fail)))))) (sim_if (fun _ => (sim_if (fun _ => (sim_if (fun _ => (sim_if (fun _ => (sim_if (fun e => e ▸ s_depend_within hg args) sim_fail)) (sim_if (fun e => e ▸ s_depend_layers hg args) sim_fail))) (sim_if (fun _ => (sim_if (fun e => e ▸ s_depend_spatial hg args) sim_fail)) (sim_if (fun e => e ▸ s_slices_ContainsFunc_depend_Template_depend_Template hg args) sim_fail)))) (sim_if (fun _ => (sim_if (fun _ => (sim_if (fun e => e ▸ s_depend_Fine_1 hg args) sim_fail)) (sim_if (fun e => e ▸ s_depend_Structure_fine hg args) sim_fail))) (sim_if (fun _ => (sim_if (fun e => e ▸ s_palanquinref9_Fine hg args) sim_fail)) (sim_if (fun e => e ▸ s_depend_diffs hg args) sim_fail))))) (sim_if (fun _ => (sim_if (fun _ => (sim_if (fun _ => (sim_if (fun e => e ▸ s_slices_ContainsFunc_int_int hg args) sim_fail)) (sim_if (fun e => e ▸ s_depend_within_1 hg args) sim_fail))) (sim_if (fun _ => (sim_if (fun e => e ▸ s_depend_next hg args) sim_fail)) (sim_if (fun e => e ▸ s_slices_IndexFunc_depend_Template_depend_Template hg args) sim_fail)))) (sim_if (fun _ => (sim_if (fun _ => (sim_if (fun e => e ▸ s_palanquinref9_step hg args) sim_fail)) (sim_if (fun e => e ▸ s_palanquinref9_within hg args) sim_fail))) (sim_if (fun _ => (sim_if (fun e => e ▸ s_palanquinref9_top hg args) sim_fail)) (sim_if (fun e => e ▸ s_slices_IndexFunc_int_int hg args) sim_fail))))))

def cs : Nat → Sem'
  | 0 => fun _ _ => M.fail
  | n + 1 => disp (cs n)

theorem sims_cs : ∀ n, Sims (cs n) (sem T)
  | 0 => fun _ _ => sim_fail
  | n + 1 => sims_disp (sims_cs n)

end Go.Ax.Cc
