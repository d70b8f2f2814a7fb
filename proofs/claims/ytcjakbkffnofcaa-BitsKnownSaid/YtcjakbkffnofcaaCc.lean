/-
  The functions of closed calls, over a heap to compute with: printed by program (wip/gen/Emit.lean).
-/
import Derived.Test.YtcjakbkffnofcaaAx21
import Derived.Test.YtcjakbkffnofcaaFn1
import Derived.Test.YtcjakbkffnofcaaFn2
set_option maxRecDepth 100000
set_option linter.unusedVariables false
namespace Go.Ax.Cc
open Go.Proofs

/-- palanquin/palanquinlaw6.BitsKnown. -/
def f_palanquinlaw6_BitsKnown (G : Sem') : M Res :=
  (G fn_bits_New []).bind fun t24 =>
  (G fn_palanquinlaw6_awake []).bind fun t25 =>
  (M.lift (Ax.un .not t25)).bind fun t26 =>
  (guarded [(0, t26)] (some (0, false)) (M.pure t24)).bind fun t28 =>
  (guarded [(0, t26)] (some (0, false)) (M.lift (eqr .ptr false t28 V.nilp))).bind fun t29 =>
  (M.lift (Ax.pick t26 (V.bool true) t29)).bind fun t30 =>
  M.ite t30
    (M.pure (.ret [(V.bool false)]))
    ((G fn_bits_Writer_Add [t24, (V.int .u64 0), (V.int .i64 (-1))]).bind fun t32 =>
    (G fn_bits_Writer_Add [t24, (V.int .u64 0), (V.int .i64 65)]).bind fun t34 =>
    (G fn_bits_Writer_Add [t24, (V.int .u64 8), (V.int .i64 3)]).bind fun t36 =>
    (G fn_bits_Writer_Add [t24, (V.int .u64 18446744073709551615), (V.int .i64 64)]).bind fun t38 =>
    (G fn_bits_Writer_AddNS [t24, (V.int .u64 0), (V.int .u64 0)]).bind fun t40 =>
    (G fn_bits_Writer_AddNS [t24, (V.int .u64 5), (V.int .u64 5)]).bind fun t42 =>
    (G fn_bits_Writer_AddNS [t24, (V.int .u64 0), (V.int .u64 4294967297)]).bind fun t44 =>
    (G fn_bits_Writer_AddNS [t24, (V.int .u64 0), (V.int .u64 1)]).bind fun t46 =>
    (G fn_bits_Writer_Len [t24]).bind fun t48 =>
    (G fn_bits_Writer_AddNS [t24, (V.int .u64 4), (V.int .u64 5)]).bind fun t50 =>
    (G fn_bits_Writer_AddNS [t24, (V.int .u64 0), (V.int .u64 5)]).bind fun t52 =>
    (mslit ty_uint8 1 [(V.int .u8 0)] [(0, 1, (V.int .u8 224))]).bind fun t53 =>
    (G fn_bits_Over [t53]).bind fun t54 =>
    (M.lift (eqr .ptr false t54 V.nilp)).bind fun t56 =>
    M.ite t56
      (M.pure (.ret [(V.bool false)]))
      ((G fn_bits_Reader_TakeNS [t54, (V.int .u64 5)]).bind fun t59 =>
      (M.lift (Ax.ext 0 t59)).bind fun t60 =>
      (M.lift (Ax.ext 1 t59)).bind fun t61 =>
      (G fn_bits_Reader_Take [t54, (V.int .i64 6)]).bind fun t64 =>
      (M.lift (Ax.ext 0 t64)).bind fun t65 =>
      (M.lift (Ax.ext 1 t64)).bind fun t66 =>
      (G fn_bits_Reader_Take [t54, (V.int .i64 65)]).bind fun t69 =>
      (M.lift (Ax.ext 0 t69)).bind fun t70 =>
      (M.lift (Ax.ext 1 t69)).bind fun t71 =>
      (G fn_bits_Reader_TakeNS [t54, (V.int .u64 0)]).bind fun t74 =>
      (M.lift (Ax.ext 0 t74)).bind fun t75 =>
      (M.lift (Ax.ext 1 t74)).bind fun t76 =>
      (G fn_bits_Reader_Take [t54, (V.int .i64 0)]).bind fun t79 =>
      (M.lift (Ax.ext 0 t79)).bind fun t80 =>
      (M.lift (Ax.ext 1 t79)).bind fun t81 =>
      (M.lift (Ax.bin .eql t32 (V.int .i64 1))).bind fun t83 =>
      (guarded [(0, t83)] (some (0, true)) (M.pure t34)).bind fun t85 =>
      (guarded [(0, t83)] (some (0, true)) (M.lift (Ax.bin .eql t85 (V.int .i64 1)))).bind fun t86 =>
      (M.lift (Ax.pick t83 t86 (V.bool false))).bind fun t87 =>
      (guarded [(0, t87)] (some (0, true)) (M.pure t36)).bind fun t89 =>
      (guarded [(0, t87)] (some (0, true)) (M.lift (Ax.bin .eql t89 (V.int .i64 1)))).bind fun t90 =>
      (M.lift (Ax.pick t87 t90 (V.bool false))).bind fun t91 =>
      (guarded [(0, t91)] (some (0, true)) (M.pure t38)).bind fun t93 =>
      (guarded [(0, t91)] (some (0, true)) (M.lift (Ax.bin .eql t93 (V.int .i64 0)))).bind fun t94 =>
      (M.lift (Ax.pick t91 t94 (V.bool false))).bind fun t95 =>
      (guarded [(0, t95)] (some (0, true)) (M.pure t40)).bind fun t97 =>
      (guarded [(0, t95)] (some (0, true)) (M.lift (Ax.bin .eql t97 (V.int .i64 1)))).bind fun t98 =>
      (M.lift (Ax.pick t95 t98 (V.bool false))).bind fun t99 =>
      (guarded [(0, t99)] (some (0, true)) (M.pure t42)).bind fun t101 =>
      (guarded [(0, t99)] (some (0, true)) (M.lift (Ax.bin .eql t101 (V.int .i64 1)))).bind fun t102 =>
      (M.lift (Ax.pick t99 t102 (V.bool false))).bind fun t103 =>
      (guarded [(0, t103)] (some (0, true)) (M.pure t44)).bind fun t105 =>
      (guarded [(0, t103)] (some (0, true)) (M.lift (Ax.bin .eql t105 (V.int .i64 1)))).bind fun t106 =>
      (M.lift (Ax.pick t103 t106 (V.bool false))).bind fun t107 =>
      (guarded [(0, t107)] (some (0, true)) (M.pure t46)).bind fun t109 =>
      (guarded [(0, t107)] (some (0, true)) (M.lift (Ax.bin .eql t109 (V.int .i64 0)))).bind fun t110 =>
      (M.lift (Ax.pick t107 t110 (V.bool false))).bind fun t111 =>
      (guarded [(0, t111)] (some (0, true)) (M.pure t48)).bind fun t113 =>
      (guarded [(0, t111)] (some (0, true)) (M.lift (Ax.bin .eql t113 (V.int .i64 64)))).bind fun t114 =>
      (M.lift (Ax.pick t111 t114 (V.bool false))).bind fun t115 =>
      (guarded [(0, t115)] (some (0, true)) (M.pure t50)).bind fun t117 =>
      (guarded [(0, t115)] (some (0, true)) (M.lift (Ax.bin .eql t117 (V.int .i64 0)))).bind fun t118 =>
      (M.lift (Ax.pick t115 t118 (V.bool false))).bind fun t119 =>
      (guarded [(0, t119)] (some (0, true)) (M.pure t52)).bind fun t121 =>
      (guarded [(0, t119)] (some (0, true)) (M.lift (Ax.bin .eql t121 (V.int .i64 0)))).bind fun t122 =>
      (M.lift (Ax.pick t119 t122 (V.bool false))).bind fun t123 =>
      (guarded [(0, t123)] (some (0, true)) (M.pure t24)).bind fun t125 =>
      (guarded [(0, t123)] (some (0, true)) (G fn_bits_Writer_Len [t125])).bind fun t126 =>
      (guarded [(0, t123)] (some (0, true)) (M.lift (Ax.bin .eql t126 (V.int .i64 69)))).bind fun t127 =>
      (M.lift (Ax.pick t123 t127 (V.bool false))).bind fun t128 =>
      (guarded [(0, t128)] (some (0, true)) (M.pure t60)).bind fun t130 =>
      (guarded [(0, t128)] (some (0, true)) (M.lift (Ax.bin .eql t130 (V.int .u64 4)))).bind fun t131 =>
      (M.lift (Ax.pick t128 t131 (V.bool false))).bind fun t132 =>
      (guarded [(0, t132)] (some (0, true)) (M.pure t61)).bind fun t134 =>
      (guarded [(0, t132)] (some (0, true)) (M.lift (Ax.bin .eql t134 (V.int .i64 0)))).bind fun t135 =>
      (M.lift (Ax.pick t132 t135 (V.bool false))).bind fun t136 =>
      (guarded [(0, t136)] (some (0, true)) (M.pure t66)).bind fun t138 =>
      (guarded [(0, t136)] (some (0, true)) (M.lift (Ax.bin .eql t138 (V.int .i64 3)))).bind fun t139 =>
      (M.lift (Ax.pick t136 t139 (V.bool false))).bind fun t140 =>
      (guarded [(0, t140)] (some (0, true)) (M.pure t71)).bind fun t142 =>
      (guarded [(0, t140)] (some (0, true)) (M.lift (Ax.bin .eql t142 (V.int .i64 1)))).bind fun t143 =>
      (M.lift (Ax.pick t140 t143 (V.bool false))).bind fun t144 =>
      (guarded [(0, t144)] (some (0, true)) (M.pure t76)).bind fun t146 =>
      (guarded [(0, t144)] (some (0, true)) (M.lift (Ax.bin .eql t146 (V.int .i64 1)))).bind fun t147 =>
      (M.lift (Ax.pick t144 t147 (V.bool false))).bind fun t148 =>
      (guarded [(0, t148)] (some (0, true)) (M.pure t80)).bind fun t150 =>
      (guarded [(0, t148)] (some (0, true)) (M.lift (Ax.bin .eql t150 (V.int .u64 0)))).bind fun t151 =>
      (M.lift (Ax.pick t148 t151 (V.bool false))).bind fun t152 =>
      (guarded [(0, t152)] (some (0, true)) (M.pure t81)).bind fun t154 =>
      (guarded [(0, t152)] (some (0, true)) (M.lift (Ax.bin .eql t154 (V.int .i64 0)))).bind fun t155 =>
      (M.lift (Ax.pick t152 t155 (V.bool false))).bind fun t156 =>
      (guarded [(0, t156)] (some (0, true)) (M.pure t54)).bind fun t158 =>
      (guarded [(0, t156)] (some (0, true)) (G fn_bits_Reader_Left [t158])).bind fun t159 =>
      (guarded [(0, t156)] (some (0, true)) (M.lift (Ax.bin .eql t159 (V.int .i64 5)))).bind fun t160 =>
      (M.lift (Ax.pick t156 t160 (V.bool false))).bind fun t161 =>
      M.pure (.ret [t161])))

theorem eq_palanquinlaw6_BitsKnown (G : Sem') : execK G ir_palanquinlaw6_BitsKnown.rv ir_palanquinlaw6_BitsKnown.body [] [] (params 0 []) = f_palanquinlaw6_BitsKnown G := by kernel_rfl

def d_palanquinlaw6_BitsKnown (G : Sem') : List V → M V
  | [] => fin (f_palanquinlaw6_BitsKnown G)
  | _ => M.fail

theorem s_palanquinlaw6_BitsKnown {g : Sem'} (hg : Sims g (sem T)) (args : List V) : Sim (d_palanquinlaw6_BitsKnown g args) (sem T fn_palanquinlaw6_BitsKnown args) := by
  unfold d_palanquinlaw6_BitsKnown
  split
  · exact sim_fn tb_palanquinlaw6_BitsKnown (Nat.le_of_ble_eq_true rfl) hg (eq_palanquinlaw6_BitsKnown g)
  · exact sim_fail

/-- palanquin/bits.New. -/
def f_bits_New (G : Sem') : M Res :=
  (M.lift (Ax.build [V.nils, (V.int .i64 0)] [])).bind fun t1 =>
  (mbox ty_bits_Writer t1).bind fun t2 =>
  M.pure (.ret [t2])

theorem eq_bits_New (G : Sem') : execK G ir_bits_New.rv ir_bits_New.body [] [] (params 0 []) = f_bits_New G := by kernel_rfl

def d_bits_New (G : Sem') : List V → M V
  | [] => fin (f_bits_New G)
  | _ => M.fail

theorem s_bits_New {g : Sem'} (hg : Sims g (sem T)) (args : List V) : Sim (d_bits_New g args) (sem T fn_bits_New args) := by
  unfold d_bits_New
  split
  · exact sim_fn tb_bits_New (Nat.le_of_ble_eq_true rfl) hg (eq_bits_New g)
  · exact sim_fail

/-- palanquin/palanquinlaw6.awake. -/
def f_palanquinlaw6_awake (G : Sem') : M Res :=
  (G fn_bits_New []).bind fun t5 =>
  (M.lift (eqr .ptr false t5 V.nilp)).bind fun t7 =>
  M.ite t7
    (M.pure (.ret [(V.bool false)]))
    ((G fn_bits_Writer_Add [t5, (V.int .u64 5), (V.int .i64 3)]).bind fun t9 =>
    (G fn_bits_Writer_Add [t5, (V.int .u64 1), (V.int .i64 2)]).bind fun t11 =>
    (G fn_bits_Writer_Bytes [t5]).bind fun t13 =>
    (M.lift (Ax.bin .eql t9 (V.int .i64 0))).bind fun t15 =>
    (guarded [(0, t15)] (some (0, true)) (M.pure t11)).bind fun t17 =>
    (guarded [(0, t15)] (some (0, true)) (M.lift (Ax.bin .eql t17 (V.int .i64 0)))).bind fun t18 =>
    (M.lift (Ax.pick t15 t18 (V.bool false))).bind fun t19 =>
    (guarded [(0, t19)] (some (0, true)) (M.pure t5)).bind fun t21 =>
    (guarded [(0, t19)] (some (0, true)) (G fn_bits_Writer_Len [t21])).bind fun t22 =>
    (guarded [(0, t19)] (some (0, true)) (M.lift (Ax.bin .eql t22 (V.int .i64 5)))).bind fun t23 =>
    (M.lift (Ax.pick t19 t23 (V.bool false))).bind fun t24 =>
    (guarded [(0, t24)] (some (0, true)) (M.pure t13)).bind fun t26 =>
    (guarded [(0, t24)] (some (0, true)) (M.lift (vlen t26))).bind fun t27 =>
    (guarded [(0, t24)] (some (0, true)) (M.lift (Ax.bin .eql t27 (V.int .i64 1)))).bind fun t28 =>
    (M.lift (Ax.pick t24 t28 (V.bool false))).bind fun t29 =>
    (guarded [(0, t29)] (some (0, true)) (M.pure t13)).bind fun t31 =>
    (guarded [(0, t29)] (some (0, true)) (M.lift (Ax.iaddr none 1 t31 (V.int .i64 0)))).bind fun t32 =>
    (guarded [(0, t29)] (some (0, true)) (mload none t32)).bind fun t33 =>
    (guarded [(0, t29)] (some (0, true)) (M.lift (Ax.bin .eql t33 (V.int .u8 168)))).bind fun t34 =>
    (M.lift (Ax.pick t29 t34 (V.bool false))).bind fun t35 =>
    M.pure (.ret [t35]))

theorem eq_palanquinlaw6_awake (G : Sem') : execK G ir_palanquinlaw6_awake.rv ir_palanquinlaw6_awake.body [] [] (params 0 []) = f_palanquinlaw6_awake G := by kernel_rfl

def d_palanquinlaw6_awake (G : Sem') : List V → M V
  | [] => fin (f_palanquinlaw6_awake G)
  | _ => M.fail

theorem s_palanquinlaw6_awake {g : Sem'} (hg : Sims g (sem T)) (args : List V) : Sim (d_palanquinlaw6_awake g args) (sem T fn_palanquinlaw6_awake args) := by
  unfold d_palanquinlaw6_awake
  split
  · exact sim_fn tb_palanquinlaw6_awake (Nat.le_of_ble_eq_true rfl) hg (eq_palanquinlaw6_awake g)
  · exact sim_fail

/-- (*palanquin/bits.Writer).AddNS. -/
def f_bits_Writer_AddNS (G : Sem') (t0 t1 t2 : V) : M Res :=
  (M.lift (Ax.bin .lss t2 (V.int .u64 1))).bind fun t10 =>
  (guarded [(0, t10)] (some (0, false)) (M.pure t2)).bind fun t12 =>
  (guarded [(0, t10)] (some (0, false)) (M.lift (Ax.bin .gtr t12 (V.int .u64 4294967296)))).bind fun t13 =>
  (M.lift (Ax.pick t10 (V.bool true) t13)).bind fun t14 =>
  (guarded [(0, t14)] (some (0, false)) (M.pure t1)).bind fun t16 =>
  (guarded [(0, t14)] (some (0, false)) (M.pure t2)).bind fun t17 =>
  (guarded [(0, t14)] (some (0, false)) (M.lift (Ax.bin .geq t16 t17))).bind fun t18 =>
  (M.lift (Ax.pick t14 (V.bool true) t18)).bind fun t19 =>
  M.ite t19
    (M.pure (.ret [(V.int .i64 1)]))
    ((G fn_bits_short [t2]).bind fun t22 =>
    (M.lift (Ax.ext 0 t22)).bind fun t23 =>
    (M.lift (Ax.ext 1 t22)).bind fun t24 =>
    (M.lift (Ax.bin .lss t1 t24)).bind fun t27 =>
    M.ite t27
      ((M.lift (Ax.bin .sub t23 (V.int .i64 1))).bind fun t31 =>
      (G fn_bits_Writer_Add [t0, t1, t31]).bind fun t32 =>
      M.pure (.ret [t32]))
      ((M.lift (Ax.bin .add t1 t24)).bind fun t36 =>
      (G fn_bits_Writer_Add [t0, t36, t23]).bind fun t38 =>
      M.pure (.ret [t38])))

theorem eq_bits_Writer_AddNS (G : Sem') (t0 t1 t2 : V) : execK G ir_bits_Writer_AddNS.rv ir_bits_Writer_AddNS.body [] [] (params 0 [t0, t1, t2]) = f_bits_Writer_AddNS G t0 t1 t2 := by kernel_rfl

def d_bits_Writer_AddNS (G : Sem') : List V → M V
  | [t0, t1, t2] => fin (f_bits_Writer_AddNS G t0 t1 t2)
  | _ => M.fail

theorem s_bits_Writer_AddNS {g : Sem'} (hg : Sims g (sem T)) (args : List V) : Sim (d_bits_Writer_AddNS g args) (sem T fn_bits_Writer_AddNS args) := by
  unfold d_bits_Writer_AddNS
  split
  · exact sim_fn tb_bits_Writer_AddNS (Nat.le_of_ble_eq_true rfl) hg (eq_bits_Writer_AddNS g _ _ _)
  · exact sim_fail

/-- (*palanquin/bits.Writer).Add. -/
def f_bits_Writer_Add_0 (G : Sem') (t1 t0 t6 : V) (L : List V) : M Res :=
  (M.lift (Ax.bin .geq (L.getD 0 .undef) (V.int .i64 0))).bind fun t23 =>
  M.ite t23
    (M.blk 1 (
      (M.lift (Ax.nilck t0)).bind fun t27 =>
      (M.lift (Ax.faddr 1 t27)).bind fun t28 =>
      (mload none t28).bind fun t29 =>
      (M.lift (Ax.bin .rem t29 (V.int .i64 8))).bind fun t30 =>
      (M.lift (Ax.bin .eql t30 (V.int .i64 0))).bind fun t31 =>
      M.join (M.ite t31
        ((M.lift (Ax.nilck t0)).bind fun t34 =>
        (M.lift (Ax.faddr 0 t34)).bind fun t35 =>
        (mload none t35).bind fun t36 =>
        (mslit ty_uint8 1 [(V.int .u8 0)] [(0, 1, (V.int .u8 0))]).bind fun t37 =>
        (mappend ty_uint8 1 1 t36 t37).bind fun t38 =>
        (M.lift (Ax.nilck t0)).bind fun t39 =>
        (M.lift (Ax.faddr 0 t39)).bind fun t40 =>
        (mstore 1 t40 t38).bind fun _ =>
        M.pure (.nrm []))
        (M.pure (.nrm []))) fun _ =>
      (M.lift (Ax.bin .shr t1 (L.getD 0 .undef))).bind fun t43 =>
      (M.lift (Ax.bin .and t43 (V.int .u64 1))).bind fun t44 =>
      (M.lift (Ax.bin .eql t44 (V.int .u64 1))).bind fun t45 =>
      M.join (M.ite t45
        ((M.lift (Ax.nilck t0)).bind fun t47 =>
        (M.lift (Ax.faddr 0 t47)).bind fun t48 =>
        (mload none t48).bind fun t49 =>
        (M.lift (Ax.nilck t0)).bind fun t51 =>
        (M.lift (Ax.faddr 1 t51)).bind fun t52 =>
        (mload none t52).bind fun t53 =>
        (M.lift (Ax.bin .quo t53 (V.int .i64 8))).bind fun t54 =>
        (M.lift (Ax.iaddr none 1 t49 t54)).bind fun t55 =>
        (mload none t55).bind fun t56 =>
        (M.lift (Ax.nilck t0)).bind fun t58 =>
        (M.lift (Ax.faddr 1 t58)).bind fun t59 =>
        (mload none t59).bind fun t60 =>
        (M.lift (Ax.bin .rem t60 (V.int .i64 8))).bind fun t61 =>
        (M.lift (Ax.bin .shr (V.int .u8 128) t61)).bind fun t62 =>
        (M.lift (Ax.bin .or t56 t62)).bind fun t63 =>
        (M.lift (Ax.iaddr none 1 t49 t54)).bind fun t64 =>
        (mstore 1 t64 t63).bind fun _ =>
        M.pure (.nrm []))
        (M.pure (.nrm []))) fun _ =>
      (M.lift (Ax.nilck t0)).bind fun t66 =>
      (M.lift (Ax.faddr 1 t66)).bind fun t67 =>
      (mload none t67).bind fun t68 =>
      (M.lift (Ax.bin .add t68 (V.int .i64 1))).bind fun t69 =>
      (M.lift (Ax.nilck t0)).bind fun t70 =>
      (M.lift (Ax.faddr 1 t70)).bind fun t71 =>
      (mstore 1 t71 t69).bind fun _ =>
      M.pure (.nrm [])) fun _ =>
    (M.lift (Ax.bin .sub (L.getD 0 .undef) (V.int .i64 1))).bind fun t25 =>
    M.pure (.nrm [t25]))
    (M.pure (.ex 0 []))

def f_bits_Writer_Add (G : Sem') (t0 t1 t2 : V) : M Res :=
  (M.lift (Ax.bin .lss t2 (V.int .i64 0))).bind fun t9 =>
  (guarded [(0, t9)] (some (0, false)) (M.pure t2)).bind fun t11 =>
  (guarded [(0, t9)] (some (0, false)) (M.lift (Ax.bin .gtr t11 (V.int .i64 64)))).bind fun t12 =>
  (M.lift (Ax.pick t9 (V.bool true) t12)).bind fun t13 =>
  (guarded [(0, t13)] (some (0, false)) (M.pure t1)).bind fun t15 =>
  (guarded [(0, t13)] (some (0, false)) (G fn_math_bits_Len64 [t15])).bind fun t16 =>
  (guarded [(0, t13)] (some (0, false)) (M.pure t2)).bind fun t17 =>
  (guarded [(0, t13)] (some (0, false)) (M.lift (Ax.bin .gtr t16 t17))).bind fun t18 =>
  (M.lift (Ax.pick t13 (V.bool true) t18)).bind fun t19 =>
  M.ite t19
    (M.pure (.ret [(V.int .i64 1)]))
    ((M.lift (Ax.bin .sub t2 (V.int .i64 1))).bind fun t21 =>
    M.blk 0 (
      M.iter (f_bits_Writer_Add_0 G t1 t0 (V.int .i64 0)) [t21]) fun _ =>
    M.pure (.ret [(V.int .i64 0)]))

theorem eq_bits_Writer_Add (G : Sem') (t0 t1 t2 : V) : execK G ir_bits_Writer_Add.rv ir_bits_Writer_Add.body [] [] (params 0 [t0, t1, t2]) = f_bits_Writer_Add G t0 t1 t2 := by kernel_rfl

def d_bits_Writer_Add (G : Sem') : List V → M V
  | [t0, t1, t2] => fin (f_bits_Writer_Add G t0 t1 t2)
  | _ => M.fail

theorem s_bits_Writer_Add {g : Sem'} (hg : Sims g (sem T)) (args : List V) : Sim (d_bits_Writer_Add g args) (sem T fn_bits_Writer_Add args) := by
  unfold d_bits_Writer_Add
  split
  · exact sim_fn tb_bits_Writer_Add (Nat.le_of_ble_eq_true rfl) hg (eq_bits_Writer_Add g _ _ _)
  · exact sim_fail

/-- (*palanquin/bits.Writer).Len. -/
def f_bits_Writer_Len (G : Sem') (t0 : V) : M Res :=
  (M.lift (Ax.nilck t0)).bind fun t4 =>
  (M.lift (Ax.faddr 1 t4)).bind fun t5 =>
  (mload none t5).bind fun t6 =>
  M.pure (.ret [t6])

theorem eq_bits_Writer_Len (G : Sem') (t0 : V) : execK G ir_bits_Writer_Len.rv ir_bits_Writer_Len.body [] [] (params 0 [t0]) = f_bits_Writer_Len G t0 := by kernel_rfl

def d_bits_Writer_Len (G : Sem') : List V → M V
  | [t0] => fin (f_bits_Writer_Len G t0)
  | _ => M.fail

theorem s_bits_Writer_Len {g : Sem'} (hg : Sims g (sem T)) (args : List V) : Sim (d_bits_Writer_Len g args) (sem T fn_bits_Writer_Len args) := by
  unfold d_bits_Writer_Len
  split
  · exact sim_fn tb_bits_Writer_Len (Nat.le_of_ble_eq_true rfl) hg (eq_bits_Writer_Len g _)
  · exact sim_fail

/-- (*palanquin/bits.Writer).Bytes. -/
def f_bits_Writer_Bytes (G : Sem') (t0 : V) : M Res :=
  (M.lift (Ax.nilck t0)).bind fun t4 =>
  (M.lift (Ax.faddr 0 t4)).bind fun t5 =>
  (mload none t5).bind fun t6 =>
  (mappend ty_uint8 1 1 V.nils t6).bind fun t7 =>
  M.pure (.ret [t7])

theorem eq_bits_Writer_Bytes (G : Sem') (t0 : V) : execK G ir_bits_Writer_Bytes.rv ir_bits_Writer_Bytes.body [] [] (params 0 [t0]) = f_bits_Writer_Bytes G t0 := by kernel_rfl

def d_bits_Writer_Bytes (G : Sem') : List V → M V
  | [t0] => fin (f_bits_Writer_Bytes G t0)
  | _ => M.fail

theorem s_bits_Writer_Bytes {g : Sem'} (hg : Sims g (sem T)) (args : List V) : Sim (d_bits_Writer_Bytes g args) (sem T fn_bits_Writer_Bytes args) := by
  unfold d_bits_Writer_Bytes
  split
  · exact sim_fn tb_bits_Writer_Bytes (Nat.le_of_ble_eq_true rfl) hg (eq_bits_Writer_Bytes g _)
  · exact sim_fail

/-- palanquin/bits.Over. -/
def f_bits_Over (G : Sem') (t0 : V) : M Res :=
  (mappend ty_uint8 1 1 V.nils t0).bind fun t4 =>
  (M.lift (Ax.build [V.nils, (V.int .i64 0)] [(0, 1, t4)])).bind fun t5 =>
  (mbox ty_bits_Reader t5).bind fun t6 =>
  M.pure (.ret [t6])

theorem eq_bits_Over (G : Sem') (t0 : V) : execK G ir_bits_Over.rv ir_bits_Over.body [] [] (params 0 [t0]) = f_bits_Over G t0 := by kernel_rfl

def d_bits_Over (G : Sem') : List V → M V
  | [t0] => fin (f_bits_Over G t0)
  | _ => M.fail

theorem s_bits_Over {g : Sem'} (hg : Sims g (sem T)) (args : List V) : Sim (d_bits_Over g args) (sem T fn_bits_Over args) := by
  unfold d_bits_Over
  split
  · exact sim_fn tb_bits_Over (Nat.le_of_ble_eq_true rfl) hg (eq_bits_Over g _)
  · exact sim_fail

/-- (*palanquin/bits.Reader).TakeNS. -/
def f_bits_Reader_TakeNS (G : Sem') (t0 t1 : V) : M Res :=
  (M.lift (Ax.bin .lss t1 (V.int .u64 1))).bind fun t13 =>
  (guarded [(0, t13)] (some (0, false)) (M.pure t1)).bind fun t15 =>
  (guarded [(0, t13)] (some (0, false)) (M.lift (Ax.bin .gtr t15 (V.int .u64 4294967296)))).bind fun t16 =>
  (M.lift (Ax.pick t13 (V.bool true) t16)).bind fun t17 =>
  M.ite t17
    (M.pure (.ret [(V.int .u64 0), (V.int .i64 1)]))
    ((M.lift (Ax.nilck t0)).bind fun t19 =>
    (M.lift (Ax.faddr 1 t19)).bind fun t20 =>
    (mload none t20).bind fun t21 =>
    (G fn_bits_short [t1]).bind fun t24 =>
    (M.lift (Ax.ext 0 t24)).bind fun t25 =>
    (M.lift (Ax.ext 1 t24)).bind fun t26 =>
    (M.lift (Ax.bin .sub t25 (V.int .i64 1))).bind fun t30 =>
    (G fn_bits_Reader_Take [t0, t30]).bind fun t31 =>
    (M.lift (Ax.ext 0 t31)).bind fun t32 =>
    (M.lift (Ax.ext 1 t31)).bind fun t33 =>
    (M.lift (Ax.bin .neq t33 (V.int .i64 0))).bind fun t35 =>
    (guarded [(0, t35)] (some (0, false)) (M.pure t32)).bind fun t37 =>
    (guarded [(0, t35)] (some (0, false)) (M.pure t26)).bind fun t38 =>
    (guarded [(0, t35)] (some (0, false)) (M.lift (Ax.bin .lss t37 t38))).bind fun t39 =>
    (M.lift (Ax.pick t35 (V.bool true) t39)).bind fun t40 =>
    M.ite t40
      (M.pure (.ret [t32, t33]))
      ((G fn_bits_Reader_Take [t0, (V.int .i64 1)]).bind fun t45 =>
      (M.lift (Ax.ext 0 t45)).bind fun t46 =>
      (M.lift (Ax.ext 1 t45)).bind fun t47 =>
      (M.lift (Ax.bin .neq t47 (V.int .i64 0))).bind fun t49 =>
      M.ite t49
        ((M.lift (Ax.nilck t0)).bind fun t52 =>
        (M.lift (Ax.faddr 1 t52)).bind fun t53 =>
        (mstore 1 t53 t21).bind fun _ =>
        M.pure (.ret [(V.int .u64 0), t47]))
        ((M.lift (Ax.bin .shl t32 (V.int .u64 1))).bind fun t56 =>
        (M.lift (Ax.bin .add t56 t46)).bind fun t58 =>
        (M.lift (Ax.bin .sub t58 t26)).bind fun t60 =>
        M.pure (.ret [t60, (V.int .i64 0)]))))

theorem eq_bits_Reader_TakeNS (G : Sem') (t0 t1 : V) : execK G ir_bits_Reader_TakeNS.rv ir_bits_Reader_TakeNS.body [] [] (params 0 [t0, t1]) = f_bits_Reader_TakeNS G t0 t1 := by kernel_rfl

def d_bits_Reader_TakeNS (G : Sem') : List V → M V
  | [t0, t1] => fin (f_bits_Reader_TakeNS G t0 t1)
  | _ => M.fail

theorem s_bits_Reader_TakeNS {g : Sem'} (hg : Sims g (sem T)) (args : List V) : Sim (d_bits_Reader_TakeNS g args) (sem T fn_bits_Reader_TakeNS args) := by
  unfold d_bits_Reader_TakeNS
  split
  · exact sim_fn tb_bits_Reader_TakeNS (Nat.le_of_ble_eq_true rfl) hg (eq_bits_Reader_TakeNS g _ _)
  · exact sim_fail

/-- (*palanquin/bits.Reader).Take. -/
def f_bits_Reader_Take_0 (G : Sem') (t19 t0 : V) (L : List V) : M Res :=
  (M.lift (Ax.bin .lss (L.getD 1 .undef) t19)).bind fun t21 =>
  M.ite t21
    (M.blk 2 (
      (M.lift (Ax.bin .shl (L.getD 0 .undef) (V.int .u64 1))).bind fun t23 =>
      (M.lift (Ax.nilck t0)).bind fun t25 =>
      (M.lift (Ax.faddr 0 t25)).bind fun t26 =>
      (mload none t26).bind fun t27 =>
      (M.lift (Ax.nilck t0)).bind fun t29 =>
      (M.lift (Ax.faddr 1 t29)).bind fun t30 =>
      (mload none t30).bind fun t31 =>
      (M.lift (Ax.bin .quo t31 (V.int .i64 8))).bind fun t32 =>
      (M.lift (Ax.iaddr none 1 t27 t32)).bind fun t33 =>
      (mload none t33).bind fun t34 =>
      (M.lift (Ax.nilck t0)).bind fun t36 =>
      (M.lift (Ax.faddr 1 t36)).bind fun t37 =>
      (mload none t37).bind fun t38 =>
      (M.lift (Ax.bin .rem t38 (V.int .i64 8))).bind fun t39 =>
      (M.lift (Ax.bin .sub (V.int .i64 7) t39)).bind fun t40 =>
      (M.lift (Ax.bin .shr t34 t40)).bind fun t41 =>
      (M.lift (Ax.bin .and t41 (V.int .u8 1))).bind fun t42 =>
      (M.lift (Ax.cint .u64 t42)).bind fun t43 =>
      (M.lift (Ax.bin .or t23 t43)).bind fun t44 =>
      (M.lift (Ax.nilck t0)).bind fun t46 =>
      (M.lift (Ax.faddr 1 t46)).bind fun t47 =>
      (mload none t47).bind fun t48 =>
      (M.lift (Ax.bin .add t48 (V.int .i64 1))).bind fun t49 =>
      (M.lift (Ax.nilck t0)).bind fun t50 =>
      (M.lift (Ax.faddr 1 t50)).bind fun t51 =>
      (mstore 1 t51 t49).bind fun _ =>
      M.pure (.nrm [t44])) fun L1 =>
    (M.lift (Ax.bin .add (L.getD 1 .undef) (V.int .i64 1))).bind fun t52 =>
    M.pure (.nrm [(L1.getD 0 .undef), t52]))
    (M.pure (.ex 1 [(L.getD 0 .undef)]))

def f_bits_Reader_Take (G : Sem') (t0 t1 : V) : M Res :=
  M.blk 0 (
    (M.lift (Ax.bin .lss t1 (V.int .i64 0))).bind fun t9 =>
    (guarded [(0, t9)] (some (0, false)) (M.pure t1)).bind fun t11 =>
    (guarded [(0, t9)] (some (0, false)) (M.lift (Ax.bin .gtr t11 (V.int .i64 64)))).bind fun t12 =>
    (M.lift (Ax.pick t9 (V.bool true) t12)).bind fun t13 =>
    M.ite t13
      (M.pure (.ret [(V.int .u64 0), (V.int .i64 1)]))
      ((G fn_bits_Reader_Left [t0]).bind fun t17 =>
      (M.lift (Ax.bin .gtr t1 t17)).bind fun t18 =>
      M.ite t18
        (M.pure (.ret [(V.int .u64 0), (V.int .i64 3)]))
        (M.pure (.nrm [])))) fun _ =>
  M.blk 1 (
    M.iter (f_bits_Reader_Take_0 G t1 t0) [(V.int .u64 0), (V.int .i64 0)]) fun L2 =>
  M.pure (.ret [(L2.getD 0 .undef), (V.int .i64 0)])

theorem eq_bits_Reader_Take (G : Sem') (t0 t1 : V) : execK G ir_bits_Reader_Take.rv ir_bits_Reader_Take.body [] [] (params 0 [t0, t1]) = f_bits_Reader_Take G t0 t1 := by kernel_rfl

def d_bits_Reader_Take (G : Sem') : List V → M V
  | [t0, t1] => fin (f_bits_Reader_Take G t0 t1)
  | _ => M.fail

theorem s_bits_Reader_Take {g : Sem'} (hg : Sims g (sem T)) (args : List V) : Sim (d_bits_Reader_Take g args) (sem T fn_bits_Reader_Take args) := by
  unfold d_bits_Reader_Take
  split
  · exact sim_fn tb_bits_Reader_Take (Nat.le_of_ble_eq_true rfl) hg (eq_bits_Reader_Take g _ _)
  · exact sim_fail

/-- (*palanquin/bits.Reader).Left. -/
def f_bits_Reader_Left (G : Sem') (t0 : V) : M Res :=
  (M.lift (Ax.nilck t0)).bind fun t4 =>
  (M.lift (Ax.faddr 0 t4)).bind fun t5 =>
  (mload none t5).bind fun t6 =>
  (M.lift (vlen t6)).bind fun t7 =>
  (M.lift (Ax.bin .mul (V.int .i64 8) t7)).bind fun t8 =>
  (M.lift (Ax.nilck t0)).bind fun t10 =>
  (M.lift (Ax.faddr 1 t10)).bind fun t11 =>
  (mload none t11).bind fun t12 =>
  (M.lift (Ax.bin .sub t8 t12)).bind fun t13 =>
  M.pure (.ret [t13])

theorem eq_bits_Reader_Left (G : Sem') (t0 : V) : execK G ir_bits_Reader_Left.rv ir_bits_Reader_Left.body [] [] (params 0 [t0]) = f_bits_Reader_Left G t0 := by kernel_rfl

def d_bits_Reader_Left (G : Sem') : List V → M V
  | [t0] => fin (f_bits_Reader_Left G t0)
  | _ => M.fail

theorem s_bits_Reader_Left {g : Sem'} (hg : Sims g (sem T)) (args : List V) : Sim (d_bits_Reader_Left g args) (sem T fn_bits_Reader_Left args) := by
  unfold d_bits_Reader_Left
  split
  · exact sim_fn tb_bits_Reader_Left (Nat.le_of_ble_eq_true rfl) hg (eq_bits_Reader_Left g _)
  · exact sim_fail

/-- palanquin/bits.short. -/
def f_bits_short (G : Sem') (t0 : V) : M Res :=
  (G fn_math_bits_Len64 [t0]).bind fun t6 =>
  (M.lift (Ax.bin .shl (V.int .u64 1) t6)).bind fun t9 =>
  (M.lift (Ax.bin .sub t9 t0)).bind fun t11 =>
  M.pure (.ret [t6, t11])

theorem eq_bits_short (G : Sem') (t0 : V) : execK G ir_bits_short.rv ir_bits_short.body [] [] (params 0 [t0]) = f_bits_short G t0 := by kernel_rfl

def d_bits_short (G : Sem') : List V → M V
  | [t0] => fin (f_bits_short G t0)
  | _ => M.fail

theorem s_bits_short {g : Sem'} (hg : Sims g (sem T)) (args : List V) : Sim (d_bits_short g args) (sem T fn_bits_short args) := by
  unfold d_bits_short
  split
  · exact sim_fn tb_bits_short (Nat.le_of_ble_eq_true rfl) hg (eq_bits_short g _)
  · exact sim_fail

/-- math/bits.Len64. -/
def f_math_bits_Len64 (G : Sem') (t0 : V) : M Res :=
  (M.lift (Ax.bin .geq t0 (V.int .u64 4294967296))).bind fun t4 =>
  M.join (M.ite t4
    ((M.lift (Ax.bin .shr t0 (V.int .u64 32))).bind fun t6 =>
    M.pure (.nrm [t6, (V.int .i64 32)]))
    (M.pure (.nrm [t0, (V.int .i64 0)]))) fun L0 =>
  (M.lift (Ax.bin .geq (L0.getD 0 .undef) (V.int .u64 65536))).bind fun t8 =>
  M.join (M.ite t8
    ((M.lift (Ax.bin .shr (L0.getD 0 .undef) (V.int .u64 16))).bind fun t10 =>
    (M.lift (Ax.bin .add (L0.getD 1 .undef) (V.int .i64 16))).bind fun t12 =>
    M.pure (.nrm [t10, t12]))
    (M.pure (.nrm [(L0.getD 0 .undef), (L0.getD 1 .undef)]))) fun L1 =>
  (M.lift (Ax.bin .geq (L1.getD 0 .undef) (V.int .u64 256))).bind fun t14 =>
  M.join (M.ite t14
    ((M.lift (Ax.bin .shr (L1.getD 0 .undef) (V.int .u64 8))).bind fun t16 =>
    (M.lift (Ax.bin .add (L1.getD 1 .undef) (V.int .i64 8))).bind fun t18 =>
    M.pure (.nrm [t16, t18]))
    (M.pure (.nrm [(L1.getD 0 .undef), (L1.getD 1 .undef)]))) fun L2 =>
  (M.lift (Ax.cint .u8 (L2.getD 0 .undef))).bind fun t21 =>
  (M.lift (Ax.sindex (V.str ⟨#[0, 1, 2, 2, 3, 3, 3, 3, 4, 4, 4, 4, 4, 4, 4, 4, 5, 5, 5, 5, 5, 5, 5, 5, 5, 5, 5, 5, 5, 5, 5, 5, 6, 6, 6, 6, 6, 6, 6, 6, 6, 6, 6, 6, 6, 6, 6, 6, 6, 6, 6, 6, 6, 6, 6, 6, 6, 6, 6, 6, 6, 6, 6, 6, 7, 7, 7, 7, 7, 7, 7, 7, 7, 7, 7, 7, 7, 7, 7, 7, 7, 7, 7, 7, 7, 7, 7, 7, 7, 7, 7, 7, 7, 7, 7, 7, 7, 7, 7, 7, 7, 7, 7, 7, 7, 7, 7, 7, 7, 7, 7, 7, 7, 7, 7, 7, 7, 7, 7, 7, 7, 7, 7, 7, 7, 7, 7, 7, 8, 8, 8, 8, 8, 8, 8, 8, 8, 8, 8, 8, 8, 8, 8, 8, 8, 8, 8, 8, 8, 8, 8, 8, 8, 8, 8, 8, 8, 8, 8, 8, 8, 8, 8, 8, 8, 8, 8, 8, 8, 8, 8, 8, 8, 8, 8, 8, 8, 8, 8, 8, 8, 8, 8, 8, 8, 8, 8, 8, 8, 8, 8, 8, 8, 8, 8, 8, 8, 8, 8, 8, 8, 8, 8, 8, 8, 8, 8, 8, 8, 8, 8, 8, 8, 8, 8, 8, 8, 8, 8, 8, 8, 8, 8, 8, 8, 8, 8, 8, 8, 8, 8, 8, 8, 8, 8, 8, 8, 8, 8, 8, 8, 8, 8, 8, 8, 8, 8, 8, 8, 8, 8, 8, 8, 8, 8, 8]⟩) t21)).bind fun t22 =>
  (M.lift (Ax.cint .i64 t22)).bind fun t23 =>
  (M.lift (Ax.bin .add (L2.getD 1 .undef) t23)).bind fun t24 =>
  M.pure (.ret [t24])

theorem eq_math_bits_Len64 (G : Sem') (t0 : V) : execK G ir_math_bits_Len64.rv ir_math_bits_Len64.body [] [] (params 0 [t0]) = f_math_bits_Len64 G t0 := by kernel_rfl

def d_math_bits_Len64 (G : Sem') : List V → M V
  | [t0] => fin (f_math_bits_Len64 G t0)
  | _ => M.fail

theorem s_math_bits_Len64 {g : Sem'} (hg : Sims g (sem T)) (args : List V) : Sim (d_math_bits_Len64 g args) (sem T fn_math_bits_Len64 args) := by
  unfold d_math_bits_Len64
  split
  · exact sim_fn tb_math_bits_Len64 (Nat.le_of_ble_eq_true rfl) hg (eq_math_bits_Len64 g _)
  · exact sim_fail

def disp (G : Sem') (f : FuncId) (args : List V) : M V :=
  if f < 22 then (if f < 16 then (if f < 14 then (if f = fn_palanquinlaw6_BitsKnown then d_palanquinlaw6_BitsKnown G args else M.fail) else (if f < 15 then (if f = fn_bits_New then d_bits_New G args else M.fail) else (if f = fn_palanquinlaw6_awake then d_palanquinlaw6_awake G args else M.fail))) else (if f < 18 then (if f = fn_bits_Writer_AddNS then d_bits_Writer_AddNS G args else M.fail) else (if f < 20 then (if f = fn_bits_Writer_Add then d_bits_Writer_Add G args else M.fail) else (if f = fn_bits_Writer_Len then d_bits_Writer_Len G args else M.fail)))) else (if f < 27 then (if f < 24 then (if f = fn_bits_Writer_Bytes then d_bits_Writer_Bytes G args else M.fail) else (if f < 25 then (if f = fn_bits_Over then d_bits_Over G args else M.fail) else (if f = fn_bits_Reader_TakeNS then d_bits_Reader_TakeNS G args else M.fail))) else (if f < 52 then (if f < 29 then (if f = fn_bits_Reader_Take then d_bits_Reader_Take G args else M.fail) else (if f = fn_bits_Reader_Left then d_bits_Reader_Left G args else M.fail)) else (if f < 54 then (if f = fn_bits_short then d_bits_short G args else M.fail) else (if f = fn_math_bits_Len64 then d_math_bits_Len64 G args else M.fail))))

theorem sims_disp {g : Sem'} (hg : Sims g (sem T)) : Sims (disp g) (sem T) := fun f args =>
  (sim_if (fun _ => (sim_if (fun _ => (sim_if (fun _ => (sim_if (fun e => e ▸ s_palanquinlaw6_BitsKnown hg args) sim_fail)) (sim_if (fun _ => (sim_if (fun e => e ▸ s_bits_New hg args) sim_fail)) (sim_if (fun e => e ▸ s_palanquinlaw6_awake hg args) sim_fail)))) (sim_if (fun _ => (sim_if (fun e => e ▸ s_bits_Writer_AddNS hg args) sim_fail)) (sim_if (fun _ => (sim_if (fun e => e ▸ s_bits_Writer_Add hg args) sim_fail)) (sim_if (fun e => e ▸ s_bits_Writer_Len hg args) sim_fail))))) (sim_if (fun _ => (sim_if (fun _ => (sim_if (fun e => e ▸ s_bits_Writer_Bytes hg args) sim_fail)) (sim_if (fun _ => (sim_if (fun e => e ▸ s_bits_Over hg args) sim_fail)) (sim_if (fun e => e ▸ s_bits_Reader_TakeNS hg args) sim_fail)))) (sim_if (fun _ => (sim_if (fun _ => (sim_if (fun e => e ▸ s_bits_Reader_Take hg args) sim_fail)) (sim_if (fun e => e ▸ s_bits_Reader_Left hg args) sim_fail))) (sim_if (fun _ => (sim_if (fun e => e ▸ s_bits_short hg args) sim_fail)) (sim_if (fun e => e ▸ s_math_bits_Len64 hg args) sim_fail)))))

def cs : Nat → Sem'
  | 0 => fun _ _ => M.fail
  | n + 1 => disp (cs n)

theorem sims_cs : ∀ n, Sims (cs n) (sem T)
  | 0 => fun _ _ => sim_fail
  | n + 1 => sims_disp (sims_cs n)

end Go.Ax.Cc
