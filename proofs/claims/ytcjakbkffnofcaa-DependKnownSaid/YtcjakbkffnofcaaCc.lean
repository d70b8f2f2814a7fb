/-
  The functions of closed calls, over a heap to compute with: printed by program (wip/gen/Emit.lean).
-/
import Derived.Test.YtcjakbkffnofcaaAx21
import Derived.Test.YtcjakbkffnofcaaFn1
import Derived.Test.YtcjakbkffnofcaaFn2
import Derived.Test.YtcjakbkffnofcaaFn3
import Derived.Test.YtcjakbkffnofcaaFn4
import Derived.Test.YtcjakbkffnofcaaFn5
set_option maxRecDepth 100000
set_option linter.unusedVariables false
namespace Go.Ax.Cc
open Go.Proofs

/-- palanquin/palanquinlaw6.BitsKnown. -/
def f_palanquinlaw6_BitsKnown (G : Sem') : M Res :=
  (G fn_bits_New []).bind fun t24 =>
  (G fn_palanquinlaw6_awake []).bind fun t25 =>
  (M.lift (Ax.un .not t25)).bind fun t26 =>
  (guarded [(0, t26)] (some (0, false)) (M.pure t24)).bind fun t28 =>
  (guarded [(0, t26)] (some (0, false)) (M.lift (eqr .ptr false t28 V.nilp))).bind fun t29 =>
  (M.lift (Ax.pick t26 (V.bool true) t29)).bind fun t30 =>
  M.ite t30
    (M.pure (.ret [(V.bool false)]))
    ((G fn_bits_Writer_Add [t24, (V.int .u64 0), (V.int .i64 (-1))]).bind fun t32 =>
    (G fn_bits_Writer_Add [t24, (V.int .u64 0), (V.int .i64 65)]).bind fun t34 =>
    (G fn_bits_Writer_Add [t24, (V.int .u64 8), (V.int .i64 3)]).bind fun t36 =>
    (G fn_bits_Writer_Add [t24, (V.int .u64 18446744073709551615), (V.int .i64 64)]).bind fun t38 =>
    (G fn_bits_Writer_AddNS [t24, (V.int .u64 0), (V.int .u64 0)]).bind fun t40 =>
    (G fn_bits_Writer_AddNS [t24, (V.int .u64 5), (V.int .u64 5)]).bind fun t42 =>
    (G fn_bits_Writer_AddNS [t24, (V.int .u64 0), (V.int .u64 4294967297)]).bind fun t44 =>
    (G fn_bits_Writer_AddNS [t24, (V.int .u64 0), (V.int .u64 1)]).bind fun t46 =>
    (G fn_bits_Writer_Len [t24]).bind fun t48 =>
    (G fn_bits_Writer_AddNS [t24, (V.int .u64 4), (V.int .u64 5)]).bind fun t50 =>
    (G fn_bits_Writer_AddNS [t24, (V.int .u64 0), (V.int .u64 5)]).bind fun t52 =>
    (mslit ty_uint8 1 [(V.int .u8 0)] [(0, 1, (V.int .u8 224))]).bind fun t53 =>
    (G fn_bits_Over [t53]).bind fun t54 =>
    (M.lift (eqr .ptr false t54 V.nilp)).bind fun t56 =>
    M.ite t56
      (M.pure (.ret [(V.bool false)]))
      ((G fn_bits_Reader_TakeNS [t54, (V.int .u64 5)]).bind fun t59 =>
      (M.lift (Ax.ext 0 t59)).bind fun t60 =>
      (M.lift (Ax.ext 1 t59)).bind fun t61 =>
      (G fn_bits_Reader_Take [t54, (V.int .i64 6)]).bind fun t64 =>
      (M.lift (Ax.ext 0 t64)).bind fun t65 =>
      (M.lift (Ax.ext 1 t64)).bind fun t66 =>
      (G fn_bits_Reader_Take [t54, (V.int .i64 65)]).bind fun t69 =>
      (M.lift (Ax.ext 0 t69)).bind fun t70 =>
      (M.lift (Ax.ext 1 t69)).bind fun t71 =>
      (G fn_bits_Reader_TakeNS [t54, (V.int .u64 0)]).bind fun t74 =>
      (M.lift (Ax.ext 0 t74)).bind fun t75 =>
      (M.lift (Ax.ext 1 t74)).bind fun t76 =>
      (G fn_bits_Reader_Take [t54, (V.int .i64 0)]).bind fun t79 =>
      (M.lift (Ax.ext 0 t79)).bind fun t80 =>
      (M.lift (Ax.ext 1 t79)).bind fun t81 =>
      (M.lift (Ax.bin .eql t32 (V.int .i64 1))).bind fun t83 =>
      (guarded [(0, t83)] (some (0, true)) (M.pure t34)).bind fun t85 =>
      (guarded [(0, t83)] (some (0, true)) (M.lift (Ax.bin .eql t85 (V.int .i64 1)))).bind fun t86 =>
      (M.lift (Ax.pick t83 t86 (V.bool false))).bind fun t87 =>
      (guarded [(0, t87)] (some (0, true)) (M.pure t36)).bind fun t89 =>
      (guarded [(0, t87)] (some (0, true)) (M.lift (Ax.bin .eql t89 (V.int .i64 1)))).bind fun t90 =>
      (M.lift (Ax.pick t87 t90 (V.bool false))).bind fun t91 =>
      (guarded [(0, t91)] (some (0, true)) (M.pure t38)).bind fun t93 =>
      (guarded [(0, t91)] (some (0, true)) (M.lift (Ax.bin .eql t93 (V.int .i64 0)))).bind fun t94 =>
      (M.lift (Ax.pick t91 t94 (V.bool false))).bind fun t95 =>
      (guarded [(0, t95)] (some (0, true)) (M.pure t40)).bind fun t97 =>
      (guarded [(0, t95)] (some (0, true)) (M.lift (Ax.bin .eql t97 (V.int .i64 1)))).bind fun t98 =>
      (M.lift (Ax.pick t95 t98 (V.bool false))).bind fun t99 =>
      (guarded [(0, t99)] (some (0, true)) (M.pure t42)).bind fun t101 =>
      (guarded [(0, t99)] (some (0, true)) (M.lift (Ax.bin .eql t101 (V.int .i64 1)))).bind fun t102 =>
      (M.lift (Ax.pick t99 t102 (V.bool false))).bind fun t103 =>
      (guarded [(0, t103)] (some (0, true)) (M.pure t44)).bind fun t105 =>
      (guarded [(0, t103)] (some (0, true)) (M.lift (Ax.bin .eql t105 (V.int .i64 1)))).bind fun t106 =>
      (M.lift (Ax.pick t103 t106 (V.bool false))).bind fun t107 =>
      (guarded [(0, t107)] (some (0, true)) (M.pure t46)).bind fun t109 =>
      (guarded [(0, t107)] (some (0, true)) (M.lift (Ax.bin .eql t109 (V.int .i64 0)))).bind fun t110 =>
      (M.lift (Ax.pick t107 t110 (V.bool false))).bind fun t111 =>
      (guarded [(0, t111)] (some (0, true)) (M.pure t48)).bind fun t113 =>
      (guarded [(0, t111)] (some (0, true)) (M.lift (Ax.bin .eql t113 (V.int .i64 64)))).bind fun t114 =>
      (M.lift (Ax.pick t111 t114 (V.bool false))).bind fun t115 =>
      (guarded [(0, t115)] (some (0, true)) (M.pure t50)).bind fun t117 =>
      (guarded [(0, t115)] (some (0, true)) (M.lift (Ax.bin .eql t117 (V.int .i64 0)))).bind fun t118 =>
      (M.lift (Ax.pick t115 t118 (V.bool false))).bind fun t119 =>
      (guarded [(0, t119)] (some (0, true)) (M.pure t52)).bind fun t121 =>
      (guarded [(0, t119)] (some (0, true)) (M.lift (Ax.bin .eql t121 (V.int .i64 0)))).bind fun t122 =>
      (M.lift (Ax.pick t119 t122 (V.bool false))).bind fun t123 =>
      (guarded [(0, t123)] (some (0, true)) (M.pure t24)).bind fun t125 =>
      (guarded [(0, t123)] (some (0, true)) (G fn_bits_Writer_Len [t125])).bind fun t126 =>
      (guarded [(0, t123)] (some (0, true)) (M.lift (Ax.bin .eql t126 (V.int .i64 69)))).bind fun t127 =>
      (M.lift (Ax.pick t123 t127 (V.bool false))).bind fun t128 =>
      (guarded [(0, t128)] (some (0, true)) (M.pure t60)).bind fun t130 =>
      (guarded [(0, t128)] (some (0, true)) (M.lift (Ax.bin .eql t130 (V.int .u64 4)))).bind fun t131 =>
      (M.lift (Ax.pick t128 t131 (V.bool false))).bind fun t132 =>
      (guarded [(0, t132)] (some (0, true)) (M.pure t61)).bind fun t134 =>
      (guarded [(0, t132)] (some (0, true)) (M.lift (Ax.bin .eql t134 (V.int .i64 0)))).bind fun t135 =>
      (M.lift (Ax.pick t132 t135 (V.bool false))).bind fun t136 =>
      (guarded [(0, t136)] (some (0, true)) (M.pure t66)).bind fun t138 =>
      (guarded [(0, t136)] (some (0, true)) (M.lift (Ax.bin .eql t138 (V.int .i64 3)))).bind fun t139 =>
      (M.lift (Ax.pick t136 t139 (V.bool false))).bind fun t140 =>
      (guarded [(0, t140)] (some (0, true)) (M.pure t71)).bind fun t142 =>
      (guarded [(0, t140)] (some (0, true)) (M.lift (Ax.bin .eql t142 (V.int .i64 1)))).bind fun t143 =>
      (M.lift (Ax.pick t140 t143 (V.bool false))).bind fun t144 =>
      (guarded [(0, t144)] (some (0, true)) (M.pure t76)).bind fun t146 =>
      (guarded [(0, t144)] (some (0, true)) (M.lift (Ax.bin .eql t146 (V.int .i64 1)))).bind fun t147 =>
      (M.lift (Ax.pick t144 t147 (V.bool false))).bind fun t148 =>
      (guarded [(0, t148)] (some (0, true)) (M.pure t80)).bind fun t150 =>
      (guarded [(0, t148)] (some (0, true)) (M.lift (Ax.bin .eql t150 (V.int .u64 0)))).bind fun t151 =>
      (M.lift (Ax.pick t148 t151 (V.bool false))).bind fun t152 =>
      (guarded [(0, t152)] (some (0, true)) (M.pure t81)).bind fun t154 =>
      (guarded [(0, t152)] (some (0, true)) (M.lift (Ax.bin .eql t154 (V.int .i64 0)))).bind fun t155 =>
      (M.lift (Ax.pick t152 t155 (V.bool false))).bind fun t156 =>
      (guarded [(0, t156)] (some (0, true)) (M.pure t54)).bind fun t158 =>
      (guarded [(0, t156)] (some (0, true)) (G fn_bits_Reader_Left [t158])).bind fun t159 =>
      (guarded [(0, t156)] (some (0, true)) (M.lift (Ax.bin .eql t159 (V.int .i64 5)))).bind fun t160 =>
      (M.lift (Ax.pick t156 t160 (V.bool false))).bind fun t161 =>
      M.pure (.ret [t161])))

theorem eq_palanquinlaw6_BitsKnown (G : Sem') : execK G ir_palanquinlaw6_BitsKnown.rv ir_palanquinlaw6_BitsKnown.body [] [] (params 0 []) = f_palanquinlaw6_BitsKnown G := by kernel_rfl

def d_palanquinlaw6_BitsKnown (G : Sem') : List V → M V
  | [] => fin (f_palanquinlaw6_BitsKnown G)
  | _ => M.fail

theorem s_palanquinlaw6_BitsKnown {g : Sem'} (hg : Sims g (sem T)) (args : List V) : Sim (d_palanquinlaw6_BitsKnown g args) (sem T fn_palanquinlaw6_BitsKnown args) := by
  unfold d_palanquinlaw6_BitsKnown
  split
  · exact sim_fn tb_palanquinlaw6_BitsKnown (Nat.le_of_ble_eq_true rfl) hg (eq_palanquinlaw6_BitsKnown g)
  · exact sim_fail

/-- palanquin/palanquinlaw9.DependKnown. -/
def f_palanquinlaw9_DependKnown (G : Sem') : M Res :=
  (G fn_palanquinlaw9_awake []).bind fun t28 =>
  (M.lift (Ax.un .not t28)).bind fun t29 =>
  M.ite t29
    (M.pure (.ret [(V.bool false)]))
    ((mslit ty_uint8 2 [(V.int .u8 0)] [(0, 1, (V.int .u8 0)), (1, 1, (V.int .u8 0))]).bind fun t31 =>
    (G fn_palanquinlaw9_plain []).bind fun t32 =>
    (G fn_depend_Parse [t31, t32]).bind fun t33 =>
    (M.lift (Ax.ext 0 t33)).bind fun t34 =>
    (M.lift (Ax.ext 1 t33)).bind fun t35 =>
    (mbox ty_depend_Frame (V.agg [(V.bool false), (V.bool false), (V.int .i64 0), (V.int .u16 0), (V.bool false), (V.int .i64 0), (V.int .i64 0), V.nils, (V.int .i64 0), V.nils, V.nils, (V.bool false), (V.int .u32 0), (V.bool false), (V.bool false), (V.bool false), V.nils, V.nils, V.nils])).bind fun t1 =>
    (mstore 19 t1 t34).bind fun _ =>
    (mslit ty_uint8 3 [(V.int .u8 0)] [(0, 1, (V.int .u8 0)), (1, 1, (V.int .u8 0)), (2, 1, (V.int .u8 0))]).bind fun t37 =>
    (M.lift (Ax.build [(V.int .i64 0), (V.int .i64 0), V.nils, (V.int .i64 0), V.nils, V.nils] [])).bind fun t38 =>
    (G fn_depend_Parse [t37, t38]).bind fun t39 =>
    (M.lift (Ax.ext 0 t39)).bind fun t40 =>
    (M.lift (Ax.ext 1 t39)).bind fun t41 =>
    (mbox ty_depend_Frame (V.agg [(V.bool false), (V.bool false), (V.int .i64 0), (V.int .u16 0), (V.bool false), (V.int .i64 0), (V.int .i64 0), V.nils, (V.int .i64 0), V.nils, V.nils, (V.bool false), (V.int .u32 0), (V.bool false), (V.bool false), (V.bool false), V.nils, V.nils, V.nils])).bind fun t3 =>
    (mstore 19 t3 t40).bind fun _ =>
    (mslit ty_uint8 3 [(V.int .u8 0)] [(0, 1, (V.int .u8 192)), (1, 1, (V.int .u8 1)), (2, 1, (V.int .u8 2))]).bind fun t43 =>
    (G fn_palanquinlaw9_plain []).bind fun t44 =>
    (G fn_depend_Parse [t43, t44]).bind fun t45 =>
    (M.lift (Ax.ext 0 t45)).bind fun t46 =>
    (M.lift (Ax.ext 1 t45)).bind fun t47 =>
    (mbox ty_depend_Frame (V.agg [(V.bool false), (V.bool false), (V.int .i64 0), (V.int .u16 0), (V.bool false), (V.int .i64 0), (V.int .i64 0), V.nils, (V.int .i64 0), V.nils, V.nils, (V.bool false), (V.int .u32 0), (V.bool false), (V.bool false), (V.bool false), V.nils, V.nils, V.nils])).bind fun t5 =>
    (mstore 19 t5 t46).bind fun _ =>
    (mslit ty_uint8 3 [(V.int .u8 0)] [(0, 1, (V.int .u8 1)), (1, 1, (V.int .u8 0)), (2, 1, (V.int .u8 0))]).bind fun t49 =>
    (G fn_palanquinlaw9_plain []).bind fun t50 =>
    (G fn_depend_Parse [t49, t50]).bind fun t51 =>
    (M.lift (Ax.ext 0 t51)).bind fun t52 =>
    (M.lift (Ax.ext 1 t51)).bind fun t53 =>
    (mbox ty_depend_Frame (V.agg [(V.bool false), (V.bool false), (V.int .i64 0), (V.int .u16 0), (V.bool false), (V.int .i64 0), (V.int .i64 0), V.nils, (V.int .i64 0), V.nils, V.nils, (V.bool false), (V.int .u32 0), (V.bool false), (V.bool false), (V.bool false), V.nils, V.nils, V.nils])).bind fun t7 =>
    (mstore 19 t7 t52).bind fun _ =>
    (mslit ty_uint8 4 [(V.int .u8 0)] [(0, 1, (V.int .u8 0)), (1, 1, (V.int .u8 0)), (2, 1, (V.int .u8 0)), (3, 1, (V.int .u8 1))]).bind fun t55 =>
    (G fn_palanquinlaw9_plain []).bind fun t56 =>
    (G fn_depend_Parse [t55, t56]).bind fun t57 =>
    (M.lift (Ax.ext 0 t57)).bind fun t58 =>
    (M.lift (Ax.ext 1 t57)).bind fun t59 =>
    (mbox ty_depend_Frame (V.agg [(V.bool false), (V.bool false), (V.int .i64 0), (V.int .u16 0), (V.bool false), (V.int .i64 0), (V.int .i64 0), V.nils, (V.int .i64 0), V.nils, V.nils, (V.bool false), (V.int .u32 0), (V.bool false), (V.bool false), (V.bool false), V.nils, V.nils, V.nils])).bind fun t9 =>
    (mstore 19 t9 t58).bind fun _ =>
    (mslit ty_uint8 4 [(V.int .u8 0)] [(0, 1, (V.int .u8 0)), (1, 1, (V.int .u8 0)), (2, 1, (V.int .u8 0)), (3, 1, (V.int .u8 128))]).bind fun t61 =>
    (G fn_palanquinlaw9_plain []).bind fun t62 =>
    (G fn_depend_Parse [t61, t62]).bind fun t63 =>
    (M.lift (Ax.ext 0 t63)).bind fun t64 =>
    (M.lift (Ax.ext 1 t63)).bind fun t65 =>
    (mbox ty_depend_Frame (V.agg [(V.bool false), (V.bool false), (V.int .i64 0), (V.int .u16 0), (V.bool false), (V.int .i64 0), (V.int .i64 0), V.nils, (V.int .i64 0), V.nils, V.nils, (V.bool false), (V.int .u32 0), (V.bool false), (V.bool false), (V.bool false), V.nils, V.nils, V.nils])).bind fun t11 =>
    (mstore 19 t11 t64).bind fun _ =>
    (mslit ty_uint8 5 [(V.int .u8 0)] [(0, 1, (V.int .u8 0)), (1, 1, (V.int .u8 0)), (2, 1, (V.int .u8 0)), (3, 1, (V.int .u8 68)), (4, 1, (V.int .u8 0))]).bind fun t67 =>
    (G fn_palanquinlaw9_plain []).bind fun t68 =>
    (G fn_depend_Parse [t67, t68]).bind fun t69 =>
    (M.lift (Ax.ext 0 t69)).bind fun t70 =>
    (M.lift (Ax.ext 1 t69)).bind fun t71 =>
    (mbox ty_depend_Frame (V.agg [(V.bool false), (V.bool false), (V.int .i64 0), (V.int .u16 0), (V.bool false), (V.int .i64 0), (V.int .i64 0), V.nils, (V.int .i64 0), V.nils, V.nils, (V.bool false), (V.int .u32 0), (V.bool false), (V.bool false), (V.bool false), V.nils, V.nils, V.nils])).bind fun t13 =>
    (mstore 19 t13 t70).bind fun _ =>
    (mslit ty_uint8 5 [(V.int .u8 0)] [(0, 1, (V.int .u8 0)), (1, 1, (V.int .u8 0)), (2, 1, (V.int .u8 0)), (3, 1, (V.int .u8 18)), (4, 1, (V.int .u8 96))]).bind fun t73 =>
    (G fn_palanquinlaw9_plain []).bind fun t74 =>
    (G fn_depend_Parse [t73, t74]).bind fun t75 =>
    (M.lift (Ax.ext 0 t75)).bind fun t76 =>
    (M.lift (Ax.ext 1 t75)).bind fun t77 =>
    (mbox ty_depend_Frame (V.agg [(V.bool false), (V.bool false), (V.int .i64 0), (V.int .u16 0), (V.bool false), (V.int .i64 0), (V.int .i64 0), V.nils, (V.int .i64 0), V.nils, V.nils, (V.bool false), (V.int .u32 0), (V.bool false), (V.bool false), (V.bool false), V.nils, V.nils, V.nils])).bind fun t15 =>
    (mstore 19 t15 t76).bind fun _ =>
    (G fn_palanquinlaw9_plain []).bind fun t78 =>
    (mbox ty_depend_Structure (V.agg [(V.int .i64 0), (V.int .i64 0), V.nils, (V.int .i64 0), V.nils, V.nils])).bind fun t17 =>
    (mstore 6 t17 t78).bind fun _ =>
    (M.lift (Ax.faddr 1 t17)).bind fun t79 =>
    (mstore 1 t79 (V.int .i64 33)).bind fun _ =>
    (G fn_palanquinlaw9_plain []).bind fun t80 =>
    (mbox ty_depend_Structure (V.agg [(V.int .i64 0), (V.int .i64 0), V.nils, (V.int .i64 0), V.nils, V.nils])).bind fun t18 =>
    (mstore 6 t18 t80).bind fun _ =>
    (M.lift (Ax.faddr 2 t18)).bind fun t81 =>
    (mload none t81).bind fun t82 =>
    (mslit ty_int 1 [(V.int .i64 0)] [(0, 1, (V.int .i64 0))]).bind fun t83 =>
    (M.lift (Ax.build [(V.int .i64 0), (V.int .i64 0), V.nils, V.nils, V.nils] [(0, 1, (V.int .i64 1)), (1, 1, (V.int .i64 1)), (2, 1, t83)])).bind fun t84 =>
    (mslit ty_depend_Template 1 [(V.int .i64 0), (V.int .i64 0), V.nils, V.nils, V.nils] [(0, 5, t84)]).bind fun t85 =>
    (mappend ty_depend_Template 5 88 t82 t85).bind fun t86 =>
    (M.lift (Ax.faddr 2 t18)).bind fun t87 =>
    (mstore 1 t87 t86).bind fun _ =>
    (mslit ty_int 1 [(V.int .i64 0)] [(0, 1, (V.int .i64 1))]).bind fun t89 =>
    (M.lift (Ax.build [(V.bool false), (V.bool false), (V.int .i64 0), (V.int .u16 0), (V.bool false), (V.int .i64 0), (V.int .i64 0), V.nils, (V.int .i64 0), V.nils, V.nils, (V.bool false), (V.int .u32 0), (V.bool false), (V.bool false), (V.bool false), V.nils, V.nils, V.nils] [(16, 1, t89)])).bind fun t90 =>
    (G fn_palanquinlaw9_plain []).bind fun t91 =>
    (G fn_depend_Bytes [t90, t91]).bind fun t92 =>
    (M.lift (Ax.ext 0 t92)).bind fun t93 =>
    (M.lift (Ax.ext 1 t92)).bind fun t94 =>
    (G fn_palanquinlaw9_plain []).bind fun t96 =>
    (G fn_depend_Layers [t96, (V.int .i64 0)]).bind fun t97 =>
    (M.lift (Ax.ext 0 t97)).bind fun t98 =>
    (M.lift (Ax.ext 1 t97)).bind fun t99 =>
    (M.lift (Ax.ext 2 t97)).bind fun t100 =>
    (G fn_palanquinlaw9_plain []).bind fun t102 =>
    (G fn_depend_Layers [t102, (V.int .i64 1)]).bind fun t103 =>
    (M.lift (Ax.ext 0 t103)).bind fun t104 =>
    (M.lift (Ax.ext 1 t103)).bind fun t105 =>
    (M.lift (Ax.ext 2 t103)).bind fun t106 =>
    (mslit ty_uint8 4 [(V.int .u8 0)] [(0, 1, (V.int .u8 1)), (1, 1, (V.int .u8 2)), (2, 1, (V.int .u8 3)), (3, 1, (V.int .u8 4))]).bind fun t107 =>
    (G fn_depend_Number [t107, (V.int .u16 1286)]).bind fun t108 =>
    (M.lift (Ax.bin .eql t35 (V.int .i64 3))).bind fun t110 =>
    (guarded [(0, t110)] (some (0, true)) (M.pure t41)).bind fun t112 =>
    (guarded [(0, t110)] (some (0, true)) (M.lift (Ax.bin .eql t112 (V.int .i64 2)))).bind fun t113 =>
    (M.lift (Ax.pick t110 t113 (V.bool false))).bind fun t114 =>
    (guarded [(0, t114)] (some (0, true)) (M.pure t47)).bind fun t116 =>
    (guarded [(0, t114)] (some (0, true)) (M.lift (Ax.bin .eql t116 (V.int .i64 0)))).bind fun t117 =>
    (M.lift (Ax.pick t114 t117 (V.bool false))).bind fun t118 =>
    (guarded [(0, t118)] (some (0, true)) (M.lift (Ax.faddr 0 t5))).bind fun t120 =>
    (guarded [(0, t118)] (some (0, true)) (mload none t120)).bind fun t121 =>
    (M.lift (Ax.pick t118 t121 (V.bool false))).bind fun t122 =>
    (guarded [(0, t122)] (some (0, true)) (M.lift (Ax.faddr 1 t5))).bind fun t124 =>
    (guarded [(0, t122)] (some (0, true)) (mload none t124)).bind fun t125 =>
    (M.lift (Ax.pick t122 t125 (V.bool false))).bind fun t126 =>
    (guarded [(0, t126)] (some (0, true)) (M.lift (Ax.faddr 3 t5))).bind fun t128 =>
    (guarded [(0, t126)] (some (0, true)) (mload none t128)).bind fun t129 =>
    (guarded [(0, t126)] (some (0, true)) (M.lift (Ax.bin .eql t129 (V.int .u16 258)))).bind fun t130 =>
    (M.lift (Ax.pick t126 t130 (V.bool false))).bind fun t131 =>
    (guarded [(0, t131)] (some (0, true)) (M.lift (Ax.faddr 16 t5))).bind fun t133 =>
    (guarded [(0, t131)] (some (0, true)) (mload none t133)).bind fun t134 =>
    (guarded [(0, t131)] (some (0, true)) (M.lift (vlen t134))).bind fun t135 =>
    (guarded [(0, t131)] (some (0, true)) (M.lift (Ax.bin .eql t135 (V.int .i64 1)))).bind fun t136 =>
    (M.lift (Ax.pick t131 t136 (V.bool false))).bind fun t137 =>
    (guarded [(0, t137)] (some (0, true)) (M.pure t53)).bind fun t139 =>
    (guarded [(0, t137)] (some (0, true)) (M.lift (Ax.bin .eql t139 (V.int .i64 2)))).bind fun t140 =>
    (M.lift (Ax.pick t137 t140 (V.bool false))).bind fun t141 =>
    (guarded [(0, t141)] (some (0, true)) (M.pure t59)).bind fun t143 =>
    (guarded [(0, t141)] (some (0, true)) (M.lift (Ax.bin .eql t143 (V.int .i64 2)))).bind fun t144 =>
    (M.lift (Ax.pick t141 t144 (V.bool false))).bind fun t145 =>
    (guarded [(0, t145)] (some (0, true)) (M.pure t65)).bind fun t147 =>
    (guarded [(0, t145)] (some (0, true)) (M.lift (Ax.bin .eql t147 (V.int .i64 3)))).bind fun t148 =>
    (M.lift (Ax.pick t145 t148 (V.bool false))).bind fun t149 =>
    (guarded [(0, t149)] (some (0, true)) (M.pure t71)).bind fun t151 =>
    (guarded [(0, t149)] (some (0, true)) (M.lift (Ax.bin .eql t151 (V.int .i64 0)))).bind fun t152 =>
    (M.lift (Ax.pick t149 t152 (V.bool false))).bind fun t153 =>
    (guarded [(0, t153)] (some (0, true)) (M.lift (Ax.faddr 11 t13))).bind fun t155 =>
    (guarded [(0, t153)] (some (0, true)) (mload none t155)).bind fun t156 =>
    (M.lift (Ax.pick t153 t156 (V.bool false))).bind fun t157 =>
    (guarded [(0, t157)] (some (0, true)) (M.lift (Ax.faddr 12 t13))).bind fun t159 =>
    (guarded [(0, t157)] (some (0, true)) (mload none t159)).bind fun t160 =>
    (guarded [(0, t157)] (some (0, true)) (M.lift (Ax.bin .eql t160 (V.int .u32 1)))).bind fun t161 =>
    (M.lift (Ax.pick t157 t161 (V.bool false))).bind fun t162 =>
    (guarded [(0, t162)] (some (0, true)) (M.pure t77)).bind fun t164 =>
    (guarded [(0, t162)] (some (0, true)) (M.lift (Ax.bin .eql t164 (V.int .i64 0)))).bind fun t165 =>
    (M.lift (Ax.pick t162 t165 (V.bool false))).bind fun t166 =>
    (guarded [(0, t166)] (some (0, true)) (M.lift (Ax.faddr 14 t15))).bind fun t168 =>
    (guarded [(0, t166)] (some (0, true)) (mload none t168)).bind fun t169 =>
    (M.lift (Ax.pick t166 t169 (V.bool false))).bind fun t170 =>
    (guarded [(0, t170)] (some (0, true)) (M.lift (Ax.faddr 17 t15))).bind fun t172 =>
    (guarded [(0, t170)] (some (0, true)) (mload none t172)).bind fun t173 =>
    (guarded [(0, t170)] (some (0, true)) (M.lift (vlen t173))).bind fun t174 =>
    (guarded [(0, t170)] (some (0, true)) (M.lift (Ax.bin .eql t174 (V.int .i64 1)))).bind fun t175 =>
    (M.lift (Ax.pick t170 t175 (V.bool false))).bind fun t176 =>
    (guarded [(0, t176)] (some (0, true)) (M.lift (Ax.faddr 17 t15))).bind fun t178 =>
    (guarded [(0, t176)] (some (0, true)) (mload none t178)).bind fun t179 =>
    (guarded [(0, t176)] (some (0, true)) (M.lift (Ax.iaddr none 1 t179 (V.int .i64 0)))).bind fun t180 =>
    (guarded [(0, t176)] (some (0, true)) (mload none t180)).bind fun t181 =>
    (guarded [(0, t176)] (some (0, true)) (M.lift (Ax.bin .eql t181 (V.int .i64 4)))).bind fun t182 =>
    (M.lift (Ax.pick t176 t182 (V.bool false))).bind fun t183 =>
    (guarded [(0, t183)] (some (0, true)) (mload (some 6) t17)).bind fun t185 =>
    (guarded [(0, t183)] (some (0, true)) (G fn_depend_Fine [t185])).bind fun t186 =>
    (guarded [(0, t183)] (some (0, true)) (M.lift (Ax.un .not t186))).bind fun t187 =>
    (M.lift (Ax.pick t183 t187 (V.bool false))).bind fun t188 =>
    (guarded [(0, t188)] (some (0, true)) (mload (some 6) t18)).bind fun t190 =>
    (guarded [(0, t188)] (some (0, true)) (G fn_depend_Fine [t190])).bind fun t191 =>
    (guarded [(0, t188)] (some (0, true)) (M.lift (Ax.un .not t191))).bind fun t192 =>
    (M.lift (Ax.pick t188 t192 (V.bool false))).bind fun t193 =>
    (guarded [(0, t193)] (some (0, true)) (M.pure t93)).bind fun t195 =>
    (guarded [(0, t193)] (some (0, true)) (M.lift (vlen t195))).bind fun t196 =>
    (guarded [(0, t193)] (some (0, true)) (M.lift (Ax.bin .eql t196 (V.int .i64 0)))).bind fun t197 =>
    (M.lift (Ax.pick t193 t197 (V.bool false))).bind fun t198 =>
    (guarded [(0, t198)] (some (0, true)) (M.pure t94)).bind fun t200 =>
    (guarded [(0, t198)] (some (0, true)) (M.lift (Ax.bin .eql t200 (V.int .i64 1)))).bind fun t201 =>
    (M.lift (Ax.pick t198 t201 (V.bool false))).bind fun t202 =>
    (guarded [(0, t202)] (some (0, true)) (M.pure t100)).bind fun t204 =>
    (M.lift (Ax.pick t202 t204 (V.bool false))).bind fun t205 =>
    (guarded [(0, t205)] (some (0, true)) (M.pure t98)).bind fun t207 =>
    (guarded [(0, t205)] (some (0, true)) (M.lift (Ax.bin .eql t207 (V.int .i64 0)))).bind fun t208 =>
    (M.lift (Ax.pick t205 t208 (V.bool false))).bind fun t209 =>
    (guarded [(0, t209)] (some (0, true)) (M.pure t99)).bind fun t211 =>
    (guarded [(0, t209)] (some (0, true)) (M.lift (Ax.bin .eql t211 (V.int .i64 0)))).bind fun t212 =>
    (M.lift (Ax.pick t209 t212 (V.bool false))).bind fun t213 =>
    (guarded [(0, t213)] (some (0, true)) (M.pure t106)).bind fun t215 =>
    (guarded [(0, t213)] (some (0, true)) (M.lift (Ax.un .not t215))).bind fun t216 =>
    (M.lift (Ax.pick t213 t216 (V.bool false))).bind fun t217 =>
    (guarded [(0, t217)] (some (0, true)) (M.pure t108)).bind fun t219 =>
    (guarded [(0, t217)] (some (0, true)) (mtostr t219)).bind fun t220 =>
    (guarded [(0, t217)] (some (0, true)) (M.lift (Ax.bin .eql t220 (V.str ⟨#[1, 5, 6, 4]⟩)))).bind fun t221 =>
    (M.lift (Ax.pick t217 t221 (V.bool false))).bind fun t222 =>
    (guarded [(0, t222)] (some (0, true)) (mslit ty_uint8 1 [(V.int .u8 0)] [(0, 1, (V.int .u8 1))])).bind fun t224 =>
    (guarded [(0, t222)] (some (0, true)) (G fn_depend_Number [t224, (V.int .u16 7)])).bind fun t225 =>
    (guarded [(0, t222)] (some (0, true)) (M.lift (vlen t225))).bind fun t226 =>
    (guarded [(0, t222)] (some (0, true)) (M.lift (Ax.bin .eql t226 (V.int .i64 1)))).bind fun t227 =>
    (M.lift (Ax.pick t222 t227 (V.bool false))).bind fun t228 =>
    M.pure (.ret [t228]))

theorem eq_palanquinlaw9_DependKnown (G : Sem') : execK G ir_palanquinlaw9_DependKnown.rv ir_palanquinlaw9_DependKnown.body [] [] (params 0 []) = f_palanquinlaw9_DependKnown G := by kernel_rfl

def d_palanquinlaw9_DependKnown (G : Sem') : List V → M V
  | [] => fin (f_palanquinlaw9_DependKnown G)
  | _ => M.fail

theorem s_palanquinlaw9_DependKnown {g : Sem'} (hg : Sims g (sem T)) (args : List V) : Sim (d_palanquinlaw9_DependKnown g args) (sem T fn_palanquinlaw9_DependKnown args) := by
  unfold d_palanquinlaw9_DependKnown
  split
  · exact sim_fn tb_palanquinlaw9_DependKnown (Nat.le_of_ble_eq_true rfl) hg (eq_palanquinlaw9_DependKnown g)
  · exact sim_fail

/-- palanquin/bits.New. -/
def f_bits_New (G : Sem') : M Res :=
  (M.lift (Ax.build [V.nils, (V.int .i64 0)] [])).bind fun t1 =>
  (mbox ty_bits_Writer t1).bind fun t2 =>
  M.pure (.ret [t2])

theorem eq_bits_New (G : Sem') : execK G ir_bits_New.rv ir_bits_New.body [] [] (params 0 []) = f_bits_New G := by kernel_rfl

def d_bits_New (G : Sem') : List V → M V
  | [] => fin (f_bits_New G)
  | _ => M.fail

theorem s_bits_New {g : Sem'} (hg : Sims g (sem T)) (args : List V) : Sim (d_bits_New g args) (sem T fn_bits_New args) := by
  unfold d_bits_New
  split
  · exact sim_fn tb_bits_New (Nat.le_of_ble_eq_true rfl) hg (eq_bits_New g)
  · exact sim_fail

/-- palanquin/palanquinlaw6.awake. -/
def f_palanquinlaw6_awake (G : Sem') : M Res :=
  (G fn_bits_New []).bind fun t5 =>
  (M.lift (eqr .ptr false t5 V.nilp)).bind fun t7 =>
  M.ite t7
    (M.pure (.ret [(V.bool false)]))
    ((G fn_bits_Writer_Add [t5, (V.int .u64 5), (V.int .i64 3)]).bind fun t9 =>
    (G fn_bits_Writer_Add [t5, (V.int .u64 1), (V.int .i64 2)]).bind fun t11 =>
    (G fn_bits_Writer_Bytes [t5]).bind fun t13 =>
    (M.lift (Ax.bin .eql t9 (V.int .i64 0))).bind fun t15 =>
    (guarded [(0, t15)] (some (0, true)) (M.pure t11)).bind fun t17 =>
    (guarded [(0, t15)] (some (0, true)) (M.lift (Ax.bin .eql t17 (V.int .i64 0)))).bind fun t18 =>
    (M.lift (Ax.pick t15 t18 (V.bool false))).bind fun t19 =>
    (guarded [(0, t19)] (some (0, true)) (M.pure t5)).bind fun t21 =>
    (guarded [(0, t19)] (some (0, true)) (G fn_bits_Writer_Len [t21])).bind fun t22 =>
    (guarded [(0, t19)] (some (0, true)) (M.lift (Ax.bin .eql t22 (V.int .i64 5)))).bind fun t23 =>
    (M.lift (Ax.pick t19 t23 (V.bool false))).bind fun t24 =>
    (guarded [(0, t24)] (some (0, true)) (M.pure t13)).bind fun t26 =>
    (guarded [(0, t24)] (some (0, true)) (M.lift (vlen t26))).bind fun t27 =>
    (guarded [(0, t24)] (some (0, true)) (M.lift (Ax.bin .eql t27 (V.int .i64 1)))).bind fun t28 =>
    (M.lift (Ax.pick t24 t28 (V.bool false))).bind fun t29 =>
    (guarded [(0, t29)] (some (0, true)) (M.pure t13)).bind fun t31 =>
    (guarded [(0, t29)] (some (0, true)) (M.lift (Ax.iaddr none 1 t31 (V.int .i64 0)))).bind fun t32 =>
    (guarded [(0, t29)] (some (0, true)) (mload none t32)).bind fun t33 =>
    (guarded [(0, t29)] (some (0, true)) (M.lift (Ax.bin .eql t33 (V.int .u8 168)))).bind fun t34 =>
    (M.lift (Ax.pick t29 t34 (V.bool false))).bind fun t35 =>
    M.pure (.ret [t35]))

theorem eq_palanquinlaw6_awake (G : Sem') : execK G ir_palanquinlaw6_awake.rv ir_palanquinlaw6_awake.body [] [] (params 0 []) = f_palanquinlaw6_awake G := by kernel_rfl

def d_palanquinlaw6_awake (G : Sem') : List V → M V
  | [] => fin (f_palanquinlaw6_awake G)
  | _ => M.fail

theorem s_palanquinlaw6_awake {g : Sem'} (hg : Sims g (sem T)) (args : List V) : Sim (d_palanquinlaw6_awake g args) (sem T fn_palanquinlaw6_awake args) := by
  unfold d_palanquinlaw6_awake
  split
  · exact sim_fn tb_palanquinlaw6_awake (Nat.le_of_ble_eq_true rfl) hg (eq_palanquinlaw6_awake g)
  · exact sim_fail

/-- (*palanquin/bits.Writer).AddNS. -/
def f_bits_Writer_AddNS (G : Sem') (t0 t1 t2 : V) : M Res :=
  (M.lift (Ax.bin .lss t2 (V.int .u64 1))).bind fun t10 =>
  (guarded [(0, t10)] (some (0, false)) (M.pure t2)).bind fun t12 =>
  (guarded [(0, t10)] (some (0, false)) (M.lift (Ax.bin .gtr t12 (V.int .u64 4294967296)))).bind fun t13 =>
  (M.lift (Ax.pick t10 (V.bool true) t13)).bind fun t14 =>
  (guarded [(0, t14)] (some (0, false)) (M.pure t1)).bind fun t16 =>
  (guarded [(0, t14)] (some (0, false)) (M.pure t2)).bind fun t17 =>
  (guarded [(0, t14)] (some (0, false)) (M.lift (Ax.bin .geq t16 t17))).bind fun t18 =>
  (M.lift (Ax.pick t14 (V.bool true) t18)).bind fun t19 =>
  M.ite t19
    (M.pure (.ret [(V.int .i64 1)]))
    ((G fn_bits_short [t2]).bind fun t22 =>
    (M.lift (Ax.ext 0 t22)).bind fun t23 =>
    (M.lift (Ax.ext 1 t22)).bind fun t24 =>
    (M.lift (Ax.bin .lss t1 t24)).bind fun t27 =>
    M.ite t27
      ((M.lift (Ax.bin .sub t23 (V.int .i64 1))).bind fun t31 =>
      (G fn_bits_Writer_Add [t0, t1, t31]).bind fun t32 =>
      M.pure (.ret [t32]))
      ((M.lift (Ax.bin .add t1 t24)).bind fun t36 =>
      (G fn_bits_Writer_Add [t0, t36, t23]).bind fun t38 =>
      M.pure (.ret [t38])))

theorem eq_bits_Writer_AddNS (G : Sem') (t0 t1 t2 : V) : execK G ir_bits_Writer_AddNS.rv ir_bits_Writer_AddNS.body [] [] (params 0 [t0, t1, t2]) = f_bits_Writer_AddNS G t0 t1 t2 := by kernel_rfl

def d_bits_Writer_AddNS (G : Sem') : List V → M V
  | [t0, t1, t2] => fin (f_bits_Writer_AddNS G t0 t1 t2)
  | _ => M.fail

theorem s_bits_Writer_AddNS {g : Sem'} (hg : Sims g (sem T)) (args : List V) : Sim (d_bits_Writer_AddNS g args) (sem T fn_bits_Writer_AddNS args) := by
  unfold d_bits_Writer_AddNS
  split
  · exact sim_fn tb_bits_Writer_AddNS (Nat.le_of_ble_eq_true rfl) hg (eq_bits_Writer_AddNS g _ _ _)
  · exact sim_fail

/-- (*palanquin/bits.Writer).Add. -/
def f_bits_Writer_Add_0 (G : Sem') (t1 t0 t6 : V) (L : List V) : M Res :=
  (M.lift (Ax.bin .geq (L.getD 0 .undef) (V.int .i64 0))).bind fun t23 =>
  M.ite t23
    (M.blk 1 (
      (M.lift (Ax.nilck t0)).bind fun t27 =>
      (M.lift (Ax.faddr 1 t27)).bind fun t28 =>
      (mload none t28).bind fun t29 =>
      (M.lift (Ax.bin .rem t29 (V.int .i64 8))).bind fun t30 =>
      (M.lift (Ax.bin .eql t30 (V.int .i64 0))).bind fun t31 =>
      M.join (M.ite t31
        ((M.lift (Ax.nilck t0)).bind fun t34 =>
        (M.lift (Ax.faddr 0 t34)).bind fun t35 =>
        (mload none t35).bind fun t36 =>
        (mslit ty_uint8 1 [(V.int .u8 0)] [(0, 1, (V.int .u8 0))]).bind fun t37 =>
        (mappend ty_uint8 1 1 t36 t37).bind fun t38 =>
        (M.lift (Ax.nilck t0)).bind fun t39 =>
        (M.lift (Ax.faddr 0 t39)).bind fun t40 =>
        (mstore 1 t40 t38).bind fun _ =>
        M.pure (.nrm []))
        (M.pure (.nrm []))) fun _ =>
      (M.lift (Ax.bin .shr t1 (L.getD 0 .undef))).bind fun t43 =>
      (M.lift (Ax.bin .and t43 (V.int .u64 1))).bind fun t44 =>
      (M.lift (Ax.bin .eql t44 (V.int .u64 1))).bind fun t45 =>
      M.join (M.ite t45
        ((M.lift (Ax.nilck t0)).bind fun t47 =>
        (M.lift (Ax.faddr 0 t47)).bind fun t48 =>
        (mload none t48).bind fun t49 =>
        (M.lift (Ax.nilck t0)).bind fun t51 =>
        (M.lift (Ax.faddr 1 t51)).bind fun t52 =>
        (mload none t52).bind fun t53 =>
        (M.lift (Ax.bin .quo t53 (V.int .i64 8))).bind fun t54 =>
        (M.lift (Ax.iaddr none 1 t49 t54)).bind fun t55 =>
        (mload none t55).bind fun t56 =>
        (M.lift (Ax.nilck t0)).bind fun t58 =>
        (M.lift (Ax.faddr 1 t58)).bind fun t59 =>
        (mload none t59).bind fun t60 =>
        (M.lift (Ax.bin .rem t60 (V.int .i64 8))).bind fun t61 =>
        (M.lift (Ax.bin .shr (V.int .u8 128) t61)).bind fun t62 =>
        (M.lift (Ax.bin .or t56 t62)).bind fun t63 =>
        (M.lift (Ax.iaddr none 1 t49 t54)).bind fun t64 =>
        (mstore 1 t64 t63).bind fun _ =>
        M.pure (.nrm []))
        (M.pure (.nrm []))) fun _ =>
      (M.lift (Ax.nilck t0)).bind fun t66 =>
      (M.lift (Ax.faddr 1 t66)).bind fun t67 =>
      (mload none t67).bind fun t68 =>
      (M.lift (Ax.bin .add t68 (V.int .i64 1))).bind fun t69 =>
      (M.lift (Ax.nilck t0)).bind fun t70 =>
      (M.lift (Ax.faddr 1 t70)).bind fun t71 =>
      (mstore 1 t71 t69).bind fun _ =>
      M.pure (.nrm [])) fun _ =>
    (M.lift (Ax.bin .sub (L.getD 0 .undef) (V.int .i64 1))).bind fun t25 =>
    M.pure (.nrm [t25]))
    (M.pure (.ex 0 []))

def f_bits_Writer_Add (G : Sem') (t0 t1 t2 : V) : M Res :=
  (M.lift (Ax.bin .lss t2 (V.int .i64 0))).bind fun t9 =>
  (guarded [(0, t9)] (some (0, false)) (M.pure t2)).bind fun t11 =>
  (guarded [(0, t9)] (some (0, false)) (M.lift (Ax.bin .gtr t11 (V.int .i64 64)))).bind fun t12 =>
  (M.lift (Ax.pick t9 (V.bool true) t12)).bind fun t13 =>
  (guarded [(0, t13)] (some (0, false)) (M.pure t1)).bind fun t15 =>
  (guarded [(0, t13)] (some (0, false)) (G fn_math_bits_Len64 [t15])).bind fun t16 =>
  (guarded [(0, t13)] (some (0, false)) (M.pure t2)).bind fun t17 =>
  (guarded [(0, t13)] (some (0, false)) (M.lift (Ax.bin .gtr t16 t17))).bind fun t18 =>
  (M.lift (Ax.pick t13 (V.bool true) t18)).bind fun t19 =>
  M.ite t19
    (M.pure (.ret [(V.int .i64 1)]))
    ((M.lift (Ax.bin .sub t2 (V.int .i64 1))).bind fun t21 =>
    M.blk 0 (
      M.iter (f_bits_Writer_Add_0 G t1 t0 (V.int .i64 0)) [t21]) fun _ =>
    M.pure (.ret [(V.int .i64 0)]))

theorem eq_bits_Writer_Add (G : Sem') (t0 t1 t2 : V) : execK G ir_bits_Writer_Add.rv ir_bits_Writer_Add.body [] [] (params 0 [t0, t1, t2]) = f_bits_Writer_Add G t0 t1 t2 := by kernel_rfl

def d_bits_Writer_Add (G : Sem') : List V → M V
  | [t0, t1, t2] => fin (f_bits_Writer_Add G t0 t1 t2)
  | _ => M.fail

theorem s_bits_Writer_Add {g : Sem'} (hg : Sims g (sem T)) (args : List V) : Sim (d_bits_Writer_Add g args) (sem T fn_bits_Writer_Add args) := by
  unfold d_bits_Writer_Add
  split
  · exact sim_fn tb_bits_Writer_Add (Nat.le_of_ble_eq_true rfl) hg (eq_bits_Writer_Add g _ _ _)
  · exact sim_fail

/-- (*palanquin/bits.Writer).Len. -/
def f_bits_Writer_Len (G : Sem') (t0 : V) : M Res :=
  (M.lift (Ax.nilck t0)).bind fun t4 =>
  (M.lift (Ax.faddr 1 t4)).bind fun t5 =>
  (mload none t5).bind fun t6 =>
  M.pure (.ret [t6])

theorem eq_bits_Writer_Len (G : Sem') (t0 : V) : execK G ir_bits_Writer_Len.rv ir_bits_Writer_Len.body [] [] (params 0 [t0]) = f_bits_Writer_Len G t0 := by kernel_rfl

def d_bits_Writer_Len (G : Sem') : List V → M V
  | [t0] => fin (f_bits_Writer_Len G t0)
  | _ => M.fail

theorem s_bits_Writer_Len {g : Sem'} (hg : Sims g (sem T)) (args : List V) : Sim (d_bits_Writer_Len g args) (sem T fn_bits_Writer_Len args) := by
  unfold d_bits_Writer_Len
  split
  · exact sim_fn tb_bits_Writer_Len (Nat.le_of_ble_eq_true rfl) hg (eq_bits_Writer_Len g _)
  · exact sim_fail

/-- (*palanquin/bits.Writer).Bytes. -/
def f_bits_Writer_Bytes (G : Sem') (t0 : V) : M Res :=
  (M.lift (Ax.nilck t0)).bind fun t4 =>
  (M.lift (Ax.faddr 0 t4)).bind fun t5 =>
  (mload none t5).bind fun t6 =>
  (mappend ty_uint8 1 1 V.nils t6).bind fun t7 =>
  M.pure (.ret [t7])

theorem eq_bits_Writer_Bytes (G : Sem') (t0 : V) : execK G ir_bits_Writer_Bytes.rv ir_bits_Writer_Bytes.body [] [] (params 0 [t0]) = f_bits_Writer_Bytes G t0 := by kernel_rfl

def d_bits_Writer_Bytes (G : Sem') : List V → M V
  | [t0] => fin (f_bits_Writer_Bytes G t0)
  | _ => M.fail

theorem s_bits_Writer_Bytes {g : Sem'} (hg : Sims g (sem T)) (args : List V) : Sim (d_bits_Writer_Bytes g args) (sem T fn_bits_Writer_Bytes args) := by
  unfold d_bits_Writer_Bytes
  split
  · exact sim_fn tb_bits_Writer_Bytes (Nat.le_of_ble_eq_true rfl) hg (eq_bits_Writer_Bytes g _)
  · exact sim_fail

/-- palanquin/bits.Over. -/
def f_bits_Over (G : Sem') (t0 : V) : M Res :=
  (mappend ty_uint8 1 1 V.nils t0).bind fun t4 =>
  (M.lift (Ax.build [V.nils, (V.int .i64 0)] [(0, 1, t4)])).bind fun t5 =>
  (mbox ty_bits_Reader t5).bind fun t6 =>
  M.pure (.ret [t6])

theorem eq_bits_Over (G : Sem') (t0 : V) : execK G ir_bits_Over.rv ir_bits_Over.body [] [] (params 0 [t0]) = f_bits_Over G t0 := by kernel_rfl

def d_bits_Over (G : Sem') : List V → M V
  | [t0] => fin (f_bits_Over G t0)
  | _ => M.fail

theorem s_bits_Over {g : Sem'} (hg : Sims g (sem T)) (args : List V) : Sim (d_bits_Over g args) (sem T fn_bits_Over args) := by
  unfold d_bits_Over
  split
  · exact sim_fn tb_bits_Over (Nat.le_of_ble_eq_true rfl) hg (eq_bits_Over g _)
  · exact sim_fail

/-- (*palanquin/bits.Reader).TakeNS. -/
def f_bits_Reader_TakeNS (G : Sem') (t0 t1 : V) : M Res :=
  (M.lift (Ax.bin .lss t1 (V.int .u64 1))).bind fun t13 =>
  (guarded [(0, t13)] (some (0, false)) (M.pure t1)).bind fun t15 =>
  (guarded [(0, t13)] (some (0, false)) (M.lift (Ax.bin .gtr t15 (V.int .u64 4294967296)))).bind fun t16 =>
  (M.lift (Ax.pick t13 (V.bool true) t16)).bind fun t17 =>
  M.ite t17
    (M.pure (.ret [(V.int .u64 0), (V.int .i64 1)]))
    ((M.lift (Ax.nilck t0)).bind fun t19 =>
    (M.lift (Ax.faddr 1 t19)).bind fun t20 =>
    (mload none t20).bind fun t21 =>
    (G fn_bits_short [t1]).bind fun t24 =>
    (M.lift (Ax.ext 0 t24)).bind fun t25 =>
    (M.lift (Ax.ext 1 t24)).bind fun t26 =>
    (M.lift (Ax.bin .sub t25 (V.int .i64 1))).bind fun t30 =>
    (G fn_bits_Reader_Take [t0, t30]).bind fun t31 =>
    (M.lift (Ax.ext 0 t31)).bind fun t32 =>
    (M.lift (Ax.ext 1 t31)).bind fun t33 =>
    (M.lift (Ax.bin .neq t33 (V.int .i64 0))).bind fun t35 =>
    (guarded [(0, t35)] (some (0, false)) (M.pure t32)).bind fun t37 =>
    (guarded [(0, t35)] (some (0, false)) (M.pure t26)).bind fun t38 =>
    (guarded [(0, t35)] (some (0, false)) (M.lift (Ax.bin .lss t37 t38))).bind fun t39 =>
    (M.lift (Ax.pick t35 (V.bool true) t39)).bind fun t40 =>
    M.ite t40
      (M.pure (.ret [t32, t33]))
      ((G fn_bits_Reader_Take [t0, (V.int .i64 1)]).bind fun t45 =>
      (M.lift (Ax.ext 0 t45)).bind fun t46 =>
      (M.lift (Ax.ext 1 t45)).bind fun t47 =>
      (M.lift (Ax.bin .neq t47 (V.int .i64 0))).bind fun t49 =>
      M.ite t49
        ((M.lift (Ax.nilck t0)).bind fun t52 =>
        (M.lift (Ax.faddr 1 t52)).bind fun t53 =>
        (mstore 1 t53 t21).bind fun _ =>
        M.pure (.ret [(V.int .u64 0), t47]))
        ((M.lift (Ax.bin .shl t32 (V.int .u64 1))).bind fun t56 =>
        (M.lift (Ax.bin .add t56 t46)).bind fun t58 =>
        (M.lift (Ax.bin .sub t58 t26)).bind fun t60 =>
        M.pure (.ret [t60, (V.int .i64 0)]))))

theorem eq_bits_Reader_TakeNS (G : Sem') (t0 t1 : V) : execK G ir_bits_Reader_TakeNS.rv ir_bits_Reader_TakeNS.body [] [] (params 0 [t0, t1]) = f_bits_Reader_TakeNS G t0 t1 := by kernel_rfl

def d_bits_Reader_TakeNS (G : Sem') : List V → M V
  | [t0, t1] => fin (f_bits_Reader_TakeNS G t0 t1)
  | _ => M.fail

theorem s_bits_Reader_TakeNS {g : Sem'} (hg : Sims g (sem T)) (args : List V) : Sim (d_bits_Reader_TakeNS g args) (sem T fn_bits_Reader_TakeNS args) := by
  unfold d_bits_Reader_TakeNS
  split
  · exact sim_fn tb_bits_Reader_TakeNS (Nat.le_of_ble_eq_true rfl) hg (eq_bits_Reader_TakeNS g _ _)
  · exact sim_fail

/-- (*palanquin/bits.Reader).Take. -/
def f_bits_Reader_Take_0 (G : Sem') (t19 t0 : V) (L : List V) : M Res :=
  (M.lift (Ax.bin .lss (L.getD 1 .undef) t19)).bind fun t21 =>
  M.ite t21
    (M.blk 2 (
      (M.lift (Ax.bin .shl (L.getD 0 .undef) (V.int .u64 1))).bind fun t23 =>
      (M.lift (Ax.nilck t0)).bind fun t25 =>
      (M.lift (Ax.faddr 0 t25)).bind fun t26 =>
      (mload none t26).bind fun t27 =>
      (M.lift (Ax.nilck t0)).bind fun t29 =>
      (M.lift (Ax.faddr 1 t29)).bind fun t30 =>
      (mload none t30).bind fun t31 =>
      (M.lift (Ax.bin .quo t31 (V.int .i64 8))).bind fun t32 =>
      (M.lift (Ax.iaddr none 1 t27 t32)).bind fun t33 =>
      (mload none t33).bind fun t34 =>
      (M.lift (Ax.nilck t0)).bind fun t36 =>
      (M.lift (Ax.faddr 1 t36)).bind fun t37 =>
      (mload none t37).bind fun t38 =>
      (M.lift (Ax.bin .rem t38 (V.int .i64 8))).bind fun t39 =>
      (M.lift (Ax.bin .sub (V.int .i64 7) t39)).bind fun t40 =>
      (M.lift (Ax.bin .shr t34 t40)).bind fun t41 =>
      (M.lift (Ax.bin .and t41 (V.int .u8 1))).bind fun t42 =>
      (M.lift (Ax.cint .u64 t42)).bind fun t43 =>
      (M.lift (Ax.bin .or t23 t43)).bind fun t44 =>
      (M.lift (Ax.nilck t0)).bind fun t46 =>
      (M.lift (Ax.faddr 1 t46)).bind fun t47 =>
      (mload none t47).bind fun t48 =>
      (M.lift (Ax.bin .add t48 (V.int .i64 1))).bind fun t49 =>
      (M.lift (Ax.nilck t0)).bind fun t50 =>
      (M.lift (Ax.faddr 1 t50)).bind fun t51 =>
      (mstore 1 t51 t49).bind fun _ =>
      M.pure (.nrm [t44])) fun L1 =>
    (M.lift (Ax.bin .add (L.getD 1 .undef) (V.int .i64 1))).bind fun t52 =>
    M.pure (.nrm [(L1.getD 0 .undef), t52]))
    (M.pure (.ex 1 [(L.getD 0 .undef)]))

def f_bits_Reader_Take (G : Sem') (t0 t1 : V) : M Res :=
  M.blk 0 (
    (M.lift (Ax.bin .lss t1 (V.int .i64 0))).bind fun t9 =>
    (guarded [(0, t9)] (some (0, false)) (M.pure t1)).bind fun t11 =>
    (guarded [(0, t9)] (some (0, false)) (M.lift (Ax.bin .gtr t11 (V.int .i64 64)))).bind fun t12 =>
    (M.lift (Ax.pick t9 (V.bool true) t12)).bind fun t13 =>
    M.ite t13
      (M.pure (.ret [(V.int .u64 0), (V.int .i64 1)]))
      ((G fn_bits_Reader_Left [t0]).bind fun t17 =>
      (M.lift (Ax.bin .gtr t1 t17)).bind fun t18 =>
      M.ite t18
        (M.pure (.ret [(V.int .u64 0), (V.int .i64 3)]))
        (M.pure (.nrm [])))) fun _ =>
  M.blk 1 (
    M.iter (f_bits_Reader_Take_0 G t1 t0) [(V.int .u64 0), (V.int .i64 0)]) fun L2 =>
  M.pure (.ret [(L2.getD 0 .undef), (V.int .i64 0)])

theorem eq_bits_Reader_Take (G : Sem') (t0 t1 : V) : execK G ir_bits_Reader_Take.rv ir_bits_Reader_Take.body [] [] (params 0 [t0, t1]) = f_bits_Reader_Take G t0 t1 := by kernel_rfl

def d_bits_Reader_Take (G : Sem') : List V → M V
  | [t0, t1] => fin (f_bits_Reader_Take G t0 t1)
  | _ => M.fail

theorem s_bits_Reader_Take {g : Sem'} (hg : Sims g (sem T)) (args : List V) : Sim (d_bits_Reader_Take g args) (sem T fn_bits_Reader_Take args) := by
  unfold d_bits_Reader_Take
  split
  · exact sim_fn tb_bits_Reader_Take (Nat.le_of_ble_eq_true rfl) hg (eq_bits_Reader_Take g _ _)
  · exact sim_fail

/-- (*palanquin/bits.Reader).Left. -/
def f_bits_Reader_Left (G : Sem') (t0 : V) : M Res :=
  (M.lift (Ax.nilck t0)).bind fun t4 =>
  (M.lift (Ax.faddr 0 t4)).bind fun t5 =>
  (mload none t5).bind fun t6 =>
  (M.lift (vlen t6)).bind fun t7 =>
  (M.lift (Ax.bin .mul (V.int .i64 8) t7)).bind fun t8 =>
  (M.lift (Ax.nilck t0)).bind fun t10 =>
  (M.lift (Ax.faddr 1 t10)).bind fun t11 =>
  (mload none t11).bind fun t12 =>
  (M.lift (Ax.bin .sub t8 t12)).bind fun t13 =>
  M.pure (.ret [t13])

theorem eq_bits_Reader_Left (G : Sem') (t0 : V) : execK G ir_bits_Reader_Left.rv ir_bits_Reader_Left.body [] [] (params 0 [t0]) = f_bits_Reader_Left G t0 := by kernel_rfl

def d_bits_Reader_Left (G : Sem') : List V → M V
  | [t0] => fin (f_bits_Reader_Left G t0)
  | _ => M.fail

theorem s_bits_Reader_Left {g : Sem'} (hg : Sims g (sem T)) (args : List V) : Sim (d_bits_Reader_Left g args) (sem T fn_bits_Reader_Left args) := by
  unfold d_bits_Reader_Left
  split
  · exact sim_fn tb_bits_Reader_Left (Nat.le_of_ble_eq_true rfl) hg (eq_bits_Reader_Left g _)
  · exact sim_fail

/-- palanquin/palanquinlaw9.awake. -/
def f_palanquinlaw9_awake (G : Sem') : M Res :=
  (mslit ty_int 1 [(V.int .i64 0)] [(0, 1, (V.int .i64 2))]).bind fun t4 =>
  (M.lift (Ax.build [(V.bool false), (V.bool false), (V.int .i64 0), (V.int .u16 0), (V.bool false), (V.int .i64 0), (V.int .i64 0), V.nils, (V.int .i64 0), V.nils, V.nils, (V.bool false), (V.int .u32 0), (V.bool false), (V.bool false), (V.bool false), V.nils, V.nils, V.nils] [(0, 1, (V.bool true)), (3, 1, (V.int .u16 5)), (16, 1, t4)])).bind fun t5 =>
  (G fn_palanquinlaw9_plain []).bind fun t6 =>
  (G fn_depend_Bytes [t5, t6]).bind fun t7 =>
  (M.lift (Ax.ext 0 t7)).bind fun t8 =>
  (M.lift (Ax.ext 1 t7)).bind fun t9 =>
  (M.lift (Ax.bin .eql t9 (V.int .i64 0))).bind fun t11 =>
  (guarded [(0, t11)] (some (0, true)) (M.pure t8)).bind fun t13 =>
  (guarded [(0, t11)] (some (0, true)) (M.lift (vlen t13))).bind fun t14 =>
  (guarded [(0, t11)] (some (0, true)) (M.lift (Ax.bin .eql t14 (V.int .i64 3)))).bind fun t15 =>
  (M.lift (Ax.pick t11 t15 (V.bool false))).bind fun t16 =>
  (guarded [(0, t16)] (some (0, true)) (M.pure t8)).bind fun t18 =>
  (guarded [(0, t16)] (some (0, true)) (M.lift (Ax.iaddr none 1 t18 (V.int .i64 0)))).bind fun t19 =>
  (guarded [(0, t16)] (some (0, true)) (mload none t19)).bind fun t20 =>
  (guarded [(0, t16)] (some (0, true)) (M.lift (Ax.bin .eql t20 (V.int .u8 128)))).bind fun t21 =>
  (M.lift (Ax.pick t16 t21 (V.bool false))).bind fun t22 =>
  (guarded [(0, t22)] (some (0, true)) (M.pure t8)).bind fun t24 =>
  (guarded [(0, t22)] (some (0, true)) (M.lift (Ax.iaddr none 1 t24 (V.int .i64 1)))).bind fun t25 =>
  (guarded [(0, t22)] (some (0, true)) (mload none t25)).bind fun t26 =>
  (guarded [(0, t22)] (some (0, true)) (M.lift (Ax.bin .eql t26 (V.int .u8 0)))).bind fun t27 =>
  (M.lift (Ax.pick t22 t27 (V.bool false))).bind fun t28 =>
  (guarded [(0, t28)] (some (0, true)) (M.pure t8)).bind fun t30 =>
  (guarded [(0, t28)] (some (0, true)) (M.lift (Ax.iaddr none 1 t30 (V.int .i64 2)))).bind fun t31 =>
  (guarded [(0, t28)] (some (0, true)) (mload none t31)).bind fun t32 =>
  (guarded [(0, t28)] (some (0, true)) (M.lift (Ax.bin .eql t32 (V.int .u8 5)))).bind fun t33 =>
  (M.lift (Ax.pick t28 t33 (V.bool false))).bind fun t34 =>
  (guarded [(0, t34)] (some (0, true)) (G fn_palanquinlaw9_plain [])).bind fun t36 =>
  (guarded [(0, t34)] (some (0, true)) (G fn_depend_Fine [t36])).bind fun t37 =>
  (M.lift (Ax.pick t34 t37 (V.bool false))).bind fun t38 =>
  M.pure (.ret [t38])

theorem eq_palanquinlaw9_awake (G : Sem') : execK G ir_palanquinlaw9_awake.rv ir_palanquinlaw9_awake.body [] [] (params 0 []) = f_palanquinlaw9_awake G := by kernel_rfl

def d_palanquinlaw9_awake (G : Sem') : List V → M V
  | [] => fin (f_palanquinlaw9_awake G)
  | _ => M.fail

theorem s_palanquinlaw9_awake {g : Sem'} (hg : Sims g (sem T)) (args : List V) : Sim (d_palanquinlaw9_awake g args) (sem T fn_palanquinlaw9_awake args) := by
  unfold d_palanquinlaw9_awake
  split
  · exact sim_fn tb_palanquinlaw9_awake (Nat.le_of_ble_eq_true rfl) hg (eq_palanquinlaw9_awake g)
  · exact sim_fail

/-- palanquin/depend.Of. -/
def f_depend_Of (G : Sem') (t0 t1 : V) : M Res :=
  (mbox ty_depend_Frame t0).bind fun t2 =>
  (mbox ty_depend_Structure t1).bind fun t3 =>
  (mbox ty_depend_Template (V.agg [(V.int .i64 0), (V.int .i64 0), V.nils, V.nils, V.nils])).bind fun t4 =>
  (mload (some 19) t2).bind fun t7 =>
  (mload (some 6) t3).bind fun t8 =>
  (G fn_depend_holds [t7, t8]).bind fun t9 =>
  (mbox ty_depend_Structure (V.agg [(V.int .i64 0), (V.int .i64 0), V.nils, (V.int .i64 0), V.nils, V.nils])).bind fun t6 =>
  (mstore 6 t6 t9).bind fun _ =>
  (mload (some 6) t6).bind fun t10 =>
  (G fn_depend_Fine [t10]).bind fun t11 =>
  (M.lift (Ax.un .not t11)).bind fun t12 =>
  M.ite t12
    ((M.lift (Ax.build [(V.int .i64 0), (V.int .i64 0), V.nils, V.nils, V.nils] [])).bind fun t13 =>
    (mstore 5 t4 t13).bind fun _ =>
    (mload (some 5) t4).bind fun r0 =>
    M.pure (.ret [r0, (V.bool false)]))
    ((mload (some 6) t6).bind fun t14 =>
    (M.lift (Ax.faddr 2 t2)).bind fun t15 =>
    (mload none t15).bind fun t16 =>
    (G fn_depend_template [t14, t16]).bind fun t17 =>
    (M.lift (Ax.ext 0 t17)).bind fun t18 =>
    (M.lift (Ax.ext 1 t17)).bind fun t19 =>
    (mstore 5 t4 t18).bind fun _ =>
    (mload (some 5) t4).bind fun r0 =>
    M.pure (.ret [r0, t19]))

theorem eq_depend_Of (G : Sem') (t0 t1 : V) : execK G ir_depend_Of.rv ir_depend_Of.body [] [] (params 0 [t0, t1]) = f_depend_Of G t0 t1 := by kernel_rfl

def d_depend_Of (G : Sem') : List V → M V
  | [t0, t1] => fin (f_depend_Of G t0 t1)
  | _ => M.fail

theorem s_depend_Of {g : Sem'} (hg : Sims g (sem T)) (args : List V) : Sim (d_depend_Of g args) (sem T fn_depend_Of args) := by
  unfold d_depend_Of
  split
  · exact sim_fn tb_depend_Of (Nat.le_of_ble_eq_true rfl) hg (eq_depend_Of g _ _)
  · exact sim_fail

/-- palanquin/depend.Bytes. -/
def f_depend_Bytes_0 (G : Sem') (t69 t68 t6 t4 t5 : V) (L : List V) : M Res :=
  (M.lift (Ax.bin .lss (L.getD 0 .undef) t69)).bind fun t71 =>
  M.ite t71
    (M.blk 1 (
      (M.lift (Ax.iaddr none 1 t68 (L.getD 0 .undef))).bind fun t72 =>
      (mload none t72).bind fun t73 =>
      (mload (some 1) t6).bind fun t74 =>
      (G fn_depend_writer_bit [t74, t73]).bind fun t76 =>
      M.pure (.nrm [])) fun _ =>
    (M.lift (Ax.bin .add (L.getD 0 .undef) (V.int .i64 1))).bind fun t77 =>
    M.pure (.nrm [t77]))
    (M.pure (.ex 0 []))

def f_depend_Bytes (G : Sem') (t0 t1 : V) : M Res :=
  (mbox ty_depend_Frame t0).bind fun t2 =>
  (mbox ty_depend_Structure t1).bind fun t3 =>
  (mload (some 19) t2).bind fun t9 =>
  (mload (some 6) t3).bind fun t10 =>
  (G fn_depend_Good [t9, t10]).bind fun t11 =>
  (M.lift (Ax.un .not t11)).bind fun t12 =>
  M.ite t12
    (M.pure (.ret [V.nils, (V.int .i64 1)]))
    ((G fn_bits_New []).bind fun t13 =>
    (M.lift (Ax.build [V.nilp] [(0, 1, t13)])).bind fun t14 =>
    (mbox ty_depend_writer (V.agg [V.nilp])).bind fun t6 =>
    (mstore 1 t6 t14).bind fun _ =>
    (mload (some 1) t6).bind fun t15 =>
    (M.lift (Ax.faddr 0 t2)).bind fun t16 =>
    (mload none t16).bind fun t17 =>
    (G fn_depend_writer_bit [t15, t17]).bind fun t18 =>
    (mload (some 1) t6).bind fun t19 =>
    (M.lift (Ax.faddr 1 t2)).bind fun t20 =>
    (mload none t20).bind fun t21 =>
    (G fn_depend_writer_bit [t19, t21]).bind fun t22 =>
    (mload (some 1) t6).bind fun t23 =>
    (M.lift (Ax.faddr 2 t2)).bind fun t24 =>
    (mload none t24).bind fun t25 =>
    (G fn_depend_writer_num [t23, t25, (V.int .i64 6)]).bind fun t26 =>
    (mload (some 1) t6).bind fun t27 =>
    (M.lift (Ax.faddr 3 t2)).bind fun t28 =>
    (mload none t28).bind fun t29 =>
    (M.lift (Ax.cint .i64 t29)).bind fun t30 =>
    (G fn_depend_writer_num [t27, t30, (V.int .i64 16)]).bind fun t31 =>
    (M.lift (Ax.faddr 4 t2)).bind fun t32 =>
    (mload none t32).bind fun t33 =>
    (M.lift (Ax.un .not t33)).bind fun t34 =>
    (guarded [(0, t34)] (some (0, true)) (M.lift (Ax.faddr 11 t2))).bind fun t36 =>
    (guarded [(0, t34)] (some (0, true)) (mload none t36)).bind fun t37 =>
    (guarded [(0, t34)] (some (0, true)) (M.lift (Ax.un .not t37))).bind fun t38 =>
    (M.lift (Ax.pick t34 t38 (V.bool false))).bind fun t39 =>
    (guarded [(0, t39)] (some (0, true)) (M.lift (Ax.faddr 13 t2))).bind fun t41 =>
    (guarded [(0, t39)] (some (0, true)) (mload none t41)).bind fun t42 =>
    (guarded [(0, t39)] (some (0, true)) (M.lift (Ax.un .not t42))).bind fun t43 =>
    (M.lift (Ax.pick t39 t43 (V.bool false))).bind fun t44 =>
    (guarded [(0, t44)] (some (0, true)) (M.lift (Ax.faddr 14 t2))).bind fun t46 =>
    (guarded [(0, t44)] (some (0, true)) (mload none t46)).bind fun t47 =>
    (guarded [(0, t44)] (some (0, true)) (M.lift (Ax.un .not t47))).bind fun t48 =>
    (M.lift (Ax.pick t44 t48 (V.bool false))).bind fun t49 =>
    (guarded [(0, t49)] (some (0, true)) (M.lift (Ax.faddr 15 t2))).bind fun t51 =>
    (guarded [(0, t49)] (some (0, true)) (mload none t51)).bind fun t52 =>
    (guarded [(0, t49)] (some (0, true)) (M.lift (Ax.un .not t52))).bind fun t53 =>
    (M.lift (Ax.pick t49 t53 (V.bool false))).bind fun t54 =>
    M.ite t54
      ((M.lift (Ax.faddr 0 t6)).bind fun t55 =>
      (mload none t55).bind fun t56 =>
      (G fn_bits_Writer_Bytes [t56]).bind fun t57 =>
      M.pure (.ret [t57, (V.int .i64 0)]))
      ((M.lift (Ax.faddr 4 t2)).bind fun t58 =>
      (mload none t58).bind fun t59 =>
      (M.lift (Ax.faddr 11 t2)).bind fun t60 =>
      (mload none t60).bind fun t61 =>
      (M.lift (Ax.faddr 13 t2)).bind fun t62 =>
      (mload none t62).bind fun t63 =>
      (M.lift (Ax.faddr 14 t2)).bind fun t64 =>
      (mload none t64).bind fun t65 =>
      (M.lift (Ax.faddr 15 t2)).bind fun t66 =>
      (mload none t66).bind fun t67 =>
      (mslit ty_bool 5 [(V.bool false)] [(0, 1, t59), (1, 1, t61), (2, 1, t63), (3, 1, t65), (4, 1, t67)]).bind fun t68 =>
      (M.lift (vlen t68)).bind fun t69 =>
      M.blk 0 (
        M.iter (f_depend_Bytes_0 G t69 t68 t6 V.nils (V.int .i64 0)) [(V.int .i64 0)]) fun _ =>
      (M.lift (Ax.faddr 4 t2)).bind fun t78 =>
      (mload none t78).bind fun t79 =>
      M.join (M.ite t79
        ((mload (some 1) t6).bind fun t80 =>
        (M.lift (Ax.faddr 5 t2)).bind fun t81 =>
        (mload (some 6) t81).bind fun t82 =>
        (G fn_depend_writer_structure [t80, t82]).bind fun t83 =>
        M.pure (.nrm []))
        (M.pure (.nrm []))) fun _ =>
      (M.lift (Ax.faddr 11 t2)).bind fun t84 =>
      (mload none t84).bind fun t85 =>
      M.join (M.ite t85
        ((mload (some 1) t6).bind fun t86 =>
        (M.lift (Ax.faddr 12 t2)).bind fun t87 =>
        (mload none t87).bind fun t88 =>
        (M.lift (Ax.cint .i64 t88)).bind fun t89 =>
        (mload (some 19) t2).bind fun t90 =>
        (mload (some 6) t3).bind fun t91 =>
        M.getH.bind fun h0 =>
        (G fn_depend_holds [t90, t91]).bind fun t92 =>
        M.getH.bind fun h0' =>
        (M.unch t87 h0 h0').bind fun _ =>
        (M.unch t6 h0 h0').bind fun _ =>
        (M.lift (Ax.field 1 none t92)).bind fun t93 =>
        (G fn_depend_writer_num [t86, t89, t93]).bind fun t94 =>
        M.pure (.nrm []))
        (M.pure (.nrm []))) fun _ =>
      (M.lift (Ax.faddr 13 t2)).bind fun t95 =>
      (mload none t95).bind fun t96 =>
      M.join (M.ite t96
        ((mload (some 1) t6).bind fun t97 =>
        (M.lift (Ax.faddr 16 t2)).bind fun t98 =>
        (mload none t98).bind fun t99 =>
        (G fn_depend_writer_nums [t97, t99, (V.int .i64 2)]).bind fun t100 =>
        M.pure (.nrm []))
        (M.pure (.nrm []))) fun _ =>
      (M.lift (Ax.faddr 14 t2)).bind fun t101 =>
      (mload none t101).bind fun t102 =>
      M.join (M.ite t102
        ((mload (some 1) t6).bind fun t103 =>
        (M.lift (Ax.faddr 17 t2)).bind fun t104 =>
        (mload none t104).bind fun t105 =>
        (G fn_depend_writer_own [t103, t105]).bind fun t106 =>
        M.pure (.nrm []))
        (M.pure (.nrm []))) fun _ =>
      (M.lift (Ax.faddr 15 t2)).bind fun t107 =>
      (mload none t107).bind fun t108 =>
      M.join (M.ite t108
        ((mload (some 1) t6).bind fun t109 =>
        (M.lift (Ax.faddr 18 t2)).bind fun t110 =>
        (mload none t110).bind fun t111 =>
        (G fn_depend_writer_nums [t109, t111, (V.int .i64 8)]).bind fun t112 =>
        M.pure (.nrm []))
        (M.pure (.nrm []))) fun _ =>
      (M.lift (Ax.faddr 0 t6)).bind fun t113 =>
      (mload none t113).bind fun t114 =>
      (G fn_bits_Writer_Bytes [t114]).bind fun t115 =>
      M.pure (.ret [t115, (V.int .i64 0)])))

theorem eq_depend_Bytes (G : Sem') (t0 t1 : V) : execK G ir_depend_Bytes.rv ir_depend_Bytes.body [] [] (params 0 [t0, t1]) = f_depend_Bytes G t0 t1 := by kernel_rfl

def d_depend_Bytes (G : Sem') : List V → M V
  | [t0, t1] => fin (f_depend_Bytes G t0 t1)
  | _ => M.fail

theorem s_depend_Bytes {g : Sem'} (hg : Sims g (sem T)) (args : List V) : Sim (d_depend_Bytes g args) (sem T fn_depend_Bytes args) := by
  unfold d_depend_Bytes
  split
  · exact sim_fn tb_depend_Bytes (Nat.le_of_ble_eq_true rfl) hg (eq_depend_Bytes g _ _)
  · exact sim_fail

/-- palanquin/depend.Fine. -/
def f_depend_Fine_0 (G : Sem') (t70 t69 : V) (L : List V) : M Res :=
  (M.lift (Ax.bin .lss (L.getD 0 .undef) t70)).bind fun t72 =>
  M.ite t72
    (M.blk 1 (
      (M.lift (Ax.iaddr none 2 t69 (L.getD 0 .undef))).bind fun t73 =>
      (mload (some 2) t73).bind fun t74 =>
      (mbox ty_2_int (V.agg [(V.int .i64 0), (V.int .i64 0)])).bind fun t6 =>
      (mstore 2 t6 t74).bind fun _ =>
      (M.lift (vslice (.arr 2) 1 t6 none none none)).bind fun t75 =>
      (G fn_depend_within [t75, (V.int .i64 2), (V.int .i64 1), (V.int .i64 65536)]).bind fun t76 =>
      (M.lift (Ax.un .not t76)).bind fun t77 =>
      M.ite t77
        (M.pure (.ret [(V.bool false)]))
        (M.pure (.nrm []))) fun _ =>
    (M.lift (Ax.bin .add (L.getD 0 .undef) (V.int .i64 1))).bind fun t78 =>
    M.pure (.nrm [t78]))
    (M.pure (.ex 0 []))

def f_depend_Fine (G : Sem') (t0 : V) : M Res :=
  (mbox ty_depend_Structure t0).bind fun t1 =>
  (M.lift (Ax.faddr 1 t1)).bind fun t7 =>
  (mload none t7).bind fun t8 =>
  (M.lift (Ax.faddr 3 t1)).bind fun t9 =>
  (mload none t9).bind fun t10 =>
  (M.lift (Ax.bin .eql t10 (V.int .i64 0))).bind fun t11 =>
  M.join (M.ite t11
    (M.pure (.nrm [(V.int .i64 0)]))
    (M.pure (.nrm [t8]))) fun L0 =>
  (M.lift (Ax.faddr 0 t1)).bind fun t12 =>
  (mload none t12).bind fun t13 =>
  (M.lift (Ax.bin .lss t13 (V.int .i64 0))).bind fun t14 =>
  (guarded [(0, t14)] (some (0, false)) (M.lift (Ax.faddr 0 t1))).bind fun t16 =>
  (guarded [(0, t14)] (some (0, false)) (mload none t16)).bind fun t17 =>
  (guarded [(0, t14)] (some (0, false)) (M.lift (Ax.bin .geq t17 (V.int .i64 64)))).bind fun t18 =>
  (M.lift (Ax.pick t14 (V.bool true) t18)).bind fun t19 =>
  (guarded [(0, t19)] (some (0, false)) (M.lift (Ax.faddr 1 t1))).bind fun t21 =>
  (guarded [(0, t19)] (some (0, false)) (mload none t21)).bind fun t22 =>
  (guarded [(0, t19)] (some (0, false)) (M.lift (Ax.bin .lss t22 (V.int .i64 1)))).bind fun t23 =>
  (M.lift (Ax.pick t19 (V.bool true) t23)).bind fun t24 =>
  (guarded [(0, t24)] (some (0, false)) (M.lift (Ax.faddr 1 t1))).bind fun t26 =>
  (guarded [(0, t24)] (some (0, false)) (mload none t26)).bind fun t27 =>
  (guarded [(0, t24)] (some (0, false)) (M.lift (Ax.bin .gtr t27 (V.int .i64 32)))).bind fun t28 =>
  (M.lift (Ax.pick t24 (V.bool true) t28)).bind fun t29 =>
  (guarded [(0, t29)] (some (0, false)) (M.lift (Ax.faddr 3 t1))).bind fun t31 =>
  (guarded [(0, t29)] (some (0, false)) (mload none t31)).bind fun t32 =>
  (guarded [(0, t29)] (some (0, false)) (M.lift (Ax.bin .lss t32 (V.int .i64 0)))).bind fun t33 =>
  (M.lift (Ax.pick t29 (V.bool true) t33)).bind fun t34 =>
  (guarded [(0, t34)] (some (0, false)) (M.lift (Ax.faddr 3 t1))).bind fun t36 =>
  (guarded [(0, t34)] (some (0, false)) (mload none t36)).bind fun t37 =>
  (guarded [(0, t34)] (some (0, false)) (M.lift (Ax.faddr 1 t1))).bind fun t38 =>
  (guarded [(0, t34)] (some (0, false)) (mload none t38)).bind fun t39 =>
  (guarded [(0, t34)] (some (0, false)) (M.lift (Ax.bin .gtr t37 t39))).bind fun t40 =>
  (M.lift (Ax.pick t34 (V.bool true) t40)).bind fun t41 =>
  (guarded [(0, t41)] (some (0, false)) (M.lift (Ax.faddr 4 t1))).bind fun t43 =>
  (guarded [(0, t41)] (some (0, false)) (mload none t43)).bind fun t44 =>
  (guarded [(0, t41)] (some (0, false)) (M.pure (L0.getD 0 .undef))).bind fun t45 =>
  (guarded [(0, t41)] (some (0, false)) (M.lift (Ax.faddr 3 t1))).bind fun t46 =>
  (guarded [(0, t41)] (some (0, false)) (mload none t46)).bind fun t47 =>
  (guarded [(0, t41)] (some (0, false)) (M.lift (Ax.bin .sub t47 (V.int .i64 1)))).bind fun t48 =>
  (guarded [(0, t41)] (some (0, false)) (G fn_depend_within [t44, t45, (V.int .i64 0), t48])).bind fun t49 =>
  (guarded [(0, t41)] (some (0, false)) (M.lift (Ax.un .not t49))).bind fun t50 =>
  (M.lift (Ax.pick t41 (V.bool true) t50)).bind fun t51 =>
  (guarded [(0, t51)] (some (0, false)) (mload (some 6) t1)).bind fun t53 =>
  (guarded [(0, t51)] (some (0, false)) (G fn_depend_layers [t53])).bind fun t54 =>
  (guarded [(0, t51)] (some (0, false)) (M.lift (Ax.un .not t54))).bind fun t55 =>
  (M.lift (Ax.pick t51 (V.bool true) t55)).bind fun t56 =>
  M.ite t56
    (M.pure (.ret [(V.bool false)]))
    ((M.lift (Ax.faddr 5 t1)).bind fun t57 =>
    (mload none t57).bind fun t58 =>
    (M.lift (vlen t58)).bind fun t59 =>
    (M.lift (Ax.bin .neq t59 (V.int .i64 0))).bind fun t61 =>
    (guarded [(0, t61)] (some (0, true)) (M.pure t59)).bind fun t63 =>
    (guarded [(0, t61)] (some (0, true)) (mload (some 6) t1)).bind fun t64 =>
    (guarded [(0, t61)] (some (0, true)) (G fn_depend_spatial [t64])).bind fun t65 =>
    (guarded [(0, t61)] (some (0, true)) (M.lift (Ax.bin .neq t63 t65))).bind fun t66 =>
    (M.lift (Ax.pick t61 t66 (V.bool false))).bind fun t67 =>
    M.ite t67
      (M.pure (.ret [(V.bool false)]))
      ((M.lift (Ax.faddr 5 t1)).bind fun t68 =>
      (mload none t68).bind fun t69 =>
      (M.lift (vlen t69)).bind fun t70 =>
      M.blk 0 (
        M.iter (f_depend_Fine_0 G t70 t69) [(V.int .i64 0)]) fun _ =>
      (M.lift (Ax.faddr 2 t1)).bind fun t79 =>
      (mload none t79).bind fun t80 =>
      (M.pure (.fn fn_depend_Fine_1 [t1])).bind fun t81 =>
      (G fn_slices_ContainsFunc_depend_Template_depend_Template [t80, t81]).bind fun t82 =>
      (M.lift (Ax.un .not t82)).bind fun t83 =>
      M.pure (.ret [t83])))

theorem eq_depend_Fine (G : Sem') (t0 : V) : execK G ir_depend_Fine.rv ir_depend_Fine.body [] [] (params 0 [t0]) = f_depend_Fine G t0 := by kernel_rfl

def d_depend_Fine (G : Sem') : List V → M V
  | [t0] => fin (f_depend_Fine G t0)
  | _ => M.fail

theorem s_depend_Fine {g : Sem'} (hg : Sims g (sem T)) (args : List V) : Sim (d_depend_Fine g args) (sem T fn_depend_Fine args) := by
  unfold d_depend_Fine
  split
  · exact sim_fn tb_depend_Fine (Nat.le_of_ble_eq_true rfl) hg (eq_depend_Fine g _)
  · exact sim_fail

/-- palanquin/depend.Good. -/
def f_depend_Good (G : Sem') (t0 t1 : V) : M Res :=
  (mbox ty_depend_Frame t0).bind fun t2 =>
  (mbox ty_depend_Structure t1).bind fun t3 =>
  (mload (some 19) t2).bind fun t9 =>
  (mload (some 6) t3).bind fun t10 =>
  (G fn_depend_Of [t9, t10]).bind fun t11 =>
  (M.lift (Ax.ext 0 t11)).bind fun t12 =>
  (M.lift (Ax.ext 1 t11)).bind fun t13 =>
  (mbox ty_depend_Template (V.agg [(V.int .i64 0), (V.int .i64 0), V.nils, V.nils, V.nils])).bind fun t5 =>
  (mstore 5 t5 t12).bind fun _ =>
  (mload (some 19) t2).bind fun t14 =>
  (mload (some 6) t3).bind fun t15 =>
  (G fn_depend_holds [t14, t15]).bind fun t16 =>
  (mbox ty_depend_Structure (V.agg [(V.int .i64 0), (V.int .i64 0), V.nils, (V.int .i64 0), V.nils, V.nils])).bind fun t7 =>
  (mstore 6 t7 t16).bind fun _ =>
  M.blk 0 (
    (M.lift (Ax.un .not t13)).bind fun t19 =>
    (guarded [(0, t19)] (some (0, false)) (M.lift (Ax.faddr 4 t2))).bind fun t21 =>
    (guarded [(0, t19)] (some (0, false)) (mload none t21)).bind fun t22 =>
    (guarded [(0, t19)] (some (0, false)) (M.lift (Ax.un .not t22))).bind fun t23 =>
    (guarded [(0, t19)] (some (0, false)) (M.pure t23)).bind fun t24 =>
    (guarded [(0, t24)] (some (0, true)) (M.lift (Ax.faddr 5 t2))).bind fun t25 =>
    (guarded [(0, t24)] (some (0, true)) (mload (some 6) t25)).bind fun t26 =>
    (guarded [(0, t24)] (some (0, true)) (G fn_depend_none [t26])).bind fun t27 =>
    (guarded [(0, t24)] (some (0, true)) (M.lift (Ax.un .not t27))).bind fun t28 =>
    (guarded [(0, t19)] (some (0, false)) (M.lift (Ax.pick t24 t28 (V.bool false)))).bind fun t29 =>
    (M.lift (Ax.pick t19 (V.bool true) t29)).bind fun t30 =>
    M.ite t30
      (M.pure (.ret [(V.bool false)]))
      ((M.lift (Ax.faddr 11 t2)).bind fun t32 =>
      (mload none t32).bind fun t33 =>
      (M.lift (Ax.un .not t33)).bind fun t34 =>
      (guarded [(0, t34)] (some (0, true)) (M.lift (Ax.faddr 12 t2))).bind fun t36 =>
      (guarded [(0, t34)] (some (0, true)) (mload none t36)).bind fun t37 =>
      (guarded [(0, t34)] (some (0, true)) (M.lift (Ax.bin .neq t37 (V.int .u32 0)))).bind fun t38 =>
      (M.lift (Ax.pick t34 t38 (V.bool false))).bind fun t39 =>
      (guarded [(0, t39)] (some (0, false)) (M.lift (Ax.faddr 12 t2))).bind fun t41 =>
      (guarded [(0, t39)] (some (0, false)) (mload none t41)).bind fun t42 =>
      (guarded [(0, t39)] (some (0, false)) (M.lift (Ax.cint .u64 t42))).bind fun t43 =>
      (guarded [(0, t39)] (some (0, false)) (M.lift (Ax.faddr 1 t7))).bind fun t44 =>
      (guarded [(0, t39)] (some (0, false)) (mload none t44)).bind fun t45 =>
      (guarded [(0, t39)] (some (0, false)) (M.lift (Ax.bin .shr t43 t45))).bind fun t46 =>
      (guarded [(0, t39)] (some (0, false)) (M.lift (Ax.bin .neq t46 (V.int .u64 0)))).bind fun t47 =>
      (M.lift (Ax.pick t39 (V.bool true) t47)).bind fun t48 =>
      M.ite t48
        (M.pure (.ret [(V.bool false)]))
        ((M.lift (Ax.faddr 13 t2)).bind fun t50 =>
        (mload none t50).bind fun t51 =>
        (guarded [(0, t51)] (some (0, true)) (M.lift (Ax.faddr 16 t2))).bind fun t53 =>
        (guarded [(0, t51)] (some (0, true)) (mload none t53)).bind fun t54 =>
        (guarded [(0, t51)] (some (0, true)) (M.lift (Ax.faddr 1 t7))).bind fun t55 =>
        (guarded [(0, t51)] (some (0, true)) (mload none t55)).bind fun t56 =>
        (guarded [(0, t51)] (some (0, true)) (G fn_depend_within [t54, t56, (V.int .i64 0), (V.int .i64 3)])).bind fun t57 =>
        (guarded [(0, t51)] (some (0, true)) (M.lift (Ax.un .not t57))).bind fun t58 =>
        (M.lift (Ax.pick t51 t58 (V.bool false))).bind fun t59 =>
        (guarded [(0, t59)] (some (0, false)) (M.lift (Ax.faddr 13 t2))).bind fun t61 =>
        (guarded [(0, t59)] (some (0, false)) (mload none t61)).bind fun t62 =>
        (guarded [(0, t59)] (some (0, false)) (M.lift (Ax.un .not t62))).bind fun t63 =>
        (guarded [(0, t59)] (some (0, false)) (M.pure t63)).bind fun t64 =>
        (guarded [(0, t64)] (some (0, true)) (M.lift (Ax.faddr 16 t2))).bind fun t65 =>
        (guarded [(0, t64)] (some (0, true)) (mload none t65)).bind fun t66 =>
        (guarded [(0, t64)] (some (0, true)) (M.lift (Ax.faddr 2 t5))).bind fun t67 =>
        (guarded [(0, t64)] (some (0, true)) (mload none t67)).bind fun t68 =>
        (guarded [(0, t64)] (some (0, true)) (G fn_slices_Equal_int_int [t66, t68])).bind fun t69 =>
        (guarded [(0, t64)] (some (0, true)) (M.lift (Ax.un .not t69))).bind fun t70 =>
        (guarded [(0, t59)] (some (0, false)) (M.lift (Ax.pick t64 t70 (V.bool false)))).bind fun t71 =>
        (M.lift (Ax.pick t59 (V.bool true) t71)).bind fun t72 =>
        M.ite t72
          (M.pure (.ret [(V.bool false)]))
          ((M.lift (Ax.faddr 14 t2)).bind fun t74 =>
          (mload none t74).bind fun t75 =>
          (guarded [(0, t75)] (some (0, true)) (M.lift (Ax.faddr 17 t2))).bind fun t77 =>
          (guarded [(0, t75)] (some (0, true)) (mload none t77)).bind fun t78 =>
          (guarded [(0, t75)] (some (0, true)) (G fn_depend_diffs [t78, (V.int .i64 16), (V.int .i64 4096)])).bind fun t79 =>
          (guarded [(0, t75)] (some (0, true)) (M.lift (Ax.un .not t79))).bind fun t80 =>
          (M.lift (Ax.pick t75 t80 (V.bool false))).bind fun t81 =>
          (guarded [(0, t81)] (some (0, false)) (M.lift (Ax.faddr 14 t2))).bind fun t83 =>
          (guarded [(0, t81)] (some (0, false)) (mload none t83)).bind fun t84 =>
          (guarded [(0, t81)] (some (0, false)) (M.lift (Ax.un .not t84))).bind fun t85 =>
          (guarded [(0, t81)] (some (0, false)) (M.pure t85)).bind fun t86 =>
          (guarded [(0, t86)] (some (0, true)) (M.lift (Ax.faddr 17 t2))).bind fun t87 =>
          (guarded [(0, t86)] (some (0, true)) (mload none t87)).bind fun t88 =>
          (guarded [(0, t86)] (some (0, true)) (M.lift (Ax.faddr 3 t5))).bind fun t89 =>
          (guarded [(0, t86)] (some (0, true)) (mload none t89)).bind fun t90 =>
          (guarded [(0, t86)] (some (0, true)) (G fn_slices_Equal_int_int [t88, t90])).bind fun t91 =>
          (guarded [(0, t86)] (some (0, true)) (M.lift (Ax.un .not t91))).bind fun t92 =>
          (guarded [(0, t81)] (some (0, false)) (M.lift (Ax.pick t86 t92 (V.bool false)))).bind fun t93 =>
          (M.lift (Ax.pick t81 (V.bool true) t93)).bind fun t94 =>
          M.ite t94
            (M.pure (.ret [(V.bool false)]))
            (M.pure (.nrm [])))))) fun _ =>
  (M.lift (Ax.faddr 15 t2)).bind fun t95 =>
  (mload none t95).bind fun t96 =>
  M.ite t96
    ((M.lift (Ax.faddr 18 t2)).bind fun t97 =>
    (mload none t97).bind fun t98 =>
    (M.lift (Ax.faddr 3 t7)).bind fun t99 =>
    (mload none t99).bind fun t100 =>
    (G fn_depend_within [t98, t100, (V.int .i64 0), (V.int .i64 255)]).bind fun t101 =>
    M.pure (.ret [t101]))
    ((M.lift (Ax.faddr 18 t2)).bind fun t102 =>
    (mload none t102).bind fun t103 =>
    (M.lift (Ax.faddr 4 t5)).bind fun t104 =>
    (mload none t104).bind fun t105 =>
    (G fn_slices_Equal_int_int [t103, t105]).bind fun t106 =>
    M.pure (.ret [t106]))

theorem eq_depend_Good (G : Sem') (t0 t1 : V) : execK G ir_depend_Good.rv ir_depend_Good.body [] [] (params 0 [t0, t1]) = f_depend_Good G t0 t1 := by kernel_rfl

def d_depend_Good (G : Sem') : List V → M V
  | [t0, t1] => fin (f_depend_Good G t0 t1)
  | _ => M.fail

theorem s_depend_Good {g : Sem'} (hg : Sims g (sem T)) (args : List V) : Sim (d_depend_Good g args) (sem T fn_depend_Good args) := by
  unfold d_depend_Good
  split
  · exact sim_fn tb_depend_Good (Nat.le_of_ble_eq_true rfl) hg (eq_depend_Good g _ _)
  · exact sim_fail

/-- palanquin/depend.Layers. -/
def f_depend_Layers_0 (G : Sem') (t24 t23 t1 : V) (L : List V) : M Res :=
  (M.lift (Ax.bin .lss (L.getD 3 .undef) t24)).bind fun t26 =>
  M.ite t26
    (M.blk 1 (
      (M.lift (Ax.iaddr none 5 t23 (L.getD 3 .undef))).bind fun t27 =>
      (mload (some 5) t27).bind fun t28 =>
      (mbox ty_depend_Template (V.agg [(V.int .i64 0), (V.int .i64 0), V.nils, V.nils, V.nils])).bind fun t8 =>
      (mstore 5 t8 t28).bind fun _ =>
      (M.lift (Ax.faddr 2 t8)).bind fun t29 =>
      (mload none t29).bind fun t30 =>
      (M.lift (Ax.iaddr none 1 t30 t1)).bind fun t32 =>
      (mload none t32).bind fun t33 =>
      (M.lift (Ax.bin .neq t33 (V.int .i64 0))).bind fun t34 =>
      M.join (M.ite t34
        ((M.lift (Ax.faddr 0 t8)).bind fun t36 =>
        (mload none t36).bind fun t37 =>
        (M.lift (Ax.minmax true (L.getD 0 .undef) [t37])).bind fun t38 =>
        (M.lift (Ax.faddr 1 t8)).bind fun t40 =>
        (mload none t40).bind fun t41 =>
        (M.lift (Ax.minmax true (L.getD 1 .undef) [t41])).bind fun t42 =>
        M.pure (.nrm [t38, t42, (V.bool true)]))
        (M.pure (.nrm [(L.getD 0 .undef), (L.getD 1 .undef), (L.getD 2 .undef)]))) fun L0 =>
      M.pure (.nrm [(L0.getD 0 .undef), (L0.getD 1 .undef), (L0.getD 2 .undef)])) fun L1 =>
    (M.lift (Ax.bin .add (L.getD 3 .undef) (V.int .i64 1))).bind fun t43 =>
    M.pure (.nrm [(L1.getD 0 .undef), (L1.getD 1 .undef), (L1.getD 2 .undef), t43]))
    (M.pure (.ex 0 [(L.getD 0 .undef), (L.getD 1 .undef), (L.getD 2 .undef)]))

def f_depend_Layers (G : Sem') (t0 t1 : V) : M Res :=
  (mbox ty_depend_Structure t0).bind fun t2 =>
  (mload (some 6) t2).bind fun t9 =>
  (G fn_depend_Fine [t9]).bind fun t10 =>
  (M.lift (Ax.un .not t10)).bind fun t11 =>
  (guarded [(0, t11)] (some (0, false)) (M.pure t1)).bind fun t13 =>
  (guarded [(0, t11)] (some (0, false)) (M.lift (Ax.bin .lss t13 (V.int .i64 0)))).bind fun t14 =>
  (M.lift (Ax.pick t11 (V.bool true) t14)).bind fun t15 =>
  (guarded [(0, t15)] (some (0, false)) (M.pure t1)).bind fun t17 =>
  (guarded [(0, t15)] (some (0, false)) (M.lift (Ax.faddr 1 t2))).bind fun t18 =>
  (guarded [(0, t15)] (some (0, false)) (mload none t18)).bind fun t19 =>
  (guarded [(0, t15)] (some (0, false)) (M.lift (Ax.bin .geq t17 t19))).bind fun t20 =>
  (M.lift (Ax.pick t15 (V.bool true) t20)).bind fun t21 =>
  M.ite t21
    (M.pure (.ret [(V.int .i64 0), (V.int .i64 0), (V.bool false)]))
    ((M.lift (Ax.faddr 2 t2)).bind fun t22 =>
    (mload none t22).bind fun t23 =>
    (M.lift (vlen t23)).bind fun t24 =>
    M.blk 0 (
      M.iter (f_depend_Layers_0 G t24 t23 t1) [(V.int .i64 0), (V.int .i64 0), (V.bool false), (V.int .i64 0)]) fun L2 =>
    M.pure (.ret [(L2.getD 0 .undef), (L2.getD 1 .undef), (L2.getD 2 .undef)]))

theorem eq_depend_Layers (G : Sem') (t0 t1 : V) : execK G ir_depend_Layers.rv ir_depend_Layers.body [] [] (params 0 [t0, t1]) = f_depend_Layers G t0 t1 := by kernel_rfl

def d_depend_Layers (G : Sem') : List V → M V
  | [t0, t1] => fin (f_depend_Layers G t0 t1)
  | _ => M.fail

theorem s_depend_Layers {g : Sem'} (hg : Sims g (sem T)) (args : List V) : Sim (d_depend_Layers g args) (sem T fn_depend_Layers args) := by
  unfold d_depend_Layers
  split
  · exact sim_fn tb_depend_Layers (Nat.le_of_ble_eq_true rfl) hg (eq_depend_Layers g _ _)
  · exact sim_fail

/-- palanquin/depend.Parse. -/
def f_depend_Parse_0 (G : Sem') (t6 t4 : V) (_ : List V) : M Res :=
  (M.lift (Ax.nilck t6)).bind fun t123 =>
  (M.lift (Ax.faddr 1 t123)).bind fun t124 =>
  (mload none t124).bind fun t125 =>
  (M.lift (Ax.bin .eql t125 (V.int .i64 0))).bind fun t126 =>
  (guarded [(0, t126)] (some (0, true)) (M.pure t6)).bind fun t128 =>
  (guarded [(0, t126)] (some (0, true)) (M.lift (Ax.nilck t128))).bind fun t129 =>
  (guarded [(0, t126)] (some (0, true)) (M.lift (Ax.faddr 0 t129))).bind fun t130 =>
  (guarded [(0, t126)] (some (0, true)) (mload none t130)).bind fun t131 =>
  (guarded [(0, t126)] (some (0, true)) (G fn_bits_Reader_Left [t131])).bind fun t132 =>
  (guarded [(0, t126)] (some (0, true)) (M.lift (Ax.bin .gtr t132 (V.int .i64 0)))).bind fun t133 =>
  (M.lift (Ax.pick t126 t133 (V.bool false))).bind fun t134 =>
  M.ite t134
    (M.blk 2 (
      (G fn_depend_reader_bit [t6]).bind fun t136 =>
      M.join (M.ite t136
        ((G fn_depend_reader_fail [t6, (V.int .i64 2)]).bind fun t138 =>
        M.pure (.nrm []))
        (M.pure (.nrm []))) fun _ =>
      M.pure (.nrm [])) fun _ =>
    M.pure (.nrm []))
    (M.pure (.ex 1 []))

def f_depend_Parse (G : Sem') (t0 t1 : V) : M Res :=
  (mbox ty_depend_Structure t1).bind fun t3 =>
  (mbox ty_depend_Frame (V.agg [(V.bool false), (V.bool false), (V.int .i64 0), (V.int .u16 0), (V.bool false), (V.int .i64 0), (V.int .i64 0), V.nils, (V.int .i64 0), V.nils, V.nils, (V.bool false), (V.int .u32 0), (V.bool false), (V.bool false), (V.bool false), V.nils, V.nils, V.nils])).bind fun t4 =>
  (G fn_bits_Over [t0]).bind fun t12 =>
  (M.lift (Ax.build [V.nilp, (V.int .i64 0)] [(0, 1, t12)])).bind fun t13 =>
  (mbox ty_depend_reader t13).bind fun t14 =>
  (G fn_depend_reader_bit [t14]).bind fun t16 =>
  (G fn_depend_reader_bit [t14]).bind fun t18 =>
  (G fn_depend_reader_num [t14, (V.int .i64 6)]).bind fun t20 =>
  (G fn_depend_reader_num [t14, (V.int .i64 16)]).bind fun t22 =>
  (M.lift (Ax.cint .u16 t22)).bind fun t23 =>
  (M.lift (Ax.build [(V.bool false), (V.bool false), (V.int .i64 0), (V.int .u16 0), (V.bool false), (V.int .i64 0), (V.int .i64 0), V.nils, (V.int .i64 0), V.nils, V.nils, (V.bool false), (V.int .u32 0), (V.bool false), (V.bool false), (V.bool false), V.nils, V.nils, V.nils] [(0, 1, t16), (1, 1, t18), (2, 1, t20), (3, 1, t23)])).bind fun t24 =>
  (mbox ty_depend_Frame (V.agg [(V.bool false), (V.bool false), (V.int .i64 0), (V.int .u16 0), (V.bool false), (V.int .i64 0), (V.int .i64 0), V.nils, (V.int .i64 0), V.nils, V.nils, (V.bool false), (V.int .u32 0), (V.bool false), (V.bool false), (V.bool false), V.nils, V.nils, V.nils])).bind fun t7 =>
  (mstore 19 t7 t24).bind fun _ =>
  (M.lift (vlen t0)).bind fun t26 =>
  (M.lift (Ax.bin .gtr t26 (V.int .i64 3))).bind fun t27 =>
  M.join (M.ite t27
    ((G fn_depend_reader_bit [t14]).bind fun t29 =>
    (G fn_depend_reader_bit [t14]).bind fun t31 =>
    (M.lift (Ax.faddr 4 t7)).bind fun t32 =>
    (mstore 1 t32 t29).bind fun _ =>
    (M.lift (Ax.faddr 11 t7)).bind fun t33 =>
    (mstore 1 t33 t31).bind fun _ =>
    (G fn_depend_reader_bit [t14]).bind fun t35 =>
    (G fn_depend_reader_bit [t14]).bind fun t37 =>
    (G fn_depend_reader_bit [t14]).bind fun t39 =>
    (M.lift (Ax.faddr 13 t7)).bind fun t40 =>
    (mstore 1 t40 t35).bind fun _ =>
    (M.lift (Ax.faddr 14 t7)).bind fun t41 =>
    (mstore 1 t41 t37).bind fun _ =>
    (M.lift (Ax.faddr 15 t7)).bind fun t42 =>
    (mstore 1 t42 t39).bind fun _ =>
    M.pure (.nrm []))
    (M.pure (.nrm []))) fun _ =>
  M.blk 0 (
    (M.lift (Ax.nilck t14)).bind fun t45 =>
    (M.lift (Ax.faddr 1 t45)).bind fun t46 =>
    (mload none t46).bind fun t47 =>
    (M.lift (Ax.bin .neq t47 (V.int .i64 0))).bind fun t48 =>
    M.ite t48
      ((M.lift (Ax.build [(V.bool false), (V.bool false), (V.int .i64 0), (V.int .u16 0), (V.bool false), (V.int .i64 0), (V.int .i64 0), V.nils, (V.int .i64 0), V.nils, V.nils, (V.bool false), (V.int .u32 0), (V.bool false), (V.bool false), (V.bool false), V.nils, V.nils, V.nils] [])).bind fun t49 =>
      (M.lift (Ax.nilck t14)).bind fun t51 =>
      (M.lift (Ax.faddr 1 t51)).bind fun t52 =>
      (mload none t52).bind fun t53 =>
      M.getH.bind fun h0 =>
      (mstore 19 t4 t49).bind fun _ =>
      M.getH.bind fun h0' =>
      (M.unch t52 h0 h0').bind fun _ =>
      (mload (some 19) t4).bind fun r0 =>
      M.pure (.ret [r0, t53]))
      ((M.lift (Ax.faddr 4 t7)).bind fun t55 =>
      (mload none t55).bind fun t56 =>
      M.join (M.ite t56
        ((G fn_depend_reader_structure [t14]).bind fun t58 =>
        (M.lift (Ax.faddr 5 t7)).bind fun t59 =>
        (mstore 6 t59 t58).bind fun _ =>
        M.pure (.nrm []))
        ((mload (some 6) t3).bind fun t61 =>
        (G fn_depend_Fine [t61]).bind fun t62 =>
        (M.lift (Ax.un .not t62)).bind fun t63 =>
        M.ite t63
          ((M.lift (Ax.build [(V.bool false), (V.bool false), (V.int .i64 0), (V.int .u16 0), (V.bool false), (V.int .i64 0), (V.int .i64 0), V.nils, (V.int .i64 0), V.nils, V.nils, (V.bool false), (V.int .u32 0), (V.bool false), (V.bool false), (V.bool false), V.nils, V.nils, V.nils] [])).bind fun t64 =>
          (mstore 19 t4 t64).bind fun _ =>
          (mload (some 19) t4).bind fun r0 =>
          M.pure (.ret [r0, (V.int .i64 2)]))
          (M.pure (.nrm [])))) fun _ =>
      M.pure (.nrm []))) fun _ =>
  (mload (some 19) t7).bind fun t65 =>
  (mload (some 6) t3).bind fun t66 =>
  (G fn_depend_holds [t65, t66]).bind fun t67 =>
  (mbox ty_depend_Structure (V.agg [(V.int .i64 0), (V.int .i64 0), V.nils, (V.int .i64 0), V.nils, V.nils])).bind fun t8 =>
  (mstore 6 t8 t67).bind fun _ =>
  (M.lift (Ax.faddr 11 t7)).bind fun t68 =>
  (mload none t68).bind fun t69 =>
  (guarded [(0, t69)] (some (0, true)) (M.pure t14)).bind fun t71 =>
  (guarded [(0, t69)] (some (0, true)) (M.lift (Ax.nilck t71))).bind fun t72 =>
  (guarded [(0, t69)] (some (0, true)) (M.lift (Ax.faddr 1 t72))).bind fun t73 =>
  (guarded [(0, t69)] (some (0, true)) (mload none t73)).bind fun t74 =>
  (guarded [(0, t69)] (some (0, true)) (M.lift (Ax.bin .eql t74 (V.int .i64 0)))).bind fun t75 =>
  (M.lift (Ax.pick t69 t75 (V.bool false))).bind fun t76 =>
  M.join (M.ite t76
    ((M.lift (Ax.faddr 1 t8)).bind fun t78 =>
    (mload none t78).bind fun t79 =>
    (G fn_depend_reader_num [t14, t79]).bind fun t80 =>
    (M.lift (Ax.cint .u32 t80)).bind fun t81 =>
    (M.lift (Ax.faddr 12 t7)).bind fun t82 =>
    (mstore 1 t82 t81).bind fun _ =>
    M.pure (.nrm []))
    (M.pure (.nrm []))) fun _ =>
  (mload (some 6) t8).bind fun t84 =>
  (M.lift (Ax.faddr 2 t7)).bind fun t85 =>
  (mload none t85).bind fun t86 =>
  (G fn_depend_template [t84, t86]).bind fun t87 =>
  (M.lift (Ax.ext 0 t87)).bind fun t88 =>
  (M.lift (Ax.ext 1 t87)).bind fun t89 =>
  (mbox ty_depend_Template (V.agg [(V.int .i64 0), (V.int .i64 0), V.nils, V.nils, V.nils])).bind fun t9 =>
  (mstore 5 t9 t88).bind fun _ =>
  (M.lift (Ax.un .not t89)).bind fun t91 =>
  M.join (M.ite t91
    ((G fn_depend_reader_fail [t14, (V.int .i64 2)]).bind fun t93 =>
    M.pure (.nrm []))
    (M.pure (.nrm []))) fun _ =>
  (M.lift (Ax.faddr 2 t9)).bind fun t94 =>
  (mload none t94).bind fun t95 =>
  (M.lift (Ax.faddr 3 t9)).bind fun t96 =>
  (mload none t96).bind fun t97 =>
  (M.lift (Ax.faddr 4 t9)).bind fun t98 =>
  (mload none t98).bind fun t99 =>
  (M.lift (Ax.faddr 16 t7)).bind fun t100 =>
  M.getH.bind fun h1 =>
  (mstore 1 t100 t95).bind fun _ =>
  M.getH.bind fun h1' =>
  (M.unch t98 h1 h1').bind fun _ =>
  (M.unch t96 h1 h1').bind fun _ =>
  (M.lift (Ax.faddr 17 t7)).bind fun t101 =>
  M.getH.bind fun h2 =>
  (mstore 1 t101 t97).bind fun _ =>
  M.getH.bind fun h2' =>
  (M.unch t98 h2 h2').bind fun _ =>
  (M.lift (Ax.faddr 18 t7)).bind fun t102 =>
  (mstore 1 t102 t99).bind fun _ =>
  (M.lift (Ax.faddr 13 t7)).bind fun t103 =>
  (mload none t103).bind fun t104 =>
  M.join (M.ite t104
    ((M.lift (Ax.faddr 1 t8)).bind fun t106 =>
    (mload none t106).bind fun t107 =>
    (G fn_depend_reader_nums [t14, t107, (V.int .i64 2)]).bind fun t108 =>
    (M.lift (Ax.faddr 16 t7)).bind fun t109 =>
    (mstore 1 t109 t108).bind fun _ =>
    M.pure (.nrm []))
    (M.pure (.nrm []))) fun _ =>
  (M.lift (Ax.faddr 14 t7)).bind fun t110 =>
  (mload none t110).bind fun t111 =>
  M.join (M.ite t111
    ((G fn_depend_reader_own [t14]).bind fun t113 =>
    (M.lift (Ax.faddr 17 t7)).bind fun t114 =>
    (mstore 1 t114 t113).bind fun _ =>
    M.pure (.nrm []))
    (M.pure (.nrm []))) fun _ =>
  (M.lift (Ax.faddr 15 t7)).bind fun t115 =>
  (mload none t115).bind fun t116 =>
  M.join (M.ite t116
    ((M.lift (Ax.faddr 3 t8)).bind fun t118 =>
    (mload none t118).bind fun t119 =>
    (G fn_depend_reader_nums [t14, t119, (V.int .i64 8)]).bind fun t120 =>
    (M.lift (Ax.faddr 18 t7)).bind fun t121 =>
    (mstore 1 t121 t120).bind fun _ =>
    M.pure (.nrm []))
    (M.pure (.nrm []))) fun _ =>
  M.blk 1 (
    M.iter (f_depend_Parse_0 G t14 t4) []) fun _ =>
  (M.lift (Ax.nilck t14)).bind fun t140 =>
  (M.lift (Ax.faddr 1 t140)).bind fun t141 =>
  (mload none t141).bind fun t142 =>
  (M.lift (Ax.bin .neq t142 (V.int .i64 0))).bind fun t143 =>
  M.ite t143
    ((M.lift (Ax.build [(V.bool false), (V.bool false), (V.int .i64 0), (V.int .u16 0), (V.bool false), (V.int .i64 0), (V.int .i64 0), V.nils, (V.int .i64 0), V.nils, V.nils, (V.bool false), (V.int .u32 0), (V.bool false), (V.bool false), (V.bool false), V.nils, V.nils, V.nils] [])).bind fun t144 =>
    (M.lift (Ax.nilck t14)).bind fun t146 =>
    (M.lift (Ax.faddr 1 t146)).bind fun t147 =>
    (mload none t147).bind fun t148 =>
    M.getH.bind fun h3 =>
    (mstore 19 t4 t144).bind fun _ =>
    M.getH.bind fun h3' =>
    (M.unch t147 h3 h3').bind fun _ =>
    (mload (some 19) t4).bind fun r0 =>
    M.pure (.ret [r0, t148]))
    ((mload (some 19) t7).bind fun t149 =>
    (mstore 19 t4 t149).bind fun _ =>
    (mload (some 19) t4).bind fun r0 =>
    M.pure (.ret [r0, (V.int .i64 0)]))

theorem eq_depend_Parse (G : Sem') (t0 t1 : V) : execK G ir_depend_Parse.rv ir_depend_Parse.body [] [] (params 0 [t0, t1]) = f_depend_Parse G t0 t1 := by kernel_rfl

def d_depend_Parse (G : Sem') : List V → M V
  | [t0, t1] => fin (f_depend_Parse G t0 t1)
  | _ => M.fail

theorem s_depend_Parse {g : Sem'} (hg : Sims g (sem T)) (args : List V) : Sim (d_depend_Parse g args) (sem T fn_depend_Parse args) := by
  unfold d_depend_Parse
  split
  · exact sim_fn tb_depend_Parse (Nat.le_of_ble_eq_true rfl) hg (eq_depend_Parse g _ _)
  · exact sim_fail

/-- palanquin/depend.Number. -/
def f_depend_Number (G : Sem') (t0 t1 : V) : M Res :=
  (G fn_bytes_Clone [t0]).bind fun t7 =>
  (M.lift (vlen t7)).bind fun t9 =>
  (M.lift (Ax.bin .geq t9 (V.int .i64 3))).bind fun t10 =>
  M.join (M.ite t10
    ((M.lift (Ax.bin .shr t1 (V.int .u64 8))).bind fun t14 =>
    (M.lift (Ax.cint .u8 t14)).bind fun t15 =>
    (M.lift (Ax.cint .u8 t1)).bind fun t17 =>
    (M.lift (Ax.iaddr none 1 t7 (V.int .i64 1))).bind fun t18 =>
    (mstore 1 t18 t15).bind fun _ =>
    (M.lift (Ax.iaddr none 1 t7 (V.int .i64 2))).bind fun t19 =>
    (mstore 1 t19 t17).bind fun _ =>
    M.pure (.nrm []))
    (M.pure (.nrm []))) fun _ =>
  M.pure (.ret [t7])

theorem eq_depend_Number (G : Sem') (t0 t1 : V) : execK G ir_depend_Number.rv ir_depend_Number.body [] [] (params 0 [t0, t1]) = f_depend_Number G t0 t1 := by kernel_rfl

def d_depend_Number (G : Sem') : List V → M V
  | [t0, t1] => fin (f_depend_Number G t0 t1)
  | _ => M.fail

theorem s_depend_Number {g : Sem'} (hg : Sims g (sem T)) (args : List V) : Sim (d_depend_Number g args) (sem T fn_depend_Number args) := by
  unfold d_depend_Number
  split
  · exact sim_fn tb_depend_Number (Nat.le_of_ble_eq_true rfl) hg (eq_depend_Number g _ _)
  · exact sim_fail

/-- palanquin/palanquinlaw9.plain. -/
def f_palanquinlaw9_plain (G : Sem') : M Res :=
  (mbox ty_depend_Structure (V.agg [(V.int .i64 0), (V.int .i64 0), V.nils, (V.int .i64 0), V.nils, V.nils])).bind fun t0 =>
  (mslit ty_int 1 [(V.int .i64 0)] [(0, 1, (V.int .i64 2))]).bind fun t1 =>
  (M.lift (Ax.build [(V.int .i64 0), (V.int .i64 0), V.nils, V.nils, V.nils] [(2, 1, t1)])).bind fun t2 =>
  (mslit ty_depend_Template 1 [(V.int .i64 0), (V.int .i64 0), V.nils, V.nils, V.nils] [(0, 5, t2)]).bind fun t3 =>
  (M.lift (Ax.build [(V.int .i64 0), (V.int .i64 0), V.nils, (V.int .i64 0), V.nils, V.nils] [(1, 1, (V.int .i64 1)), (2, 1, t3)])).bind fun t4 =>
  (mstore 6 t0 t4).bind fun _ =>
  (mload (some 6) t0).bind fun r0 =>
  M.pure (.ret [r0])

theorem eq_palanquinlaw9_plain (G : Sem') : execK G ir_palanquinlaw9_plain.rv ir_palanquinlaw9_plain.body [] [] (params 0 []) = f_palanquinlaw9_plain G := by kernel_rfl

def d_palanquinlaw9_plain (G : Sem') : List V → M V
  | [] => fin (f_palanquinlaw9_plain G)
  | _ => M.fail

theorem s_palanquinlaw9_plain {g : Sem'} (hg : Sims g (sem T)) (args : List V) : Sim (d_palanquinlaw9_plain g args) (sem T fn_palanquinlaw9_plain args) := by
  unfold d_palanquinlaw9_plain
  split
  · exact sim_fn tb_palanquinlaw9_plain (Nat.le_of_ble_eq_true rfl) hg (eq_palanquinlaw9_plain g)
  · exact sim_fail

/-- palanquin/bits.short. -/
def f_bits_short (G : Sem') (t0 : V) : M Res :=
  (G fn_math_bits_Len64 [t0]).bind fun t6 =>
  (M.lift (Ax.bin .shl (V.int .u64 1) t6)).bind fun t9 =>
  (M.lift (Ax.bin .sub t9 t0)).bind fun t11 =>
  M.pure (.ret [t6, t11])

theorem eq_bits_short (G : Sem') (t0 : V) : execK G ir_bits_short.rv ir_bits_short.body [] [] (params 0 [t0]) = f_bits_short G t0 := by kernel_rfl

def d_bits_short (G : Sem') : List V → M V
  | [t0] => fin (f_bits_short G t0)
  | _ => M.fail

theorem s_bits_short {g : Sem'} (hg : Sims g (sem T)) (args : List V) : Sim (d_bits_short g args) (sem T fn_bits_short args) := by
  unfold d_bits_short
  split
  · exact sim_fn tb_bits_short (Nat.le_of_ble_eq_true rfl) hg (eq_bits_short g _)
  · exact sim_fail

/-- math/bits.Len64. -/
def f_math_bits_Len64 (G : Sem') (t0 : V) : M Res :=
  (M.lift (Ax.bin .geq t0 (V.int .u64 4294967296))).bind fun t4 =>
  M.join (M.ite t4
    ((M.lift (Ax.bin .shr t0 (V.int .u64 32))).bind fun t6 =>
    M.pure (.nrm [t6, (V.int .i64 32)]))
    (M.pure (.nrm [t0, (V.int .i64 0)]))) fun L0 =>
  (M.lift (Ax.bin .geq (L0.getD 0 .undef) (V.int .u64 65536))).bind fun t8 =>
  M.join (M.ite t8
    ((M.lift (Ax.bin .shr (L0.getD 0 .undef) (V.int .u64 16))).bind fun t10 =>
    (M.lift (Ax.bin .add (L0.getD 1 .undef) (V.int .i64 16))).bind fun t12 =>
    M.pure (.nrm [t10, t12]))
    (M.pure (.nrm [(L0.getD 0 .undef), (L0.getD 1 .undef)]))) fun L1 =>
  (M.lift (Ax.bin .geq (L1.getD 0 .undef) (V.int .u64 256))).bind fun t14 =>
  M.join (M.ite t14
    ((M.lift (Ax.bin .shr (L1.getD 0 .undef) (V.int .u64 8))).bind fun t16 =>
    (M.lift (Ax.bin .add (L1.getD 1 .undef) (V.int .i64 8))).bind fun t18 =>
    M.pure (.nrm [t16, t18]))
    (M.pure (.nrm [(L1.getD 0 .undef), (L1.getD 1 .undef)]))) fun L2 =>
  (M.lift (Ax.cint .u8 (L2.getD 0 .undef))).bind fun t21 =>
  (M.lift (Ax.sindex (V.str ⟨#[0, 1, 2, 2, 3, 3, 3, 3, 4, 4, 4, 4, 4, 4, 4, 4, 5, 5, 5, 5, 5, 5, 5, 5, 5, 5, 5, 5, 5, 5, 5, 5, 6, 6, 6, 6, 6, 6, 6, 6, 6, 6, 6, 6, 6, 6, 6, 6, 6, 6, 6, 6, 6, 6, 6, 6, 6, 6, 6, 6, 6, 6, 6, 6, 7, 7, 7, 7, 7, 7, 7, 7, 7, 7, 7, 7, 7, 7, 7, 7, 7, 7, 7, 7, 7, 7, 7, 7, 7, 7, 7, 7, 7, 7, 7, 7, 7, 7, 7, 7, 7, 7, 7, 7, 7, 7, 7, 7, 7, 7, 7, 7, 7, 7, 7, 7, 7, 7, 7, 7, 7, 7, 7, 7, 7, 7, 7, 7, 8, 8, 8, 8, 8, 8, 8, 8, 8, 8, 8, 8, 8, 8, 8, 8, 8, 8, 8, 8, 8, 8, 8, 8, 8, 8, 8, 8, 8, 8, 8, 8, 8, 8, 8, 8, 8, 8, 8, 8, 8, 8, 8, 8, 8, 8, 8, 8, 8, 8, 8, 8, 8, 8, 8, 8, 8, 8, 8, 8, 8, 8, 8, 8, 8, 8, 8, 8, 8, 8, 8, 8, 8, 8, 8, 8, 8, 8, 8, 8, 8, 8, 8, 8, 8, 8, 8, 8, 8, 8, 8, 8, 8, 8, 8, 8, 8, 8, 8, 8, 8, 8, 8, 8, 8, 8, 8, 8, 8, 8, 8, 8, 8, 8, 8, 8, 8, 8, 8, 8, 8, 8, 8, 8, 8, 8, 8, 8]⟩) t21)).bind fun t22 =>
  (M.lift (Ax.cint .i64 t22)).bind fun t23 =>
  (M.lift (Ax.bin .add (L2.getD 1 .undef) t23)).bind fun t24 =>
  M.pure (.ret [t24])

theorem eq_math_bits_Len64 (G : Sem') (t0 : V) : execK G ir_math_bits_Len64.rv ir_math_bits_Len64.body [] [] (params 0 [t0]) = f_math_bits_Len64 G t0 := by kernel_rfl

def d_math_bits_Len64 (G : Sem') : List V → M V
  | [t0] => fin (f_math_bits_Len64 G t0)
  | _ => M.fail

theorem s_math_bits_Len64 {g : Sem'} (hg : Sims g (sem T)) (args : List V) : Sim (d_math_bits_Len64 g args) (sem T fn_math_bits_Len64 args) := by
  unfold d_math_bits_Len64
  split
  · exact sim_fn tb_math_bits_Len64 (Nat.le_of_ble_eq_true rfl) hg (eq_math_bits_Len64 g _)
  · exact sim_fail

/-- palanquin/depend.holds. -/
def f_depend_holds (G : Sem') (t0 t1 : V) : M Res :=
  (mbox ty_depend_Frame t0).bind fun t2 =>
  (mbox ty_depend_Structure t1).bind fun t3 =>
  (mbox ty_depend_Structure (V.agg [(V.int .i64 0), (V.int .i64 0), V.nils, (V.int .i64 0), V.nils, V.nils])).bind fun t4 =>
  (M.lift (Ax.faddr 4 t2)).bind fun t5 =>
  (mload none t5).bind fun t6 =>
  M.ite t6
    ((M.lift (Ax.faddr 5 t2)).bind fun t7 =>
    (mload (some 6) t7).bind fun t8 =>
    (mstore 6 t4 t8).bind fun _ =>
    (mload (some 6) t4).bind fun r0 =>
    M.pure (.ret [r0]))
    ((mload (some 6) t3).bind fun t9 =>
    (mstore 6 t4 t9).bind fun _ =>
    (mload (some 6) t4).bind fun r0 =>
    M.pure (.ret [r0]))

theorem eq_depend_holds (G : Sem') (t0 t1 : V) : execK G ir_depend_holds.rv ir_depend_holds.body [] [] (params 0 [t0, t1]) = f_depend_holds G t0 t1 := by kernel_rfl

def d_depend_holds (G : Sem') : List V → M V
  | [t0, t1] => fin (f_depend_holds G t0 t1)
  | _ => M.fail

theorem s_depend_holds {g : Sem'} (hg : Sims g (sem T)) (args : List V) : Sim (d_depend_holds g args) (sem T fn_depend_holds args) := by
  unfold d_depend_holds
  split
  · exact sim_fn tb_depend_holds (Nat.le_of_ble_eq_true rfl) hg (eq_depend_holds g _ _)
  · exact sim_fail

/-- palanquin/depend.template. -/
def f_depend_template (G : Sem') (t0 t1 : V) : M Res :=
  (mbox ty_depend_Structure t0).bind fun t2 =>
  (mbox ty_depend_Template (V.agg [(V.int .i64 0), (V.int .i64 0), V.nils, V.nils, V.nils])).bind fun t4 =>
  (M.lift (Ax.bin .lss t1 (V.int .i64 0))).bind fun t8 =>
  (guarded [(0, t8)] (some (0, false)) (M.pure t1)).bind fun t10 =>
  (guarded [(0, t8)] (some (0, false)) (M.lift (Ax.bin .geq t10 (V.int .i64 64)))).bind fun t11 =>
  (M.lift (Ax.pick t8 (V.bool true) t11)).bind fun t12 =>
  M.ite t12
    ((M.lift (Ax.build [(V.int .i64 0), (V.int .i64 0), V.nils, V.nils, V.nils] [])).bind fun t13 =>
    (mstore 5 t4 t13).bind fun _ =>
    (mload (some 5) t4).bind fun r0 =>
    M.pure (.ret [r0, (V.bool false)]))
    ((M.lift (Ax.bin .add t1 (V.int .i64 64))).bind fun t15 =>
    (M.lift (Ax.faddr 0 t2)).bind fun t16 =>
    (mload none t16).bind fun t17 =>
    (M.lift (Ax.bin .sub t15 t17)).bind fun t18 =>
    (M.lift (Ax.bin .rem t18 (V.int .i64 64))).bind fun t19 =>
    (M.lift (Ax.faddr 2 t2)).bind fun t21 =>
    (mload none t21).bind fun t22 =>
    (M.lift (vlen t22)).bind fun t23 =>
    (M.lift (Ax.bin .geq t19 t23)).bind fun t24 =>
    M.ite t24
      ((M.lift (Ax.build [(V.int .i64 0), (V.int .i64 0), V.nils, V.nils, V.nils] [])).bind fun t25 =>
      (mstore 5 t4 t25).bind fun _ =>
      (mload (some 5) t4).bind fun r0 =>
      M.pure (.ret [r0, (V.bool false)]))
      ((M.lift (Ax.faddr 2 t2)).bind fun t26 =>
      (mload none t26).bind fun t27 =>
      (M.lift (Ax.iaddr none 5 t27 t19)).bind fun t29 =>
      (mload (some 5) t29).bind fun t30 =>
      (G fn_depend_copied [t30]).bind fun t31 =>
      (mstore 5 t4 t31).bind fun _ =>
      (mload (some 5) t4).bind fun r0 =>
      M.pure (.ret [r0, (V.bool true)])))

theorem eq_depend_template (G : Sem') (t0 t1 : V) : execK G ir_depend_template.rv ir_depend_template.body [] [] (params 0 [t0, t1]) = f_depend_template G t0 t1 := by kernel_rfl

def d_depend_template (G : Sem') : List V → M V
  | [t0, t1] => fin (f_depend_template G t0 t1)
  | _ => M.fail

theorem s_depend_template {g : Sem'} (hg : Sims g (sem T)) (args : List V) : Sim (d_depend_template g args) (sem T fn_depend_template args) := by
  unfold d_depend_template
  split
  · exact sim_fn tb_depend_template (Nat.le_of_ble_eq_true rfl) hg (eq_depend_template g _ _)
  · exact sim_fail

/-- (palanquin/depend.writer).bit. -/
def f_depend_writer_bit (G : Sem') (t0 t1 : V) : M Res :=
  (mbox ty_depend_writer t0).bind fun t2 =>
  M.join (M.ite t1
    (M.pure (.nrm [(V.int .i64 1)]))
    (M.pure (.nrm [(V.int .i64 0)]))) fun L0 =>
  (mload (some 1) t2).bind fun t6 =>
  (G fn_depend_writer_num [t6, (L0.getD 0 .undef), (V.int .i64 1)]).bind fun t8 =>
  M.pure (.ret [])

theorem eq_depend_writer_bit (G : Sem') (t0 t1 : V) : execK G ir_depend_writer_bit.rv ir_depend_writer_bit.body [] [] (params 0 [t0, t1]) = f_depend_writer_bit G t0 t1 := by kernel_rfl

def d_depend_writer_bit (G : Sem') : List V → M V
  | [t0, t1] => fin (f_depend_writer_bit G t0 t1)
  | _ => M.fail

theorem s_depend_writer_bit {g : Sem'} (hg : Sims g (sem T)) (args : List V) : Sim (d_depend_writer_bit g args) (sem T fn_depend_writer_bit args) := by
  unfold d_depend_writer_bit
  split
  · exact sim_fn tb_depend_writer_bit (Nat.le_of_ble_eq_true rfl) hg (eq_depend_writer_bit g _ _)
  · exact sim_fail

/-- (palanquin/depend.writer).num. -/
def f_depend_writer_num (G : Sem') (t0 t1 t2 : V) : M Res :=
  (mbox ty_depend_writer t0).bind fun t3 =>
  (M.lift (Ax.faddr 0 t3)).bind fun t6 =>
  (mload none t6).bind fun t7 =>
  (M.lift (Ax.cint .u64 t1)).bind fun t9 =>
  (G fn_bits_Writer_Add [t7, t9, t2]).bind fun t11 =>
  M.pure (.ret [])

theorem eq_depend_writer_num (G : Sem') (t0 t1 t2 : V) : execK G ir_depend_writer_num.rv ir_depend_writer_num.body [] [] (params 0 [t0, t1, t2]) = f_depend_writer_num G t0 t1 t2 := by kernel_rfl

def d_depend_writer_num (G : Sem') : List V → M V
  | [t0, t1, t2] => fin (f_depend_writer_num G t0 t1 t2)
  | _ => M.fail

theorem s_depend_writer_num {g : Sem'} (hg : Sims g (sem T)) (args : List V) : Sim (d_depend_writer_num g args) (sem T fn_depend_writer_num args) := by
  unfold d_depend_writer_num
  split
  · exact sim_fn tb_depend_writer_num (Nat.le_of_ble_eq_true rfl) hg (eq_depend_writer_num g _ _ _)
  · exact sim_fail

/-- (palanquin/depend.writer).structure. -/
def f_depend_writer_structure_0 (G : Sem') (t29 t3 t2 : V) (L : List V) : M Res :=
  (M.lift (Ax.bin .lss (L.getD 0 .undef) t29)).bind fun t31 =>
  M.ite t31
    (M.blk 1 (
      (M.lift (Ax.bin .add (L.getD 0 .undef) (V.int .i64 1))).bind fun t34 =>
      (M.lift (Ax.faddr 2 t3)).bind fun t35 =>
      (mload none t35).bind fun t36 =>
      (M.lift (vlen t36)).bind fun t37 =>
      (M.lift (Ax.bin .lss t34 t37)).bind fun t38 =>
      M.join (M.ite t38
        ((M.lift (Ax.faddr 2 t3)).bind fun t40 =>
        (mload none t40).bind fun t41 =>
        (M.lift (Ax.iaddr none 5 t41 (L.getD 0 .undef))).bind fun t43 =>
        (mload (some 5) t43).bind fun t44 =>
        (M.lift (Ax.faddr 2 t3)).bind fun t45 =>
        (mload none t45).bind fun t46 =>
        (M.lift (Ax.bin .add (L.getD 0 .undef) (V.int .i64 1))).bind fun t48 =>
        (M.lift (Ax.iaddr none 5 t46 t48)).bind fun t49 =>
        (mload (some 5) t49).bind fun t50 =>
        (G fn_depend_next [t44, t50]).bind fun t51 =>
        (M.lift (Ax.ext 0 t51)).bind fun t52 =>
        (M.lift (Ax.ext 1 t51)).bind fun t53 =>
        M.pure (.nrm [t52]))
        (M.pure (.nrm [(V.int .i64 3)]))) fun L0 =>
      (mload (some 1) t2).bind fun t54 =>
      (G fn_depend_writer_num [t54, (L0.getD 0 .undef), (V.int .i64 2)]).bind fun t56 =>
      M.pure (.nrm [])) fun _ =>
    (M.lift (Ax.bin .add (L.getD 0 .undef) (V.int .i64 1))).bind fun t57 =>
    M.pure (.nrm [t57]))
    (M.pure (.ex 0 []))

def f_depend_writer_structure_1 (G : Sem') (t60 t59 t2 : V) (L : List V) : M Res :=
  (M.lift (Ax.bin .lss (L.getD 0 .undef) t60)).bind fun t62 =>
  M.ite t62
    (M.blk 3 (
      (M.lift (Ax.iaddr none 5 t59 (L.getD 0 .undef))).bind fun t63 =>
      (mload (some 5) t63).bind fun t64 =>
      (mbox ty_depend_Template (V.agg [(V.int .i64 0), (V.int .i64 0), V.nils, V.nils, V.nils])).bind fun t7 =>
      (mstore 5 t7 t64).bind fun _ =>
      (mload (some 1) t2).bind fun t65 =>
      (M.lift (Ax.faddr 2 t7)).bind fun t66 =>
      (mload none t66).bind fun t67 =>
      (G fn_depend_writer_nums [t65, t67, (V.int .i64 2)]).bind fun t68 =>
      M.pure (.nrm [])) fun _ =>
    (M.lift (Ax.bin .add (L.getD 0 .undef) (V.int .i64 1))).bind fun t69 =>
    M.pure (.nrm [t69]))
    (M.pure (.ex 2 []))

def f_depend_writer_structure_2 (G : Sem') (t79 t78 t2 : V) (L : List V) : M Res :=
  (M.lift (Ax.bin .lss (L.getD 0 .undef) t79)).bind fun t81 =>
  M.ite t81
    (M.blk 7 (
      (M.lift (Ax.iaddr none 1 t78 (L.getD 0 .undef))).bind fun t82 =>
      (mload none t82).bind fun t83 =>
      (mload (some 1) t2).bind fun t84 =>
      (G fn_depend_writer_bit [t84, (V.bool true)]).bind fun t85 =>
      (mload (some 1) t2).bind fun t86 =>
      (M.lift (Ax.bin .sub t83 (V.int .i64 1))).bind fun t88 =>
      (G fn_depend_writer_num [t86, t88, (V.int .i64 4)]).bind fun t89 =>
      M.pure (.nrm [])) fun _ =>
    (M.lift (Ax.bin .add (L.getD 0 .undef) (V.int .i64 1))).bind fun t90 =>
    M.pure (.nrm [t90]))
    (M.pure (.ex 6 []))

def f_depend_writer_structure_3 (G : Sem') (t72 t71 t2 : V) (L : List V) : M Res :=
  (M.lift (Ax.bin .lss (L.getD 0 .undef) t72)).bind fun t74 =>
  M.ite t74
    (M.blk 5 (
      (M.lift (Ax.iaddr none 5 t71 (L.getD 0 .undef))).bind fun t75 =>
      (mload (some 5) t75).bind fun t76 =>
      (mbox ty_depend_Template (V.agg [(V.int .i64 0), (V.int .i64 0), V.nils, V.nils, V.nils])).bind fun t9 =>
      (mstore 5 t9 t76).bind fun _ =>
      (M.lift (Ax.faddr 3 t9)).bind fun t77 =>
      (mload none t77).bind fun t78 =>
      (M.lift (vlen t78)).bind fun t79 =>
      M.blk 6 (
        M.iter (f_depend_writer_structure_2 G t79 t78 t2) [(V.int .i64 0)]) fun _ =>
      (mload (some 1) t2).bind fun t91 =>
      (G fn_depend_writer_bit [t91, (V.bool false)]).bind fun t92 =>
      M.pure (.nrm [])) fun _ =>
    (M.lift (Ax.bin .add (L.getD 0 .undef) (V.int .i64 1))).bind fun t93 =>
    M.pure (.nrm [t93]))
    (M.pure (.ex 4 []))

def f_depend_writer_structure_4 (G : Sem') (t109 t108 t2 t3 : V) (L : List V) : M Res :=
  (M.lift (Ax.bin .lss (L.getD 0 .undef) t109)).bind fun t111 =>
  M.ite t111
    (M.blk 9 (
      (M.lift (Ax.iaddr none 1 t108 (L.getD 0 .undef))).bind fun t112 =>
      (mload none t112).bind fun t113 =>
      (M.lift (Ax.faddr 0 t2)).bind fun t114 =>
      (mload none t114).bind fun t115 =>
      (M.lift (Ax.cint .u64 t113)).bind fun t117 =>
      (M.lift (Ax.faddr 3 t3)).bind fun t118 =>
      (mload none t118).bind fun t119 =>
      (M.lift (Ax.cint .u64 t119)).bind fun t120 =>
      (G fn_bits_Writer_AddNS [t115, t117, t120]).bind fun t121 =>
      M.pure (.nrm [])) fun _ =>
    (M.lift (Ax.bin .add (L.getD 0 .undef) (V.int .i64 1))).bind fun t122 =>
    M.pure (.nrm [t122]))
    (M.pure (.ex 8 []))

def f_depend_writer_structure_5 (G : Sem') (t125 t124 t2 : V) (L : List V) : M Res :=
  (M.lift (Ax.bin .lss (L.getD 0 .undef) t125)).bind fun t127 =>
  M.ite t127
    (M.blk 11 (
      (M.lift (Ax.iaddr none 5 t124 (L.getD 0 .undef))).bind fun t128 =>
      (mload (some 5) t128).bind fun t129 =>
      (mbox ty_depend_Template (V.agg [(V.int .i64 0), (V.int .i64 0), V.nils, V.nils, V.nils])).bind fun t15 =>
      (mstore 5 t15 t129).bind fun _ =>
      (mload (some 1) t2).bind fun t130 =>
      (M.lift (Ax.faddr 4 t15)).bind fun t131 =>
      (mload none t131).bind fun t132 =>
      (G fn_depend_writer_nums [t130, t132, (V.int .i64 4)]).bind fun t133 =>
      M.pure (.nrm [])) fun _ =>
    (M.lift (Ax.bin .add (L.getD 0 .undef) (V.int .i64 1))).bind fun t134 =>
    M.pure (.nrm [t134]))
    (M.pure (.ex 10 []))

def f_depend_writer_structure_6 (G : Sem') (t143 t142 t2 : V) (L : List V) : M Res :=
  (M.lift (Ax.bin .lss (L.getD 0 .undef) t143)).bind fun t145 =>
  M.ite t145
    (M.blk 13 (
      (M.lift (Ax.iaddr none 2 t142 (L.getD 0 .undef))).bind fun t146 =>
      (mload (some 2) t146).bind fun t147 =>
      (mbox ty_2_int (V.agg [(V.int .i64 0), (V.int .i64 0)])).bind fun t17 =>
      (mstore 2 t17 t147).bind fun _ =>
      (mload (some 1) t2).bind fun t148 =>
      (M.lift (Ax.iaddr (some 2) 1 t17 (V.int .i64 0))).bind fun t149 =>
      (mload none t149).bind fun t150 =>
      (M.lift (Ax.bin .sub t150 (V.int .i64 1))).bind fun t151 =>
      (G fn_depend_writer_num [t148, t151, (V.int .i64 16)]).bind fun t152 =>
      (mload (some 1) t2).bind fun t153 =>
      (M.lift (Ax.iaddr (some 2) 1 t17 (V.int .i64 1))).bind fun t154 =>
      (mload none t154).bind fun t155 =>
      (M.lift (Ax.bin .sub t155 (V.int .i64 1))).bind fun t156 =>
      (G fn_depend_writer_num [t153, t156, (V.int .i64 16)]).bind fun t157 =>
      M.pure (.nrm [])) fun _ =>
    (M.lift (Ax.bin .add (L.getD 0 .undef) (V.int .i64 1))).bind fun t158 =>
    M.pure (.nrm [t158]))
    (M.pure (.ex 12 []))

def f_depend_writer_structure (G : Sem') (t0 t1 : V) : M Res :=
  (mbox ty_depend_writer t0).bind fun t2 =>
  (mbox ty_depend_Structure t1).bind fun t3 =>
  (mload (some 1) t2).bind fun t18 =>
  (M.lift (Ax.faddr 0 t3)).bind fun t19 =>
  (mload none t19).bind fun t20 =>
  (G fn_depend_writer_num [t18, t20, (V.int .i64 6)]).bind fun t21 =>
  (mload (some 1) t2).bind fun t22 =>
  (M.lift (Ax.faddr 1 t3)).bind fun t23 =>
  (mload none t23).bind fun t24 =>
  (M.lift (Ax.bin .sub t24 (V.int .i64 1))).bind fun t25 =>
  (G fn_depend_writer_num [t22, t25, (V.int .i64 5)]).bind fun t26 =>
  (M.lift (Ax.faddr 2 t3)).bind fun t27 =>
  (mload none t27).bind fun t28 =>
  (M.lift (vlen t28)).bind fun t29 =>
  M.blk 0 (
    M.iter (f_depend_writer_structure_0 G t29 t3 t2) [(V.int .i64 0)]) fun _ =>
  (M.lift (Ax.faddr 2 t3)).bind fun t58 =>
  (mload none t58).bind fun t59 =>
  (M.lift (vlen t59)).bind fun t60 =>
  M.blk 2 (
    M.iter (f_depend_writer_structure_1 G t60 t59 t2) [(V.int .i64 0)]) fun _ =>
  (M.lift (Ax.faddr 2 t3)).bind fun t70 =>
  (mload none t70).bind fun t71 =>
  (M.lift (vlen t71)).bind fun t72 =>
  M.blk 4 (
    M.iter (f_depend_writer_structure_3 G t72 t71 t2) [(V.int .i64 0)]) fun _ =>
  (M.lift (Ax.faddr 0 t2)).bind fun t94 =>
  (mload none t94).bind fun t95 =>
  (M.lift (Ax.faddr 3 t3)).bind fun t96 =>
  (mload none t96).bind fun t97 =>
  (M.lift (Ax.cint .u64 t97)).bind fun t98 =>
  (M.lift (Ax.faddr 1 t3)).bind fun t99 =>
  (mload none t99).bind fun t100 =>
  (M.lift (Ax.cint .u64 t100)).bind fun t101 =>
  (M.lift (Ax.bin .add t101 (V.int .u64 1))).bind fun t102 =>
  (G fn_bits_Writer_AddNS [t95, t98, t102]).bind fun t103 =>
  (M.lift (Ax.faddr 3 t3)).bind fun t104 =>
  (mload none t104).bind fun t105 =>
  (M.lift (Ax.bin .gtr t105 (V.int .i64 0))).bind fun t106 =>
  M.join (M.ite t106
    ((M.lift (Ax.faddr 4 t3)).bind fun t107 =>
    (mload none t107).bind fun t108 =>
    (M.lift (vlen t108)).bind fun t109 =>
    M.blk 8 (
      M.iter (f_depend_writer_structure_4 G t109 t108 t2 t3) [(V.int .i64 0)]) fun _ =>
    (M.lift (Ax.faddr 2 t3)).bind fun t123 =>
    (mload none t123).bind fun t124 =>
    (M.lift (vlen t124)).bind fun t125 =>
    M.blk 10 (
      M.iter (f_depend_writer_structure_5 G t125 t124 t2) [(V.int .i64 0)]) fun _ =>
    M.pure (.nrm []))
    (M.pure (.nrm []))) fun _ =>
  (mload (some 1) t2).bind fun t135 =>
  (M.lift (Ax.faddr 5 t3)).bind fun t136 =>
  (mload none t136).bind fun t137 =>
  (M.lift (vlen t137)).bind fun t138 =>
  (M.lift (Ax.bin .gtr t138 (V.int .i64 0))).bind fun t139 =>
  (G fn_depend_writer_bit [t135, t139]).bind fun t140 =>
  (M.lift (Ax.faddr 5 t3)).bind fun t141 =>
  (mload none t141).bind fun t142 =>
  (M.lift (vlen t142)).bind fun t143 =>
  M.blk 12 (
    M.iter (f_depend_writer_structure_6 G t143 t142 t2) [(V.int .i64 0)]) fun _ =>
  M.pure (.ret [])

theorem eq_depend_writer_structure (G : Sem') (t0 t1 : V) : execK G ir_depend_writer_structure.rv ir_depend_writer_structure.body [] [] (params 0 [t0, t1]) = f_depend_writer_structure G t0 t1 := by kernel_rfl

def d_depend_writer_structure (G : Sem') : List V → M V
  | [t0, t1] => fin (f_depend_writer_structure G t0 t1)
  | _ => M.fail

theorem s_depend_writer_structure {g : Sem'} (hg : Sims g (sem T)) (args : List V) : Sim (d_depend_writer_structure g args) (sem T fn_depend_writer_structure args) := by
  unfold d_depend_writer_structure
  split
  · exact sim_fn tb_depend_writer_structure (Nat.le_of_ble_eq_true rfl) hg (eq_depend_writer_structure g _ _)
  · exact sim_fail

/-- (palanquin/depend.writer).nums. -/
def f_depend_writer_nums_0 (G : Sem') (t9 t8 t3 t2 : V) (L : List V) : M Res :=
  (M.lift (Ax.bin .lss (L.getD 0 .undef) t9)).bind fun t11 =>
  M.ite t11
    (M.blk 1 (
      (M.lift (Ax.iaddr none 1 t8 (L.getD 0 .undef))).bind fun t12 =>
      (mload none t12).bind fun t13 =>
      (mload (some 1) t3).bind fun t14 =>
      (G fn_depend_writer_num [t14, t13, t2]).bind fun t17 =>
      M.pure (.nrm [])) fun _ =>
    (M.lift (Ax.bin .add (L.getD 0 .undef) (V.int .i64 1))).bind fun t18 =>
    M.pure (.nrm [t18]))
    (M.pure (.ex 0 []))

def f_depend_writer_nums (G : Sem') (t0 t1 t2 : V) : M Res :=
  (mbox ty_depend_writer t0).bind fun t3 =>
  (M.lift (vlen t1)).bind fun t9 =>
  M.blk 0 (
    M.iter (f_depend_writer_nums_0 G t9 t1 t3 t2) [(V.int .i64 0)]) fun _ =>
  M.pure (.ret [])

theorem eq_depend_writer_nums (G : Sem') (t0 t1 t2 : V) : execK G ir_depend_writer_nums.rv ir_depend_writer_nums.body [] [] (params 0 [t0, t1, t2]) = f_depend_writer_nums G t0 t1 t2 := by kernel_rfl

def d_depend_writer_nums (G : Sem') : List V → M V
  | [t0, t1, t2] => fin (f_depend_writer_nums G t0 t1 t2)
  | _ => M.fail

theorem s_depend_writer_nums {g : Sem'} (hg : Sims g (sem T)) (args : List V) : Sim (d_depend_writer_nums g args) (sem T fn_depend_writer_nums args) := by
  unfold d_depend_writer_nums
  split
  · exact sim_fn tb_depend_writer_nums (Nat.le_of_ble_eq_true rfl) hg (eq_depend_writer_nums g _ _ _)
  · exact sim_fail

/-- (palanquin/depend.writer).own. -/
def f_depend_writer_own_0 (G : Sem') (t5 : V) (L : List V) : M Res :=
  (M.lift (Ax.bin .sub t5 (V.int .i64 1))).bind fun t14 =>
  (M.lift (Ax.bin .mul (V.int .i64 4) (L.getD 0 .undef))).bind fun t16 =>
  (M.lift (Ax.bin .shr t14 t16)).bind fun t17 =>
  (M.lift (Ax.bin .neq t17 (V.int .i64 0))).bind fun t18 =>
  M.ite t18
    (M.blk 3 (
      (M.lift (Ax.bin .add (L.getD 0 .undef) (V.int .i64 1))).bind fun t20 =>
      M.pure (.nrm [t20])) fun L0 =>
    M.pure (.nrm [(L0.getD 0 .undef)]))
    (M.pure (.ex 2 [(L.getD 0 .undef)]))

def f_depend_writer_own_1 (G : Sem') (t8 t7 t2 : V) (L : List V) : M Res :=
  (M.lift (Ax.bin .lss (L.getD 0 .undef) t8)).bind fun t10 =>
  M.ite t10
    (M.blk 1 (
      (M.lift (Ax.iaddr none 1 t7 (L.getD 0 .undef))).bind fun t11 =>
      (mload none t11).bind fun t12 =>
      M.blk 2 (
        M.iter (f_depend_writer_own_0 G t12) [(V.int .i64 1)]) fun L1 =>
      (mload (some 1) t2).bind fun t21 =>
      (G fn_depend_writer_num [t21, (L1.getD 0 .undef), (V.int .i64 2)]).bind fun t23 =>
      (mload (some 1) t2).bind fun t24 =>
      (M.lift (Ax.bin .sub t12 (V.int .i64 1))).bind fun t26 =>
      (M.lift (Ax.bin .mul (V.int .i64 4) (L1.getD 0 .undef))).bind fun t28 =>
      (G fn_depend_writer_num [t24, t26, t28]).bind fun t29 =>
      M.pure (.nrm [])) fun _ =>
    (M.lift (Ax.bin .add (L.getD 0 .undef) (V.int .i64 1))).bind fun t30 =>
    M.pure (.nrm [t30]))
    (M.pure (.ex 0 []))

def f_depend_writer_own (G : Sem') (t0 t1 : V) : M Res :=
  (mbox ty_depend_writer t0).bind fun t2 =>
  (M.lift (vlen t1)).bind fun t8 =>
  M.blk 0 (
    M.iter (f_depend_writer_own_1 G t8 t1 t2) [(V.int .i64 0)]) fun _ =>
  (mload (some 1) t2).bind fun t31 =>
  (G fn_depend_writer_num [t31, (V.int .i64 0), (V.int .i64 2)]).bind fun t32 =>
  M.pure (.ret [])

theorem eq_depend_writer_own (G : Sem') (t0 t1 : V) : execK G ir_depend_writer_own.rv ir_depend_writer_own.body [] [] (params 0 [t0, t1]) = f_depend_writer_own G t0 t1 := by kernel_rfl

def d_depend_writer_own (G : Sem') : List V → M V
  | [t0, t1] => fin (f_depend_writer_own G t0 t1)
  | _ => M.fail

theorem s_depend_writer_own {g : Sem'} (hg : Sims g (sem T)) (args : List V) : Sim (d_depend_writer_own g args) (sem T fn_depend_writer_own args) := by
  unfold d_depend_writer_own
  split
  · exact sim_fn tb_depend_writer_own (Nat.le_of_ble_eq_true rfl) hg (eq_depend_writer_own g _ _)
  · exact sim_fail

/-- palanquin/depend.within. -/
def f_depend_within (G : Sem') (t0 t1 t2 t3 : V) : M Res :=
  (mbox ty_int t2).bind fun t6 =>
  (mbox ty_int t3).bind fun t7 =>
  (M.lift (vlen t0)).bind fun t10 =>
  (M.lift (Ax.bin .eql t10 t1)).bind fun t12 =>
  (guarded [(0, t12)] (some (0, true)) (M.pure t0)).bind fun t14 =>
  (guarded [(0, t12)] (some (0, true)) (M.pure (.fn fn_depend_within_1 [t6, t7]))).bind fun t15 =>
  (guarded [(0, t12)] (some (0, true)) (G fn_slices_ContainsFunc_int_int [t14, t15])).bind fun t16 =>
  (guarded [(0, t12)] (some (0, true)) (M.lift (Ax.un .not t16))).bind fun t17 =>
  (M.lift (Ax.pick t12 t17 (V.bool false))).bind fun t18 =>
  M.pure (.ret [t18])

theorem eq_depend_within (G : Sem') (t0 t1 t2 t3 : V) : execK G ir_depend_within.rv ir_depend_within.body [] [] (params 0 [t0, t1, t2, t3]) = f_depend_within G t0 t1 t2 t3 := by kernel_rfl

def d_depend_within (G : Sem') : List V → M V
  | [t0, t1, t2, t3] => fin (f_depend_within G t0 t1 t2 t3)
  | _ => M.fail

theorem s_depend_within {g : Sem'} (hg : Sims g (sem T)) (args : List V) : Sim (d_depend_within g args) (sem T fn_depend_within args) := by
  unfold d_depend_within
  split
  · exact sim_fn tb_depend_within (Nat.le_of_ble_eq_true rfl) hg (eq_depend_within g _ _ _ _)
  · exact sim_fail

/-- palanquin/depend.layers. -/
def f_depend_layers_0 (G : Sem') (t11 t10 t3 : V) (L : List V) : M Res :=
  (M.lift (Ax.bin .lss (L.getD 0 .undef) t11)).bind fun t13 =>
  M.ite t13
    (M.blk 1 (
      (M.lift (Ax.iaddr none 5 t10 (L.getD 0 .undef))).bind fun t15 =>
      (mload (some 5) t15).bind fun t16 =>
      (mbox ty_depend_Template (V.agg [(V.int .i64 0), (V.int .i64 0), V.nils, V.nils, V.nils])).bind fun t5 =>
      (mstore 5 t5 t16).bind fun _ =>
      (mload (some 5) t3).bind fun t18 =>
      (mload (some 5) t5).bind fun t19 =>
      (G fn_depend_next [t18, t19]).bind fun t20 =>
      (M.lift (Ax.ext 0 t20)).bind fun t21 =>
      (M.lift (Ax.ext 1 t20)).bind fun t22 =>
      (M.lift (Ax.un .not t22)).bind fun t24 =>
      (guarded [(0, t24)] (some (0, false)) (M.pure (L.getD 0 .undef))).bind fun t26 =>
      (guarded [(0, t24)] (some (0, false)) (M.lift (Ax.bin .eql t26 (V.int .i64 0)))).bind fun t27 =>
      (guarded [(0, t24)] (some (0, false)) (M.pure t27)).bind fun t28 =>
      (guarded [(0, t28)] (some (0, true)) (M.pure t21)).bind fun t29 =>
      (guarded [(0, t28)] (some (0, true)) (M.lift (Ax.bin .neq t29 (V.int .i64 0)))).bind fun t30 =>
      (guarded [(0, t24)] (some (0, false)) (M.lift (Ax.pick t28 t30 (V.bool false)))).bind fun t31 =>
      (M.lift (Ax.pick t24 (V.bool true) t31)).bind fun t32 =>
      (guarded [(0, t32)] (some (0, false)) (M.lift (Ax.faddr 0 t5))).bind fun t34 =>
      (guarded [(0, t32)] (some (0, false)) (mload none t34)).bind fun t35 =>
      (guarded [(0, t32)] (some (0, false)) (M.lift (Ax.bin .gtr t35 (V.int .i64 3)))).bind fun t36 =>
      (M.lift (Ax.pick t32 (V.bool true) t36)).bind fun t37 =>
      (guarded [(0, t37)] (some (0, false)) (M.lift (Ax.faddr 1 t5))).bind fun t39 =>
      (guarded [(0, t37)] (some (0, false)) (mload none t39)).bind fun t40 =>
      (guarded [(0, t37)] (some (0, false)) (M.lift (Ax.bin .gtr t40 (V.int .i64 7)))).bind fun t41 =>
      (M.lift (Ax.pick t37 (V.bool true) t41)).bind fun t42 =>
      M.ite t42
        (M.pure (.ret [(V.bool false)]))
        ((mload (some 5) t5).bind fun t43 =>
        (mstore 5 t3 t43).bind fun _ =>
        M.pure (.nrm []))) fun _ =>
    (M.lift (Ax.bin .add (L.getD 0 .undef) (V.int .i64 1))).bind fun t44 =>
    M.pure (.nrm [t44]))
    (M.pure (.ex 0 []))

def f_depend_layers (G : Sem') (t0 : V) : M Res :=
  (mbox ty_depend_Structure t0).bind fun t1 =>
  (M.lift (Ax.build [(V.int .i64 0), (V.int .i64 0), V.nils, V.nils, V.nils] [])).bind fun t8 =>
  (mbox ty_depend_Template (V.agg [(V.int .i64 0), (V.int .i64 0), V.nils, V.nils, V.nils])).bind fun t3 =>
  (mstore 5 t3 t8).bind fun _ =>
  (M.lift (Ax.faddr 2 t1)).bind fun t9 =>
  (mload none t9).bind fun t10 =>
  (M.lift (vlen t10)).bind fun t11 =>
  M.blk 0 (
    M.iter (f_depend_layers_0 G t11 t10 t3) [(V.int .i64 0)]) fun _ =>
  (M.lift (Ax.faddr 2 t1)).bind fun t45 =>
  (mload none t45).bind fun t46 =>
  (M.lift (vlen t46)).bind fun t47 =>
  (M.lift (Ax.bin .geq t47 (V.int .i64 1))).bind fun t48 =>
  (guarded [(0, t48)] (some (0, true)) (M.lift (Ax.faddr 2 t1))).bind fun t50 =>
  (guarded [(0, t48)] (some (0, true)) (mload none t50)).bind fun t51 =>
  (guarded [(0, t48)] (some (0, true)) (M.lift (vlen t51))).bind fun t52 =>
  (guarded [(0, t48)] (some (0, true)) (M.lift (Ax.bin .leq t52 (V.int .i64 64)))).bind fun t53 =>
  (M.lift (Ax.pick t48 t53 (V.bool false))).bind fun t54 =>
  M.pure (.ret [t54])

theorem eq_depend_layers (G : Sem') (t0 : V) : execK G ir_depend_layers.rv ir_depend_layers.body [] [] (params 0 [t0]) = f_depend_layers G t0 := by kernel_rfl

def d_depend_layers (G : Sem') : List V → M V
  | [t0] => fin (f_depend_layers G t0)
  | _ => M.fail

theorem s_depend_layers {g : Sem'} (hg : Sims g (sem T)) (args : List V) : Sim (d_depend_layers g args) (sem T fn_depend_layers args) := by
  unfold d_depend_layers
  split
  · exact sim_fn tb_depend_layers (Nat.le_of_ble_eq_true rfl) hg (eq_depend_layers g _)
  · exact sim_fail

/-- palanquin/depend.spatial. -/
def f_depend_spatial_0 (G : Sem') (t8 t7 t2 : V) (L : List V) : M Res :=
  (M.lift (Ax.bin .lss (L.getD 1 .undef) t8)).bind fun t10 =>
  M.ite t10
    (M.blk 1 (
      (M.lift (Ax.iaddr none 5 t7 (L.getD 1 .undef))).bind fun t11 =>
      (mload (some 5) t11).bind fun t12 =>
      (mbox ty_depend_Template (V.agg [(V.int .i64 0), (V.int .i64 0), V.nils, V.nils, V.nils])).bind fun t5 =>
      (mstore 5 t5 t12).bind fun _ =>
      (M.lift (Ax.faddr 0 t5)).bind fun t14 =>
      (mload none t14).bind fun t15 =>
      (M.lift (Ax.bin .add t15 (V.int .i64 1))).bind fun t16 =>
      (M.lift (Ax.minmax true (L.getD 0 .undef) [t16])).bind fun t17 =>
      M.pure (.nrm [t17])) fun L0 =>
    (M.lift (Ax.bin .add (L.getD 1 .undef) (V.int .i64 1))).bind fun t18 =>
    M.pure (.nrm [(L0.getD 0 .undef), t18]))
    (M.pure (.ex 0 [(L.getD 0 .undef)]))

def f_depend_spatial (G : Sem') (t0 : V) : M Res :=
  (mbox ty_depend_Structure t0).bind fun t1 =>
  (M.lift (Ax.faddr 2 t1)).bind fun t6 =>
  (mload none t6).bind fun t7 =>
  (M.lift (vlen t7)).bind fun t8 =>
  M.blk 0 (
    M.iter (f_depend_spatial_0 G t8 t7 (V.int .i64 0)) [(V.int .i64 0), (V.int .i64 0)]) fun L1 =>
  M.pure (.ret [(L1.getD 0 .undef)])

theorem eq_depend_spatial (G : Sem') (t0 : V) : execK G ir_depend_spatial.rv ir_depend_spatial.body [] [] (params 0 [t0]) = f_depend_spatial G t0 := by kernel_rfl

def d_depend_spatial (G : Sem') : List V → M V
  | [t0] => fin (f_depend_spatial G t0)
  | _ => M.fail

theorem s_depend_spatial {g : Sem'} (hg : Sims g (sem T)) (args : List V) : Sim (d_depend_spatial g args) (sem T fn_depend_spatial args) := by
  unfold d_depend_spatial
  split
  · exact sim_fn tb_depend_spatial (Nat.le_of_ble_eq_true rfl) hg (eq_depend_spatial g _)
  · exact sim_fail

/-- slices.ContainsFunc[[]palanquin/depend.Template,palanquin/depend.Template]. -/
def f_slices_ContainsFunc_depend_Template_depend_Template (G : Sem') (t0 t1 : V) : M Res :=
  (G fn_slices_IndexFunc_depend_Template_depend_Template [t0, t1]).bind fun t7 =>
  (M.lift (Ax.bin .geq t7 (V.int .i64 0))).bind fun t8 =>
  M.pure (.ret [t8])

theorem eq_slices_ContainsFunc_depend_Template_depend_Template (G : Sem') (t0 t1 : V) : execK G ir_slices_ContainsFunc_depend_Template_depend_Template.rv ir_slices_ContainsFunc_depend_Template_depend_Template.body [] [] (params 0 [t0, t1]) = f_slices_ContainsFunc_depend_Template_depend_Template G t0 t1 := by kernel_rfl

def d_slices_ContainsFunc_depend_Template_depend_Template (G : Sem') : List V → M V
  | [t0, t1] => fin (f_slices_ContainsFunc_depend_Template_depend_Template G t0 t1)
  | _ => M.fail

theorem s_slices_ContainsFunc_depend_Template_depend_Template {g : Sem'} (hg : Sims g (sem T)) (args : List V) : Sim (d_slices_ContainsFunc_depend_Template_depend_Template g args) (sem T fn_slices_ContainsFunc_depend_Template_depend_Template args) := by
  unfold d_slices_ContainsFunc_depend_Template_depend_Template
  split
  · exact sim_fn tb_slices_ContainsFunc_depend_Template_depend_Template (Nat.le_of_ble_eq_true rfl) hg (eq_slices_ContainsFunc_depend_Template_depend_Template g _ _)
  · exact sim_fail

/-- palanquin/depend.Fine$1. -/
def f_depend_Fine_1 (G : Sem') (t0 t1 : V) : M Res :=
  (mbox ty_depend_Template t0).bind fun t2 =>
  (mload (some 6) t1).bind fun t4 =>
  (mload (some 5) t2).bind fun t5 =>
  (G fn_depend_Structure_fine [t4, t5]).bind fun t6 =>
  (M.lift (Ax.un .not t6)).bind fun t7 =>
  M.pure (.ret [t7])

theorem eq_depend_Fine_1 (G : Sem') (t0 t1 : V) : execK G ir_depend_Fine_1.rv ir_depend_Fine_1.body [] [] (params 0 [t0, t1]) = f_depend_Fine_1 G t0 t1 := by kernel_rfl

def d_depend_Fine_1 (G : Sem') : List V → M V
  | [t0, t1] => fin (f_depend_Fine_1 G t0 t1)
  | _ => M.fail

theorem s_depend_Fine_1 {g : Sem'} (hg : Sims g (sem T)) (args : List V) : Sim (d_depend_Fine_1 g args) (sem T fn_depend_Fine_1 args) := by
  unfold d_depend_Fine_1
  split
  · exact sim_fn tb_depend_Fine_1 (Nat.le_of_ble_eq_true rfl) hg (eq_depend_Fine_1 g _ _)
  · exact sim_fail

/-- (palanquin/depend.Structure).fine. -/
def f_depend_Structure_fine (G : Sem') (t0 t1 : V) : M Res :=
  (mbox ty_depend_Structure t0).bind fun t2 =>
  (mbox ty_depend_Template t1).bind fun t3 =>
  (M.lift (Ax.faddr 2 t3)).bind fun t5 =>
  (mload none t5).bind fun t6 =>
  (M.lift (Ax.faddr 1 t2)).bind fun t7 =>
  (mload none t7).bind fun t8 =>
  (G fn_depend_within [t6, t8, (V.int .i64 0), (V.int .i64 3)]).bind fun t9 =>
  (guarded [(0, t9)] (some (0, true)) (M.lift (Ax.faddr 3 t3))).bind fun t11 =>
  (guarded [(0, t9)] (some (0, true)) (mload none t11)).bind fun t12 =>
  (guarded [(0, t9)] (some (0, true)) (G fn_depend_diffs [t12, (V.int .i64 8), (V.int .i64 16)])).bind fun t13 =>
  (M.lift (Ax.pick t9 t13 (V.bool false))).bind fun t14 =>
  (guarded [(0, t14)] (some (0, true)) (M.lift (Ax.faddr 4 t3))).bind fun t16 =>
  (guarded [(0, t14)] (some (0, true)) (mload none t16)).bind fun t17 =>
  (guarded [(0, t14)] (some (0, true)) (M.lift (Ax.faddr 3 t2))).bind fun t18 =>
  (guarded [(0, t14)] (some (0, true)) (mload none t18)).bind fun t19 =>
  (guarded [(0, t14)] (some (0, true)) (G fn_depend_within [t17, t19, (V.int .i64 0), (V.int .i64 15)])).bind fun t20 =>
  (M.lift (Ax.pick t14 t20 (V.bool false))).bind fun t21 =>
  M.pure (.ret [t21])

theorem eq_depend_Structure_fine (G : Sem') (t0 t1 : V) : execK G ir_depend_Structure_fine.rv ir_depend_Structure_fine.body [] [] (params 0 [t0, t1]) = f_depend_Structure_fine G t0 t1 := by kernel_rfl

def d_depend_Structure_fine (G : Sem') : List V → M V
  | [t0, t1] => fin (f_depend_Structure_fine G t0 t1)
  | _ => M.fail

theorem s_depend_Structure_fine {g : Sem'} (hg : Sims g (sem T)) (args : List V) : Sim (d_depend_Structure_fine g args) (sem T fn_depend_Structure_fine args) := by
  unfold d_depend_Structure_fine
  split
  · exact sim_fn tb_depend_Structure_fine (Nat.le_of_ble_eq_true rfl) hg (eq_depend_Structure_fine g _ _)
  · exact sim_fail

/-- palanquin/depend.none. -/
def f_depend_none (G : Sem') (t0 : V) : M Res :=
  (mbox ty_depend_Structure t0).bind fun t1 =>
  (M.lift (Ax.faddr 0 t1)).bind fun t3 =>
  (mload none t3).bind fun t4 =>
  (M.lift (Ax.bin .eql t4 (V.int .i64 0))).bind fun t5 =>
  (guarded [(0, t5)] (some (0, true)) (M.lift (Ax.faddr 1 t1))).bind fun t7 =>
  (guarded [(0, t5)] (some (0, true)) (mload none t7)).bind fun t8 =>
  (guarded [(0, t5)] (some (0, true)) (M.lift (Ax.bin .eql t8 (V.int .i64 0)))).bind fun t9 =>
  (M.lift (Ax.pick t5 t9 (V.bool false))).bind fun t10 =>
  (guarded [(0, t10)] (some (0, true)) (M.lift (Ax.faddr 3 t1))).bind fun t12 =>
  (guarded [(0, t10)] (some (0, true)) (mload none t12)).bind fun t13 =>
  (guarded [(0, t10)] (some (0, true)) (M.lift (Ax.bin .eql t13 (V.int .i64 0)))).bind fun t14 =>
  (M.lift (Ax.pick t10 t14 (V.bool false))).bind fun t15 =>
  (guarded [(0, t15)] (some (0, true)) (M.lift (Ax.faddr 2 t1))).bind fun t17 =>
  (guarded [(0, t15)] (some (0, true)) (mload none t17)).bind fun t18 =>
  (guarded [(0, t15)] (some (0, true)) (M.lift (vlen t18))).bind fun t19 =>
  (guarded [(0, t15)] (some (0, true)) (M.lift (Ax.faddr 4 t1))).bind fun t20 =>
  (guarded [(0, t15)] (some (0, true)) (mload none t20)).bind fun t21 =>
  (guarded [(0, t15)] (some (0, true)) (M.lift (vlen t21))).bind fun t22 =>
  (guarded [(0, t15)] (some (0, true)) (M.lift (Ax.bin .add t19 t22))).bind fun t23 =>
  (guarded [(0, t15)] (some (0, true)) (M.lift (Ax.faddr 5 t1))).bind fun t24 =>
  (guarded [(0, t15)] (some (0, true)) (mload none t24)).bind fun t25 =>
  (guarded [(0, t15)] (some (0, true)) (M.lift (vlen t25))).bind fun t26 =>
  (guarded [(0, t15)] (some (0, true)) (M.lift (Ax.bin .add t23 t26))).bind fun t27 =>
  (guarded [(0, t15)] (some (0, true)) (M.lift (Ax.bin .eql t27 (V.int .i64 0)))).bind fun t28 =>
  (M.lift (Ax.pick t15 t28 (V.bool false))).bind fun t29 =>
  M.pure (.ret [t29])

theorem eq_depend_none (G : Sem') (t0 : V) : execK G ir_depend_none.rv ir_depend_none.body [] [] (params 0 [t0]) = f_depend_none G t0 := by kernel_rfl

def d_depend_none (G : Sem') : List V → M V
  | [t0] => fin (f_depend_none G t0)
  | _ => M.fail

theorem s_depend_none {g : Sem'} (hg : Sims g (sem T)) (args : List V) : Sim (d_depend_none g args) (sem T fn_depend_none args) := by
  unfold d_depend_none
  split
  · exact sim_fn tb_depend_none (Nat.le_of_ble_eq_true rfl) hg (eq_depend_none g _)
  · exact sim_fail

/-- slices.Equal[[]int,int]. -/
def f_slices_Equal_int_int_0 (G : Sem') (t12 t0 t1 : V) (L : List V) : M Res :=
  (M.lift (Ax.bin .lss (L.getD 0 .undef) t12)).bind fun t14 =>
  M.ite t14
    (M.blk 1 (
      (M.lift (Ax.iaddr none 1 t0 (L.getD 0 .undef))).bind fun t18 =>
      (mload none t18).bind fun t19 =>
      (M.lift (Ax.iaddr none 1 t1 (L.getD 0 .undef))).bind fun t22 =>
      (mload none t22).bind fun t23 =>
      (M.lift (Ax.bin .neq t19 t23)).bind fun t24 =>
      M.ite t24
        (M.pure (.ret [(V.bool false)]))
        (M.pure (.nrm []))) fun _ =>
    (M.lift (Ax.bin .add (L.getD 0 .undef) (V.int .i64 1))).bind fun t25 =>
    M.pure (.nrm [t25]))
    (M.pure (.ex 0 []))

def f_slices_Equal_int_int (G : Sem') (t0 t1 : V) : M Res :=
  (M.lift (vlen t0)).bind fun t7 =>
  (M.lift (vlen t1)).bind fun t9 =>
  (M.lift (Ax.bin .neq t7 t9)).bind fun t10 =>
  M.ite t10
    (M.pure (.ret [(V.bool false)]))
    ((M.lift (vlen t0)).bind fun t12 =>
    M.blk 0 (
      M.iter (f_slices_Equal_int_int_0 G t12 t0 t1) [(V.int .i64 0)]) fun _ =>
    M.pure (.ret [(V.bool true)]))

theorem eq_slices_Equal_int_int (G : Sem') (t0 t1 : V) : execK G ir_slices_Equal_int_int.rv ir_slices_Equal_int_int.body [] [] (params 0 [t0, t1]) = f_slices_Equal_int_int G t0 t1 := by kernel_rfl

def d_slices_Equal_int_int (G : Sem') : List V → M V
  | [t0, t1] => fin (f_slices_Equal_int_int G t0 t1)
  | _ => M.fail

theorem s_slices_Equal_int_int {g : Sem'} (hg : Sims g (sem T)) (args : List V) : Sim (d_slices_Equal_int_int g args) (sem T fn_slices_Equal_int_int args) := by
  unfold d_slices_Equal_int_int
  split
  · exact sim_fn tb_slices_Equal_int_int (Nat.le_of_ble_eq_true rfl) hg (eq_slices_Equal_int_int g _ _)
  · exact sim_fail

/-- palanquin/depend.diffs. -/
def f_depend_diffs (G : Sem') (t0 t1 t2 : V) : M Res :=
  (M.lift (vlen t0)).bind fun t8 =>
  (M.lift (Ax.bin .leq t8 t1)).bind fun t10 =>
  (guarded [(0, t10)] (some (0, true)) (M.pure t0)).bind fun t12 =>
  (guarded [(0, t10)] (some (0, true)) (M.pure t0)).bind fun t13 =>
  (guarded [(0, t10)] (some (0, true)) (M.lift (vlen t13))).bind fun t14 =>
  (guarded [(0, t10)] (some (0, true)) (M.pure t2)).bind fun t15 =>
  (guarded [(0, t10)] (some (0, true)) (G fn_depend_within [t12, t14, (V.int .i64 1), t15])).bind fun t16 =>
  (M.lift (Ax.pick t10 t16 (V.bool false))).bind fun t17 =>
  M.pure (.ret [t17])

theorem eq_depend_diffs (G : Sem') (t0 t1 t2 : V) : execK G ir_depend_diffs.rv ir_depend_diffs.body [] [] (params 0 [t0, t1, t2]) = f_depend_diffs G t0 t1 t2 := by kernel_rfl

def d_depend_diffs (G : Sem') : List V → M V
  | [t0, t1, t2] => fin (f_depend_diffs G t0 t1 t2)
  | _ => M.fail

theorem s_depend_diffs {g : Sem'} (hg : Sims g (sem T)) (args : List V) : Sim (d_depend_diffs g args) (sem T fn_depend_diffs args) := by
  unfold d_depend_diffs
  split
  · exact sim_fn tb_depend_diffs (Nat.le_of_ble_eq_true rfl) hg (eq_depend_diffs g _ _ _)
  · exact sim_fail

/-- (*palanquin/depend.reader).bit. -/
def f_depend_reader_bit (G : Sem') (t0 : V) : M Res :=
  (G fn_depend_reader_num [t0, (V.int .i64 1)]).bind fun t4 =>
  (M.lift (Ax.bin .eql t4 (V.int .i64 1))).bind fun t5 =>
  M.pure (.ret [t5])

theorem eq_depend_reader_bit (G : Sem') (t0 : V) : execK G ir_depend_reader_bit.rv ir_depend_reader_bit.body [] [] (params 0 [t0]) = f_depend_reader_bit G t0 := by kernel_rfl

def d_depend_reader_bit (G : Sem') : List V → M V
  | [t0] => fin (f_depend_reader_bit G t0)
  | _ => M.fail

theorem s_depend_reader_bit {g : Sem'} (hg : Sims g (sem T)) (args : List V) : Sim (d_depend_reader_bit g args) (sem T fn_depend_reader_bit args) := by
  unfold d_depend_reader_bit
  split
  · exact sim_fn tb_depend_reader_bit (Nat.le_of_ble_eq_true rfl) hg (eq_depend_reader_bit g _)
  · exact sim_fail

/-- (*palanquin/depend.reader).num. -/
def f_depend_reader_num (G : Sem') (t0 t1 : V) : M Res :=
  (M.lift (Ax.nilck t0)).bind fun t8 =>
  (M.lift (Ax.faddr 1 t8)).bind fun t9 =>
  (mload none t9).bind fun t10 =>
  (M.lift (Ax.bin .neq t10 (V.int .i64 0))).bind fun t11 =>
  M.ite t11
    (M.pure (.ret [(V.int .i64 0)]))
    ((M.lift (Ax.nilck t0)).bind fun t14 =>
    (M.lift (Ax.faddr 0 t14)).bind fun t15 =>
    (mload none t15).bind fun t16 =>
    (G fn_bits_Reader_Take [t16, t1]).bind fun t18 =>
    (M.lift (Ax.ext 0 t18)).bind fun t19 =>
    (M.lift (Ax.ext 1 t18)).bind fun t20 =>
    (M.lift (Ax.nilck t0)).bind fun t23 =>
    (M.lift (Ax.faddr 1 t23)).bind fun t24 =>
    (mstore 1 t24 t20).bind fun _ =>
    (M.lift (Ax.cint .i64 t19)).bind fun t26 =>
    M.pure (.ret [t26]))

theorem eq_depend_reader_num (G : Sem') (t0 t1 : V) : execK G ir_depend_reader_num.rv ir_depend_reader_num.body [] [] (params 0 [t0, t1]) = f_depend_reader_num G t0 t1 := by kernel_rfl

def d_depend_reader_num (G : Sem') : List V → M V
  | [t0, t1] => fin (f_depend_reader_num G t0 t1)
  | _ => M.fail

theorem s_depend_reader_num {g : Sem'} (hg : Sims g (sem T)) (args : List V) : Sim (d_depend_reader_num g args) (sem T fn_depend_reader_num args) := by
  unfold d_depend_reader_num
  split
  · exact sim_fn tb_depend_reader_num (Nat.le_of_ble_eq_true rfl) hg (eq_depend_reader_num g _ _)
  · exact sim_fail

/-- (*palanquin/depend.reader).structure. -/
def f_depend_reader_structure_0 (G : Sem') (t18 t0 t3 t2 : V) (L : List V) : M Res :=
  (M.lift (Ax.bin .lss (L.getD 0 .undef) t18)).bind fun t20 =>
  M.ite t20
    (M.blk 1 (
      (M.lift (Ax.faddr 2 t3)).bind fun t22 =>
      (mload none t22).bind fun t23 =>
      (M.lift (Ax.faddr 1 t3)).bind fun t26 =>
      (mload none t26).bind fun t27 =>
      M.getH.bind fun h0 =>
      (G fn_depend_reader_nums [t0, t27, (V.int .i64 2)]).bind fun t28 =>
      M.getH.bind fun h0' =>
      (M.unch t22 h0 h0').bind fun _ =>
      (M.lift (Ax.iaddr none 5 t23 (L.getD 0 .undef))).bind fun t29 =>
      (M.lift (Ax.faddr 2 t29)).bind fun t30 =>
      (mstore 1 t30 t28).bind fun _ =>
      M.pure (.nrm [])) fun _ =>
    (M.lift (Ax.bin .add (L.getD 0 .undef) (V.int .i64 1))).bind fun t31 =>
    M.pure (.nrm [t31]))
    (M.pure (.ex 0 []))

def f_depend_reader_structure_1 (G : Sem') (t34 t3 t0 t2 : V) (L : List V) : M Res :=
  (M.lift (Ax.bin .lss (L.getD 0 .undef) t34)).bind fun t36 =>
  M.ite t36
    (M.blk 3 (
      (M.lift (Ax.faddr 2 t3)).bind fun t38 =>
      (mload none t38).bind fun t39 =>
      M.getH.bind fun h1 =>
      (G fn_depend_reader_diffs [t0]).bind fun t42 =>
      M.getH.bind fun h1' =>
      (M.unch t38 h1 h1').bind fun _ =>
      (M.lift (Ax.iaddr none 5 t39 (L.getD 0 .undef))).bind fun t43 =>
      (M.lift (Ax.faddr 3 t43)).bind fun t44 =>
      (mstore 1 t44 t42).bind fun _ =>
      M.pure (.nrm [])) fun _ =>
    (M.lift (Ax.bin .add (L.getD 0 .undef) (V.int .i64 1))).bind fun t45 =>
    M.pure (.nrm [t45]))
    (M.pure (.ex 2 []))

def f_depend_reader_structure_2 (G : Sem') (t56 t0 t3 t2 : V) (L : List V) : M Res :=
  (M.lift (Ax.bin .lss (L.getD 0 .undef) t56)).bind fun t58 =>
  M.ite t58
    (M.blk 5 (
      (M.lift (Ax.faddr 4 t3)).bind fun t59 =>
      (mload none t59).bind fun t60 =>
      (M.lift (Ax.faddr 3 t3)).bind fun t62 =>
      (mload none t62).bind fun t63 =>
      M.getH.bind fun h2 =>
      (G fn_depend_reader_ns [t0, t63]).bind fun t64 =>
      M.getH.bind fun h2' =>
      (M.unch t59 h2 h2').bind fun _ =>
      (mslit ty_int 1 [(V.int .i64 0)] [(0, 1, t64)]).bind fun t65 =>
      (mappend ty_int 1 8 t60 t65).bind fun t66 =>
      (M.lift (Ax.faddr 4 t3)).bind fun t67 =>
      (mstore 1 t67 t66).bind fun _ =>
      M.pure (.nrm [])) fun _ =>
    (M.lift (Ax.bin .add (L.getD 0 .undef) (V.int .i64 1))).bind fun t68 =>
    M.pure (.nrm [t68]))
    (M.pure (.ex 4 []))

def f_depend_reader_structure_3 (G : Sem') (t71 t0 t3 t2 : V) (L : List V) : M Res :=
  (M.lift (Ax.bin .lss (L.getD 0 .undef) t71)).bind fun t73 =>
  M.ite t73
    (M.blk 7 (
      (M.lift (Ax.faddr 2 t3)).bind fun t75 =>
      (mload none t75).bind fun t76 =>
      (M.lift (Ax.faddr 3 t3)).bind fun t79 =>
      (mload none t79).bind fun t80 =>
      M.getH.bind fun h3 =>
      (G fn_depend_reader_nums [t0, t80, (V.int .i64 4)]).bind fun t81 =>
      M.getH.bind fun h3' =>
      (M.unch t75 h3 h3').bind fun _ =>
      (M.lift (Ax.iaddr none 5 t76 (L.getD 0 .undef))).bind fun t82 =>
      (M.lift (Ax.faddr 4 t82)).bind fun t83 =>
      (mstore 1 t83 t81).bind fun _ =>
      M.pure (.nrm [])) fun _ =>
    (M.lift (Ax.bin .add (L.getD 0 .undef) (V.int .i64 1))).bind fun t84 =>
    M.pure (.nrm [t84]))
    (M.pure (.ex 6 []))

def f_depend_reader_structure_4 (G : Sem') (t88 t0 t3 t2 : V) (L : List V) : M Res :=
  (M.lift (Ax.bin .lss (L.getD 0 .undef) t88)).bind fun t90 =>
  M.ite t90
    (M.blk 9 (
      (M.lift (Ax.faddr 5 t3)).bind fun t91 =>
      (mload none t91).bind fun t92 =>
      M.getH.bind fun h4 =>
      (G fn_depend_reader_num [t0, (V.int .i64 16)]).bind fun t94 =>
      M.getH.bind fun h4' =>
      (M.unch t91 h4 h4').bind fun _ =>
      M.getH.bind fun h5 =>
      (G fn_depend_reader_num [t0, (V.int .i64 16)]).bind fun t97 =>
      M.getH.bind fun h5' =>
      (M.unch t91 h5 h5').bind fun _ =>
      (M.lift (Ax.bin .add t94 (V.int .i64 1))).bind fun t95 =>
      (M.lift (Ax.bin .add t97 (V.int .i64 1))).bind fun t98 =>
      (M.lift (Ax.build [(V.int .i64 0), (V.int .i64 0)] [(0, 1, t95), (1, 1, t98)])).bind fun t99 =>
      (mslit ty_2_int 1 [(V.int .i64 0), (V.int .i64 0)] [(0, 2, t99)]).bind fun t100 =>
      (mappend ty_2_int 2 16 t92 t100).bind fun t101 =>
      (M.lift (Ax.faddr 5 t3)).bind fun t102 =>
      (mstore 1 t102 t101).bind fun _ =>
      M.pure (.nrm [])) fun _ =>
    (M.lift (Ax.bin .add (L.getD 0 .undef) (V.int .i64 1))).bind fun t103 =>
    M.pure (.nrm [t103]))
    (M.pure (.ex 8 []))

def f_depend_reader_structure (G : Sem') (t0 : V) : M Res :=
  (mbox ty_depend_Structure (V.agg [(V.int .i64 0), (V.int .i64 0), V.nils, (V.int .i64 0), V.nils, V.nils])).bind fun t2 =>
  (G fn_depend_reader_num [t0, (V.int .i64 6)]).bind fun t8 =>
  (G fn_depend_reader_num [t0, (V.int .i64 5)]).bind fun t10 =>
  (M.lift (Ax.bin .add t10 (V.int .i64 1))).bind fun t11 =>
  (M.lift (Ax.build [(V.int .i64 0), (V.int .i64 0), V.nils, (V.int .i64 0), V.nils, V.nils] [(0, 1, t8), (1, 1, t11)])).bind fun t12 =>
  (mbox ty_depend_Structure (V.agg [(V.int .i64 0), (V.int .i64 0), V.nils, (V.int .i64 0), V.nils, V.nils])).bind fun t3 =>
  (mstore 6 t3 t12).bind fun _ =>
  (G fn_depend_reader_templates [t0]).bind fun t14 =>
  (M.lift (Ax.faddr 2 t3)).bind fun t15 =>
  (mstore 1 t15 t14).bind fun _ =>
  (M.lift (Ax.faddr 2 t3)).bind fun t16 =>
  (mload none t16).bind fun t17 =>
  (M.lift (vlen t17)).bind fun t18 =>
  M.blk 0 (
    M.iter (f_depend_reader_structure_0 G t18 t0 t3 t2) [(V.int .i64 0)]) fun _ =>
  (M.lift (Ax.faddr 2 t3)).bind fun t32 =>
  (mload none t32).bind fun t33 =>
  (M.lift (vlen t33)).bind fun t34 =>
  M.blk 2 (
    M.iter (f_depend_reader_structure_1 G t34 t3 t0 t2) [(V.int .i64 0)]) fun _ =>
  (M.lift (Ax.faddr 1 t3)).bind fun t47 =>
  (mload none t47).bind fun t48 =>
  (M.lift (Ax.bin .add t48 (V.int .i64 1))).bind fun t49 =>
  (G fn_depend_reader_ns [t0, t49]).bind fun t50 =>
  (M.lift (Ax.faddr 3 t3)).bind fun t51 =>
  (mstore 1 t51 t50).bind fun _ =>
  (M.lift (Ax.faddr 3 t3)).bind fun t52 =>
  (mload none t52).bind fun t53 =>
  (M.lift (Ax.bin .gtr t53 (V.int .i64 0))).bind fun t54 =>
  M.join (M.ite t54
    ((M.lift (Ax.faddr 1 t3)).bind fun t55 =>
    (mload none t55).bind fun t56 =>
    M.blk 4 (
      M.iter (f_depend_reader_structure_2 G t56 t0 t3 t2) [(V.int .i64 0)]) fun _ =>
    (M.lift (Ax.faddr 2 t3)).bind fun t69 =>
    (mload none t69).bind fun t70 =>
    (M.lift (vlen t70)).bind fun t71 =>
    M.blk 6 (
      M.iter (f_depend_reader_structure_3 G t71 t0 t3 t2) [(V.int .i64 0)]) fun _ =>
    M.pure (.nrm []))
    (M.pure (.nrm []))) fun _ =>
  (G fn_depend_reader_bit [t0]).bind fun t86 =>
  M.join (M.ite t86
    ((mload (some 6) t3).bind fun t87 =>
    (G fn_depend_spatial [t87]).bind fun t88 =>
    M.blk 8 (
      M.iter (f_depend_reader_structure_4 G t88 t0 t3 t2) [(V.int .i64 0)]) fun _ =>
    M.pure (.nrm []))
    (M.pure (.nrm []))) fun _ =>
  (mload (some 6) t3).bind fun t104 =>
  (mstore 6 t2 t104).bind fun _ =>
  (mload (some 6) t2).bind fun r0 =>
  M.pure (.ret [r0])

theorem eq_depend_reader_structure (G : Sem') (t0 : V) : execK G ir_depend_reader_structure.rv ir_depend_reader_structure.body [] [] (params 0 [t0]) = f_depend_reader_structure G t0 := by kernel_rfl

def d_depend_reader_structure (G : Sem') : List V → M V
  | [t0] => fin (f_depend_reader_structure G t0)
  | _ => M.fail

theorem s_depend_reader_structure {g : Sem'} (hg : Sims g (sem T)) (args : List V) : Sim (d_depend_reader_structure g args) (sem T fn_depend_reader_structure args) := by
  unfold d_depend_reader_structure
  split
  · exact sim_fn tb_depend_reader_structure (Nat.le_of_ble_eq_true rfl) hg (eq_depend_reader_structure g _)
  · exact sim_fail

/-- (*palanquin/depend.reader).fail. -/
def f_depend_reader_fail (G : Sem') (t0 t1 : V) : M Res :=
  (M.lift (Ax.nilck t0)).bind fun t5 =>
  (M.lift (Ax.faddr 1 t5)).bind fun t6 =>
  (mload none t6).bind fun t7 =>
  (M.lift (Ax.bin .eql t7 (V.int .i64 0))).bind fun t8 =>
  M.join (M.ite t8
    ((M.lift (Ax.nilck t0)).bind fun t11 =>
    (M.lift (Ax.faddr 1 t11)).bind fun t12 =>
    (mstore 1 t12 t1).bind fun _ =>
    M.pure (.nrm []))
    (M.pure (.nrm []))) fun _ =>
  M.pure (.ret [])

theorem eq_depend_reader_fail (G : Sem') (t0 t1 : V) : execK G ir_depend_reader_fail.rv ir_depend_reader_fail.body [] [] (params 0 [t0, t1]) = f_depend_reader_fail G t0 t1 := by kernel_rfl

def d_depend_reader_fail (G : Sem') : List V → M V
  | [t0, t1] => fin (f_depend_reader_fail G t0 t1)
  | _ => M.fail

theorem s_depend_reader_fail {g : Sem'} (hg : Sims g (sem T)) (args : List V) : Sim (d_depend_reader_fail g args) (sem T fn_depend_reader_fail args) := by
  unfold d_depend_reader_fail
  split
  · exact sim_fn tb_depend_reader_fail (Nat.le_of_ble_eq_true rfl) hg (eq_depend_reader_fail g _ _)
  · exact sim_fail

/-- (*palanquin/depend.reader).nums. -/
def f_depend_reader_nums_0 (G : Sem') (t8 t0 t2 t6 : V) (L : List V) : M Res :=
  (M.lift (Ax.bin .lss (L.getD 1 .undef) t8)).bind fun t10 =>
  M.ite t10
    (M.blk 1 (
      (G fn_depend_reader_num [t0, t2]).bind fun t14 =>
      (mslit ty_int 1 [(V.int .i64 0)] [(0, 1, t14)]).bind fun t15 =>
      (mappend ty_int 1 8 (L.getD 0 .undef) t15).bind fun t16 =>
      M.pure (.nrm [t16])) fun L0 =>
    (M.lift (Ax.bin .add (L.getD 1 .undef) (V.int .i64 1))).bind fun t17 =>
    M.pure (.nrm [(L0.getD 0 .undef), t17]))
    (M.pure (.ex 0 [(L.getD 0 .undef)]))

def f_depend_reader_nums (G : Sem') (t0 t1 t2 : V) : M Res :=
  M.blk 0 (
    M.iter (f_depend_reader_nums_0 G t1 t0 t2 V.nils) [V.nils, (V.int .i64 0)]) fun L1 =>
  M.pure (.ret [(L1.getD 0 .undef)])

theorem eq_depend_reader_nums (G : Sem') (t0 t1 t2 : V) : execK G ir_depend_reader_nums.rv ir_depend_reader_nums.body [] [] (params 0 [t0, t1, t2]) = f_depend_reader_nums G t0 t1 t2 := by kernel_rfl

def d_depend_reader_nums (G : Sem') : List V → M V
  | [t0, t1, t2] => fin (f_depend_reader_nums G t0 t1 t2)
  | _ => M.fail

theorem s_depend_reader_nums {g : Sem'} (hg : Sims g (sem T)) (args : List V) : Sim (d_depend_reader_nums g args) (sem T fn_depend_reader_nums args) := by
  unfold d_depend_reader_nums
  split
  · exact sim_fn tb_depend_reader_nums (Nat.le_of_ble_eq_true rfl) hg (eq_depend_reader_nums g _ _ _)
  · exact sim_fail

/-- (*palanquin/depend.reader).own. -/
def f_depend_reader_own_0 (G : Sem') (t0 : V) (L : List V) : M Res :=
  (M.lift (Ax.bin .gtr (L.getD 1 .undef) (V.int .i64 0))).bind fun t8 =>
  M.ite t8
    (M.blk 1 (
      (M.lift (vlen (L.getD 0 .undef))).bind fun t12 =>
      (M.lift (Ax.bin .geq t12 (V.int .i64 16))).bind fun t13 =>
      M.ite t13
        ((G fn_depend_reader_fail [t0, (V.int .i64 4)]).bind fun t15 =>
        M.pure (.ret [V.nils]))
        ((M.lift (Ax.bin .mul (V.int .i64 4) (L.getD 1 .undef))).bind fun t19 =>
        (G fn_depend_reader_num [t0, t19]).bind fun t20 =>
        (M.lift (Ax.bin .add t20 (V.int .i64 1))).bind fun t21 =>
        (mslit ty_int 1 [(V.int .i64 0)] [(0, 1, t21)]).bind fun t22 =>
        (mappend ty_int 1 8 (L.getD 0 .undef) t22).bind fun t23 =>
        M.pure (.nrm [t23]))) fun L0 =>
    (G fn_depend_reader_num [t0, (V.int .i64 2)]).bind fun t10 =>
    M.pure (.nrm [(L0.getD 0 .undef), t10]))
    (M.pure (.ex 0 [(L.getD 0 .undef)]))

def f_depend_reader_own (G : Sem') (t0 : V) : M Res :=
  (G fn_depend_reader_num [t0, (V.int .i64 2)]).bind fun t6 =>
  M.blk 0 (
    M.iter (f_depend_reader_own_0 G t0) [V.nils, t6]) fun L1 =>
  M.pure (.ret [(L1.getD 0 .undef)])

theorem eq_depend_reader_own (G : Sem') (t0 : V) : execK G ir_depend_reader_own.rv ir_depend_reader_own.body [] [] (params 0 [t0]) = f_depend_reader_own G t0 := by kernel_rfl

def d_depend_reader_own (G : Sem') : List V → M V
  | [t0] => fin (f_depend_reader_own G t0)
  | _ => M.fail

theorem s_depend_reader_own {g : Sem'} (hg : Sims g (sem T)) (args : List V) : Sim (d_depend_reader_own g args) (sem T fn_depend_reader_own args) := by
  unfold d_depend_reader_own
  split
  · exact sim_fn tb_depend_reader_own (Nat.le_of_ble_eq_true rfl) hg (eq_depend_reader_own g _)
  · exact sim_fail

/-- bytes.Clone. -/
def f_bytes_Clone (G : Sem') (t0 : V) : M Res :=
  (M.lift (eqr .sl false t0 V.nils)).bind fun t4 =>
  M.ite t4
    (M.pure (.ret [V.nils]))
    ((mslit ty_uint8 0 [(V.int .u8 0)] []).bind fun t5 =>
    (mappend ty_uint8 1 1 t5 t0).bind fun t7 =>
    M.pure (.ret [t7]))

theorem eq_bytes_Clone (G : Sem') (t0 : V) : execK G ir_bytes_Clone.rv ir_bytes_Clone.body [] [] (params 0 [t0]) = f_bytes_Clone G t0 := by kernel_rfl

def d_bytes_Clone (G : Sem') : List V → M V
  | [t0] => fin (f_bytes_Clone G t0)
  | _ => M.fail

theorem s_bytes_Clone {g : Sem'} (hg : Sims g (sem T)) (args : List V) : Sim (d_bytes_Clone g args) (sem T fn_bytes_Clone args) := by
  unfold d_bytes_Clone
  split
  · exact sim_fn tb_bytes_Clone (Nat.le_of_ble_eq_true rfl) hg (eq_bytes_Clone g _)
  · exact sim_fail

/-- palanquin/depend.copied. -/
def f_depend_copied (G : Sem') (t0 : V) : M Res :=
  (mbox ty_depend_Template t0).bind fun t1 =>
  (mbox ty_depend_Template (V.agg [(V.int .i64 0), (V.int .i64 0), V.nils, V.nils, V.nils])).bind fun t2 =>
  (M.lift (Ax.faddr 2 t1)).bind fun t3 =>
  (mload none t3).bind fun t4 =>
  (M.lift (Ax.faddr 3 t1)).bind fun t6 =>
  (mload none t6).bind fun t7 =>
  (M.lift (Ax.faddr 4 t1)).bind fun t9 =>
  (mload none t9).bind fun t10 =>
  M.getH.bind fun h0 =>
  (G fn_slices_Clone_int_int [t4]).bind fun t5 =>
  M.getH.bind fun h0' =>
  (M.unch t9 h0 h0').bind fun _ =>
  (M.unch t6 h0 h0').bind fun _ =>
  M.getH.bind fun h1 =>
  (G fn_slices_Clone_int_int [t7]).bind fun t8 =>
  M.getH.bind fun h1' =>
  (M.unch t9 h1 h1').bind fun _ =>
  (G fn_slices_Clone_int_int [t10]).bind fun t11 =>
  (M.lift (Ax.faddr 2 t1)).bind fun t12 =>
  (mstore 1 t12 t5).bind fun _ =>
  (M.lift (Ax.faddr 3 t1)).bind fun t13 =>
  (mstore 1 t13 t8).bind fun _ =>
  (M.lift (Ax.faddr 4 t1)).bind fun t14 =>
  (mstore 1 t14 t11).bind fun _ =>
  (mload (some 5) t1).bind fun t15 =>
  (mstore 5 t2 t15).bind fun _ =>
  (mload (some 5) t2).bind fun r0 =>
  M.pure (.ret [r0])

theorem eq_depend_copied (G : Sem') (t0 : V) : execK G ir_depend_copied.rv ir_depend_copied.body [] [] (params 0 [t0]) = f_depend_copied G t0 := by kernel_rfl

def d_depend_copied (G : Sem') : List V → M V
  | [t0] => fin (f_depend_copied G t0)
  | _ => M.fail

theorem s_depend_copied {g : Sem'} (hg : Sims g (sem T)) (args : List V) : Sim (d_depend_copied g args) (sem T fn_depend_copied args) := by
  unfold d_depend_copied
  split
  · exact sim_fn tb_depend_copied (Nat.le_of_ble_eq_true rfl) hg (eq_depend_copied g _)
  · exact sim_fail

/-- palanquin/depend.next. -/
def f_depend_next (G : Sem') (t0 t1 : V) : M Res :=
  (mbox ty_depend_Template t0).bind fun t2 =>
  (mbox ty_depend_Template t1).bind fun t3 =>
  M.blk 0 (
    (M.lift (Ax.faddr 0 t3)).bind fun t7 =>
    (mload none t7).bind fun t8 =>
    (M.lift (Ax.faddr 0 t2)).bind fun t9 =>
    (mload none t9).bind fun t10 =>
    (M.lift (Ax.bin .eql t8 t10)).bind fun t11 =>
    (guarded [(0, t11)] (some (0, true)) (M.lift (Ax.faddr 1 t3))).bind fun t13 =>
    (guarded [(0, t11)] (some (0, true)) (mload none t13)).bind fun t14 =>
    (guarded [(0, t11)] (some (0, true)) (M.lift (Ax.faddr 1 t2))).bind fun t15 =>
    (guarded [(0, t11)] (some (0, true)) (mload none t15)).bind fun t16 =>
    (guarded [(0, t11)] (some (0, true)) (M.lift (Ax.bin .eql t14 t16))).bind fun t17 =>
    (M.lift (Ax.pick t11 t17 (V.bool false))).bind fun t18 =>
    M.ite t18
      (M.pure (.ret [(V.int .i64 0), (V.bool true)]))
      ((M.lift (Ax.faddr 0 t3)).bind fun t20 =>
      (mload none t20).bind fun t21 =>
      (M.lift (Ax.faddr 0 t2)).bind fun t22 =>
      (mload none t22).bind fun t23 =>
      (M.lift (Ax.bin .eql t21 t23)).bind fun t24 =>
      (guarded [(0, t24)] (some (0, true)) (M.lift (Ax.faddr 1 t3))).bind fun t26 =>
      (guarded [(0, t24)] (some (0, true)) (mload none t26)).bind fun t27 =>
      (guarded [(0, t24)] (some (0, true)) (M.lift (Ax.faddr 1 t2))).bind fun t28 =>
      (guarded [(0, t24)] (some (0, true)) (mload none t28)).bind fun t29 =>
      (guarded [(0, t24)] (some (0, true)) (M.lift (Ax.bin .add t29 (V.int .i64 1)))).bind fun t30 =>
      (guarded [(0, t24)] (some (0, true)) (M.lift (Ax.bin .eql t27 t30))).bind fun t31 =>
      (M.lift (Ax.pick t24 t31 (V.bool false))).bind fun t32 =>
      M.ite t32
        (M.pure (.ret [(V.int .i64 1), (V.bool true)]))
        ((M.lift (Ax.faddr 0 t3)).bind fun t34 =>
        (mload none t34).bind fun t35 =>
        (M.lift (Ax.faddr 0 t2)).bind fun t36 =>
        (mload none t36).bind fun t37 =>
        (M.lift (Ax.bin .add t37 (V.int .i64 1))).bind fun t38 =>
        (M.lift (Ax.bin .eql t35 t38)).bind fun t39 =>
        (guarded [(0, t39)] (some (0, true)) (M.lift (Ax.faddr 1 t3))).bind fun t41 =>
        (guarded [(0, t39)] (some (0, true)) (mload none t41)).bind fun t42 =>
        (guarded [(0, t39)] (some (0, true)) (M.lift (Ax.bin .eql t42 (V.int .i64 0)))).bind fun t43 =>
        (M.lift (Ax.pick t39 t43 (V.bool false))).bind fun t44 =>
        M.ite t44
          (M.pure (.ret [(V.int .i64 2), (V.bool true)]))
          (M.pure (.nrm []))))) fun _ =>
  M.pure (.ret [(V.int .i64 0), (V.bool false)])

theorem eq_depend_next (G : Sem') (t0 t1 : V) : execK G ir_depend_next.rv ir_depend_next.body [] [] (params 0 [t0, t1]) = f_depend_next G t0 t1 := by kernel_rfl

def d_depend_next (G : Sem') : List V → M V
  | [t0, t1] => fin (f_depend_next G t0 t1)
  | _ => M.fail

theorem s_depend_next {g : Sem'} (hg : Sims g (sem T)) (args : List V) : Sim (d_depend_next g args) (sem T fn_depend_next args) := by
  unfold d_depend_next
  split
  · exact sim_fn tb_depend_next (Nat.le_of_ble_eq_true rfl) hg (eq_depend_next g _ _)
  · exact sim_fail

/-- slices.ContainsFunc[[]int,int]. -/
def f_slices_ContainsFunc_int_int (G : Sem') (t0 t1 : V) : M Res :=
  (G fn_slices_IndexFunc_int_int [t0, t1]).bind fun t7 =>
  (M.lift (Ax.bin .geq t7 (V.int .i64 0))).bind fun t8 =>
  M.pure (.ret [t8])

theorem eq_slices_ContainsFunc_int_int (G : Sem') (t0 t1 : V) : execK G ir_slices_ContainsFunc_int_int.rv ir_slices_ContainsFunc_int_int.body [] [] (params 0 [t0, t1]) = f_slices_ContainsFunc_int_int G t0 t1 := by kernel_rfl

def d_slices_ContainsFunc_int_int (G : Sem') : List V → M V
  | [t0, t1] => fin (f_slices_ContainsFunc_int_int G t0 t1)
  | _ => M.fail

theorem s_slices_ContainsFunc_int_int {g : Sem'} (hg : Sims g (sem T)) (args : List V) : Sim (d_slices_ContainsFunc_int_int g args) (sem T fn_slices_ContainsFunc_int_int args) := by
  unfold d_slices_ContainsFunc_int_int
  split
  · exact sim_fn tb_slices_ContainsFunc_int_int (Nat.le_of_ble_eq_true rfl) hg (eq_slices_ContainsFunc_int_int g _ _)
  · exact sim_fail

/-- palanquin/depend.within$1. -/
def f_depend_within_1 (G : Sem') (t0 t1 t2 : V) : M Res :=
  (mload none t1).bind fun t6 =>
  (M.lift (Ax.bin .lss t0 t6)).bind fun t7 =>
  (guarded [(0, t7)] (some (0, false)) (M.pure t0)).bind fun t9 =>
  (guarded [(0, t7)] (some (0, false)) (mload none t2)).bind fun t10 =>
  (guarded [(0, t7)] (some (0, false)) (M.lift (Ax.bin .gtr t9 t10))).bind fun t11 =>
  (M.lift (Ax.pick t7 (V.bool true) t11)).bind fun t12 =>
  M.pure (.ret [t12])

theorem eq_depend_within_1 (G : Sem') (t0 t1 t2 : V) : execK G ir_depend_within_1.rv ir_depend_within_1.body [] [] (params 0 [t0, t1, t2]) = f_depend_within_1 G t0 t1 t2 := by kernel_rfl

def d_depend_within_1 (G : Sem') : List V → M V
  | [t0, t1, t2] => fin (f_depend_within_1 G t0 t1 t2)
  | _ => M.fail

theorem s_depend_within_1 {g : Sem'} (hg : Sims g (sem T)) (args : List V) : Sim (d_depend_within_1 g args) (sem T fn_depend_within_1 args) := by
  unfold d_depend_within_1
  split
  · exact sim_fn tb_depend_within_1 (Nat.le_of_ble_eq_true rfl) hg (eq_depend_within_1 g _ _ _)
  · exact sim_fail

/-- slices.IndexFunc[[]palanquin/depend.Template,palanquin/depend.Template]. -/
def f_slices_IndexFunc_depend_Template_depend_Template_0 (G : Sem') (t7 t1 t0 : V) (L : List V) : M Res :=
  (M.lift (Ax.bin .lss (L.getD 0 .undef) t7)).bind fun t9 =>
  M.ite t9
    (M.blk 1 (
      (M.lift (Ax.iaddr none 5 t0 (L.getD 0 .undef))).bind fun t14 =>
      (mload (some 5) t14).bind fun t15 =>
      (callv G t1 [t15]).bind fun t16 =>
      M.ite t16
        (M.pure (.ret [(L.getD 0 .undef)]))
        (M.pure (.nrm []))) fun _ =>
    (M.lift (Ax.bin .add (L.getD 0 .undef) (V.int .i64 1))).bind fun t18 =>
    M.pure (.nrm [t18]))
    (M.pure (.ex 0 []))

def f_slices_IndexFunc_depend_Template_depend_Template (G : Sem') (t0 t1 : V) : M Res :=
  (M.lift (vlen t0)).bind fun t7 =>
  M.blk 0 (
    M.iter (f_slices_IndexFunc_depend_Template_depend_Template_0 G t7 t1 t0) [(V.int .i64 0)]) fun _ =>
  M.pure (.ret [(V.int .i64 (-1))])

theorem eq_slices_IndexFunc_depend_Template_depend_Template (G : Sem') (t0 t1 : V) : execK G ir_slices_IndexFunc_depend_Template_depend_Template.rv ir_slices_IndexFunc_depend_Template_depend_Template.body [] [] (params 0 [t0, t1]) = f_slices_IndexFunc_depend_Template_depend_Template G t0 t1 := by kernel_rfl

def d_slices_IndexFunc_depend_Template_depend_Template (G : Sem') : List V → M V
  | [t0, t1] => fin (f_slices_IndexFunc_depend_Template_depend_Template G t0 t1)
  | _ => M.fail

theorem s_slices_IndexFunc_depend_Template_depend_Template {g : Sem'} (hg : Sims g (sem T)) (args : List V) : Sim (d_slices_IndexFunc_depend_Template_depend_Template g args) (sem T fn_slices_IndexFunc_depend_Template_depend_Template args) := by
  unfold d_slices_IndexFunc_depend_Template_depend_Template
  split
  · exact sim_fn tb_slices_IndexFunc_depend_Template_depend_Template (Nat.le_of_ble_eq_true rfl) hg (eq_slices_IndexFunc_depend_Template_depend_Template g _ _)
  · exact sim_fail

/-- (*palanquin/depend.reader).templates. -/
def f_depend_reader_templates_0 (G : Sem') (t0 : V) (L : List V) : M Res :=
  (M.lift (Ax.nilck t0)).bind fun t8 =>
  (M.lift (Ax.faddr 1 t8)).bind fun t9 =>
  (mload none t9).bind fun t10 =>
  (M.lift (Ax.bin .eql t10 (V.int .i64 0))).bind fun t11 =>
  M.ite t11
    (M.blk 1 (
      (M.lift (vlen (L.getD 0 .undef))).bind fun t14 =>
      (M.lift (Ax.bin .sub t14 (V.int .i64 1))).bind fun t15 =>
      (M.lift (Ax.iaddr none 5 (L.getD 0 .undef) t15)).bind fun t16 =>
      (M.lift (Ax.faddr 0 t16)).bind fun t17 =>
      (mload none t17).bind fun t18 =>
      (M.lift (vlen (L.getD 0 .undef))).bind fun t21 =>
      (M.lift (Ax.bin .sub t21 (V.int .i64 1))).bind fun t22 =>
      (M.lift (Ax.iaddr none 5 (L.getD 0 .undef) t22)).bind fun t23 =>
      (M.lift (Ax.faddr 1 t23)).bind fun t24 =>
      (mload none t24).bind fun t25 =>
      (M.lift (Ax.build [(V.int .i64 0), (V.int .i64 0), V.nils, V.nils, V.nils] [(0, 1, t18), (1, 1, t25)])).bind fun t26 =>
      (mbox ty_depend_Template (V.agg [(V.int .i64 0), (V.int .i64 0), V.nils, V.nils, V.nils])).bind fun t4 =>
      (mstore 5 t4 t26).bind fun _ =>
      (G fn_depend_reader_num [t0, (V.int .i64 2)]).bind fun t28 =>
      M.blk 2 (
        (M.lift (Ax.bin .eql t28 (V.int .i64 3))).bind fun t30 =>
        M.ite t30
          (M.pure (.ret [(L.getD 0 .undef)]))
          ((M.lift (Ax.bin .eql t28 (V.int .i64 1))).bind fun t33 =>
          M.join (M.ite t33
            ((M.lift (Ax.faddr 1 t4)).bind fun t34 =>
            (mload none t34).bind fun t35 =>
            (M.lift (Ax.bin .add t35 (V.int .i64 1))).bind fun t36 =>
            (M.lift (Ax.faddr 1 t4)).bind fun t37 =>
            (mstore 1 t37 t36).bind fun _ =>
            M.pure (.nrm []))
            ((M.lift (Ax.bin .eql t28 (V.int .i64 2))).bind fun t39 =>
            M.join (M.ite t39
              ((M.lift (Ax.faddr 0 t4)).bind fun t40 =>
              (mload none t40).bind fun t41 =>
              (M.lift (Ax.bin .add t41 (V.int .i64 1))).bind fun t42 =>
              (M.lift (Ax.faddr 0 t4)).bind fun t43 =>
              (mstore 1 t43 t42).bind fun _ =>
              (M.lift (Ax.faddr 1 t4)).bind fun t44 =>
              (mstore 1 t44 (V.int .i64 0)).bind fun _ =>
              M.pure (.nrm []))
              (M.pure (.nrm []))) fun _ =>
            M.pure (.nrm []))) fun _ =>
          M.pure (.nrm []))) fun _ =>
      (M.lift (Ax.faddr 0 t4)).bind fun t45 =>
      (mload none t45).bind fun t46 =>
      (M.lift (Ax.bin .gtr t46 (V.int .i64 3))).bind fun t47 =>
      (guarded [(0, t47)] (some (0, false)) (M.lift (Ax.faddr 1 t4))).bind fun t49 =>
      (guarded [(0, t47)] (some (0, false)) (mload none t49)).bind fun t50 =>
      (guarded [(0, t47)] (some (0, false)) (M.lift (Ax.bin .gtr t50 (V.int .i64 7)))).bind fun t51 =>
      (M.lift (Ax.pick t47 (V.bool true) t51)).bind fun t52 =>
      (guarded [(0, t52)] (some (0, false)) (M.pure (L.getD 0 .undef))).bind fun t54 =>
      (guarded [(0, t52)] (some (0, false)) (M.lift (vlen t54))).bind fun t55 =>
      (guarded [(0, t52)] (some (0, false)) (M.lift (Ax.bin .geq t55 (V.int .i64 64)))).bind fun t56 =>
      (M.lift (Ax.pick t52 (V.bool true) t56)).bind fun t57 =>
      M.join (M.ite t57
        ((G fn_depend_reader_fail [t0, (V.int .i64 2)]).bind fun t59 =>
        M.pure (.nrm []))
        (M.pure (.nrm []))) fun _ =>
      (mload (some 5) t4).bind fun t61 =>
      (mslit ty_depend_Template 1 [(V.int .i64 0), (V.int .i64 0), V.nils, V.nils, V.nils] [(0, 5, t61)]).bind fun t62 =>
      (mappend ty_depend_Template 5 88 (L.getD 0 .undef) t62).bind fun t63 =>
      M.pure (.nrm [t63])) fun L4 =>
    M.pure (.nrm [(L4.getD 0 .undef)]))
    (M.pure (.ex 0 [(L.getD 0 .undef)]))

def f_depend_reader_templates (G : Sem') (t0 : V) : M Res :=
  (M.lift (Ax.build [(V.int .i64 0), (V.int .i64 0), V.nils, V.nils, V.nils] [])).bind fun t5 =>
  (mslit ty_depend_Template 1 [(V.int .i64 0), (V.int .i64 0), V.nils, V.nils, V.nils] [(0, 5, t5)]).bind fun t6 =>
  M.blk 0 (
    M.iter (f_depend_reader_templates_0 G t0) [t6]) fun L5 =>
  M.pure (.ret [(L5.getD 0 .undef)])

theorem eq_depend_reader_templates (G : Sem') (t0 : V) : execK G ir_depend_reader_templates.rv ir_depend_reader_templates.body [] [] (params 0 [t0]) = f_depend_reader_templates G t0 := by kernel_rfl

def d_depend_reader_templates (G : Sem') : List V → M V
  | [t0] => fin (f_depend_reader_templates G t0)
  | _ => M.fail

theorem s_depend_reader_templates {g : Sem'} (hg : Sims g (sem T)) (args : List V) : Sim (d_depend_reader_templates g args) (sem T fn_depend_reader_templates args) := by
  unfold d_depend_reader_templates
  split
  · exact sim_fn tb_depend_reader_templates (Nat.le_of_ble_eq_true rfl) hg (eq_depend_reader_templates g _)
  · exact sim_fail

/-- (*palanquin/depend.reader).diffs. -/
def f_depend_reader_diffs_0 (G : Sem') (t0 : V) (L : List V) : M Res :=
  (G fn_depend_reader_bit [t0]).bind fun t5 =>
  M.ite t5
    (M.blk 1 (
      (M.lift (vlen (L.getD 0 .undef))).bind fun t7 =>
      (M.lift (Ax.bin .geq t7 (V.int .i64 8))).bind fun t8 =>
      M.ite t8
        ((G fn_depend_reader_fail [t0, (V.int .i64 4)]).bind fun t10 =>
        M.pure (.ret [V.nils]))
        ((G fn_depend_reader_num [t0, (V.int .i64 4)]).bind fun t13 =>
        (M.lift (Ax.bin .add t13 (V.int .i64 1))).bind fun t14 =>
        (mslit ty_int 1 [(V.int .i64 0)] [(0, 1, t14)]).bind fun t15 =>
        (mappend ty_int 1 8 (L.getD 0 .undef) t15).bind fun t16 =>
        M.pure (.nrm [t16]))) fun L0 =>
    M.pure (.nrm [(L0.getD 0 .undef)]))
    (M.pure (.ex 0 [(L.getD 0 .undef)]))

def f_depend_reader_diffs (G : Sem') (t0 : V) : M Res :=
  M.blk 0 (
    M.iter (f_depend_reader_diffs_0 G t0) [V.nils]) fun L1 =>
  M.pure (.ret [(L1.getD 0 .undef)])

theorem eq_depend_reader_diffs (G : Sem') (t0 : V) : execK G ir_depend_reader_diffs.rv ir_depend_reader_diffs.body [] [] (params 0 [t0]) = f_depend_reader_diffs G t0 := by kernel_rfl

def d_depend_reader_diffs (G : Sem') : List V → M V
  | [t0] => fin (f_depend_reader_diffs G t0)
  | _ => M.fail

theorem s_depend_reader_diffs {g : Sem'} (hg : Sims g (sem T)) (args : List V) : Sim (d_depend_reader_diffs g args) (sem T fn_depend_reader_diffs args) := by
  unfold d_depend_reader_diffs
  split
  · exact sim_fn tb_depend_reader_diffs (Nat.le_of_ble_eq_true rfl) hg (eq_depend_reader_diffs g _)
  · exact sim_fail

/-- (*palanquin/depend.reader).ns. -/
def f_depend_reader_ns (G : Sem') (t0 t1 : V) : M Res :=
  (M.lift (Ax.nilck t0)).bind fun t8 =>
  (M.lift (Ax.faddr 1 t8)).bind fun t9 =>
  (mload none t9).bind fun t10 =>
  (M.lift (Ax.bin .neq t10 (V.int .i64 0))).bind fun t11 =>
  M.ite t11
    (M.pure (.ret [(V.int .i64 0)]))
    ((M.lift (Ax.nilck t0)).bind fun t14 =>
    (M.lift (Ax.faddr 0 t14)).bind fun t15 =>
    (mload none t15).bind fun t16 =>
    (M.lift (Ax.cint .u64 t1)).bind fun t18 =>
    (G fn_bits_Reader_TakeNS [t16, t18]).bind fun t19 =>
    (M.lift (Ax.ext 0 t19)).bind fun t20 =>
    (M.lift (Ax.ext 1 t19)).bind fun t21 =>
    (M.lift (Ax.nilck t0)).bind fun t24 =>
    (M.lift (Ax.faddr 1 t24)).bind fun t25 =>
    (mstore 1 t25 t21).bind fun _ =>
    (M.lift (Ax.cint .i64 t20)).bind fun t27 =>
    M.pure (.ret [t27]))

theorem eq_depend_reader_ns (G : Sem') (t0 t1 : V) : execK G ir_depend_reader_ns.rv ir_depend_reader_ns.body [] [] (params 0 [t0, t1]) = f_depend_reader_ns G t0 t1 := by kernel_rfl

def d_depend_reader_ns (G : Sem') : List V → M V
  | [t0, t1] => fin (f_depend_reader_ns G t0 t1)
  | _ => M.fail

theorem s_depend_reader_ns {g : Sem'} (hg : Sims g (sem T)) (args : List V) : Sim (d_depend_reader_ns g args) (sem T fn_depend_reader_ns args) := by
  unfold d_depend_reader_ns
  split
  · exact sim_fn tb_depend_reader_ns (Nat.le_of_ble_eq_true rfl) hg (eq_depend_reader_ns g _ _)
  · exact sim_fail

/-- slices.Clone[[]int,int]. -/
def f_slices_Clone_int_int (G : Sem') (t0 : V) : M Res :=
  (M.lift (eqr .sl false t0 V.nils)).bind fun t4 =>
  M.ite t4
    (M.pure (.ret [V.nils]))
    ((mslit ty_int 0 [(V.int .i64 0)] []).bind fun t5 =>
    (mappend ty_int 1 8 t5 t0).bind fun t7 =>
    M.pure (.ret [t7]))

theorem eq_slices_Clone_int_int (G : Sem') (t0 : V) : execK G ir_slices_Clone_int_int.rv ir_slices_Clone_int_int.body [] [] (params 0 [t0]) = f_slices_Clone_int_int G t0 := by kernel_rfl

def d_slices_Clone_int_int (G : Sem') : List V → M V
  | [t0] => fin (f_slices_Clone_int_int G t0)
  | _ => M.fail

theorem s_slices_Clone_int_int {g : Sem'} (hg : Sims g (sem T)) (args : List V) : Sim (d_slices_Clone_int_int g args) (sem T fn_slices_Clone_int_int args) := by
  unfold d_slices_Clone_int_int
  split
  · exact sim_fn tb_slices_Clone_int_int (Nat.le_of_ble_eq_true rfl) hg (eq_slices_Clone_int_int g _)
  · exact sim_fail

/-- slices.IndexFunc[[]int,int]. -/
def f_slices_IndexFunc_int_int_0 (G : Sem') (t7 t1 t0 : V) (L : List V) : M Res :=
  (M.lift (Ax.bin .lss (L.getD 0 .undef) t7)).bind fun t9 =>
  M.ite t9
    (M.blk 1 (
      (M.lift (Ax.iaddr none 1 t0 (L.getD 0 .undef))).bind fun t14 =>
      (mload none t14).bind fun t15 =>
      (callv G t1 [t15]).bind fun t16 =>
      M.ite t16
        (M.pure (.ret [(L.getD 0 .undef)]))
        (M.pure (.nrm []))) fun _ =>
    (M.lift (Ax.bin .add (L.getD 0 .undef) (V.int .i64 1))).bind fun t18 =>
    M.pure (.nrm [t18]))
    (M.pure (.ex 0 []))

def f_slices_IndexFunc_int_int (G : Sem') (t0 t1 : V) : M Res :=
  (M.lift (vlen t0)).bind fun t7 =>
  M.blk 0 (
    M.iter (f_slices_IndexFunc_int_int_0 G t7 t1 t0) [(V.int .i64 0)]) fun _ =>
  M.pure (.ret [(V.int .i64 (-1))])

theorem eq_slices_IndexFunc_int_int (G : Sem') (t0 t1 : V) : execK G ir_slices_IndexFunc_int_int.rv ir_slices_IndexFunc_int_int.body [] [] (params 0 [t0, t1]) = f_slices_IndexFunc_int_int G t0 t1 := by kernel_rfl

def d_slices_IndexFunc_int_int (G : Sem') : List V → M V
  | [t0, t1] => fin (f_slices_IndexFunc_int_int G t0 t1)
  | _ => M.fail

theorem s_slices_IndexFunc_int_int {g : Sem'} (hg : Sims g (sem T)) (args : List V) : Sim (d_slices_IndexFunc_int_int g args) (sem T fn_slices_IndexFunc_int_int args) := by
  unfold d_slices_IndexFunc_int_int
  split
  · exact sim_fn tb_slices_IndexFunc_int_int (Nat.le_of_ble_eq_true rfl) hg (eq_slices_IndexFunc_int_int g _ _)
  · exact sim_fail

def disp (G : Sem') (f : FuncId) (args : List V) : M V :=
  if f < 62 then (if f < 38 then (if f < 22 then (if f < 15 then (if f < 13 then (if f = fn_palanquinlaw6_BitsKnown then d_palanquinlaw6_BitsKnown G args else M.fail) else (if f < 14 then (if f = fn_palanquinlaw9_DependKnown then d_palanquinlaw9_DependKnown G args else M.fail) else (if f = fn_bits_New then d_bits_New G args else M.fail))) else (if f < 18 then (if f < 16 then (if f = fn_palanquinlaw6_awake then d_palanquinlaw6_awake G args else M.fail) else (if f = fn_bits_Writer_AddNS then d_bits_Writer_AddNS G args else M.fail)) else (if f < 20 then (if f = fn_bits_Writer_Add then d_bits_Writer_Add G args else M.fail) else (if f = fn_bits_Writer_Len then d_bits_Writer_Len G args else M.fail)))) else (if f < 27 then (if f < 24 then (if f = fn_bits_Writer_Bytes then d_bits_Writer_Bytes G args else M.fail) else (if f < 25 then (if f = fn_bits_Over then d_bits_Over G args else M.fail) else (if f = fn_bits_Reader_TakeNS then d_bits_Reader_TakeNS G args else M.fail))) else (if f < 31 then (if f < 29 then (if f = fn_bits_Reader_Take then d_bits_Reader_Take G args else M.fail) else (if f = fn_bits_Reader_Left then d_bits_Reader_Left G args else M.fail)) else (if f < 36 then (if f = fn_palanquinlaw9_awake then d_palanquinlaw9_awake G args else M.fail) else (if f = fn_depend_Of then d_depend_Of G args else M.fail))))) else (if f < 52 then (if f < 45 then (if f < 40 then (if f = fn_depend_Bytes then d_depend_Bytes G args else M.fail) else (if f < 43 then (if f = fn_depend_Fine then d_depend_Fine G args else M.fail) else (if f = fn_depend_Good then d_depend_Good G args else M.fail))) else (if f < 50 then (if f < 47 then (if f = fn_depend_Layers then d_depend_Layers G args else M.fail) else (if f = fn_depend_Parse then d_depend_Parse G args else M.fail)) else (if f < 51 then (if f = fn_depend_Number then d_depend_Number G args else M.fail) else (if f = fn_palanquinlaw9_plain then d_palanquinlaw9_plain G args else M.fail)))) else (if f < 57 then (if f < 54 then (if f = fn_bits_short then d_bits_short G args else M.fail) else (if f < 56 then (if f = fn_math_bits_Len64 then d_math_bits_Len64 G args else M.fail) else (if f = fn_depend_holds then d_depend_holds G args else M.fail))) else (if f < 60 then (if f < 59 then (if f = fn_depend_template then d_depend_template G args else M.fail) else (if f = fn_depend_writer_bit then d_depend_writer_bit G args else M.fail)) else (if f < 61 then (if f = fn_depend_writer_num then d_depend_writer_num G args else M.fail) else (if f = fn_depend_writer_structure then d_depend_writer_structure G args else M.fail)))))) else (if f < 82 then (if f < 71 then (if f < 67 then (if f < 63 then (if f = fn_depend_writer_nums then d_depend_writer_nums G args else M.fail) else (if f < 66 then (if f = fn_depend_writer_own then d_depend_writer_own G args else M.fail) else (if f = fn_depend_within then d_depend_within G args else M.fail))) else (if f < 69 then (if f < 68 then (if f = fn_depend_layers then d_depend_layers G args else M.fail) else (if f = fn_depend_spatial then d_depend_spatial G args else M.fail)) else (if f < 70 then (if f = fn_slices_ContainsFunc_depend_Template_depend_Template then d_slices_ContainsFunc_depend_Template_depend_Template G args else M.fail) else (if f = fn_depend_Fine_1 then d_depend_Fine_1 G args else M.fail)))) else (if f < 77 then (if f < 75 then (if f = fn_depend_Structure_fine then d_depend_Structure_fine G args else M.fail) else (if f < 76 then (if f = fn_depend_none then d_depend_none G args else M.fail) else (if f = fn_slices_Equal_int_int then d_slices_Equal_int_int G args else M.fail))) else (if f < 80 then (if f < 79 then (if f = fn_depend_diffs then d_depend_diffs G args else M.fail) else (if f = fn_depend_reader_bit then d_depend_reader_bit G args else M.fail)) else (if f < 81 then (if f = fn_depend_reader_num then d_depend_reader_num G args else M.fail) else (if f = fn_depend_reader_structure then d_depend_reader_structure G args else M.fail))))) else (if f < 94 then (if f < 90 then (if f < 83 then (if f = fn_depend_reader_fail then d_depend_reader_fail G args else M.fail) else (if f < 84 then (if f = fn_depend_reader_nums then d_depend_reader_nums G args else M.fail) else (if f = fn_depend_reader_own then d_depend_reader_own G args else M.fail))) else (if f < 92 then (if f < 91 then (if f = fn_bytes_Clone then d_bytes_Clone G args else M.fail) else (if f = fn_depend_copied then d_depend_copied G args else M.fail)) else (if f < 93 then (if f = fn_depend_next then d_depend_next G args else M.fail) else (if f = fn_slices_ContainsFunc_int_int then d_slices_ContainsFunc_int_int G args else M.fail)))) else (if f < 97 then (if f < 95 then (if f = fn_depend_within_1 then d_depend_within_1 G args else M.fail) else (if f < 96 then (if f = fn_slices_IndexFunc_depend_Template_depend_Template then d_slices_IndexFunc_depend_Template_depend_Template G args else M.fail) else (if f = fn_depend_reader_templates then d_depend_reader_templates G args else M.fail))) else (if f < 101 then (if f < 98 then (if f = fn_depend_reader_diffs then d_depend_reader_diffs G args else M.fail) else (if f = fn_depend_reader_ns then d_depend_reader_ns G args else M.fail)) else (if f < 102 then (if f = fn_slices_Clone_int_int then d_slices_Clone_int_int G args else M.fail) else (if f = fn_slices_IndexFunc_int_int then d_slices_IndexFunc_int_int G args else M.fail))))))

theorem sims_disp {g : Sem'} (hg : Sims g (sem T)) : Sims (disp g) (sem T) := fun f args =>
  (sim_if (fun _ => (sim_if (fun _ => (sim_if (fun _ => (sim_if (fun _ => (sim_if (fun _ => (sim_if (fun e => e ▸ s_palanquinlaw6_BitsKnown hg args) sim_fail)) (sim_if (fun _ => (sim_if (fun e => e ▸ s_palanquinlaw9_DependKnown hg args) sim_fail)) (sim_if (fun e => e ▸ s_bits_New hg args) sim_fail)))) (sim_if (fun _ => (sim_if (fun _ => (sim_if (fun e => e ▸ s_palanquinlaw6_awake hg args) sim_fail)) (sim_if (fun e => e ▸ s_bits_Writer_AddNS hg args) sim_fail))) (sim_if (fun _ => (sim_if (fun e => e ▸ s_bits_Writer_Add hg args) sim_fail)) (sim_if (fun e => e ▸ s_bits_Writer_Len hg args) sim_fail))))) (sim_if (fun _ => (sim_if (fun _ => (sim_if (fun e => e ▸ s_bits_Writer_Bytes hg args) sim_fail)) (sim_if (fun _ => (sim_if (fun e => e ▸ s_bits_Over hg args) sim_fail)) (sim_if (fun e => e ▸ s_bits_Reader_TakeNS hg args) sim_fail)))) (sim_if (fun _ => (sim_if (fun _ => (sim_if (fun e => e ▸ s_bits_Reader_Take hg args) sim_fail)) (sim_if (fun e => e ▸ s_bits_Reader_Left hg args) sim_fail))) (sim_if (fun _ => (sim_if (fun e => e ▸ s_palanquinlaw9_awake hg args) sim_fail)) (sim_if (fun e => e ▸ s_depend_Of hg args) sim_fail)))))) (sim_if (fun _ => (sim_if (fun _ => (sim_if (fun _ => (sim_if (fun e => e ▸ s_depend_Bytes hg args) sim_fail)) (sim_if (fun _ => (sim_if (fun e => e ▸ s_depend_Fine hg args) sim_fail)) (sim_if (fun e => e ▸ s_depend_Good hg args) sim_fail)))) (sim_if (fun _ => (sim_if (fun _ => (sim_if (fun e => e ▸ s_depend_Layers hg args) sim_fail)) (sim_if (fun e => e ▸ s_depend_Parse hg args) sim_fail))) (sim_if (fun _ => (sim_if (fun e => e ▸ s_depend_Number hg args) sim_fail)) (sim_if (fun e => e ▸ s_palanquinlaw9_plain hg args) sim_fail))))) (sim_if (fun _ => (sim_if (fun _ => (sim_if (fun e => e ▸ s_bits_short hg args) sim_fail)) (sim_if (fun _ => (sim_if (fun e => e ▸ s_math_bits_Len64 hg args) sim_fail)) (sim_if (fun e => e ▸ s_depend_holds hg args) sim_fail)))) (sim_if (fun _ => (sim_if (fun _ => (sim_if (fun e => e ▸ s_depend_template hg args) sim_fail)) (sim_if (fun e => e ▸ s_depend_writer_bit hg args) sim_fail))) (sim_if (fun _ => (sim_if (fun e => e ▸ s_depend_writer_num hg args) sim_fail)) (sim_if (fun e => e ▸ s_depend_writer_structure hg args) sim_fail))))))) (sim_if (fun _ => (sim_if (fun _ => (sim_if (fun _ => (sim_if (fun _ => (sim_if (fun e => e ▸ s_depend_writer_nums hg args) sim_fail)) (sim_if (fun _ => (sim_if (fun e => e ▸ s_depend_writer_own hg args) sim_fail)) (sim_if (fun e => e ▸ s_depend_within hg args) sim_fail)))) (sim_if (fun _ => (sim_if (fun _ => (sim_if (fun e => e ▸ s_depend_layers hg args) sim_fail)) (sim_if (fun e => e ▸ s_depend_spatial hg args) sim_fail))) (sim_if (fun _ => (sim_if (fun e => e ▸ s_slices_ContainsFunc_depend_Template_depend_Template hg args) sim_fail)) (sim_if (fun e => e ▸ s_depend_Fine_1 hg args) sim_fail))))) (sim_if (fun _ => (sim_if (fun _ => (sim_if (fun e => e ▸ s_depend_Structure_fine hg args) sim_fail)) (sim_if (fun _ => (sim_if (fun e => e ▸ s_depend_none hg args) sim_fail)) (sim_if (fun e => e ▸ s_slices_Equal_int_int hg args) sim_fail)))) (sim_if (fun _ => (sim_if (fun _ => (sim_if (fun e => e ▸ s_depend_diffs hg args) sim_fail)) (sim_if (fun e => e ▸ s_depend_reader_bit hg args) sim_fail))) (sim_if (fun _ => (sim_if (fun e => e ▸ s_depend_reader_num hg args) sim_fail)) (sim_if (fun e => e ▸ s_depend_reader_structure hg args) sim_fail)))))) (sim_if (fun _ => (sim_if (fun _ => (sim_if (fun _ => (sim_if (fun e => e ▸ s_depend_reader_fail hg args) sim_fail)) (sim_if (fun _ => (sim_if (fun e => e ▸ s_depend_reader_nums hg args) sim_fail)) (sim_if (fun e => e ▸ s_depend_reader_own hg args) sim_fail)))) (sim_if (fun _ => (sim_if (fun _ => (sim_if (fun e => e ▸ s_bytes_Clone hg args) sim_fail)) (sim_if (fun e => e ▸ s_depend_copied hg args) sim_fail))) (sim_if (fun _ => (sim_if (fun e => e ▸ s_depend_next hg args) sim_fail)) (sim_if (fun e => e ▸ s_slices_ContainsFunc_int_int hg args) sim_fail))))) (sim_if (fun _ => (sim_if (fun _ => (sim_if (fun e => e ▸ s_depend_within_1 hg args) sim_fail)) (sim_if (fun _ => (sim_if (fun e => e ▸ s_slices_IndexFunc_depend_Template_depend_Template hg args) sim_fail)) (sim_if (fun e => e ▸ s_depend_reader_templates hg args) sim_fail)))) (sim_if (fun _ => (sim_if (fun _ => (sim_if (fun e => e ▸ s_depend_reader_diffs hg args) sim_fail)) (sim_if (fun e => e ▸ s_depend_reader_ns hg args) sim_fail))) (sim_if (fun _ => (sim_if (fun e => e ▸ s_slices_Clone_int_int hg args) sim_fail)) (sim_if (fun e => e ▸ s_slices_IndexFunc_int_int hg args) sim_fail)))))))

def cs : Nat → Sem'
  | 0 => fun _ _ => M.fail
  | n + 1 => disp (cs n)

theorem sims_cs : ∀ n, Sims (cs n) (sem T)
  | 0 => fun _ _ => sim_fail
  | n + 1 => sims_disp (sims_cs n)

end Go.Ax.Cc
