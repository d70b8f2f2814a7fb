/-
  The functions of closed calls, over a heap to compute with: printed by program (wip/gen/Emit.lean).
-/
import Derived.Test.YtoflegfbpjbedaaGreatAx21
import Derived.Test.YtoflegfbpjbedaaGreatFnK1
import Derived.Test.YtoflegfbpjbedaaGreatFnK2
import Derived.Test.YtoflegfbpjbedaaGreatFnK3
import Derived.Test.YtoflegfbpjbedaaGreatFnK4
set_option maxRecDepth 100000
set_option linter.unusedVariables false
namespace Go.Ax.Cc
open Go.Proofs

/-- palanquin/palanquinlaw25.LaneKnown. -/
def f_palanquinlaw25_LaneKnown (G : Sem') : M Res :=
  (G fn_lane_New [(V.int .u32 9)]).bind fun t40 =>
  (G fn_palanquinlaw25_awake []).bind fun t41 =>
  (M.lift (Ax.un .not t41)).bind fun t42 =>
  (guarded [(0, t42)] (some (0, false)) (M.pure t40)).bind fun t44 =>
  (guarded [(0, t42)] (some (0, false)) (M.lift (eqr .ptr false t44 V.nilp))).bind fun t45 =>
  (M.lift (Ax.pick t42 (V.bool true) t45)).bind fun t46 =>
  M.ite t46
    (M.pure (.ret [(V.bool false)]))
    ((G fn_lane_Lane_Ask [t40, (V.int .i64 3)]).bind fun t48 =>
    (G fn_lane_Lane_Limit [t40, (V.int .i64 4), (V.int .i64 0)]).bind fun t50 =>
    (G fn_lane_Lane_Limit [t40, (V.int .i64 0), (V.int .i64 8)]).bind fun t52 =>
    (G fn_lane_Lane_Lacks [t40]).bind fun t55 =>
    (M.lift (Ax.ext 0 t55)).bind fun t56 =>
    (M.lift (Ax.ext 1 t55)).bind fun t57 =>
    (G fn_lane_Lane_Runs [t40]).bind fun t60 =>
    (M.lift (Ax.ext 0 t60)).bind fun t61 =>
    (M.lift (Ax.ext 1 t60)).bind fun t62 =>
    (M.lift (Ax.build [(V.bool false), (V.bool false), (V.int .i64 0), (V.int .u16 0), (V.bool false), (V.int .i64 0), (V.int .i64 0), V.nils, (V.int .i64 0), V.nils, V.nils, (V.bool false), (V.int .u32 0), (V.bool false), (V.bool false), (V.bool false), V.nils, V.nils, V.nils] [(0, 1, (V.bool true)), (4, 1, (V.bool true)), (3, 1, (V.int .u16 10))])).bind fun t64 =>
    (mslit ty_uint8 1 [(V.int .u8 0)] [(0, 1, (V.int .u8 107))]).bind fun t65 =>
    (mremark ty_uint8 t65).bind fun t66 =>
    (G fn_palanquinlaw25_packet [t64, (V.int .u16 0), t66]).bind fun t67 =>
    (M.lift (Ax.ext 0 t67)).bind fun t68 =>
    (M.lift (Ax.ext 1 t67)).bind fun t69 =>
    (mbox ty_rtp_Packet (V.agg [(V.bool false), (V.int .i64 0), (V.int .u16 0), (V.int .u32 0), (V.int .u32 0), V.nils, (V.int .i64 0), V.nils, (V.int .i64 0), V.nils])).bind fun t9 =>
    (mbox ty_depend_Frame (V.agg [(V.bool false), (V.bool false), (V.int .i64 0), (V.int .u16 0), (V.bool false), (V.int .i64 0), (V.int .i64 0), V.nils, (V.int .i64 0), V.nils, V.nils, (V.bool false), (V.int .u32 0), (V.bool false), (V.bool false), (V.bool false), V.nils, V.nils, V.nils])).bind fun t10 =>
    (mstore 10 t9 t68).bind fun _ =>
    (mstore 19 t10 t69).bind fun _ =>
    (mload (some 10) t9).bind fun t72 =>
    (mload (some 19) t10).bind fun t73 =>
    M.getH.bind fun h0 =>
    (G fn_palanquinlaw25_plain []).bind fun t74 =>
    M.getH.bind fun h0' =>
    (M.unch t10 h0 h0').bind fun _ =>
    (M.unch t9 h0 h0').bind fun _ =>
    (G fn_lane_Lane_Media [t40, (V.int .i64 0), t72, t73, t74, (V.int .u32 3), (V.int .i64 0)]).bind fun t75 =>
    (M.lift (Ax.ext 0 t75)).bind fun t76 =>
    (mbox ty_lane_Out (V.agg [V.nils, (V.int .i64 0), (V.bool false)])).bind fun t11 =>
    (mstore 3 t11 t76).bind fun _ =>
    (M.lift (Ax.ext 1 t75)).bind fun t77 =>
    (M.lift (Ax.build [(V.bool false), (V.bool false), (V.int .i64 0), (V.int .u16 0), (V.bool false), (V.int .i64 0), (V.int .i64 0), V.nils, (V.int .i64 0), V.nils, V.nils, (V.bool false), (V.int .u32 0), (V.bool false), (V.bool false), (V.bool false), V.nils, V.nils, V.nils] [(3, 1, (V.int .u16 10))])).bind fun t79 =>
    (mslit ty_uint8 1 [(V.int .u8 0)] [(0, 1, (V.int .u8 109))]).bind fun t80 =>
    (mremark ty_uint8 t80).bind fun t81 =>
    (G fn_palanquinlaw25_packet [t79, (V.int .u16 1), t81]).bind fun t82 =>
    (M.lift (Ax.ext 0 t82)).bind fun t83 =>
    (M.lift (Ax.ext 1 t82)).bind fun t84 =>
    (mbox ty_rtp_Packet (V.agg [(V.bool false), (V.int .i64 0), (V.int .u16 0), (V.int .u32 0), (V.int .u32 0), V.nils, (V.int .i64 0), V.nils, (V.int .i64 0), V.nils])).bind fun t13 =>
    (mbox ty_depend_Frame (V.agg [(V.bool false), (V.bool false), (V.int .i64 0), (V.int .u16 0), (V.bool false), (V.int .i64 0), (V.int .i64 0), V.nils, (V.int .i64 0), V.nils, V.nils, (V.bool false), (V.int .u32 0), (V.bool false), (V.bool false), (V.bool false), V.nils, V.nils, V.nils])).bind fun t14 =>
    (mstore 10 t13 t83).bind fun _ =>
    (mstore 19 t14 t84).bind fun _ =>
    (mload (some 10) t13).bind fun t87 =>
    (mload (some 19) t14).bind fun t88 =>
    M.getH.bind fun h1 =>
    (G fn_palanquinlaw25_plain []).bind fun t89 =>
    M.getH.bind fun h1' =>
    (M.unch t14 h1 h1').bind fun _ =>
    (M.unch t13 h1 h1').bind fun _ =>
    (G fn_lane_Lane_Media [t40, (V.int .i64 0), t87, t88, t89, (V.int .u32 3), (V.int .i64 0)]).bind fun t90 =>
    (M.lift (Ax.ext 0 t90)).bind fun t91 =>
    (mbox ty_lane_Out (V.agg [V.nils, (V.int .i64 0), (V.bool false)])).bind fun t15 =>
    (mstore 3 t15 t91).bind fun _ =>
    (M.lift (Ax.ext 1 t90)).bind fun t92 =>
    (M.lift (Ax.build [(V.bool false), (V.bool false), (V.int .i64 0), (V.int .u16 0), (V.bool false), (V.int .i64 0), (V.int .i64 0), V.nils, (V.int .i64 0), V.nils, V.nils, (V.bool false), (V.int .u32 0), (V.bool false), (V.bool false), (V.bool false), V.nils, V.nils, V.nils] [(3, 1, (V.int .u16 11)), (2, 1, (V.int .i64 2))])).bind fun t94 =>
    (mslit ty_uint8 1 [(V.int .u8 0)] [(0, 1, (V.int .u8 109))]).bind fun t95 =>
    (mremark ty_uint8 t95).bind fun t96 =>
    (G fn_palanquinlaw25_packet [t94, (V.int .u16 2), t96]).bind fun t97 =>
    (M.lift (Ax.ext 0 t97)).bind fun t98 =>
    (M.lift (Ax.ext 1 t97)).bind fun t99 =>
    (mstore 10 t13 t98).bind fun _ =>
    (mstore 19 t14 t99).bind fun _ =>
    (mload (some 10) t13).bind fun t102 =>
    (mload (some 19) t14).bind fun t103 =>
    M.getH.bind fun h2 =>
    (G fn_palanquinlaw25_plain []).bind fun t104 =>
    M.getH.bind fun h2' =>
    (M.unch t14 h2 h2').bind fun _ =>
    (M.unch t13 h2 h2').bind fun _ =>
    (G fn_lane_Lane_Media [t40, (V.int .i64 0), t102, t103, t104, (V.int .u32 3), (V.int .i64 0)]).bind fun t105 =>
    (M.lift (Ax.ext 0 t105)).bind fun t106 =>
    (mbox ty_lane_Out (V.agg [V.nils, (V.int .i64 0), (V.bool false)])).bind fun t17 =>
    (mstore 3 t17 t106).bind fun _ =>
    (M.lift (Ax.ext 1 t105)).bind fun t107 =>
    (G fn_lane_Lane_Limit [t40, (V.int .i64 0), (V.int .i64 0)]).bind fun t109 =>
    (M.lift (Ax.build [(V.bool false), (V.bool false), (V.int .i64 0), (V.int .u16 0), (V.bool false), (V.int .i64 0), (V.int .i64 0), V.nils, (V.int .i64 0), V.nils, V.nils, (V.bool false), (V.int .u32 0), (V.bool false), (V.bool false), (V.bool false), V.nils, V.nils, V.nils] [(3, 1, (V.int .u16 11)), (2, 1, (V.int .i64 2)), (0, 1, (V.bool true))])).bind fun t111 =>
    (mslit ty_uint8 1 [(V.int .u8 0)] [(0, 1, (V.int .u8 109))]).bind fun t112 =>
    (mremark ty_uint8 t112).bind fun t113 =>
    (G fn_palanquinlaw25_packet [t111, (V.int .u16 3), t113]).bind fun t114 =>
    (M.lift (Ax.ext 0 t114)).bind fun t115 =>
    (M.lift (Ax.ext 1 t114)).bind fun t116 =>
    (mstore 10 t13 t115).bind fun _ =>
    (mstore 19 t14 t116).bind fun _ =>
    (mload (some 10) t13).bind fun t119 =>
    (mload (some 19) t14).bind fun t120 =>
    M.getH.bind fun h3 =>
    (G fn_palanquinlaw25_plain []).bind fun t121 =>
    M.getH.bind fun h3' =>
    (M.unch t14 h3 h3').bind fun _ =>
    (M.unch t13 h3 h3').bind fun _ =>
    (G fn_lane_Lane_Media [t40, (V.int .i64 0), t119, t120, t121, (V.int .u32 3), (V.int .i64 0)]).bind fun t122 =>
    (M.lift (Ax.ext 0 t122)).bind fun t123 =>
    (mbox ty_lane_Out (V.agg [V.nils, (V.int .i64 0), (V.bool false)])).bind fun t20 =>
    (mstore 3 t20 t123).bind fun _ =>
    (M.lift (Ax.ext 1 t122)).bind fun t124 =>
    (mload (some 10) t13).bind fun t127 =>
    (mload (some 19) t14).bind fun t128 =>
    M.getH.bind fun h4 =>
    (G fn_palanquinlaw25_plain []).bind fun t129 =>
    M.getH.bind fun h4' =>
    (M.unch t14 h4 h4').bind fun _ =>
    (M.unch t13 h4 h4').bind fun _ =>
    (G fn_lane_Lane_Media [t40, (V.int .i64 0), t127, t128, t129, (V.int .u32 0), (V.int .i64 0)]).bind fun t130 =>
    (M.lift (Ax.ext 0 t130)).bind fun t131 =>
    (mbox ty_lane_Out (V.agg [V.nils, (V.int .i64 0), (V.bool false)])).bind fun t22 =>
    (mstore 3 t22 t131).bind fun _ =>
    (M.lift (Ax.ext 1 t130)).bind fun t132 =>
    (M.lift (Ax.build [(V.bool false), (V.bool false), (V.int .i64 0), (V.int .u16 0), (V.bool false), (V.int .i64 0), (V.int .i64 0), V.nils, (V.int .i64 0), V.nils, V.nils, (V.bool false), (V.int .u32 0), (V.bool false), (V.bool false), (V.bool false), V.nils, V.nils, V.nils] [(3, 1, (V.int .u16 14)), (2, 1, (V.int .i64 1)), (0, 1, (V.bool true))])).bind fun t134 =>
    (mslit ty_uint8 1 [(V.int .u8 0)] [(0, 1, (V.int .u8 109))]).bind fun t135 =>
    (mremark ty_uint8 t135).bind fun t136 =>
    (G fn_palanquinlaw25_packet [t134, (V.int .u16 4), t136]).bind fun t137 =>
    (M.lift (Ax.ext 0 t137)).bind fun t138 =>
    (M.lift (Ax.ext 1 t137)).bind fun t139 =>
    (mstore 10 t13 t138).bind fun _ =>
    (mstore 19 t14 t139).bind fun _ =>
    (mload (some 10) t13).bind fun t142 =>
    (mload (some 19) t14).bind fun t143 =>
    M.getH.bind fun h5 =>
    (G fn_palanquinlaw25_plain []).bind fun t144 =>
    M.getH.bind fun h5' =>
    (M.unch t14 h5 h5').bind fun _ =>
    (M.unch t13 h5 h5').bind fun _ =>
    (G fn_lane_Lane_Media [t40, (V.int .i64 0), t142, t143, t144, (V.int .u32 3), (V.int .i64 0)]).bind fun t145 =>
    (M.lift (Ax.ext 0 t145)).bind fun t146 =>
    (mbox ty_lane_Out (V.agg [V.nils, (V.int .i64 0), (V.bool false)])).bind fun t24 =>
    (mstore 3 t24 t146).bind fun _ =>
    (M.lift (Ax.ext 1 t145)).bind fun t147 =>
    (M.lift (Ax.build [(V.bool false), (V.bool false), (V.int .i64 0), (V.int .u16 0), (V.bool false), (V.int .i64 0), (V.int .i64 0), V.nils, (V.int .i64 0), V.nils, V.nils, (V.bool false), (V.int .u32 0), (V.bool false), (V.bool false), (V.bool false), V.nils, V.nils, V.nils] [(3, 1, (V.int .u16 12)), (2, 1, (V.int .i64 1)), (0, 1, (V.bool true))])).bind fun t149 =>
    (mslit ty_uint8 1 [(V.int .u8 0)] [(0, 1, (V.int .u8 109))]).bind fun t150 =>
    (mremark ty_uint8 t150).bind fun t151 =>
    (G fn_palanquinlaw25_packet [t149, (V.int .u16 5), t151]).bind fun t152 =>
    (M.lift (Ax.ext 0 t152)).bind fun t153 =>
    (M.lift (Ax.ext 1 t152)).bind fun t154 =>
    (mstore 10 t13 t153).bind fun _ =>
    (mstore 19 t14 t154).bind fun _ =>
    (mload (some 10) t13).bind fun t157 =>
    (mload (some 19) t14).bind fun t158 =>
    M.getH.bind fun h6 =>
    (G fn_palanquinlaw25_plain []).bind fun t159 =>
    M.getH.bind fun h6' =>
    (M.unch t14 h6 h6').bind fun _ =>
    (M.unch t13 h6 h6').bind fun _ =>
    (G fn_lane_Lane_Media [t40, (V.int .i64 0), t157, t158, t159, (V.int .u32 3), (V.int .i64 0)]).bind fun t160 =>
    (M.lift (Ax.ext 0 t160)).bind fun t161 =>
    (mbox ty_lane_Out (V.agg [V.nils, (V.int .i64 0), (V.bool false)])).bind fun t26 =>
    (mstore 3 t26 t161).bind fun _ =>
    (M.lift (Ax.ext 1 t160)).bind fun t162 =>
    (mload (some 10) t13).bind fun t165 =>
    (mload (some 19) t14).bind fun t166 =>
    M.getH.bind fun h7 =>
    (G fn_palanquinlaw25_plain []).bind fun t167 =>
    M.getH.bind fun h7' =>
    (M.unch t14 h7 h7').bind fun _ =>
    (M.unch t13 h7 h7').bind fun _ =>
    (G fn_lane_Lane_Media [t40, (V.int .i64 3), t165, t166, t167, (V.int .u32 3), (V.int .i64 0)]).bind fun t168 =>
    (M.lift (Ax.ext 0 t168)).bind fun t169 =>
    (mbox ty_lane_Out (V.agg [V.nils, (V.int .i64 0), (V.bool false)])).bind fun t28 =>
    (mstore 3 t28 t169).bind fun _ =>
    (M.lift (Ax.ext 1 t168)).bind fun t170 =>
    (M.lift (Ax.build [(V.bool false), (V.int .i64 0), (V.int .u16 0), (V.int .u32 0), (V.int .u32 0), V.nils, (V.int .i64 0), V.nils, (V.int .i64 0), V.nils] [])).bind fun t173 =>
    (mload (some 19) t14).bind fun t174 =>
    M.getH.bind fun h8 =>
    (G fn_palanquinlaw25_plain []).bind fun t175 =>
    M.getH.bind fun h8' =>
    (M.unch t14 h8 h8').bind fun _ =>
    (G fn_lane_Lane_Media [t40, (V.int .i64 0), t173, t174, t175, (V.int .u32 3), (V.int .i64 0)]).bind fun t176 =>
    (M.lift (Ax.ext 0 t176)).bind fun t177 =>
    (mbox ty_lane_Out (V.agg [V.nils, (V.int .i64 0), (V.bool false)])).bind fun t30 =>
    (mstore 3 t30 t177).bind fun _ =>
    (M.lift (Ax.ext 1 t176)).bind fun t178 =>
    (mload (some 10) t13).bind fun t181 =>
    (M.lift (Ax.build [(V.bool false), (V.bool false), (V.int .i64 0), (V.int .u16 0), (V.bool false), (V.int .i64 0), (V.int .i64 0), V.nils, (V.int .i64 0), V.nils, V.nils, (V.bool false), (V.int .u32 0), (V.bool false), (V.bool false), (V.bool false), V.nils, V.nils, V.nils] [(2, 1, (V.int .i64 9))])).bind fun t182 =>
    M.getH.bind fun h9 =>
    (G fn_palanquinlaw25_plain []).bind fun t183 =>
    M.getH.bind fun h9' =>
    (M.unch t13 h9 h9').bind fun _ =>
    (G fn_lane_Lane_Media [t40, (V.int .i64 0), t181, t182, t183, (V.int .u32 3), (V.int .i64 0)]).bind fun t184 =>
    (M.lift (Ax.ext 0 t184)).bind fun t185 =>
    (mbox ty_lane_Out (V.agg [V.nils, (V.int .i64 0), (V.bool false)])).bind fun t32 =>
    (mstore 3 t32 t185).bind fun _ =>
    (M.lift (Ax.ext 1 t184)).bind fun t186 =>
    (mload (some 10) t9).bind fun t189 =>
    (mload (some 19) t10).bind fun t190 =>
    M.getH.bind fun h10 =>
    (G fn_palanquinlaw25_plain []).bind fun t191 =>
    M.getH.bind fun h10' =>
    (M.unch t10 h10 h10').bind fun _ =>
    (M.unch t9 h10 h10').bind fun _ =>
    (G fn_lane_Lane_Media [t40, (V.int .i64 0), t189, t190, t191, (V.int .u32 3), (V.int .i64 0)]).bind fun t192 =>
    (M.lift (Ax.ext 0 t192)).bind fun t193 =>
    (mbox ty_lane_Out (V.agg [V.nils, (V.int .i64 0), (V.bool false)])).bind fun t34 =>
    (mstore 3 t34 t193).bind fun _ =>
    (M.lift (Ax.ext 1 t192)).bind fun t194 =>
    (G fn_lane_Lane_Runs [t40]).bind fun t197 =>
    (M.lift (Ax.ext 0 t197)).bind fun t198 =>
    (M.lift (Ax.ext 1 t197)).bind fun t199 =>
    (M.lift (Ax.faddr 0 t34)).bind fun t201 =>
    (mload none t201).bind fun t202 =>
    (G fn_rtp_Parse [t202]).bind fun t203 =>
    (M.lift (Ax.ext 0 t203)).bind fun t204 =>
    (M.lift (Ax.ext 1 t203)).bind fun t205 =>
    (mbox ty_rtp_Packet (V.agg [(V.bool false), (V.int .i64 0), (V.int .u16 0), (V.int .u32 0), (V.int .u32 0), V.nils, (V.int .i64 0), V.nils, (V.int .i64 0), V.nils])).bind fun t38 =>
    (mstore 10 t38 t204).bind fun _ =>
    (M.lift (Ax.bin .eql t48 (V.int .i64 1))).bind fun t207 =>
    (guarded [(0, t207)] (some (0, true)) (M.pure t50)).bind fun t209 =>
    (guarded [(0, t207)] (some (0, true)) (M.lift (Ax.bin .eql t209 (V.int .i64 1)))).bind fun t210 =>
    (M.lift (Ax.pick t207 t210 (V.bool false))).bind fun t211 =>
    (guarded [(0, t211)] (some (0, true)) (M.pure t52)).bind fun t213 =>
    (guarded [(0, t211)] (some (0, true)) (M.lift (Ax.bin .eql t213 (V.int .i64 1)))).bind fun t214 =>
    (M.lift (Ax.pick t211 t214 (V.bool false))).bind fun t215 =>
    (guarded [(0, t215)] (some (0, true)) (M.pure t57)).bind fun t217 =>
    (M.lift (Ax.pick t215 t217 (V.bool false))).bind fun t218 =>
    (guarded [(0, t218)] (some (0, true)) (M.pure t56)).bind fun t220 =>
    (guarded [(0, t218)] (some (0, true)) (M.lift (Ax.bin .eql t220 (V.int .i64 0)))).bind fun t221 =>
    (M.lift (Ax.pick t218 t221 (V.bool false))).bind fun t222 =>
    (guarded [(0, t222)] (some (0, true)) (M.pure t62)).bind fun t224 =>
    (guarded [(0, t222)] (some (0, true)) (M.lift (Ax.un .not t224))).bind fun t225 =>
    (M.lift (Ax.pick t222 t225 (V.bool false))).bind fun t226 =>
    (guarded [(0, t226)] (some (0, true)) (M.lift (Ax.faddr 1 t11))).bind fun t228 =>
    (guarded [(0, t226)] (some (0, true)) (mload none t228)).bind fun t229 =>
    (guarded [(0, t226)] (some (0, true)) (M.lift (Ax.bin .eql t229 (V.int .i64 0)))).bind fun t230 =>
    (M.lift (Ax.pick t226 t230 (V.bool false))).bind fun t231 =>
    (guarded [(0, t231)] (some (0, true)) (M.lift (Ax.faddr 1 t15))).bind fun t233 =>
    (guarded [(0, t231)] (some (0, true)) (mload none t233)).bind fun t234 =>
    (guarded [(0, t231)] (some (0, true)) (M.lift (Ax.bin .eql t234 (V.int .i64 0)))).bind fun t235 =>
    (M.lift (Ax.pick t231 t235 (V.bool false))).bind fun t236 =>
    (guarded [(0, t236)] (some (0, true)) (M.lift (Ax.faddr 1 t17))).bind fun t238 =>
    (guarded [(0, t236)] (some (0, true)) (mload none t238)).bind fun t239 =>
    (guarded [(0, t236)] (some (0, true)) (M.lift (Ax.bin .eql t239 (V.int .i64 6)))).bind fun t240 =>
    (M.lift (Ax.pick t236 t240 (V.bool false))).bind fun t241 =>
    (guarded [(0, t241)] (some (0, true)) (M.pure t109)).bind fun t243 =>
    (guarded [(0, t241)] (some (0, true)) (M.lift (Ax.bin .eql t243 (V.int .i64 0)))).bind fun t244 =>
    (M.lift (Ax.pick t241 t244 (V.bool false))).bind fun t245 =>
    (guarded [(0, t245)] (some (0, true)) (M.lift (Ax.faddr 1 t20))).bind fun t247 =>
    (guarded [(0, t245)] (some (0, true)) (mload none t247)).bind fun t248 =>
    (guarded [(0, t245)] (some (0, true)) (M.lift (Ax.bin .eql t248 (V.int .i64 4)))).bind fun t249 =>
    (M.lift (Ax.pick t245 t249 (V.bool false))).bind fun t250 =>
    (guarded [(0, t250)] (some (0, true)) (M.lift (Ax.faddr 1 t22))).bind fun t252 =>
    (guarded [(0, t250)] (some (0, true)) (mload none t252)).bind fun t253 =>
    (guarded [(0, t250)] (some (0, true)) (M.lift (Ax.bin .eql t253 (V.int .i64 3)))).bind fun t254 =>
    (M.lift (Ax.pick t250 t254 (V.bool false))).bind fun t255 =>
    (guarded [(0, t255)] (some (0, true)) (M.lift (Ax.faddr 1 t24))).bind fun t257 =>
    (guarded [(0, t255)] (some (0, true)) (mload none t257)).bind fun t258 =>
    (guarded [(0, t255)] (some (0, true)) (M.lift (Ax.bin .eql t258 (V.int .i64 5)))).bind fun t259 =>
    (M.lift (Ax.pick t255 t259 (V.bool false))).bind fun t260 =>
    (guarded [(0, t260)] (some (0, true)) (M.lift (Ax.faddr 2 t24))).bind fun t262 =>
    (guarded [(0, t260)] (some (0, true)) (mload none t262)).bind fun t263 =>
    (M.lift (Ax.pick t260 t263 (V.bool false))).bind fun t264 =>
    (guarded [(0, t264)] (some (0, true)) (M.lift (Ax.faddr 1 t26))).bind fun t266 =>
    (guarded [(0, t264)] (some (0, true)) (mload none t266)).bind fun t267 =>
    (guarded [(0, t264)] (some (0, true)) (M.lift (Ax.bin .eql t267 (V.int .i64 2)))).bind fun t268 =>
    (M.lift (Ax.pick t264 t268 (V.bool false))).bind fun t269 =>
    (guarded [(0, t269)] (some (0, true)) (M.lift (Ax.faddr 2 t26))).bind fun t271 =>
    (guarded [(0, t269)] (some (0, true)) (mload none t271)).bind fun t272 =>
    (guarded [(0, t269)] (some (0, true)) (M.lift (Ax.un .not t272))).bind fun t273 =>
    (M.lift (Ax.pick t269 t273 (V.bool false))).bind fun t274 =>
    (guarded [(0, t274)] (some (0, true)) (M.pure t170)).bind fun t276 =>
    (guarded [(0, t274)] (some (0, true)) (M.lift (Ax.bin .eql t276 (V.int .i64 1)))).bind fun t277 =>
    (M.lift (Ax.pick t274 t277 (V.bool false))).bind fun t278 =>
    (guarded [(0, t278)] (some (0, true)) (M.pure t178)).bind fun t280 =>
    (guarded [(0, t278)] (some (0, true)) (M.lift (Ax.bin .eql t280 (V.int .i64 1)))).bind fun t281 =>
    (M.lift (Ax.pick t278 t281 (V.bool false))).bind fun t282 =>
    (guarded [(0, t282)] (some (0, true)) (M.pure t186)).bind fun t284 =>
    (guarded [(0, t282)] (some (0, true)) (M.lift (Ax.bin .eql t284 (V.int .i64 1)))).bind fun t285 =>
    (M.lift (Ax.pick t282 t285 (V.bool false))).bind fun t286 =>
    (guarded [(0, t286)] (some (0, true)) (M.lift (Ax.faddr 1 t34))).bind fun t288 =>
    (guarded [(0, t286)] (some (0, true)) (mload none t288)).bind fun t289 =>
    (guarded [(0, t286)] (some (0, true)) (M.lift (Ax.bin .eql t289 (V.int .i64 0)))).bind fun t290 =>
    (M.lift (Ax.pick t286 t290 (V.bool false))).bind fun t291 =>
    (guarded [(0, t291)] (some (0, true)) (M.pure t199)).bind fun t293 =>
    (M.lift (Ax.pick t291 t293 (V.bool false))).bind fun t294 =>
    (guarded [(0, t294)] (some (0, true)) (M.pure t198)).bind fun t296 =>
    (guarded [(0, t294)] (some (0, true)) (M.lift (Ax.bin .eql t296 (V.int .i64 0)))).bind fun t297 =>
    (M.lift (Ax.pick t294 t297 (V.bool false))).bind fun t298 =>
    (guarded [(0, t298)] (some (0, true)) (M.lift (Ax.faddr 2 t38))).bind fun t300 =>
    (guarded [(0, t298)] (some (0, true)) (mload none t300)).bind fun t301 =>
    (guarded [(0, t298)] (some (0, true)) (M.lift (Ax.bin .eql t301 (V.int .u16 2)))).bind fun t302 =>
    (M.lift (Ax.pick t298 t302 (V.bool false))).bind fun t303 =>
    (guarded [(0, t303)] (some (0, true)) (M.lift (Ax.faddr 4 t38))).bind fun t305 =>
    (guarded [(0, t303)] (some (0, true)) (mload none t305)).bind fun t306 =>
    (guarded [(0, t303)] (some (0, true)) (M.lift (Ax.bin .eql t306 (V.int .u32 9)))).bind fun t307 =>
    (M.lift (Ax.pick t303 t307 (V.bool false))).bind fun t308 =>
    M.pure (.ret [t308]))

theorem eq_palanquinlaw25_LaneKnown (G : Sem') : execK G ir_palanquinlaw25_LaneKnown.rv ir_palanquinlaw25_LaneKnown.body [] [] (params 0 []) = f_palanquinlaw25_LaneKnown G := by kernel_rfl

def d_palanquinlaw25_LaneKnown (G : Sem') : List V → M V
  | [] => fin (f_palanquinlaw25_LaneKnown G)
  | _ => M.fail

theorem s_palanquinlaw25_LaneKnown {g : Sem'} (hg : Sims g (sem T)) (args : List V) : Sim (d_palanquinlaw25_LaneKnown g args) (sem T fn_palanquinlaw25_LaneKnown args) := by
  unfold d_palanquinlaw25_LaneKnown
  split
  · exact sim_fn tb_palanquinlaw25_LaneKnown (Nat.le_of_ble_eq_true rfl) hg (eq_palanquinlaw25_LaneKnown g)
  · exact sim_fail

/-- palanquin/lane.New. -/
def f_lane_New (G : Sem') (t0 : V) : M Res :=
  (G fn_ring_New []).bind fun t4 =>
  (M.lift (Ax.build [(V.int .u32 0), (V.int .i64 0), (V.int .i64 0), (V.bool false), (V.int .i64 0), (V.int .i64 0), (V.bool false), (V.int .u16 0), (V.int .u32 0), (V.int .u32 0), (V.int .u16 0), (V.int .u16 0), (V.int .i64 0), V.nils, V.nilp, (V.bool false)] [(0, 1, t0), (1, 1, (V.int .i64 3)), (2, 1, (V.int .i64 7)), (14, 1, t4)])).bind fun t5 =>
  (mbox ty_lane_Lane t5).bind fun t6 =>
  M.pure (.ret [t6])

theorem eq_lane_New (G : Sem') (t0 : V) : execK G ir_lane_New.rv ir_lane_New.body [] [] (params 0 [t0]) = f_lane_New G t0 := by kernel_rfl

def d_lane_New (G : Sem') : List V → M V
  | [t0] => fin (f_lane_New G t0)
  | _ => M.fail

theorem s_lane_New {g : Sem'} (hg : Sims g (sem T)) (args : List V) : Sim (d_lane_New g args) (sem T fn_lane_New args) := by
  unfold d_lane_New
  split
  · exact sim_fn tb_lane_New (Nat.le_of_ble_eq_true rfl) hg (eq_lane_New g _)
  · exact sim_fail

/-- palanquin/palanquinlaw25.awake. -/
def f_palanquinlaw25_awake (G : Sem') : M Res :=
  (G fn_lane_New [(V.int .u32 9)]).bind fun t8 =>
  (M.lift (eqr .ptr false t8 V.nilp)).bind fun t10 =>
  M.ite t10
    (M.pure (.ret [(V.bool false)]))
    ((M.lift (Ax.build [(V.bool false), (V.bool false), (V.int .i64 0), (V.int .u16 0), (V.bool false), (V.int .i64 0), (V.int .i64 0), V.nils, (V.int .i64 0), V.nils, V.nils, (V.bool false), (V.int .u32 0), (V.bool false), (V.bool false), (V.bool false), V.nils, V.nils, V.nils] [(0, 1, (V.bool true)), (3, 1, (V.int .u16 4))])).bind fun t12 =>
    (mslit ty_uint8 1 [(V.int .u8 0)] [(0, 1, (V.int .u8 120))]).bind fun t13 =>
    (mremark ty_uint8 t13).bind fun t14 =>
    (G fn_palanquinlaw25_packet [t12, (V.int .u16 0), t14]).bind fun t15 =>
    (M.lift (Ax.ext 0 t15)).bind fun t16 =>
    (M.lift (Ax.ext 1 t15)).bind fun t17 =>
    (mbox ty_rtp_Packet (V.agg [(V.bool false), (V.int .i64 0), (V.int .u16 0), (V.int .u32 0), (V.int .u32 0), V.nils, (V.int .i64 0), V.nils, (V.int .i64 0), V.nils])).bind fun t2 =>
    (mbox ty_depend_Frame (V.agg [(V.bool false), (V.bool false), (V.int .i64 0), (V.int .u16 0), (V.bool false), (V.int .i64 0), (V.int .i64 0), V.nils, (V.int .i64 0), V.nils, V.nils, (V.bool false), (V.int .u32 0), (V.bool false), (V.bool false), (V.bool false), V.nils, V.nils, V.nils])).bind fun t3 =>
    (mstore 10 t2 t16).bind fun _ =>
    (mstore 19 t3 t17).bind fun _ =>
    (mload (some 10) t2).bind fun t20 =>
    (mload (some 19) t3).bind fun t21 =>
    M.getH.bind fun h0 =>
    (G fn_palanquinlaw25_plain []).bind fun t22 =>
    M.getH.bind fun h0' =>
    (M.unch t3 h0 h0').bind fun _ =>
    (M.unch t2 h0 h0').bind fun _ =>
    (G fn_lane_Lane_Media [t8, (V.int .i64 0), t20, t21, t22, (V.int .u32 3), (V.int .i64 0)]).bind fun t23 =>
    (M.lift (Ax.ext 0 t23)).bind fun t24 =>
    (mbox ty_lane_Out (V.agg [V.nils, (V.int .i64 0), (V.bool false)])).bind fun t4 =>
    (mstore 3 t4 t24).bind fun _ =>
    (M.lift (Ax.ext 1 t23)).bind fun t25 =>
    (M.lift (Ax.build [(V.bool false), (V.bool false), (V.int .i64 0), (V.int .u16 0), (V.bool false), (V.int .i64 0), (V.int .i64 0), V.nils, (V.int .i64 0), V.nils, V.nils, (V.bool false), (V.int .u32 0), (V.bool false), (V.bool false), (V.bool false), V.nils, V.nils, V.nils] [(0, 1, (V.bool true)), (4, 1, (V.bool true)), (3, 1, (V.int .u16 5))])).bind fun t27 =>
    (mslit ty_uint8 1 [(V.int .u8 0)] [(0, 1, (V.int .u8 121))]).bind fun t28 =>
    (mremark ty_uint8 t28).bind fun t29 =>
    (G fn_palanquinlaw25_packet [t27, (V.int .u16 1), t29]).bind fun t30 =>
    (M.lift (Ax.ext 0 t30)).bind fun t31 =>
    (M.lift (Ax.ext 1 t30)).bind fun t32 =>
    (mstore 10 t2 t31).bind fun _ =>
    (mstore 19 t3 t32).bind fun _ =>
    (mload (some 10) t2).bind fun t35 =>
    (mload (some 19) t3).bind fun t36 =>
    M.getH.bind fun h1 =>
    (G fn_palanquinlaw25_plain []).bind fun t37 =>
    M.getH.bind fun h1' =>
    (M.unch t3 h1 h1').bind fun _ =>
    (M.unch t2 h1 h1').bind fun _ =>
    (G fn_lane_Lane_Media [t8, (V.int .i64 0), t35, t36, t37, (V.int .u32 3), (V.int .i64 0)]).bind fun t38 =>
    (M.lift (Ax.ext 0 t38)).bind fun t39 =>
    (mbox ty_lane_Out (V.agg [V.nils, (V.int .i64 0), (V.bool false)])).bind fun t6 =>
    (mstore 3 t6 t39).bind fun _ =>
    (M.lift (Ax.ext 1 t38)).bind fun t40 =>
    (M.lift (Ax.bin .eql t25 (V.int .i64 0))).bind fun t42 =>
    (guarded [(0, t42)] (some (0, true)) (M.lift (Ax.faddr 1 t4))).bind fun t44 =>
    (guarded [(0, t42)] (some (0, true)) (mload none t44)).bind fun t45 =>
    (guarded [(0, t42)] (some (0, true)) (M.lift (Ax.bin .eql t45 (V.int .i64 1)))).bind fun t46 =>
    (M.lift (Ax.pick t42 t46 (V.bool false))).bind fun t47 =>
    (guarded [(0, t47)] (some (0, true)) (M.lift (Ax.faddr 0 t4))).bind fun t49 =>
    (guarded [(0, t47)] (some (0, true)) (mload none t49)).bind fun t50 =>
    (guarded [(0, t47)] (some (0, true)) (M.lift (vlen t50))).bind fun t51 =>
    (guarded [(0, t47)] (some (0, true)) (M.lift (Ax.bin .eql t51 (V.int .i64 0)))).bind fun t52 =>
    (M.lift (Ax.pick t47 t52 (V.bool false))).bind fun t53 =>
    (guarded [(0, t53)] (some (0, true)) (M.pure t40)).bind fun t55 =>
    (guarded [(0, t53)] (some (0, true)) (M.lift (Ax.bin .eql t55 (V.int .i64 0)))).bind fun t56 =>
    (M.lift (Ax.pick t53 t56 (V.bool false))).bind fun t57 =>
    (guarded [(0, t57)] (some (0, true)) (M.lift (Ax.faddr 1 t6))).bind fun t59 =>
    (guarded [(0, t57)] (some (0, true)) (mload none t59)).bind fun t60 =>
    (guarded [(0, t57)] (some (0, true)) (M.lift (Ax.bin .eql t60 (V.int .i64 0)))).bind fun t61 =>
    (M.lift (Ax.pick t57 t61 (V.bool false))).bind fun t62 =>
    (guarded [(0, t62)] (some (0, true)) (M.lift (Ax.faddr 0 t6))).bind fun t64 =>
    (guarded [(0, t62)] (some (0, true)) (mload none t64)).bind fun t65 =>
    (guarded [(0, t62)] (some (0, true)) (M.lift (vlen t65))).bind fun t66 =>
    (guarded [(0, t62)] (some (0, true)) (M.lift (Ax.bin .gtr t66 (V.int .i64 12)))).bind fun t67 =>
    (M.lift (Ax.pick t62 t67 (V.bool false))).bind fun t68 =>
    (guarded [(0, t68)] (some (0, true)) (M.pure t8)).bind fun t70 =>
    (guarded [(0, t68)] (some (0, true)) (G fn_lane_Lane_SSRC [t70])).bind fun t71 =>
    (guarded [(0, t68)] (some (0, true)) (M.lift (Ax.bin .eql t71 (V.int .u32 9)))).bind fun t72 =>
    (M.lift (Ax.pick t68 t72 (V.bool false))).bind fun t73 =>
    M.pure (.ret [t73]))

theorem eq_palanquinlaw25_awake (G : Sem') : execK G ir_palanquinlaw25_awake.rv ir_palanquinlaw25_awake.body [] [] (params 0 []) = f_palanquinlaw25_awake G := by kernel_rfl

def d_palanquinlaw25_awake (G : Sem') : List V → M V
  | [] => fin (f_palanquinlaw25_awake G)
  | _ => M.fail

theorem s_palanquinlaw25_awake {g : Sem'} (hg : Sims g (sem T)) (args : List V) : Sim (d_palanquinlaw25_awake g args) (sem T fn_palanquinlaw25_awake args) := by
  unfold d_palanquinlaw25_awake
  split
  · exact sim_fn tb_palanquinlaw25_awake (Nat.le_of_ble_eq_true rfl) hg (eq_palanquinlaw25_awake g)
  · exact sim_fail

/-- (*palanquin/lane.Lane).Ask. -/
def f_lane_Lane_Ask (G : Sem') (t0 t1 : V) : M Res :=
  (M.lift (Ax.nilck t0)).bind fun t9 =>
  (M.lift (Ax.faddr 3 t9)).bind fun t10 =>
  (mload (some 3) t10).bind fun t11 =>
  (G fn_cast_Ask [t11, t1]).bind fun t13 =>
  (M.lift (Ax.ext 0 t13)).bind fun t14 =>
  (M.lift (Ax.ext 1 t13)).bind fun t15 =>
  (mbox ty_cast_Cast (V.agg [(V.bool false), (V.int .i64 0), (V.int .i64 0)])).bind fun t5 =>
  (mstore 3 t5 t14).bind fun _ =>
  (mload (some 3) t5).bind fun t17 =>
  (M.lift (Ax.nilck t0)).bind fun t18 =>
  (M.lift (Ax.faddr 3 t18)).bind fun t19 =>
  (mstore 3 t19 t17).bind fun _ =>
  M.pure (.ret [t15])

theorem eq_lane_Lane_Ask (G : Sem') (t0 t1 : V) : execK G ir_lane_Lane_Ask.rv ir_lane_Lane_Ask.body [] [] (params 0 [t0, t1]) = f_lane_Lane_Ask G t0 t1 := by kernel_rfl

def d_lane_Lane_Ask (G : Sem') : List V → M V
  | [t0, t1] => fin (f_lane_Lane_Ask G t0 t1)
  | _ => M.fail

theorem s_lane_Lane_Ask {g : Sem'} (hg : Sims g (sem T)) (args : List V) : Sim (d_lane_Lane_Ask g args) (sem T fn_lane_Lane_Ask args) := by
  unfold d_lane_Lane_Ask
  split
  · exact sim_fn tb_lane_Lane_Ask (Nat.le_of_ble_eq_true rfl) hg (eq_lane_Lane_Ask g _ _)
  · exact sim_fail

/-- (*palanquin/lane.Lane).Limit. -/
def f_lane_Lane_Limit (G : Sem') (t0 t1 t2 : V) : M Res :=
  (M.lift (Ax.bin .lss t1 (V.int .i64 0))).bind fun t8 =>
  (guarded [(0, t8)] (some (0, false)) (M.pure t1)).bind fun t10 =>
  (guarded [(0, t8)] (some (0, false)) (M.lift (Ax.bin .gtr t10 (V.int .i64 3)))).bind fun t11 =>
  (M.lift (Ax.pick t8 (V.bool true) t11)).bind fun t12 =>
  (guarded [(0, t12)] (some (0, false)) (M.pure t2)).bind fun t14 =>
  (guarded [(0, t12)] (some (0, false)) (M.lift (Ax.bin .lss t14 (V.int .i64 0)))).bind fun t15 =>
  (M.lift (Ax.pick t12 (V.bool true) t15)).bind fun t16 =>
  (guarded [(0, t16)] (some (0, false)) (M.pure t2)).bind fun t18 =>
  (guarded [(0, t16)] (some (0, false)) (M.lift (Ax.bin .gtr t18 (V.int .i64 7)))).bind fun t19 =>
  (M.lift (Ax.pick t16 (V.bool true) t19)).bind fun t20 =>
  M.ite t20
    (M.pure (.ret [(V.int .i64 1)]))
    ((M.lift (Ax.nilck t0)).bind fun t25 =>
    (M.lift (Ax.faddr 1 t25)).bind fun t26 =>
    (mstore 1 t26 t1).bind fun _ =>
    (M.lift (Ax.nilck t0)).bind fun t27 =>
    (M.lift (Ax.faddr 2 t27)).bind fun t28 =>
    (mstore 1 t28 t2).bind fun _ =>
    M.pure (.ret [(V.int .i64 0)]))

theorem eq_lane_Lane_Limit (G : Sem') (t0 t1 t2 : V) : execK G ir_lane_Lane_Limit.rv ir_lane_Lane_Limit.body [] [] (params 0 [t0, t1, t2]) = f_lane_Lane_Limit G t0 t1 t2 := by kernel_rfl

def d_lane_Lane_Limit (G : Sem') : List V → M V
  | [t0, t1, t2] => fin (f_lane_Lane_Limit G t0 t1 t2)
  | _ => M.fail

theorem s_lane_Lane_Limit {g : Sem'} (hg : Sims g (sem T)) (args : List V) : Sim (d_lane_Lane_Limit g args) (sem T fn_lane_Lane_Limit args) := by
  unfold d_lane_Lane_Limit
  split
  · exact sim_fn tb_lane_Lane_Limit (Nat.le_of_ble_eq_true rfl) hg (eq_lane_Lane_Limit g _ _ _)
  · exact sim_fail

/-- (*palanquin/lane.Lane).Lacks. -/
def f_lane_Lane_Lacks (G : Sem') (t0 : V) : M Res :=
  (M.lift (Ax.nilck t0)).bind fun t5 =>
  (M.lift (Ax.faddr 3 t5)).bind fun t6 =>
  (mload (some 3) t6).bind fun t7 =>
  (G fn_cast_Lacks [t7]).bind fun t8 =>
  (M.lift (Ax.ext 0 t8)).bind fun t9 =>
  (M.lift (Ax.ext 1 t8)).bind fun t10 =>
  M.pure (.ret [t9, t10])

theorem eq_lane_Lane_Lacks (G : Sem') (t0 : V) : execK G ir_lane_Lane_Lacks.rv ir_lane_Lane_Lacks.body [] [] (params 0 [t0]) = f_lane_Lane_Lacks G t0 := by kernel_rfl

def d_lane_Lane_Lacks (G : Sem') : List V → M V
  | [t0] => fin (f_lane_Lane_Lacks G t0)
  | _ => M.fail

theorem s_lane_Lane_Lacks {g : Sem'} (hg : Sims g (sem T)) (args : List V) : Sim (d_lane_Lane_Lacks g args) (sem T fn_lane_Lane_Lacks args) := by
  unfold d_lane_Lane_Lacks
  split
  · exact sim_fn tb_lane_Lane_Lacks (Nat.le_of_ble_eq_true rfl) hg (eq_lane_Lane_Lacks g _)
  · exact sim_fail

/-- (*palanquin/lane.Lane).Runs. -/
def f_lane_Lane_Runs (G : Sem') (t0 : V) : M Res :=
  (M.lift (Ax.nilck t0)).bind fun t5 =>
  (M.lift (Ax.faddr 3 t5)).bind fun t6 =>
  (M.lift (Ax.faddr 1 t6)).bind fun t7 =>
  (mload none t7).bind fun t8 =>
  (M.lift (Ax.nilck t0)).bind fun t10 =>
  (M.lift (Ax.faddr 3 t10)).bind fun t11 =>
  (M.lift (Ax.faddr 0 t11)).bind fun t12 =>
  (mload none t12).bind fun t13 =>
  M.pure (.ret [t8, t13])

theorem eq_lane_Lane_Runs (G : Sem') (t0 : V) : execK G ir_lane_Lane_Runs.rv ir_lane_Lane_Runs.body [] [] (params 0 [t0]) = f_lane_Lane_Runs G t0 := by kernel_rfl

def d_lane_Lane_Runs (G : Sem') : List V → M V
  | [t0] => fin (f_lane_Lane_Runs G t0)
  | _ => M.fail

theorem s_lane_Lane_Runs {g : Sem'} (hg : Sims g (sem T)) (args : List V) : Sim (d_lane_Lane_Runs g args) (sem T fn_lane_Lane_Runs args) := by
  unfold d_lane_Lane_Runs
  split
  · exact sim_fn tb_lane_Lane_Runs (Nat.le_of_ble_eq_true rfl) hg (eq_lane_Lane_Runs g _)
  · exact sim_fail

/-- palanquin/palanquinlaw25.packet. -/
def f_palanquinlaw25_packet (G : Sem') (t0 t1 t2 : V) : M Res :=
  (mbox ty_depend_Frame t0).bind fun t3 =>
  (mbox ty_rtp_Packet (V.agg [(V.bool false), (V.int .i64 0), (V.int .u16 0), (V.int .u32 0), (V.int .u32 0), V.nils, (V.int .i64 0), V.nils, (V.int .i64 0), V.nils])).bind fun t6 =>
  (mbox ty_depend_Frame (V.agg [(V.bool false), (V.bool false), (V.int .i64 0), (V.int .u16 0), (V.bool false), (V.int .i64 0), (V.int .i64 0), V.nils, (V.int .i64 0), V.nils, V.nils, (V.bool false), (V.int .u32 0), (V.bool false), (V.bool false), (V.bool false), V.nils, V.nils, V.nils])).bind fun t7 =>
  (G fn_palanquinlaw25_plain []).bind fun t13 =>
  (G fn_palanquinhelp_Structure [t13]).bind fun t14 =>
  (mbox ty_palanquinref9_Structure (V.agg [(V.int .i64 0), (V.int .i64 0), V.nils, (V.int .i64 0), V.nils, V.nils])).bind fun t8 =>
  (mstore 6 t8 t14).bind fun _ =>
  (M.lift (Ax.faddr 4 t3)).bind fun t15 =>
  (mload none t15).bind fun t16 =>
  M.join (M.ite t16
    ((G fn_palanquinlaw25_plain []).bind fun t17 =>
    (M.lift (Ax.faddr 5 t3)).bind fun t18 =>
    (mstore 6 t18 t17).bind fun _ =>
    M.pure (.nrm []))
    (M.pure (.nrm []))) fun _ =>
  (M.lift (Ax.faddr 2 t8)).bind fun t19 =>
  (mload none t19).bind fun t20 =>
  (M.lift (Ax.faddr 2 t3)).bind fun t21 =>
  (mload none t21).bind fun t22 =>
  (M.lift (Ax.bin .rem t22 (V.int .i64 3))).bind fun t23 =>
  (M.lift (Ax.iaddr none 5 t20 t23)).bind fun t24 =>
  (mload (some 5) t24).bind fun t25 =>
  (mbox ty_palanquinref9_Template (V.agg [(V.int .i64 0), (V.int .i64 0), V.nils, V.nils, V.nils])).bind fun t9 =>
  (mstore 5 t9 t25).bind fun _ =>
  (M.lift (Ax.faddr 2 t9)).bind fun t26 =>
  (mload none t26).bind fun t27 =>
  (M.lift (Ax.faddr 3 t9)).bind fun t28 =>
  (mload none t28).bind fun t29 =>
  (M.lift (Ax.faddr 16 t3)).bind fun t30 =>
  M.getH.bind fun h0 =>
  (mstore 1 t30 t27).bind fun _ =>
  M.getH.bind fun h0' =>
  (M.unch t28 h0 h0').bind fun _ =>
  (M.lift (Ax.faddr 17 t3)).bind fun t31 =>
  (mstore 1 t31 t29).bind fun _ =>
  (M.lift (Ax.faddr 18 t3)).bind fun t32 =>
  (mstore 1 t32 V.nils).bind fun _ =>
  (mload (some 19) t3).bind fun t34 =>
  (mload (some 6) t8).bind fun t36 =>
  M.getH.bind fun h1 =>
  (G fn_palanquinhelp_Frame [t34]).bind fun t35 =>
  M.getH.bind fun h1' =>
  (M.unch t8 h1 h1').bind fun _ =>
  (G fn_palanquinref9_Bytes [t35, t36]).bind fun t37 =>
  (M.lift (Ax.ext 0 t37)).bind fun t38 =>
  (M.lift (Ax.ext 1 t37)).bind fun t39 =>
  (M.lift (Ax.faddr 3 t3)).bind fun t41 =>
  (mload none t41).bind fun t42 =>
  (M.lift (Ax.cint .u32 t42)).bind fun t43 =>
  (M.lift (Ax.bin .mul (V.int .u32 3000) t43)).bind fun t44 =>
  (M.lift (Ax.build [(V.int .i64 0), V.nils] [(0, 1, (V.int .i64 1)), (1, 1, t38)])).bind fun t46 =>
  (mslit ty_rtp_Ext 1 [(V.int .i64 0), V.nils] [(0, 2, t46)]).bind fun t47 =>
  (M.lift (Ax.build [(V.bool false), (V.int .i64 0), (V.int .u16 0), (V.int .u32 0), (V.int .u32 0), V.nils, (V.int .i64 0), V.nils, (V.int .i64 0), V.nils] [(1, 1, (V.int .i64 96)), (2, 1, t1), (3, 1, t44), (4, 1, (V.int .u32 7)), (6, 1, (V.int .i64 4096)), (7, 1, t47), (9, 1, t2)])).bind fun t49 =>
  (mbox ty_rtp_Packet (V.agg [(V.bool false), (V.int .i64 0), (V.int .u16 0), (V.int .u32 0), (V.int .u32 0), V.nils, (V.int .i64 0), V.nils, (V.int .i64 0), V.nils])).bind fun t12 =>
  (mstore 10 t12 t49).bind fun _ =>
  (mload (some 10) t12).bind fun t50 =>
  (mload (some 19) t3).bind fun t51 =>
  M.getH.bind fun h2 =>
  (mstore 10 t6 t50).bind fun _ =>
  M.getH.bind fun h2' =>
  (M.unch t3 h2 h2').bind fun _ =>
  (mstore 19 t7 t51).bind fun _ =>
  (mload (some 10) t6).bind fun r0 =>
  (mload (some 19) t7).bind fun r1 =>
  M.pure (.ret [r0, r1])

theorem eq_palanquinlaw25_packet (G : Sem') (t0 t1 t2 : V) : execK G ir_palanquinlaw25_packet.rv ir_palanquinlaw25_packet.body [] [] (params 0 [t0, t1, t2]) = f_palanquinlaw25_packet G t0 t1 t2 := by kernel_rfl

def d_palanquinlaw25_packet (G : Sem') : List V → M V
  | [t0, t1, t2] => fin (f_palanquinlaw25_packet G t0 t1 t2)
  | _ => M.fail

theorem s_palanquinlaw25_packet {g : Sem'} (hg : Sims g (sem T)) (args : List V) : Sim (d_palanquinlaw25_packet g args) (sem T fn_palanquinlaw25_packet args) := by
  unfold d_palanquinlaw25_packet
  split
  · exact sim_fn tb_palanquinlaw25_packet (Nat.le_of_ble_eq_true rfl) hg (eq_palanquinlaw25_packet g _ _ _)
  · exact sim_fail

/-- (*palanquin/lane.Lane).Media. -/
def f_lane_Lane_Media (G : Sem') (t0 t1 t2 t3 t4 t5 t6 : V) : M Res :=
  (mbox ty_rtp_Packet t2).bind fun t9 =>
  (mbox ty_depend_Frame t3).bind fun t10 =>
  (mbox ty_depend_Structure t4).bind fun t11 =>
  (mbox ty_lane_Out (V.agg [V.nils, (V.int .i64 0), (V.bool false)])).bind fun t14 =>
  (mload (some 10) t9).bind fun t26 =>
  (G fn_rtp_Bytes [t26]).bind fun t27 =>
  (M.lift (Ax.ext 0 t27)).bind fun t28 =>
  (M.lift (Ax.ext 1 t27)).bind fun t29 =>
  (mload (some 10) t9).bind fun t31 =>
  (G fn_rtp_Find [t31, (V.int .i64 1)]).bind fun t32 =>
  (M.lift (Ax.ext 0 t32)).bind fun t33 =>
  (M.lift (Ax.ext 1 t32)).bind fun t34 =>
  (M.lift (Ax.bin .lss t1 (V.int .i64 0))).bind fun t36 =>
  (guarded [(0, t36)] (some (0, false)) (M.pure t1)).bind fun t38 =>
  (guarded [(0, t36)] (some (0, false)) (M.lift (Ax.bin .geq t38 (V.int .i64 3)))).bind fun t39 =>
  (M.lift (Ax.pick t36 (V.bool true) t39)).bind fun t40 =>
  (guarded [(0, t40)] (some (0, false)) (M.pure t29)).bind fun t42 =>
  (guarded [(0, t40)] (some (0, false)) (M.lift (Ax.bin .neq t42 (V.int .i64 0)))).bind fun t43 =>
  (M.lift (Ax.pick t40 (V.bool true) t43)).bind fun t44 =>
  (guarded [(0, t44)] (some (0, false)) (M.pure t34)).bind fun t46 =>
  (guarded [(0, t44)] (some (0, false)) (M.lift (Ax.un .not t46))).bind fun t47 =>
  (M.lift (Ax.pick t44 (V.bool true) t47)).bind fun t48 =>
  (guarded [(0, t48)] (some (0, false)) (M.pure t33)).bind fun t50 =>
  (guarded [(0, t48)] (some (0, false)) (M.lift (vlen t50))).bind fun t51 =>
  (guarded [(0, t48)] (some (0, false)) (M.lift (Ax.bin .lss t51 (V.int .i64 3)))).bind fun t52 =>
  (M.lift (Ax.pick t48 (V.bool true) t52)).bind fun t53 =>
  (guarded [(0, t53)] (some (0, false)) (mload (some 19) t10)).bind fun t55 =>
  (guarded [(0, t53)] (some (0, false)) (mload (some 6) t11)).bind fun t56 =>
  (guarded [(0, t53)] (some (0, false)) (G fn_depend_Good [t55, t56])).bind fun t57 =>
  (guarded [(0, t53)] (some (0, false)) (M.lift (Ax.un .not t57))).bind fun t58 =>
  (M.lift (Ax.pick t53 (V.bool true) t58)).bind fun t59 =>
  M.ite t59
    ((M.lift (Ax.build [V.nils, (V.int .i64 0), (V.bool false)] [])).bind fun t60 =>
    (mstore 3 t14 t60).bind fun _ =>
    (mload (some 3) t14).bind fun r0 =>
    M.pure (.ret [r0, (V.int .i64 1)]))
    ((mload (some 10) t9).bind fun t63 =>
    (mload (some 19) t10).bind fun t64 =>
    (G fn_lane_Lane_turned [t0, t1, t63, t64, t6]).bind fun t66 =>
    (M.lift (Ax.un .not t66)).bind fun t67 =>
    M.ite t67
      ((M.lift (Ax.build [V.nils, (V.int .i64 0), (V.bool false)] [(1, 1, (V.int .i64 1))])).bind fun t68 =>
      (mstore 3 t14 t68).bind fun _ =>
      (mload (some 3) t14).bind fun r0 =>
      M.pure (.ret [r0, (V.int .i64 0)]))
      ((mload (some 19) t10).bind fun t70 =>
      (mload (some 6) t11).bind fun t71 =>
      (G fn_lane_Lane_why [t0, t70, t71, t5]).bind fun t73 =>
      (M.lift (Ax.bin .neq t73 (V.int .i64 0))).bind fun t75 =>
      M.ite t75
        ((M.lift (Ax.bin .eql t73 (V.int .i64 5))).bind fun t78 =>
        (M.lift (Ax.build [V.nils, (V.int .i64 0), (V.bool false)] [(1, 1, t73), (2, 1, t78)])).bind fun t79 =>
        (mstore 3 t14 t79).bind fun _ =>
        (mload (some 3) t14).bind fun r0 =>
        M.pure (.ret [r0, (V.int .i64 0)]))
        ((M.lift (Ax.faddr 0 t10)).bind fun t80 =>
        (mload none t80).bind fun t81 =>
        M.join (M.ite t81
          ((M.lift (Ax.nilck t0)).bind fun t84 =>
          (M.lift (Ax.faddr 13 t84)).bind fun t85 =>
          (mload none t85).bind fun t86 =>
          (M.lift (Ax.faddr 3 t10)).bind fun t87 =>
          (mload none t87).bind fun t88 =>
          (G fn_refs_Add [t86, t88]).bind fun t89 =>
          (M.lift (Ax.nilck t0)).bind fun t90 =>
          (M.lift (Ax.faddr 13 t90)).bind fun t91 =>
          (mstore 1 t91 t89).bind fun _ =>
          M.pure (.nrm []))
          (M.pure (.nrm []))) fun _ =>
        (M.lift (Ax.nilck t0)).bind fun t94 =>
        (M.lift (Ax.faddr 6 t94)).bind fun t95 =>
        (mload (some 7) t95).bind fun t96 =>
        (M.lift (Ax.faddr 3 t9)).bind fun t97 =>
        (mload none t97).bind fun t98 =>
        (M.lift (Ax.faddr 3 t10)).bind fun t99 =>
        (mload none t99).bind fun t100 =>
        (G fn_turn_Out [t96, t98, t100, t6]).bind fun t102 =>
        (M.lift (Ax.ext 0 t102)).bind fun t103 =>
        (mbox ty_turn_Turn (V.agg [(V.bool false), (V.int .u16 0), (V.int .u32 0), (V.int .u32 0), (V.int .u16 0), (V.int .u16 0), (V.int .i64 0)])).bind fun t21 =>
        (mstore 7 t21 t103).bind fun _ =>
        (M.lift (Ax.ext 1 t102)).bind fun t104 =>
        (M.lift (Ax.ext 2 t102)).bind fun t105 =>
        (M.lift (Ax.ext 3 t102)).bind fun t106 =>
        (mload (some 7) t21).bind fun t108 =>
        (M.lift (Ax.nilck t0)).bind fun t109 =>
        (M.lift (Ax.faddr 6 t109)).bind fun t110 =>
        (mstore 7 t110 t108).bind fun _ =>
        (mload (some 10) t9).bind fun t112 =>
        M.getH.bind fun h0 =>
        (G fn_depend_Number [t33, t106]).bind fun t115 =>
        M.getH.bind fun h0' =>
        (M.unch t9 h0 h0').bind fun _ =>
        (G fn_rtp_Set [t112, (V.int .i64 1), t115]).bind fun t116 =>
        (M.lift (Ax.ext 0 t116)).bind fun t117 =>
        (mstore 10 t9 t117).bind fun _ =>
        (M.lift (Ax.ext 1 t116)).bind fun t118 =>
        (M.lift (Ax.nilck t0)).bind fun t122 =>
        (M.lift (Ax.faddr 0 t122)).bind fun t123 =>
        (mload none t123).bind fun t124 =>
        (M.lift (Ax.faddr 2 t9)).bind fun t125 =>
        M.getH.bind fun h1 =>
        (mstore 1 t125 t104).bind fun _ =>
        M.getH.bind fun h1' =>
        (M.unch t123 h1 h1').bind fun _ =>
        (M.lift (Ax.faddr 3 t9)).bind fun t126 =>
        M.getH.bind fun h2 =>
        (mstore 1 t126 t105).bind fun _ =>
        M.getH.bind fun h2' =>
        (M.unch t123 h2 h2').bind fun _ =>
        (M.lift (Ax.faddr 4 t9)).bind fun t127 =>
        (mstore 1 t127 t124).bind fun _ =>
        (mload (some 10) t9).bind fun t129 =>
        (G fn_rtp_Bytes [t129]).bind fun t130 =>
        (M.lift (Ax.ext 0 t130)).bind fun t131 =>
        (M.lift (Ax.ext 1 t130)).bind fun t132 =>
        (M.lift (Ax.nilck t0)).bind fun t134 =>
        (M.lift (Ax.faddr 14 t134)).bind fun t135 =>
        (mload none t135).bind fun t136 =>
        (G fn_ring_Ring_Add [t136, t104, t131]).bind fun t139 =>
        (M.lift (Ax.build [V.nils, (V.int .i64 0), (V.bool false)] [(0, 1, t131)])).bind fun t141 =>
        (mstore 3 t14 t141).bind fun _ =>
        (mload (some 3) t14).bind fun r0 =>
        M.pure (.ret [r0, (V.int .i64 0)]))))

theorem eq_lane_Lane_Media (G : Sem') (t0 t1 t2 t3 t4 t5 t6 : V) : execK G ir_lane_Lane_Media.rv ir_lane_Lane_Media.body [] [] (params 0 [t0, t1, t2, t3, t4, t5, t6]) = f_lane_Lane_Media G t0 t1 t2 t3 t4 t5 t6 := by kernel_rfl

def d_lane_Lane_Media (G : Sem') : List V → M V
  | [t0, t1, t2, t3, t4, t5, t6] => fin (f_lane_Lane_Media G t0 t1 t2 t3 t4 t5 t6)
  | _ => M.fail

theorem s_lane_Lane_Media {g : Sem'} (hg : Sims g (sem T)) (args : List V) : Sim (d_lane_Lane_Media g args) (sem T fn_lane_Lane_Media args) := by
  unfold d_lane_Lane_Media
  split
  · exact sim_fn tb_lane_Lane_Media (Nat.le_of_ble_eq_true rfl) hg (eq_lane_Lane_Media g _ _ _ _ _ _ _)
  · exact sim_fail

/-- palanquin/palanquinlaw25.plain. -/
def f_palanquinlaw25_plain (G : Sem') : M Res :=
  (mbox ty_depend_Structure (V.agg [(V.int .i64 0), (V.int .i64 0), V.nils, (V.int .i64 0), V.nils, V.nils])).bind fun t0 =>
  (mslit ty_int 2 [(V.int .i64 0)] [(0, 1, (V.int .i64 2)), (1, 1, (V.int .i64 2))]).bind fun t1 =>
  (M.lift (Ax.build [(V.int .i64 0), (V.int .i64 0), V.nils, V.nils, V.nils] [(2, 1, t1)])).bind fun t2 =>
  (mslit ty_int 2 [(V.int .i64 0)] [(0, 1, (V.int .i64 2)), (1, 1, (V.int .i64 2))]).bind fun t3 =>
  (mslit ty_int 1 [(V.int .i64 0)] [(0, 1, (V.int .i64 2))]).bind fun t4 =>
  (M.lift (Ax.build [(V.int .i64 0), (V.int .i64 0), V.nils, V.nils, V.nils] [(2, 1, t3), (3, 1, t4)])).bind fun t5 =>
  (mslit ty_int 2 [(V.int .i64 0)] [(0, 1, (V.int .i64 1)), (1, 1, (V.int .i64 0))]).bind fun t6 =>
  (mslit ty_int 1 [(V.int .i64 0)] [(0, 1, (V.int .i64 1))]).bind fun t7 =>
  (M.lift (Ax.build [(V.int .i64 0), (V.int .i64 0), V.nils, V.nils, V.nils] [(1, 1, (V.int .i64 1)), (2, 1, t6), (3, 1, t7)])).bind fun t8 =>
  (mslit ty_depend_Template 3 [(V.int .i64 0), (V.int .i64 0), V.nils, V.nils, V.nils] [(0, 5, t2), (5, 5, t5), (10, 5, t8)]).bind fun t9 =>
  (M.lift (Ax.build [(V.int .i64 0), (V.int .i64 0), V.nils, (V.int .i64 0), V.nils, V.nils] [(1, 1, (V.int .i64 2)), (2, 1, t9)])).bind fun t10 =>
  (mstore 6 t0 t10).bind fun _ =>
  (mload (some 6) t0).bind fun r0 =>
  M.pure (.ret [r0])

theorem eq_palanquinlaw25_plain (G : Sem') : execK G ir_palanquinlaw25_plain.rv ir_palanquinlaw25_plain.body [] [] (params 0 []) = f_palanquinlaw25_plain G := by kernel_rfl

def d_palanquinlaw25_plain (G : Sem') : List V → M V
  | [] => fin (f_palanquinlaw25_plain G)
  | _ => M.fail

theorem s_palanquinlaw25_plain {g : Sem'} (hg : Sims g (sem T)) (args : List V) : Sim (d_palanquinlaw25_plain g args) (sem T fn_palanquinlaw25_plain args) := by
  unfold d_palanquinlaw25_plain
  split
  · exact sim_fn tb_palanquinlaw25_plain (Nat.le_of_ble_eq_true rfl) hg (eq_palanquinlaw25_plain g)
  · exact sim_fail

/-- palanquin/rtp.Parse. -/
def f_rtp_Parse_0 (G : Sem') (t5 t0 t4 t2 : V) (L : List V) : M Res :=
  (M.lift (Ax.bin .lss (L.getD 0 .undef) t5)).bind fun t62 =>
  M.ite t62
    (M.blk 2 (
      (M.lift (Ax.faddr 5 t4)).bind fun t65 =>
      (mload none t65).bind fun t66 =>
      (M.lift (Ax.bin .add (L.getD 0 .undef) (V.int .i64 4))).bind fun t70 =>
      (M.lift (vslice .sl 1 t0 (some (L.getD 0 .undef)) (some t70) none)).bind fun t71 =>
      M.getH.bind fun h3 =>
      (G fn_rtp_get [t71]).bind fun t72 =>
      M.getH.bind fun h3' =>
      (M.unch t65 h3 h3').bind fun _ =>
      (mslit ty_uint32 1 [(V.int .u32 0)] [(0, 1, t72)]).bind fun t73 =>
      (mappend ty_uint32 1 4 t66 t73).bind fun t74 =>
      (M.lift (Ax.faddr 5 t4)).bind fun t75 =>
      (mstore 1 t75 t74).bind fun _ =>
      M.pure (.nrm [])) fun _ =>
    (M.lift (Ax.bin .add (L.getD 0 .undef) (V.int .i64 4))).bind fun t64 =>
    M.pure (.nrm [t64]))
    (M.pure (.ex 1 []))

def f_rtp_Parse (G : Sem') (t0 : V) : M Res :=
  (mbox ty_rtp_Packet (V.agg [(V.bool false), (V.int .i64 0), (V.int .u16 0), (V.int .u32 0), (V.int .u32 0), V.nils, (V.int .i64 0), V.nils, (V.int .i64 0), V.nils])).bind fun t2 =>
  M.blk 0 (
    (M.lift (vlen t0)).bind fun t12 =>
    (M.lift (Ax.bin .gtr t12 (V.int .i64 1200))).bind fun t13 =>
    M.ite t13
      ((M.lift (Ax.build [(V.bool false), (V.int .i64 0), (V.int .u16 0), (V.int .u32 0), (V.int .u32 0), V.nils, (V.int .i64 0), V.nils, (V.int .i64 0), V.nils] [])).bind fun t14 =>
      (mstore 10 t2 t14).bind fun _ =>
      (mload (some 10) t2).bind fun r0 =>
      M.pure (.ret [r0, (V.int .i64 4)]))
      ((M.lift (vlen t0)).bind fun t17 =>
      (M.lift (Ax.bin .lss t17 (V.int .i64 12))).bind fun t18 =>
      M.ite t18
        ((M.lift (Ax.build [(V.bool false), (V.int .i64 0), (V.int .u16 0), (V.int .u32 0), (V.int .u32 0), V.nils, (V.int .i64 0), V.nils, (V.int .i64 0), V.nils] [])).bind fun t19 =>
        (mstore 10 t2 t19).bind fun _ =>
        (mload (some 10) t2).bind fun r0 =>
        M.pure (.ret [r0, (V.int .i64 3)]))
        ((M.lift (Ax.iaddr none 1 t0 (V.int .i64 0))).bind fun t22 =>
        (mload none t22).bind fun t23 =>
        (M.lift (Ax.bin .shr t23 (V.int .u64 6))).bind fun t24 =>
        (M.lift (Ax.bin .neq t24 (V.int .u8 2))).bind fun t25 =>
        M.ite t25
          ((M.lift (Ax.build [(V.bool false), (V.int .i64 0), (V.int .u16 0), (V.int .u32 0), (V.int .u32 0), V.nils, (V.int .i64 0), V.nils, (V.int .i64 0), V.nils] [])).bind fun t26 =>
          (mstore 10 t2 t26).bind fun _ =>
          (mload (some 10) t2).bind fun r0 =>
          M.pure (.ret [r0, (V.int .i64 2)]))
          (M.pure (.nrm []))))) fun _ =>
  (M.lift (Ax.iaddr none 1 t0 (V.int .i64 1))).bind fun t28 =>
  (mload none t28).bind fun t29 =>
  (M.lift (Ax.bin .and t29 (V.int .u8 128))).bind fun t30 =>
  (M.lift (Ax.bin .neq t30 (V.int .u8 0))).bind fun t31 =>
  (M.lift (Ax.iaddr none 1 t0 (V.int .i64 1))).bind fun t33 =>
  (mload none t33).bind fun t34 =>
  (M.lift (Ax.bin .andNot t34 (V.int .u8 128))).bind fun t35 =>
  (M.lift (Ax.cint .i64 t35)).bind fun t36 =>
  (M.lift (vslice .sl 1 t0 (some (V.int .i64 2)) (some (V.int .i64 4)) none)).bind fun t38 =>
  (M.lift (vslice .sl 1 t0 (some (V.int .i64 4)) (some (V.int .i64 8)) none)).bind fun t42 =>
  (M.lift (vslice .sl 1 t0 (some (V.int .i64 8)) (some (V.int .i64 12)) none)).bind fun t45 =>
  M.getH.bind fun h0 =>
  (G fn_rtp_get [t38]).bind fun t39 =>
  M.getH.bind fun h0' =>
  (M.unch t33 h0 h0').bind fun _ =>
  (M.unch t28 h0 h0').bind fun _ =>
  M.getH.bind fun h1 =>
  (G fn_rtp_get [t42]).bind fun t43 =>
  M.getH.bind fun h1' =>
  (M.unch t33 h1 h1').bind fun _ =>
  (M.unch t28 h1 h1').bind fun _ =>
  M.getH.bind fun h2 =>
  (G fn_rtp_get [t45]).bind fun t46 =>
  M.getH.bind fun h2' =>
  (M.unch t33 h2 h2').bind fun _ =>
  (M.unch t28 h2 h2').bind fun _ =>
  (M.lift (Ax.cint .u16 t39)).bind fun t40 =>
  (M.lift (Ax.build [(V.bool false), (V.int .i64 0), (V.int .u16 0), (V.int .u32 0), (V.int .u32 0), V.nils, (V.int .i64 0), V.nils, (V.int .i64 0), V.nils] [(0, 1, t31), (1, 1, t36), (2, 1, t40), (3, 1, t43), (4, 1, t46)])).bind fun t47 =>
  (mbox ty_rtp_Packet (V.agg [(V.bool false), (V.int .i64 0), (V.int .u16 0), (V.int .u32 0), (V.int .u32 0), V.nils, (V.int .i64 0), V.nils, (V.int .i64 0), V.nils])).bind fun t4 =>
  (mstore 10 t4 t47).bind fun _ =>
  (M.lift (Ax.iaddr none 1 t0 (V.int .i64 0))).bind fun t49 =>
  (mload none t49).bind fun t50 =>
  (M.lift (Ax.bin .and t50 (V.int .u8 15))).bind fun t51 =>
  (M.lift (Ax.cint .i64 t51)).bind fun t52 =>
  (M.lift (Ax.bin .mul (V.int .i64 4) t52)).bind fun t53 =>
  (M.lift (Ax.bin .add (V.int .i64 12) t53)).bind fun t54 =>
  (M.lift (vlen t0)).bind fun t56 =>
  (M.lift (Ax.bin .lss t56 t54)).bind fun t58 =>
  M.ite t58
    ((M.lift (Ax.build [(V.bool false), (V.int .i64 0), (V.int .u16 0), (V.int .u32 0), (V.int .u32 0), V.nils, (V.int .i64 0), V.nils, (V.int .i64 0), V.nils] [])).bind fun t59 =>
    (mstore 10 t2 t59).bind fun _ =>
    (mload (some 10) t2).bind fun r0 =>
    M.pure (.ret [r0, (V.int .i64 3)]))
    (M.blk 1 (
      M.iter (f_rtp_Parse_0 G t54 t0 t4 t2) [(V.int .i64 12)]) fun _ =>
    (M.lift (Ax.iaddr none 1 t0 (V.int .i64 0))).bind fun t77 =>
    (mload none t77).bind fun t78 =>
    (M.lift (Ax.bin .and t78 (V.int .u8 16))).bind fun t79 =>
    (M.lift (Ax.bin .neq t79 (V.int .u8 0))).bind fun t80 =>
    M.join (M.ite t80
      ((M.lift (vslice .sl 1 t0 (some t54) none none)).bind fun t84 =>
      (G fn_rtp_extension [t4, t84]).bind fun t85 =>
      (M.lift (Ax.ext 0 t85)).bind fun t86 =>
      (M.lift (Ax.ext 1 t85)).bind fun t87 =>
      (M.lift (Ax.bin .neq t87 (V.int .i64 0))).bind fun t89 =>
      M.ite t89
        ((M.lift (Ax.build [(V.bool false), (V.int .i64 0), (V.int .u16 0), (V.int .u32 0), (V.int .u32 0), V.nils, (V.int .i64 0), V.nils, (V.int .i64 0), V.nils] [])).bind fun t90 =>
        (mstore 10 t2 t90).bind fun _ =>
        (mload (some 10) t2).bind fun r0 =>
        M.pure (.ret [r0, t87]))
        ((M.lift (Ax.bin .add t54 t86)).bind fun t94 =>
        M.pure (.nrm [t94])))
      (M.pure (.nrm [t54]))) fun L3 =>
    (M.lift (vslice .sl 1 t0 (some (L3.getD 0 .undef)) none none)).bind fun t97 =>
    (M.lift (Ax.iaddr none 1 t0 (V.int .i64 0))).bind fun t99 =>
    (mload none t99).bind fun t100 =>
    (M.lift (Ax.bin .and t100 (V.int .u8 32))).bind fun t101 =>
    (M.lift (Ax.bin .neq t101 (V.int .u8 0))).bind fun t102 =>
    M.join (M.ite t102
      ((M.lift (vlen t0)).bind fun t105 =>
      (M.lift (Ax.bin .sub t105 (V.int .i64 1))).bind fun t106 =>
      (M.lift (Ax.iaddr none 1 t0 t106)).bind fun t107 =>
      (mload none t107).bind fun t108 =>
      (M.lift (Ax.cint .i64 t108)).bind fun t109 =>
      (M.lift (Ax.faddr 8 t4)).bind fun t110 =>
      (mstore 1 t110 t109).bind fun _ =>
      (M.lift (Ax.faddr 8 t4)).bind fun t111 =>
      (mload none t111).bind fun t112 =>
      (M.lift (Ax.bin .eql t112 (V.int .i64 0))).bind fun t113 =>
      (guarded [(0, t113)] (some (0, false)) (M.lift (Ax.faddr 8 t4))).bind fun t115 =>
      (guarded [(0, t113)] (some (0, false)) (mload none t115)).bind fun t116 =>
      (guarded [(0, t113)] (some (0, false)) (M.pure t97)).bind fun t117 =>
      (guarded [(0, t113)] (some (0, false)) (M.lift (vlen t117))).bind fun t118 =>
      (guarded [(0, t113)] (some (0, false)) (M.lift (Ax.bin .gtr t116 t118))).bind fun t119 =>
      (M.lift (Ax.pick t113 (V.bool true) t119)).bind fun t120 =>
      M.ite t120
        ((M.lift (Ax.build [(V.bool false), (V.int .i64 0), (V.int .u16 0), (V.int .u32 0), (V.int .u32 0), V.nils, (V.int .i64 0), V.nils, (V.int .i64 0), V.nils] [])).bind fun t121 =>
        (mstore 10 t2 t121).bind fun _ =>
        (mload (some 10) t2).bind fun r0 =>
        M.pure (.ret [r0, (V.int .i64 2)]))
        (M.pure (.nrm [])))
      (M.pure (.nrm []))) fun _ =>
    (M.lift (vlen t97)).bind fun t124 =>
    (M.lift (Ax.faddr 8 t4)).bind fun t125 =>
    (mload none t125).bind fun t126 =>
    (M.lift (Ax.bin .sub t124 t126)).bind fun t127 =>
    (M.lift (vslice .sl 1 t97 none (some t127) none)).bind fun t128 =>
    (G fn_bytes_Clone [t128]).bind fun t129 =>
    (M.lift (Ax.faddr 9 t4)).bind fun t130 =>
    (mstore 1 t130 t129).bind fun _ =>
    (mload (some 10) t4).bind fun t131 =>
    (mstore 10 t2 t131).bind fun _ =>
    (mload (some 10) t2).bind fun r0 =>
    M.pure (.ret [r0, (V.int .i64 0)]))

theorem eq_rtp_Parse (G : Sem') (t0 : V) : execK G ir_rtp_Parse.rv ir_rtp_Parse.body [] [] (params 0 [t0]) = f_rtp_Parse G t0 := by kernel_rfl

def d_rtp_Parse (G : Sem') : List V → M V
  | [t0] => fin (f_rtp_Parse G t0)
  | _ => M.fail

theorem s_rtp_Parse {g : Sem'} (hg : Sims g (sem T)) (args : List V) : Sim (d_rtp_Parse g args) (sem T fn_rtp_Parse args) := by
  unfold d_rtp_Parse
  split
  · exact sim_fn tb_rtp_Parse (Nat.le_of_ble_eq_true rfl) hg (eq_rtp_Parse g _)
  · exact sim_fail

/-- palanquin/ring.New. -/
def f_ring_New (G : Sem') : M Res :=
  (M.lift (Ax.build [V.nils] [])).bind fun t1 =>
  (mbox ty_ring_Ring t1).bind fun t2 =>
  M.pure (.ret [t2])

theorem eq_ring_New (G : Sem') : execK G ir_ring_New.rv ir_ring_New.body [] [] (params 0 []) = f_ring_New G := by kernel_rfl

def d_ring_New (G : Sem') : List V → M V
  | [] => fin (f_ring_New G)
  | _ => M.fail

theorem s_ring_New {g : Sem'} (hg : Sims g (sem T)) (args : List V) : Sim (d_ring_New g args) (sem T fn_ring_New args) := by
  unfold d_ring_New
  split
  · exact sim_fn tb_ring_New (Nat.le_of_ble_eq_true rfl) hg (eq_ring_New g)
  · exact sim_fail

/-- (*palanquin/lane.Lane).SSRC. -/
def f_lane_Lane_SSRC (G : Sem') (t0 : V) : M Res :=
  (M.lift (Ax.nilck t0)).bind fun t4 =>
  (M.lift (Ax.faddr 0 t4)).bind fun t5 =>
  (mload none t5).bind fun t6 =>
  M.pure (.ret [t6])

theorem eq_lane_Lane_SSRC (G : Sem') (t0 : V) : execK G ir_lane_Lane_SSRC.rv ir_lane_Lane_SSRC.body [] [] (params 0 [t0]) = f_lane_Lane_SSRC G t0 := by kernel_rfl

def d_lane_Lane_SSRC (G : Sem') : List V → M V
  | [t0] => fin (f_lane_Lane_SSRC G t0)
  | _ => M.fail

theorem s_lane_Lane_SSRC {g : Sem'} (hg : Sims g (sem T)) (args : List V) : Sim (d_lane_Lane_SSRC g args) (sem T fn_lane_Lane_SSRC args) := by
  unfold d_lane_Lane_SSRC
  split
  · exact sim_fn tb_lane_Lane_SSRC (Nat.le_of_ble_eq_true rfl) hg (eq_lane_Lane_SSRC g _)
  · exact sim_fail

/-- palanquin/cast.Ask. -/
def f_cast_Ask (G : Sem') (t0 t1 : V) : M Res :=
  (mbox ty_cast_Cast t0).bind fun t2 =>
  (mbox ty_cast_Cast (V.agg [(V.bool false), (V.int .i64 0), (V.int .i64 0)])).bind fun t4 =>
  (mload (some 3) t2).bind fun t6 =>
  (G fn_cast_Good [t6]).bind fun t7 =>
  (M.lift (Ax.un .not t7)).bind fun t8 =>
  (guarded [(0, t8)] (some (0, false)) (M.pure t1)).bind fun t10 =>
  (guarded [(0, t8)] (some (0, false)) (G fn_cast_source [t10])).bind fun t11 =>
  (guarded [(0, t8)] (some (0, false)) (M.lift (Ax.un .not t11))).bind fun t12 =>
  (M.lift (Ax.pick t8 (V.bool true) t12)).bind fun t13 =>
  M.ite t13
    ((mload (some 3) t2).bind fun t14 =>
    (mstore 3 t4 t14).bind fun _ =>
    (mload (some 3) t4).bind fun r0 =>
    M.pure (.ret [r0, (V.int .i64 1)]))
    ((M.lift (Ax.faddr 2 t2)).bind fun t16 =>
    (mstore 1 t16 t1).bind fun _ =>
    (mload (some 3) t2).bind fun t17 =>
    (mstore 3 t4 t17).bind fun _ =>
    (mload (some 3) t4).bind fun r0 =>
    M.pure (.ret [r0, (V.int .i64 0)]))

theorem eq_cast_Ask (G : Sem') (t0 t1 : V) : execK G ir_cast_Ask.rv ir_cast_Ask.body [] [] (params 0 [t0, t1]) = f_cast_Ask G t0 t1 := by kernel_rfl

def d_cast_Ask (G : Sem') : List V → M V
  | [t0, t1] => fin (f_cast_Ask G t0 t1)
  | _ => M.fail

theorem s_cast_Ask {g : Sem'} (hg : Sims g (sem T)) (args : List V) : Sim (d_cast_Ask g args) (sem T fn_cast_Ask args) := by
  unfold d_cast_Ask
  split
  · exact sim_fn tb_cast_Ask (Nat.le_of_ble_eq_true rfl) hg (eq_cast_Ask g _ _)
  · exact sim_fail

/-- palanquin/cast.Lacks. -/
def f_cast_Lacks (G : Sem') (t0 : V) : M Res :=
  (mbox ty_cast_Cast t0).bind fun t1 =>
  (mload (some 3) t1).bind fun t4 =>
  (G fn_cast_Good [t4]).bind fun t5 =>
  (M.lift (Ax.un .not t5)).bind fun t6 =>
  (guarded [(0, t6)] (some (0, false)) (mload (some 3) t1)).bind fun t8 =>
  (guarded [(0, t6)] (some (0, false)) (M.lift (Ax.faddr 2 t1))).bind fun t9 =>
  (guarded [(0, t6)] (some (0, false)) (mload none t9)).bind fun t10 =>
  (guarded [(0, t6)] (some (0, false)) (G fn_cast_Cast_runs [t8, t10])).bind fun t11 =>
  (M.lift (Ax.pick t6 (V.bool true) t11)).bind fun t12 =>
  M.ite t12
    (M.pure (.ret [(V.int .i64 0), (V.bool false)]))
    ((M.lift (Ax.faddr 2 t1)).bind fun t13 =>
    (mload none t13).bind fun t14 =>
    M.pure (.ret [t14, (V.bool true)]))

theorem eq_cast_Lacks (G : Sem') (t0 : V) : execK G ir_cast_Lacks.rv ir_cast_Lacks.body [] [] (params 0 [t0]) = f_cast_Lacks G t0 := by kernel_rfl

def d_cast_Lacks (G : Sem') : List V → M V
  | [t0] => fin (f_cast_Lacks G t0)
  | _ => M.fail

theorem s_cast_Lacks {g : Sem'} (hg : Sims g (sem T)) (args : List V) : Sim (d_cast_Lacks g args) (sem T fn_cast_Lacks args) := by
  unfold d_cast_Lacks
  split
  · exact sim_fn tb_cast_Lacks (Nat.le_of_ble_eq_true rfl) hg (eq_cast_Lacks g _)
  · exact sim_fail

/-- palanquin/palanquinhelp.Structure. -/
def f_palanquinhelp_Structure_0 (G : Sem') (t1 t3 t2 : V) (L : List V) : M Res :=
  (M.lift (Ax.faddr 2 t1)).bind fun t17 =>
  (mload none t17).bind fun t18 =>
  (M.lift (vlen t18)).bind fun t19 =>
  (M.lift (Ax.bin .lss (L.getD 0 .undef) t19)).bind fun t20 =>
  M.ite t20
    (M.blk 1 (
      (M.lift (Ax.faddr 2 t3)).bind fun t23 =>
      (mload none t23).bind fun t24 =>
      (M.lift (Ax.faddr 2 t1)).bind fun t25 =>
      (mload none t25).bind fun t26 =>
      (M.lift (Ax.iaddr none 5 t26 (L.getD 0 .undef))).bind fun t28 =>
      (mload (some 5) t28).bind fun t29 =>
      (mslit ty_palanquinref9_Template 1 [(V.int .i64 0), (V.int .i64 0), V.nils, V.nils, V.nils] [(0, 5, t29)]).bind fun t30 =>
      (mappend ty_palanquinref9_Template 5 88 t24 t30).bind fun t31 =>
      (M.lift (Ax.faddr 2 t3)).bind fun t32 =>
      (mstore 1 t32 t31).bind fun _ =>
      M.pure (.nrm [])) fun _ =>
    (M.lift (Ax.bin .add (L.getD 0 .undef) (V.int .i64 1))).bind fun t22 =>
    M.pure (.nrm [t22]))
    (M.pure (.ex 0 []))

def f_palanquinhelp_Structure (G : Sem') (t0 : V) : M Res :=
  (mbox ty_depend_Structure t0).bind fun t1 =>
  (mbox ty_palanquinref9_Structure (V.agg [(V.int .i64 0), (V.int .i64 0), V.nils, (V.int .i64 0), V.nils, V.nils])).bind fun t2 =>
  (M.lift (Ax.faddr 0 t1)).bind fun t5 =>
  (mload none t5).bind fun t6 =>
  (M.lift (Ax.faddr 1 t1)).bind fun t7 =>
  (mload none t7).bind fun t8 =>
  (M.lift (Ax.faddr 3 t1)).bind fun t9 =>
  (mload none t9).bind fun t10 =>
  (M.lift (Ax.faddr 4 t1)).bind fun t11 =>
  (mload none t11).bind fun t12 =>
  (M.lift (Ax.faddr 5 t1)).bind fun t13 =>
  (mload none t13).bind fun t14 =>
  (M.lift (Ax.build [(V.int .i64 0), (V.int .i64 0), V.nils, (V.int .i64 0), V.nils, V.nils] [(0, 1, t6), (1, 1, t8), (3, 1, t10), (4, 1, t12), (5, 1, t14)])).bind fun t15 =>
  (mbox ty_palanquinref9_Structure (V.agg [(V.int .i64 0), (V.int .i64 0), V.nils, (V.int .i64 0), V.nils, V.nils])).bind fun t3 =>
  (mstore 6 t3 t15).bind fun _ =>
  M.blk 0 (
    M.iter (f_palanquinhelp_Structure_0 G t1 t3 t2) [(V.int .i64 0)]) fun _ =>
  (mload (some 6) t3).bind fun t33 =>
  (mstore 6 t2 t33).bind fun _ =>
  (mload (some 6) t2).bind fun r0 =>
  M.pure (.ret [r0])

theorem eq_palanquinhelp_Structure (G : Sem') (t0 : V) : execK G ir_palanquinhelp_Structure.rv ir_palanquinhelp_Structure.body [] [] (params 0 [t0]) = f_palanquinhelp_Structure G t0 := by kernel_rfl

def d_palanquinhelp_Structure (G : Sem') : List V → M V
  | [t0] => fin (f_palanquinhelp_Structure G t0)
  | _ => M.fail

theorem s_palanquinhelp_Structure {g : Sem'} (hg : Sims g (sem T)) (args : List V) : Sim (d_palanquinhelp_Structure g args) (sem T fn_palanquinhelp_Structure args) := by
  unfold d_palanquinhelp_Structure
  split
  · exact sim_fn tb_palanquinhelp_Structure (Nat.le_of_ble_eq_true rfl) hg (eq_palanquinhelp_Structure g _)
  · exact sim_fail

/-- palanquin/palanquinref9.Bytes. -/
def f_palanquinref9_Bytes_0 (G : Sem') (t6 t2 t4 t5 : V) (L : List V) : M Res :=
  (M.lift (Ax.faddr 13 t2)).bind fun t104 =>
  (mload none t104).bind fun t105 =>
  (guarded [(0, t105)] (some (0, true)) (M.pure (L.getD 0 .undef))).bind fun t107 =>
  (guarded [(0, t105)] (some (0, true)) (M.lift (Ax.faddr 16 t2))).bind fun t108 =>
  (guarded [(0, t105)] (some (0, true)) (mload none t108)).bind fun t109 =>
  (guarded [(0, t105)] (some (0, true)) (M.lift (vlen t109))).bind fun t110 =>
  (guarded [(0, t105)] (some (0, true)) (M.lift (Ax.bin .lss t107 t110))).bind fun t111 =>
  (M.lift (Ax.pick t105 t111 (V.bool false))).bind fun t112 =>
  M.ite t112
    (M.blk 1 (
      (M.lift (Ax.faddr 16 t2)).bind fun t116 =>
      (mload none t116).bind fun t117 =>
      (M.lift (Ax.iaddr none 1 t117 (L.getD 0 .undef))).bind fun t119 =>
      (mload none t119).bind fun t120 =>
      (M.lift (Ax.cint .u64 t120)).bind fun t121 =>
      (G fn_palanquinref6_Writer_Add [t6, t121, (V.int .i64 2)]).bind fun t122 =>
      M.pure (.nrm [])) fun _ =>
    (M.lift (Ax.bin .add (L.getD 0 .undef) (V.int .i64 1))).bind fun t114 =>
    M.pure (.nrm [t114]))
    (M.pure (.ex 0 []))

def f_palanquinref9_Bytes_1 (G : Sem') (t2 t8 t4 t5 : V) (L : List V) : M Res :=
  (M.lift (Ax.faddr 17 t2)).bind fun t132 =>
  (mload none t132).bind fun t133 =>
  (M.lift (Ax.iaddr none 1 t133 t8)).bind fun t135 =>
  (mload none t135).bind fun t136 =>
  (M.lift (Ax.bin .mul (V.int .i64 4) (L.getD 0 .undef))).bind fun t138 =>
  (M.lift (Ax.cint .u64 t138)).bind fun t139 =>
  (M.lift (Ax.bin .shl (V.int .i64 1) t139)).bind fun t140 =>
  (M.lift (Ax.bin .gtr t136 t140)).bind fun t141 =>
  M.ite t141
    (M.blk 5 (
      (M.lift (Ax.bin .add (L.getD 0 .undef) (V.int .i64 1))).bind fun t143 =>
      M.pure (.nrm [t143])) fun L4 =>
    M.pure (.nrm [(L4.getD 0 .undef)]))
    (M.pure (.ex 4 [(L.getD 0 .undef)]))

def f_palanquinref9_Bytes_2 (G : Sem') (t6 t2 t4 t5 : V) (L : List V) : M Res :=
  (M.lift (Ax.faddr 17 t2)).bind fun t126 =>
  (mload none t126).bind fun t127 =>
  (M.lift (vlen t127)).bind fun t128 =>
  (M.lift (Ax.bin .lss (L.getD 0 .undef) t128)).bind fun t129 =>
  M.ite t129
    (M.blk 3 (
      M.blk 4 (
        M.iter (f_palanquinref9_Bytes_1 G t2 (L.getD 0 .undef) t4 t5) [(V.int .i64 1)]) fun L5 =>
      (M.lift (Ax.cint .u64 (L5.getD 0 .undef))).bind fun t146 =>
      (G fn_palanquinref6_Writer_Add [t6, t146, (V.int .i64 2)]).bind fun t147 =>
      (M.lift (Ax.faddr 17 t2)).bind fun t149 =>
      (mload none t149).bind fun t150 =>
      (M.lift (Ax.iaddr none 1 t150 (L.getD 0 .undef))).bind fun t152 =>
      (mload none t152).bind fun t153 =>
      (M.lift (Ax.bin .sub t153 (V.int .i64 1))).bind fun t154 =>
      (M.lift (Ax.cint .u64 t154)).bind fun t155 =>
      (M.lift (Ax.bin .mul (V.int .i64 4) (L5.getD 0 .undef))).bind fun t157 =>
      (G fn_palanquinref6_Writer_Add [t6, t155, t157]).bind fun t158 =>
      M.pure (.nrm [])) fun _ =>
    (M.lift (Ax.bin .add (L.getD 0 .undef) (V.int .i64 1))).bind fun t131 =>
    M.pure (.nrm [t131]))
    (M.pure (.ex 2 []))

def f_palanquinref9_Bytes_3 (G : Sem') (t6 t2 t4 t5 : V) (L : List V) : M Res :=
  (M.lift (Ax.faddr 15 t2)).bind fun t161 =>
  (mload none t161).bind fun t162 =>
  (guarded [(0, t162)] (some (0, true)) (M.pure (L.getD 0 .undef))).bind fun t164 =>
  (guarded [(0, t162)] (some (0, true)) (M.lift (Ax.faddr 18 t2))).bind fun t165 =>
  (guarded [(0, t162)] (some (0, true)) (mload none t165)).bind fun t166 =>
  (guarded [(0, t162)] (some (0, true)) (M.lift (vlen t166))).bind fun t167 =>
  (guarded [(0, t162)] (some (0, true)) (M.lift (Ax.bin .lss t164 t167))).bind fun t168 =>
  (M.lift (Ax.pick t162 t168 (V.bool false))).bind fun t169 =>
  M.ite t169
    (M.blk 7 (
      (M.lift (Ax.faddr 18 t2)).bind fun t173 =>
      (mload none t173).bind fun t174 =>
      (M.lift (Ax.iaddr none 1 t174 (L.getD 0 .undef))).bind fun t176 =>
      (mload none t176).bind fun t177 =>
      (M.lift (Ax.cint .u64 t177)).bind fun t178 =>
      (G fn_palanquinref6_Writer_Add [t6, t178, (V.int .i64 8)]).bind fun t179 =>
      M.pure (.nrm [])) fun _ =>
    (M.lift (Ax.bin .add (L.getD 0 .undef) (V.int .i64 1))).bind fun t171 =>
    M.pure (.nrm [t171]))
    (M.pure (.ex 6 []))

def f_palanquinref9_Bytes (G : Sem') (t0 t1 : V) : M Res :=
  (mbox ty_palanquinref9_Frame t0).bind fun t2 =>
  (mbox ty_palanquinref9_Structure t1).bind fun t3 =>
  (mload (some 19) t2).bind fun t11 =>
  (mload (some 6) t3).bind fun t12 =>
  (G fn_palanquinref9_Good [t11, t12]).bind fun t13 =>
  (M.lift (Ax.un .not t13)).bind fun t14 =>
  M.ite t14
    (M.pure (.ret [V.nils, (V.int .i64 1)]))
    ((M.lift (Ax.build [V.nils] [])).bind fun t15 =>
    (mbox ty_palanquinref6_Writer t15).bind fun t16 =>
    (M.lift (Ax.faddr 0 t2)).bind fun t18 =>
    (mload none t18).bind fun t19 =>
    (G fn_palanquinref9_one [t19]).bind fun t20 =>
    (G fn_palanquinref6_Writer_Add [t16, t20, (V.int .i64 1)]).bind fun t21 =>
    (M.lift (Ax.faddr 1 t2)).bind fun t23 =>
    (mload none t23).bind fun t24 =>
    (G fn_palanquinref9_one [t24]).bind fun t25 =>
    (G fn_palanquinref6_Writer_Add [t16, t25, (V.int .i64 1)]).bind fun t26 =>
    (M.lift (Ax.faddr 2 t2)).bind fun t28 =>
    (mload none t28).bind fun t29 =>
    (M.lift (Ax.cint .u64 t29)).bind fun t30 =>
    (G fn_palanquinref6_Writer_Add [t16, t30, (V.int .i64 6)]).bind fun t31 =>
    (M.lift (Ax.faddr 3 t2)).bind fun t33 =>
    (mload none t33).bind fun t34 =>
    (M.lift (Ax.cint .u64 t34)).bind fun t35 =>
    (G fn_palanquinref6_Writer_Add [t16, t35, (V.int .i64 16)]).bind fun t36 =>
    (M.lift (Ax.faddr 4 t2)).bind fun t37 =>
    (mload none t37).bind fun t38 =>
    (M.lift (Ax.un .not t38)).bind fun t39 =>
    (guarded [(0, t39)] (some (0, true)) (M.lift (Ax.faddr 11 t2))).bind fun t41 =>
    (guarded [(0, t39)] (some (0, true)) (mload none t41)).bind fun t42 =>
    (guarded [(0, t39)] (some (0, true)) (M.lift (Ax.un .not t42))).bind fun t43 =>
    (M.lift (Ax.pick t39 t43 (V.bool false))).bind fun t44 =>
    (guarded [(0, t44)] (some (0, true)) (M.lift (Ax.faddr 13 t2))).bind fun t46 =>
    (guarded [(0, t44)] (some (0, true)) (mload none t46)).bind fun t47 =>
    (guarded [(0, t44)] (some (0, true)) (M.lift (Ax.un .not t47))).bind fun t48 =>
    (M.lift (Ax.pick t44 t48 (V.bool false))).bind fun t49 =>
    (guarded [(0, t49)] (some (0, true)) (M.lift (Ax.faddr 14 t2))).bind fun t51 =>
    (guarded [(0, t49)] (some (0, true)) (mload none t51)).bind fun t52 =>
    (guarded [(0, t49)] (some (0, true)) (M.lift (Ax.un .not t52))).bind fun t53 =>
    (M.lift (Ax.pick t49 t53 (V.bool false))).bind fun t54 =>
    (guarded [(0, t54)] (some (0, true)) (M.lift (Ax.faddr 15 t2))).bind fun t56 =>
    (guarded [(0, t54)] (some (0, true)) (mload none t56)).bind fun t57 =>
    (guarded [(0, t54)] (some (0, true)) (M.lift (Ax.un .not t57))).bind fun t58 =>
    (M.lift (Ax.pick t54 t58 (V.bool false))).bind fun t59 =>
    M.ite t59
      ((G fn_palanquinref6_Writer_Bytes [t16]).bind fun t61 =>
      M.pure (.ret [t61, (V.int .i64 0)]))
      ((M.lift (Ax.faddr 4 t2)).bind fun t63 =>
      (mload none t63).bind fun t64 =>
      (G fn_palanquinref9_one [t64]).bind fun t65 =>
      (G fn_palanquinref6_Writer_Add [t16, t65, (V.int .i64 1)]).bind fun t66 =>
      (M.lift (Ax.faddr 11 t2)).bind fun t68 =>
      (mload none t68).bind fun t69 =>
      (G fn_palanquinref9_one [t69]).bind fun t70 =>
      (G fn_palanquinref6_Writer_Add [t16, t70, (V.int .i64 1)]).bind fun t71 =>
      (M.lift (Ax.faddr 13 t2)).bind fun t73 =>
      (mload none t73).bind fun t74 =>
      (G fn_palanquinref9_one [t74]).bind fun t75 =>
      (G fn_palanquinref6_Writer_Add [t16, t75, (V.int .i64 1)]).bind fun t76 =>
      (M.lift (Ax.faddr 14 t2)).bind fun t78 =>
      (mload none t78).bind fun t79 =>
      (G fn_palanquinref9_one [t79]).bind fun t80 =>
      (G fn_palanquinref6_Writer_Add [t16, t80, (V.int .i64 1)]).bind fun t81 =>
      (M.lift (Ax.faddr 15 t2)).bind fun t83 =>
      (mload none t83).bind fun t84 =>
      (G fn_palanquinref9_one [t84]).bind fun t85 =>
      (G fn_palanquinref6_Writer_Add [t16, t85, (V.int .i64 1)]).bind fun t86 =>
      (M.lift (Ax.faddr 4 t2)).bind fun t87 =>
      (mload none t87).bind fun t88 =>
      M.join (M.ite t88
        ((M.lift (Ax.faddr 5 t2)).bind fun t90 =>
        (mload (some 6) t90).bind fun t91 =>
        (G fn_palanquinref9_writes [t16, t91]).bind fun t92 =>
        M.pure (.nrm []))
        (M.pure (.nrm []))) fun _ =>
      (M.lift (Ax.faddr 11 t2)).bind fun t93 =>
      (mload none t93).bind fun t94 =>
      M.join (M.ite t94
        ((M.lift (Ax.faddr 12 t2)).bind fun t96 =>
        (mload none t96).bind fun t97 =>
        (M.lift (Ax.cint .u64 t97)).bind fun t98 =>
        (mload (some 19) t2).bind fun t99 =>
        (mload (some 6) t3).bind fun t100 =>
        M.getH.bind fun h0 =>
        (G fn_palanquinref9_holds [t99, t100]).bind fun t101 =>
        M.getH.bind fun h0' =>
        (M.unch t96 h0 h0').bind fun _ =>
        (M.lift (Ax.field 1 none t101)).bind fun t102 =>
        (G fn_palanquinref6_Writer_Add [t16, t98, t102]).bind fun t103 =>
        M.pure (.nrm []))
        (M.pure (.nrm []))) fun _ =>
      M.blk 0 (
        M.iter (f_palanquinref9_Bytes_0 G t16 t2 V.nils (V.int .i64 0)) [(V.int .i64 0)]) fun _ =>
      (M.lift (Ax.faddr 14 t2)).bind fun t123 =>
      (mload none t123).bind fun t124 =>
      M.join (M.ite t124
        (M.blk 2 (
          M.iter (f_palanquinref9_Bytes_2 G t16 t2 V.nils (V.int .i64 0)) [(V.int .i64 0)]) fun _ =>
        (G fn_palanquinref6_Writer_Add [t16, (V.int .u64 0), (V.int .i64 2)]).bind fun t160 =>
        M.pure (.nrm []))
        (M.pure (.nrm []))) fun _ =>
      M.blk 6 (
        M.iter (f_palanquinref9_Bytes_3 G t16 t2 V.nils (V.int .i64 0)) [(V.int .i64 0)]) fun _ =>
      (G fn_palanquinref6_Writer_Bytes [t16]).bind fun t181 =>
      M.pure (.ret [t181, (V.int .i64 0)])))

theorem eq_palanquinref9_Bytes (G : Sem') (t0 t1 : V) : execK G ir_palanquinref9_Bytes.rv ir_palanquinref9_Bytes.body [] [] (params 0 [t0, t1]) = f_palanquinref9_Bytes G t0 t1 := by kernel_rfl

def d_palanquinref9_Bytes (G : Sem') : List V → M V
  | [t0, t1] => fin (f_palanquinref9_Bytes G t0 t1)
  | _ => M.fail

theorem s_palanquinref9_Bytes {g : Sem'} (hg : Sims g (sem T)) (args : List V) : Sim (d_palanquinref9_Bytes g args) (sem T fn_palanquinref9_Bytes args) := by
  unfold d_palanquinref9_Bytes
  split
  · exact sim_fn tb_palanquinref9_Bytes (Nat.le_of_ble_eq_true rfl) hg (eq_palanquinref9_Bytes g _ _)
  · exact sim_fail

/-- palanquin/palanquinhelp.Frame. -/
def f_palanquinhelp_Frame (G : Sem') (t0 : V) : M Res :=
  (mbox ty_depend_Frame t0).bind fun t1 =>
  (mbox ty_palanquinref9_Frame (V.agg [(V.bool false), (V.bool false), (V.int .i64 0), (V.int .u16 0), (V.bool false), (V.int .i64 0), (V.int .i64 0), V.nils, (V.int .i64 0), V.nils, V.nils, (V.bool false), (V.int .u32 0), (V.bool false), (V.bool false), (V.bool false), V.nils, V.nils, V.nils])).bind fun t2 =>
  (M.lift (Ax.faddr 0 t1)).bind fun t3 =>
  (mload none t3).bind fun t4 =>
  (M.lift (Ax.faddr 1 t1)).bind fun t5 =>
  (mload none t5).bind fun t6 =>
  (M.lift (Ax.faddr 2 t1)).bind fun t7 =>
  (mload none t7).bind fun t8 =>
  (M.lift (Ax.faddr 3 t1)).bind fun t9 =>
  (mload none t9).bind fun t10 =>
  (M.lift (Ax.faddr 4 t1)).bind fun t11 =>
  (mload none t11).bind fun t12 =>
  (M.lift (Ax.faddr 5 t1)).bind fun t13 =>
  (mload (some 6) t13).bind fun t14 =>
  (M.lift (Ax.faddr 11 t1)).bind fun t16 =>
  (mload none t16).bind fun t17 =>
  (M.lift (Ax.faddr 12 t1)).bind fun t18 =>
  (mload none t18).bind fun t19 =>
  (M.lift (Ax.faddr 13 t1)).bind fun t20 =>
  (mload none t20).bind fun t21 =>
  (M.lift (Ax.faddr 14 t1)).bind fun t22 =>
  (mload none t22).bind fun t23 =>
  (M.lift (Ax.faddr 15 t1)).bind fun t24 =>
  (mload none t24).bind fun t25 =>
  (M.lift (Ax.faddr 16 t1)).bind fun t26 =>
  (mload none t26).bind fun t27 =>
  (M.lift (Ax.faddr 17 t1)).bind fun t28 =>
  (mload none t28).bind fun t29 =>
  (M.lift (Ax.faddr 18 t1)).bind fun t30 =>
  (mload none t30).bind fun t31 =>
  M.getH.bind fun h0 =>
  (G fn_palanquinhelp_Structure [t14]).bind fun t15 =>
  M.getH.bind fun h0' =>
  (M.unch t30 h0 h0').bind fun _ =>
  (M.unch t28 h0 h0').bind fun _ =>
  (M.unch t26 h0 h0').bind fun _ =>
  (M.unch t24 h0 h0').bind fun _ =>
  (M.unch t22 h0 h0').bind fun _ =>
  (M.unch t20 h0 h0').bind fun _ =>
  (M.unch t18 h0 h0').bind fun _ =>
  (M.unch t16 h0 h0').bind fun _ =>
  (M.unch t11 h0 h0').bind fun _ =>
  (M.unch t9 h0 h0').bind fun _ =>
  (M.unch t7 h0 h0').bind fun _ =>
  (M.unch t5 h0 h0').bind fun _ =>
  (M.unch t3 h0 h0').bind fun _ =>
  (M.lift (Ax.build [(V.bool false), (V.bool false), (V.int .i64 0), (V.int .u16 0), (V.bool false), (V.int .i64 0), (V.int .i64 0), V.nils, (V.int .i64 0), V.nils, V.nils, (V.bool false), (V.int .u32 0), (V.bool false), (V.bool false), (V.bool false), V.nils, V.nils, V.nils] [(0, 1, t4), (1, 1, t6), (2, 1, t8), (3, 1, t10), (4, 1, t12), (5, 6, t15), (11, 1, t17), (12, 1, t19), (13, 1, t21), (14, 1, t23), (15, 1, t25), (16, 1, t27), (17, 1, t29), (18, 1, t31)])).bind fun t32 =>
  (mstore 19 t2 t32).bind fun _ =>
  (mload (some 19) t2).bind fun r0 =>
  M.pure (.ret [r0])

theorem eq_palanquinhelp_Frame (G : Sem') (t0 : V) : execK G ir_palanquinhelp_Frame.rv ir_palanquinhelp_Frame.body [] [] (params 0 [t0]) = f_palanquinhelp_Frame G t0 := by kernel_rfl

def d_palanquinhelp_Frame (G : Sem') : List V → M V
  | [t0] => fin (f_palanquinhelp_Frame G t0)
  | _ => M.fail

theorem s_palanquinhelp_Frame {g : Sem'} (hg : Sims g (sem T)) (args : List V) : Sim (d_palanquinhelp_Frame g args) (sem T fn_palanquinhelp_Frame args) := by
  unfold d_palanquinhelp_Frame
  split
  · exact sim_fn tb_palanquinhelp_Frame (Nat.le_of_ble_eq_true rfl) hg (eq_palanquinhelp_Frame g _)
  · exact sim_fail

/-- palanquin/rtp.Bytes. -/
def f_rtp_Bytes_0 (G : Sem') (t26 t25 t2 t3 : V) (L : List V) : M Res :=
  (M.lift (Ax.bin .lss (L.getD 1 .undef) t26)).bind fun t28 =>
  M.ite t28
    (M.blk 1 (
      (M.lift (Ax.iaddr none 1 t25 (L.getD 1 .undef))).bind fun t29 =>
      (mload none t29).bind fun t30 =>
      (G fn_rtp_put [(L.getD 0 .undef), t30, (V.int .i64 4)]).bind fun t33 =>
      M.pure (.nrm [t33])) fun L0 =>
    (M.lift (Ax.bin .add (L.getD 1 .undef) (V.int .i64 1))).bind fun t34 =>
    M.pure (.nrm [(L0.getD 0 .undef), t34]))
    (M.pure (.ex 0 [(L.getD 0 .undef)]))

def f_rtp_Bytes (G : Sem') (t0 : V) : M Res :=
  (mbox ty_rtp_Packet t0).bind fun t1 =>
  (mload (some 10) t1).bind fun t8 =>
  (G fn_rtp_Good [t8]).bind fun t9 =>
  (M.lift (Ax.un .not t9)).bind fun t10 =>
  M.ite t10
    (M.pure (.ret [V.nils, (V.int .i64 1)]))
    ((mload (some 10) t1).bind fun t11 =>
    (M.lift (Ax.faddr 2 t1)).bind fun t13 =>
    (mload none t13).bind fun t14 =>
    (M.lift (Ax.cint .u32 t14)).bind fun t15 =>
    M.getH.bind fun h0 =>
    (G fn_rtp_first [t11]).bind fun t12 =>
    M.getH.bind fun h0' =>
    (M.unch t13 h0 h0').bind fun _ =>
    (G fn_rtp_put [t12, t15, (V.int .i64 2)]).bind fun t16 =>
    (M.lift (Ax.faddr 3 t1)).bind fun t18 =>
    (mload none t18).bind fun t19 =>
    (M.lift (Ax.faddr 4 t1)).bind fun t21 =>
    (mload none t21).bind fun t22 =>
    M.getH.bind fun h1 =>
    (G fn_rtp_put [t16, t19, (V.int .i64 4)]).bind fun t20 =>
    M.getH.bind fun h1' =>
    (M.unch t21 h1 h1').bind fun _ =>
    (G fn_rtp_put [t20, t22, (V.int .i64 4)]).bind fun t23 =>
    (M.lift (Ax.faddr 5 t1)).bind fun t24 =>
    (mload none t24).bind fun t25 =>
    (M.lift (vlen t25)).bind fun t26 =>
    M.blk 0 (
      M.iter (f_rtp_Bytes_0 G t26 t25 V.nils (V.int .i64 0)) [t23, (V.int .i64 0)]) fun L1 =>
    (M.lift (Ax.faddr 6 t1)).bind fun t35 =>
    (mload none t35).bind fun t36 =>
    (M.lift (Ax.bin .neq t36 (V.int .i64 0))).bind fun t37 =>
    M.join (M.ite t37
      ((mload (some 10) t1).bind fun t38 =>
      (G fn_rtp_elements [t38]).bind fun t39 =>
      (M.lift (Ax.faddr 6 t1)).bind fun t41 =>
      (mload none t41).bind fun t42 =>
      (M.lift (Ax.cint .u32 t42)).bind fun t43 =>
      (G fn_rtp_put [(L1.getD 0 .undef), t43, (V.int .i64 2)]).bind fun t44 =>
      (M.lift (vlen t39)).bind fun t46 =>
      (M.lift (Ax.bin .quo t46 (V.int .i64 4))).bind fun t47 =>
      (M.lift (Ax.cint .u32 t47)).bind fun t48 =>
      (G fn_rtp_put [t44, t48, (V.int .i64 2)]).bind fun t49 =>
      (mappend ty_uint8 1 1 t49 t39).bind fun t52 =>
      M.pure (.nrm [t52]))
      (M.pure (.nrm [(L1.getD 0 .undef)]))) fun L2 =>
    (M.lift (vlen (L2.getD 0 .undef))).bind fun t54 =>
    (M.lift (Ax.faddr 9 t1)).bind fun t55 =>
    (mload none t55).bind fun t56 =>
    (M.lift (vlen t56)).bind fun t57 =>
    (M.lift (Ax.bin .add t54 t57)).bind fun t58 =>
    (M.lift (Ax.faddr 8 t1)).bind fun t59 =>
    (mload none t59).bind fun t60 =>
    (M.lift (Ax.bin .add t58 t60)).bind fun t61 =>
    (M.lift (Ax.bin .gtr t61 (V.int .i64 1200))).bind fun t62 =>
    M.ite t62
      (M.pure (.ret [V.nils, (V.int .i64 4)]))
      ((M.lift (Ax.faddr 9 t1)).bind fun t64 =>
      (mload none t64).bind fun t65 =>
      (mappend ty_uint8 1 1 (L2.getD 0 .undef) t65).bind fun t66 =>
      (M.lift (Ax.faddr 8 t1)).bind fun t67 =>
      (mload none t67).bind fun t68 =>
      (M.lift (Ax.bin .gtr t68 (V.int .i64 0))).bind fun t69 =>
      M.join (M.ite t69
        ((M.lift (Ax.faddr 8 t1)).bind fun t71 =>
        (mload none t71).bind fun t72 =>
        (mappendz ty_uint8 1 [(V.int .u8 0)] t66 t72).bind fun t73 =>
        (M.lift (vlen t73)).bind fun t76 =>
        (M.lift (Ax.bin .sub t76 (V.int .i64 1))).bind fun t77 =>
        (M.lift (Ax.faddr 8 t1)).bind fun t78 =>
        (mload none t78).bind fun t79 =>
        (M.lift (Ax.cint .u8 t79)).bind fun t80 =>
        (M.lift (Ax.iaddr none 1 t73 t77)).bind fun t81 =>
        (mstore 1 t81 t80).bind fun _ =>
        M.pure (.nrm [t73]))
        (M.pure (.nrm [t66]))) fun L3 =>
      M.pure (.ret [(L3.getD 0 .undef), (V.int .i64 0)])))

theorem eq_rtp_Bytes (G : Sem') (t0 : V) : execK G ir_rtp_Bytes.rv ir_rtp_Bytes.body [] [] (params 0 [t0]) = f_rtp_Bytes G t0 := by kernel_rfl

def d_rtp_Bytes (G : Sem') : List V → M V
  | [t0] => fin (f_rtp_Bytes G t0)
  | _ => M.fail

theorem s_rtp_Bytes {g : Sem'} (hg : Sims g (sem T)) (args : List V) : Sim (d_rtp_Bytes g args) (sem T fn_rtp_Bytes args) := by
  unfold d_rtp_Bytes
  split
  · exact sim_fn tb_rtp_Bytes (Nat.le_of_ble_eq_true rfl) hg (eq_rtp_Bytes g _)
  · exact sim_fail

/-- palanquin/rtp.Find. -/
def f_rtp_Find (G : Sem') (t0 t1 : V) : M Res :=
  (mbox ty_rtp_Packet t0).bind fun t2 =>
  (mload (some 10) t2).bind fun t7 =>
  (G fn_rtp_at [t7, t1]).bind fun t9 =>
  (M.lift (Ax.bin .lss t9 (V.int .i64 0))).bind fun t11 =>
  M.ite t11
    (M.pure (.ret [V.nils, (V.bool false)]))
    ((M.lift (Ax.faddr 7 t2)).bind fun t12 =>
    (mload none t12).bind fun t13 =>
    (M.lift (Ax.iaddr none 2 t13 t9)).bind fun t15 =>
    (M.lift (Ax.faddr 1 t15)).bind fun t16 =>
    (mload none t16).bind fun t17 =>
    (G fn_bytes_Clone [t17]).bind fun t18 =>
    M.pure (.ret [t18, (V.bool true)]))

theorem eq_rtp_Find (G : Sem') (t0 t1 : V) : execK G ir_rtp_Find.rv ir_rtp_Find.body [] [] (params 0 [t0, t1]) = f_rtp_Find G t0 t1 := by kernel_rfl

def d_rtp_Find (G : Sem') : List V → M V
  | [t0, t1] => fin (f_rtp_Find G t0 t1)
  | _ => M.fail

theorem s_rtp_Find {g : Sem'} (hg : Sims g (sem T)) (args : List V) : Sim (d_rtp_Find g args) (sem T fn_rtp_Find args) := by
  unfold d_rtp_Find
  split
  · exact sim_fn tb_rtp_Find (Nat.le_of_ble_eq_true rfl) hg (eq_rtp_Find g _ _)
  · exact sim_fail

/-- palanquin/depend.Good. -/
def f_depend_Good (G : Sem') (t0 t1 : V) : M Res :=
  (mbox ty_depend_Frame t0).bind fun t2 =>
  (mbox ty_depend_Structure t1).bind fun t3 =>
  (mload (some 19) t2).bind fun t9 =>
  (mload (some 6) t3).bind fun t10 =>
  (G fn_depend_Of [t9, t10]).bind fun t11 =>
  (M.lift (Ax.ext 0 t11)).bind fun t12 =>
  (M.lift (Ax.ext 1 t11)).bind fun t13 =>
  (mbox ty_depend_Template (V.agg [(V.int .i64 0), (V.int .i64 0), V.nils, V.nils, V.nils])).bind fun t5 =>
  (mstore 5 t5 t12).bind fun _ =>
  (mload (some 19) t2).bind fun t14 =>
  (mload (some 6) t3).bind fun t15 =>
  (G fn_depend_holds [t14, t15]).bind fun t16 =>
  (mbox ty_depend_Structure (V.agg [(V.int .i64 0), (V.int .i64 0), V.nils, (V.int .i64 0), V.nils, V.nils])).bind fun t7 =>
  (mstore 6 t7 t16).bind fun _ =>
  M.blk 0 (
    (M.lift (Ax.un .not t13)).bind fun t19 =>
    (guarded [(0, t19)] (some (0, false)) (M.lift (Ax.faddr 4 t2))).bind fun t21 =>
    (guarded [(0, t19)] (some (0, false)) (mload none t21)).bind fun t22 =>
    (guarded [(0, t19)] (some (0, false)) (M.lift (Ax.un .not t22))).bind fun t23 =>
    (guarded [(0, t19)] (some (0, false)) (M.pure t23)).bind fun t24 =>
    (guarded [(0, t24)] (some (0, true)) (M.lift (Ax.faddr 5 t2))).bind fun t25 =>
    (guarded [(0, t24)] (some (0, true)) (mload (some 6) t25)).bind fun t26 =>
    (guarded [(0, t24)] (some (0, true)) (G fn_depend_none [t26])).bind fun t27 =>
    (guarded [(0, t24)] (some (0, true)) (M.lift (Ax.un .not t27))).bind fun t28 =>
    (guarded [(0, t19)] (some (0, false)) (M.lift (Ax.pick t24 t28 (V.bool false)))).bind fun t29 =>
    (M.lift (Ax.pick t19 (V.bool true) t29)).bind fun t30 =>
    M.ite t30
      (M.pure (.ret [(V.bool false)]))
      ((M.lift (Ax.faddr 11 t2)).bind fun t32 =>
      (mload none t32).bind fun t33 =>
      (M.lift (Ax.un .not t33)).bind fun t34 =>
      (guarded [(0, t34)] (some (0, true)) (M.lift (Ax.faddr 12 t2))).bind fun t36 =>
      (guarded [(0, t34)] (some (0, true)) (mload none t36)).bind fun t37 =>
      (guarded [(0, t34)] (some (0, true)) (M.lift (Ax.bin .neq t37 (V.int .u32 0)))).bind fun t38 =>
      (M.lift (Ax.pick t34 t38 (V.bool false))).bind fun t39 =>
      (guarded [(0, t39)] (some (0, false)) (M.lift (Ax.faddr 12 t2))).bind fun t41 =>
      (guarded [(0, t39)] (some (0, false)) (mload none t41)).bind fun t42 =>
      (guarded [(0, t39)] (some (0, false)) (M.lift (Ax.cint .u64 t42))).bind fun t43 =>
      (guarded [(0, t39)] (some (0, false)) (M.lift (Ax.faddr 1 t7))).bind fun t44 =>
      (guarded [(0, t39)] (some (0, false)) (mload none t44)).bind fun t45 =>
      (guarded [(0, t39)] (some (0, false)) (M.lift (Ax.bin .shr t43 t45))).bind fun t46 =>
      (guarded [(0, t39)] (some (0, false)) (M.lift (Ax.bin .neq t46 (V.int .u64 0)))).bind fun t47 =>
      (M.lift (Ax.pick t39 (V.bool true) t47)).bind fun t48 =>
      M.ite t48
        (M.pure (.ret [(V.bool false)]))
        ((M.lift (Ax.faddr 13 t2)).bind fun t50 =>
        (mload none t50).bind fun t51 =>
        (guarded [(0, t51)] (some (0, true)) (M.lift (Ax.faddr 16 t2))).bind fun t53 =>
        (guarded [(0, t51)] (some (0, true)) (mload none t53)).bind fun t54 =>
        (guarded [(0, t51)] (some (0, true)) (M.lift (Ax.faddr 1 t7))).bind fun t55 =>
        (guarded [(0, t51)] (some (0, true)) (mload none t55)).bind fun t56 =>
        (guarded [(0, t51)] (some (0, true)) (G fn_depend_within [t54, t56, (V.int .i64 0), (V.int .i64 3)])).bind fun t57 =>
        (guarded [(0, t51)] (some (0, true)) (M.lift (Ax.un .not t57))).bind fun t58 =>
        (M.lift (Ax.pick t51 t58 (V.bool false))).bind fun t59 =>
        (guarded [(0, t59)] (some (0, false)) (M.lift (Ax.faddr 13 t2))).bind fun t61 =>
        (guarded [(0, t59)] (some (0, false)) (mload none t61)).bind fun t62 =>
        (guarded [(0, t59)] (some (0, false)) (M.lift (Ax.un .not t62))).bind fun t63 =>
        (guarded [(0, t59)] (some (0, false)) (M.pure t63)).bind fun t64 =>
        (guarded [(0, t64)] (some (0, true)) (M.lift (Ax.faddr 16 t2))).bind fun t65 =>
        (guarded [(0, t64)] (some (0, true)) (mload none t65)).bind fun t66 =>
        (guarded [(0, t64)] (some (0, true)) (M.lift (Ax.faddr 2 t5))).bind fun t67 =>
        (guarded [(0, t64)] (some (0, true)) (mload none t67)).bind fun t68 =>
        (guarded [(0, t64)] (some (0, true)) (G fn_slices_Equal_int_int [t66, t68])).bind fun t69 =>
        (guarded [(0, t64)] (some (0, true)) (M.lift (Ax.un .not t69))).bind fun t70 =>
        (guarded [(0, t59)] (some (0, false)) (M.lift (Ax.pick t64 t70 (V.bool false)))).bind fun t71 =>
        (M.lift (Ax.pick t59 (V.bool true) t71)).bind fun t72 =>
        M.ite t72
          (M.pure (.ret [(V.bool false)]))
          ((M.lift (Ax.faddr 14 t2)).bind fun t74 =>
          (mload none t74).bind fun t75 =>
          (guarded [(0, t75)] (some (0, true)) (M.lift (Ax.faddr 17 t2))).bind fun t77 =>
          (guarded [(0, t75)] (some (0, true)) (mload none t77)).bind fun t78 =>
          (guarded [(0, t75)] (some (0, true)) (G fn_depend_diffs [t78, (V.int .i64 16), (V.int .i64 4096)])).bind fun t79 =>
          (guarded [(0, t75)] (some (0, true)) (M.lift (Ax.un .not t79))).bind fun t80 =>
          (M.lift (Ax.pick t75 t80 (V.bool false))).bind fun t81 =>
          (guarded [(0, t81)] (some (0, false)) (M.lift (Ax.faddr 14 t2))).bind fun t83 =>
          (guarded [(0, t81)] (some (0, false)) (mload none t83)).bind fun t84 =>
          (guarded [(0, t81)] (some (0, false)) (M.lift (Ax.un .not t84))).bind fun t85 =>
          (guarded [(0, t81)] (some (0, false)) (M.pure t85)).bind fun t86 =>
          (guarded [(0, t86)] (some (0, true)) (M.lift (Ax.faddr 17 t2))).bind fun t87 =>
          (guarded [(0, t86)] (some (0, true)) (mload none t87)).bind fun t88 =>
          (guarded [(0, t86)] (some (0, true)) (M.lift (Ax.faddr 3 t5))).bind fun t89 =>
          (guarded [(0, t86)] (some (0, true)) (mload none t89)).bind fun t90 =>
          (guarded [(0, t86)] (some (0, true)) (G fn_slices_Equal_int_int [t88, t90])).bind fun t91 =>
          (guarded [(0, t86)] (some (0, true)) (M.lift (Ax.un .not t91))).bind fun t92 =>
          (guarded [(0, t81)] (some (0, false)) (M.lift (Ax.pick t86 t92 (V.bool false)))).bind fun t93 =>
          (M.lift (Ax.pick t81 (V.bool true) t93)).bind fun t94 =>
          M.ite t94
            (M.pure (.ret [(V.bool false)]))
            (M.pure (.nrm [])))))) fun _ =>
  (M.lift (Ax.faddr 15 t2)).bind fun t95 =>
  (mload none t95).bind fun t96 =>
  M.ite t96
    ((M.lift (Ax.faddr 18 t2)).bind fun t97 =>
    (mload none t97).bind fun t98 =>
    (M.lift (Ax.faddr 3 t7)).bind fun t99 =>
    (mload none t99).bind fun t100 =>
    (G fn_depend_within [t98, t100, (V.int .i64 0), (V.int .i64 255)]).bind fun t101 =>
    M.pure (.ret [t101]))
    ((M.lift (Ax.faddr 18 t2)).bind fun t102 =>
    (mload none t102).bind fun t103 =>
    (M.lift (Ax.faddr 4 t5)).bind fun t104 =>
    (mload none t104).bind fun t105 =>
    (G fn_slices_Equal_int_int [t103, t105]).bind fun t106 =>
    M.pure (.ret [t106]))

theorem eq_depend_Good (G : Sem') (t0 t1 : V) : execK G ir_depend_Good.rv ir_depend_Good.body [] [] (params 0 [t0, t1]) = f_depend_Good G t0 t1 := by kernel_rfl

def d_depend_Good (G : Sem') : List V → M V
  | [t0, t1] => fin (f_depend_Good G t0 t1)
  | _ => M.fail

theorem s_depend_Good {g : Sem'} (hg : Sims g (sem T)) (args : List V) : Sim (d_depend_Good g args) (sem T fn_depend_Good args) := by
  unfold d_depend_Good
  split
  · exact sim_fn tb_depend_Good (Nat.le_of_ble_eq_true rfl) hg (eq_depend_Good g _ _)
  · exact sim_fail

/-- (*palanquin/lane.Lane).turned. -/
def f_lane_Lane_turned (G : Sem') (t0 t1 t2 t3 t4 : V) : M Res :=
  (mbox ty_rtp_Packet t2).bind fun t7 =>
  (mbox ty_depend_Frame t3).bind fun t8 =>
  (M.lift (Ax.faddr 4 t8)).bind fun t15 =>
  (mload none t15).bind fun t16 =>
  (guarded [(0, t16)] (some (0, true)) (M.lift (Ax.faddr 0 t8))).bind fun t18 =>
  (guarded [(0, t16)] (some (0, true)) (mload none t18)).bind fun t19 =>
  (M.lift (Ax.pick t16 t19 (V.bool false))).bind fun t20 =>
  (M.lift (Ax.nilck t0)).bind fun t23 =>
  (M.lift (Ax.faddr 3 t23)).bind fun t24 =>
  (mload (some 3) t24).bind fun t25 =>
  (G fn_cast_On [t25, t1, t20]).bind fun t28 =>
  (M.lift (Ax.ext 0 t28)).bind fun t29 =>
  (M.lift (Ax.ext 1 t28)).bind fun t30 =>
  (M.lift (Ax.ext 2 t28)).bind fun t31 =>
  (mbox ty_cast_Cast (V.agg [(V.bool false), (V.int .i64 0), (V.int .i64 0)])).bind fun t12 =>
  (mstore 3 t12 t29).bind fun _ =>
  (mload (some 3) t12).bind fun t33 =>
  (M.lift (Ax.nilck t0)).bind fun t34 =>
  (M.lift (Ax.faddr 3 t34)).bind fun t35 =>
  (mstore 3 t35 t33).bind fun _ =>
  (guarded [(0, t30)] (some (0, true)) (M.pure t20)).bind fun t38 =>
  (M.lift (Ax.pick t30 t38 (V.bool false))).bind fun t39 =>
  M.join (M.ite t39
    ((G fn_lane_Lane_whole [t0]).bind fun t41 =>
    M.pure (.nrm []))
    (M.pure (.nrm []))) fun _ =>
  M.join (M.ite t31
    ((M.lift (Ax.nilck t0)).bind fun t45 =>
    (M.lift (Ax.faddr 6 t45)).bind fun t46 =>
    (mload (some 7) t46).bind fun t47 =>
    (M.lift (Ax.faddr 3 t7)).bind fun t48 =>
    (mload none t48).bind fun t49 =>
    (M.lift (Ax.faddr 3 t8)).bind fun t50 =>
    (mload none t50).bind fun t51 =>
    (G fn_turn_Begin [t47, t49, t51, t4]).bind fun t53 =>
    (M.lift (Ax.nilck t0)).bind fun t54 =>
    (M.lift (Ax.faddr 6 t54)).bind fun t55 =>
    (mstore 7 t55 t53).bind fun _ =>
    M.pure (.nrm []))
    (M.pure (.nrm []))) fun _ =>
  M.pure (.ret [t30])

theorem eq_lane_Lane_turned (G : Sem') (t0 t1 t2 t3 t4 : V) : execK G ir_lane_Lane_turned.rv ir_lane_Lane_turned.body [] [] (params 0 [t0, t1, t2, t3, t4]) = f_lane_Lane_turned G t0 t1 t2 t3 t4 := by kernel_rfl

def d_lane_Lane_turned (G : Sem') : List V → M V
  | [t0, t1, t2, t3, t4] => fin (f_lane_Lane_turned G t0 t1 t2 t3 t4)
  | _ => M.fail

theorem s_lane_Lane_turned {g : Sem'} (hg : Sims g (sem T)) (args : List V) : Sim (d_lane_Lane_turned g args) (sem T fn_lane_Lane_turned args) := by
  unfold d_lane_Lane_turned
  split
  · exact sim_fn tb_lane_Lane_turned (Nat.le_of_ble_eq_true rfl) hg (eq_lane_Lane_turned g _ _ _ _ _)
  · exact sim_fail

/-- (*palanquin/lane.Lane).why. -/
def f_lane_Lane_why (G : Sem') (t0 t1 t2 t3 : V) : M Res :=
  (mbox ty_depend_Frame t1).bind fun t5 =>
  (mbox ty_depend_Structure t2).bind fun t6 =>
  (M.lift (Ax.nilck t0)).bind fun t12 =>
  (M.lift (Ax.faddr 15 t12)).bind fun t13 =>
  (mload none t13).bind fun t14 =>
  M.ite t14
    (M.pure (.ret [(V.int .i64 2)]))
    ((mload (some 6) t6).bind fun t16 =>
    (M.lift (Ax.nilck t0)).bind fun t19 =>
    (M.lift (Ax.faddr 1 t19)).bind fun t20 =>
    (mload none t20).bind fun t21 =>
    (M.lift (Ax.nilck t0)).bind fun t23 =>
    (M.lift (Ax.faddr 2 t23)).bind fun t24 =>
    (mload none t24).bind fun t25 =>
    (G fn_pick_Fits [t16, t3, t21, t25]).bind fun t26 =>
    (M.lift (Ax.ext 0 t26)).bind fun t27 =>
    (M.lift (Ax.ext 1 t26)).bind fun t28 =>
    M.blk 0 (
      (M.lift (Ax.un .not t28)).bind fun t31 =>
      M.ite t31
        (M.pure (.ret [(V.int .i64 3)]))
        ((mload (some 19) t5).bind fun t33 =>
        (G fn_pick_In [t33, t27]).bind fun t35 =>
        (M.lift (Ax.un .not t35)).bind fun t36 =>
        M.ite t36
          (M.pure (.ret [(V.int .i64 4)]))
          ((M.lift (Ax.faddr 0 t5)).bind fun t38 =>
          (mload none t38).bind fun t39 =>
          (guarded [(0, t39)] (some (0, true)) (M.pure t0)).bind fun t41 =>
          (guarded [(0, t39)] (some (0, true)) (M.lift (Ax.nilck t41))).bind fun t42 =>
          (guarded [(0, t39)] (some (0, true)) (M.lift (Ax.faddr 13 t42))).bind fun t43 =>
          (guarded [(0, t39)] (some (0, true)) (mload none t43)).bind fun t44 =>
          (guarded [(0, t39)] (some (0, true)) (M.lift (Ax.faddr 3 t5))).bind fun t45 =>
          (guarded [(0, t39)] (some (0, true)) (mload none t45)).bind fun t46 =>
          (guarded [(0, t39)] (some (0, true)) (M.lift (Ax.faddr 17 t5))).bind fun t47 =>
          (guarded [(0, t39)] (some (0, true)) (mload none t47)).bind fun t48 =>
          (guarded [(0, t39)] (some (0, true)) (G fn_refs_Fit [t44, t46, t48])).bind fun t49 =>
          (guarded [(0, t39)] (some (0, true)) (M.lift (Ax.un .not t49))).bind fun t50 =>
          (M.lift (Ax.pick t39 t50 (V.bool false))).bind fun t51 =>
          M.ite t51
            ((M.lift (Ax.nilck t0)).bind fun t53 =>
            (M.lift (Ax.faddr 15 t53)).bind fun t54 =>
            (mstore 1 t54 (V.bool true)).bind fun _ =>
            M.pure (.ret [(V.int .i64 5)]))
            ((M.lift (Ax.faddr 0 t5)).bind fun t56 =>
            (mload none t56).bind fun t57 =>
            (M.lift (Ax.un .not t57)).bind fun t58 =>
            (guarded [(0, t58)] (some (0, true)) (M.pure t0)).bind fun t60 =>
            (guarded [(0, t58)] (some (0, true)) (M.lift (Ax.nilck t60))).bind fun t61 =>
            (guarded [(0, t58)] (some (0, true)) (M.lift (Ax.faddr 13 t61))).bind fun t62 =>
            (guarded [(0, t58)] (some (0, true)) (mload none t62)).bind fun t63 =>
            (guarded [(0, t58)] (some (0, true)) (M.lift (Ax.faddr 3 t5))).bind fun t64 =>
            (guarded [(0, t58)] (some (0, true)) (mload none t64)).bind fun t65 =>
            (guarded [(0, t58)] (some (0, true)) (G fn_refs_Has [t63, t65])).bind fun t66 =>
            (guarded [(0, t58)] (some (0, true)) (M.lift (Ax.un .not t66))).bind fun t67 =>
            (M.lift (Ax.pick t58 t67 (V.bool false))).bind fun t68 =>
            M.ite t68
              (M.pure (.ret [(V.int .i64 6)]))
              (M.pure (.nrm [])))))) fun _ =>
    M.pure (.ret [(V.int .i64 0)]))

theorem eq_lane_Lane_why (G : Sem') (t0 t1 t2 t3 : V) : execK G ir_lane_Lane_why.rv ir_lane_Lane_why.body [] [] (params 0 [t0, t1, t2, t3]) = f_lane_Lane_why G t0 t1 t2 t3 := by kernel_rfl

def d_lane_Lane_why (G : Sem') : List V → M V
  | [t0, t1, t2, t3] => fin (f_lane_Lane_why G t0 t1 t2 t3)
  | _ => M.fail

theorem s_lane_Lane_why {g : Sem'} (hg : Sims g (sem T)) (args : List V) : Sim (d_lane_Lane_why g args) (sem T fn_lane_Lane_why args) := by
  unfold d_lane_Lane_why
  split
  · exact sim_fn tb_lane_Lane_why (Nat.le_of_ble_eq_true rfl) hg (eq_lane_Lane_why g _ _ _ _)
  · exact sim_fail

/-- palanquin/refs.Add. -/
def f_refs_Add_0 (G : Sem') (t5 t4 : V) (L : List V) : M Res :=
  (M.lift (Ax.bin .geq (L.getD 1 .undef) (V.int .i64 0))).bind fun t17 =>
  (guarded [(0, t17)] (some (0, true)) (M.pure (L.getD 0 .undef))).bind fun t19 =>
  (guarded [(0, t17)] (some (0, true)) (M.lift (vlen t19))).bind fun t20 =>
  (guarded [(0, t17)] (some (0, true)) (M.lift (Ax.bin .lss t20 (V.int .i64 256)))).bind fun t21 =>
  (M.lift (Ax.pick t17 t21 (V.bool false))).bind fun t22 =>
  M.ite t22
    (M.blk 1 (
      (M.lift (Ax.iaddr none 1 t5 (L.getD 1 .undef))).bind fun t28 =>
      (mload none t28).bind fun t29 =>
      (G fn_slices_Contains_uint16_uint16 [(L.getD 0 .undef), t29]).bind fun t30 =>
      (M.lift (Ax.un .not t30)).bind fun t31 =>
      M.join (M.ite t31
        ((M.lift (Ax.iaddr none 1 t5 (L.getD 1 .undef))).bind fun t35 =>
        (mload none t35).bind fun t36 =>
        (mslit ty_uint16 1 [(V.int .u16 0)] [(0, 1, t36)]).bind fun t37 =>
        (mappend ty_uint16 1 2 (L.getD 0 .undef) t37).bind fun t38 =>
        M.pure (.nrm [t38]))
        (M.pure (.nrm [(L.getD 0 .undef)]))) fun L0 =>
      M.pure (.nrm [(L0.getD 0 .undef)])) fun L1 =>
    (M.lift (Ax.bin .sub (L.getD 1 .undef) (V.int .i64 1))).bind fun t24 =>
    M.pure (.nrm [(L1.getD 0 .undef), t24]))
    (M.pure (.ex 0 [(L.getD 0 .undef)]))

def f_refs_Add (G : Sem') (t0 t1 : V) : M Res :=
  (G fn_slices_Clone_uint16_uint16 [t0]).bind fun t9 =>
  (mslit ty_uint16 1 [(V.int .u16 0)] [(0, 1, t1)]).bind fun t11 =>
  (mappend ty_uint16 1 2 t9 t11).bind fun t12 =>
  (M.lift (vlen t12)).bind fun t14 =>
  (M.lift (Ax.bin .sub t14 (V.int .i64 1))).bind fun t15 =>
  M.blk 0 (
    M.iter (f_refs_Add_0 G t12 V.nils) [V.nils, t15]) fun L2 =>
  (G fn_slices_Reverse_uint16_uint16 [(L2.getD 0 .undef)]).bind fun t40 =>
  M.pure (.ret [(L2.getD 0 .undef)])

theorem eq_refs_Add (G : Sem') (t0 t1 : V) : execK G ir_refs_Add.rv ir_refs_Add.body [] [] (params 0 [t0, t1]) = f_refs_Add G t0 t1 := by kernel_rfl

def d_refs_Add (G : Sem') : List V → M V
  | [t0, t1] => fin (f_refs_Add G t0 t1)
  | _ => M.fail

theorem s_refs_Add {g : Sem'} (hg : Sims g (sem T)) (args : List V) : Sim (d_refs_Add g args) (sem T fn_refs_Add args) := by
  unfold d_refs_Add
  split
  · exact sim_fn tb_refs_Add (Nat.le_of_ble_eq_true rfl) hg (eq_refs_Add g _ _)
  · exact sim_fail

/-- palanquin/turn.Out. -/
def f_turn_Out (G : Sem') (t0 t1 t2 t3 : V) : M Res :=
  (mbox ty_turn_Turn t0).bind fun t4 =>
  (mbox ty_turn_Turn (V.agg [(V.bool false), (V.int .u16 0), (V.int .u32 0), (V.int .u32 0), (V.int .u16 0), (V.int .u16 0), (V.int .i64 0)])).bind fun t8 =>
  (M.lift (Ax.faddr 0 t4)).bind fun t14 =>
  (mload none t14).bind fun t15 =>
  M.join (M.ite t15
    ((M.lift (Ax.faddr 1 t4)).bind fun t16 =>
    (mload none t16).bind fun t17 =>
    (M.lift (Ax.bin .add t17 (V.int .u16 1))).bind fun t18 =>
    M.pure (.nrm [t18]))
    (M.pure (.nrm [(V.int .u16 0)]))) fun L0 =>
  (M.lift (Ax.faddr 3 t4)).bind fun t20 =>
  (mload none t20).bind fun t21 =>
  (M.lift (Ax.bin .add t1 t21)).bind fun t22 =>
  (M.lift (Ax.faddr 5 t4)).bind fun t24 =>
  (mload none t24).bind fun t25 =>
  (M.lift (Ax.bin .add t2 t25)).bind fun t26 =>
  (M.lift (Ax.faddr 2 t4)).bind fun t28 =>
  (mload none t28).bind fun t29 =>
  (M.lift (Ax.bin .sub t22 t29)).bind fun t30 =>
  (M.lift (Ax.faddr 0 t4)).bind fun t31 =>
  (mload none t31).bind fun t32 =>
  (M.lift (Ax.un .not t32)).bind fun t33 =>
  (guarded [(0, t33)] (some (0, false)) (M.pure t30)).bind fun t35 =>
  (guarded [(0, t33)] (some (0, false)) (M.lift (Ax.bin .geq t35 (V.int .u32 1)))).bind fun t36 =>
  (guarded [(0, t33)] (some (0, false)) (M.pure t36)).bind fun t37 =>
  (guarded [(0, t37)] (some (0, true)) (M.pure t30)).bind fun t38 =>
  (guarded [(0, t37)] (some (0, true)) (M.lift (Ax.bin .lss t38 (V.int .u32 2147483648)))).bind fun t39 =>
  (guarded [(0, t33)] (some (0, false)) (M.lift (Ax.pick t37 t39 (V.bool false)))).bind fun t40 =>
  (M.lift (Ax.pick t33 (V.bool true) t40)).bind fun t41 =>
  M.join (M.ite t41
    ((M.lift (Ax.faddr 2 t4)).bind fun t43 =>
    (mstore 1 t43 t22).bind fun _ =>
    M.pure (.nrm []))
    (M.pure (.nrm []))) fun _ =>
  (M.lift (Ax.faddr 4 t4)).bind fun t45 =>
  (mload none t45).bind fun t46 =>
  (M.lift (Ax.bin .sub t26 t46)).bind fun t47 =>
  (M.lift (Ax.faddr 0 t4)).bind fun t48 =>
  (mload none t48).bind fun t49 =>
  (M.lift (Ax.un .not t49)).bind fun t50 =>
  (guarded [(0, t50)] (some (0, false)) (M.pure t47)).bind fun t52 =>
  (guarded [(0, t50)] (some (0, false)) (M.lift (Ax.bin .geq t52 (V.int .u16 1)))).bind fun t53 =>
  (guarded [(0, t50)] (some (0, false)) (M.pure t53)).bind fun t54 =>
  (guarded [(0, t54)] (some (0, true)) (M.pure t47)).bind fun t55 =>
  (guarded [(0, t54)] (some (0, true)) (M.lift (Ax.bin .lss t55 (V.int .u16 32768)))).bind fun t56 =>
  (guarded [(0, t50)] (some (0, false)) (M.lift (Ax.pick t54 t56 (V.bool false)))).bind fun t57 =>
  (M.lift (Ax.pick t50 (V.bool true) t57)).bind fun t58 =>
  M.join (M.ite t58
    ((M.lift (Ax.faddr 4 t4)).bind fun t60 =>
    (mstore 1 t60 t26).bind fun _ =>
    M.pure (.nrm []))
    (M.pure (.nrm []))) fun _ =>
  (M.lift (Ax.faddr 0 t4)).bind fun t63 =>
  (mstore 1 t63 (V.bool true)).bind fun _ =>
  (M.lift (Ax.faddr 1 t4)).bind fun t64 =>
  (mstore 1 t64 (L0.getD 0 .undef)).bind fun _ =>
  (M.lift (Ax.faddr 6 t4)).bind fun t65 =>
  (mstore 1 t65 t3).bind fun _ =>
  (mload (some 7) t4).bind fun t66 =>
  (mstore 7 t8 t66).bind fun _ =>
  (mload (some 7) t8).bind fun r0 =>
  M.pure (.ret [r0, (L0.getD 0 .undef), t22, t26])

theorem eq_turn_Out (G : Sem') (t0 t1 t2 t3 : V) : execK G ir_turn_Out.rv ir_turn_Out.body [] [] (params 0 [t0, t1, t2, t3]) = f_turn_Out G t0 t1 t2 t3 := by kernel_rfl

def d_turn_Out (G : Sem') : List V → M V
  | [t0, t1, t2, t3] => fin (f_turn_Out G t0 t1 t2 t3)
  | _ => M.fail

theorem s_turn_Out {g : Sem'} (hg : Sims g (sem T)) (args : List V) : Sim (d_turn_Out g args) (sem T fn_turn_Out args) := by
  unfold d_turn_Out
  split
  · exact sim_fn tb_turn_Out (Nat.le_of_ble_eq_true rfl) hg (eq_turn_Out g _ _ _ _)
  · exact sim_fail

/-- palanquin/rtp.Set. -/
def f_rtp_Set (G : Sem') (t0 t1 t2 : V) : M Res :=
  (mbox ty_rtp_Packet t0).bind fun t3 =>
  (mbox ty_rtp_Packet (V.agg [(V.bool false), (V.int .i64 0), (V.int .u16 0), (V.int .u32 0), (V.int .u32 0), V.nils, (V.int .i64 0), V.nils, (V.int .i64 0), V.nils])).bind fun t6 =>
  (mload (some 10) t3).bind fun t9 =>
  (G fn_rtp_copied [t9]).bind fun t10 =>
  (mstore 10 t3 t10).bind fun _ =>
  (mload (some 10) t3).bind fun t11 =>
  (G fn_rtp_at [t11, t1]).bind fun t13 =>
  (M.lift (Ax.bin .lss t13 (V.int .i64 0))).bind fun t15 =>
  M.ite t15
    ((mload (some 10) t3).bind fun t16 =>
    (mstore 10 t6 t16).bind fun _ =>
    (mload (some 10) t6).bind fun r0 =>
    M.pure (.ret [r0, (V.bool false)]))
    ((M.lift (Ax.faddr 7 t3)).bind fun t17 =>
    (mload none t17).bind fun t18 =>
    M.getH.bind fun h0 =>
    (G fn_bytes_Clone [t2]).bind fun t21 =>
    M.getH.bind fun h0' =>
    (M.unch t17 h0 h0').bind fun _ =>
    (M.lift (Ax.iaddr none 2 t18 t13)).bind fun t22 =>
    (M.lift (Ax.faddr 1 t22)).bind fun t23 =>
    (mstore 1 t23 t21).bind fun _ =>
    (mload (some 10) t3).bind fun t24 =>
    (mstore 10 t6 t24).bind fun _ =>
    (mload (some 10) t6).bind fun r0 =>
    M.pure (.ret [r0, (V.bool true)]))

theorem eq_rtp_Set (G : Sem') (t0 t1 t2 : V) : execK G ir_rtp_Set.rv ir_rtp_Set.body [] [] (params 0 [t0, t1, t2]) = f_rtp_Set G t0 t1 t2 := by kernel_rfl

def d_rtp_Set (G : Sem') : List V → M V
  | [t0, t1, t2] => fin (f_rtp_Set G t0 t1 t2)
  | _ => M.fail

theorem s_rtp_Set {g : Sem'} (hg : Sims g (sem T)) (args : List V) : Sim (d_rtp_Set g args) (sem T fn_rtp_Set args) := by
  unfold d_rtp_Set
  split
  · exact sim_fn tb_rtp_Set (Nat.le_of_ble_eq_true rfl) hg (eq_rtp_Set g _ _ _)
  · exact sim_fail

/-- palanquin/depend.Number. -/
def f_depend_Number (G : Sem') (t0 t1 : V) : M Res :=
  (G fn_bytes_Clone [t0]).bind fun t7 =>
  (M.lift (vlen t7)).bind fun t9 =>
  (M.lift (Ax.bin .geq t9 (V.int .i64 3))).bind fun t10 =>
  M.join (M.ite t10
    ((M.lift (Ax.bin .shr t1 (V.int .u64 8))).bind fun t14 =>
    (M.lift (Ax.cint .u8 t14)).bind fun t15 =>
    (M.lift (Ax.cint .u8 t1)).bind fun t17 =>
    (M.lift (Ax.iaddr none 1 t7 (V.int .i64 1))).bind fun t18 =>
    (mstore 1 t18 t15).bind fun _ =>
    (M.lift (Ax.iaddr none 1 t7 (V.int .i64 2))).bind fun t19 =>
    (mstore 1 t19 t17).bind fun _ =>
    M.pure (.nrm []))
    (M.pure (.nrm []))) fun _ =>
  M.pure (.ret [t7])

theorem eq_depend_Number (G : Sem') (t0 t1 : V) : execK G ir_depend_Number.rv ir_depend_Number.body [] [] (params 0 [t0, t1]) = f_depend_Number G t0 t1 := by kernel_rfl

def d_depend_Number (G : Sem') : List V → M V
  | [t0, t1] => fin (f_depend_Number G t0 t1)
  | _ => M.fail

theorem s_depend_Number {g : Sem'} (hg : Sims g (sem T)) (args : List V) : Sim (d_depend_Number g args) (sem T fn_depend_Number args) := by
  unfold d_depend_Number
  split
  · exact sim_fn tb_depend_Number (Nat.le_of_ble_eq_true rfl) hg (eq_depend_Number g _ _)
  · exact sim_fail

/-- (*palanquin/ring.Ring).Add. -/
def f_ring_Ring_Add (G : Sem') (t0 t1 t2 : V) : M Res :=
  (G fn_ring_Ring_at [t0, t1]).bind fun t9 =>
  (M.lift (Ax.bin .geq t9 (V.int .i64 0))).bind fun t11 =>
  M.join (M.ite t11
    ((M.lift (Ax.nilck t0)).bind fun t14 =>
    (M.lift (Ax.faddr 0 t14)).bind fun t15 =>
    (mload none t15).bind fun t16 =>
    (M.lift (Ax.bin .add t9 (V.int .i64 1))).bind fun t19 =>
    (G fn_slices_Delete_ring_entry_ring_entry [t16, t9, t19]).bind fun t20 =>
    (M.lift (Ax.nilck t0)).bind fun t21 =>
    (M.lift (Ax.faddr 0 t21)).bind fun t22 =>
    (mstore 1 t22 t20).bind fun _ =>
    M.pure (.nrm []))
    (M.pure (.nrm []))) fun _ =>
  (M.lift (Ax.nilck t0)).bind fun t25 =>
  (M.lift (Ax.faddr 0 t25)).bind fun t26 =>
  (mload none t26).bind fun t27 =>
  M.getH.bind fun h0 =>
  (G fn_bytes_Clone [t2]).bind fun t30 =>
  M.getH.bind fun h0' =>
  (M.unch t26 h0 h0').bind fun _ =>
  (M.lift (Ax.build [(V.int .u16 0), V.nils] [(0, 1, t1), (1, 1, t30)])).bind fun t31 =>
  (mslit ty_ring_entry 1 [(V.int .u16 0), V.nils] [(0, 2, t31)]).bind fun t32 =>
  (mappend ty_ring_entry 2 32 t27 t32).bind fun t33 =>
  (M.lift (Ax.nilck t0)).bind fun t34 =>
  (M.lift (Ax.faddr 0 t34)).bind fun t35 =>
  (mstore 1 t35 t33).bind fun _ =>
  (M.lift (Ax.nilck t0)).bind fun t37 =>
  (M.lift (Ax.faddr 0 t37)).bind fun t38 =>
  (mload none t38).bind fun t39 =>
  (M.lift (vlen t39)).bind fun t40 =>
  (M.lift (Ax.bin .gtr t40 (V.int .i64 64))).bind fun t41 =>
  M.join (M.ite t41
    ((M.lift (Ax.nilck t0)).bind fun t44 =>
    (M.lift (Ax.faddr 0 t44)).bind fun t45 =>
    (mload none t45).bind fun t46 =>
    (G fn_slices_Delete_ring_entry_ring_entry [t46, (V.int .i64 0), (V.int .i64 1)]).bind fun t47 =>
    (M.lift (Ax.nilck t0)).bind fun t48 =>
    (M.lift (Ax.faddr 0 t48)).bind fun t49 =>
    (mstore 1 t49 t47).bind fun _ =>
    M.pure (.nrm []))
    (M.pure (.nrm []))) fun _ =>
  M.pure (.ret [])

theorem eq_ring_Ring_Add (G : Sem') (t0 t1 t2 : V) : execK G ir_ring_Ring_Add.rv ir_ring_Ring_Add.body [] [] (params 0 [t0, t1, t2]) = f_ring_Ring_Add G t0 t1 t2 := by kernel_rfl

def d_ring_Ring_Add (G : Sem') : List V → M V
  | [t0, t1, t2] => fin (f_ring_Ring_Add G t0 t1 t2)
  | _ => M.fail

theorem s_ring_Ring_Add {g : Sem'} (hg : Sims g (sem T)) (args : List V) : Sim (d_ring_Ring_Add g args) (sem T fn_ring_Ring_Add args) := by
  unfold d_ring_Ring_Add
  split
  · exact sim_fn tb_ring_Ring_Add (Nat.le_of_ble_eq_true rfl) hg (eq_ring_Ring_Add g _ _ _)
  · exact sim_fail

/-- palanquin/rtp.get. -/
def f_rtp_get_0 (G : Sem') (t7 t6 t2 : V) (L : List V) : M Res :=
  (M.lift (Ax.bin .lss (L.getD 1 .undef) t7)).bind fun t9 =>
  M.ite t9
    (M.blk 1 (
      (M.lift (Ax.iaddr none 1 t6 (L.getD 1 .undef))).bind fun t10 =>
      (mload none t10).bind fun t11 =>
      (M.lift (Ax.bin .shl (L.getD 0 .undef) (V.int .u64 8))).bind fun t13 =>
      (M.lift (Ax.cint .u32 t11)).bind fun t15 =>
      (M.lift (Ax.bin .or t13 t15)).bind fun t16 =>
      M.pure (.nrm [t16])) fun L0 =>
    (M.lift (Ax.bin .add (L.getD 1 .undef) (V.int .i64 1))).bind fun t17 =>
    M.pure (.nrm [(L0.getD 0 .undef), t17]))
    (M.pure (.ex 0 [(L.getD 0 .undef)]))

def f_rtp_get (G : Sem') (t0 : V) : M Res :=
  (M.lift (vlen t0)).bind fun t7 =>
  M.blk 0 (
    M.iter (f_rtp_get_0 G t7 t0 (V.int .u32 0)) [(V.int .u32 0), (V.int .i64 0)]) fun L1 =>
  M.pure (.ret [(L1.getD 0 .undef)])

theorem eq_rtp_get (G : Sem') (t0 : V) : execK G ir_rtp_get.rv ir_rtp_get.body [] [] (params 0 [t0]) = f_rtp_get G t0 := by kernel_rfl

def d_rtp_get (G : Sem') : List V → M V
  | [t0] => fin (f_rtp_get G t0)
  | _ => M.fail

theorem s_rtp_get {g : Sem'} (hg : Sims g (sem T)) (args : List V) : Sim (d_rtp_get g args) (sem T fn_rtp_get args) := by
  unfold d_rtp_get
  split
  · exact sim_fn tb_rtp_get (Nat.le_of_ble_eq_true rfl) hg (eq_rtp_get g _)
  · exact sim_fail

/-- palanquin/rtp.extension. -/
def f_rtp_extension (G : Sem') (t0 t1 : V) : M Res :=
  (M.lift (vlen t1)).bind fun t10 =>
  (M.lift (Ax.bin .lss t10 (V.int .i64 4))).bind fun t11 =>
  M.ite t11
    (M.pure (.ret [(V.int .i64 0), (V.int .i64 3)]))
    ((M.lift (vslice .sl 1 t1 (some (V.int .i64 2)) (some (V.int .i64 4)) none)).bind fun t13 =>
    (G fn_rtp_get [t13]).bind fun t14 =>
    (M.lift (Ax.cint .i64 t14)).bind fun t15 =>
    (M.lift (Ax.bin .mul (V.int .i64 4) t15)).bind fun t16 =>
    (M.lift (Ax.bin .add (V.int .i64 4) t16)).bind fun t17 =>
    (M.lift (vlen t1)).bind fun t19 =>
    (M.lift (Ax.bin .lss t19 t17)).bind fun t21 =>
    M.ite t21
      (M.pure (.ret [(V.int .i64 0), (V.int .i64 3)]))
      ((M.lift (vslice .sl 1 t1 none (some (V.int .i64 2)) none)).bind fun t24 =>
      (G fn_rtp_get [t24]).bind fun t25 =>
      (M.lift (Ax.cint .i64 t25)).bind fun t26 =>
      (M.lift (Ax.nilck t0)).bind fun t27 =>
      (M.lift (Ax.faddr 6 t27)).bind fun t28 =>
      (mstore 1 t28 t26).bind fun _ =>
      (M.lift (Ax.nilck t0)).bind fun t30 =>
      (M.lift (Ax.faddr 6 t30)).bind fun t31 =>
      (mload none t31).bind fun t32 =>
      (M.lift (Ax.bin .neq t32 (V.int .i64 48862))).bind fun t33 =>
      (guarded [(0, t33)] (some (0, true)) (M.pure t0)).bind fun t35 =>
      (guarded [(0, t33)] (some (0, true)) (M.lift (Ax.nilck t35))).bind fun t36 =>
      (guarded [(0, t33)] (some (0, true)) (M.lift (Ax.faddr 6 t36))).bind fun t37 =>
      (guarded [(0, t33)] (some (0, true)) (mload none t37)).bind fun t38 =>
      (guarded [(0, t33)] (some (0, true)) (M.lift (Ax.bin .neq t38 (V.int .i64 4096)))).bind fun t39 =>
      (M.lift (Ax.pick t33 t39 (V.bool false))).bind fun t40 =>
      M.ite t40
        (M.pure (.ret [(V.int .i64 0), (V.int .i64 2)]))
        ((M.lift (Ax.nilck t0)).bind fun t43 =>
        (M.lift (Ax.faddr 6 t43)).bind fun t44 =>
        (mload none t44).bind fun t45 =>
        (M.lift (vslice .sl 1 t1 (some (V.int .i64 4)) (some t17) none)).bind fun t48 =>
        (G fn_rtp_exts [t45, t48]).bind fun t49 =>
        (M.lift (Ax.ext 0 t49)).bind fun t50 =>
        (M.lift (Ax.ext 1 t49)).bind fun t51 =>
        (M.lift (Ax.un .not t51)).bind fun t53 =>
        M.ite t53
          (M.pure (.ret [(V.int .i64 0), (V.int .i64 2)]))
          ((M.lift (Ax.nilck t0)).bind fun t56 =>
          (M.lift (Ax.faddr 7 t56)).bind fun t57 =>
          (mstore 1 t57 t50).bind fun _ =>
          M.pure (.ret [t17, (V.int .i64 0)])))))

theorem eq_rtp_extension (G : Sem') (t0 t1 : V) : execK G ir_rtp_extension.rv ir_rtp_extension.body [] [] (params 0 [t0, t1]) = f_rtp_extension G t0 t1 := by kernel_rfl

def d_rtp_extension (G : Sem') : List V → M V
  | [t0, t1] => fin (f_rtp_extension G t0 t1)
  | _ => M.fail

theorem s_rtp_extension {g : Sem'} (hg : Sims g (sem T)) (args : List V) : Sim (d_rtp_extension g args) (sem T fn_rtp_extension args) := by
  unfold d_rtp_extension
  split
  · exact sim_fn tb_rtp_extension (Nat.le_of_ble_eq_true rfl) hg (eq_rtp_extension g _ _)
  · exact sim_fail

/-- bytes.Clone. -/
def f_bytes_Clone (G : Sem') (t0 : V) : M Res :=
  (M.lift (eqr .sl false t0 V.nils)).bind fun t4 =>
  M.ite t4
    (M.pure (.ret [V.nils]))
    ((mslit ty_uint8 0 [(V.int .u8 0)] []).bind fun t5 =>
    (mappend ty_uint8 1 1 t5 t0).bind fun t7 =>
    M.pure (.ret [t7]))

theorem eq_bytes_Clone (G : Sem') (t0 : V) : execK G ir_bytes_Clone.rv ir_bytes_Clone.body [] [] (params 0 [t0]) = f_bytes_Clone G t0 := by kernel_rfl

def d_bytes_Clone (G : Sem') : List V → M V
  | [t0] => fin (f_bytes_Clone G t0)
  | _ => M.fail

theorem s_bytes_Clone {g : Sem'} (hg : Sims g (sem T)) (args : List V) : Sim (d_bytes_Clone g args) (sem T fn_bytes_Clone args) := by
  unfold d_bytes_Clone
  split
  · exact sim_fn tb_bytes_Clone (Nat.le_of_ble_eq_true rfl) hg (eq_bytes_Clone g _)
  · exact sim_fail

/-- palanquin/cast.Good. -/
def f_cast_Good (G : Sem') (t0 : V) : M Res :=
  (mbox ty_cast_Cast t0).bind fun t1 =>
  (M.lift (Ax.faddr 1 t1)).bind fun t3 =>
  (mload none t3).bind fun t4 =>
  (G fn_cast_source [t4]).bind fun t5 =>
  (guarded [(0, t5)] (some (0, true)) (M.lift (Ax.faddr 2 t1))).bind fun t7 =>
  (guarded [(0, t5)] (some (0, true)) (mload none t7)).bind fun t8 =>
  (guarded [(0, t5)] (some (0, true)) (G fn_cast_source [t8])).bind fun t9 =>
  (M.lift (Ax.pick t5 t9 (V.bool false))).bind fun t10 =>
  (guarded [(0, t10)] (some (0, true)) (M.lift (Ax.faddr 0 t1))).bind fun t12 =>
  (guarded [(0, t10)] (some (0, true)) (mload none t12)).bind fun t13 =>
  (guarded [(0, t10)] (some (0, true)) (M.pure t13)).bind fun t14 =>
  (guarded [(0, t14)] (some (0, false)) (M.lift (Ax.faddr 1 t1))).bind fun t15 =>
  (guarded [(0, t14)] (some (0, false)) (mload none t15)).bind fun t16 =>
  (guarded [(0, t14)] (some (0, false)) (M.lift (Ax.bin .eql t16 (V.int .i64 0)))).bind fun t17 =>
  (guarded [(0, t10)] (some (0, true)) (M.lift (Ax.pick t14 (V.bool true) t17))).bind fun t18 =>
  (M.lift (Ax.pick t10 t18 (V.bool false))).bind fun t19 =>
  M.pure (.ret [t19])

theorem eq_cast_Good (G : Sem') (t0 : V) : execK G ir_cast_Good.rv ir_cast_Good.body [] [] (params 0 [t0]) = f_cast_Good G t0 := by kernel_rfl

def d_cast_Good (G : Sem') : List V → M V
  | [t0] => fin (f_cast_Good G t0)
  | _ => M.fail

theorem s_cast_Good {g : Sem'} (hg : Sims g (sem T)) (args : List V) : Sim (d_cast_Good g args) (sem T fn_cast_Good args) := by
  unfold d_cast_Good
  split
  · exact sim_fn tb_cast_Good (Nat.le_of_ble_eq_true rfl) hg (eq_cast_Good g _)
  · exact sim_fail

/-- palanquin/cast.source. -/
def f_cast_source (G : Sem') (t0 : V) : M Res :=
  (M.lift (Ax.bin .geq t0 (V.int .i64 0))).bind fun t4 =>
  (guarded [(0, t4)] (some (0, true)) (M.pure t0)).bind fun t6 =>
  (guarded [(0, t4)] (some (0, true)) (M.lift (Ax.bin .lss t6 (V.int .i64 3)))).bind fun t7 =>
  (M.lift (Ax.pick t4 t7 (V.bool false))).bind fun t8 =>
  M.pure (.ret [t8])

theorem eq_cast_source (G : Sem') (t0 : V) : execK G ir_cast_source.rv ir_cast_source.body [] [] (params 0 [t0]) = f_cast_source G t0 := by kernel_rfl

def d_cast_source (G : Sem') : List V → M V
  | [t0] => fin (f_cast_source G t0)
  | _ => M.fail

theorem s_cast_source {g : Sem'} (hg : Sims g (sem T)) (args : List V) : Sim (d_cast_source g args) (sem T fn_cast_source args) := by
  unfold d_cast_source
  split
  · exact sim_fn tb_cast_source (Nat.le_of_ble_eq_true rfl) hg (eq_cast_source g _)
  · exact sim_fail

/-- (palanquin/cast.Cast).runs. -/
def f_cast_Cast_runs (G : Sem') (t0 t1 : V) : M Res :=
  (mbox ty_cast_Cast t0).bind fun t2 =>
  (M.lift (Ax.faddr 0 t2)).bind fun t5 =>
  (mload none t5).bind fun t6 =>
  (guarded [(0, t6)] (some (0, true)) (M.lift (Ax.faddr 1 t2))).bind fun t8 =>
  (guarded [(0, t6)] (some (0, true)) (mload none t8)).bind fun t9 =>
  (guarded [(0, t6)] (some (0, true)) (M.pure t1)).bind fun t10 =>
  (guarded [(0, t6)] (some (0, true)) (M.lift (Ax.bin .eql t9 t10))).bind fun t11 =>
  (M.lift (Ax.pick t6 t11 (V.bool false))).bind fun t12 =>
  M.pure (.ret [t12])

theorem eq_cast_Cast_runs (G : Sem') (t0 t1 : V) : execK G ir_cast_Cast_runs.rv ir_cast_Cast_runs.body [] [] (params 0 [t0, t1]) = f_cast_Cast_runs G t0 t1 := by kernel_rfl

def d_cast_Cast_runs (G : Sem') : List V → M V
  | [t0, t1] => fin (f_cast_Cast_runs G t0 t1)
  | _ => M.fail

theorem s_cast_Cast_runs {g : Sem'} (hg : Sims g (sem T)) (args : List V) : Sim (d_cast_Cast_runs g args) (sem T fn_cast_Cast_runs args) := by
  unfold d_cast_Cast_runs
  split
  · exact sim_fn tb_cast_Cast_runs (Nat.le_of_ble_eq_true rfl) hg (eq_cast_Cast_runs g _ _)
  · exact sim_fail

/-- palanquin/palanquinref9.Good. -/
def f_palanquinref9_Good (G : Sem') (t0 t1 : V) : M Res :=
  (mbox ty_palanquinref9_Frame t0).bind fun t2 =>
  (mbox ty_palanquinref9_Structure t1).bind fun t3 =>
  (mload (some 19) t2).bind fun t9 =>
  (mload (some 6) t3).bind fun t10 =>
  (G fn_palanquinref9_Of [t9, t10]).bind fun t11 =>
  (M.lift (Ax.ext 0 t11)).bind fun t12 =>
  (M.lift (Ax.ext 1 t11)).bind fun t13 =>
  (mbox ty_palanquinref9_Template (V.agg [(V.int .i64 0), (V.int .i64 0), V.nils, V.nils, V.nils])).bind fun t5 =>
  (mstore 5 t5 t12).bind fun _ =>
  (M.lift (Ax.un .not t13)).bind fun t15 =>
  (guarded [(0, t15)] (some (0, false)) (M.lift (Ax.faddr 4 t2))).bind fun t17 =>
  (guarded [(0, t15)] (some (0, false)) (mload none t17)).bind fun t18 =>
  (guarded [(0, t15)] (some (0, false)) (M.lift (Ax.un .not t18))).bind fun t19 =>
  (guarded [(0, t15)] (some (0, false)) (M.pure t19)).bind fun t20 =>
  (guarded [(0, t20)] (some (0, true)) (M.lift (Ax.faddr 5 t2))).bind fun t21 =>
  (guarded [(0, t20)] (some (0, true)) (mload (some 6) t21)).bind fun t22 =>
  (guarded [(0, t20)] (some (0, true)) (G fn_palanquinref9_zero [t22])).bind fun t23 =>
  (guarded [(0, t20)] (some (0, true)) (M.lift (Ax.un .not t23))).bind fun t24 =>
  (guarded [(0, t15)] (some (0, false)) (M.lift (Ax.pick t20 t24 (V.bool false)))).bind fun t25 =>
  (M.lift (Ax.pick t15 (V.bool true) t25)).bind fun t26 =>
  M.ite t26
    (M.pure (.ret [(V.bool false)]))
    ((mload (some 19) t2).bind fun t27 =>
    (mload (some 6) t3).bind fun t28 =>
    (G fn_palanquinref9_holds [t27, t28]).bind fun t29 =>
    (mbox ty_palanquinref9_Structure (V.agg [(V.int .i64 0), (V.int .i64 0), V.nils, (V.int .i64 0), V.nils, V.nils])).bind fun t7 =>
    (mstore 6 t7 t29).bind fun _ =>
    (M.lift (Ax.faddr 11 t2)).bind fun t30 =>
    (mload none t30).bind fun t31 =>
    (M.lift (Ax.un .not t31)).bind fun t32 =>
    (guarded [(0, t32)] (some (0, true)) (M.lift (Ax.faddr 12 t2))).bind fun t34 =>
    (guarded [(0, t32)] (some (0, true)) (mload none t34)).bind fun t35 =>
    (guarded [(0, t32)] (some (0, true)) (M.lift (Ax.bin .neq t35 (V.int .u32 0)))).bind fun t36 =>
    (M.lift (Ax.pick t32 t36 (V.bool false))).bind fun t37 =>
    (guarded [(0, t37)] (some (0, false)) (M.lift (Ax.faddr 12 t2))).bind fun t39 =>
    (guarded [(0, t37)] (some (0, false)) (mload none t39)).bind fun t40 =>
    (guarded [(0, t37)] (some (0, false)) (M.lift (Ax.cint .u64 t40))).bind fun t41 =>
    (guarded [(0, t37)] (some (0, false)) (M.lift (Ax.faddr 1 t7))).bind fun t42 =>
    (guarded [(0, t37)] (some (0, false)) (mload none t42)).bind fun t43 =>
    (guarded [(0, t37)] (some (0, false)) (M.lift (Ax.cint .u64 t43))).bind fun t44 =>
    (guarded [(0, t37)] (some (0, false)) (M.lift (Ax.bin .shr t41 t44))).bind fun t45 =>
    (guarded [(0, t37)] (some (0, false)) (M.lift (Ax.bin .neq t45 (V.int .u64 0)))).bind fun t46 =>
    (M.lift (Ax.pick t37 (V.bool true) t46)).bind fun t47 =>
    M.ite t47
      (M.pure (.ret [(V.bool false)]))
      ((M.lift (Ax.faddr 13 t2)).bind fun t48 =>
      (mload none t48).bind fun t49 =>
      (M.lift (Ax.un .not t49)).bind fun t50 =>
      (guarded [(0, t50)] (some (0, true)) (M.lift (Ax.faddr 16 t2))).bind fun t52 =>
      (guarded [(0, t50)] (some (0, true)) (mload none t52)).bind fun t53 =>
      (guarded [(0, t50)] (some (0, true)) (M.lift (Ax.faddr 2 t5))).bind fun t54 =>
      (guarded [(0, t50)] (some (0, true)) (mload none t54)).bind fun t55 =>
      (guarded [(0, t50)] (some (0, true)) (G fn_palanquinref9_SameInts [t53, t55])).bind fun t56 =>
      (guarded [(0, t50)] (some (0, true)) (M.lift (Ax.un .not t56))).bind fun t57 =>
      (M.lift (Ax.pick t50 t57 (V.bool false))).bind fun t58 =>
      (guarded [(0, t58)] (some (0, false)) (M.lift (Ax.faddr 13 t2))).bind fun t60 =>
      (guarded [(0, t58)] (some (0, false)) (mload none t60)).bind fun t61 =>
      (guarded [(0, t58)] (some (0, false)) (M.pure t61)).bind fun t62 =>
      (guarded [(0, t62)] (some (0, true)) (M.lift (Ax.faddr 16 t2))).bind fun t63 =>
      (guarded [(0, t62)] (some (0, true)) (mload none t63)).bind fun t64 =>
      (guarded [(0, t62)] (some (0, true)) (M.lift (Ax.faddr 1 t7))).bind fun t65 =>
      (guarded [(0, t62)] (some (0, true)) (mload none t65)).bind fun t66 =>
      (guarded [(0, t62)] (some (0, true)) (G fn_palanquinref9_within [t64, t66, (V.int .i64 0), (V.int .i64 3)])).bind fun t67 =>
      (guarded [(0, t62)] (some (0, true)) (M.lift (Ax.un .not t67))).bind fun t68 =>
      (guarded [(0, t58)] (some (0, false)) (M.lift (Ax.pick t62 t68 (V.bool false)))).bind fun t69 =>
      (M.lift (Ax.pick t58 (V.bool true) t69)).bind fun t70 =>
      M.ite t70
        (M.pure (.ret [(V.bool false)]))
        ((M.lift (Ax.faddr 14 t2)).bind fun t71 =>
        (mload none t71).bind fun t72 =>
        (M.lift (Ax.un .not t72)).bind fun t73 =>
        (guarded [(0, t73)] (some (0, true)) (M.lift (Ax.faddr 17 t2))).bind fun t75 =>
        (guarded [(0, t73)] (some (0, true)) (mload none t75)).bind fun t76 =>
        (guarded [(0, t73)] (some (0, true)) (M.lift (Ax.faddr 3 t5))).bind fun t77 =>
        (guarded [(0, t73)] (some (0, true)) (mload none t77)).bind fun t78 =>
        (guarded [(0, t73)] (some (0, true)) (G fn_palanquinref9_SameInts [t76, t78])).bind fun t79 =>
        (guarded [(0, t73)] (some (0, true)) (M.lift (Ax.un .not t79))).bind fun t80 =>
        (M.lift (Ax.pick t73 t80 (V.bool false))).bind fun t81 =>
        (guarded [(0, t81)] (some (0, false)) (M.lift (Ax.faddr 14 t2))).bind fun t83 =>
        (guarded [(0, t81)] (some (0, false)) (mload none t83)).bind fun t84 =>
        (guarded [(0, t81)] (some (0, false)) (M.pure t84)).bind fun t85 =>
        (guarded [(0, t85)] (some (0, true)) (M.lift (Ax.faddr 17 t2))).bind fun t86 =>
        (guarded [(0, t85)] (some (0, true)) (mload none t86)).bind fun t87 =>
        (guarded [(0, t85)] (some (0, true)) (M.lift (vlen t87))).bind fun t88 =>
        (guarded [(0, t85)] (some (0, true)) (M.lift (Ax.bin .gtr t88 (V.int .i64 16)))).bind fun t89 =>
        (guarded [(0, t85)] (some (0, true)) (M.pure t89)).bind fun t90 =>
        (guarded [(0, t90)] (some (0, false)) (M.lift (Ax.faddr 17 t2))).bind fun t91 =>
        (guarded [(0, t90)] (some (0, false)) (mload none t91)).bind fun t92 =>
        (guarded [(0, t90)] (some (0, false)) (G fn_palanquinref9_within [t92, (V.int .i64 (-1)), (V.int .i64 1), (V.int .i64 4096)])).bind fun t93 =>
        (guarded [(0, t90)] (some (0, false)) (M.lift (Ax.un .not t93))).bind fun t94 =>
        (guarded [(0, t85)] (some (0, true)) (M.lift (Ax.pick t90 (V.bool true) t94))).bind fun t95 =>
        (guarded [(0, t81)] (some (0, false)) (M.lift (Ax.pick t85 t95 (V.bool false)))).bind fun t96 =>
        (M.lift (Ax.pick t81 (V.bool true) t96)).bind fun t97 =>
        M.ite t97
          (M.pure (.ret [(V.bool false)]))
          ((M.lift (Ax.faddr 15 t2)).bind fun t98 =>
          (mload none t98).bind fun t99 =>
          (M.lift (Ax.un .not t99)).bind fun t100 =>
          (guarded [(0, t100)] (some (0, true)) (M.lift (Ax.faddr 18 t2))).bind fun t102 =>
          (guarded [(0, t100)] (some (0, true)) (mload none t102)).bind fun t103 =>
          (guarded [(0, t100)] (some (0, true)) (M.lift (Ax.faddr 4 t5))).bind fun t104 =>
          (guarded [(0, t100)] (some (0, true)) (mload none t104)).bind fun t105 =>
          (guarded [(0, t100)] (some (0, true)) (G fn_palanquinref9_SameInts [t103, t105])).bind fun t106 =>
          (M.lift (Ax.pick t100 t106 (V.bool false))).bind fun t107 =>
          (guarded [(0, t107)] (some (0, false)) (M.lift (Ax.faddr 15 t2))).bind fun t109 =>
          (guarded [(0, t107)] (some (0, false)) (mload none t109)).bind fun t110 =>
          (guarded [(0, t107)] (some (0, false)) (M.pure t110)).bind fun t111 =>
          (guarded [(0, t111)] (some (0, true)) (M.lift (Ax.faddr 18 t2))).bind fun t112 =>
          (guarded [(0, t111)] (some (0, true)) (mload none t112)).bind fun t113 =>
          (guarded [(0, t111)] (some (0, true)) (M.lift (Ax.faddr 3 t7))).bind fun t114 =>
          (guarded [(0, t111)] (some (0, true)) (mload none t114)).bind fun t115 =>
          (guarded [(0, t111)] (some (0, true)) (G fn_palanquinref9_within [t113, t115, (V.int .i64 0), (V.int .i64 255)])).bind fun t116 =>
          (guarded [(0, t107)] (some (0, false)) (M.lift (Ax.pick t111 t116 (V.bool false)))).bind fun t117 =>
          (M.lift (Ax.pick t107 (V.bool true) t117)).bind fun t118 =>
          M.pure (.ret [t118])))))

theorem eq_palanquinref9_Good (G : Sem') (t0 t1 : V) : execK G ir_palanquinref9_Good.rv ir_palanquinref9_Good.body [] [] (params 0 [t0, t1]) = f_palanquinref9_Good G t0 t1 := by kernel_rfl

def d_palanquinref9_Good (G : Sem') : List V → M V
  | [t0, t1] => fin (f_palanquinref9_Good G t0 t1)
  | _ => M.fail

theorem s_palanquinref9_Good {g : Sem'} (hg : Sims g (sem T)) (args : List V) : Sim (d_palanquinref9_Good g args) (sem T fn_palanquinref9_Good args) := by
  unfold d_palanquinref9_Good
  split
  · exact sim_fn tb_palanquinref9_Good (Nat.le_of_ble_eq_true rfl) hg (eq_palanquinref9_Good g _ _)
  · exact sim_fail

/-- (*palanquin/palanquinref6.Writer).Add. -/
def f_palanquinref6_Writer_Add_0 (G : Sem') (t0 t1 t6 : V) (L : List V) : M Res :=
  (M.lift (Ax.bin .geq (L.getD 0 .undef) (V.int .i64 0))).bind fun t28 =>
  M.ite t28
    (M.blk 1 (
      (M.lift (Ax.nilck t0)).bind fun t33 =>
      (M.lift (Ax.faddr 0 t33)).bind fun t34 =>
      (mload none t34).bind fun t35 =>
      (M.lift (Ax.cint .u64 (L.getD 0 .undef))).bind fun t38 =>
      (M.lift (Ax.bin .shr t1 t38)).bind fun t39 =>
      (M.lift (Ax.bin .and t39 (V.int .u64 1))).bind fun t40 =>
      (M.lift (Ax.bin .eql t40 (V.int .u64 1))).bind fun t41 =>
      (mslit ty_bool 1 [(V.bool false)] [(0, 1, t41)]).bind fun t42 =>
      (mappend ty_bool 1 1 t35 t42).bind fun t43 =>
      (M.lift (Ax.nilck t0)).bind fun t44 =>
      (M.lift (Ax.faddr 0 t44)).bind fun t45 =>
      (mstore 1 t45 t43).bind fun _ =>
      M.pure (.nrm [])) fun _ =>
    (M.lift (Ax.bin .sub (L.getD 0 .undef) (V.int .i64 1))).bind fun t30 =>
    M.pure (.nrm [t30]))
    (M.pure (.ex 0 []))

def f_palanquinref6_Writer_Add (G : Sem') (t0 t1 t2 : V) : M Res :=
  (M.lift (Ax.bin .lss t2 (V.int .i64 0))).bind fun t9 =>
  (guarded [(0, t9)] (some (0, false)) (M.pure t2)).bind fun t11 =>
  (guarded [(0, t9)] (some (0, false)) (M.lift (Ax.bin .gtr t11 (V.int .i64 64)))).bind fun t12 =>
  (M.lift (Ax.pick t9 (V.bool true) t12)).bind fun t13 =>
  (guarded [(0, t13)] (some (0, false)) (M.pure t2)).bind fun t15 =>
  (guarded [(0, t13)] (some (0, false)) (M.lift (Ax.bin .lss t15 (V.int .i64 64)))).bind fun t16 =>
  (guarded [(0, t13)] (some (0, false)) (M.pure t16)).bind fun t17 =>
  (guarded [(0, t17)] (some (0, true)) (M.pure t1)).bind fun t18 =>
  (guarded [(0, t17)] (some (0, true)) (M.pure t2)).bind fun t19 =>
  (guarded [(0, t17)] (some (0, true)) (M.lift (Ax.cint .u64 t19))).bind fun t20 =>
  (guarded [(0, t17)] (some (0, true)) (M.lift (Ax.bin .shr t18 t20))).bind fun t21 =>
  (guarded [(0, t17)] (some (0, true)) (M.lift (Ax.bin .neq t21 (V.int .u64 0)))).bind fun t22 =>
  (guarded [(0, t13)] (some (0, false)) (M.lift (Ax.pick t17 t22 (V.bool false)))).bind fun t23 =>
  (M.lift (Ax.pick t13 (V.bool true) t23)).bind fun t24 =>
  M.ite t24
    (M.pure (.ret [(V.int .i64 1)]))
    ((M.lift (Ax.bin .sub t2 (V.int .i64 1))).bind fun t26 =>
    M.blk 0 (
      M.iter (f_palanquinref6_Writer_Add_0 G t0 t1 (V.int .i64 0)) [t26]) fun _ =>
    M.pure (.ret [(V.int .i64 0)]))

theorem eq_palanquinref6_Writer_Add (G : Sem') (t0 t1 t2 : V) : execK G ir_palanquinref6_Writer_Add.rv ir_palanquinref6_Writer_Add.body [] [] (params 0 [t0, t1, t2]) = f_palanquinref6_Writer_Add G t0 t1 t2 := by kernel_rfl

def d_palanquinref6_Writer_Add (G : Sem') : List V → M V
  | [t0, t1, t2] => fin (f_palanquinref6_Writer_Add G t0 t1 t2)
  | _ => M.fail

theorem s_palanquinref6_Writer_Add {g : Sem'} (hg : Sims g (sem T)) (args : List V) : Sim (d_palanquinref6_Writer_Add g args) (sem T fn_palanquinref6_Writer_Add args) := by
  unfold d_palanquinref6_Writer_Add
  split
  · exact sim_fn tb_palanquinref6_Writer_Add (Nat.le_of_ble_eq_true rfl) hg (eq_palanquinref6_Writer_Add g _ _ _)
  · exact sim_fail

/-- palanquin/palanquinref9.one. -/
def f_palanquinref9_one (G : Sem') (t0 : V) : M Res :=
  M.ite t0
    (M.pure (.ret [(V.int .u64 1)]))
    (M.pure (.ret [(V.int .u64 0)]))

theorem eq_palanquinref9_one (G : Sem') (t0 : V) : execK G ir_palanquinref9_one.rv ir_palanquinref9_one.body [] [] (params 0 [t0]) = f_palanquinref9_one G t0 := by kernel_rfl

def d_palanquinref9_one (G : Sem') : List V → M V
  | [t0] => fin (f_palanquinref9_one G t0)
  | _ => M.fail

theorem s_palanquinref9_one {g : Sem'} (hg : Sims g (sem T)) (args : List V) : Sim (d_palanquinref9_one g args) (sem T fn_palanquinref9_one args) := by
  unfold d_palanquinref9_one
  split
  · exact sim_fn tb_palanquinref9_one (Nat.le_of_ble_eq_true rfl) hg (eq_palanquinref9_one g _)
  · exact sim_fail

/-- (*palanquin/palanquinref6.Writer).Bytes. -/
def f_palanquinref6_Writer_Bytes_0 (G : Sem') (t0 t3 t2 : V) (L : List V) : M Res :=
  (M.lift (Ax.nilck t0)).bind fun t15 =>
  (M.lift (Ax.faddr 0 t15)).bind fun t16 =>
  (mload none t16).bind fun t17 =>
  (M.lift (vlen t17)).bind fun t18 =>
  (M.lift (Ax.bin .lss (L.getD 0 .undef) t18)).bind fun t19 =>
  M.ite t19
    (M.blk 1 (
      (M.lift (Ax.nilck t0)).bind fun t23 =>
      (M.lift (Ax.faddr 0 t23)).bind fun t24 =>
      (mload none t24).bind fun t25 =>
      (M.lift (Ax.iaddr none 1 t25 (L.getD 0 .undef))).bind fun t27 =>
      (mload none t27).bind fun t28 =>
      M.join (M.ite t28
        ((M.lift (Ax.bin .quo (L.getD 0 .undef) (V.int .i64 8))).bind fun t31 =>
        (M.lift (Ax.bin .quo (L.getD 0 .undef) (V.int .i64 8))).bind fun t34 =>
        (M.lift (Ax.iaddr none 1 t3 t34)).bind fun t35 =>
        (mload none t35).bind fun t36 =>
        (M.lift (Ax.bin .rem (L.getD 0 .undef) (V.int .i64 8))).bind fun t38 =>
        (M.lift (Ax.cint .u64 t38)).bind fun t39 =>
        (M.lift (Ax.bin .shr (V.int .u8 128) t39)).bind fun t40 =>
        (M.lift (Ax.bin .or t36 t40)).bind fun t41 =>
        (M.lift (Ax.iaddr none 1 t3 t31)).bind fun t42 =>
        (mstore 1 t42 t41).bind fun _ =>
        M.pure (.nrm []))
        (M.pure (.nrm []))) fun _ =>
      M.pure (.nrm [])) fun _ =>
    (M.lift (Ax.bin .add (L.getD 0 .undef) (V.int .i64 1))).bind fun t21 =>
    M.pure (.nrm [t21]))
    (M.pure (.ex 0 []))

def f_palanquinref6_Writer_Bytes (G : Sem') (t0 : V) : M Res :=
  (M.lift (Ax.nilck t0)).bind fun t6 =>
  (M.lift (Ax.faddr 0 t6)).bind fun t7 =>
  (mload none t7).bind fun t8 =>
  (M.lift (vlen t8)).bind fun t9 =>
  (M.lift (Ax.bin .add t9 (V.int .i64 7))).bind fun t10 =>
  (M.lift (Ax.bin .quo t10 (V.int .i64 8))).bind fun t11 =>
  (mmkslice ty_uint8 1 [(V.int .u8 0)] t11 t11).bind fun t12 =>
  M.blk 0 (
    M.iter (f_palanquinref6_Writer_Bytes_0 G t0 t12 V.nils) [(V.int .i64 0)]) fun _ =>
  M.pure (.ret [t12])

theorem eq_palanquinref6_Writer_Bytes (G : Sem') (t0 : V) : execK G ir_palanquinref6_Writer_Bytes.rv ir_palanquinref6_Writer_Bytes.body [] [] (params 0 [t0]) = f_palanquinref6_Writer_Bytes G t0 := by kernel_rfl

def d_palanquinref6_Writer_Bytes (G : Sem') : List V → M V
  | [t0] => fin (f_palanquinref6_Writer_Bytes G t0)
  | _ => M.fail

theorem s_palanquinref6_Writer_Bytes {g : Sem'} (hg : Sims g (sem T)) (args : List V) : Sim (d_palanquinref6_Writer_Bytes g args) (sem T fn_palanquinref6_Writer_Bytes args) := by
  unfold d_palanquinref6_Writer_Bytes
  split
  · exact sim_fn tb_palanquinref6_Writer_Bytes (Nat.le_of_ble_eq_true rfl) hg (eq_palanquinref6_Writer_Bytes g _)
  · exact sim_fail

/-- palanquin/palanquinref9.writes. -/
def f_palanquinref9_writes_0 (G : Sem') (t4 t3 t0 : V) (L : List V) : M Res :=
  (M.lift (Ax.bin .lss (L.getD 0 .undef) t4)).bind fun t31 =>
  M.ite t31
    (M.blk 1 (
      (M.lift (Ax.bin .add (L.getD 0 .undef) (V.int .i64 1))).bind fun t35 =>
      (M.lift (Ax.bin .lss t35 t4)).bind fun t37 =>
      M.join (M.ite t37
        ((M.lift (Ax.faddr 2 t3)).bind fun t38 =>
        (mload none t38).bind fun t39 =>
        (M.lift (Ax.iaddr none 5 t39 (L.getD 0 .undef))).bind fun t41 =>
        (mload (some 5) t41).bind fun t42 =>
        (M.lift (Ax.faddr 2 t3)).bind fun t43 =>
        (mload none t43).bind fun t44 =>
        (M.lift (Ax.bin .add (L.getD 0 .undef) (V.int .i64 1))).bind fun t46 =>
        (M.lift (Ax.iaddr none 5 t44 t46)).bind fun t47 =>
        (mload (some 5) t47).bind fun t48 =>
        (G fn_palanquinref9_step [t42, t48]).bind fun t49 =>
        M.pure (.nrm [t49]))
        (M.pure (.nrm [(V.int .i64 3)]))) fun L0 =>
      (M.lift (Ax.cint .u64 (L0.getD 0 .undef))).bind fun t52 =>
      (G fn_palanquinref6_Writer_Add [t0, t52, (V.int .i64 2)]).bind fun t53 =>
      M.pure (.nrm [])) fun _ =>
    (M.lift (Ax.bin .add (L.getD 0 .undef) (V.int .i64 1))).bind fun t33 =>
    M.pure (.nrm [t33]))
    (M.pure (.ex 0 []))

def f_palanquinref9_writes_1 (G : Sem') (t0 t3 t7 : V) (L : List V) : M Res :=
  (M.lift (Ax.faddr 1 t3)).bind fun t60 =>
  (mload none t60).bind fun t61 =>
  (M.lift (Ax.bin .lss (L.getD 0 .undef) t61)).bind fun t62 =>
  M.ite t62
    (M.blk 5 (
      (M.lift (Ax.faddr 2 t3)).bind fun t66 =>
      (mload none t66).bind fun t67 =>
      (M.lift (Ax.iaddr none 5 t67 t7)).bind fun t69 =>
      (M.lift (Ax.faddr 2 t69)).bind fun t70 =>
      (mload none t70).bind fun t71 =>
      (M.lift (Ax.iaddr none 1 t71 (L.getD 0 .undef))).bind fun t73 =>
      (mload none t73).bind fun t74 =>
      (M.lift (Ax.cint .u64 t74)).bind fun t75 =>
      (G fn_palanquinref6_Writer_Add [t0, t75, (V.int .i64 2)]).bind fun t76 =>
      M.pure (.nrm [])) fun _ =>
    (M.lift (Ax.bin .add (L.getD 0 .undef) (V.int .i64 1))).bind fun t64 =>
    M.pure (.nrm [t64]))
    (M.pure (.ex 4 []))

def f_palanquinref9_writes_2 (G : Sem') (t4 t0 t3 : V) (L : List V) : M Res :=
  (M.lift (Ax.bin .lss (L.getD 0 .undef) t4)).bind fun t56 =>
  M.ite t56
    (M.blk 3 (
      M.blk 4 (
        M.iter (f_palanquinref9_writes_1 G t0 t3 (L.getD 0 .undef)) [(V.int .i64 0)]) fun _ =>
      M.pure (.nrm [])) fun _ =>
    (M.lift (Ax.bin .add (L.getD 0 .undef) (V.int .i64 1))).bind fun t58 =>
    M.pure (.nrm [t58]))
    (M.pure (.ex 2 []))

def f_palanquinref9_writes_3 (G : Sem') (t0 t3 t9 : V) (L : List V) : M Res :=
  (M.lift (Ax.faddr 2 t3)).bind fun t83 =>
  (mload none t83).bind fun t84 =>
  (M.lift (Ax.iaddr none 5 t84 t9)).bind fun t86 =>
  (M.lift (Ax.faddr 3 t86)).bind fun t87 =>
  (mload none t87).bind fun t88 =>
  (M.lift (vlen t88)).bind fun t89 =>
  (M.lift (Ax.bin .lss (L.getD 0 .undef) t89)).bind fun t90 =>
  M.ite t90
    (M.blk 9 (
      (G fn_palanquinref6_Writer_Add [t0, (V.int .u64 1), (V.int .i64 1)]).bind fun t94 =>
      (M.lift (Ax.faddr 2 t3)).bind fun t96 =>
      (mload none t96).bind fun t97 =>
      (M.lift (Ax.iaddr none 5 t97 t9)).bind fun t99 =>
      (M.lift (Ax.faddr 3 t99)).bind fun t100 =>
      (mload none t100).bind fun t101 =>
      (M.lift (Ax.iaddr none 1 t101 (L.getD 0 .undef))).bind fun t103 =>
      (mload none t103).bind fun t104 =>
      (M.lift (Ax.bin .sub t104 (V.int .i64 1))).bind fun t105 =>
      (M.lift (Ax.cint .u64 t105)).bind fun t106 =>
      (G fn_palanquinref6_Writer_Add [t0, t106, (V.int .i64 4)]).bind fun t107 =>
      M.pure (.nrm [])) fun _ =>
    (M.lift (Ax.bin .add (L.getD 0 .undef) (V.int .i64 1))).bind fun t92 =>
    M.pure (.nrm [t92]))
    (M.pure (.ex 8 []))

def f_palanquinref9_writes_4 (G : Sem') (t4 t3 t0 : V) (L : List V) : M Res :=
  (M.lift (Ax.bin .lss (L.getD 0 .undef) t4)).bind fun t79 =>
  M.ite t79
    (M.blk 7 (
      M.blk 8 (
        M.iter (f_palanquinref9_writes_3 G t0 t3 (L.getD 0 .undef)) [(V.int .i64 0)]) fun _ =>
      (G fn_palanquinref6_Writer_Add [t0, (V.int .u64 0), (V.int .i64 1)]).bind fun t109 =>
      M.pure (.nrm [])) fun _ =>
    (M.lift (Ax.bin .add (L.getD 0 .undef) (V.int .i64 1))).bind fun t81 =>
    M.pure (.nrm [t81]))
    (M.pure (.ex 6 []))

def f_palanquinref9_writes_5 (G : Sem') (t0 t3 : V) (L : List V) : M Res :=
  (M.lift (Ax.faddr 1 t3)).bind fun t123 =>
  (mload none t123).bind fun t124 =>
  (M.lift (Ax.bin .lss (L.getD 0 .undef) t124)).bind fun t125 =>
  M.ite t125
    (M.blk 11 (
      (M.lift (Ax.faddr 4 t3)).bind fun t129 =>
      (mload none t129).bind fun t130 =>
      (M.lift (Ax.iaddr none 1 t130 (L.getD 0 .undef))).bind fun t132 =>
      (mload none t132).bind fun t133 =>
      (M.lift (Ax.cint .u64 t133)).bind fun t134 =>
      (M.lift (Ax.faddr 3 t3)).bind fun t135 =>
      (mload none t135).bind fun t136 =>
      (M.lift (Ax.cint .u64 t136)).bind fun t137 =>
      (G fn_palanquinref6_Writer_AddNS [t0, t134, t137]).bind fun t138 =>
      M.pure (.nrm [])) fun _ =>
    (M.lift (Ax.bin .add (L.getD 0 .undef) (V.int .i64 1))).bind fun t127 =>
    M.pure (.nrm [t127]))
    (M.pure (.ex 10 []))

def f_palanquinref9_writes_6 (G : Sem') (t0 t3 t12 : V) (L : List V) : M Res :=
  (M.lift (Ax.faddr 3 t3)).bind fun t145 =>
  (mload none t145).bind fun t146 =>
  (M.lift (Ax.bin .lss (L.getD 0 .undef) t146)).bind fun t147 =>
  M.ite t147
    (M.blk 15 (
      (M.lift (Ax.faddr 2 t3)).bind fun t151 =>
      (mload none t151).bind fun t152 =>
      (M.lift (Ax.iaddr none 5 t152 t12)).bind fun t154 =>
      (M.lift (Ax.faddr 4 t154)).bind fun t155 =>
      (mload none t155).bind fun t156 =>
      (M.lift (Ax.iaddr none 1 t156 (L.getD 0 .undef))).bind fun t158 =>
      (mload none t158).bind fun t159 =>
      (M.lift (Ax.cint .u64 t159)).bind fun t160 =>
      (G fn_palanquinref6_Writer_Add [t0, t160, (V.int .i64 4)]).bind fun t161 =>
      M.pure (.nrm [])) fun _ =>
    (M.lift (Ax.bin .add (L.getD 0 .undef) (V.int .i64 1))).bind fun t149 =>
    M.pure (.nrm [t149]))
    (M.pure (.ex 14 []))

def f_palanquinref9_writes_7 (G : Sem') (t4 t0 t3 : V) (L : List V) : M Res :=
  (M.lift (Ax.bin .lss (L.getD 0 .undef) t4)).bind fun t141 =>
  M.ite t141
    (M.blk 13 (
      M.blk 14 (
        M.iter (f_palanquinref9_writes_6 G t0 t3 (L.getD 0 .undef)) [(V.int .i64 0)]) fun _ =>
      M.pure (.nrm [])) fun _ =>
    (M.lift (Ax.bin .add (L.getD 0 .undef) (V.int .i64 1))).bind fun t143 =>
    M.pure (.nrm [t143]))
    (M.pure (.ex 12 []))

def f_palanquinref9_writes_8 (G : Sem') (t0 t3 : V) (L : List V) : M Res :=
  (M.lift (Ax.faddr 5 t3)).bind fun t170 =>
  (mload none t170).bind fun t171 =>
  (M.lift (vlen t171)).bind fun t172 =>
  (M.lift (Ax.bin .lss (L.getD 0 .undef) t172)).bind fun t173 =>
  M.ite t173
    (M.blk 17 (
      (M.lift (Ax.faddr 5 t3)).bind fun t177 =>
      (mload none t177).bind fun t178 =>
      (M.lift (Ax.iaddr none 2 t178 (L.getD 0 .undef))).bind fun t180 =>
      (M.lift (Ax.iaddr (some 2) 1 t180 (V.int .i64 0))).bind fun t181 =>
      (mload none t181).bind fun t182 =>
      (M.lift (Ax.bin .sub t182 (V.int .i64 1))).bind fun t183 =>
      (M.lift (Ax.cint .u64 t183)).bind fun t184 =>
      (G fn_palanquinref6_Writer_Add [t0, t184, (V.int .i64 16)]).bind fun t185 =>
      (M.lift (Ax.faddr 5 t3)).bind fun t187 =>
      (mload none t187).bind fun t188 =>
      (M.lift (Ax.iaddr none 2 t188 (L.getD 0 .undef))).bind fun t190 =>
      (M.lift (Ax.iaddr (some 2) 1 t190 (V.int .i64 1))).bind fun t191 =>
      (mload none t191).bind fun t192 =>
      (M.lift (Ax.bin .sub t192 (V.int .i64 1))).bind fun t193 =>
      (M.lift (Ax.cint .u64 t193)).bind fun t194 =>
      (G fn_palanquinref6_Writer_Add [t0, t194, (V.int .i64 16)]).bind fun t195 =>
      M.pure (.nrm [])) fun _ =>
    (M.lift (Ax.bin .add (L.getD 0 .undef) (V.int .i64 1))).bind fun t175 =>
    M.pure (.nrm [t175]))
    (M.pure (.ex 16 []))

def f_palanquinref9_writes (G : Sem') (t0 t1 : V) : M Res :=
  (mbox ty_palanquinref9_Structure t1).bind fun t3 =>
  (M.lift (Ax.faddr 2 t3)).bind fun t15 =>
  (mload none t15).bind fun t16 =>
  (M.lift (vlen t16)).bind fun t17 =>
  (M.lift (Ax.faddr 0 t3)).bind fun t19 =>
  (mload none t19).bind fun t20 =>
  (M.lift (Ax.cint .u64 t20)).bind fun t21 =>
  (G fn_palanquinref6_Writer_Add [t0, t21, (V.int .i64 6)]).bind fun t22 =>
  (M.lift (Ax.faddr 1 t3)).bind fun t24 =>
  (mload none t24).bind fun t25 =>
  (M.lift (Ax.bin .sub t25 (V.int .i64 1))).bind fun t26 =>
  (M.lift (Ax.cint .u64 t26)).bind fun t27 =>
  (G fn_palanquinref6_Writer_Add [t0, t27, (V.int .i64 5)]).bind fun t28 =>
  M.blk 0 (
    M.iter (f_palanquinref9_writes_0 G t17 t3 t0) [(V.int .i64 0)]) fun _ =>
  M.blk 2 (
    M.iter (f_palanquinref9_writes_2 G t17 t0 t3) [(V.int .i64 0)]) fun _ =>
  M.blk 6 (
    M.iter (f_palanquinref9_writes_4 G t17 t3 t0) [(V.int .i64 0)]) fun _ =>
  (M.lift (Ax.faddr 3 t3)).bind fun t111 =>
  (mload none t111).bind fun t112 =>
  (M.lift (Ax.cint .u64 t112)).bind fun t113 =>
  (M.lift (Ax.faddr 1 t3)).bind fun t114 =>
  (mload none t114).bind fun t115 =>
  (M.lift (Ax.bin .add t115 (V.int .i64 1))).bind fun t116 =>
  (M.lift (Ax.cint .u64 t116)).bind fun t117 =>
  (G fn_palanquinref6_Writer_AddNS [t0, t113, t117]).bind fun t118 =>
  (M.lift (Ax.faddr 3 t3)).bind fun t119 =>
  (mload none t119).bind fun t120 =>
  (M.lift (Ax.bin .gtr t120 (V.int .i64 0))).bind fun t121 =>
  M.join (M.ite t121
    (M.blk 10 (
      M.iter (f_palanquinref9_writes_5 G t0 t3) [(V.int .i64 0)]) fun _ =>
    M.blk 12 (
      M.iter (f_palanquinref9_writes_7 G t17 t0 t3) [(V.int .i64 0)]) fun _ =>
    M.pure (.nrm []))
    (M.pure (.nrm []))) fun _ =>
  (M.lift (Ax.faddr 5 t3)).bind fun t163 =>
  (mload none t163).bind fun t164 =>
  (M.lift (vlen t164)).bind fun t165 =>
  (M.lift (Ax.bin .gtr t165 (V.int .i64 0))).bind fun t166 =>
  (G fn_palanquinref9_one [t166]).bind fun t167 =>
  (G fn_palanquinref6_Writer_Add [t0, t167, (V.int .i64 1)]).bind fun t168 =>
  M.blk 16 (
    M.iter (f_palanquinref9_writes_8 G t0 t3) [(V.int .i64 0)]) fun _ =>
  M.pure (.ret [])

theorem eq_palanquinref9_writes (G : Sem') (t0 t1 : V) : execK G ir_palanquinref9_writes.rv ir_palanquinref9_writes.body [] [] (params 0 [t0, t1]) = f_palanquinref9_writes G t0 t1 := by kernel_rfl

def d_palanquinref9_writes (G : Sem') : List V → M V
  | [t0, t1] => fin (f_palanquinref9_writes G t0 t1)
  | _ => M.fail

theorem s_palanquinref9_writes {g : Sem'} (hg : Sims g (sem T)) (args : List V) : Sim (d_palanquinref9_writes g args) (sem T fn_palanquinref9_writes args) := by
  unfold d_palanquinref9_writes
  split
  · exact sim_fn tb_palanquinref9_writes (Nat.le_of_ble_eq_true rfl) hg (eq_palanquinref9_writes g _ _)
  · exact sim_fail

/-- palanquin/palanquinref9.holds. -/
def f_palanquinref9_holds (G : Sem') (t0 t1 : V) : M Res :=
  (mbox ty_palanquinref9_Frame t0).bind fun t2 =>
  (mbox ty_palanquinref9_Structure t1).bind fun t3 =>
  (mbox ty_palanquinref9_Structure (V.agg [(V.int .i64 0), (V.int .i64 0), V.nils, (V.int .i64 0), V.nils, V.nils])).bind fun t4 =>
  (M.lift (Ax.faddr 4 t2)).bind fun t5 =>
  (mload none t5).bind fun t6 =>
  M.ite t6
    ((M.lift (Ax.faddr 5 t2)).bind fun t7 =>
    (mload (some 6) t7).bind fun t8 =>
    (mstore 6 t4 t8).bind fun _ =>
    (mload (some 6) t4).bind fun r0 =>
    M.pure (.ret [r0]))
    ((mload (some 6) t3).bind fun t9 =>
    (mstore 6 t4 t9).bind fun _ =>
    (mload (some 6) t4).bind fun r0 =>
    M.pure (.ret [r0]))

theorem eq_palanquinref9_holds (G : Sem') (t0 t1 : V) : execK G ir_palanquinref9_holds.rv ir_palanquinref9_holds.body [] [] (params 0 [t0, t1]) = f_palanquinref9_holds G t0 t1 := by kernel_rfl

def d_palanquinref9_holds (G : Sem') : List V → M V
  | [t0, t1] => fin (f_palanquinref9_holds G t0 t1)
  | _ => M.fail

theorem s_palanquinref9_holds {g : Sem'} (hg : Sims g (sem T)) (args : List V) : Sim (d_palanquinref9_holds g args) (sem T fn_palanquinref9_holds args) := by
  unfold d_palanquinref9_holds
  split
  · exact sim_fn tb_palanquinref9_holds (Nat.le_of_ble_eq_true rfl) hg (eq_palanquinref9_holds g _ _)
  · exact sim_fail

/-- palanquin/rtp.Good. -/
def f_rtp_Good (G : Sem') (t0 : V) : M Res :=
  (mbox ty_rtp_Packet t0).bind fun t1 =>
  M.blk 0 (
    (M.lift (Ax.faddr 1 t1)).bind fun t4 =>
    (mload none t4).bind fun t5 =>
    (M.lift (Ax.bin .lss t5 (V.int .i64 0))).bind fun t6 =>
    (guarded [(0, t6)] (some (0, false)) (M.lift (Ax.faddr 1 t1))).bind fun t8 =>
    (guarded [(0, t6)] (some (0, false)) (mload none t8)).bind fun t9 =>
    (guarded [(0, t6)] (some (0, false)) (M.lift (Ax.bin .gtr t9 (V.int .i64 127)))).bind fun t10 =>
    (M.lift (Ax.pick t6 (V.bool true) t10)).bind fun t11 =>
    (guarded [(0, t11)] (some (0, false)) (M.lift (Ax.faddr 5 t1))).bind fun t13 =>
    (guarded [(0, t11)] (some (0, false)) (mload none t13)).bind fun t14 =>
    (guarded [(0, t11)] (some (0, false)) (M.lift (vlen t14))).bind fun t15 =>
    (guarded [(0, t11)] (some (0, false)) (M.lift (Ax.bin .gtr t15 (V.int .i64 15)))).bind fun t16 =>
    (M.lift (Ax.pick t11 (V.bool true) t16)).bind fun t17 =>
    (guarded [(0, t17)] (some (0, false)) (M.lift (Ax.faddr 8 t1))).bind fun t19 =>
    (guarded [(0, t17)] (some (0, false)) (mload none t19)).bind fun t20 =>
    (guarded [(0, t17)] (some (0, false)) (M.lift (Ax.bin .lss t20 (V.int .i64 0)))).bind fun t21 =>
    (M.lift (Ax.pick t17 (V.bool true) t21)).bind fun t22 =>
    (guarded [(0, t22)] (some (0, false)) (M.lift (Ax.faddr 8 t1))).bind fun t24 =>
    (guarded [(0, t22)] (some (0, false)) (mload none t24)).bind fun t25 =>
    (guarded [(0, t22)] (some (0, false)) (M.lift (Ax.bin .gtr t25 (V.int .i64 255)))).bind fun t26 =>
    (M.lift (Ax.pick t22 (V.bool true) t26)).bind fun t27 =>
    M.ite t27
      (M.pure (.ret [(V.bool false)]))
      ((M.lift (Ax.faddr 6 t1)).bind fun t29 =>
      (mload none t29).bind fun t30 =>
      (M.lift (Ax.bin .eql t30 (V.int .i64 0))).bind fun t31 =>
      M.ite t31
        ((M.lift (Ax.faddr 7 t1)).bind fun t32 =>
        (mload none t32).bind fun t33 =>
        (M.lift (vlen t33)).bind fun t34 =>
        (M.lift (Ax.bin .eql t34 (V.int .i64 0))).bind fun t35 =>
        M.pure (.ret [t35]))
        ((M.lift (Ax.faddr 6 t1)).bind fun t37 =>
        (mload none t37).bind fun t38 =>
        (M.lift (Ax.bin .neq t38 (V.int .i64 48862))).bind fun t39 =>
        (guarded [(0, t39)] (some (0, true)) (M.lift (Ax.faddr 6 t1))).bind fun t41 =>
        (guarded [(0, t39)] (some (0, true)) (mload none t41)).bind fun t42 =>
        (guarded [(0, t39)] (some (0, true)) (M.lift (Ax.bin .neq t42 (V.int .i64 4096)))).bind fun t43 =>
        (M.lift (Ax.pick t39 t43 (V.bool false))).bind fun t44 =>
        M.ite t44
          (M.pure (.ret [(V.bool false)]))
          (M.pure (.nrm []))))) fun _ =>
  (M.lift (Ax.faddr 7 t1)).bind fun t45 =>
  (mload none t45).bind fun t46 =>
  (M.pure (.fn fn_rtp_Good_1 [t1])).bind fun t47 =>
  (G fn_slices_ContainsFunc_rtp_Ext_rtp_Ext [t46, t47]).bind fun t48 =>
  (M.lift (Ax.un .not t48)).bind fun t49 =>
  M.pure (.ret [t49])

theorem eq_rtp_Good (G : Sem') (t0 : V) : execK G ir_rtp_Good.rv ir_rtp_Good.body [] [] (params 0 [t0]) = f_rtp_Good G t0 := by kernel_rfl

def d_rtp_Good (G : Sem') : List V → M V
  | [t0] => fin (f_rtp_Good G t0)
  | _ => M.fail

theorem s_rtp_Good {g : Sem'} (hg : Sims g (sem T)) (args : List V) : Sim (d_rtp_Good g args) (sem T fn_rtp_Good args) := by
  unfold d_rtp_Good
  split
  · exact sim_fn tb_rtp_Good (Nat.le_of_ble_eq_true rfl) hg (eq_rtp_Good g _)
  · exact sim_fail

/-- palanquin/rtp.put. -/
def f_rtp_put_0 (G : Sem') (t1 t6 : V) (L : List V) : M Res :=
  (M.lift (Ax.bin .geq (L.getD 1 .undef) (V.int .i64 0))).bind fun t11 =>
  M.ite t11
    (M.blk 1 (
      (M.lift (Ax.bin .mul (V.int .i64 8) (L.getD 1 .undef))).bind fun t17 =>
      (M.lift (Ax.bin .shr t1 t17)).bind fun t18 =>
      (M.lift (Ax.cint .u8 t18)).bind fun t19 =>
      (mslit ty_uint8 1 [(V.int .u8 0)] [(0, 1, t19)]).bind fun t20 =>
      (mappend ty_uint8 1 1 (L.getD 0 .undef) t20).bind fun t21 =>
      M.pure (.nrm [t21])) fun L0 =>
    (M.lift (Ax.bin .sub (L.getD 1 .undef) (V.int .i64 1))).bind fun t13 =>
    M.pure (.nrm [(L0.getD 0 .undef), t13]))
    (M.pure (.ex 0 [(L.getD 0 .undef)]))

def f_rtp_put (G : Sem') (t0 t1 t2 : V) : M Res :=
  (M.lift (Ax.bin .sub t2 (V.int .i64 1))).bind fun t9 =>
  M.blk 0 (
    M.iter (f_rtp_put_0 G t1 V.nils) [t0, t9]) fun L1 =>
  M.pure (.ret [(L1.getD 0 .undef)])

theorem eq_rtp_put (G : Sem') (t0 t1 t2 : V) : execK G ir_rtp_put.rv ir_rtp_put.body [] [] (params 0 [t0, t1, t2]) = f_rtp_put G t0 t1 t2 := by kernel_rfl

def d_rtp_put (G : Sem') : List V → M V
  | [t0, t1, t2] => fin (f_rtp_put G t0 t1 t2)
  | _ => M.fail

theorem s_rtp_put {g : Sem'} (hg : Sims g (sem T)) (args : List V) : Sim (d_rtp_put g args) (sem T fn_rtp_put args) := by
  unfold d_rtp_put
  split
  · exact sim_fn tb_rtp_put (Nat.le_of_ble_eq_true rfl) hg (eq_rtp_put g _ _ _)
  · exact sim_fail

/-- palanquin/rtp.first. -/
def f_rtp_first (G : Sem') (t0 : V) : M Res :=
  (mbox ty_rtp_Packet t0).bind fun t1 =>
  (M.lift (Ax.faddr 5 t1)).bind fun t5 =>
  (mload none t5).bind fun t6 =>
  (M.lift (vlen t6)).bind fun t7 =>
  (M.lift (Ax.bin .or (V.int .i64 128) t7)).bind fun t8 =>
  (M.lift (Ax.cint .u8 t8)).bind fun t9 =>
  (M.lift (Ax.faddr 1 t1)).bind fun t10 =>
  (mload none t10).bind fun t11 =>
  (M.lift (Ax.cint .u8 t11)).bind fun t12 =>
  (M.lift (Ax.faddr 8 t1)).bind fun t13 =>
  (mload none t13).bind fun t14 =>
  (M.lift (Ax.bin .gtr t14 (V.int .i64 0))).bind fun t15 =>
  M.join (M.ite t15
    ((M.lift (Ax.bin .or t9 (V.int .u8 32))).bind fun t17 =>
    M.pure (.nrm [t17]))
    (M.pure (.nrm [t9]))) fun L0 =>
  (M.lift (Ax.faddr 6 t1)).bind fun t18 =>
  (mload none t18).bind fun t19 =>
  (M.lift (Ax.bin .neq t19 (V.int .i64 0))).bind fun t20 =>
  M.join (M.ite t20
    ((M.lift (Ax.bin .or (L0.getD 0 .undef) (V.int .u8 16))).bind fun t22 =>
    M.pure (.nrm [t22]))
    (M.pure (.nrm [(L0.getD 0 .undef)]))) fun L1 =>
  (M.lift (Ax.faddr 0 t1)).bind fun t23 =>
  (mload none t23).bind fun t24 =>
  M.join (M.ite t24
    ((M.lift (Ax.bin .or t12 (V.int .u8 128))).bind fun t26 =>
    M.pure (.nrm [t26]))
    (M.pure (.nrm [t12]))) fun L2 =>
  (mslit ty_uint8 2 [(V.int .u8 0)] [(0, 1, (L1.getD 0 .undef)), (1, 1, (L2.getD 0 .undef))]).bind fun t29 =>
  M.pure (.ret [t29])

theorem eq_rtp_first (G : Sem') (t0 : V) : execK G ir_rtp_first.rv ir_rtp_first.body [] [] (params 0 [t0]) = f_rtp_first G t0 := by kernel_rfl

def d_rtp_first (G : Sem') : List V → M V
  | [t0] => fin (f_rtp_first G t0)
  | _ => M.fail

theorem s_rtp_first {g : Sem'} (hg : Sims g (sem T)) (args : List V) : Sim (d_rtp_first g args) (sem T fn_rtp_first args) := by
  unfold d_rtp_first
  split
  · exact sim_fn tb_rtp_first (Nat.le_of_ble_eq_true rfl) hg (eq_rtp_first g _)
  · exact sim_fail

/-- palanquin/rtp.elements. -/
def f_rtp_elements_0 (G : Sem') (t8 t7 t1 t2 : V) (L : List V) : M Res :=
  (M.lift (Ax.bin .lss (L.getD 1 .undef) t8)).bind fun t10 =>
  M.ite t10
    (M.blk 1 (
      (M.lift (Ax.iaddr none 2 t7 (L.getD 1 .undef))).bind fun t11 =>
      (mload (some 2) t11).bind fun t12 =>
      (mbox ty_rtp_Ext (V.agg [(V.int .i64 0), V.nils])).bind fun t5 =>
      (mstore 2 t5 t12).bind fun _ =>
      (M.lift (Ax.faddr 6 t1)).bind fun t13 =>
      (mload none t13).bind fun t14 =>
      (M.lift (Ax.bin .eql t14 (V.int .i64 48862))).bind fun t15 =>
      M.join (M.ite t15
        ((M.lift (Ax.faddr 0 t5)).bind fun t17 =>
        (mload none t17).bind fun t18 =>
        (M.lift (Ax.bin .shl t18 (V.int .u64 4))).bind fun t19 =>
        (M.lift (Ax.faddr 1 t5)).bind fun t20 =>
        (mload none t20).bind fun t21 =>
        (M.lift (vlen t21)).bind fun t22 =>
        (M.lift (Ax.bin .sub t22 (V.int .i64 1))).bind fun t23 =>
        (M.lift (Ax.bin .or t19 t23)).bind fun t24 =>
        (M.lift (Ax.cint .u8 t24)).bind fun t25 =>
        (mslit ty_uint8 1 [(V.int .u8 0)] [(0, 1, t25)]).bind fun t26 =>
        (mappend ty_uint8 1 1 (L.getD 0 .undef) t26).bind fun t27 =>
        M.pure (.nrm [t27]))
        ((M.lift (Ax.faddr 0 t5)).bind fun t29 =>
        (mload none t29).bind fun t30 =>
        (M.lift (Ax.cint .u8 t30)).bind fun t31 =>
        (M.lift (Ax.faddr 1 t5)).bind fun t32 =>
        (mload none t32).bind fun t33 =>
        (M.lift (vlen t33)).bind fun t34 =>
        (M.lift (Ax.cint .u8 t34)).bind fun t35 =>
        (mslit ty_uint8 2 [(V.int .u8 0)] [(0, 1, t31), (1, 1, t35)]).bind fun t36 =>
        (mappend ty_uint8 1 1 (L.getD 0 .undef) t36).bind fun t37 =>
        M.pure (.nrm [t37]))) fun L0 =>
      (M.lift (Ax.faddr 1 t5)).bind fun t39 =>
      (mload none t39).bind fun t40 =>
      (mappend ty_uint8 1 1 (L0.getD 0 .undef) t40).bind fun t41 =>
      M.pure (.nrm [t41])) fun L1 =>
    (M.lift (Ax.bin .add (L.getD 1 .undef) (V.int .i64 1))).bind fun t42 =>
    M.pure (.nrm [(L1.getD 0 .undef), t42]))
    (M.pure (.ex 0 [(L.getD 0 .undef)]))

def f_rtp_elements_1 (G : Sem') (t2 : V) (L : List V) : M Res :=
  (M.lift (vlen (L.getD 0 .undef))).bind fun t44 =>
  (M.lift (Ax.bin .rem t44 (V.int .i64 4))).bind fun t45 =>
  (M.lift (Ax.bin .neq t45 (V.int .i64 0))).bind fun t46 =>
  M.ite t46
    (M.blk 3 (
      (mslit ty_uint8 1 [(V.int .u8 0)] [(0, 1, (V.int .u8 0))]).bind fun t48 =>
      (mappend ty_uint8 1 1 (L.getD 0 .undef) t48).bind fun t49 =>
      M.pure (.nrm [t49])) fun L3 =>
    M.pure (.nrm [(L3.getD 0 .undef)]))
    (M.pure (.ex 2 [(L.getD 0 .undef)]))

def f_rtp_elements (G : Sem') (t0 : V) : M Res :=
  (mbox ty_rtp_Packet t0).bind fun t1 =>
  (M.lift (Ax.faddr 7 t1)).bind fun t6 =>
  (mload none t6).bind fun t7 =>
  (M.lift (vlen t7)).bind fun t8 =>
  M.blk 0 (
    M.iter (f_rtp_elements_0 G t8 t7 t1 V.nils) [V.nils, (V.int .i64 0)]) fun L2 =>
  M.blk 2 (
    M.iter (f_rtp_elements_1 G V.nils) [(L2.getD 0 .undef)]) fun L4 =>
  M.pure (.ret [(L4.getD 0 .undef)])

theorem eq_rtp_elements (G : Sem') (t0 : V) : execK G ir_rtp_elements.rv ir_rtp_elements.body [] [] (params 0 [t0]) = f_rtp_elements G t0 := by kernel_rfl

def d_rtp_elements (G : Sem') : List V → M V
  | [t0] => fin (f_rtp_elements G t0)
  | _ => M.fail

theorem s_rtp_elements {g : Sem'} (hg : Sims g (sem T)) (args : List V) : Sim (d_rtp_elements g args) (sem T fn_rtp_elements args) := by
  unfold d_rtp_elements
  split
  · exact sim_fn tb_rtp_elements (Nat.le_of_ble_eq_true rfl) hg (eq_rtp_elements g _)
  · exact sim_fail

/-- palanquin/rtp.at. -/
def f_rtp_at (G : Sem') (t0 t1 : V) : M Res :=
  (mbox ty_rtp_Packet t0).bind fun t2 =>
  (mbox ty_int t1).bind fun t3 =>
  (M.lift (Ax.faddr 7 t2)).bind fun t5 =>
  (mload none t5).bind fun t6 =>
  (M.pure (.fn fn_rtp_at_1 [t3])).bind fun t7 =>
  (G fn_slices_IndexFunc_rtp_Ext_rtp_Ext [t6, t7]).bind fun t8 =>
  M.pure (.ret [t8])

theorem eq_rtp_at (G : Sem') (t0 t1 : V) : execK G ir_rtp_at.rv ir_rtp_at.body [] [] (params 0 [t0, t1]) = f_rtp_at G t0 t1 := by kernel_rfl

def d_rtp_at (G : Sem') : List V → M V
  | [t0, t1] => fin (f_rtp_at G t0 t1)
  | _ => M.fail

theorem s_rtp_at {g : Sem'} (hg : Sims g (sem T)) (args : List V) : Sim (d_rtp_at g args) (sem T fn_rtp_at args) := by
  unfold d_rtp_at
  split
  · exact sim_fn tb_rtp_at (Nat.le_of_ble_eq_true rfl) hg (eq_rtp_at g _ _)
  · exact sim_fail

/-- palanquin/depend.Of. -/
def f_depend_Of (G : Sem') (t0 t1 : V) : M Res :=
  (mbox ty_depend_Frame t0).bind fun t2 =>
  (mbox ty_depend_Structure t1).bind fun t3 =>
  (mbox ty_depend_Template (V.agg [(V.int .i64 0), (V.int .i64 0), V.nils, V.nils, V.nils])).bind fun t4 =>
  (mload (some 19) t2).bind fun t7 =>
  (mload (some 6) t3).bind fun t8 =>
  (G fn_depend_holds [t7, t8]).bind fun t9 =>
  (mbox ty_depend_Structure (V.agg [(V.int .i64 0), (V.int .i64 0), V.nils, (V.int .i64 0), V.nils, V.nils])).bind fun t6 =>
  (mstore 6 t6 t9).bind fun _ =>
  (mload (some 6) t6).bind fun t10 =>
  (G fn_depend_Fine [t10]).bind fun t11 =>
  (M.lift (Ax.un .not t11)).bind fun t12 =>
  M.ite t12
    ((M.lift (Ax.build [(V.int .i64 0), (V.int .i64 0), V.nils, V.nils, V.nils] [])).bind fun t13 =>
    (mstore 5 t4 t13).bind fun _ =>
    (mload (some 5) t4).bind fun r0 =>
    M.pure (.ret [r0, (V.bool false)]))
    ((mload (some 6) t6).bind fun t14 =>
    (M.lift (Ax.faddr 2 t2)).bind fun t15 =>
    (mload none t15).bind fun t16 =>
    (G fn_depend_template [t14, t16]).bind fun t17 =>
    (M.lift (Ax.ext 0 t17)).bind fun t18 =>
    (M.lift (Ax.ext 1 t17)).bind fun t19 =>
    (mstore 5 t4 t18).bind fun _ =>
    (mload (some 5) t4).bind fun r0 =>
    M.pure (.ret [r0, t19]))

theorem eq_depend_Of (G : Sem') (t0 t1 : V) : execK G ir_depend_Of.rv ir_depend_Of.body [] [] (params 0 [t0, t1]) = f_depend_Of G t0 t1 := by kernel_rfl

def d_depend_Of (G : Sem') : List V → M V
  | [t0, t1] => fin (f_depend_Of G t0 t1)
  | _ => M.fail

theorem s_depend_Of {g : Sem'} (hg : Sims g (sem T)) (args : List V) : Sim (d_depend_Of g args) (sem T fn_depend_Of args) := by
  unfold d_depend_Of
  split
  · exact sim_fn tb_depend_Of (Nat.le_of_ble_eq_true rfl) hg (eq_depend_Of g _ _)
  · exact sim_fail

/-- palanquin/depend.holds. -/
def f_depend_holds (G : Sem') (t0 t1 : V) : M Res :=
  (mbox ty_depend_Frame t0).bind fun t2 =>
  (mbox ty_depend_Structure t1).bind fun t3 =>
  (mbox ty_depend_Structure (V.agg [(V.int .i64 0), (V.int .i64 0), V.nils, (V.int .i64 0), V.nils, V.nils])).bind fun t4 =>
  (M.lift (Ax.faddr 4 t2)).bind fun t5 =>
  (mload none t5).bind fun t6 =>
  M.ite t6
    ((M.lift (Ax.faddr 5 t2)).bind fun t7 =>
    (mload (some 6) t7).bind fun t8 =>
    (mstore 6 t4 t8).bind fun _ =>
    (mload (some 6) t4).bind fun r0 =>
    M.pure (.ret [r0]))
    ((mload (some 6) t3).bind fun t9 =>
    (mstore 6 t4 t9).bind fun _ =>
    (mload (some 6) t4).bind fun r0 =>
    M.pure (.ret [r0]))

theorem eq_depend_holds (G : Sem') (t0 t1 : V) : execK G ir_depend_holds.rv ir_depend_holds.body [] [] (params 0 [t0, t1]) = f_depend_holds G t0 t1 := by kernel_rfl

def d_depend_holds (G : Sem') : List V → M V
  | [t0, t1] => fin (f_depend_holds G t0 t1)
  | _ => M.fail

theorem s_depend_holds {g : Sem'} (hg : Sims g (sem T)) (args : List V) : Sim (d_depend_holds g args) (sem T fn_depend_holds args) := by
  unfold d_depend_holds
  split
  · exact sim_fn tb_depend_holds (Nat.le_of_ble_eq_true rfl) hg (eq_depend_holds g _ _)
  · exact sim_fail

/-- palanquin/depend.none. -/
def f_depend_none (G : Sem') (t0 : V) : M Res :=
  (mbox ty_depend_Structure t0).bind fun t1 =>
  (M.lift (Ax.faddr 0 t1)).bind fun t3 =>
  (mload none t3).bind fun t4 =>
  (M.lift (Ax.bin .eql t4 (V.int .i64 0))).bind fun t5 =>
  (guarded [(0, t5)] (some (0, true)) (M.lift (Ax.faddr 1 t1))).bind fun t7 =>
  (guarded [(0, t5)] (some (0, true)) (mload none t7)).bind fun t8 =>
  (guarded [(0, t5)] (some (0, true)) (M.lift (Ax.bin .eql t8 (V.int .i64 0)))).bind fun t9 =>
  (M.lift (Ax.pick t5 t9 (V.bool false))).bind fun t10 =>
  (guarded [(0, t10)] (some (0, true)) (M.lift (Ax.faddr 3 t1))).bind fun t12 =>
  (guarded [(0, t10)] (some (0, true)) (mload none t12)).bind fun t13 =>
  (guarded [(0, t10)] (some (0, true)) (M.lift (Ax.bin .eql t13 (V.int .i64 0)))).bind fun t14 =>
  (M.lift (Ax.pick t10 t14 (V.bool false))).bind fun t15 =>
  (guarded [(0, t15)] (some (0, true)) (M.lift (Ax.faddr 2 t1))).bind fun t17 =>
  (guarded [(0, t15)] (some (0, true)) (mload none t17)).bind fun t18 =>
  (guarded [(0, t15)] (some (0, true)) (M.lift (vlen t18))).bind fun t19 =>
  (guarded [(0, t15)] (some (0, true)) (M.lift (Ax.faddr 4 t1))).bind fun t20 =>
  (guarded [(0, t15)] (some (0, true)) (mload none t20)).bind fun t21 =>
  (guarded [(0, t15)] (some (0, true)) (M.lift (vlen t21))).bind fun t22 =>
  (guarded [(0, t15)] (some (0, true)) (M.lift (Ax.bin .add t19 t22))).bind fun t23 =>
  (guarded [(0, t15)] (some (0, true)) (M.lift (Ax.faddr 5 t1))).bind fun t24 =>
  (guarded [(0, t15)] (some (0, true)) (mload none t24)).bind fun t25 =>
  (guarded [(0, t15)] (some (0, true)) (M.lift (vlen t25))).bind fun t26 =>
  (guarded [(0, t15)] (some (0, true)) (M.lift (Ax.bin .add t23 t26))).bind fun t27 =>
  (guarded [(0, t15)] (some (0, true)) (M.lift (Ax.bin .eql t27 (V.int .i64 0)))).bind fun t28 =>
  (M.lift (Ax.pick t15 t28 (V.bool false))).bind fun t29 =>
  M.pure (.ret [t29])

theorem eq_depend_none (G : Sem') (t0 : V) : execK G ir_depend_none.rv ir_depend_none.body [] [] (params 0 [t0]) = f_depend_none G t0 := by kernel_rfl

def d_depend_none (G : Sem') : List V → M V
  | [t0] => fin (f_depend_none G t0)
  | _ => M.fail

theorem s_depend_none {g : Sem'} (hg : Sims g (sem T)) (args : List V) : Sim (d_depend_none g args) (sem T fn_depend_none args) := by
  unfold d_depend_none
  split
  · exact sim_fn tb_depend_none (Nat.le_of_ble_eq_true rfl) hg (eq_depend_none g _)
  · exact sim_fail

/-- palanquin/depend.within. -/
def f_depend_within (G : Sem') (t0 t1 t2 t3 : V) : M Res :=
  (mbox ty_int t2).bind fun t6 =>
  (mbox ty_int t3).bind fun t7 =>
  (M.lift (vlen t0)).bind fun t10 =>
  (M.lift (Ax.bin .eql t10 t1)).bind fun t12 =>
  (guarded [(0, t12)] (some (0, true)) (M.pure t0)).bind fun t14 =>
  (guarded [(0, t12)] (some (0, true)) (M.pure (.fn fn_depend_within_1 [t6, t7]))).bind fun t15 =>
  (guarded [(0, t12)] (some (0, true)) (G fn_slices_ContainsFunc_int_int [t14, t15])).bind fun t16 =>
  (guarded [(0, t12)] (some (0, true)) (M.lift (Ax.un .not t16))).bind fun t17 =>
  (M.lift (Ax.pick t12 t17 (V.bool false))).bind fun t18 =>
  M.pure (.ret [t18])

theorem eq_depend_within (G : Sem') (t0 t1 t2 t3 : V) : execK G ir_depend_within.rv ir_depend_within.body [] [] (params 0 [t0, t1, t2, t3]) = f_depend_within G t0 t1 t2 t3 := by kernel_rfl

def d_depend_within (G : Sem') : List V → M V
  | [t0, t1, t2, t3] => fin (f_depend_within G t0 t1 t2 t3)
  | _ => M.fail

theorem s_depend_within {g : Sem'} (hg : Sims g (sem T)) (args : List V) : Sim (d_depend_within g args) (sem T fn_depend_within args) := by
  unfold d_depend_within
  split
  · exact sim_fn tb_depend_within (Nat.le_of_ble_eq_true rfl) hg (eq_depend_within g _ _ _ _)
  · exact sim_fail

/-- slices.Equal[[]int,int]. -/
def f_slices_Equal_int_int_0 (G : Sem') (t12 t0 t1 : V) (L : List V) : M Res :=
  (M.lift (Ax.bin .lss (L.getD 0 .undef) t12)).bind fun t14 =>
  M.ite t14
    (M.blk 1 (
      (M.lift (Ax.iaddr none 1 t0 (L.getD 0 .undef))).bind fun t18 =>
      (mload none t18).bind fun t19 =>
      (M.lift (Ax.iaddr none 1 t1 (L.getD 0 .undef))).bind fun t22 =>
      (mload none t22).bind fun t23 =>
      (M.lift (Ax.bin .neq t19 t23)).bind fun t24 =>
      M.ite t24
        (M.pure (.ret [(V.bool false)]))
        (M.pure (.nrm []))) fun _ =>
    (M.lift (Ax.bin .add (L.getD 0 .undef) (V.int .i64 1))).bind fun t25 =>
    M.pure (.nrm [t25]))
    (M.pure (.ex 0 []))

def f_slices_Equal_int_int (G : Sem') (t0 t1 : V) : M Res :=
  (M.lift (vlen t0)).bind fun t7 =>
  (M.lift (vlen t1)).bind fun t9 =>
  (M.lift (Ax.bin .neq t7 t9)).bind fun t10 =>
  M.ite t10
    (M.pure (.ret [(V.bool false)]))
    ((M.lift (vlen t0)).bind fun t12 =>
    M.blk 0 (
      M.iter (f_slices_Equal_int_int_0 G t12 t0 t1) [(V.int .i64 0)]) fun _ =>
    M.pure (.ret [(V.bool true)]))

theorem eq_slices_Equal_int_int (G : Sem') (t0 t1 : V) : execK G ir_slices_Equal_int_int.rv ir_slices_Equal_int_int.body [] [] (params 0 [t0, t1]) = f_slices_Equal_int_int G t0 t1 := by kernel_rfl

def d_slices_Equal_int_int (G : Sem') : List V → M V
  | [t0, t1] => fin (f_slices_Equal_int_int G t0 t1)
  | _ => M.fail

theorem s_slices_Equal_int_int {g : Sem'} (hg : Sims g (sem T)) (args : List V) : Sim (d_slices_Equal_int_int g args) (sem T fn_slices_Equal_int_int args) := by
  unfold d_slices_Equal_int_int
  split
  · exact sim_fn tb_slices_Equal_int_int (Nat.le_of_ble_eq_true rfl) hg (eq_slices_Equal_int_int g _ _)
  · exact sim_fail

/-- palanquin/depend.diffs. -/
def f_depend_diffs (G : Sem') (t0 t1 t2 : V) : M Res :=
  (M.lift (vlen t0)).bind fun t8 =>
  (M.lift (Ax.bin .leq t8 t1)).bind fun t10 =>
  (guarded [(0, t10)] (some (0, true)) (M.pure t0)).bind fun t12 =>
  (guarded [(0, t10)] (some (0, true)) (M.pure t0)).bind fun t13 =>
  (guarded [(0, t10)] (some (0, true)) (M.lift (vlen t13))).bind fun t14 =>
  (guarded [(0, t10)] (some (0, true)) (M.pure t2)).bind fun t15 =>
  (guarded [(0, t10)] (some (0, true)) (G fn_depend_within [t12, t14, (V.int .i64 1), t15])).bind fun t16 =>
  (M.lift (Ax.pick t10 t16 (V.bool false))).bind fun t17 =>
  M.pure (.ret [t17])

theorem eq_depend_diffs (G : Sem') (t0 t1 t2 : V) : execK G ir_depend_diffs.rv ir_depend_diffs.body [] [] (params 0 [t0, t1, t2]) = f_depend_diffs G t0 t1 t2 := by kernel_rfl

def d_depend_diffs (G : Sem') : List V → M V
  | [t0, t1, t2] => fin (f_depend_diffs G t0 t1 t2)
  | _ => M.fail

theorem s_depend_diffs {g : Sem'} (hg : Sims g (sem T)) (args : List V) : Sim (d_depend_diffs g args) (sem T fn_depend_diffs args) := by
  unfold d_depend_diffs
  split
  · exact sim_fn tb_depend_diffs (Nat.le_of_ble_eq_true rfl) hg (eq_depend_diffs g _ _ _)
  · exact sim_fail

/-- palanquin/cast.On. -/
def f_cast_On (G : Sem') (t0 t1 t2 : V) : M Res :=
  (mbox ty_cast_Cast t0).bind fun t3 =>
  (mbox ty_cast_Cast (V.agg [(V.bool false), (V.int .i64 0), (V.int .i64 0)])).bind fun t6 =>
  M.blk 0 (
    (mload (some 3) t3).bind fun t10 =>
    (G fn_cast_Good [t10]).bind fun t11 =>
    (M.lift (Ax.un .not t11)).bind fun t12 =>
    M.ite t12
      ((mload (some 3) t3).bind fun t13 =>
      (mstore 3 t6 t13).bind fun _ =>
      (mload (some 3) t6).bind fun r0 =>
      M.pure (.ret [r0, (V.bool false), (V.bool false)]))
      ((M.lift (Ax.faddr 2 t3)).bind fun t16 =>
      (mload none t16).bind fun t17 =>
      (M.lift (Ax.bin .eql t1 t17)).bind fun t18 =>
      (guarded [(0, t18)] (some (0, true)) (M.pure t2)).bind fun t20 =>
      (M.lift (Ax.pick t18 t20 (V.bool false))).bind fun t21 =>
      (guarded [(0, t21)] (some (0, true)) (mload (some 3) t3)).bind fun t23 =>
      (guarded [(0, t21)] (some (0, true)) (M.pure t1)).bind fun t24 =>
      (guarded [(0, t21)] (some (0, true)) (G fn_cast_Cast_runs [t23, t24])).bind fun t25 =>
      (guarded [(0, t21)] (some (0, true)) (M.lift (Ax.un .not t25))).bind fun t26 =>
      (M.lift (Ax.pick t21 t26 (V.bool false))).bind fun t27 =>
      M.ite t27
        ((M.lift (Ax.faddr 0 t3)).bind fun t29 =>
        (mstore 1 t29 (V.bool true)).bind fun _ =>
        (M.lift (Ax.faddr 1 t3)).bind fun t30 =>
        (mstore 1 t30 t1).bind fun _ =>
        (mload (some 3) t3).bind fun t31 =>
        (mstore 3 t6 t31).bind fun _ =>
        (mload (some 3) t6).bind fun r0 =>
        M.pure (.ret [r0, (V.bool true), (V.bool true)]))
        (M.pure (.nrm [])))) fun _ =>
  (mload (some 3) t3).bind fun t32 =>
  (mload (some 3) t3).bind fun t33 =>
  M.getH.bind fun h0 =>
  (G fn_cast_Cast_runs [t33, t1]).bind fun t35 =>
  M.getH.bind fun h0' =>
  (M.unch t3 h0 h0').bind fun _ =>
  (mstore 3 t6 t32).bind fun _ =>
  (mload (some 3) t6).bind fun r0 =>
  M.pure (.ret [r0, t35, (V.bool false)])

theorem eq_cast_On (G : Sem') (t0 t1 t2 : V) : execK G ir_cast_On.rv ir_cast_On.body [] [] (params 0 [t0, t1, t2]) = f_cast_On G t0 t1 t2 := by kernel_rfl

def d_cast_On (G : Sem') : List V → M V
  | [t0, t1, t2] => fin (f_cast_On G t0 t1 t2)
  | _ => M.fail

theorem s_cast_On {g : Sem'} (hg : Sims g (sem T)) (args : List V) : Sim (d_cast_On g args) (sem T fn_cast_On args) := by
  unfold d_cast_On
  split
  · exact sim_fn tb_cast_On (Nat.le_of_ble_eq_true rfl) hg (eq_cast_On g _ _ _)
  · exact sim_fail

/-- (*palanquin/lane.Lane).whole. -/
def f_lane_Lane_whole (G : Sem') (t0 : V) : M Res :=
  (M.lift (Ax.nilck t0)).bind fun t4 =>
  (M.lift (Ax.faddr 13 t4)).bind fun t5 =>
  (mstore 1 t5 V.nils).bind fun _ =>
  (M.lift (Ax.nilck t0)).bind fun t6 =>
  (M.lift (Ax.faddr 15 t6)).bind fun t7 =>
  (mstore 1 t7 (V.bool false)).bind fun _ =>
  M.pure (.ret [])

theorem eq_lane_Lane_whole (G : Sem') (t0 : V) : execK G ir_lane_Lane_whole.rv ir_lane_Lane_whole.body [] [] (params 0 [t0]) = f_lane_Lane_whole G t0 := by kernel_rfl

def d_lane_Lane_whole (G : Sem') : List V → M V
  | [t0] => fin (f_lane_Lane_whole G t0)
  | _ => M.fail

theorem s_lane_Lane_whole {g : Sem'} (hg : Sims g (sem T)) (args : List V) : Sim (d_lane_Lane_whole g args) (sem T fn_lane_Lane_whole args) := by
  unfold d_lane_Lane_whole
  split
  · exact sim_fn tb_lane_Lane_whole (Nat.le_of_ble_eq_true rfl) hg (eq_lane_Lane_whole g _)
  · exact sim_fail

/-- palanquin/turn.Begin. -/
def f_turn_Begin (G : Sem') (t0 t1 t2 t3 : V) : M Res :=
  (mbox ty_turn_Turn t0).bind fun t4 =>
  (mbox ty_turn_Turn (V.agg [(V.bool false), (V.int .u16 0), (V.int .u32 0), (V.int .u32 0), (V.int .u16 0), (V.int .u16 0), (V.int .i64 0)])).bind fun t8 =>
  (M.lift (Ax.faddr 3 t4)).bind fun t9 =>
  (mstore 1 t9 (V.int .u32 0)).bind fun _ =>
  (M.lift (Ax.faddr 5 t4)).bind fun t10 =>
  (mstore 1 t10 (V.int .u16 0)).bind fun _ =>
  (M.lift (Ax.faddr 0 t4)).bind fun t11 =>
  (mload none t11).bind fun t12 =>
  M.join (M.ite t12
    ((M.lift (Ax.faddr 2 t4)).bind fun t13 =>
    (mload none t13).bind fun t14 =>
    (M.lift (Ax.faddr 6 t4)).bind fun t15 =>
    (mload none t15).bind fun t16 =>
    M.getH.bind fun h0 =>
    (G fn_turn_ticks [t16, t3]).bind fun t18 =>
    M.getH.bind fun h0' =>
    (M.unch t13 h0 h0').bind fun _ =>
    (M.lift (Ax.bin .mul (V.int .u32 90) t18)).bind fun t19 =>
    (M.lift (Ax.bin .add t14 t19)).bind fun t20 =>
    (M.lift (Ax.bin .sub t20 t1)).bind fun t22 =>
    (M.lift (Ax.faddr 3 t4)).bind fun t23 =>
    (mstore 1 t23 t22).bind fun _ =>
    (M.lift (Ax.faddr 4 t4)).bind fun t24 =>
    (mload none t24).bind fun t25 =>
    (M.lift (Ax.bin .add t25 (V.int .u16 1))).bind fun t26 =>
    (M.lift (Ax.bin .sub t26 t2)).bind fun t28 =>
    (M.lift (Ax.faddr 5 t4)).bind fun t29 =>
    (mstore 1 t29 t28).bind fun _ =>
    M.pure (.nrm []))
    (M.pure (.nrm []))) fun _ =>
  (mload (some 7) t4).bind fun t30 =>
  (mstore 7 t8 t30).bind fun _ =>
  (mload (some 7) t8).bind fun r0 =>
  M.pure (.ret [r0])

theorem eq_turn_Begin (G : Sem') (t0 t1 t2 t3 : V) : execK G ir_turn_Begin.rv ir_turn_Begin.body [] [] (params 0 [t0, t1, t2, t3]) = f_turn_Begin G t0 t1 t2 t3 := by kernel_rfl

def d_turn_Begin (G : Sem') : List V → M V
  | [t0, t1, t2, t3] => fin (f_turn_Begin G t0 t1 t2 t3)
  | _ => M.fail

theorem s_turn_Begin {g : Sem'} (hg : Sims g (sem T)) (args : List V) : Sim (d_turn_Begin g args) (sem T fn_turn_Begin args) := by
  unfold d_turn_Begin
  split
  · exact sim_fn tb_turn_Begin (Nat.le_of_ble_eq_true rfl) hg (eq_turn_Begin g _ _ _ _)
  · exact sim_fail

/-- palanquin/pick.Fits. -/
def f_pick_Fits_0 (G : Sem') (t22 t4 t1 t2 t3 t8 t9 : V) (L : List V) : M Res :=
  (M.lift (Ax.bin .lss (L.getD 4 .undef) t22)).bind fun t24 =>
  M.ite t24
    (M.blk 1 (
      (mload (some 6) t4).bind fun t27 =>
      (G fn_depend_Layers [t27, (L.getD 4 .undef)]).bind fun t29 =>
      (M.lift (Ax.ext 0 t29)).bind fun t30 =>
      (M.lift (Ax.ext 1 t29)).bind fun t31 =>
      (M.lift (Ax.ext 2 t29)).bind fun t32 =>
      (M.lift (Ax.un .not t32)).bind fun t34 =>
      (guarded [(0, t34)] (some (0, false)) (M.pure t1)).bind fun t36 =>
      (guarded [(0, t34)] (some (0, false)) (M.pure (L.getD 4 .undef))).bind fun t37 =>
      (guarded [(0, t34)] (some (0, false)) (M.lift (Ax.bin .shr t36 t37))).bind fun t38 =>
      (guarded [(0, t34)] (some (0, false)) (M.lift (Ax.bin .and t38 (V.int .u32 1)))).bind fun t39 =>
      (guarded [(0, t34)] (some (0, false)) (M.lift (Ax.bin .eql t39 (V.int .u32 0)))).bind fun t40 =>
      (M.lift (Ax.pick t34 (V.bool true) t40)).bind fun t41 =>
      (guarded [(0, t41)] (some (0, false)) (M.pure t30)).bind fun t43 =>
      (guarded [(0, t41)] (some (0, false)) (M.pure t2)).bind fun t44 =>
      (guarded [(0, t41)] (some (0, false)) (M.lift (Ax.bin .gtr t43 t44))).bind fun t45 =>
      (M.lift (Ax.pick t41 (V.bool true) t45)).bind fun t46 =>
      (guarded [(0, t46)] (some (0, false)) (M.pure t31)).bind fun t48 =>
      (guarded [(0, t46)] (some (0, false)) (M.pure t3)).bind fun t49 =>
      (guarded [(0, t46)] (some (0, false)) (M.lift (Ax.bin .gtr t48 t49))).bind fun t50 =>
      (M.lift (Ax.pick t46 (V.bool true) t50)).bind fun t51 =>
      M.ite t51
        (M.pure (.ex 1 [(L.getD 0 .undef), (L.getD 1 .undef), (L.getD 2 .undef), (L.getD 3 .undef)]))
        ((M.lift (Ax.un .not (L.getD 3 .undef))).bind fun t53 =>
        (guarded [(0, t53)] (some (0, false)) (M.pure t30)).bind fun t55 =>
        (guarded [(0, t53)] (some (0, false)) (M.pure (L.getD 1 .undef))).bind fun t56 =>
        (guarded [(0, t53)] (some (0, false)) (M.lift (Ax.bin .gtr t55 t56))).bind fun t57 =>
        (M.lift (Ax.pick t53 (V.bool true) t57)).bind fun t58 =>
        (guarded [(0, t58)] (some (0, false)) (M.pure t30)).bind fun t60 =>
        (guarded [(0, t58)] (some (0, false)) (M.pure (L.getD 1 .undef))).bind fun t61 =>
        (guarded [(0, t58)] (some (0, false)) (M.lift (Ax.bin .eql t60 t61))).bind fun t62 =>
        (guarded [(0, t58)] (some (0, false)) (M.pure t62)).bind fun t63 =>
        (guarded [(0, t63)] (some (0, true)) (M.pure t31)).bind fun t64 =>
        (guarded [(0, t63)] (some (0, true)) (M.pure (L.getD 2 .undef))).bind fun t65 =>
        (guarded [(0, t63)] (some (0, true)) (M.lift (Ax.bin .gtr t64 t65))).bind fun t66 =>
        (guarded [(0, t58)] (some (0, false)) (M.lift (Ax.pick t63 t66 (V.bool false)))).bind fun t67 =>
        (M.lift (Ax.pick t58 (V.bool true) t67)).bind fun t68 =>
        M.join (M.ite t68
          (M.pure (.nrm [(L.getD 4 .undef), t30, t31, (V.bool true)]))
          (M.pure (.nrm [(L.getD 0 .undef), (L.getD 1 .undef), (L.getD 2 .undef), (L.getD 3 .undef)]))) fun L0 =>
        M.pure (.nrm [(L0.getD 0 .undef), (L0.getD 1 .undef), (L0.getD 2 .undef), (L0.getD 3 .undef)]))) fun L1 =>
    (M.lift (Ax.bin .add (L.getD 4 .undef) (V.int .i64 1))).bind fun t72 =>
    M.pure (.nrm [(L1.getD 0 .undef), (L1.getD 1 .undef), (L1.getD 2 .undef), (L1.getD 3 .undef), t72]))
    (M.pure (.ex 0 [(L.getD 0 .undef), (L.getD 3 .undef)]))

def f_pick_Fits (G : Sem') (t0 t1 t2 t3 : V) : M Res :=
  (mbox ty_depend_Structure t0).bind fun t4 =>
  (mload (some 6) t4).bind fun t18 =>
  (G fn_depend_Fine [t18]).bind fun t19 =>
  (M.lift (Ax.un .not t19)).bind fun t20 =>
  M.ite t20
    (M.pure (.ret [(V.int .i64 0), (V.bool false)]))
    ((M.lift (Ax.faddr 1 t4)).bind fun t21 =>
    (mload none t21).bind fun t22 =>
    M.blk 0 (
      M.iter (f_pick_Fits_0 G t22 t4 t1 t2 t3 (V.int .i64 0) (V.bool false)) [(V.int .i64 0), (V.int .i64 0), (V.int .i64 0), (V.bool false), (V.int .i64 0)]) fun L2 =>
    M.pure (.ret [(L2.getD 0 .undef), (L2.getD 1 .undef)]))

theorem eq_pick_Fits (G : Sem') (t0 t1 t2 t3 : V) : execK G ir_pick_Fits.rv ir_pick_Fits.body [] [] (params 0 [t0, t1, t2, t3]) = f_pick_Fits G t0 t1 t2 t3 := by kernel_rfl

def d_pick_Fits (G : Sem') : List V → M V
  | [t0, t1, t2, t3] => fin (f_pick_Fits G t0 t1 t2 t3)
  | _ => M.fail

theorem s_pick_Fits {g : Sem'} (hg : Sims g (sem T)) (args : List V) : Sim (d_pick_Fits g args) (sem T fn_pick_Fits args) := by
  unfold d_pick_Fits
  split
  · exact sim_fn tb_pick_Fits (Nat.le_of_ble_eq_true rfl) hg (eq_pick_Fits g _ _ _ _)
  · exact sim_fail

/-- palanquin/pick.In. -/
def f_pick_In (G : Sem') (t0 t1 : V) : M Res :=
  (mbox ty_depend_Frame t0).bind fun t2 =>
  (M.lift (Ax.bin .geq t1 (V.int .i64 0))).bind fun t6 =>
  (guarded [(0, t6)] (some (0, true)) (M.pure t1)).bind fun t8 =>
  (guarded [(0, t6)] (some (0, true)) (M.lift (Ax.faddr 16 t2))).bind fun t9 =>
  (guarded [(0, t6)] (some (0, true)) (mload none t9)).bind fun t10 =>
  (guarded [(0, t6)] (some (0, true)) (M.lift (vlen t10))).bind fun t11 =>
  (guarded [(0, t6)] (some (0, true)) (M.lift (Ax.bin .lss t8 t11))).bind fun t12 =>
  (M.lift (Ax.pick t6 t12 (V.bool false))).bind fun t13 =>
  (guarded [(0, t13)] (some (0, true)) (M.lift (Ax.faddr 16 t2))).bind fun t15 =>
  (guarded [(0, t13)] (some (0, true)) (mload none t15)).bind fun t16 =>
  (guarded [(0, t13)] (some (0, true)) (M.pure t1)).bind fun t17 =>
  (guarded [(0, t13)] (some (0, true)) (M.lift (Ax.iaddr none 1 t16 t17))).bind fun t18 =>
  (guarded [(0, t13)] (some (0, true)) (mload none t18)).bind fun t19 =>
  (guarded [(0, t13)] (some (0, true)) (M.lift (Ax.bin .neq t19 (V.int .i64 0)))).bind fun t20 =>
  (M.lift (Ax.pick t13 t20 (V.bool false))).bind fun t21 =>
  M.pure (.ret [t21])

theorem eq_pick_In (G : Sem') (t0 t1 : V) : execK G ir_pick_In.rv ir_pick_In.body [] [] (params 0 [t0, t1]) = f_pick_In G t0 t1 := by kernel_rfl

def d_pick_In (G : Sem') : List V → M V
  | [t0, t1] => fin (f_pick_In G t0 t1)
  | _ => M.fail

theorem s_pick_In {g : Sem'} (hg : Sims g (sem T)) (args : List V) : Sim (d_pick_In g args) (sem T fn_pick_In args) := by
  unfold d_pick_In
  split
  · exact sim_fn tb_pick_In (Nat.le_of_ble_eq_true rfl) hg (eq_pick_In g _ _)
  · exact sim_fail

/-- palanquin/refs.Fit. -/
def f_refs_Fit_0 (G : Sem') (t10 t9 t0 t1 : V) (L : List V) : M Res :=
  (M.lift (Ax.bin .lss (L.getD 0 .undef) t10)).bind fun t12 =>
  M.ite t12
    (M.blk 1 (
      (M.lift (Ax.iaddr none 1 t9 (L.getD 0 .undef))).bind fun t13 =>
      (mload none t13).bind fun t14 =>
      (M.lift (Ax.bin .lss t14 (V.int .i64 1))).bind fun t16 =>
      (guarded [(0, t16)] (some (0, false)) (M.pure t14)).bind fun t18 =>
      (guarded [(0, t16)] (some (0, false)) (M.lift (Ax.bin .gtr t18 (V.int .i64 4096)))).bind fun t19 =>
      (M.lift (Ax.pick t16 (V.bool true) t19)).bind fun t20 =>
      (guarded [(0, t20)] (some (0, false)) (M.pure t0)).bind fun t22 =>
      (guarded [(0, t20)] (some (0, false)) (M.pure t1)).bind fun t23 =>
      (guarded [(0, t20)] (some (0, false)) (M.pure t14)).bind fun t24 =>
      (guarded [(0, t20)] (some (0, false)) (M.lift (Ax.cint .u16 t24))).bind fun t25 =>
      (guarded [(0, t20)] (some (0, false)) (M.lift (Ax.bin .sub t23 t25))).bind fun t26 =>
      (guarded [(0, t20)] (some (0, false)) (G fn_refs_Has [t22, t26])).bind fun t27 =>
      (guarded [(0, t20)] (some (0, false)) (M.lift (Ax.un .not t27))).bind fun t28 =>
      (M.lift (Ax.pick t20 (V.bool true) t28)).bind fun t29 =>
      M.ite t29
        (M.pure (.ret [(V.bool false)]))
        (M.pure (.nrm []))) fun _ =>
    (M.lift (Ax.bin .add (L.getD 0 .undef) (V.int .i64 1))).bind fun t30 =>
    M.pure (.nrm [t30]))
    (M.pure (.ex 0 []))

def f_refs_Fit (G : Sem') (t0 t1 t2 : V) : M Res :=
  (M.lift (vlen t2)).bind fun t10 =>
  M.blk 0 (
    M.iter (f_refs_Fit_0 G t10 t2 t0 t1) [(V.int .i64 0)]) fun _ =>
  M.pure (.ret [(V.bool true)])

theorem eq_refs_Fit (G : Sem') (t0 t1 t2 : V) : execK G ir_refs_Fit.rv ir_refs_Fit.body [] [] (params 0 [t0, t1, t2]) = f_refs_Fit G t0 t1 t2 := by kernel_rfl

def d_refs_Fit (G : Sem') : List V → M V
  | [t0, t1, t2] => fin (f_refs_Fit G t0 t1 t2)
  | _ => M.fail

theorem s_refs_Fit {g : Sem'} (hg : Sims g (sem T)) (args : List V) : Sim (d_refs_Fit g args) (sem T fn_refs_Fit args) := by
  unfold d_refs_Fit
  split
  · exact sim_fn tb_refs_Fit (Nat.le_of_ble_eq_true rfl) hg (eq_refs_Fit g _ _ _)
  · exact sim_fail

/-- palanquin/refs.Has. -/
def f_refs_Has (G : Sem') (t0 t1 : V) : M Res :=
  (G fn_slices_Contains_uint16_uint16 [t0, t1]).bind fun t7 =>
  M.pure (.ret [t7])

theorem eq_refs_Has (G : Sem') (t0 t1 : V) : execK G ir_refs_Has.rv ir_refs_Has.body [] [] (params 0 [t0, t1]) = f_refs_Has G t0 t1 := by kernel_rfl

def d_refs_Has (G : Sem') : List V → M V
  | [t0, t1] => fin (f_refs_Has G t0 t1)
  | _ => M.fail

theorem s_refs_Has {g : Sem'} (hg : Sims g (sem T)) (args : List V) : Sim (d_refs_Has g args) (sem T fn_refs_Has args) := by
  unfold d_refs_Has
  split
  · exact sim_fn tb_refs_Has (Nat.le_of_ble_eq_true rfl) hg (eq_refs_Has g _ _)
  · exact sim_fail

/-- slices.Clone[[]uint16,uint16]. -/
def f_slices_Clone_uint16_uint16 (G : Sem') (t0 : V) : M Res :=
  (M.lift (eqr .sl false t0 V.nils)).bind fun t4 =>
  M.ite t4
    (M.pure (.ret [V.nils]))
    ((mslit ty_uint16 0 [(V.int .u16 0)] []).bind fun t5 =>
    (mappend ty_uint16 1 2 t5 t0).bind fun t7 =>
    M.pure (.ret [t7]))

theorem eq_slices_Clone_uint16_uint16 (G : Sem') (t0 : V) : execK G ir_slices_Clone_uint16_uint16.rv ir_slices_Clone_uint16_uint16.body [] [] (params 0 [t0]) = f_slices_Clone_uint16_uint16 G t0 := by kernel_rfl

def d_slices_Clone_uint16_uint16 (G : Sem') : List V → M V
  | [t0] => fin (f_slices_Clone_uint16_uint16 G t0)
  | _ => M.fail

theorem s_slices_Clone_uint16_uint16 {g : Sem'} (hg : Sims g (sem T)) (args : List V) : Sim (d_slices_Clone_uint16_uint16 g args) (sem T fn_slices_Clone_uint16_uint16 args) := by
  unfold d_slices_Clone_uint16_uint16
  split
  · exact sim_fn tb_slices_Clone_uint16_uint16 (Nat.le_of_ble_eq_true rfl) hg (eq_slices_Clone_uint16_uint16 g _)
  · exact sim_fail

/-- slices.Contains[[]uint16,uint16]. -/
def f_slices_Contains_uint16_uint16 (G : Sem') (t0 t1 : V) : M Res :=
  (G fn_slices_Index_uint16_uint16 [t0, t1]).bind fun t7 =>
  (M.lift (Ax.bin .geq t7 (V.int .i64 0))).bind fun t8 =>
  M.pure (.ret [t8])

theorem eq_slices_Contains_uint16_uint16 (G : Sem') (t0 t1 : V) : execK G ir_slices_Contains_uint16_uint16.rv ir_slices_Contains_uint16_uint16.body [] [] (params 0 [t0, t1]) = f_slices_Contains_uint16_uint16 G t0 t1 := by kernel_rfl

def d_slices_Contains_uint16_uint16 (G : Sem') : List V → M V
  | [t0, t1] => fin (f_slices_Contains_uint16_uint16 G t0 t1)
  | _ => M.fail

theorem s_slices_Contains_uint16_uint16 {g : Sem'} (hg : Sims g (sem T)) (args : List V) : Sim (d_slices_Contains_uint16_uint16 g args) (sem T fn_slices_Contains_uint16_uint16 args) := by
  unfold d_slices_Contains_uint16_uint16
  split
  · exact sim_fn tb_slices_Contains_uint16_uint16 (Nat.le_of_ble_eq_true rfl) hg (eq_slices_Contains_uint16_uint16 g _ _)
  · exact sim_fail

/-- slices.Reverse[[]uint16,uint16]. -/
def f_slices_Reverse_uint16_uint16_0 (G : Sem') (t0 : V) (L : List V) : M Res :=
  (M.lift (Ax.bin .lss (L.getD 0 .undef) (L.getD 1 .undef))).bind fun t9 =>
  M.ite t9
    (M.blk 1 (
      (M.lift (Ax.iaddr none 1 t0 (L.getD 1 .undef))).bind fun t20 =>
      (mload none t20).bind fun t21 =>
      (M.lift (Ax.iaddr none 1 t0 (L.getD 0 .undef))).bind fun t24 =>
      (mload none t24).bind fun t25 =>
      (M.lift (Ax.iaddr none 1 t0 (L.getD 0 .undef))).bind fun t26 =>
      (mstore 1 t26 t21).bind fun _ =>
      (M.lift (Ax.iaddr none 1 t0 (L.getD 1 .undef))).bind fun t27 =>
      (mstore 1 t27 t25).bind fun _ =>
      M.pure (.nrm [])) fun _ =>
    (M.lift (Ax.bin .add (L.getD 0 .undef) (V.int .i64 1))).bind fun t11 =>
    (M.lift (Ax.bin .sub (L.getD 1 .undef) (V.int .i64 1))).bind fun t13 =>
    M.pure (.nrm [t11, t13]))
    (M.pure (.ex 0 []))

def f_slices_Reverse_uint16_uint16 (G : Sem') (t0 : V) : M Res :=
  (M.lift (vlen t0)).bind fun t5 =>
  (M.lift (Ax.bin .sub t5 (V.int .i64 1))).bind fun t6 =>
  M.blk 0 (
    M.iter (f_slices_Reverse_uint16_uint16_0 G t0) [(V.int .i64 0), t6]) fun _ =>
  M.pure (.ret [])

theorem eq_slices_Reverse_uint16_uint16 (G : Sem') (t0 : V) : execK G ir_slices_Reverse_uint16_uint16.rv ir_slices_Reverse_uint16_uint16.body [] [] (params 0 [t0]) = f_slices_Reverse_uint16_uint16 G t0 := by kernel_rfl

def d_slices_Reverse_uint16_uint16 (G : Sem') : List V → M V
  | [t0] => fin (f_slices_Reverse_uint16_uint16 G t0)
  | _ => M.fail

theorem s_slices_Reverse_uint16_uint16 {g : Sem'} (hg : Sims g (sem T)) (args : List V) : Sim (d_slices_Reverse_uint16_uint16 g args) (sem T fn_slices_Reverse_uint16_uint16 args) := by
  unfold d_slices_Reverse_uint16_uint16
  split
  · exact sim_fn tb_slices_Reverse_uint16_uint16 (Nat.le_of_ble_eq_true rfl) hg (eq_slices_Reverse_uint16_uint16 g _)
  · exact sim_fail

/-- palanquin/rtp.copied. -/
def f_rtp_copied_0 (G : Sem') (t18 t1 t2 : V) (L : List V) : M Res :=
  (M.lift (Ax.bin .lss (L.getD 0 .undef) t18)).bind fun t20 =>
  M.ite t20
    (M.blk 1 (
      (M.lift (Ax.faddr 7 t1)).bind fun t22 =>
      (mload none t22).bind fun t23 =>
      (M.lift (Ax.faddr 7 t1)).bind fun t25 =>
      (mload none t25).bind fun t26 =>
      (M.lift (Ax.iaddr none 2 t26 (L.getD 0 .undef))).bind fun t28 =>
      (M.lift (Ax.faddr 1 t28)).bind fun t29 =>
      (mload none t29).bind fun t30 =>
      M.getH.bind fun h2 =>
      (G fn_bytes_Clone [t30]).bind fun t31 =>
      M.getH.bind fun h2' =>
      (M.unch t22 h2 h2').bind fun _ =>
      (M.lift (Ax.iaddr none 2 t23 (L.getD 0 .undef))).bind fun t32 =>
      (M.lift (Ax.faddr 1 t32)).bind fun t33 =>
      (mstore 1 t33 t31).bind fun _ =>
      M.pure (.nrm [])) fun _ =>
    (M.lift (Ax.bin .add (L.getD 0 .undef) (V.int .i64 1))).bind fun t34 =>
    M.pure (.nrm [t34]))
    (M.pure (.ex 0 []))

def f_rtp_copied (G : Sem') (t0 : V) : M Res :=
  (mbox ty_rtp_Packet t0).bind fun t1 =>
  (mbox ty_rtp_Packet (V.agg [(V.bool false), (V.int .i64 0), (V.int .u16 0), (V.int .u32 0), (V.int .u32 0), V.nils, (V.int .i64 0), V.nils, (V.int .i64 0), V.nils])).bind fun t2 =>
  (M.lift (Ax.faddr 5 t1)).bind fun t4 =>
  (mload none t4).bind fun t5 =>
  (M.lift (Ax.faddr 9 t1)).bind fun t7 =>
  (mload none t7).bind fun t8 =>
  (M.lift (Ax.faddr 7 t1)).bind fun t10 =>
  (mload none t10).bind fun t11 =>
  M.getH.bind fun h0 =>
  (G fn_slices_Clone_uint32_uint32 [t5]).bind fun t6 =>
  M.getH.bind fun h0' =>
  (M.unch t10 h0 h0').bind fun _ =>
  (M.unch t7 h0 h0').bind fun _ =>
  M.getH.bind fun h1 =>
  (G fn_bytes_Clone [t8]).bind fun t9 =>
  M.getH.bind fun h1' =>
  (M.unch t10 h1 h1').bind fun _ =>
  (G fn_slices_Clone_rtp_Ext_rtp_Ext [t11]).bind fun t12 =>
  (M.lift (Ax.faddr 5 t1)).bind fun t13 =>
  (mstore 1 t13 t6).bind fun _ =>
  (M.lift (Ax.faddr 9 t1)).bind fun t14 =>
  (mstore 1 t14 t9).bind fun _ =>
  (M.lift (Ax.faddr 7 t1)).bind fun t15 =>
  (mstore 1 t15 t12).bind fun _ =>
  (M.lift (Ax.faddr 7 t1)).bind fun t16 =>
  (mload none t16).bind fun t17 =>
  (M.lift (vlen t17)).bind fun t18 =>
  M.blk 0 (
    M.iter (f_rtp_copied_0 G t18 t1 t2) [(V.int .i64 0)]) fun _ =>
  (mload (some 10) t1).bind fun t35 =>
  (mstore 10 t2 t35).bind fun _ =>
  (mload (some 10) t2).bind fun r0 =>
  M.pure (.ret [r0])

theorem eq_rtp_copied (G : Sem') (t0 : V) : execK G ir_rtp_copied.rv ir_rtp_copied.body [] [] (params 0 [t0]) = f_rtp_copied G t0 := by kernel_rfl

def d_rtp_copied (G : Sem') : List V → M V
  | [t0] => fin (f_rtp_copied G t0)
  | _ => M.fail

theorem s_rtp_copied {g : Sem'} (hg : Sims g (sem T)) (args : List V) : Sim (d_rtp_copied g args) (sem T fn_rtp_copied args) := by
  unfold d_rtp_copied
  split
  · exact sim_fn tb_rtp_copied (Nat.le_of_ble_eq_true rfl) hg (eq_rtp_copied g _)
  · exact sim_fail

/-- (*palanquin/ring.Ring).at. -/
def f_ring_Ring_at (G : Sem') (t0 t1 : V) : M Res :=
  (mbox ty_uint16 t1).bind fun t3 =>
  (M.lift (Ax.nilck t0)).bind fun t6 =>
  (M.lift (Ax.faddr 0 t6)).bind fun t7 =>
  (mload none t7).bind fun t8 =>
  (M.pure (.fn fn_ring_Ring_at_1 [t3])).bind fun t9 =>
  (G fn_slices_IndexFunc_ring_entry_ring_entry [t8, t9]).bind fun t10 =>
  M.pure (.ret [t10])

theorem eq_ring_Ring_at (G : Sem') (t0 t1 : V) : execK G ir_ring_Ring_at.rv ir_ring_Ring_at.body [] [] (params 0 [t0, t1]) = f_ring_Ring_at G t0 t1 := by kernel_rfl

def d_ring_Ring_at (G : Sem') : List V → M V
  | [t0, t1] => fin (f_ring_Ring_at G t0 t1)
  | _ => M.fail

theorem s_ring_Ring_at {g : Sem'} (hg : Sims g (sem T)) (args : List V) : Sim (d_ring_Ring_at g args) (sem T fn_ring_Ring_at args) := by
  unfold d_ring_Ring_at
  split
  · exact sim_fn tb_ring_Ring_at (Nat.le_of_ble_eq_true rfl) hg (eq_ring_Ring_at g _ _)
  · exact sim_fail

/-- slices.Delete[[]palanquin/ring.entry,palanquin/ring.entry]. -/
def f_slices_Delete_ring_entry_ring_entry (G : Sem') (t0 t1 t2 : V) : M Res :=
  (M.lift (vlen t0)).bind fun t12 =>
  (M.lift (vslice .sl 2 t0 (some t1) (some t2) (some t12))).bind fun t13 =>
  (M.lift (Ax.bin .eql t1 t2)).bind fun t16 =>
  M.ite t16
    (M.pure (.ret [t0]))
    ((M.lift (vlen t0)).bind fun t19 =>
    (M.lift (vslice .sl 2 t0 none (some t1) none)).bind fun t22 =>
    (M.lift (vslice .sl 2 t0 (some t2) none none)).bind fun t25 =>
    (mappend ty_ring_entry 2 32 t22 t25).bind fun t26 =>
    (M.lift (vlen t26)).bind fun t29 =>
    (mslice2 2 t26 t29 t19).bind fun t31 =>
    (mclear [(V.int .u16 0), V.nils] t31).bind fun _ =>
    M.pure (.ret [t26]))

theorem eq_slices_Delete_ring_entry_ring_entry (G : Sem') (t0 t1 t2 : V) : execK G ir_slices_Delete_ring_entry_ring_entry.rv ir_slices_Delete_ring_entry_ring_entry.body [] [] (params 0 [t0, t1, t2]) = f_slices_Delete_ring_entry_ring_entry G t0 t1 t2 := by kernel_rfl

def d_slices_Delete_ring_entry_ring_entry (G : Sem') : List V → M V
  | [t0, t1, t2] => fin (f_slices_Delete_ring_entry_ring_entry G t0 t1 t2)
  | _ => M.fail

theorem s_slices_Delete_ring_entry_ring_entry {g : Sem'} (hg : Sims g (sem T)) (args : List V) : Sim (d_slices_Delete_ring_entry_ring_entry g args) (sem T fn_slices_Delete_ring_entry_ring_entry args) := by
  unfold d_slices_Delete_ring_entry_ring_entry
  split
  · exact sim_fn tb_slices_Delete_ring_entry_ring_entry (Nat.le_of_ble_eq_true rfl) hg (eq_slices_Delete_ring_entry_ring_entry g _ _ _)
  · exact sim_fail

/-- palanquin/rtp.exts. -/
def f_rtp_exts_0 (G : Sem') (t0 : V) (L : List V) : M Res :=
  (M.lift (vlen (L.getD 0 .undef))).bind fun t11 =>
  (M.lift (Ax.bin .gtr t11 (V.int .i64 0))).bind fun t12 =>
  M.ite t12
    (M.blk 1 (
      (M.lift (Ax.iaddr none 1 (L.getD 0 .undef) (V.int .i64 0))).bind fun t14 =>
      (mload none t14).bind fun t15 =>
      (M.lift (Ax.bin .eql t15 (V.int .u8 0))).bind fun t16 =>
      M.ite t16
        ((M.lift (vslice .sl 1 (L.getD 0 .undef) (some (V.int .i64 1)) none none)).bind fun t18 =>
        M.pure (.ex 1 [t18, (L.getD 1 .undef)]))
        ((M.lift (Ax.bin .eql t0 (V.int .i64 48862))).bind fun t20 =>
        (guarded [(0, t20)] (some (0, true)) (M.pure (L.getD 0 .undef))).bind fun t22 =>
        (guarded [(0, t20)] (some (0, true)) (M.lift (Ax.iaddr none 1 t22 (V.int .i64 0)))).bind fun t23 =>
        (guarded [(0, t20)] (some (0, true)) (mload none t23)).bind fun t24 =>
        (guarded [(0, t20)] (some (0, true)) (M.lift (Ax.bin .shr t24 (V.int .u64 4)))).bind fun t25 =>
        (guarded [(0, t20)] (some (0, true)) (M.lift (Ax.bin .eql t25 (V.int .u8 15)))).bind fun t26 =>
        (M.lift (Ax.pick t20 t26 (V.bool false))).bind fun t27 =>
        M.ite t27
          (M.pure (.ex 0 [(L.getD 1 .undef)]))
          ((G fn_rtp_element [t0, (L.getD 0 .undef)]).bind fun t31 =>
          (M.lift (Ax.ext 0 t31)).bind fun t32 =>
          (M.lift (Ax.ext 1 t31)).bind fun t33 =>
          (M.lift (Ax.ext 2 t31)).bind fun t34 =>
          (mbox ty_rtp_Ext (V.agg [(V.int .i64 0), V.nils])).bind fun t7 =>
          (mstore 2 t7 t32).bind fun _ =>
          (M.lift (Ax.un .not t34)).bind fun t36 =>
          M.ite t36
            (M.pure (.ret [V.nils, (V.bool false)]))
            ((mload (some 2) t7).bind fun t38 =>
            (mslit ty_rtp_Ext 1 [(V.int .i64 0), V.nils] [(0, 2, t38)]).bind fun t39 =>
            (mappend ty_rtp_Ext 2 32 (L.getD 1 .undef) t39).bind fun t40 =>
            (M.lift (vslice .sl 1 (L.getD 0 .undef) (some t33) none none)).bind fun t43 =>
            M.pure (.nrm [t43, t40]))))) fun L0 =>
    M.pure (.nrm [(L0.getD 0 .undef), (L0.getD 1 .undef)]))
    (M.pure (.ex 0 [(L.getD 1 .undef)]))

def f_rtp_exts (G : Sem') (t0 t1 : V) : M Res :=
  M.blk 0 (
    M.iter (f_rtp_exts_0 G t0) [t1, V.nils]) fun L1 =>
  M.pure (.ret [(L1.getD 0 .undef), (V.bool true)])

theorem eq_rtp_exts (G : Sem') (t0 t1 : V) : execK G ir_rtp_exts.rv ir_rtp_exts.body [] [] (params 0 [t0, t1]) = f_rtp_exts G t0 t1 := by kernel_rfl

def d_rtp_exts (G : Sem') : List V → M V
  | [t0, t1] => fin (f_rtp_exts G t0 t1)
  | _ => M.fail

theorem s_rtp_exts {g : Sem'} (hg : Sims g (sem T)) (args : List V) : Sim (d_rtp_exts g args) (sem T fn_rtp_exts args) := by
  unfold d_rtp_exts
  split
  · exact sim_fn tb_rtp_exts (Nat.le_of_ble_eq_true rfl) hg (eq_rtp_exts g _ _)
  · exact sim_fail

/-- palanquin/palanquinref9.Of. -/
def f_palanquinref9_Of (G : Sem') (t0 t1 : V) : M Res :=
  (mbox ty_palanquinref9_Frame t0).bind fun t2 =>
  (mbox ty_palanquinref9_Structure t1).bind fun t3 =>
  (mbox ty_palanquinref9_Template (V.agg [(V.int .i64 0), (V.int .i64 0), V.nils, V.nils, V.nils])).bind fun t4 =>
  (mload (some 19) t2).bind fun t8 =>
  (mload (some 6) t3).bind fun t9 =>
  (G fn_palanquinref9_holds [t8, t9]).bind fun t10 =>
  (mbox ty_palanquinref9_Structure (V.agg [(V.int .i64 0), (V.int .i64 0), V.nils, (V.int .i64 0), V.nils, V.nils])).bind fun t6 =>
  (mstore 6 t6 t10).bind fun _ =>
  (M.lift (Ax.faddr 2 t2)).bind fun t11 =>
  (mload none t11).bind fun t12 =>
  (M.lift (Ax.bin .lss t12 (V.int .i64 0))).bind fun t13 =>
  (guarded [(0, t13)] (some (0, false)) (M.lift (Ax.faddr 2 t2))).bind fun t15 =>
  (guarded [(0, t13)] (some (0, false)) (mload none t15)).bind fun t16 =>
  (guarded [(0, t13)] (some (0, false)) (M.lift (Ax.bin .gtr t16 (V.int .i64 63)))).bind fun t17 =>
  (M.lift (Ax.pick t13 (V.bool true) t17)).bind fun t18 =>
  (guarded [(0, t18)] (some (0, false)) (mload (some 6) t6)).bind fun t20 =>
  (guarded [(0, t18)] (some (0, false)) (G fn_palanquinref9_Fine [t20])).bind fun t21 =>
  (guarded [(0, t18)] (some (0, false)) (M.lift (Ax.un .not t21))).bind fun t22 =>
  (M.lift (Ax.pick t18 (V.bool true) t22)).bind fun t23 =>
  M.ite t23
    ((M.lift (Ax.build [(V.int .i64 0), (V.int .i64 0), V.nils, V.nils, V.nils] [])).bind fun t24 =>
    (mstore 5 t4 t24).bind fun _ =>
    (mload (some 5) t4).bind fun r0 =>
    M.pure (.ret [r0, (V.bool false)]))
    ((M.lift (Ax.faddr 2 t2)).bind fun t25 =>
    (mload none t25).bind fun t26 =>
    (M.lift (Ax.bin .add t26 (V.int .i64 64))).bind fun t27 =>
    (M.lift (Ax.faddr 0 t6)).bind fun t28 =>
    (mload none t28).bind fun t29 =>
    (M.lift (Ax.bin .sub t27 t29)).bind fun t30 =>
    (M.lift (Ax.bin .rem t30 (V.int .i64 64))).bind fun t31 =>
    (M.lift (Ax.faddr 2 t6)).bind fun t33 =>
    (mload none t33).bind fun t34 =>
    (M.lift (vlen t34)).bind fun t35 =>
    (M.lift (Ax.bin .geq t31 t35)).bind fun t36 =>
    M.ite t36
      ((M.lift (Ax.build [(V.int .i64 0), (V.int .i64 0), V.nils, V.nils, V.nils] [])).bind fun t37 =>
      (mstore 5 t4 t37).bind fun _ =>
      (mload (some 5) t4).bind fun r0 =>
      M.pure (.ret [r0, (V.bool false)]))
      ((M.lift (Ax.faddr 2 t6)).bind fun t38 =>
      (mload none t38).bind fun t39 =>
      (M.lift (Ax.iaddr none 5 t39 t31)).bind fun t41 =>
      (mload (some 5) t41).bind fun t42 =>
      (mstore 5 t4 t42).bind fun _ =>
      (mload (some 5) t4).bind fun r0 =>
      M.pure (.ret [r0, (V.bool true)])))

theorem eq_palanquinref9_Of (G : Sem') (t0 t1 : V) : execK G ir_palanquinref9_Of.rv ir_palanquinref9_Of.body [] [] (params 0 [t0, t1]) = f_palanquinref9_Of G t0 t1 := by kernel_rfl

def d_palanquinref9_Of (G : Sem') : List V → M V
  | [t0, t1] => fin (f_palanquinref9_Of G t0 t1)
  | _ => M.fail

theorem s_palanquinref9_Of {g : Sem'} (hg : Sims g (sem T)) (args : List V) : Sim (d_palanquinref9_Of g args) (sem T fn_palanquinref9_Of args) := by
  unfold d_palanquinref9_Of
  split
  · exact sim_fn tb_palanquinref9_Of (Nat.le_of_ble_eq_true rfl) hg (eq_palanquinref9_Of g _ _)
  · exact sim_fail

/-- palanquin/palanquinref9.zero. -/
def f_palanquinref9_zero (G : Sem') (t0 : V) : M Res :=
  (mbox ty_palanquinref9_Structure t0).bind fun t1 =>
  (M.lift (Ax.faddr 0 t1)).bind fun t3 =>
  (mload none t3).bind fun t4 =>
  (M.lift (Ax.bin .eql t4 (V.int .i64 0))).bind fun t5 =>
  (guarded [(0, t5)] (some (0, true)) (M.lift (Ax.faddr 1 t1))).bind fun t7 =>
  (guarded [(0, t5)] (some (0, true)) (mload none t7)).bind fun t8 =>
  (guarded [(0, t5)] (some (0, true)) (M.lift (Ax.bin .eql t8 (V.int .i64 0)))).bind fun t9 =>
  (M.lift (Ax.pick t5 t9 (V.bool false))).bind fun t10 =>
  (guarded [(0, t10)] (some (0, true)) (M.lift (Ax.faddr 2 t1))).bind fun t12 =>
  (guarded [(0, t10)] (some (0, true)) (mload none t12)).bind fun t13 =>
  (guarded [(0, t10)] (some (0, true)) (M.lift (vlen t13))).bind fun t14 =>
  (guarded [(0, t10)] (some (0, true)) (M.lift (Ax.bin .eql t14 (V.int .i64 0)))).bind fun t15 =>
  (M.lift (Ax.pick t10 t15 (V.bool false))).bind fun t16 =>
  (guarded [(0, t16)] (some (0, true)) (M.lift (Ax.faddr 3 t1))).bind fun t18 =>
  (guarded [(0, t16)] (some (0, true)) (mload none t18)).bind fun t19 =>
  (guarded [(0, t16)] (some (0, true)) (M.lift (Ax.bin .eql t19 (V.int .i64 0)))).bind fun t20 =>
  (M.lift (Ax.pick t16 t20 (V.bool false))).bind fun t21 =>
  (guarded [(0, t21)] (some (0, true)) (M.lift (Ax.faddr 4 t1))).bind fun t23 =>
  (guarded [(0, t21)] (some (0, true)) (mload none t23)).bind fun t24 =>
  (guarded [(0, t21)] (some (0, true)) (M.lift (vlen t24))).bind fun t25 =>
  (guarded [(0, t21)] (some (0, true)) (M.lift (Ax.bin .eql t25 (V.int .i64 0)))).bind fun t26 =>
  (M.lift (Ax.pick t21 t26 (V.bool false))).bind fun t27 =>
  (guarded [(0, t27)] (some (0, true)) (M.lift (Ax.faddr 5 t1))).bind fun t29 =>
  (guarded [(0, t27)] (some (0, true)) (mload none t29)).bind fun t30 =>
  (guarded [(0, t27)] (some (0, true)) (M.lift (vlen t30))).bind fun t31 =>
  (guarded [(0, t27)] (some (0, true)) (M.lift (Ax.bin .eql t31 (V.int .i64 0)))).bind fun t32 =>
  (M.lift (Ax.pick t27 t32 (V.bool false))).bind fun t33 =>
  M.pure (.ret [t33])

theorem eq_palanquinref9_zero (G : Sem') (t0 : V) : execK G ir_palanquinref9_zero.rv ir_palanquinref9_zero.body [] [] (params 0 [t0]) = f_palanquinref9_zero G t0 := by kernel_rfl

def d_palanquinref9_zero (G : Sem') : List V → M V
  | [t0] => fin (f_palanquinref9_zero G t0)
  | _ => M.fail

theorem s_palanquinref9_zero {g : Sem'} (hg : Sims g (sem T)) (args : List V) : Sim (d_palanquinref9_zero g args) (sem T fn_palanquinref9_zero args) := by
  unfold d_palanquinref9_zero
  split
  · exact sim_fn tb_palanquinref9_zero (Nat.le_of_ble_eq_true rfl) hg (eq_palanquinref9_zero g _)
  · exact sim_fail

/-- palanquin/palanquinref9.SameInts. -/
def f_palanquinref9_SameInts_0 (G : Sem') (t0 t1 : V) (L : List V) : M Res :=
  (M.lift (vlen t0)).bind fun t13 =>
  (M.lift (Ax.bin .lss (L.getD 0 .undef) t13)).bind fun t14 =>
  M.ite t14
    (M.blk 1 (
      (M.lift (Ax.iaddr none 1 t0 (L.getD 0 .undef))).bind fun t19 =>
      (mload none t19).bind fun t20 =>
      (M.lift (Ax.iaddr none 1 t1 (L.getD 0 .undef))).bind fun t23 =>
      (mload none t23).bind fun t24 =>
      (M.lift (Ax.bin .neq t20 t24)).bind fun t25 =>
      M.ite t25
        (M.pure (.ret [(V.bool false)]))
        (M.pure (.nrm []))) fun _ =>
    (M.lift (Ax.bin .add (L.getD 0 .undef) (V.int .i64 1))).bind fun t16 =>
    M.pure (.nrm [t16]))
    (M.pure (.ex 0 []))

def f_palanquinref9_SameInts (G : Sem') (t0 t1 : V) : M Res :=
  (M.lift (vlen t0)).bind fun t7 =>
  (M.lift (vlen t1)).bind fun t9 =>
  (M.lift (Ax.bin .neq t7 t9)).bind fun t10 =>
  M.ite t10
    (M.pure (.ret [(V.bool false)]))
    (M.blk 0 (
      M.iter (f_palanquinref9_SameInts_0 G t0 t1) [(V.int .i64 0)]) fun _ =>
    M.pure (.ret [(V.bool true)]))

theorem eq_palanquinref9_SameInts (G : Sem') (t0 t1 : V) : execK G ir_palanquinref9_SameInts.rv ir_palanquinref9_SameInts.body [] [] (params 0 [t0, t1]) = f_palanquinref9_SameInts G t0 t1 := by kernel_rfl

def d_palanquinref9_SameInts (G : Sem') : List V → M V
  | [t0, t1] => fin (f_palanquinref9_SameInts G t0 t1)
  | _ => M.fail

theorem s_palanquinref9_SameInts {g : Sem'} (hg : Sims g (sem T)) (args : List V) : Sim (d_palanquinref9_SameInts g args) (sem T fn_palanquinref9_SameInts args) := by
  unfold d_palanquinref9_SameInts
  split
  · exact sim_fn tb_palanquinref9_SameInts (Nat.le_of_ble_eq_true rfl) hg (eq_palanquinref9_SameInts g _ _)
  · exact sim_fail

/-- palanquin/palanquinref9.within. -/
def f_palanquinref9_within_0 (G : Sem') (t2 t0 t3 : V) (L : List V) : M Res :=
  (M.lift (vlen t0)).bind fun t20 =>
  (M.lift (Ax.bin .lss (L.getD 0 .undef) t20)).bind fun t21 =>
  M.ite t21
    (M.blk 1 (
      (M.lift (Ax.iaddr none 1 t0 (L.getD 0 .undef))).bind fun t26 =>
      (mload none t26).bind fun t27 =>
      (M.lift (Ax.bin .lss t27 t2)).bind fun t29 =>
      (guarded [(0, t29)] (some (0, false)) (M.pure t0)).bind fun t31 =>
      (guarded [(0, t29)] (some (0, false)) (M.pure (L.getD 0 .undef))).bind fun t32 =>
      (guarded [(0, t29)] (some (0, false)) (M.lift (Ax.iaddr none 1 t31 t32))).bind fun t33 =>
      (guarded [(0, t29)] (some (0, false)) (mload none t33)).bind fun t34 =>
      (guarded [(0, t29)] (some (0, false)) (M.pure t3)).bind fun t35 =>
      (guarded [(0, t29)] (some (0, false)) (M.lift (Ax.bin .gtr t34 t35))).bind fun t36 =>
      (M.lift (Ax.pick t29 (V.bool true) t36)).bind fun t37 =>
      M.ite t37
        (M.pure (.ret [(V.bool false)]))
        (M.pure (.nrm []))) fun _ =>
    (M.lift (Ax.bin .add (L.getD 0 .undef) (V.int .i64 1))).bind fun t23 =>
    M.pure (.nrm [t23]))
    (M.pure (.ex 0 []))

def f_palanquinref9_within (G : Sem') (t0 t1 t2 t3 : V) : M Res :=
  (M.lift (Ax.bin .geq t1 (V.int .i64 0))).bind fun t11 =>
  (guarded [(0, t11)] (some (0, true)) (M.pure t0)).bind fun t13 =>
  (guarded [(0, t11)] (some (0, true)) (M.lift (vlen t13))).bind fun t14 =>
  (guarded [(0, t11)] (some (0, true)) (M.pure t1)).bind fun t15 =>
  (guarded [(0, t11)] (some (0, true)) (M.lift (Ax.bin .neq t14 t15))).bind fun t16 =>
  (M.lift (Ax.pick t11 t16 (V.bool false))).bind fun t17 =>
  M.ite t17
    (M.pure (.ret [(V.bool false)]))
    (M.blk 0 (
      M.iter (f_palanquinref9_within_0 G t2 t0 t3) [(V.int .i64 0)]) fun _ =>
    M.pure (.ret [(V.bool true)]))

theorem eq_palanquinref9_within (G : Sem') (t0 t1 t2 t3 : V) : execK G ir_palanquinref9_within.rv ir_palanquinref9_within.body [] [] (params 0 [t0, t1, t2, t3]) = f_palanquinref9_within G t0 t1 t2 t3 := by kernel_rfl

def d_palanquinref9_within (G : Sem') : List V → M V
  | [t0, t1, t2, t3] => fin (f_palanquinref9_within G t0 t1 t2 t3)
  | _ => M.fail

theorem s_palanquinref9_within {g : Sem'} (hg : Sims g (sem T)) (args : List V) : Sim (d_palanquinref9_within g args) (sem T fn_palanquinref9_within args) := by
  unfold d_palanquinref9_within
  split
  · exact sim_fn tb_palanquinref9_within (Nat.le_of_ble_eq_true rfl) hg (eq_palanquinref9_within g _ _ _ _)
  · exact sim_fail

/-- palanquin/palanquinref9.step. -/
def f_palanquinref9_step (G : Sem') (t0 t1 : V) : M Res :=
  (mbox ty_palanquinref9_Template t0).bind fun t2 =>
  (mbox ty_palanquinref9_Template t1).bind fun t3 =>
  M.blk 0 (
    (M.lift (Ax.faddr 0 t2)).bind fun t6 =>
    (mload none t6).bind fun t7 =>
    (M.lift (Ax.faddr 0 t3)).bind fun t8 =>
    (mload none t8).bind fun t9 =>
    (M.lift (Ax.bin .eql t7 t9)).bind fun t10 =>
    (guarded [(0, t10)] (some (0, true)) (M.lift (Ax.faddr 1 t2))).bind fun t12 =>
    (guarded [(0, t10)] (some (0, true)) (mload none t12)).bind fun t13 =>
    (guarded [(0, t10)] (some (0, true)) (M.lift (Ax.faddr 1 t3))).bind fun t14 =>
    (guarded [(0, t10)] (some (0, true)) (mload none t14)).bind fun t15 =>
    (guarded [(0, t10)] (some (0, true)) (M.lift (Ax.bin .eql t13 t15))).bind fun t16 =>
    (M.lift (Ax.pick t10 t16 (V.bool false))).bind fun t17 =>
    M.ite t17
      (M.pure (.ret [(V.int .i64 0)]))
      ((M.lift (Ax.faddr 0 t2)).bind fun t19 =>
      (mload none t19).bind fun t20 =>
      (M.lift (Ax.faddr 0 t3)).bind fun t21 =>
      (mload none t21).bind fun t22 =>
      (M.lift (Ax.bin .eql t20 t22)).bind fun t23 =>
      (guarded [(0, t23)] (some (0, true)) (M.lift (Ax.faddr 1 t2))).bind fun t25 =>
      (guarded [(0, t23)] (some (0, true)) (mload none t25)).bind fun t26 =>
      (guarded [(0, t23)] (some (0, true)) (M.lift (Ax.bin .add t26 (V.int .i64 1)))).bind fun t27 =>
      (guarded [(0, t23)] (some (0, true)) (M.lift (Ax.faddr 1 t3))).bind fun t28 =>
      (guarded [(0, t23)] (some (0, true)) (mload none t28)).bind fun t29 =>
      (guarded [(0, t23)] (some (0, true)) (M.lift (Ax.bin .eql t27 t29))).bind fun t30 =>
      (M.lift (Ax.pick t23 t30 (V.bool false))).bind fun t31 =>
      M.ite t31
        (M.pure (.ret [(V.int .i64 1)]))
        ((M.lift (Ax.faddr 0 t2)).bind fun t33 =>
        (mload none t33).bind fun t34 =>
        (M.lift (Ax.bin .add t34 (V.int .i64 1))).bind fun t35 =>
        (M.lift (Ax.faddr 0 t3)).bind fun t36 =>
        (mload none t36).bind fun t37 =>
        (M.lift (Ax.bin .eql t35 t37)).bind fun t38 =>
        (guarded [(0, t38)] (some (0, true)) (M.lift (Ax.faddr 1 t3))).bind fun t40 =>
        (guarded [(0, t38)] (some (0, true)) (mload none t40)).bind fun t41 =>
        (guarded [(0, t38)] (some (0, true)) (M.lift (Ax.bin .eql t41 (V.int .i64 0)))).bind fun t42 =>
        (M.lift (Ax.pick t38 t42 (V.bool false))).bind fun t43 =>
        M.ite t43
          (M.pure (.ret [(V.int .i64 2)]))
          (M.pure (.nrm []))))) fun _ =>
  M.pure (.ret [(V.int .i64 3)])

theorem eq_palanquinref9_step (G : Sem') (t0 t1 : V) : execK G ir_palanquinref9_step.rv ir_palanquinref9_step.body [] [] (params 0 [t0, t1]) = f_palanquinref9_step G t0 t1 := by kernel_rfl

def d_palanquinref9_step (G : Sem') : List V → M V
  | [t0, t1] => fin (f_palanquinref9_step G t0 t1)
  | _ => M.fail

theorem s_palanquinref9_step {g : Sem'} (hg : Sims g (sem T)) (args : List V) : Sim (d_palanquinref9_step g args) (sem T fn_palanquinref9_step args) := by
  unfold d_palanquinref9_step
  split
  · exact sim_fn tb_palanquinref9_step (Nat.le_of_ble_eq_true rfl) hg (eq_palanquinref9_step g _ _)
  · exact sim_fail

/-- (*palanquin/palanquinref6.Writer).AddNS. -/
def f_palanquinref6_Writer_AddNS (G : Sem') (t0 t1 t2 : V) : M Res :=
  (M.lift (Ax.bin .lss t2 (V.int .u64 1))).bind fun t10 =>
  (guarded [(0, t10)] (some (0, false)) (M.pure t2)).bind fun t12 =>
  (guarded [(0, t10)] (some (0, false)) (M.lift (Ax.bin .gtr t12 (V.int .u64 4294967296)))).bind fun t13 =>
  (M.lift (Ax.pick t10 (V.bool true) t13)).bind fun t14 =>
  (guarded [(0, t14)] (some (0, false)) (M.pure t1)).bind fun t16 =>
  (guarded [(0, t14)] (some (0, false)) (M.pure t2)).bind fun t17 =>
  (guarded [(0, t14)] (some (0, false)) (M.lift (Ax.bin .geq t16 t17))).bind fun t18 =>
  (M.lift (Ax.pick t14 (V.bool true) t18)).bind fun t19 =>
  M.ite t19
    (M.pure (.ret [(V.int .i64 1)]))
    ((G fn_palanquinref6_width [t2]).bind fun t22 =>
    (M.lift (Ax.ext 0 t22)).bind fun t23 =>
    (M.lift (Ax.ext 1 t22)).bind fun t24 =>
    (M.lift (Ax.bin .lss t1 t24)).bind fun t27 =>
    M.ite t27
      ((M.lift (Ax.bin .sub t23 (V.int .i64 1))).bind fun t31 =>
      (G fn_palanquinref6_Writer_Add [t0, t1, t31]).bind fun t32 =>
      M.pure (.ret [t32]))
      ((M.lift (Ax.bin .add t1 t24)).bind fun t36 =>
      (G fn_palanquinref6_Writer_Add [t0, t36, t23]).bind fun t38 =>
      M.pure (.ret [t38])))

theorem eq_palanquinref6_Writer_AddNS (G : Sem') (t0 t1 t2 : V) : execK G ir_palanquinref6_Writer_AddNS.rv ir_palanquinref6_Writer_AddNS.body [] [] (params 0 [t0, t1, t2]) = f_palanquinref6_Writer_AddNS G t0 t1 t2 := by kernel_rfl

def d_palanquinref6_Writer_AddNS (G : Sem') : List V → M V
  | [t0, t1, t2] => fin (f_palanquinref6_Writer_AddNS G t0 t1 t2)
  | _ => M.fail

theorem s_palanquinref6_Writer_AddNS {g : Sem'} (hg : Sims g (sem T)) (args : List V) : Sim (d_palanquinref6_Writer_AddNS g args) (sem T fn_palanquinref6_Writer_AddNS args) := by
  unfold d_palanquinref6_Writer_AddNS
  split
  · exact sim_fn tb_palanquinref6_Writer_AddNS (Nat.le_of_ble_eq_true rfl) hg (eq_palanquinref6_Writer_AddNS g _ _ _)
  · exact sim_fail

/-- slices.ContainsFunc[[]palanquin/rtp.Ext,palanquin/rtp.Ext]. -/
def f_slices_ContainsFunc_rtp_Ext_rtp_Ext (G : Sem') (t0 t1 : V) : M Res :=
  (G fn_slices_IndexFunc_rtp_Ext_rtp_Ext [t0, t1]).bind fun t7 =>
  (M.lift (Ax.bin .geq t7 (V.int .i64 0))).bind fun t8 =>
  M.pure (.ret [t8])

theorem eq_slices_ContainsFunc_rtp_Ext_rtp_Ext (G : Sem') (t0 t1 : V) : execK G ir_slices_ContainsFunc_rtp_Ext_rtp_Ext.rv ir_slices_ContainsFunc_rtp_Ext_rtp_Ext.body [] [] (params 0 [t0, t1]) = f_slices_ContainsFunc_rtp_Ext_rtp_Ext G t0 t1 := by kernel_rfl

def d_slices_ContainsFunc_rtp_Ext_rtp_Ext (G : Sem') : List V → M V
  | [t0, t1] => fin (f_slices_ContainsFunc_rtp_Ext_rtp_Ext G t0 t1)
  | _ => M.fail

theorem s_slices_ContainsFunc_rtp_Ext_rtp_Ext {g : Sem'} (hg : Sims g (sem T)) (args : List V) : Sim (d_slices_ContainsFunc_rtp_Ext_rtp_Ext g args) (sem T fn_slices_ContainsFunc_rtp_Ext_rtp_Ext args) := by
  unfold d_slices_ContainsFunc_rtp_Ext_rtp_Ext
  split
  · exact sim_fn tb_slices_ContainsFunc_rtp_Ext_rtp_Ext (Nat.le_of_ble_eq_true rfl) hg (eq_slices_ContainsFunc_rtp_Ext_rtp_Ext g _ _)
  · exact sim_fail

/-- palanquin/rtp.Good$1. -/
def f_rtp_Good_1 (G : Sem') (t0 t1 : V) : M Res :=
  (mbox ty_rtp_Ext t0).bind fun t2 =>
  (M.lift (Ax.faddr 6 t1)).bind fun t4 =>
  (mload none t4).bind fun t5 =>
  (mload (some 2) t2).bind fun t6 =>
  (G fn_rtp_goodExt [t5, t6]).bind fun t7 =>
  (M.lift (Ax.un .not t7)).bind fun t8 =>
  M.pure (.ret [t8])

theorem eq_rtp_Good_1 (G : Sem') (t0 t1 : V) : execK G ir_rtp_Good_1.rv ir_rtp_Good_1.body [] [] (params 0 [t0, t1]) = f_rtp_Good_1 G t0 t1 := by kernel_rfl

def d_rtp_Good_1 (G : Sem') : List V → M V
  | [t0, t1] => fin (f_rtp_Good_1 G t0 t1)
  | _ => M.fail

theorem s_rtp_Good_1 {g : Sem'} (hg : Sims g (sem T)) (args : List V) : Sim (d_rtp_Good_1 g args) (sem T fn_rtp_Good_1 args) := by
  unfold d_rtp_Good_1
  split
  · exact sim_fn tb_rtp_Good_1 (Nat.le_of_ble_eq_true rfl) hg (eq_rtp_Good_1 g _ _)
  · exact sim_fail

/-- palanquin/rtp.goodExt. -/
def f_rtp_goodExt (G : Sem') (t0 t1 : V) : M Res :=
  (mbox ty_rtp_Ext t1).bind fun t3 =>
  (M.lift (Ax.bin .eql t0 (V.int .i64 48862))).bind fun t6 =>
  M.ite t6
    ((M.lift (Ax.faddr 0 t3)).bind fun t7 =>
    (mload none t7).bind fun t8 =>
    (M.lift (Ax.bin .geq t8 (V.int .i64 1))).bind fun t9 =>
    (guarded [(0, t9)] (some (0, true)) (M.lift (Ax.faddr 0 t3))).bind fun t11 =>
    (guarded [(0, t9)] (some (0, true)) (mload none t11)).bind fun t12 =>
    (guarded [(0, t9)] (some (0, true)) (M.lift (Ax.bin .leq t12 (V.int .i64 14)))).bind fun t13 =>
    (M.lift (Ax.pick t9 t13 (V.bool false))).bind fun t14 =>
    (guarded [(0, t14)] (some (0, true)) (M.lift (Ax.faddr 1 t3))).bind fun t16 =>
    (guarded [(0, t14)] (some (0, true)) (mload none t16)).bind fun t17 =>
    (guarded [(0, t14)] (some (0, true)) (M.lift (vlen t17))).bind fun t18 =>
    (guarded [(0, t14)] (some (0, true)) (M.lift (Ax.bin .geq t18 (V.int .i64 1)))).bind fun t19 =>
    (M.lift (Ax.pick t14 t19 (V.bool false))).bind fun t20 =>
    (guarded [(0, t20)] (some (0, true)) (M.lift (Ax.faddr 1 t3))).bind fun t22 =>
    (guarded [(0, t20)] (some (0, true)) (mload none t22)).bind fun t23 =>
    (guarded [(0, t20)] (some (0, true)) (M.lift (vlen t23))).bind fun t24 =>
    (guarded [(0, t20)] (some (0, true)) (M.lift (Ax.bin .leq t24 (V.int .i64 16)))).bind fun t25 =>
    (M.lift (Ax.pick t20 t25 (V.bool false))).bind fun t26 =>
    M.pure (.ret [t26]))
    ((M.lift (Ax.faddr 0 t3)).bind fun t27 =>
    (mload none t27).bind fun t28 =>
    (M.lift (Ax.bin .geq t28 (V.int .i64 1))).bind fun t29 =>
    (guarded [(0, t29)] (some (0, true)) (M.lift (Ax.faddr 0 t3))).bind fun t31 =>
    (guarded [(0, t29)] (some (0, true)) (mload none t31)).bind fun t32 =>
    (guarded [(0, t29)] (some (0, true)) (M.lift (Ax.bin .leq t32 (V.int .i64 255)))).bind fun t33 =>
    (M.lift (Ax.pick t29 t33 (V.bool false))).bind fun t34 =>
    (guarded [(0, t34)] (some (0, true)) (M.lift (Ax.faddr 1 t3))).bind fun t36 =>
    (guarded [(0, t34)] (some (0, true)) (mload none t36)).bind fun t37 =>
    (guarded [(0, t34)] (some (0, true)) (M.lift (vlen t37))).bind fun t38 =>
    (guarded [(0, t34)] (some (0, true)) (M.lift (Ax.bin .leq t38 (V.int .i64 255)))).bind fun t39 =>
    (M.lift (Ax.pick t34 t39 (V.bool false))).bind fun t40 =>
    M.pure (.ret [t40]))

theorem eq_rtp_goodExt (G : Sem') (t0 t1 : V) : execK G ir_rtp_goodExt.rv ir_rtp_goodExt.body [] [] (params 0 [t0, t1]) = f_rtp_goodExt G t0 t1 := by kernel_rfl

def d_rtp_goodExt (G : Sem') : List V → M V
  | [t0, t1] => fin (f_rtp_goodExt G t0 t1)
  | _ => M.fail

theorem s_rtp_goodExt {g : Sem'} (hg : Sims g (sem T)) (args : List V) : Sim (d_rtp_goodExt g args) (sem T fn_rtp_goodExt args) := by
  unfold d_rtp_goodExt
  split
  · exact sim_fn tb_rtp_goodExt (Nat.le_of_ble_eq_true rfl) hg (eq_rtp_goodExt g _ _)
  · exact sim_fail

/-- slices.IndexFunc[[]palanquin/rtp.Ext,palanquin/rtp.Ext]. -/
def f_slices_IndexFunc_rtp_Ext_rtp_Ext_0 (G : Sem') (t7 t1 t0 : V) (L : List V) : M Res :=
  (M.lift (Ax.bin .lss (L.getD 0 .undef) t7)).bind fun t9 =>
  M.ite t9
    (M.blk 1 (
      (M.lift (Ax.iaddr none 2 t0 (L.getD 0 .undef))).bind fun t14 =>
      (mload (some 2) t14).bind fun t15 =>
      (callv G t1 [t15]).bind fun t16 =>
      M.ite t16
        (M.pure (.ret [(L.getD 0 .undef)]))
        (M.pure (.nrm []))) fun _ =>
    (M.lift (Ax.bin .add (L.getD 0 .undef) (V.int .i64 1))).bind fun t18 =>
    M.pure (.nrm [t18]))
    (M.pure (.ex 0 []))

def f_slices_IndexFunc_rtp_Ext_rtp_Ext (G : Sem') (t0 t1 : V) : M Res :=
  (M.lift (vlen t0)).bind fun t7 =>
  M.blk 0 (
    M.iter (f_slices_IndexFunc_rtp_Ext_rtp_Ext_0 G t7 t1 t0) [(V.int .i64 0)]) fun _ =>
  M.pure (.ret [(V.int .i64 (-1))])

theorem eq_slices_IndexFunc_rtp_Ext_rtp_Ext (G : Sem') (t0 t1 : V) : execK G ir_slices_IndexFunc_rtp_Ext_rtp_Ext.rv ir_slices_IndexFunc_rtp_Ext_rtp_Ext.body [] [] (params 0 [t0, t1]) = f_slices_IndexFunc_rtp_Ext_rtp_Ext G t0 t1 := by kernel_rfl

def d_slices_IndexFunc_rtp_Ext_rtp_Ext (G : Sem') : List V → M V
  | [t0, t1] => fin (f_slices_IndexFunc_rtp_Ext_rtp_Ext G t0 t1)
  | _ => M.fail

theorem s_slices_IndexFunc_rtp_Ext_rtp_Ext {g : Sem'} (hg : Sims g (sem T)) (args : List V) : Sim (d_slices_IndexFunc_rtp_Ext_rtp_Ext g args) (sem T fn_slices_IndexFunc_rtp_Ext_rtp_Ext args) := by
  unfold d_slices_IndexFunc_rtp_Ext_rtp_Ext
  split
  · exact sim_fn tb_slices_IndexFunc_rtp_Ext_rtp_Ext (Nat.le_of_ble_eq_true rfl) hg (eq_slices_IndexFunc_rtp_Ext_rtp_Ext g _ _)
  · exact sim_fail

/-- palanquin/rtp.at$1. -/
def f_rtp_at_1 (G : Sem') (t0 t1 : V) : M Res :=
  (mbox ty_rtp_Ext t0).bind fun t2 =>
  (M.lift (Ax.faddr 0 t2)).bind fun t4 =>
  (mload none t4).bind fun t5 =>
  (mload none t1).bind fun t6 =>
  (M.lift (Ax.bin .eql t5 t6)).bind fun t7 =>
  M.pure (.ret [t7])

theorem eq_rtp_at_1 (G : Sem') (t0 t1 : V) : execK G ir_rtp_at_1.rv ir_rtp_at_1.body [] [] (params 0 [t0, t1]) = f_rtp_at_1 G t0 t1 := by kernel_rfl

def d_rtp_at_1 (G : Sem') : List V → M V
  | [t0, t1] => fin (f_rtp_at_1 G t0 t1)
  | _ => M.fail

theorem s_rtp_at_1 {g : Sem'} (hg : Sims g (sem T)) (args : List V) : Sim (d_rtp_at_1 g args) (sem T fn_rtp_at_1 args) := by
  unfold d_rtp_at_1
  split
  · exact sim_fn tb_rtp_at_1 (Nat.le_of_ble_eq_true rfl) hg (eq_rtp_at_1 g _ _)
  · exact sim_fail

/-- palanquin/depend.Fine. -/
def f_depend_Fine_0 (G : Sem') (t70 t69 : V) (L : List V) : M Res :=
  (M.lift (Ax.bin .lss (L.getD 0 .undef) t70)).bind fun t72 =>
  M.ite t72
    (M.blk 1 (
      (M.lift (Ax.iaddr none 2 t69 (L.getD 0 .undef))).bind fun t73 =>
      (mload (some 2) t73).bind fun t74 =>
      (mbox ty_2_int (V.agg [(V.int .i64 0), (V.int .i64 0)])).bind fun t6 =>
      (mstore 2 t6 t74).bind fun _ =>
      (M.lift (vslice (.arr 2) 1 t6 none none none)).bind fun t75 =>
      (G fn_depend_within [t75, (V.int .i64 2), (V.int .i64 1), (V.int .i64 65536)]).bind fun t76 =>
      (M.lift (Ax.un .not t76)).bind fun t77 =>
      M.ite t77
        (M.pure (.ret [(V.bool false)]))
        (M.pure (.nrm []))) fun _ =>
    (M.lift (Ax.bin .add (L.getD 0 .undef) (V.int .i64 1))).bind fun t78 =>
    M.pure (.nrm [t78]))
    (M.pure (.ex 0 []))

def f_depend_Fine (G : Sem') (t0 : V) : M Res :=
  (mbox ty_depend_Structure t0).bind fun t1 =>
  (M.lift (Ax.faddr 1 t1)).bind fun t7 =>
  (mload none t7).bind fun t8 =>
  (M.lift (Ax.faddr 3 t1)).bind fun t9 =>
  (mload none t9).bind fun t10 =>
  (M.lift (Ax.bin .eql t10 (V.int .i64 0))).bind fun t11 =>
  M.join (M.ite t11
    (M.pure (.nrm [(V.int .i64 0)]))
    (M.pure (.nrm [t8]))) fun L0 =>
  (M.lift (Ax.faddr 0 t1)).bind fun t12 =>
  (mload none t12).bind fun t13 =>
  (M.lift (Ax.bin .lss t13 (V.int .i64 0))).bind fun t14 =>
  (guarded [(0, t14)] (some (0, false)) (M.lift (Ax.faddr 0 t1))).bind fun t16 =>
  (guarded [(0, t14)] (some (0, false)) (mload none t16)).bind fun t17 =>
  (guarded [(0, t14)] (some (0, false)) (M.lift (Ax.bin .geq t17 (V.int .i64 64)))).bind fun t18 =>
  (M.lift (Ax.pick t14 (V.bool true) t18)).bind fun t19 =>
  (guarded [(0, t19)] (some (0, false)) (M.lift (Ax.faddr 1 t1))).bind fun t21 =>
  (guarded [(0, t19)] (some (0, false)) (mload none t21)).bind fun t22 =>
  (guarded [(0, t19)] (some (0, false)) (M.lift (Ax.bin .lss t22 (V.int .i64 1)))).bind fun t23 =>
  (M.lift (Ax.pick t19 (V.bool true) t23)).bind fun t24 =>
  (guarded [(0, t24)] (some (0, false)) (M.lift (Ax.faddr 1 t1))).bind fun t26 =>
  (guarded [(0, t24)] (some (0, false)) (mload none t26)).bind fun t27 =>
  (guarded [(0, t24)] (some (0, false)) (M.lift (Ax.bin .gtr t27 (V.int .i64 32)))).bind fun t28 =>
  (M.lift (Ax.pick t24 (V.bool true) t28)).bind fun t29 =>
  (guarded [(0, t29)] (some (0, false)) (M.lift (Ax.faddr 3 t1))).bind fun t31 =>
  (guarded [(0, t29)] (some (0, false)) (mload none t31)).bind fun t32 =>
  (guarded [(0, t29)] (some (0, false)) (M.lift (Ax.bin .lss t32 (V.int .i64 0)))).bind fun t33 =>
  (M.lift (Ax.pick t29 (V.bool true) t33)).bind fun t34 =>
  (guarded [(0, t34)] (some (0, false)) (M.lift (Ax.faddr 3 t1))).bind fun t36 =>
  (guarded [(0, t34)] (some (0, false)) (mload none t36)).bind fun t37 =>
  (guarded [(0, t34)] (some (0, false)) (M.lift (Ax.faddr 1 t1))).bind fun t38 =>
  (guarded [(0, t34)] (some (0, false)) (mload none t38)).bind fun t39 =>
  (guarded [(0, t34)] (some (0, false)) (M.lift (Ax.bin .gtr t37 t39))).bind fun t40 =>
  (M.lift (Ax.pick t34 (V.bool true) t40)).bind fun t41 =>
  (guarded [(0, t41)] (some (0, false)) (M.lift (Ax.faddr 4 t1))).bind fun t43 =>
  (guarded [(0, t41)] (some (0, false)) (mload none t43)).bind fun t44 =>
  (guarded [(0, t41)] (some (0, false)) (M.pure (L0.getD 0 .undef))).bind fun t45 =>
  (guarded [(0, t41)] (some (0, false)) (M.lift (Ax.faddr 3 t1))).bind fun t46 =>
  (guarded [(0, t41)] (some (0, false)) (mload none t46)).bind fun t47 =>
  (guarded [(0, t41)] (some (0, false)) (M.lift (Ax.bin .sub t47 (V.int .i64 1)))).bind fun t48 =>
  (guarded [(0, t41)] (some (0, false)) (G fn_depend_within [t44, t45, (V.int .i64 0), t48])).bind fun t49 =>
  (guarded [(0, t41)] (some (0, false)) (M.lift (Ax.un .not t49))).bind fun t50 =>
  (M.lift (Ax.pick t41 (V.bool true) t50)).bind fun t51 =>
  (guarded [(0, t51)] (some (0, false)) (mload (some 6) t1)).bind fun t53 =>
  (guarded [(0, t51)] (some (0, false)) (G fn_depend_layers [t53])).bind fun t54 =>
  (guarded [(0, t51)] (some (0, false)) (M.lift (Ax.un .not t54))).bind fun t55 =>
  (M.lift (Ax.pick t51 (V.bool true) t55)).bind fun t56 =>
  M.ite t56
    (M.pure (.ret [(V.bool false)]))
    ((M.lift (Ax.faddr 5 t1)).bind fun t57 =>
    (mload none t57).bind fun t58 =>
    (M.lift (vlen t58)).bind fun t59 =>
    (M.lift (Ax.bin .neq t59 (V.int .i64 0))).bind fun t61 =>
    (guarded [(0, t61)] (some (0, true)) (M.pure t59)).bind fun t63 =>
    (guarded [(0, t61)] (some (0, true)) (mload (some 6) t1)).bind fun t64 =>
    (guarded [(0, t61)] (some (0, true)) (G fn_depend_spatial [t64])).bind fun t65 =>
    (guarded [(0, t61)] (some (0, true)) (M.lift (Ax.bin .neq t63 t65))).bind fun t66 =>
    (M.lift (Ax.pick t61 t66 (V.bool false))).bind fun t67 =>
    M.ite t67
      (M.pure (.ret [(V.bool false)]))
      ((M.lift (Ax.faddr 5 t1)).bind fun t68 =>
      (mload none t68).bind fun t69 =>
      (M.lift (vlen t69)).bind fun t70 =>
      M.blk 0 (
        M.iter (f_depend_Fine_0 G t70 t69) [(V.int .i64 0)]) fun _ =>
      (M.lift (Ax.faddr 2 t1)).bind fun t79 =>
      (mload none t79).bind fun t80 =>
      (M.pure (.fn fn_depend_Fine_1 [t1])).bind fun t81 =>
      (G fn_slices_ContainsFunc_depend_Template_depend_Template [t80, t81]).bind fun t82 =>
      (M.lift (Ax.un .not t82)).bind fun t83 =>
      M.pure (.ret [t83])))

theorem eq_depend_Fine (G : Sem') (t0 : V) : execK G ir_depend_Fine.rv ir_depend_Fine.body [] [] (params 0 [t0]) = f_depend_Fine G t0 := by kernel_rfl

def d_depend_Fine (G : Sem') : List V → M V
  | [t0] => fin (f_depend_Fine G t0)
  | _ => M.fail

theorem s_depend_Fine {g : Sem'} (hg : Sims g (sem T)) (args : List V) : Sim (d_depend_Fine g args) (sem T fn_depend_Fine args) := by
  unfold d_depend_Fine
  split
  · exact sim_fn tb_depend_Fine (Nat.le_of_ble_eq_true rfl) hg (eq_depend_Fine g _)
  · exact sim_fail

/-- palanquin/depend.template. -/
def f_depend_template (G : Sem') (t0 t1 : V) : M Res :=
  (mbox ty_depend_Structure t0).bind fun t2 =>
  (mbox ty_depend_Template (V.agg [(V.int .i64 0), (V.int .i64 0), V.nils, V.nils, V.nils])).bind fun t4 =>
  (M.lift (Ax.bin .lss t1 (V.int .i64 0))).bind fun t8 =>
  (guarded [(0, t8)] (some (0, false)) (M.pure t1)).bind fun t10 =>
  (guarded [(0, t8)] (some (0, false)) (M.lift (Ax.bin .geq t10 (V.int .i64 64)))).bind fun t11 =>
  (M.lift (Ax.pick t8 (V.bool true) t11)).bind fun t12 =>
  M.ite t12
    ((M.lift (Ax.build [(V.int .i64 0), (V.int .i64 0), V.nils, V.nils, V.nils] [])).bind fun t13 =>
    (mstore 5 t4 t13).bind fun _ =>
    (mload (some 5) t4).bind fun r0 =>
    M.pure (.ret [r0, (V.bool false)]))
    ((M.lift (Ax.bin .add t1 (V.int .i64 64))).bind fun t15 =>
    (M.lift (Ax.faddr 0 t2)).bind fun t16 =>
    (mload none t16).bind fun t17 =>
    (M.lift (Ax.bin .sub t15 t17)).bind fun t18 =>
    (M.lift (Ax.bin .rem t18 (V.int .i64 64))).bind fun t19 =>
    (M.lift (Ax.faddr 2 t2)).bind fun t21 =>
    (mload none t21).bind fun t22 =>
    (M.lift (vlen t22)).bind fun t23 =>
    (M.lift (Ax.bin .geq t19 t23)).bind fun t24 =>
    M.ite t24
      ((M.lift (Ax.build [(V.int .i64 0), (V.int .i64 0), V.nils, V.nils, V.nils] [])).bind fun t25 =>
      (mstore 5 t4 t25).bind fun _ =>
      (mload (some 5) t4).bind fun r0 =>
      M.pure (.ret [r0, (V.bool false)]))
      ((M.lift (Ax.faddr 2 t2)).bind fun t26 =>
      (mload none t26).bind fun t27 =>
      (M.lift (Ax.iaddr none 5 t27 t19)).bind fun t29 =>
      (mload (some 5) t29).bind fun t30 =>
      (G fn_depend_copied [t30]).bind fun t31 =>
      (mstore 5 t4 t31).bind fun _ =>
      (mload (some 5) t4).bind fun r0 =>
      M.pure (.ret [r0, (V.bool true)])))

theorem eq_depend_template (G : Sem') (t0 t1 : V) : execK G ir_depend_template.rv ir_depend_template.body [] [] (params 0 [t0, t1]) = f_depend_template G t0 t1 := by kernel_rfl

def d_depend_template (G : Sem') : List V → M V
  | [t0, t1] => fin (f_depend_template G t0 t1)
  | _ => M.fail

theorem s_depend_template {g : Sem'} (hg : Sims g (sem T)) (args : List V) : Sim (d_depend_template g args) (sem T fn_depend_template args) := by
  unfold d_depend_template
  split
  · exact sim_fn tb_depend_template (Nat.le_of_ble_eq_true rfl) hg (eq_depend_template g _ _)
  · exact sim_fail

/-- slices.ContainsFunc[[]int,int]. -/
def f_slices_ContainsFunc_int_int (G : Sem') (t0 t1 : V) : M Res :=
  (G fn_slices_IndexFunc_int_int [t0, t1]).bind fun t7 =>
  (M.lift (Ax.bin .geq t7 (V.int .i64 0))).bind fun t8 =>
  M.pure (.ret [t8])

theorem eq_slices_ContainsFunc_int_int (G : Sem') (t0 t1 : V) : execK G ir_slices_ContainsFunc_int_int.rv ir_slices_ContainsFunc_int_int.body [] [] (params 0 [t0, t1]) = f_slices_ContainsFunc_int_int G t0 t1 := by kernel_rfl

def d_slices_ContainsFunc_int_int (G : Sem') : List V → M V
  | [t0, t1] => fin (f_slices_ContainsFunc_int_int G t0 t1)
  | _ => M.fail

theorem s_slices_ContainsFunc_int_int {g : Sem'} (hg : Sims g (sem T)) (args : List V) : Sim (d_slices_ContainsFunc_int_int g args) (sem T fn_slices_ContainsFunc_int_int args) := by
  unfold d_slices_ContainsFunc_int_int
  split
  · exact sim_fn tb_slices_ContainsFunc_int_int (Nat.le_of_ble_eq_true rfl) hg (eq_slices_ContainsFunc_int_int g _ _)
  · exact sim_fail

/-- palanquin/depend.within$1. -/
def f_depend_within_1 (G : Sem') (t0 t1 t2 : V) : M Res :=
  (mload none t1).bind fun t6 =>
  (M.lift (Ax.bin .lss t0 t6)).bind fun t7 =>
  (guarded [(0, t7)] (some (0, false)) (M.pure t0)).bind fun t9 =>
  (guarded [(0, t7)] (some (0, false)) (mload none t2)).bind fun t10 =>
  (guarded [(0, t7)] (some (0, false)) (M.lift (Ax.bin .gtr t9 t10))).bind fun t11 =>
  (M.lift (Ax.pick t7 (V.bool true) t11)).bind fun t12 =>
  M.pure (.ret [t12])

theorem eq_depend_within_1 (G : Sem') (t0 t1 t2 : V) : execK G ir_depend_within_1.rv ir_depend_within_1.body [] [] (params 0 [t0, t1, t2]) = f_depend_within_1 G t0 t1 t2 := by kernel_rfl

def d_depend_within_1 (G : Sem') : List V → M V
  | [t0, t1, t2] => fin (f_depend_within_1 G t0 t1 t2)
  | _ => M.fail

theorem s_depend_within_1 {g : Sem'} (hg : Sims g (sem T)) (args : List V) : Sim (d_depend_within_1 g args) (sem T fn_depend_within_1 args) := by
  unfold d_depend_within_1
  split
  · exact sim_fn tb_depend_within_1 (Nat.le_of_ble_eq_true rfl) hg (eq_depend_within_1 g _ _ _)
  · exact sim_fail

/-- palanquin/turn.ticks. -/
def f_turn_ticks (G : Sem') (t0 t1 : V) : M Res :=
  (M.lift (Ax.bin .leq t1 t0)).bind fun t7 =>
  M.ite t7
    (M.pure (.ret [(V.int .u32 1)]))
    ((M.lift (Ax.cint .u64 t1)).bind fun t9 =>
    (M.lift (Ax.cint .u64 t0)).bind fun t11 =>
    (M.lift (Ax.bin .sub t9 t11)).bind fun t12 =>
    (M.lift (Ax.minmax false t12 [(V.int .u64 100000)])).bind fun t13 =>
    (M.lift (Ax.cint .u32 t13)).bind fun t14 =>
    M.pure (.ret [t14]))

theorem eq_turn_ticks (G : Sem') (t0 t1 : V) : execK G ir_turn_ticks.rv ir_turn_ticks.body [] [] (params 0 [t0, t1]) = f_turn_ticks G t0 t1 := by kernel_rfl

def d_turn_ticks (G : Sem') : List V → M V
  | [t0, t1] => fin (f_turn_ticks G t0 t1)
  | _ => M.fail

theorem s_turn_ticks {g : Sem'} (hg : Sims g (sem T)) (args : List V) : Sim (d_turn_ticks g args) (sem T fn_turn_ticks args) := by
  unfold d_turn_ticks
  split
  · exact sim_fn tb_turn_ticks (Nat.le_of_ble_eq_true rfl) hg (eq_turn_ticks g _ _)
  · exact sim_fail

/-- palanquin/depend.Layers. -/
def f_depend_Layers_0 (G : Sem') (t24 t23 t1 : V) (L : List V) : M Res :=
  (M.lift (Ax.bin .lss (L.getD 3 .undef) t24)).bind fun t26 =>
  M.ite t26
    (M.blk 1 (
      (M.lift (Ax.iaddr none 5 t23 (L.getD 3 .undef))).bind fun t27 =>
      (mload (some 5) t27).bind fun t28 =>
      (mbox ty_depend_Template (V.agg [(V.int .i64 0), (V.int .i64 0), V.nils, V.nils, V.nils])).bind fun t8 =>
      (mstore 5 t8 t28).bind fun _ =>
      (M.lift (Ax.faddr 2 t8)).bind fun t29 =>
      (mload none t29).bind fun t30 =>
      (M.lift (Ax.iaddr none 1 t30 t1)).bind fun t32 =>
      (mload none t32).bind fun t33 =>
      (M.lift (Ax.bin .neq t33 (V.int .i64 0))).bind fun t34 =>
      M.join (M.ite t34
        ((M.lift (Ax.faddr 0 t8)).bind fun t36 =>
        (mload none t36).bind fun t37 =>
        (M.lift (Ax.minmax true (L.getD 0 .undef) [t37])).bind fun t38 =>
        (M.lift (Ax.faddr 1 t8)).bind fun t40 =>
        (mload none t40).bind fun t41 =>
        (M.lift (Ax.minmax true (L.getD 1 .undef) [t41])).bind fun t42 =>
        M.pure (.nrm [t38, t42, (V.bool true)]))
        (M.pure (.nrm [(L.getD 0 .undef), (L.getD 1 .undef), (L.getD 2 .undef)]))) fun L0 =>
      M.pure (.nrm [(L0.getD 0 .undef), (L0.getD 1 .undef), (L0.getD 2 .undef)])) fun L1 =>
    (M.lift (Ax.bin .add (L.getD 3 .undef) (V.int .i64 1))).bind fun t43 =>
    M.pure (.nrm [(L1.getD 0 .undef), (L1.getD 1 .undef), (L1.getD 2 .undef), t43]))
    (M.pure (.ex 0 [(L.getD 0 .undef), (L.getD 1 .undef), (L.getD 2 .undef)]))

def f_depend_Layers (G : Sem') (t0 t1 : V) : M Res :=
  (mbox ty_depend_Structure t0).bind fun t2 =>
  (mload (some 6) t2).bind fun t9 =>
  (G fn_depend_Fine [t9]).bind fun t10 =>
  (M.lift (Ax.un .not t10)).bind fun t11 =>
  (guarded [(0, t11)] (some (0, false)) (M.pure t1)).bind fun t13 =>
  (guarded [(0, t11)] (some (0, false)) (M.lift (Ax.bin .lss t13 (V.int .i64 0)))).bind fun t14 =>
  (M.lift (Ax.pick t11 (V.bool true) t14)).bind fun t15 =>
  (guarded [(0, t15)] (some (0, false)) (M.pure t1)).bind fun t17 =>
  (guarded [(0, t15)] (some (0, false)) (M.lift (Ax.faddr 1 t2))).bind fun t18 =>
  (guarded [(0, t15)] (some (0, false)) (mload none t18)).bind fun t19 =>
  (guarded [(0, t15)] (some (0, false)) (M.lift (Ax.bin .geq t17 t19))).bind fun t20 =>
  (M.lift (Ax.pick t15 (V.bool true) t20)).bind fun t21 =>
  M.ite t21
    (M.pure (.ret [(V.int .i64 0), (V.int .i64 0), (V.bool false)]))
    ((M.lift (Ax.faddr 2 t2)).bind fun t22 =>
    (mload none t22).bind fun t23 =>
    (M.lift (vlen t23)).bind fun t24 =>
    M.blk 0 (
      M.iter (f_depend_Layers_0 G t24 t23 t1) [(V.int .i64 0), (V.int .i64 0), (V.bool false), (V.int .i64 0)]) fun L2 =>
    M.pure (.ret [(L2.getD 0 .undef), (L2.getD 1 .undef), (L2.getD 2 .undef)]))

theorem eq_depend_Layers (G : Sem') (t0 t1 : V) : execK G ir_depend_Layers.rv ir_depend_Layers.body [] [] (params 0 [t0, t1]) = f_depend_Layers G t0 t1 := by kernel_rfl

def d_depend_Layers (G : Sem') : List V → M V
  | [t0, t1] => fin (f_depend_Layers G t0 t1)
  | _ => M.fail

theorem s_depend_Layers {g : Sem'} (hg : Sims g (sem T)) (args : List V) : Sim (d_depend_Layers g args) (sem T fn_depend_Layers args) := by
  unfold d_depend_Layers
  split
  · exact sim_fn tb_depend_Layers (Nat.le_of_ble_eq_true rfl) hg (eq_depend_Layers g _ _)
  · exact sim_fail

/-- slices.Index[[]uint16,uint16]. -/
def f_slices_Index_uint16_uint16_0 (G : Sem') (t7 t1 t0 : V) (L : List V) : M Res :=
  (M.lift (Ax.bin .lss (L.getD 0 .undef) t7)).bind fun t9 =>
  M.ite t9
    (M.blk 1 (
      (M.lift (Ax.iaddr none 1 t0 (L.getD 0 .undef))).bind fun t14 =>
      (mload none t14).bind fun t15 =>
      (M.lift (Ax.bin .eql t1 t15)).bind fun t16 =>
      M.ite t16
        (M.pure (.ret [(L.getD 0 .undef)]))
        (M.pure (.nrm []))) fun _ =>
    (M.lift (Ax.bin .add (L.getD 0 .undef) (V.int .i64 1))).bind fun t18 =>
    M.pure (.nrm [t18]))
    (M.pure (.ex 0 []))

def f_slices_Index_uint16_uint16 (G : Sem') (t0 t1 : V) : M Res :=
  (M.lift (vlen t0)).bind fun t7 =>
  M.blk 0 (
    M.iter (f_slices_Index_uint16_uint16_0 G t7 t1 t0) [(V.int .i64 0)]) fun _ =>
  M.pure (.ret [(V.int .i64 (-1))])

theorem eq_slices_Index_uint16_uint16 (G : Sem') (t0 t1 : V) : execK G ir_slices_Index_uint16_uint16.rv ir_slices_Index_uint16_uint16.body [] [] (params 0 [t0, t1]) = f_slices_Index_uint16_uint16 G t0 t1 := by kernel_rfl

def d_slices_Index_uint16_uint16 (G : Sem') : List V → M V
  | [t0, t1] => fin (f_slices_Index_uint16_uint16 G t0 t1)
  | _ => M.fail

theorem s_slices_Index_uint16_uint16 {g : Sem'} (hg : Sims g (sem T)) (args : List V) : Sim (d_slices_Index_uint16_uint16 g args) (sem T fn_slices_Index_uint16_uint16 args) := by
  unfold d_slices_Index_uint16_uint16
  split
  · exact sim_fn tb_slices_Index_uint16_uint16 (Nat.le_of_ble_eq_true rfl) hg (eq_slices_Index_uint16_uint16 g _ _)
  · exact sim_fail

/-- slices.Clone[[]uint32,uint32]. -/
def f_slices_Clone_uint32_uint32 (G : Sem') (t0 : V) : M Res :=
  (M.lift (eqr .sl false t0 V.nils)).bind fun t4 =>
  M.ite t4
    (M.pure (.ret [V.nils]))
    ((mslit ty_uint32 0 [(V.int .u32 0)] []).bind fun t5 =>
    (mappend ty_uint32 1 4 t5 t0).bind fun t7 =>
    M.pure (.ret [t7]))

theorem eq_slices_Clone_uint32_uint32 (G : Sem') (t0 : V) : execK G ir_slices_Clone_uint32_uint32.rv ir_slices_Clone_uint32_uint32.body [] [] (params 0 [t0]) = f_slices_Clone_uint32_uint32 G t0 := by kernel_rfl

def d_slices_Clone_uint32_uint32 (G : Sem') : List V → M V
  | [t0] => fin (f_slices_Clone_uint32_uint32 G t0)
  | _ => M.fail

theorem s_slices_Clone_uint32_uint32 {g : Sem'} (hg : Sims g (sem T)) (args : List V) : Sim (d_slices_Clone_uint32_uint32 g args) (sem T fn_slices_Clone_uint32_uint32 args) := by
  unfold d_slices_Clone_uint32_uint32
  split
  · exact sim_fn tb_slices_Clone_uint32_uint32 (Nat.le_of_ble_eq_true rfl) hg (eq_slices_Clone_uint32_uint32 g _)
  · exact sim_fail

/-- slices.Clone[[]palanquin/rtp.Ext,palanquin/rtp.Ext]. -/
def f_slices_Clone_rtp_Ext_rtp_Ext (G : Sem') (t0 : V) : M Res :=
  (M.lift (eqr .sl false t0 V.nils)).bind fun t4 =>
  M.ite t4
    (M.pure (.ret [V.nils]))
    ((mslit ty_rtp_Ext 0 [(V.int .i64 0), V.nils] []).bind fun t5 =>
    (mappend ty_rtp_Ext 2 32 t5 t0).bind fun t7 =>
    M.pure (.ret [t7]))

theorem eq_slices_Clone_rtp_Ext_rtp_Ext (G : Sem') (t0 : V) : execK G ir_slices_Clone_rtp_Ext_rtp_Ext.rv ir_slices_Clone_rtp_Ext_rtp_Ext.body [] [] (params 0 [t0]) = f_slices_Clone_rtp_Ext_rtp_Ext G t0 := by kernel_rfl

def d_slices_Clone_rtp_Ext_rtp_Ext (G : Sem') : List V → M V
  | [t0] => fin (f_slices_Clone_rtp_Ext_rtp_Ext G t0)
  | _ => M.fail

theorem s_slices_Clone_rtp_Ext_rtp_Ext {g : Sem'} (hg : Sims g (sem T)) (args : List V) : Sim (d_slices_Clone_rtp_Ext_rtp_Ext g args) (sem T fn_slices_Clone_rtp_Ext_rtp_Ext args) := by
  unfold d_slices_Clone_rtp_Ext_rtp_Ext
  split
  · exact sim_fn tb_slices_Clone_rtp_Ext_rtp_Ext (Nat.le_of_ble_eq_true rfl) hg (eq_slices_Clone_rtp_Ext_rtp_Ext g _)
  · exact sim_fail

/-- slices.IndexFunc[[]palanquin/ring.entry,palanquin/ring.entry]. -/
def f_slices_IndexFunc_ring_entry_ring_entry_0 (G : Sem') (t7 t1 t0 : V) (L : List V) : M Res :=
  (M.lift (Ax.bin .lss (L.getD 0 .undef) t7)).bind fun t9 =>
  M.ite t9
    (M.blk 1 (
      (M.lift (Ax.iaddr none 2 t0 (L.getD 0 .undef))).bind fun t14 =>
      (mload (some 2) t14).bind fun t15 =>
      (callv G t1 [t15]).bind fun t16 =>
      M.ite t16
        (M.pure (.ret [(L.getD 0 .undef)]))
        (M.pure (.nrm []))) fun _ =>
    (M.lift (Ax.bin .add (L.getD 0 .undef) (V.int .i64 1))).bind fun t18 =>
    M.pure (.nrm [t18]))
    (M.pure (.ex 0 []))

def f_slices_IndexFunc_ring_entry_ring_entry (G : Sem') (t0 t1 : V) : M Res :=
  (M.lift (vlen t0)).bind fun t7 =>
  M.blk 0 (
    M.iter (f_slices_IndexFunc_ring_entry_ring_entry_0 G t7 t1 t0) [(V.int .i64 0)]) fun _ =>
  M.pure (.ret [(V.int .i64 (-1))])

theorem eq_slices_IndexFunc_ring_entry_ring_entry (G : Sem') (t0 t1 : V) : execK G ir_slices_IndexFunc_ring_entry_ring_entry.rv ir_slices_IndexFunc_ring_entry_ring_entry.body [] [] (params 0 [t0, t1]) = f_slices_IndexFunc_ring_entry_ring_entry G t0 t1 := by kernel_rfl

def d_slices_IndexFunc_ring_entry_ring_entry (G : Sem') : List V → M V
  | [t0, t1] => fin (f_slices_IndexFunc_ring_entry_ring_entry G t0 t1)
  | _ => M.fail

theorem s_slices_IndexFunc_ring_entry_ring_entry {g : Sem'} (hg : Sims g (sem T)) (args : List V) : Sim (d_slices_IndexFunc_ring_entry_ring_entry g args) (sem T fn_slices_IndexFunc_ring_entry_ring_entry args) := by
  unfold d_slices_IndexFunc_ring_entry_ring_entry
  split
  · exact sim_fn tb_slices_IndexFunc_ring_entry_ring_entry (Nat.le_of_ble_eq_true rfl) hg (eq_slices_IndexFunc_ring_entry_ring_entry g _ _)
  · exact sim_fail

/-- (*palanquin/ring.Ring).at$1. -/
def f_ring_Ring_at_1 (G : Sem') (t0 t1 : V) : M Res :=
  (mbox ty_ring_entry t0).bind fun t2 =>
  (M.lift (Ax.faddr 0 t2)).bind fun t4 =>
  (mload none t4).bind fun t5 =>
  (mload none t1).bind fun t6 =>
  (M.lift (Ax.bin .eql t5 t6)).bind fun t7 =>
  M.pure (.ret [t7])

theorem eq_ring_Ring_at_1 (G : Sem') (t0 t1 : V) : execK G ir_ring_Ring_at_1.rv ir_ring_Ring_at_1.body [] [] (params 0 [t0, t1]) = f_ring_Ring_at_1 G t0 t1 := by kernel_rfl

def d_ring_Ring_at_1 (G : Sem') : List V → M V
  | [t0, t1] => fin (f_ring_Ring_at_1 G t0 t1)
  | _ => M.fail

theorem s_ring_Ring_at_1 {g : Sem'} (hg : Sims g (sem T)) (args : List V) : Sim (d_ring_Ring_at_1 g args) (sem T fn_ring_Ring_at_1 args) := by
  unfold d_ring_Ring_at_1
  split
  · exact sim_fn tb_ring_Ring_at_1 (Nat.le_of_ble_eq_true rfl) hg (eq_ring_Ring_at_1 g _ _)
  · exact sim_fail

/-- palanquin/rtp.element. -/
def f_rtp_element (G : Sem') (t0 t1 : V) : M Res :=
  (mbox ty_rtp_Ext (V.agg [(V.int .i64 0), V.nils])).bind fun t4 =>
  (M.lift (Ax.iaddr none 1 t1 (V.int .i64 0))).bind fun t11 =>
  (mload none t11).bind fun t12 =>
  (M.lift (Ax.cint .i64 t12)).bind fun t13 =>
  (M.lift (Ax.build [(V.int .i64 0), V.nils] [(0, 1, t13)])).bind fun t14 =>
  (mbox ty_rtp_Ext (V.agg [(V.int .i64 0), V.nils])).bind fun t7 =>
  (mstore 2 t7 t14).bind fun _ =>
  (M.lift (Ax.bin .eql t0 (V.int .i64 48862))).bind fun t16 =>
  M.join (M.ite t16
    ((M.lift (Ax.iaddr none 1 t1 (V.int .i64 0))).bind fun t18 =>
    (mload none t18).bind fun t19 =>
    (M.lift (Ax.bin .shr t19 (V.int .u64 4))).bind fun t20 =>
    (M.lift (Ax.cint .i64 t20)).bind fun t21 =>
    (M.lift (Ax.faddr 0 t7)).bind fun t22 =>
    (mstore 1 t22 t21).bind fun _ =>
    (M.lift (Ax.iaddr none 1 t1 (V.int .i64 0))).bind fun t24 =>
    (mload none t24).bind fun t25 =>
    (M.lift (Ax.bin .and t25 (V.int .u8 15))).bind fun t26 =>
    (M.lift (Ax.cint .i64 t26)).bind fun t27 =>
    (M.lift (Ax.bin .add t27 (V.int .i64 1))).bind fun t28 =>
    M.pure (.nrm [(V.int .i64 1), t28]))
    ((M.lift (vlen t1)).bind fun t30 =>
    (M.lift (Ax.bin .gtr t30 (V.int .i64 1))).bind fun t31 =>
    M.join (M.ite t31
      ((M.lift (Ax.iaddr none 1 t1 (V.int .i64 1))).bind fun t33 =>
      (mload none t33).bind fun t34 =>
      (M.lift (Ax.cint .i64 t34)).bind fun t35 =>
      M.pure (.nrm [t35]))
      (M.pure (.nrm [(V.int .i64 0)]))) fun L0 =>
    M.pure (.nrm [(V.int .i64 2), (L0.getD 0 .undef)]))) fun L1 =>
  (M.lift (Ax.faddr 0 t7)).bind fun t36 =>
  (mload none t36).bind fun t37 =>
  (M.lift (Ax.bin .eql t37 (V.int .i64 0))).bind fun t38 =>
  (guarded [(0, t38)] (some (0, false)) (M.pure t1)).bind fun t40 =>
  (guarded [(0, t38)] (some (0, false)) (M.lift (vlen t40))).bind fun t41 =>
  (guarded [(0, t38)] (some (0, false)) (M.pure (L1.getD 0 .undef))).bind fun t42 =>
  (guarded [(0, t38)] (some (0, false)) (M.pure (L1.getD 1 .undef))).bind fun t43 =>
  (guarded [(0, t38)] (some (0, false)) (M.lift (Ax.bin .add t42 t43))).bind fun t44 =>
  (guarded [(0, t38)] (some (0, false)) (M.lift (Ax.bin .lss t41 t44))).bind fun t45 =>
  (M.lift (Ax.pick t38 (V.bool true) t45)).bind fun t46 =>
  M.ite t46
    ((M.lift (Ax.build [(V.int .i64 0), V.nils] [])).bind fun t47 =>
    (mstore 2 t4 t47).bind fun _ =>
    (mload (some 2) t4).bind fun r0 =>
    M.pure (.ret [r0, (V.int .i64 0), (V.bool false)]))
    ((M.lift (Ax.bin .add (L1.getD 0 .undef) (L1.getD 1 .undef))).bind fun t52 =>
    (M.lift (vslice .sl 1 t1 (some (L1.getD 0 .undef)) (some t52) none)).bind fun t53 =>
    (G fn_bytes_Clone [t53]).bind fun t54 =>
    (M.lift (Ax.faddr 1 t7)).bind fun t55 =>
    (mstore 1 t55 t54).bind fun _ =>
    (mload (some 2) t7).bind fun t56 =>
    (M.lift (Ax.bin .add (L1.getD 0 .undef) (L1.getD 1 .undef))).bind fun t59 =>
    (mstore 2 t4 t56).bind fun _ =>
    (mload (some 2) t4).bind fun r0 =>
    M.pure (.ret [r0, t59, (V.bool true)]))

theorem eq_rtp_element (G : Sem') (t0 t1 : V) : execK G ir_rtp_element.rv ir_rtp_element.body [] [] (params 0 [t0, t1]) = f_rtp_element G t0 t1 := by kernel_rfl

def d_rtp_element (G : Sem') : List V → M V
  | [t0, t1] => fin (f_rtp_element G t0 t1)
  | _ => M.fail

theorem s_rtp_element {g : Sem'} (hg : Sims g (sem T)) (args : List V) : Sim (d_rtp_element g args) (sem T fn_rtp_element args) := by
  unfold d_rtp_element
  split
  · exact sim_fn tb_rtp_element (Nat.le_of_ble_eq_true rfl) hg (eq_rtp_element g _ _)
  · exact sim_fail

/-- palanquin/palanquinref9.Fine. -/
def f_palanquinref9_Fine_0 (G : Sem') (t3 t1 : V) (L : List V) : M Res :=
  (M.lift (Ax.bin .lss (L.getD 0 .undef) t3)).bind fun t51 =>
  M.ite t51
    (M.blk 1 (
      (M.lift (Ax.faddr 2 t1)).bind fun t54 =>
      (mload none t54).bind fun t55 =>
      (M.lift (Ax.iaddr none 5 t55 (L.getD 0 .undef))).bind fun t57 =>
      (mload (some 5) t57).bind fun t58 =>
      (mbox ty_palanquinref9_Template (V.agg [(V.int .i64 0), (V.int .i64 0), V.nils, V.nils, V.nils])).bind fun t5 =>
      (mstore 5 t5 t58).bind fun _ =>
      (M.lift (Ax.faddr 0 t5)).bind fun t59 =>
      (mload none t59).bind fun t60 =>
      (M.lift (Ax.bin .lss t60 (V.int .i64 0))).bind fun t61 =>
      (guarded [(0, t61)] (some (0, false)) (M.lift (Ax.faddr 0 t5))).bind fun t63 =>
      (guarded [(0, t61)] (some (0, false)) (mload none t63)).bind fun t64 =>
      (guarded [(0, t61)] (some (0, false)) (M.lift (Ax.bin .gtr t64 (V.int .i64 3)))).bind fun t65 =>
      (M.lift (Ax.pick t61 (V.bool true) t65)).bind fun t66 =>
      (guarded [(0, t66)] (some (0, false)) (M.lift (Ax.faddr 1 t5))).bind fun t68 =>
      (guarded [(0, t66)] (some (0, false)) (mload none t68)).bind fun t69 =>
      (guarded [(0, t66)] (some (0, false)) (M.lift (Ax.bin .lss t69 (V.int .i64 0)))).bind fun t70 =>
      (M.lift (Ax.pick t66 (V.bool true) t70)).bind fun t71 =>
      (guarded [(0, t71)] (some (0, false)) (M.lift (Ax.faddr 1 t5))).bind fun t73 =>
      (guarded [(0, t71)] (some (0, false)) (mload none t73)).bind fun t74 =>
      (guarded [(0, t71)] (some (0, false)) (M.lift (Ax.bin .gtr t74 (V.int .i64 7)))).bind fun t75 =>
      (M.lift (Ax.pick t71 (V.bool true) t75)).bind fun t76 =>
      (guarded [(0, t76)] (some (0, false)) (M.pure (L.getD 0 .undef))).bind fun t78 =>
      (guarded [(0, t76)] (some (0, false)) (M.lift (Ax.bin .eql t78 (V.int .i64 0)))).bind fun t79 =>
      (guarded [(0, t76)] (some (0, false)) (M.pure t79)).bind fun t80 =>
      (guarded [(0, t80)] (some (0, true)) (M.lift (Ax.faddr 0 t5))).bind fun t81 =>
      (guarded [(0, t80)] (some (0, true)) (mload none t81)).bind fun t82 =>
      (guarded [(0, t80)] (some (0, true)) (M.lift (Ax.bin .neq t82 (V.int .i64 0)))).bind fun t83 =>
      (guarded [(0, t80)] (some (0, true)) (M.pure t83)).bind fun t84 =>
      (guarded [(0, t84)] (some (0, false)) (M.lift (Ax.faddr 1 t5))).bind fun t85 =>
      (guarded [(0, t84)] (some (0, false)) (mload none t85)).bind fun t86 =>
      (guarded [(0, t84)] (some (0, false)) (M.lift (Ax.bin .neq t86 (V.int .i64 0)))).bind fun t87 =>
      (guarded [(0, t80)] (some (0, true)) (M.lift (Ax.pick t84 (V.bool true) t87))).bind fun t88 =>
      (guarded [(0, t76)] (some (0, false)) (M.lift (Ax.pick t80 t88 (V.bool false)))).bind fun t89 =>
      (M.lift (Ax.pick t76 (V.bool true) t89)).bind fun t90 =>
      M.ite t90
        (M.pure (.ret [(V.bool false)]))
        ((M.lift (Ax.bin .gtr (L.getD 0 .undef) (V.int .i64 0))).bind fun t92 =>
        (guarded [(0, t92)] (some (0, true)) (M.lift (Ax.faddr 2 t1))).bind fun t94 =>
        (guarded [(0, t92)] (some (0, true)) (mload none t94)).bind fun t95 =>
        (guarded [(0, t92)] (some (0, true)) (M.pure (L.getD 0 .undef))).bind fun t96 =>
        (guarded [(0, t92)] (some (0, true)) (M.lift (Ax.bin .sub t96 (V.int .i64 1)))).bind fun t97 =>
        (guarded [(0, t92)] (some (0, true)) (M.lift (Ax.iaddr none 5 t95 t97))).bind fun t98 =>
        (guarded [(0, t92)] (some (0, true)) (mload (some 5) t98)).bind fun t99 =>
        (guarded [(0, t92)] (some (0, true)) (mload (some 5) t5)).bind fun t100 =>
        (guarded [(0, t92)] (some (0, true)) (G fn_palanquinref9_step [t99, t100])).bind fun t101 =>
        (guarded [(0, t92)] (some (0, true)) (M.lift (Ax.bin .eql t101 (V.int .i64 3)))).bind fun t102 =>
        (M.lift (Ax.pick t92 t102 (V.bool false))).bind fun t103 =>
        M.ite t103
          (M.pure (.ret [(V.bool false)]))
          ((M.lift (Ax.faddr 2 t5)).bind fun t104 =>
          (mload none t104).bind fun t105 =>
          (M.lift (Ax.faddr 1 t1)).bind fun t106 =>
          (mload none t106).bind fun t107 =>
          (G fn_palanquinref9_within [t105, t107, (V.int .i64 0), (V.int .i64 3)]).bind fun t108 =>
          (M.lift (Ax.un .not t108)).bind fun t109 =>
          (guarded [(0, t109)] (some (0, false)) (M.lift (Ax.faddr 3 t5))).bind fun t111 =>
          (guarded [(0, t109)] (some (0, false)) (mload none t111)).bind fun t112 =>
          (guarded [(0, t109)] (some (0, false)) (M.lift (vlen t112))).bind fun t113 =>
          (guarded [(0, t109)] (some (0, false)) (M.lift (Ax.bin .gtr t113 (V.int .i64 8)))).bind fun t114 =>
          (M.lift (Ax.pick t109 (V.bool true) t114)).bind fun t115 =>
          (guarded [(0, t115)] (some (0, false)) (M.lift (Ax.faddr 3 t5))).bind fun t117 =>
          (guarded [(0, t115)] (some (0, false)) (mload none t117)).bind fun t118 =>
          (guarded [(0, t115)] (some (0, false)) (G fn_palanquinref9_within [t118, (V.int .i64 (-1)), (V.int .i64 1), (V.int .i64 16)])).bind fun t119 =>
          (guarded [(0, t115)] (some (0, false)) (M.lift (Ax.un .not t119))).bind fun t120 =>
          (M.lift (Ax.pick t115 (V.bool true) t120)).bind fun t121 =>
          (guarded [(0, t121)] (some (0, false)) (M.lift (Ax.faddr 4 t5))).bind fun t123 =>
          (guarded [(0, t121)] (some (0, false)) (mload none t123)).bind fun t124 =>
          (guarded [(0, t121)] (some (0, false)) (M.lift (Ax.faddr 3 t1))).bind fun t125 =>
          (guarded [(0, t121)] (some (0, false)) (mload none t125)).bind fun t126 =>
          (guarded [(0, t121)] (some (0, false)) (G fn_palanquinref9_within [t124, t126, (V.int .i64 0), (V.int .i64 15)])).bind fun t127 =>
          (guarded [(0, t121)] (some (0, false)) (M.lift (Ax.un .not t127))).bind fun t128 =>
          (M.lift (Ax.pick t121 (V.bool true) t128)).bind fun t129 =>
          M.ite t129
            (M.pure (.ret [(V.bool false)]))
            (M.pure (.nrm []))))) fun _ =>
    (M.lift (Ax.bin .add (L.getD 0 .undef) (V.int .i64 1))).bind fun t53 =>
    M.pure (.nrm [t53]))
    (M.pure (.ex 0 []))

def f_palanquinref9_Fine_1 (G : Sem') (t1 : V) (L : List V) : M Res :=
  (M.lift (Ax.faddr 5 t1)).bind fun t159 =>
  (mload none t159).bind fun t160 =>
  (M.lift (vlen t160)).bind fun t161 =>
  (M.lift (Ax.bin .lss (L.getD 0 .undef) t161)).bind fun t162 =>
  M.ite t162
    (M.blk 3 (
      (M.lift (Ax.faddr 5 t1)).bind fun t165 =>
      (mload none t165).bind fun t166 =>
      (M.lift (Ax.iaddr none 2 t166 (L.getD 0 .undef))).bind fun t168 =>
      (M.lift (Ax.iaddr (some 2) 1 t168 (V.int .i64 0))).bind fun t169 =>
      (mload none t169).bind fun t170 =>
      (M.lift (Ax.faddr 5 t1)).bind fun t171 =>
      (mload none t171).bind fun t172 =>
      (M.lift (Ax.iaddr none 2 t172 (L.getD 0 .undef))).bind fun t174 =>
      (M.lift (Ax.iaddr (some 2) 1 t174 (V.int .i64 1))).bind fun t175 =>
      (mload none t175).bind fun t176 =>
      (mslit ty_int 2 [(V.int .i64 0)] [(0, 1, t170), (1, 1, t176)]).bind fun t177 =>
      (G fn_palanquinref9_within [t177, (V.int .i64 2), (V.int .i64 1), (V.int .i64 65536)]).bind fun t178 =>
      (M.lift (Ax.un .not t178)).bind fun t179 =>
      M.ite t179
        (M.pure (.ret [(V.bool false)]))
        (M.pure (.nrm []))) fun _ =>
    (M.lift (Ax.bin .add (L.getD 0 .undef) (V.int .i64 1))).bind fun t164 =>
    M.pure (.nrm [t164]))
    (M.pure (.ex 2 []))

def f_palanquinref9_Fine (G : Sem') (t0 : V) : M Res :=
  (mbox ty_palanquinref9_Structure t0).bind fun t1 =>
  (M.lift (Ax.faddr 2 t1)).bind fun t8 =>
  (mload none t8).bind fun t9 =>
  (M.lift (vlen t9)).bind fun t10 =>
  (M.lift (Ax.faddr 0 t1)).bind fun t11 =>
  (mload none t11).bind fun t12 =>
  (M.lift (Ax.bin .lss t12 (V.int .i64 0))).bind fun t13 =>
  (guarded [(0, t13)] (some (0, false)) (M.lift (Ax.faddr 0 t1))).bind fun t15 =>
  (guarded [(0, t13)] (some (0, false)) (mload none t15)).bind fun t16 =>
  (guarded [(0, t13)] (some (0, false)) (M.lift (Ax.bin .gtr t16 (V.int .i64 63)))).bind fun t17 =>
  (M.lift (Ax.pick t13 (V.bool true) t17)).bind fun t18 =>
  (guarded [(0, t18)] (some (0, false)) (M.lift (Ax.faddr 1 t1))).bind fun t20 =>
  (guarded [(0, t18)] (some (0, false)) (mload none t20)).bind fun t21 =>
  (guarded [(0, t18)] (some (0, false)) (M.lift (Ax.bin .lss t21 (V.int .i64 1)))).bind fun t22 =>
  (M.lift (Ax.pick t18 (V.bool true) t22)).bind fun t23 =>
  (guarded [(0, t23)] (some (0, false)) (M.lift (Ax.faddr 1 t1))).bind fun t25 =>
  (guarded [(0, t23)] (some (0, false)) (mload none t25)).bind fun t26 =>
  (guarded [(0, t23)] (some (0, false)) (M.lift (Ax.bin .gtr t26 (V.int .i64 32)))).bind fun t27 =>
  (M.lift (Ax.pick t23 (V.bool true) t27)).bind fun t28 =>
  (guarded [(0, t28)] (some (0, false)) (M.pure t10)).bind fun t30 =>
  (guarded [(0, t28)] (some (0, false)) (M.lift (Ax.bin .lss t30 (V.int .i64 1)))).bind fun t31 =>
  (M.lift (Ax.pick t28 (V.bool true) t31)).bind fun t32 =>
  (guarded [(0, t32)] (some (0, false)) (M.pure t10)).bind fun t34 =>
  (guarded [(0, t32)] (some (0, false)) (M.lift (Ax.bin .gtr t34 (V.int .i64 64)))).bind fun t35 =>
  (M.lift (Ax.pick t32 (V.bool true) t35)).bind fun t36 =>
  (guarded [(0, t36)] (some (0, false)) (M.lift (Ax.faddr 3 t1))).bind fun t38 =>
  (guarded [(0, t36)] (some (0, false)) (mload none t38)).bind fun t39 =>
  (guarded [(0, t36)] (some (0, false)) (M.lift (Ax.bin .lss t39 (V.int .i64 0)))).bind fun t40 =>
  (M.lift (Ax.pick t36 (V.bool true) t40)).bind fun t41 =>
  (guarded [(0, t41)] (some (0, false)) (M.lift (Ax.faddr 3 t1))).bind fun t43 =>
  (guarded [(0, t41)] (some (0, false)) (mload none t43)).bind fun t44 =>
  (guarded [(0, t41)] (some (0, false)) (M.lift (Ax.faddr 1 t1))).bind fun t45 =>
  (guarded [(0, t41)] (some (0, false)) (mload none t45)).bind fun t46 =>
  (guarded [(0, t41)] (some (0, false)) (M.lift (Ax.bin .gtr t44 t46))).bind fun t47 =>
  (M.lift (Ax.pick t41 (V.bool true) t47)).bind fun t48 =>
  M.ite t48
    (M.pure (.ret [(V.bool false)]))
    (M.blk 0 (
      M.iter (f_palanquinref9_Fine_0 G t10 t1) [(V.int .i64 0)]) fun _ =>
    (M.lift (Ax.faddr 3 t1)).bind fun t130 =>
    (mload none t130).bind fun t131 =>
    (M.lift (Ax.bin .gtr t131 (V.int .i64 0))).bind fun t132 =>
    M.join (M.ite t132
      ((M.lift (Ax.faddr 1 t1)).bind fun t133 =>
      (mload none t133).bind fun t134 =>
      M.pure (.nrm [t134]))
      (M.pure (.nrm [(V.int .i64 0)]))) fun L2 =>
    (M.lift (Ax.faddr 4 t1)).bind fun t135 =>
    (mload none t135).bind fun t136 =>
    (M.lift (Ax.faddr 3 t1)).bind fun t138 =>
    (mload none t138).bind fun t139 =>
    (M.lift (Ax.bin .sub t139 (V.int .i64 1))).bind fun t140 =>
    (G fn_palanquinref9_within [t136, (L2.getD 0 .undef), (V.int .i64 0), t140]).bind fun t141 =>
    (M.lift (Ax.un .not t141)).bind fun t142 =>
    (guarded [(0, t142)] (some (0, false)) (M.lift (Ax.faddr 5 t1))).bind fun t144 =>
    (guarded [(0, t142)] (some (0, false)) (mload none t144)).bind fun t145 =>
    (guarded [(0, t142)] (some (0, false)) (M.lift (vlen t145))).bind fun t146 =>
    (guarded [(0, t142)] (some (0, false)) (M.lift (Ax.bin .gtr t146 (V.int .i64 0)))).bind fun t147 =>
    (guarded [(0, t142)] (some (0, false)) (M.pure t147)).bind fun t148 =>
    (guarded [(0, t148)] (some (0, true)) (mload (some 6) t1)).bind fun t152 =>
    M.getH.bind fun h0 =>
    (guarded [(0, t148)] (some (0, true)) (G fn_palanquinref9_top [t152])).bind fun t153 =>
    M.getH.bind fun h0' =>
    (guarded [(0, t148)] (some (0, true)) (M.lift (Ax.faddr 5 t1))).bind fun t149 =>
    (guarded [(0, t148)] (some (0, true)) (mload none t149)).bind fun t150 =>
    (M.unch t149 h0 h0').bind fun _ =>
    (guarded [(0, t148)] (some (0, true)) (M.lift (vlen t150))).bind fun t151 =>
    (guarded [(0, t148)] (some (0, true)) (M.lift (Ax.bin .add t153 (V.int .i64 1)))).bind fun t154 =>
    (guarded [(0, t148)] (some (0, true)) (M.lift (Ax.bin .neq t151 t154))).bind fun t155 =>
    (guarded [(0, t142)] (some (0, false)) (M.lift (Ax.pick t148 t155 (V.bool false)))).bind fun t156 =>
    (M.lift (Ax.pick t142 (V.bool true) t156)).bind fun t157 =>
    M.ite t157
      (M.pure (.ret [(V.bool false)]))
      (M.blk 2 (
        M.iter (f_palanquinref9_Fine_1 G t1) [(V.int .i64 0)]) fun _ =>
      M.pure (.ret [(V.bool true)])))

theorem eq_palanquinref9_Fine (G : Sem') (t0 : V) : execK G ir_palanquinref9_Fine.rv ir_palanquinref9_Fine.body [] [] (params 0 [t0]) = f_palanquinref9_Fine G t0 := by kernel_rfl

def d_palanquinref9_Fine (G : Sem') : List V → M V
  | [t0] => fin (f_palanquinref9_Fine G t0)
  | _ => M.fail

theorem s_palanquinref9_Fine {g : Sem'} (hg : Sims g (sem T)) (args : List V) : Sim (d_palanquinref9_Fine g args) (sem T fn_palanquinref9_Fine args) := by
  unfold d_palanquinref9_Fine
  split
  · exact sim_fn tb_palanquinref9_Fine (Nat.le_of_ble_eq_true rfl) hg (eq_palanquinref9_Fine g _)
  · exact sim_fail

/-- palanquin/palanquinref6.width. -/
def f_palanquinref6_width_0 (G : Sem') (t2 t3 : V) (L : List V) : M Res :=
  (M.lift (Ax.bin .gtr (L.getD 1 .undef) (V.int .u64 0))).bind fun t8 =>
  M.ite t8
    (M.blk 1 (
      (M.lift (Ax.bin .add (L.getD 0 .undef) (V.int .i64 1))).bind fun t12 =>
      M.pure (.nrm [t12])) fun L0 =>
    (M.lift (Ax.bin .shr (L.getD 1 .undef) (V.int .u64 1))).bind fun t10 =>
    M.pure (.nrm [(L0.getD 0 .undef), t10]))
    (M.pure (.ex 0 [(L.getD 0 .undef)]))

def f_palanquinref6_width (G : Sem') (t0 : V) : M Res :=
  M.blk 0 (
    M.iter (f_palanquinref6_width_0 G (V.int .i64 0) (V.int .u64 0)) [(V.int .i64 0), t0]) fun L1 =>
  (M.lift (Ax.cint .u64 (L1.getD 0 .undef))).bind fun t15 =>
  (M.lift (Ax.bin .shl (V.int .u64 1) t15)).bind fun t16 =>
  (M.lift (Ax.bin .sub t16 t0)).bind fun t18 =>
  M.pure (.ret [(L1.getD 0 .undef), t18])

theorem eq_palanquinref6_width (G : Sem') (t0 : V) : execK G ir_palanquinref6_width.rv ir_palanquinref6_width.body [] [] (params 0 [t0]) = f_palanquinref6_width G t0 := by kernel_rfl

def d_palanquinref6_width (G : Sem') : List V → M V
  | [t0] => fin (f_palanquinref6_width G t0)
  | _ => M.fail

theorem s_palanquinref6_width {g : Sem'} (hg : Sims g (sem T)) (args : List V) : Sim (d_palanquinref6_width g args) (sem T fn_palanquinref6_width args) := by
  unfold d_palanquinref6_width
  split
  · exact sim_fn tb_palanquinref6_width (Nat.le_of_ble_eq_true rfl) hg (eq_palanquinref6_width g _)
  · exact sim_fail

/-- palanquin/depend.layers. -/
def f_depend_layers_0 (G : Sem') (t11 t10 t3 : V) (L : List V) : M Res :=
  (M.lift (Ax.bin .lss (L.getD 0 .undef) t11)).bind fun t13 =>
  M.ite t13
    (M.blk 1 (
      (M.lift (Ax.iaddr none 5 t10 (L.getD 0 .undef))).bind fun t15 =>
      (mload (some 5) t15).bind fun t16 =>
      (mbox ty_depend_Template (V.agg [(V.int .i64 0), (V.int .i64 0), V.nils, V.nils, V.nils])).bind fun t5 =>
      (mstore 5 t5 t16).bind fun _ =>
      (mload (some 5) t3).bind fun t18 =>
      (mload (some 5) t5).bind fun t19 =>
      (G fn_depend_next [t18, t19]).bind fun t20 =>
      (M.lift (Ax.ext 0 t20)).bind fun t21 =>
      (M.lift (Ax.ext 1 t20)).bind fun t22 =>
      (M.lift (Ax.un .not t22)).bind fun t24 =>
      (guarded [(0, t24)] (some (0, false)) (M.pure (L.getD 0 .undef))).bind fun t26 =>
      (guarded [(0, t24)] (some (0, false)) (M.lift (Ax.bin .eql t26 (V.int .i64 0)))).bind fun t27 =>
      (guarded [(0, t24)] (some (0, false)) (M.pure t27)).bind fun t28 =>
      (guarded [(0, t28)] (some (0, true)) (M.pure t21)).bind fun t29 =>
      (guarded [(0, t28)] (some (0, true)) (M.lift (Ax.bin .neq t29 (V.int .i64 0)))).bind fun t30 =>
      (guarded [(0, t24)] (some (0, false)) (M.lift (Ax.pick t28 t30 (V.bool false)))).bind fun t31 =>
      (M.lift (Ax.pick t24 (V.bool true) t31)).bind fun t32 =>
      (guarded [(0, t32)] (some (0, false)) (M.lift (Ax.faddr 0 t5))).bind fun t34 =>
      (guarded [(0, t32)] (some (0, false)) (mload none t34)).bind fun t35 =>
      (guarded [(0, t32)] (some (0, false)) (M.lift (Ax.bin .gtr t35 (V.int .i64 3)))).bind fun t36 =>
      (M.lift (Ax.pick t32 (V.bool true) t36)).bind fun t37 =>
      (guarded [(0, t37)] (some (0, false)) (M.lift (Ax.faddr 1 t5))).bind fun t39 =>
      (guarded [(0, t37)] (some (0, false)) (mload none t39)).bind fun t40 =>
      (guarded [(0, t37)] (some (0, false)) (M.lift (Ax.bin .gtr t40 (V.int .i64 7)))).bind fun t41 =>
      (M.lift (Ax.pick t37 (V.bool true) t41)).bind fun t42 =>
      M.ite t42
        (M.pure (.ret [(V.bool false)]))
        ((mload (some 5) t5).bind fun t43 =>
        (mstore 5 t3 t43).bind fun _ =>
        M.pure (.nrm []))) fun _ =>
    (M.lift (Ax.bin .add (L.getD 0 .undef) (V.int .i64 1))).bind fun t44 =>
    M.pure (.nrm [t44]))
    (M.pure (.ex 0 []))

def f_depend_layers (G : Sem') (t0 : V) : M Res :=
  (mbox ty_depend_Structure t0).bind fun t1 =>
  (M.lift (Ax.build [(V.int .i64 0), (V.int .i64 0), V.nils, V.nils, V.nils] [])).bind fun t8 =>
  (mbox ty_depend_Template (V.agg [(V.int .i64 0), (V.int .i64 0), V.nils, V.nils, V.nils])).bind fun t3 =>
  (mstore 5 t3 t8).bind fun _ =>
  (M.lift (Ax.faddr 2 t1)).bind fun t9 =>
  (mload none t9).bind fun t10 =>
  (M.lift (vlen t10)).bind fun t11 =>
  M.blk 0 (
    M.iter (f_depend_layers_0 G t11 t10 t3) [(V.int .i64 0)]) fun _ =>
  (M.lift (Ax.faddr 2 t1)).bind fun t45 =>
  (mload none t45).bind fun t46 =>
  (M.lift (vlen t46)).bind fun t47 =>
  (M.lift (Ax.bin .geq t47 (V.int .i64 1))).bind fun t48 =>
  (guarded [(0, t48)] (some (0, true)) (M.lift (Ax.faddr 2 t1))).bind fun t50 =>
  (guarded [(0, t48)] (some (0, true)) (mload none t50)).bind fun t51 =>
  (guarded [(0, t48)] (some (0, true)) (M.lift (vlen t51))).bind fun t52 =>
  (guarded [(0, t48)] (some (0, true)) (M.lift (Ax.bin .leq t52 (V.int .i64 64)))).bind fun t53 =>
  (M.lift (Ax.pick t48 t53 (V.bool false))).bind fun t54 =>
  M.pure (.ret [t54])

theorem eq_depend_layers (G : Sem') (t0 : V) : execK G ir_depend_layers.rv ir_depend_layers.body [] [] (params 0 [t0]) = f_depend_layers G t0 := by kernel_rfl

def d_depend_layers (G : Sem') : List V → M V
  | [t0] => fin (f_depend_layers G t0)
  | _ => M.fail

theorem s_depend_layers {g : Sem'} (hg : Sims g (sem T)) (args : List V) : Sim (d_depend_layers g args) (sem T fn_depend_layers args) := by
  unfold d_depend_layers
  split
  · exact sim_fn tb_depend_layers (Nat.le_of_ble_eq_true rfl) hg (eq_depend_layers g _)
  · exact sim_fail

/-- palanquin/depend.spatial. -/
def f_depend_spatial_0 (G : Sem') (t8 t7 t2 : V) (L : List V) : M Res :=
  (M.lift (Ax.bin .lss (L.getD 1 .undef) t8)).bind fun t10 =>
  M.ite t10
    (M.blk 1 (
      (M.lift (Ax.iaddr none 5 t7 (L.getD 1 .undef))).bind fun t11 =>
      (mload (some 5) t11).bind fun t12 =>
      (mbox ty_depend_Template (V.agg [(V.int .i64 0), (V.int .i64 0), V.nils, V.nils, V.nils])).bind fun t5 =>
      (mstore 5 t5 t12).bind fun _ =>
      (M.lift (Ax.faddr 0 t5)).bind fun t14 =>
      (mload none t14).bind fun t15 =>
      (M.lift (Ax.bin .add t15 (V.int .i64 1))).bind fun t16 =>
      (M.lift (Ax.minmax true (L.getD 0 .undef) [t16])).bind fun t17 =>
      M.pure (.nrm [t17])) fun L0 =>
    (M.lift (Ax.bin .add (L.getD 1 .undef) (V.int .i64 1))).bind fun t18 =>
    M.pure (.nrm [(L0.getD 0 .undef), t18]))
    (M.pure (.ex 0 [(L.getD 0 .undef)]))

def f_depend_spatial (G : Sem') (t0 : V) : M Res :=
  (mbox ty_depend_Structure t0).bind fun t1 =>
  (M.lift (Ax.faddr 2 t1)).bind fun t6 =>
  (mload none t6).bind fun t7 =>
  (M.lift (vlen t7)).bind fun t8 =>
  M.blk 0 (
    M.iter (f_depend_spatial_0 G t8 t7 (V.int .i64 0)) [(V.int .i64 0), (V.int .i64 0)]) fun L1 =>
  M.pure (.ret [(L1.getD 0 .undef)])

theorem eq_depend_spatial (G : Sem') (t0 : V) : execK G ir_depend_spatial.rv ir_depend_spatial.body [] [] (params 0 [t0]) = f_depend_spatial G t0 := by kernel_rfl

def d_depend_spatial (G : Sem') : List V → M V
  | [t0] => fin (f_depend_spatial G t0)
  | _ => M.fail

theorem s_depend_spatial {g : Sem'} (hg : Sims g (sem T)) (args : List V) : Sim (d_depend_spatial g args) (sem T fn_depend_spatial args) := by
  unfold d_depend_spatial
  split
  · exact sim_fn tb_depend_spatial (Nat.le_of_ble_eq_true rfl) hg (eq_depend_spatial g _)
  · exact sim_fail

/-- slices.ContainsFunc[[]palanquin/depend.Template,palanquin/depend.Template]. -/
def f_slices_ContainsFunc_depend_Template_depend_Template (G : Sem') (t0 t1 : V) : M Res :=
  (G fn_slices_IndexFunc_depend_Template_depend_Template [t0, t1]).bind fun t7 =>
  (M.lift (Ax.bin .geq t7 (V.int .i64 0))).bind fun t8 =>
  M.pure (.ret [t8])

theorem eq_slices_ContainsFunc_depend_Template_depend_Template (G : Sem') (t0 t1 : V) : execK G ir_slices_ContainsFunc_depend_Template_depend_Template.rv ir_slices_ContainsFunc_depend_Template_depend_Template.body [] [] (params 0 [t0, t1]) = f_slices_ContainsFunc_depend_Template_depend_Template G t0 t1 := by kernel_rfl

def d_slices_ContainsFunc_depend_Template_depend_Template (G : Sem') : List V → M V
  | [t0, t1] => fin (f_slices_ContainsFunc_depend_Template_depend_Template G t0 t1)
  | _ => M.fail

theorem s_slices_ContainsFunc_depend_Template_depend_Template {g : Sem'} (hg : Sims g (sem T)) (args : List V) : Sim (d_slices_ContainsFunc_depend_Template_depend_Template g args) (sem T fn_slices_ContainsFunc_depend_Template_depend_Template args) := by
  unfold d_slices_ContainsFunc_depend_Template_depend_Template
  split
  · exact sim_fn tb_slices_ContainsFunc_depend_Template_depend_Template (Nat.le_of_ble_eq_true rfl) hg (eq_slices_ContainsFunc_depend_Template_depend_Template g _ _)
  · exact sim_fail

/-- palanquin/depend.Fine$1. -/
def f_depend_Fine_1 (G : Sem') (t0 t1 : V) : M Res :=
  (mbox ty_depend_Template t0).bind fun t2 =>
  (mload (some 6) t1).bind fun t4 =>
  (mload (some 5) t2).bind fun t5 =>
  (G fn_depend_Structure_fine [t4, t5]).bind fun t6 =>
  (M.lift (Ax.un .not t6)).bind fun t7 =>
  M.pure (.ret [t7])

theorem eq_depend_Fine_1 (G : Sem') (t0 t1 : V) : execK G ir_depend_Fine_1.rv ir_depend_Fine_1.body [] [] (params 0 [t0, t1]) = f_depend_Fine_1 G t0 t1 := by kernel_rfl

def d_depend_Fine_1 (G : Sem') : List V → M V
  | [t0, t1] => fin (f_depend_Fine_1 G t0 t1)
  | _ => M.fail

theorem s_depend_Fine_1 {g : Sem'} (hg : Sims g (sem T)) (args : List V) : Sim (d_depend_Fine_1 g args) (sem T fn_depend_Fine_1 args) := by
  unfold d_depend_Fine_1
  split
  · exact sim_fn tb_depend_Fine_1 (Nat.le_of_ble_eq_true rfl) hg (eq_depend_Fine_1 g _ _)
  · exact sim_fail

/-- (palanquin/depend.Structure).fine. -/
def f_depend_Structure_fine (G : Sem') (t0 t1 : V) : M Res :=
  (mbox ty_depend_Structure t0).bind fun t2 =>
  (mbox ty_depend_Template t1).bind fun t3 =>
  (M.lift (Ax.faddr 2 t3)).bind fun t5 =>
  (mload none t5).bind fun t6 =>
  (M.lift (Ax.faddr 1 t2)).bind fun t7 =>
  (mload none t7).bind fun t8 =>
  (G fn_depend_within [t6, t8, (V.int .i64 0), (V.int .i64 3)]).bind fun t9 =>
  (guarded [(0, t9)] (some (0, true)) (M.lift (Ax.faddr 3 t3))).bind fun t11 =>
  (guarded [(0, t9)] (some (0, true)) (mload none t11)).bind fun t12 =>
  (guarded [(0, t9)] (some (0, true)) (G fn_depend_diffs [t12, (V.int .i64 8), (V.int .i64 16)])).bind fun t13 =>
  (M.lift (Ax.pick t9 t13 (V.bool false))).bind fun t14 =>
  (guarded [(0, t14)] (some (0, true)) (M.lift (Ax.faddr 4 t3))).bind fun t16 =>
  (guarded [(0, t14)] (some (0, true)) (mload none t16)).bind fun t17 =>
  (guarded [(0, t14)] (some (0, true)) (M.lift (Ax.faddr 3 t2))).bind fun t18 =>
  (guarded [(0, t14)] (some (0, true)) (mload none t18)).bind fun t19 =>
  (guarded [(0, t14)] (some (0, true)) (G fn_depend_within [t17, t19, (V.int .i64 0), (V.int .i64 15)])).bind fun t20 =>
  (M.lift (Ax.pick t14 t20 (V.bool false))).bind fun t21 =>
  M.pure (.ret [t21])

theorem eq_depend_Structure_fine (G : Sem') (t0 t1 : V) : execK G ir_depend_Structure_fine.rv ir_depend_Structure_fine.body [] [] (params 0 [t0, t1]) = f_depend_Structure_fine G t0 t1 := by kernel_rfl

def d_depend_Structure_fine (G : Sem') : List V → M V
  | [t0, t1] => fin (f_depend_Structure_fine G t0 t1)
  | _ => M.fail

theorem s_depend_Structure_fine {g : Sem'} (hg : Sims g (sem T)) (args : List V) : Sim (d_depend_Structure_fine g args) (sem T fn_depend_Structure_fine args) := by
  unfold d_depend_Structure_fine
  split
  · exact sim_fn tb_depend_Structure_fine (Nat.le_of_ble_eq_true rfl) hg (eq_depend_Structure_fine g _ _)
  · exact sim_fail

/-- palanquin/depend.copied. -/
def f_depend_copied (G : Sem') (t0 : V) : M Res :=
  (mbox ty_depend_Template t0).bind fun t1 =>
  (mbox ty_depend_Template (V.agg [(V.int .i64 0), (V.int .i64 0), V.nils, V.nils, V.nils])).bind fun t2 =>
  (M.lift (Ax.faddr 2 t1)).bind fun t3 =>
  (mload none t3).bind fun t4 =>
  (M.lift (Ax.faddr 3 t1)).bind fun t6 =>
  (mload none t6).bind fun t7 =>
  (M.lift (Ax.faddr 4 t1)).bind fun t9 =>
  (mload none t9).bind fun t10 =>
  M.getH.bind fun h0 =>
  (G fn_slices_Clone_int_int [t4]).bind fun t5 =>
  M.getH.bind fun h0' =>
  (M.unch t9 h0 h0').bind fun _ =>
  (M.unch t6 h0 h0').bind fun _ =>
  M.getH.bind fun h1 =>
  (G fn_slices_Clone_int_int [t7]).bind fun t8 =>
  M.getH.bind fun h1' =>
  (M.unch t9 h1 h1').bind fun _ =>
  (G fn_slices_Clone_int_int [t10]).bind fun t11 =>
  (M.lift (Ax.faddr 2 t1)).bind fun t12 =>
  (mstore 1 t12 t5).bind fun _ =>
  (M.lift (Ax.faddr 3 t1)).bind fun t13 =>
  (mstore 1 t13 t8).bind fun _ =>
  (M.lift (Ax.faddr 4 t1)).bind fun t14 =>
  (mstore 1 t14 t11).bind fun _ =>
  (mload (some 5) t1).bind fun t15 =>
  (mstore 5 t2 t15).bind fun _ =>
  (mload (some 5) t2).bind fun r0 =>
  M.pure (.ret [r0])

theorem eq_depend_copied (G : Sem') (t0 : V) : execK G ir_depend_copied.rv ir_depend_copied.body [] [] (params 0 [t0]) = f_depend_copied G t0 := by kernel_rfl

def d_depend_copied (G : Sem') : List V → M V
  | [t0] => fin (f_depend_copied G t0)
  | _ => M.fail

theorem s_depend_copied {g : Sem'} (hg : Sims g (sem T)) (args : List V) : Sim (d_depend_copied g args) (sem T fn_depend_copied args) := by
  unfold d_depend_copied
  split
  · exact sim_fn tb_depend_copied (Nat.le_of_ble_eq_true rfl) hg (eq_depend_copied g _)
  · exact sim_fail

/-- slices.IndexFunc[[]int,int]. -/
def f_slices_IndexFunc_int_int_0 (G : Sem') (t7 t1 t0 : V) (L : List V) : M Res :=
  (M.lift (Ax.bin .lss (L.getD 0 .undef) t7)).bind fun t9 =>
  M.ite t9
    (M.blk 1 (
      (M.lift (Ax.iaddr none 1 t0 (L.getD 0 .undef))).bind fun t14 =>
      (mload none t14).bind fun t15 =>
      (callv G t1 [t15]).bind fun t16 =>
      M.ite t16
        (M.pure (.ret [(L.getD 0 .undef)]))
        (M.pure (.nrm []))) fun _ =>
    (M.lift (Ax.bin .add (L.getD 0 .undef) (V.int .i64 1))).bind fun t18 =>
    M.pure (.nrm [t18]))
    (M.pure (.ex 0 []))

def f_slices_IndexFunc_int_int (G : Sem') (t0 t1 : V) : M Res :=
  (M.lift (vlen t0)).bind fun t7 =>
  M.blk 0 (
    M.iter (f_slices_IndexFunc_int_int_0 G t7 t1 t0) [(V.int .i64 0)]) fun _ =>
  M.pure (.ret [(V.int .i64 (-1))])

theorem eq_slices_IndexFunc_int_int (G : Sem') (t0 t1 : V) : execK G ir_slices_IndexFunc_int_int.rv ir_slices_IndexFunc_int_int.body [] [] (params 0 [t0, t1]) = f_slices_IndexFunc_int_int G t0 t1 := by kernel_rfl

def d_slices_IndexFunc_int_int (G : Sem') : List V → M V
  | [t0, t1] => fin (f_slices_IndexFunc_int_int G t0 t1)
  | _ => M.fail

theorem s_slices_IndexFunc_int_int {g : Sem'} (hg : Sims g (sem T)) (args : List V) : Sim (d_slices_IndexFunc_int_int g args) (sem T fn_slices_IndexFunc_int_int args) := by
  unfold d_slices_IndexFunc_int_int
  split
  · exact sim_fn tb_slices_IndexFunc_int_int (Nat.le_of_ble_eq_true rfl) hg (eq_slices_IndexFunc_int_int g _ _)
  · exact sim_fail

/-- palanquin/palanquinref9.top. -/
def f_palanquinref9_top_0 (G : Sem') (t1 t2 : V) (L : List V) : M Res :=
  (M.lift (Ax.faddr 2 t1)).bind fun t6 =>
  (mload none t6).bind fun t7 =>
  (M.lift (vlen t7)).bind fun t8 =>
  (M.lift (Ax.bin .lss (L.getD 1 .undef) t8)).bind fun t9 =>
  M.ite t9
    (M.blk 1 (
      (M.lift (Ax.faddr 2 t1)).bind fun t13 =>
      (mload none t13).bind fun t14 =>
      (M.lift (Ax.iaddr none 5 t14 (L.getD 1 .undef))).bind fun t16 =>
      (M.lift (Ax.faddr 0 t16)).bind fun t17 =>
      (mload none t17).bind fun t18 =>
      (M.lift (Ax.minmax true (L.getD 0 .undef) [t18])).bind fun t19 =>
      M.pure (.nrm [t19])) fun L0 =>
    (M.lift (Ax.bin .add (L.getD 1 .undef) (V.int .i64 1))).bind fun t11 =>
    M.pure (.nrm [(L0.getD 0 .undef), t11]))
    (M.pure (.ex 0 [(L.getD 0 .undef)]))

def f_palanquinref9_top (G : Sem') (t0 : V) : M Res :=
  (mbox ty_palanquinref9_Structure t0).bind fun t1 =>
  M.blk 0 (
    M.iter (f_palanquinref9_top_0 G t1 (V.int .i64 0)) [(V.int .i64 0), (V.int .i64 0)]) fun L1 =>
  M.pure (.ret [(L1.getD 0 .undef)])

theorem eq_palanquinref9_top (G : Sem') (t0 : V) : execK G ir_palanquinref9_top.rv ir_palanquinref9_top.body [] [] (params 0 [t0]) = f_palanquinref9_top G t0 := by kernel_rfl

def d_palanquinref9_top (G : Sem') : List V → M V
  | [t0] => fin (f_palanquinref9_top G t0)
  | _ => M.fail

theorem s_palanquinref9_top {g : Sem'} (hg : Sims g (sem T)) (args : List V) : Sim (d_palanquinref9_top g args) (sem T fn_palanquinref9_top args) := by
  unfold d_palanquinref9_top
  split
  · exact sim_fn tb_palanquinref9_top (Nat.le_of_ble_eq_true rfl) hg (eq_palanquinref9_top g _)
  · exact sim_fail

/-- palanquin/depend.next. -/
def f_depend_next (G : Sem') (t0 t1 : V) : M Res :=
  (mbox ty_depend_Template t0).bind fun t2 =>
  (mbox ty_depend_Template t1).bind fun t3 =>
  M.blk 0 (
    (M.lift (Ax.faddr 0 t3)).bind fun t7 =>
    (mload none t7).bind fun t8 =>
    (M.lift (Ax.faddr 0 t2)).bind fun t9 =>
    (mload none t9).bind fun t10 =>
    (M.lift (Ax.bin .eql t8 t10)).bind fun t11 =>
    (guarded [(0, t11)] (some (0, true)) (M.lift (Ax.faddr 1 t3))).bind fun t13 =>
    (guarded [(0, t11)] (some (0, true)) (mload none t13)).bind fun t14 =>
    (guarded [(0, t11)] (some (0, true)) (M.lift (Ax.faddr 1 t2))).bind fun t15 =>
    (guarded [(0, t11)] (some (0, true)) (mload none t15)).bind fun t16 =>
    (guarded [(0, t11)] (some (0, true)) (M.lift (Ax.bin .eql t14 t16))).bind fun t17 =>
    (M.lift (Ax.pick t11 t17 (V.bool false))).bind fun t18 =>
    M.ite t18
      (M.pure (.ret [(V.int .i64 0), (V.bool true)]))
      ((M.lift (Ax.faddr 0 t3)).bind fun t20 =>
      (mload none t20).bind fun t21 =>
      (M.lift (Ax.faddr 0 t2)).bind fun t22 =>
      (mload none t22).bind fun t23 =>
      (M.lift (Ax.bin .eql t21 t23)).bind fun t24 =>
      (guarded [(0, t24)] (some (0, true)) (M.lift (Ax.faddr 1 t3))).bind fun t26 =>
      (guarded [(0, t24)] (some (0, true)) (mload none t26)).bind fun t27 =>
      (guarded [(0, t24)] (some (0, true)) (M.lift (Ax.faddr 1 t2))).bind fun t28 =>
      (guarded [(0, t24)] (some (0, true)) (mload none t28)).bind fun t29 =>
      (guarded [(0, t24)] (some (0, true)) (M.lift (Ax.bin .add t29 (V.int .i64 1)))).bind fun t30 =>
      (guarded [(0, t24)] (some (0, true)) (M.lift (Ax.bin .eql t27 t30))).bind fun t31 =>
      (M.lift (Ax.pick t24 t31 (V.bool false))).bind fun t32 =>
      M.ite t32
        (M.pure (.ret [(V.int .i64 1), (V.bool true)]))
        ((M.lift (Ax.faddr 0 t3)).bind fun t34 =>
        (mload none t34).bind fun t35 =>
        (M.lift (Ax.faddr 0 t2)).bind fun t36 =>
        (mload none t36).bind fun t37 =>
        (M.lift (Ax.bin .add t37 (V.int .i64 1))).bind fun t38 =>
        (M.lift (Ax.bin .eql t35 t38)).bind fun t39 =>
        (guarded [(0, t39)] (some (0, true)) (M.lift (Ax.faddr 1 t3))).bind fun t41 =>
        (guarded [(0, t39)] (some (0, true)) (mload none t41)).bind fun t42 =>
        (guarded [(0, t39)] (some (0, true)) (M.lift (Ax.bin .eql t42 (V.int .i64 0)))).bind fun t43 =>
        (M.lift (Ax.pick t39 t43 (V.bool false))).bind fun t44 =>
        M.ite t44
          (M.pure (.ret [(V.int .i64 2), (V.bool true)]))
          (M.pure (.nrm []))))) fun _ =>
  M.pure (.ret [(V.int .i64 0), (V.bool false)])

theorem eq_depend_next (G : Sem') (t0 t1 : V) : execK G ir_depend_next.rv ir_depend_next.body [] [] (params 0 [t0, t1]) = f_depend_next G t0 t1 := by kernel_rfl

def d_depend_next (G : Sem') : List V → M V
  | [t0, t1] => fin (f_depend_next G t0 t1)
  | _ => M.fail

theorem s_depend_next {g : Sem'} (hg : Sims g (sem T)) (args : List V) : Sim (d_depend_next g args) (sem T fn_depend_next args) := by
  unfold d_depend_next
  split
  · exact sim_fn tb_depend_next (Nat.le_of_ble_eq_true rfl) hg (eq_depend_next g _ _)
  · exact sim_fail

/-- slices.IndexFunc[[]palanquin/depend.Template,palanquin/depend.Template]. -/
def f_slices_IndexFunc_depend_Template_depend_Template_0 (G : Sem') (t7 t1 t0 : V) (L : List V) : M Res :=
  (M.lift (Ax.bin .lss (L.getD 0 .undef) t7)).bind fun t9 =>
  M.ite t9
    (M.blk 1 (
      (M.lift (Ax.iaddr none 5 t0 (L.getD 0 .undef))).bind fun t14 =>
      (mload (some 5) t14).bind fun t15 =>
      (callv G t1 [t15]).bind fun t16 =>
      M.ite t16
        (M.pure (.ret [(L.getD 0 .undef)]))
        (M.pure (.nrm []))) fun _ =>
    (M.lift (Ax.bin .add (L.getD 0 .undef) (V.int .i64 1))).bind fun t18 =>
    M.pure (.nrm [t18]))
    (M.pure (.ex 0 []))

def f_slices_IndexFunc_depend_Template_depend_Template (G : Sem') (t0 t1 : V) : M Res :=
  (M.lift (vlen t0)).bind fun t7 =>
  M.blk 0 (
    M.iter (f_slices_IndexFunc_depend_Template_depend_Template_0 G t7 t1 t0) [(V.int .i64 0)]) fun _ =>
  M.pure (.ret [(V.int .i64 (-1))])

theorem eq_slices_IndexFunc_depend_Template_depend_Template (G : Sem') (t0 t1 : V) : execK G ir_slices_IndexFunc_depend_Template_depend_Template.rv ir_slices_IndexFunc_depend_Template_depend_Template.body [] [] (params 0 [t0, t1]) = f_slices_IndexFunc_depend_Template_depend_Template G t0 t1 := by kernel_rfl

def d_slices_IndexFunc_depend_Template_depend_Template (G : Sem') : List V → M V
  | [t0, t1] => fin (f_slices_IndexFunc_depend_Template_depend_Template G t0 t1)
  | _ => M.fail

theorem s_slices_IndexFunc_depend_Template_depend_Template {g : Sem'} (hg : Sims g (sem T)) (args : List V) : Sim (d_slices_IndexFunc_depend_Template_depend_Template g args) (sem T fn_slices_IndexFunc_depend_Template_depend_Template args) := by
  unfold d_slices_IndexFunc_depend_Template_depend_Template
  split
  · exact sim_fn tb_slices_IndexFunc_depend_Template_depend_Template (Nat.le_of_ble_eq_true rfl) hg (eq_slices_IndexFunc_depend_Template_depend_Template g _ _)
  · exact sim_fail

/-- slices.Clone[[]int,int]. -/
def f_slices_Clone_int_int (G : Sem') (t0 : V) : M Res :=
  (M.lift (eqr .sl false t0 V.nils)).bind fun t4 =>
  M.ite t4
    (M.pure (.ret [V.nils]))
    ((mslit ty_int 0 [(V.int .i64 0)] []).bind fun t5 =>
    (mappend ty_int 1 8 t5 t0).bind fun t7 =>
    M.pure (.ret [t7]))

theorem eq_slices_Clone_int_int (G : Sem') (t0 : V) : execK G ir_slices_Clone_int_int.rv ir_slices_Clone_int_int.body [] [] (params 0 [t0]) = f_slices_Clone_int_int G t0 := by kernel_rfl

def d_slices_Clone_int_int (G : Sem') : List V → M V
  | [t0] => fin (f_slices_Clone_int_int G t0)
  | _ => M.fail

theorem s_slices_Clone_int_int {g : Sem'} (hg : Sims g (sem T)) (args : List V) : Sim (d_slices_Clone_int_int g args) (sem T fn_slices_Clone_int_int args) := by
  unfold d_slices_Clone_int_int
  split
  · exact sim_fn tb_slices_Clone_int_int (Nat.le_of_ble_eq_true rfl) hg (eq_slices_Clone_int_int g _)
  · exact sim_fail

def disp (G : Sem') (f : FuncId) (args : List V) : M V :=
  if f < 122 then (if f < 65 then (if f < 52 then (if f < 16 then (if f < 13 then (if f < 11 then (if f = fn_palanquinlaw25_LaneKnown then d_palanquinlaw25_LaneKnown G args else M.fail) else (if f < 12 then (if f = fn_lane_New then d_lane_New G args else M.fail) else (if f = fn_palanquinlaw25_awake then d_palanquinlaw25_awake G args else M.fail))) else (if f < 14 then (if f = fn_lane_Lane_Ask then d_lane_Lane_Ask G args else M.fail) else (if f < 15 then (if f = fn_lane_Lane_Limit then d_lane_Lane_Limit G args else M.fail) else (if f = fn_lane_Lane_Lacks then d_lane_Lane_Lacks G args else M.fail)))) else (if f < 19 then (if f < 17 then (if f = fn_lane_Lane_Runs then d_lane_Lane_Runs G args else M.fail) else (if f < 18 then (if f = fn_palanquinlaw25_packet then d_palanquinlaw25_packet G args else M.fail) else (if f = fn_lane_Lane_Media then d_lane_Lane_Media G args else M.fail))) else (if f < 20 then (if f = fn_palanquinlaw25_plain then d_palanquinlaw25_plain G args else M.fail) else (if f < 51 then (if f = fn_rtp_Parse then d_rtp_Parse G args else M.fail) else (if f = fn_ring_New then d_ring_New G args else M.fail))))) else (if f < 58 then (if f < 55 then (if f < 53 then (if f = fn_lane_Lane_SSRC then d_lane_Lane_SSRC G args else M.fail) else (if f < 54 then (if f = fn_cast_Ask then d_cast_Ask G args else M.fail) else (if f = fn_cast_Lacks then d_cast_Lacks G args else M.fail))) else (if f < 56 then (if f = fn_palanquinhelp_Structure then d_palanquinhelp_Structure G args else M.fail) else (if f < 57 then (if f = fn_palanquinref9_Bytes then d_palanquinref9_Bytes G args else M.fail) else (if f = fn_palanquinhelp_Frame then d_palanquinhelp_Frame G args else M.fail)))) else (if f < 61 then (if f < 59 then (if f = fn_rtp_Bytes then d_rtp_Bytes G args else M.fail) else (if f < 60 then (if f = fn_rtp_Find then d_rtp_Find G args else M.fail) else (if f = fn_depend_Good then d_depend_Good G args else M.fail))) else (if f < 63 then (if f < 62 then (if f = fn_lane_Lane_turned then d_lane_Lane_turned G args else M.fail) else (if f = fn_lane_Lane_why then d_lane_Lane_why G args else M.fail)) else (if f < 64 then (if f = fn_refs_Add then d_refs_Add G args else M.fail) else (if f = fn_turn_Out then d_turn_Out G args else M.fail)))))) else (if f < 109 then (if f < 103 then (if f < 68 then (if f < 66 then (if f = fn_rtp_Set then d_rtp_Set G args else M.fail) else (if f < 67 then (if f = fn_depend_Number then d_depend_Number G args else M.fail) else (if f = fn_ring_Ring_Add then d_ring_Ring_Add G args else M.fail))) else (if f < 69 then (if f = fn_rtp_get then d_rtp_get G args else M.fail) else (if f < 70 then (if f = fn_rtp_extension then d_rtp_extension G args else M.fail) else (if f = fn_bytes_Clone then d_bytes_Clone G args else M.fail)))) else (if f < 106 then (if f < 104 then (if f = fn_cast_Good then d_cast_Good G args else M.fail) else (if f < 105 then (if f = fn_cast_source then d_cast_source G args else M.fail) else (if f = fn_cast_Cast_runs then d_cast_Cast_runs G args else M.fail))) else (if f < 107 then (if f = fn_palanquinref9_Good then d_palanquinref9_Good G args else M.fail) else (if f < 108 then (if f = fn_palanquinref6_Writer_Add then d_palanquinref6_Writer_Add G args else M.fail) else (if f = fn_palanquinref9_one then d_palanquinref9_one G args else M.fail))))) else (if f < 115 then (if f < 112 then (if f < 110 then (if f = fn_palanquinref6_Writer_Bytes then d_palanquinref6_Writer_Bytes G args else M.fail) else (if f < 111 then (if f = fn_palanquinref9_writes then d_palanquinref9_writes G args else M.fail) else (if f = fn_palanquinref9_holds then d_palanquinref9_holds G args else M.fail))) else (if f < 113 then (if f = fn_rtp_Good then d_rtp_Good G args else M.fail) else (if f < 114 then (if f = fn_rtp_put then d_rtp_put G args else M.fail) else (if f = fn_rtp_first then d_rtp_first G args else M.fail)))) else (if f < 118 then (if f < 116 then (if f = fn_rtp_elements then d_rtp_elements G args else M.fail) else (if f < 117 then (if f = fn_rtp_at then d_rtp_at G args else M.fail) else (if f = fn_depend_Of then d_depend_Of G args else M.fail))) else (if f < 120 then (if f < 119 then (if f = fn_depend_holds then d_depend_holds G args else M.fail) else (if f = fn_depend_none then d_depend_none G args else M.fail)) else (if f < 121 then (if f = fn_depend_within then d_depend_within G args else M.fail) else (if f = fn_slices_Equal_int_int then d_slices_Equal_int_int G args else M.fail))))))) else (if f < 166 then (if f < 134 then (if f < 128 then (if f < 125 then (if f < 123 then (if f = fn_depend_diffs then d_depend_diffs G args else M.fail) else (if f < 124 then (if f = fn_cast_On then d_cast_On G args else M.fail) else (if f = fn_lane_Lane_whole then d_lane_Lane_whole G args else M.fail))) else (if f < 126 then (if f = fn_turn_Begin then d_turn_Begin G args else M.fail) else (if f < 127 then (if f = fn_pick_Fits then d_pick_Fits G args else M.fail) else (if f = fn_pick_In then d_pick_In G args else M.fail)))) else (if f < 131 then (if f < 129 then (if f = fn_refs_Fit then d_refs_Fit G args else M.fail) else (if f < 130 then (if f = fn_refs_Has then d_refs_Has G args else M.fail) else (if f = fn_slices_Clone_uint16_uint16 then d_slices_Clone_uint16_uint16 G args else M.fail))) else (if f < 132 then (if f = fn_slices_Contains_uint16_uint16 then d_slices_Contains_uint16_uint16 G args else M.fail) else (if f < 133 then (if f = fn_slices_Reverse_uint16_uint16 then d_slices_Reverse_uint16_uint16 G args else M.fail) else (if f = fn_rtp_copied then d_rtp_copied G args else M.fail))))) else (if f < 159 then (if f < 156 then (if f < 135 then (if f = fn_ring_Ring_at then d_ring_Ring_at G args else M.fail) else (if f < 136 then (if f = fn_slices_Delete_ring_entry_ring_entry then d_slices_Delete_ring_entry_ring_entry G args else M.fail) else (if f = fn_rtp_exts then d_rtp_exts G args else M.fail))) else (if f < 157 then (if f = fn_palanquinref9_Of then d_palanquinref9_Of G args else M.fail) else (if f < 158 then (if f = fn_palanquinref9_zero then d_palanquinref9_zero G args else M.fail) else (if f = fn_palanquinref9_SameInts then d_palanquinref9_SameInts G args else M.fail)))) else (if f < 162 then (if f < 160 then (if f = fn_palanquinref9_within then d_palanquinref9_within G args else M.fail) else (if f < 161 then (if f = fn_palanquinref9_step then d_palanquinref9_step G args else M.fail) else (if f = fn_palanquinref6_Writer_AddNS then d_palanquinref6_Writer_AddNS G args else M.fail))) else (if f < 164 then (if f < 163 then (if f = fn_slices_ContainsFunc_rtp_Ext_rtp_Ext then d_slices_ContainsFunc_rtp_Ext_rtp_Ext G args else M.fail) else (if f = fn_rtp_Good_1 then d_rtp_Good_1 G args else M.fail)) else (if f < 165 then (if f = fn_rtp_goodExt then d_rtp_goodExt G args else M.fail) else (if f = fn_slices_IndexFunc_rtp_Ext_rtp_Ext then d_slices_IndexFunc_rtp_Ext_rtp_Ext G args else M.fail)))))) else (if f < 197 then (if f < 172 then (if f < 169 then (if f < 167 then (if f = fn_rtp_at_1 then d_rtp_at_1 G args else M.fail) else (if f < 168 then (if f = fn_depend_Fine then d_depend_Fine G args else M.fail) else (if f = fn_depend_template then d_depend_template G args else M.fail))) else (if f < 170 then (if f = fn_slices_ContainsFunc_int_int then d_slices_ContainsFunc_int_int G args else M.fail) else (if f < 171 then (if f = fn_depend_within_1 then d_depend_within_1 G args else M.fail) else (if f = fn_turn_ticks then d_turn_ticks G args else M.fail)))) else (if f < 175 then (if f < 173 then (if f = fn_depend_Layers then d_depend_Layers G args else M.fail) else (if f < 174 then (if f = fn_slices_Index_uint16_uint16 then d_slices_Index_uint16_uint16 G args else M.fail) else (if f = fn_slices_Clone_uint32_uint32 then d_slices_Clone_uint32_uint32 G args else M.fail))) else (if f < 177 then (if f < 176 then (if f = fn_slices_Clone_rtp_Ext_rtp_Ext then d_slices_Clone_rtp_Ext_rtp_Ext G args else M.fail) else (if f = fn_slices_IndexFunc_ring_entry_ring_entry then d_slices_IndexFunc_ring_entry_ring_entry G args else M.fail)) else (if f < 178 then (if f = fn_ring_Ring_at_1 then d_ring_Ring_at_1 G args else M.fail) else (if f = fn_rtp_element then d_rtp_element G args else M.fail))))) else (if f < 203 then (if f < 200 then (if f < 198 then (if f = fn_palanquinref9_Fine then d_palanquinref9_Fine G args else M.fail) else (if f < 199 then (if f = fn_palanquinref6_width then d_palanquinref6_width G args else M.fail) else (if f = fn_depend_layers then d_depend_layers G args else M.fail))) else (if f < 201 then (if f = fn_depend_spatial then d_depend_spatial G args else M.fail) else (if f < 202 then (if f = fn_slices_ContainsFunc_depend_Template_depend_Template then d_slices_ContainsFunc_depend_Template_depend_Template G args else M.fail) else (if f = fn_depend_Fine_1 then d_depend_Fine_1 G args else M.fail)))) else (if f < 219 then (if f < 204 then (if f = fn_depend_Structure_fine then d_depend_Structure_fine G args else M.fail) else (if f < 205 then (if f = fn_depend_copied then d_depend_copied G args else M.fail) else (if f = fn_slices_IndexFunc_int_int then d_slices_IndexFunc_int_int G args else M.fail))) else (if f < 221 then (if f < 220 then (if f = fn_palanquinref9_top then d_palanquinref9_top G args else M.fail) else (if f = fn_depend_next then d_depend_next G args else M.fail)) else (if f < 222 then (if f = fn_slices_IndexFunc_depend_Template_depend_Template then d_slices_IndexFunc_depend_Template_depend_Template G args else M.fail) else (if f = fn_slices_Clone_int_int then d_slices_Clone_int_int G args else M.fail)))))))

theorem sims_disp {g : Sem'} (hg : Sims g (sem T)) : Sims (disp g) (sem T) := fun f args =>
  (sim_if (fun _ => (sim_if (fun _ => (sim_if (fun _ => (sim_if (fun _ => (sim_if (fun _ => (sim_if (fun _ => (sim_if (fun e => e ▸ s_palanquinlaw25_LaneKnown hg args) sim_fail)) (sim_if (fun _ => (sim_if (fun e => e ▸ s_lane_New hg args) sim_fail)) (sim_if (fun e => e ▸ s_palanquinlaw25_awake hg args) sim_fail)))) (sim_if (fun _ => (sim_if (fun e => e ▸ s_lane_Lane_Ask hg args) sim_fail)) (sim_if (fun _ => (sim_if (fun e => e ▸ s_lane_Lane_Limit hg args) sim_fail)) (sim_if (fun e => e ▸ s_lane_Lane_Lacks hg args) sim_fail))))) (sim_if (fun _ => (sim_if (fun _ => (sim_if (fun e => e ▸ s_lane_Lane_Runs hg args) sim_fail)) (sim_if (fun _ => (sim_if (fun e => e ▸ s_palanquinlaw25_packet hg args) sim_fail)) (sim_if (fun e => e ▸ s_lane_Lane_Media hg args) sim_fail)))) (sim_if (fun _ => (sim_if (fun e => e ▸ s_palanquinlaw25_plain hg args) sim_fail)) (sim_if (fun _ => (sim_if (fun e => e ▸ s_rtp_Parse hg args) sim_fail)) (sim_if (fun e => e ▸ s_ring_New hg args) sim_fail)))))) (sim_if (fun _ => (sim_if (fun _ => (sim_if (fun _ => (sim_if (fun e => e ▸ s_lane_Lane_SSRC hg args) sim_fail)) (sim_if (fun _ => (sim_if (fun e => e ▸ s_cast_Ask hg args) sim_fail)) (sim_if (fun e => e ▸ s_cast_Lacks hg args) sim_fail)))) (sim_if (fun _ => (sim_if (fun e => e ▸ s_palanquinhelp_Structure hg args) sim_fail)) (sim_if (fun _ => (sim_if (fun e => e ▸ s_palanquinref9_Bytes hg args) sim_fail)) (sim_if (fun e => e ▸ s_palanquinhelp_Frame hg args) sim_fail))))) (sim_if (fun _ => (sim_if (fun _ => (sim_if (fun e => e ▸ s_rtp_Bytes hg args) sim_fail)) (sim_if (fun _ => (sim_if (fun e => e ▸ s_rtp_Find hg args) sim_fail)) (sim_if (fun e => e ▸ s_depend_Good hg args) sim_fail)))) (sim_if (fun _ => (sim_if (fun _ => (sim_if (fun e => e ▸ s_lane_Lane_turned hg args) sim_fail)) (sim_if (fun e => e ▸ s_lane_Lane_why hg args) sim_fail))) (sim_if (fun _ => (sim_if (fun e => e ▸ s_refs_Add hg args) sim_fail)) (sim_if (fun e => e ▸ s_turn_Out hg args) sim_fail))))))) (sim_if (fun _ => (sim_if (fun _ => (sim_if (fun _ => (sim_if (fun _ => (sim_if (fun e => e ▸ s_rtp_Set hg args) sim_fail)) (sim_if (fun _ => (sim_if (fun e => e ▸ s_depend_Number hg args) sim_fail)) (sim_if (fun e => e ▸ s_ring_Ring_Add hg args) sim_fail)))) (sim_if (fun _ => (sim_if (fun e => e ▸ s_rtp_get hg args) sim_fail)) (sim_if (fun _ => (sim_if (fun e => e ▸ s_rtp_extension hg args) sim_fail)) (sim_if (fun e => e ▸ s_bytes_Clone hg args) sim_fail))))) (sim_if (fun _ => (sim_if (fun _ => (sim_if (fun e => e ▸ s_cast_Good hg args) sim_fail)) (sim_if (fun _ => (sim_if (fun e => e ▸ s_cast_source hg args) sim_fail)) (sim_if (fun e => e ▸ s_cast_Cast_runs hg args) sim_fail)))) (sim_if (fun _ => (sim_if (fun e => e ▸ s_palanquinref9_Good hg args) sim_fail)) (sim_if (fun _ => (sim_if (fun e => e ▸ s_palanquinref6_Writer_Add hg args) sim_fail)) (sim_if (fun e => e ▸ s_palanquinref9_one hg args) sim_fail)))))) (sim_if (fun _ => (sim_if (fun _ => (sim_if (fun _ => (sim_if (fun e => e ▸ s_palanquinref6_Writer_Bytes hg args) sim_fail)) (sim_if (fun _ => (sim_if (fun e => e ▸ s_palanquinref9_writes hg args) sim_fail)) (sim_if (fun e => e ▸ s_palanquinref9_holds hg args) sim_fail)))) (sim_if (fun _ => (sim_if (fun e => e ▸ s_rtp_Good hg args) sim_fail)) (sim_if (fun _ => (sim_if (fun e => e ▸ s_rtp_put hg args) sim_fail)) (sim_if (fun e => e ▸ s_rtp_first hg args) sim_fail))))) (sim_if (fun _ => (sim_if (fun _ => (sim_if (fun e => e ▸ s_rtp_elements hg args) sim_fail)) (sim_if (fun _ => (sim_if (fun e => e ▸ s_rtp_at hg args) sim_fail)) (sim_if (fun e => e ▸ s_depend_Of hg args) sim_fail)))) (sim_if (fun _ => (sim_if (fun _ => (sim_if (fun e => e ▸ s_depend_holds hg args) sim_fail)) (sim_if (fun e => e ▸ s_depend_none hg args) sim_fail))) (sim_if (fun _ => (sim_if (fun e => e ▸ s_depend_within hg args) sim_fail)) (sim_if (fun e => e ▸ s_slices_Equal_int_int hg args) sim_fail)))))))) (sim_if (fun _ => (sim_if (fun _ => (sim_if (fun _ => (sim_if (fun _ => (sim_if (fun _ => (sim_if (fun e => e ▸ s_depend_diffs hg args) sim_fail)) (sim_if (fun _ => (sim_if (fun e => e ▸ s_cast_On hg args) sim_fail)) (sim_if (fun e => e ▸ s_lane_Lane_whole hg args) sim_fail)))) (sim_if (fun _ => (sim_if (fun e => e ▸ s_turn_Begin hg args) sim_fail)) (sim_if (fun _ => (sim_if (fun e => e ▸ s_pick_Fits hg args) sim_fail)) (sim_if (fun e => e ▸ s_pick_In hg args) sim_fail))))) (sim_if (fun _ => (sim_if (fun _ => (sim_if (fun e => e ▸ s_refs_Fit hg args) sim_fail)) (sim_if (fun _ => (sim_if (fun e => e ▸ s_refs_Has hg args) sim_fail)) (sim_if (fun e => e ▸ s_slices_Clone_uint16_uint16 hg args) sim_fail)))) (sim_if (fun _ => (sim_if (fun e => e ▸ s_slices_Contains_uint16_uint16 hg args) sim_fail)) (sim_if (fun _ => (sim_if (fun e => e ▸ s_slices_Reverse_uint16_uint16 hg args) sim_fail)) (sim_if (fun e => e ▸ s_rtp_copied hg args) sim_fail)))))) (sim_if (fun _ => (sim_if (fun _ => (sim_if (fun _ => (sim_if (fun e => e ▸ s_ring_Ring_at hg args) sim_fail)) (sim_if (fun _ => (sim_if (fun e => e ▸ s_slices_Delete_ring_entry_ring_entry hg args) sim_fail)) (sim_if (fun e => e ▸ s_rtp_exts hg args) sim_fail)))) (sim_if (fun _ => (sim_if (fun e => e ▸ s_palanquinref9_Of hg args) sim_fail)) (sim_if (fun _ => (sim_if (fun e => e ▸ s_palanquinref9_zero hg args) sim_fail)) (sim_if (fun e => e ▸ s_palanquinref9_SameInts hg args) sim_fail))))) (sim_if (fun _ => (sim_if (fun _ => (sim_if (fun e => e ▸ s_palanquinref9_within hg args) sim_fail)) (sim_if (fun _ => (sim_if (fun e => e ▸ s_palanquinref9_step hg args) sim_fail)) (sim_if (fun e => e ▸ s_palanquinref6_Writer_AddNS hg args) sim_fail)))) (sim_if (fun _ => (sim_if (fun _ => (sim_if (fun e => e ▸ s_slices_ContainsFunc_rtp_Ext_rtp_Ext hg args) sim_fail)) (sim_if (fun e => e ▸ s_rtp_Good_1 hg args) sim_fail))) (sim_if (fun _ => (sim_if (fun e => e ▸ s_rtp_goodExt hg args) sim_fail)) (sim_if (fun e => e ▸ s_slices_IndexFunc_rtp_Ext_rtp_Ext hg args) sim_fail))))))) (sim_if (fun _ => (sim_if (fun _ => (sim_if (fun _ => (sim_if (fun _ => (sim_if (fun e => e ▸ s_rtp_at_1 hg args) sim_fail)) (sim_if (fun _ => (sim_if (fun e => e ▸ s_depend_Fine hg args) sim_fail)) (sim_if (fun e => e ▸ s_depend_template hg args) sim_fail)))) (sim_if (fun _ => (sim_if (fun e => e ▸ s_slices_ContainsFunc_int_int hg args) sim_fail)) (sim_if (fun _ => (sim_if (fun e => e ▸ s_depend_within_1 hg args) sim_fail)) (sim_if (fun e => e ▸ s_turn_ticks hg args) sim_fail))))) (sim_if (fun _ => (sim_if (fun _ => (sim_if (fun e => e ▸ s_depend_Layers hg args) sim_fail)) (sim_if (fun _ => (sim_if (fun e => e ▸ s_slices_Index_uint16_uint16 hg args) sim_fail)) (sim_if (fun e => e ▸ s_slices_Clone_uint32_uint32 hg args) sim_fail)))) (sim_if (fun _ => (sim_if (fun _ => (sim_if (fun e => e ▸ s_slices_Clone_rtp_Ext_rtp_Ext hg args) sim_fail)) (sim_if (fun e => e ▸ s_slices_IndexFunc_ring_entry_ring_entry hg args) sim_fail))) (sim_if (fun _ => (sim_if (fun e => e ▸ s_ring_Ring_at_1 hg args) sim_fail)) (sim_if (fun e => e ▸ s_rtp_element hg args) sim_fail)))))) (sim_if (fun _ => (sim_if (fun _ => (sim_if (fun _ => (sim_if (fun e => e ▸ s_palanquinref9_Fine hg args) sim_fail)) (sim_if (fun _ => (sim_if (fun e => e ▸ s_palanquinref6_width hg args) sim_fail)) (sim_if (fun e => e ▸ s_depend_layers hg args) sim_fail)))) (sim_if (fun _ => (sim_if (fun e => e ▸ s_depend_spatial hg args) sim_fail)) (sim_if (fun _ => (sim_if (fun e => e ▸ s_slices_ContainsFunc_depend_Template_depend_Template hg args) sim_fail)) (sim_if (fun e => e ▸ s_depend_Fine_1 hg args) sim_fail))))) (sim_if (fun _ => (sim_if (fun _ => (sim_if (fun e => e ▸ s_depend_Structure_fine hg args) sim_fail)) (sim_if (fun _ => (sim_if (fun e => e ▸ s_depend_copied hg args) sim_fail)) (sim_if (fun e => e ▸ s_slices_IndexFunc_int_int hg args) sim_fail)))) (sim_if (fun _ => (sim_if (fun _ => (sim_if (fun e => e ▸ s_palanquinref9_top hg args) sim_fail)) (sim_if (fun e => e ▸ s_depend_next hg args) sim_fail))) (sim_if (fun _ => (sim_if (fun e => e ▸ s_slices_IndexFunc_depend_Template_depend_Template hg args) sim_fail)) (sim_if (fun e => e ▸ s_slices_Clone_int_int hg args) sim_fail))))))))

def cs : Nat → Sem'
  | 0 => fun _ _ => M.fail
  | n + 1 => disp (cs n)

theorem sims_cs : ∀ n, Sims (cs n) (sem T)
  | 0 => fun _ _ => sim_fail
  | n + 1 => sims_disp (sims_cs n)

end Go.Ax.Cc
