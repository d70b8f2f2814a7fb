/-
  The functions of closed calls, over a heap to compute with: printed by program (wip/gen/Emit.lean).
-/
import Derived.Test.YtmiafikogmhckaaAx21
import Derived.Test.YtmiafikogmhckaaFnK1
set_option maxRecDepth 100000
set_option linter.unusedVariables false
namespace Go.Ax.Cc
open Go.Proofs

/-- palanquin/palanquinlaw7.RtpKnown. -/
def f_palanquinlaw7_RtpKnown (G : Sem') : M Res :=
  (G fn_palanquinlaw7_awake []).bind fun t32 =>
  (M.lift (Ax.un .not t32)).bind fun t33 =>
  M.ite t33
    (M.pure (.ret [(V.bool false)]))
    ((mslit ty_uint8 12 [(V.int .u8 0)] [(0, 1, (V.int .u8 128)), (1, 1, (V.int .u8 96)), (2, 1, (V.int .u8 0)), (3, 1, (V.int .u8 1)), (4, 1, (V.int .u8 0)), (5, 1, (V.int .u8 0)), (6, 1, (V.int .u8 0)), (7, 1, (V.int .u8 2)), (8, 1, (V.int .u8 0)), (9, 1, (V.int .u8 0)), (10, 1, (V.int .u8 0)), (11, 1, (V.int .u8 3))]).bind fun t34 =>
    (M.lift (vslice .sl 1 t34 none (some (V.int .i64 11)) none)).bind fun t37 =>
    (G fn_rtp_Parse [t37]).bind fun t38 =>
    (M.lift (Ax.ext 0 t38)).bind fun t39 =>
    (M.lift (Ax.ext 1 t38)).bind fun t40 =>
    (mbox ty_rtp_Packet (V.agg [(V.bool false), (V.int .i64 0), (V.int .u16 0), (V.int .u32 0), (V.int .u32 0), V.nils, (V.int .i64 0), V.nils, (V.int .i64 0), V.nils])).bind fun t2 =>
    (mstore 10 t2 t39).bind fun _ =>
    (mslit ty_uint8 1 [(V.int .u8 0)] [(0, 1, (V.int .u8 64))]).bind fun t42 =>
    (M.lift (vslice .sl 1 t34 (some (V.int .i64 1)) none none)).bind fun t44 =>
    (mappend ty_uint8 1 1 t42 t44).bind fun t45 =>
    (G fn_rtp_Parse [t45]).bind fun t46 =>
    (M.lift (Ax.ext 0 t46)).bind fun t47 =>
    (M.lift (Ax.ext 1 t46)).bind fun t48 =>
    (mbox ty_rtp_Packet (V.agg [(V.bool false), (V.int .i64 0), (V.int .u16 0), (V.int .u32 0), (V.int .u32 0), V.nils, (V.int .i64 0), V.nils, (V.int .i64 0), V.nils])).bind fun t4 =>
    (mstore 10 t4 t47).bind fun _ =>
    (mslit ty_uint8 1 [(V.int .u8 0)] [(0, 1, (V.int .u8 129))]).bind fun t50 =>
    (M.lift (vslice .sl 1 t34 (some (V.int .i64 1)) none none)).bind fun t52 =>
    (mappend ty_uint8 1 1 t50 t52).bind fun t53 =>
    (G fn_rtp_Parse [t53]).bind fun t54 =>
    (M.lift (Ax.ext 0 t54)).bind fun t55 =>
    (M.lift (Ax.ext 1 t54)).bind fun t56 =>
    (mbox ty_rtp_Packet (V.agg [(V.bool false), (V.int .i64 0), (V.int .u16 0), (V.int .u32 0), (V.int .u32 0), V.nils, (V.int .i64 0), V.nils, (V.int .i64 0), V.nils])).bind fun t6 =>
    (mstore 10 t6 t55).bind fun _ =>
    (mmkslice ty_uint8 1 [(V.int .u8 0)] (V.int .i64 1201) (V.int .i64 1201)).bind fun t58 =>
    (G fn_rtp_Parse [t58]).bind fun t59 =>
    (M.lift (Ax.ext 0 t59)).bind fun t60 =>
    (M.lift (Ax.ext 1 t59)).bind fun t61 =>
    (mbox ty_rtp_Packet (V.agg [(V.bool false), (V.int .i64 0), (V.int .u16 0), (V.int .u32 0), (V.int .u32 0), V.nils, (V.int .i64 0), V.nils, (V.int .i64 0), V.nils])).bind fun t8 =>
    (mstore 10 t8 t60).bind fun _ =>
    (mslit ty_uint8 1 [(V.int .u8 0)] [(0, 1, (V.int .u8 144))]).bind fun t63 =>
    (M.lift (vslice .sl 1 t34 (some (V.int .i64 1)) none none)).bind fun t65 =>
    (mappend ty_uint8 1 1 t63 t65).bind fun t66 =>
    (mslit ty_uint8 4 [(V.int .u8 0)] [(0, 1, (V.int .u8 190)), (1, 1, (V.int .u8 222)), (2, 1, (V.int .u8 0)), (3, 1, (V.int .u8 1))]).bind fun t67 =>
    (mappend ty_uint8 1 1 t66 t67).bind fun t68 =>
    (G fn_rtp_Parse [t68]).bind fun t69 =>
    (M.lift (Ax.ext 0 t69)).bind fun t70 =>
    (M.lift (Ax.ext 1 t69)).bind fun t71 =>
    (mbox ty_rtp_Packet (V.agg [(V.bool false), (V.int .i64 0), (V.int .u16 0), (V.int .u32 0), (V.int .u32 0), V.nils, (V.int .i64 0), V.nils, (V.int .i64 0), V.nils])).bind fun t10 =>
    (mstore 10 t10 t70).bind fun _ =>
    (mslit ty_uint8 1 [(V.int .u8 0)] [(0, 1, (V.int .u8 144))]).bind fun t73 =>
    (M.lift (vslice .sl 1 t34 (some (V.int .i64 1)) none none)).bind fun t75 =>
    (mappend ty_uint8 1 1 t73 t75).bind fun t76 =>
    (mslit ty_uint8 4 [(V.int .u8 0)] [(0, 1, (V.int .u8 190)), (1, 1, (V.int .u8 223)), (2, 1, (V.int .u8 0)), (3, 1, (V.int .u8 0))]).bind fun t77 =>
    (mappend ty_uint8 1 1 t76 t77).bind fun t78 =>
    (G fn_rtp_Parse [t78]).bind fun t79 =>
    (M.lift (Ax.ext 0 t79)).bind fun t80 =>
    (M.lift (Ax.ext 1 t79)).bind fun t81 =>
    (mbox ty_rtp_Packet (V.agg [(V.bool false), (V.int .i64 0), (V.int .u16 0), (V.int .u32 0), (V.int .u32 0), V.nils, (V.int .i64 0), V.nils, (V.int .i64 0), V.nils])).bind fun t12 =>
    (mstore 10 t12 t80).bind fun _ =>
    (mslit ty_uint8 1 [(V.int .u8 0)] [(0, 1, (V.int .u8 144))]).bind fun t83 =>
    (M.lift (vslice .sl 1 t34 (some (V.int .i64 1)) none none)).bind fun t85 =>
    (mappend ty_uint8 1 1 t83 t85).bind fun t86 =>
    (mslit ty_uint8 8 [(V.int .u8 0)] [(0, 1, (V.int .u8 190)), (1, 1, (V.int .u8 222)), (2, 1, (V.int .u8 0)), (3, 1, (V.int .u8 1)), (4, 1, (V.int .u8 0)), (5, 1, (V.int .u8 16)), (6, 1, (V.int .u8 7)), (7, 1, (V.int .u8 243))]).bind fun t87 =>
    (mappend ty_uint8 1 1 t86 t87).bind fun t88 =>
    (G fn_rtp_Parse [t88]).bind fun t89 =>
    (M.lift (Ax.ext 0 t89)).bind fun t90 =>
    (M.lift (Ax.ext 1 t89)).bind fun t91 =>
    (mbox ty_rtp_Packet (V.agg [(V.bool false), (V.int .i64 0), (V.int .u16 0), (V.int .u32 0), (V.int .u32 0), V.nils, (V.int .i64 0), V.nils, (V.int .i64 0), V.nils])).bind fun t14 =>
    (mstore 10 t14 t90).bind fun _ =>
    (mslit ty_uint8 1 [(V.int .u8 0)] [(0, 1, (V.int .u8 144))]).bind fun t93 =>
    (M.lift (vslice .sl 1 t34 (some (V.int .i64 1)) none none)).bind fun t95 =>
    (mappend ty_uint8 1 1 t93 t95).bind fun t96 =>
    (mslit ty_uint8 8 [(V.int .u8 0)] [(0, 1, (V.int .u8 190)), (1, 1, (V.int .u8 222)), (2, 1, (V.int .u8 0)), (3, 1, (V.int .u8 1)), (4, 1, (V.int .u8 18)), (5, 1, (V.int .u8 7)), (6, 1, (V.int .u8 7)), (7, 1, (V.int .u8 7))]).bind fun t97 =>
    (mappend ty_uint8 1 1 t96 t97).bind fun t98 =>
    (G fn_rtp_Parse [t98]).bind fun t99 =>
    (M.lift (Ax.ext 0 t99)).bind fun t100 =>
    (M.lift (Ax.ext 1 t99)).bind fun t101 =>
    (mbox ty_rtp_Packet (V.agg [(V.bool false), (V.int .i64 0), (V.int .u16 0), (V.int .u32 0), (V.int .u32 0), V.nils, (V.int .i64 0), V.nils, (V.int .i64 0), V.nils])).bind fun t16 =>
    (mstore 10 t16 t100).bind fun _ =>
    (mslit ty_uint8 1 [(V.int .u8 0)] [(0, 1, (V.int .u8 144))]).bind fun t103 =>
    (M.lift (vslice .sl 1 t34 (some (V.int .i64 1)) none none)).bind fun t105 =>
    (mappend ty_uint8 1 1 t103 t105).bind fun t106 =>
    (mslit ty_uint8 8 [(V.int .u8 0)] [(0, 1, (V.int .u8 190)), (1, 1, (V.int .u8 222)), (2, 1, (V.int .u8 0)), (3, 1, (V.int .u8 1)), (4, 1, (V.int .u8 2)), (5, 1, (V.int .u8 7)), (6, 1, (V.int .u8 7)), (7, 1, (V.int .u8 7))]).bind fun t107 =>
    (mappend ty_uint8 1 1 t106 t107).bind fun t108 =>
    (G fn_rtp_Parse [t108]).bind fun t109 =>
    (M.lift (Ax.ext 0 t109)).bind fun t110 =>
    (M.lift (Ax.ext 1 t109)).bind fun t111 =>
    (mbox ty_rtp_Packet (V.agg [(V.bool false), (V.int .i64 0), (V.int .u16 0), (V.int .u32 0), (V.int .u32 0), V.nils, (V.int .i64 0), V.nils, (V.int .i64 0), V.nils])).bind fun t18 =>
    (mstore 10 t18 t110).bind fun _ =>
    (mslit ty_uint8 1 [(V.int .u8 0)] [(0, 1, (V.int .u8 160))]).bind fun t113 =>
    (M.lift (vslice .sl 1 t34 (some (V.int .i64 1)) none none)).bind fun t115 =>
    (mappend ty_uint8 1 1 t113 t115).bind fun t116 =>
    (mslit ty_uint8 1 [(V.int .u8 0)] [(0, 1, (V.int .u8 0))]).bind fun t117 =>
    (mappend ty_uint8 1 1 t116 t117).bind fun t118 =>
    (G fn_rtp_Parse [t118]).bind fun t119 =>
    (M.lift (Ax.ext 0 t119)).bind fun t120 =>
    (M.lift (Ax.ext 1 t119)).bind fun t121 =>
    (mbox ty_rtp_Packet (V.agg [(V.bool false), (V.int .i64 0), (V.int .u16 0), (V.int .u32 0), (V.int .u32 0), V.nils, (V.int .i64 0), V.nils, (V.int .i64 0), V.nils])).bind fun t20 =>
    (mstore 10 t20 t120).bind fun _ =>
    (mslit ty_uint8 1 [(V.int .u8 0)] [(0, 1, (V.int .u8 160))]).bind fun t123 =>
    (M.lift (vslice .sl 1 t34 (some (V.int .i64 1)) none none)).bind fun t125 =>
    (mappend ty_uint8 1 1 t123 t125).bind fun t126 =>
    (mslit ty_uint8 3 [(V.int .u8 0)] [(0, 1, (V.int .u8 9)), (1, 1, (V.int .u8 9)), (2, 1, (V.int .u8 2))]).bind fun t127 =>
    (mappend ty_uint8 1 1 t126 t127).bind fun t128 =>
    (G fn_rtp_Parse [t128]).bind fun t129 =>
    (M.lift (Ax.ext 0 t129)).bind fun t130 =>
    (M.lift (Ax.ext 1 t129)).bind fun t131 =>
    (mbox ty_rtp_Packet (V.agg [(V.bool false), (V.int .i64 0), (V.int .u16 0), (V.int .u32 0), (V.int .u32 0), V.nils, (V.int .i64 0), V.nils, (V.int .i64 0), V.nils])).bind fun t22 =>
    (mstore 10 t22 t130).bind fun _ =>
    (M.lift (Ax.build [(V.bool false), (V.int .i64 0), (V.int .u16 0), (V.int .u32 0), (V.int .u32 0), V.nils, (V.int .i64 0), V.nils, (V.int .i64 0), V.nils] [(1, 1, (V.int .i64 128))])).bind fun t133 =>
    (G fn_rtp_Bytes [t133]).bind fun t134 =>
    (M.lift (Ax.ext 0 t134)).bind fun t135 =>
    (M.lift (Ax.ext 1 t134)).bind fun t136 =>
    (mmkslice ty_uint8 1 [(V.int .u8 0)] (V.int .i64 1189) (V.int .i64 1189)).bind fun t138 =>
    (M.lift (Ax.build [(V.bool false), (V.int .i64 0), (V.int .u16 0), (V.int .u32 0), (V.int .u32 0), V.nils, (V.int .i64 0), V.nils, (V.int .i64 0), V.nils] [(9, 1, t138)])).bind fun t139 =>
    (G fn_rtp_Bytes [t139]).bind fun t140 =>
    (M.lift (Ax.ext 0 t140)).bind fun t141 =>
    (M.lift (Ax.ext 1 t140)).bind fun t142 =>
    (mmkslice ty_uint8 1 [(V.int .u8 0)] (V.int .i64 1188) (V.int .i64 1188)).bind fun t144 =>
    (M.lift (Ax.build [(V.bool false), (V.int .i64 0), (V.int .u16 0), (V.int .u32 0), (V.int .u32 0), V.nils, (V.int .i64 0), V.nils, (V.int .i64 0), V.nils] [(9, 1, t144)])).bind fun t145 =>
    (G fn_rtp_Bytes [t145]).bind fun t146 =>
    (M.lift (Ax.ext 0 t146)).bind fun t147 =>
    (M.lift (Ax.ext 1 t146)).bind fun t148 =>
    (mload (some 10) t14).bind fun t150 =>
    (G fn_rtp_Find [t150, (V.int .i64 1)]).bind fun t151 =>
    (M.lift (Ax.ext 0 t151)).bind fun t152 =>
    (M.lift (Ax.ext 1 t151)).bind fun t153 =>
    (M.lift (Ax.bin .eql t40 (V.int .i64 3))).bind fun t155 =>
    (guarded [(0, t155)] (some (0, true)) (M.pure t48)).bind fun t157 =>
    (guarded [(0, t155)] (some (0, true)) (M.lift (Ax.bin .eql t157 (V.int .i64 2)))).bind fun t158 =>
    (M.lift (Ax.pick t155 t158 (V.bool false))).bind fun t159 =>
    (guarded [(0, t159)] (some (0, true)) (M.pure t56)).bind fun t161 =>
    (guarded [(0, t159)] (some (0, true)) (M.lift (Ax.bin .eql t161 (V.int .i64 3)))).bind fun t162 =>
    (M.lift (Ax.pick t159 t162 (V.bool false))).bind fun t163 =>
    (guarded [(0, t163)] (some (0, true)) (M.pure t61)).bind fun t165 =>
    (guarded [(0, t163)] (some (0, true)) (M.lift (Ax.bin .eql t165 (V.int .i64 4)))).bind fun t166 =>
    (M.lift (Ax.pick t163 t166 (V.bool false))).bind fun t167 =>
    (guarded [(0, t167)] (some (0, true)) (M.pure t71)).bind fun t169 =>
    (guarded [(0, t167)] (some (0, true)) (M.lift (Ax.bin .eql t169 (V.int .i64 3)))).bind fun t170 =>
    (M.lift (Ax.pick t167 t170 (V.bool false))).bind fun t171 =>
    (guarded [(0, t171)] (some (0, true)) (M.pure t81)).bind fun t173 =>
    (guarded [(0, t171)] (some (0, true)) (M.lift (Ax.bin .eql t173 (V.int .i64 2)))).bind fun t174 =>
    (M.lift (Ax.pick t171 t174 (V.bool false))).bind fun t175 =>
    (guarded [(0, t175)] (some (0, true)) (M.pure t91)).bind fun t177 =>
    (guarded [(0, t175)] (some (0, true)) (M.lift (Ax.bin .eql t177 (V.int .i64 0)))).bind fun t178 =>
    (M.lift (Ax.pick t175 t178 (V.bool false))).bind fun t179 =>
    (guarded [(0, t179)] (some (0, true)) (M.pure t153)).bind fun t181 =>
    (M.lift (Ax.pick t179 t181 (V.bool false))).bind fun t182 =>
    (guarded [(0, t182)] (some (0, true)) (M.pure t152)).bind fun t184 =>
    (guarded [(0, t182)] (some (0, true)) (M.lift (vlen t184))).bind fun t185 =>
    (guarded [(0, t182)] (some (0, true)) (M.lift (Ax.bin .eql t185 (V.int .i64 1)))).bind fun t186 =>
    (M.lift (Ax.pick t182 t186 (V.bool false))).bind fun t187 =>
    (guarded [(0, t187)] (some (0, true)) (M.pure t152)).bind fun t189 =>
    (guarded [(0, t187)] (some (0, true)) (M.lift (Ax.iaddr none 1 t189 (V.int .i64 0)))).bind fun t190 =>
    (guarded [(0, t187)] (some (0, true)) (mload none t190)).bind fun t191 =>
    (guarded [(0, t187)] (some (0, true)) (M.lift (Ax.bin .eql t191 (V.int .u8 7)))).bind fun t192 =>
    (M.lift (Ax.pick t187 t192 (V.bool false))).bind fun t193 =>
    (guarded [(0, t193)] (some (0, true)) (M.lift (Ax.faddr 7 t14))).bind fun t195 =>
    (guarded [(0, t193)] (some (0, true)) (mload none t195)).bind fun t196 =>
    (guarded [(0, t193)] (some (0, true)) (M.lift (vlen t196))).bind fun t197 =>
    (guarded [(0, t193)] (some (0, true)) (M.lift (Ax.bin .eql t197 (V.int .i64 1)))).bind fun t198 =>
    (M.lift (Ax.pick t193 t198 (V.bool false))).bind fun t199 =>
    (guarded [(0, t199)] (some (0, true)) (M.pure t101)).bind fun t201 =>
    (guarded [(0, t199)] (some (0, true)) (M.lift (Ax.bin .eql t201 (V.int .i64 0)))).bind fun t202 =>
    (M.lift (Ax.pick t199 t202 (V.bool false))).bind fun t203 =>
    (guarded [(0, t203)] (some (0, true)) (M.pure t111)).bind fun t205 =>
    (guarded [(0, t203)] (some (0, true)) (M.lift (Ax.bin .eql t205 (V.int .i64 2)))).bind fun t206 =>
    (M.lift (Ax.pick t203 t206 (V.bool false))).bind fun t207 =>
    (guarded [(0, t207)] (some (0, true)) (M.pure t121)).bind fun t209 =>
    (guarded [(0, t207)] (some (0, true)) (M.lift (Ax.bin .eql t209 (V.int .i64 2)))).bind fun t210 =>
    (M.lift (Ax.pick t207 t210 (V.bool false))).bind fun t211 =>
    (guarded [(0, t211)] (some (0, true)) (M.pure t131)).bind fun t213 =>
    (guarded [(0, t211)] (some (0, true)) (M.lift (Ax.bin .eql t213 (V.int .i64 0)))).bind fun t214 =>
    (M.lift (Ax.pick t211 t214 (V.bool false))).bind fun t215 =>
    (guarded [(0, t215)] (some (0, true)) (M.lift (Ax.faddr 8 t22))).bind fun t217 =>
    (guarded [(0, t215)] (some (0, true)) (mload none t217)).bind fun t218 =>
    (guarded [(0, t215)] (some (0, true)) (M.lift (Ax.bin .eql t218 (V.int .i64 2)))).bind fun t219 =>
    (M.lift (Ax.pick t215 t219 (V.bool false))).bind fun t220 =>
    (guarded [(0, t220)] (some (0, true)) (M.lift (Ax.faddr 9 t22))).bind fun t222 =>
    (guarded [(0, t220)] (some (0, true)) (mload none t222)).bind fun t223 =>
    (guarded [(0, t220)] (some (0, true)) (M.lift (vlen t223))).bind fun t224 =>
    (guarded [(0, t220)] (some (0, true)) (M.lift (Ax.bin .eql t224 (V.int .i64 1)))).bind fun t225 =>
    (M.lift (Ax.pick t220 t225 (V.bool false))).bind fun t226 =>
    (guarded [(0, t226)] (some (0, true)) (M.pure t136)).bind fun t228 =>
    (guarded [(0, t226)] (some (0, true)) (M.lift (Ax.bin .eql t228 (V.int .i64 1)))).bind fun t229 =>
    (M.lift (Ax.pick t226 t229 (V.bool false))).bind fun t230 =>
    (guarded [(0, t230)] (some (0, true)) (M.pure t142)).bind fun t232 =>
    (guarded [(0, t230)] (some (0, true)) (M.lift (Ax.bin .eql t232 (V.int .i64 4)))).bind fun t233 =>
    (M.lift (Ax.pick t230 t233 (V.bool false))).bind fun t234 =>
    (guarded [(0, t234)] (some (0, true)) (M.pure t147)).bind fun t236 =>
    (guarded [(0, t234)] (some (0, true)) (M.lift (vlen t236))).bind fun t237 =>
    (guarded [(0, t234)] (some (0, true)) (M.lift (Ax.bin .eql t237 (V.int .i64 1200)))).bind fun t238 =>
    (M.lift (Ax.pick t234 t238 (V.bool false))).bind fun t239 =>
    (guarded [(0, t239)] (some (0, true)) (M.pure t148)).bind fun t241 =>
    (guarded [(0, t239)] (some (0, true)) (M.lift (Ax.bin .eql t241 (V.int .i64 0)))).bind fun t242 =>
    (M.lift (Ax.pick t239 t242 (V.bool false))).bind fun t243 =>
    M.pure (.ret [t243]))

theorem eq_palanquinlaw7_RtpKnown (G : Sem') : execK G ir_palanquinlaw7_RtpKnown.rv ir_palanquinlaw7_RtpKnown.body [] [] (params 0 []) = f_palanquinlaw7_RtpKnown G := by kernel_rfl

def d_palanquinlaw7_RtpKnown (G : Sem') : List V → M V
  | [] => fin (f_palanquinlaw7_RtpKnown G)
  | _ => M.fail

theorem s_palanquinlaw7_RtpKnown {g : Sem'} (hg : Sims g (sem T)) (args : List V) : Sim (d_palanquinlaw7_RtpKnown g args) (sem T fn_palanquinlaw7_RtpKnown args) := by
  unfold d_palanquinlaw7_RtpKnown
  split
  · exact sim_fn tb_palanquinlaw7_RtpKnown (Nat.le_of_ble_eq_true rfl) hg (eq_palanquinlaw7_RtpKnown g)
  · exact sim_fail

/-- palanquin/palanquinlaw7.awake. -/
def f_palanquinlaw7_awake (G : Sem') : M Res :=
  (mslit ty_uint8 12 [(V.int .u8 0)] [(0, 1, (V.int .u8 128)), (1, 1, (V.int .u8 96)), (2, 1, (V.int .u8 0)), (3, 1, (V.int .u8 1)), (4, 1, (V.int .u8 0)), (5, 1, (V.int .u8 0)), (6, 1, (V.int .u8 0)), (7, 1, (V.int .u8 2)), (8, 1, (V.int .u8 0)), (9, 1, (V.int .u8 0)), (10, 1, (V.int .u8 0)), (11, 1, (V.int .u8 3))]).bind fun t4 =>
  (G fn_rtp_Parse [t4]).bind fun t5 =>
  (M.lift (Ax.ext 0 t5)).bind fun t6 =>
  (M.lift (Ax.ext 1 t5)).bind fun t7 =>
  (mbox ty_rtp_Packet (V.agg [(V.bool false), (V.int .i64 0), (V.int .u16 0), (V.int .u32 0), (V.int .u32 0), V.nils, (V.int .i64 0), V.nils, (V.int .i64 0), V.nils])).bind fun t1 =>
  (mstore 10 t1 t6).bind fun _ =>
  (M.lift (Ax.bin .eql t7 (V.int .i64 0))).bind fun t9 =>
  (guarded [(0, t9)] (some (0, true)) (M.lift (Ax.faddr 1 t1))).bind fun t11 =>
  (guarded [(0, t9)] (some (0, true)) (mload none t11)).bind fun t12 =>
  (guarded [(0, t9)] (some (0, true)) (M.lift (Ax.bin .eql t12 (V.int .i64 96)))).bind fun t13 =>
  (M.lift (Ax.pick t9 t13 (V.bool false))).bind fun t14 =>
  (guarded [(0, t14)] (some (0, true)) (M.lift (Ax.faddr 2 t1))).bind fun t16 =>
  (guarded [(0, t14)] (some (0, true)) (mload none t16)).bind fun t17 =>
  (guarded [(0, t14)] (some (0, true)) (M.lift (Ax.bin .eql t17 (V.int .u16 1)))).bind fun t18 =>
  (M.lift (Ax.pick t14 t18 (V.bool false))).bind fun t19 =>
  (guarded [(0, t19)] (some (0, true)) (M.lift (Ax.faddr 3 t1))).bind fun t21 =>
  (guarded [(0, t19)] (some (0, true)) (mload none t21)).bind fun t22 =>
  (guarded [(0, t19)] (some (0, true)) (M.lift (Ax.bin .eql t22 (V.int .u32 2)))).bind fun t23 =>
  (M.lift (Ax.pick t19 t23 (V.bool false))).bind fun t24 =>
  (guarded [(0, t24)] (some (0, true)) (M.lift (Ax.faddr 4 t1))).bind fun t26 =>
  (guarded [(0, t24)] (some (0, true)) (mload none t26)).bind fun t27 =>
  (guarded [(0, t24)] (some (0, true)) (M.lift (Ax.bin .eql t27 (V.int .u32 3)))).bind fun t28 =>
  (M.lift (Ax.pick t24 t28 (V.bool false))).bind fun t29 =>
  (guarded [(0, t29)] (some (0, true)) (mload (some 10) t1)).bind fun t31 =>
  (guarded [(0, t29)] (some (0, true)) (G fn_rtp_Good [t31])).bind fun t32 =>
  (M.lift (Ax.pick t29 t32 (V.bool false))).bind fun t33 =>
  M.pure (.ret [t33])

theorem eq_palanquinlaw7_awake (G : Sem') : execK G ir_palanquinlaw7_awake.rv ir_palanquinlaw7_awake.body [] [] (params 0 []) = f_palanquinlaw7_awake G := by kernel_rfl

def d_palanquinlaw7_awake (G : Sem') : List V → M V
  | [] => fin (f_palanquinlaw7_awake G)
  | _ => M.fail

theorem s_palanquinlaw7_awake {g : Sem'} (hg : Sims g (sem T)) (args : List V) : Sim (d_palanquinlaw7_awake g args) (sem T fn_palanquinlaw7_awake args) := by
  unfold d_palanquinlaw7_awake
  split
  · exact sim_fn tb_palanquinlaw7_awake (Nat.le_of_ble_eq_true rfl) hg (eq_palanquinlaw7_awake g)
  · exact sim_fail

/-- palanquin/rtp.Parse. -/
def f_rtp_Parse_0 (G : Sem') (t5 t0 t4 t2 : V) (L : List V) : M Res :=
  (M.lift (Ax.bin .lss (L.getD 0 .undef) t5)).bind fun t62 =>
  M.ite t62
    (M.blk 2 (
      (M.lift (Ax.faddr 5 t4)).bind fun t65 =>
      (mload none t65).bind fun t66 =>
      (M.lift (Ax.bin .add (L.getD 0 .undef) (V.int .i64 4))).bind fun t70 =>
      (M.lift (vslice .sl 1 t0 (some (L.getD 0 .undef)) (some t70) none)).bind fun t71 =>
      M.getH.bind fun h3 =>
      (G fn_rtp_get [t71]).bind fun t72 =>
      M.getH.bind fun h3' =>
      (M.unch t65 h3 h3').bind fun _ =>
      (mslit ty_uint32 1 [(V.int .u32 0)] [(0, 1, t72)]).bind fun t73 =>
      (mappend ty_uint32 1 4 t66 t73).bind fun t74 =>
      (M.lift (Ax.faddr 5 t4)).bind fun t75 =>
      (mstore 1 t75 t74).bind fun _ =>
      M.pure (.nrm [])) fun _ =>
    (M.lift (Ax.bin .add (L.getD 0 .undef) (V.int .i64 4))).bind fun t64 =>
    M.pure (.nrm [t64]))
    (M.pure (.ex 1 []))

def f_rtp_Parse (G : Sem') (t0 : V) : M Res :=
  (mbox ty_rtp_Packet (V.agg [(V.bool false), (V.int .i64 0), (V.int .u16 0), (V.int .u32 0), (V.int .u32 0), V.nils, (V.int .i64 0), V.nils, (V.int .i64 0), V.nils])).bind fun t2 =>
  M.blk 0 (
    (M.lift (vlen t0)).bind fun t12 =>
    (M.lift (Ax.bin .gtr t12 (V.int .i64 1200))).bind fun t13 =>
    M.ite t13
      ((M.lift (Ax.build [(V.bool false), (V.int .i64 0), (V.int .u16 0), (V.int .u32 0), (V.int .u32 0), V.nils, (V.int .i64 0), V.nils, (V.int .i64 0), V.nils] [])).bind fun t14 =>
      (mstore 10 t2 t14).bind fun _ =>
      (mload (some 10) t2).bind fun r0 =>
      M.pure (.ret [r0, (V.int .i64 4)]))
      ((M.lift (vlen t0)).bind fun t17 =>
      (M.lift (Ax.bin .lss t17 (V.int .i64 12))).bind fun t18 =>
      M.ite t18
        ((M.lift (Ax.build [(V.bool false), (V.int .i64 0), (V.int .u16 0), (V.int .u32 0), (V.int .u32 0), V.nils, (V.int .i64 0), V.nils, (V.int .i64 0), V.nils] [])).bind fun t19 =>
        (mstore 10 t2 t19).bind fun _ =>
        (mload (some 10) t2).bind fun r0 =>
        M.pure (.ret [r0, (V.int .i64 3)]))
        ((M.lift (Ax.iaddr none 1 t0 (V.int .i64 0))).bind fun t22 =>
        (mload none t22).bind fun t23 =>
        (M.lift (Ax.bin .shr t23 (V.int .u64 6))).bind fun t24 =>
        (M.lift (Ax.bin .neq t24 (V.int .u8 2))).bind fun t25 =>
        M.ite t25
          ((M.lift (Ax.build [(V.bool false), (V.int .i64 0), (V.int .u16 0), (V.int .u32 0), (V.int .u32 0), V.nils, (V.int .i64 0), V.nils, (V.int .i64 0), V.nils] [])).bind fun t26 =>
          (mstore 10 t2 t26).bind fun _ =>
          (mload (some 10) t2).bind fun r0 =>
          M.pure (.ret [r0, (V.int .i64 2)]))
          (M.pure (.nrm []))))) fun _ =>
  (M.lift (Ax.iaddr none 1 t0 (V.int .i64 1))).bind fun t28 =>
  (mload none t28).bind fun t29 =>
  (M.lift (Ax.bin .and t29 (V.int .u8 128))).bind fun t30 =>
  (M.lift (Ax.bin .neq t30 (V.int .u8 0))).bind fun t31 =>
  (M.lift (Ax.iaddr none 1 t0 (V.int .i64 1))).bind fun t33 =>
  (mload none t33).bind fun t34 =>
  (M.lift (Ax.bin .andNot t34 (V.int .u8 128))).bind fun t35 =>
  (M.lift (Ax.cint .i64 t35)).bind fun t36 =>
  (M.lift (vslice .sl 1 t0 (some (V.int .i64 2)) (some (V.int .i64 4)) none)).bind fun t38 =>
  (M.lift (vslice .sl 1 t0 (some (V.int .i64 4)) (some (V.int .i64 8)) none)).bind fun t42 =>
  (M.lift (vslice .sl 1 t0 (some (V.int .i64 8)) (some (V.int .i64 12)) none)).bind fun t45 =>
  M.getH.bind fun h0 =>
  (G fn_rtp_get [t38]).bind fun t39 =>
  M.getH.bind fun h0' =>
  (M.unch t33 h0 h0').bind fun _ =>
  (M.unch t28 h0 h0').bind fun _ =>
  M.getH.bind fun h1 =>
  (G fn_rtp_get [t42]).bind fun t43 =>
  M.getH.bind fun h1' =>
  (M.unch t33 h1 h1').bind fun _ =>
  (M.unch t28 h1 h1').bind fun _ =>
  M.getH.bind fun h2 =>
  (G fn_rtp_get [t45]).bind fun t46 =>
  M.getH.bind fun h2' =>
  (M.unch t33 h2 h2').bind fun _ =>
  (M.unch t28 h2 h2').bind fun _ =>
  (M.lift (Ax.cint .u16 t39)).bind fun t40 =>
  (M.lift (Ax.build [(V.bool false), (V.int .i64 0), (V.int .u16 0), (V.int .u32 0), (V.int .u32 0), V.nils, (V.int .i64 0), V.nils, (V.int .i64 0), V.nils] [(0, 1, t31), (1, 1, t36), (2, 1, t40), (3, 1, t43), (4, 1, t46)])).bind fun t47 =>
  (mbox ty_rtp_Packet (V.agg [(V.bool false), (V.int .i64 0), (V.int .u16 0), (V.int .u32 0), (V.int .u32 0), V.nils, (V.int .i64 0), V.nils, (V.int .i64 0), V.nils])).bind fun t4 =>
  (mstore 10 t4 t47).bind fun _ =>
  (M.lift (Ax.iaddr none 1 t0 (V.int .i64 0))).bind fun t49 =>
  (mload none t49).bind fun t50 =>
  (M.lift (Ax.bin .and t50 (V.int .u8 15))).bind fun t51 =>
  (M.lift (Ax.cint .i64 t51)).bind fun t52 =>
  (M.lift (Ax.bin .mul (V.int .i64 4) t52)).bind fun t53 =>
  (M.lift (Ax.bin .add (V.int .i64 12) t53)).bind fun t54 =>
  (M.lift (vlen t0)).bind fun t56 =>
  (M.lift (Ax.bin .lss t56 t54)).bind fun t58 =>
  M.ite t58
    ((M.lift (Ax.build [(V.bool false), (V.int .i64 0), (V.int .u16 0), (V.int .u32 0), (V.int .u32 0), V.nils, (V.int .i64 0), V.nils, (V.int .i64 0), V.nils] [])).bind fun t59 =>
    (mstore 10 t2 t59).bind fun _ =>
    (mload (some 10) t2).bind fun r0 =>
    M.pure (.ret [r0, (V.int .i64 3)]))
    (M.blk 1 (
      M.iter (f_rtp_Parse_0 G t54 t0 t4 t2) [(V.int .i64 12)]) fun _ =>
    (M.lift (Ax.iaddr none 1 t0 (V.int .i64 0))).bind fun t77 =>
    (mload none t77).bind fun t78 =>
    (M.lift (Ax.bin .and t78 (V.int .u8 16))).bind fun t79 =>
    (M.lift (Ax.bin .neq t79 (V.int .u8 0))).bind fun t80 =>
    M.join (M.ite t80
      ((M.lift (vslice .sl 1 t0 (some t54) none none)).bind fun t84 =>
      (G fn_rtp_extension [t4, t84]).bind fun t85 =>
      (M.lift (Ax.ext 0 t85)).bind fun t86 =>
      (M.lift (Ax.ext 1 t85)).bind fun t87 =>
      (M.lift (Ax.bin .neq t87 (V.int .i64 0))).bind fun t89 =>
      M.ite t89
        ((M.lift (Ax.build [(V.bool false), (V.int .i64 0), (V.int .u16 0), (V.int .u32 0), (V.int .u32 0), V.nils, (V.int .i64 0), V.nils, (V.int .i64 0), V.nils] [])).bind fun t90 =>
        (mstore 10 t2 t90).bind fun _ =>
        (mload (some 10) t2).bind fun r0 =>
        M.pure (.ret [r0, t87]))
        ((M.lift (Ax.bin .add t54 t86)).bind fun t94 =>
        M.pure (.nrm [t94])))
      (M.pure (.nrm [t54]))) fun L3 =>
    (M.lift (vslice .sl 1 t0 (some (L3.getD 0 .undef)) none none)).bind fun t97 =>
    (M.lift (Ax.iaddr none 1 t0 (V.int .i64 0))).bind fun t99 =>
    (mload none t99).bind fun t100 =>
    (M.lift (Ax.bin .and t100 (V.int .u8 32))).bind fun t101 =>
    (M.lift (Ax.bin .neq t101 (V.int .u8 0))).bind fun t102 =>
    M.join (M.ite t102
      ((M.lift (vlen t0)).bind fun t105 =>
      (M.lift (Ax.bin .sub t105 (V.int .i64 1))).bind fun t106 =>
      (M.lift (Ax.iaddr none 1 t0 t106)).bind fun t107 =>
      (mload none t107).bind fun t108 =>
      (M.lift (Ax.cint .i64 t108)).bind fun t109 =>
      (M.lift (Ax.faddr 8 t4)).bind fun t110 =>
      (mstore 1 t110 t109).bind fun _ =>
      (M.lift (Ax.faddr 8 t4)).bind fun t111 =>
      (mload none t111).bind fun t112 =>
      (M.lift (Ax.bin .eql t112 (V.int .i64 0))).bind fun t113 =>
      (guarded [(0, t113)] (some (0, false)) (M.lift (Ax.faddr 8 t4))).bind fun t115 =>
      (guarded [(0, t113)] (some (0, false)) (mload none t115)).bind fun t116 =>
      (guarded [(0, t113)] (some (0, false)) (M.pure t97)).bind fun t117 =>
      (guarded [(0, t113)] (some (0, false)) (M.lift (vlen t117))).bind fun t118 =>
      (guarded [(0, t113)] (some (0, false)) (M.lift (Ax.bin .gtr t116 t118))).bind fun t119 =>
      (M.lift (Ax.pick t113 (V.bool true) t119)).bind fun t120 =>
      M.ite t120
        ((M.lift (Ax.build [(V.bool false), (V.int .i64 0), (V.int .u16 0), (V.int .u32 0), (V.int .u32 0), V.nils, (V.int .i64 0), V.nils, (V.int .i64 0), V.nils] [])).bind fun t121 =>
        (mstore 10 t2 t121).bind fun _ =>
        (mload (some 10) t2).bind fun r0 =>
        M.pure (.ret [r0, (V.int .i64 2)]))
        (M.pure (.nrm [])))
      (M.pure (.nrm []))) fun _ =>
    (M.lift (vlen t97)).bind fun t124 =>
    (M.lift (Ax.faddr 8 t4)).bind fun t125 =>
    (mload none t125).bind fun t126 =>
    (M.lift (Ax.bin .sub t124 t126)).bind fun t127 =>
    (M.lift (vslice .sl 1 t97 none (some t127) none)).bind fun t128 =>
    (G fn_bytes_Clone [t128]).bind fun t129 =>
    (M.lift (Ax.faddr 9 t4)).bind fun t130 =>
    (mstore 1 t130 t129).bind fun _ =>
    (mload (some 10) t4).bind fun t131 =>
    (mstore 10 t2 t131).bind fun _ =>
    (mload (some 10) t2).bind fun r0 =>
    M.pure (.ret [r0, (V.int .i64 0)]))

theorem eq_rtp_Parse (G : Sem') (t0 : V) : execK G ir_rtp_Parse.rv ir_rtp_Parse.body [] [] (params 0 [t0]) = f_rtp_Parse G t0 := by kernel_rfl

def d_rtp_Parse (G : Sem') : List V → M V
  | [t0] => fin (f_rtp_Parse G t0)
  | _ => M.fail

theorem s_rtp_Parse {g : Sem'} (hg : Sims g (sem T)) (args : List V) : Sim (d_rtp_Parse g args) (sem T fn_rtp_Parse args) := by
  unfold d_rtp_Parse
  split
  · exact sim_fn tb_rtp_Parse (Nat.le_of_ble_eq_true rfl) hg (eq_rtp_Parse g _)
  · exact sim_fail

/-- palanquin/rtp.Find. -/
def f_rtp_Find (G : Sem') (t0 t1 : V) : M Res :=
  (mbox ty_rtp_Packet t0).bind fun t2 =>
  (mload (some 10) t2).bind fun t7 =>
  (G fn_rtp_at [t7, t1]).bind fun t9 =>
  (M.lift (Ax.bin .lss t9 (V.int .i64 0))).bind fun t11 =>
  M.ite t11
    (M.pure (.ret [V.nils, (V.bool false)]))
    ((M.lift (Ax.faddr 7 t2)).bind fun t12 =>
    (mload none t12).bind fun t13 =>
    (M.lift (Ax.iaddr none 2 t13 t9)).bind fun t15 =>
    (M.lift (Ax.faddr 1 t15)).bind fun t16 =>
    (mload none t16).bind fun t17 =>
    (G fn_bytes_Clone [t17]).bind fun t18 =>
    M.pure (.ret [t18, (V.bool true)]))

theorem eq_rtp_Find (G : Sem') (t0 t1 : V) : execK G ir_rtp_Find.rv ir_rtp_Find.body [] [] (params 0 [t0, t1]) = f_rtp_Find G t0 t1 := by kernel_rfl

def d_rtp_Find (G : Sem') : List V → M V
  | [t0, t1] => fin (f_rtp_Find G t0 t1)
  | _ => M.fail

theorem s_rtp_Find {g : Sem'} (hg : Sims g (sem T)) (args : List V) : Sim (d_rtp_Find g args) (sem T fn_rtp_Find args) := by
  unfold d_rtp_Find
  split
  · exact sim_fn tb_rtp_Find (Nat.le_of_ble_eq_true rfl) hg (eq_rtp_Find g _ _)
  · exact sim_fail

/-- palanquin/rtp.Bytes. -/
def f_rtp_Bytes_0 (G : Sem') (t26 t25 t2 t3 : V) (L : List V) : M Res :=
  (M.lift (Ax.bin .lss (L.getD 1 .undef) t26)).bind fun t28 =>
  M.ite t28
    (M.blk 1 (
      (M.lift (Ax.iaddr none 1 t25 (L.getD 1 .undef))).bind fun t29 =>
      (mload none t29).bind fun t30 =>
      (G fn_rtp_put [(L.getD 0 .undef), t30, (V.int .i64 4)]).bind fun t33 =>
      M.pure (.nrm [t33])) fun L0 =>
    (M.lift (Ax.bin .add (L.getD 1 .undef) (V.int .i64 1))).bind fun t34 =>
    M.pure (.nrm [(L0.getD 0 .undef), t34]))
    (M.pure (.ex 0 [(L.getD 0 .undef)]))

def f_rtp_Bytes (G : Sem') (t0 : V) : M Res :=
  (mbox ty_rtp_Packet t0).bind fun t1 =>
  (mload (some 10) t1).bind fun t8 =>
  (G fn_rtp_Good [t8]).bind fun t9 =>
  (M.lift (Ax.un .not t9)).bind fun t10 =>
  M.ite t10
    (M.pure (.ret [V.nils, (V.int .i64 1)]))
    ((mload (some 10) t1).bind fun t11 =>
    (M.lift (Ax.faddr 2 t1)).bind fun t13 =>
    (mload none t13).bind fun t14 =>
    (M.lift (Ax.cint .u32 t14)).bind fun t15 =>
    M.getH.bind fun h0 =>
    (G fn_rtp_first [t11]).bind fun t12 =>
    M.getH.bind fun h0' =>
    (M.unch t13 h0 h0').bind fun _ =>
    (G fn_rtp_put [t12, t15, (V.int .i64 2)]).bind fun t16 =>
    (M.lift (Ax.faddr 3 t1)).bind fun t18 =>
    (mload none t18).bind fun t19 =>
    (M.lift (Ax.faddr 4 t1)).bind fun t21 =>
    (mload none t21).bind fun t22 =>
    M.getH.bind fun h1 =>
    (G fn_rtp_put [t16, t19, (V.int .i64 4)]).bind fun t20 =>
    M.getH.bind fun h1' =>
    (M.unch t21 h1 h1').bind fun _ =>
    (G fn_rtp_put [t20, t22, (V.int .i64 4)]).bind fun t23 =>
    (M.lift (Ax.faddr 5 t1)).bind fun t24 =>
    (mload none t24).bind fun t25 =>
    (M.lift (vlen t25)).bind fun t26 =>
    M.blk 0 (
      M.iter (f_rtp_Bytes_0 G t26 t25 V.nils (V.int .i64 0)) [t23, (V.int .i64 0)]) fun L1 =>
    (M.lift (Ax.faddr 6 t1)).bind fun t35 =>
    (mload none t35).bind fun t36 =>
    (M.lift (Ax.bin .neq t36 (V.int .i64 0))).bind fun t37 =>
    M.join (M.ite t37
      ((mload (some 10) t1).bind fun t38 =>
      (G fn_rtp_elements [t38]).bind fun t39 =>
      (M.lift (Ax.faddr 6 t1)).bind fun t41 =>
      (mload none t41).bind fun t42 =>
      (M.lift (Ax.cint .u32 t42)).bind fun t43 =>
      (G fn_rtp_put [(L1.getD 0 .undef), t43, (V.int .i64 2)]).bind fun t44 =>
      (M.lift (vlen t39)).bind fun t46 =>
      (M.lift (Ax.bin .quo t46 (V.int .i64 4))).bind fun t47 =>
      (M.lift (Ax.cint .u32 t47)).bind fun t48 =>
      (G fn_rtp_put [t44, t48, (V.int .i64 2)]).bind fun t49 =>
      (mappend ty_uint8 1 1 t49 t39).bind fun t52 =>
      M.pure (.nrm [t52]))
      (M.pure (.nrm [(L1.getD 0 .undef)]))) fun L2 =>
    (M.lift (vlen (L2.getD 0 .undef))).bind fun t54 =>
    (M.lift (Ax.faddr 9 t1)).bind fun t55 =>
    (mload none t55).bind fun t56 =>
    (M.lift (vlen t56)).bind fun t57 =>
    (M.lift (Ax.bin .add t54 t57)).bind fun t58 =>
    (M.lift (Ax.faddr 8 t1)).bind fun t59 =>
    (mload none t59).bind fun t60 =>
    (M.lift (Ax.bin .add t58 t60)).bind fun t61 =>
    (M.lift (Ax.bin .gtr t61 (V.int .i64 1200))).bind fun t62 =>
    M.ite t62
      (M.pure (.ret [V.nils, (V.int .i64 4)]))
      ((M.lift (Ax.faddr 9 t1)).bind fun t64 =>
      (mload none t64).bind fun t65 =>
      (mappend ty_uint8 1 1 (L2.getD 0 .undef) t65).bind fun t66 =>
      (M.lift (Ax.faddr 8 t1)).bind fun t67 =>
      (mload none t67).bind fun t68 =>
      (M.lift (Ax.bin .gtr t68 (V.int .i64 0))).bind fun t69 =>
      M.join (M.ite t69
        ((M.lift (Ax.faddr 8 t1)).bind fun t71 =>
        (mload none t71).bind fun t72 =>
        (mappendz ty_uint8 1 [(V.int .u8 0)] t66 t72).bind fun t73 =>
        (M.lift (vlen t73)).bind fun t76 =>
        (M.lift (Ax.bin .sub t76 (V.int .i64 1))).bind fun t77 =>
        (M.lift (Ax.faddr 8 t1)).bind fun t78 =>
        (mload none t78).bind fun t79 =>
        (M.lift (Ax.cint .u8 t79)).bind fun t80 =>
        (M.lift (Ax.iaddr none 1 t73 t77)).bind fun t81 =>
        (mstore 1 t81 t80).bind fun _ =>
        M.pure (.nrm [t73]))
        (M.pure (.nrm [t66]))) fun L3 =>
      M.pure (.ret [(L3.getD 0 .undef), (V.int .i64 0)])))

theorem eq_rtp_Bytes (G : Sem') (t0 : V) : execK G ir_rtp_Bytes.rv ir_rtp_Bytes.body [] [] (params 0 [t0]) = f_rtp_Bytes G t0 := by kernel_rfl

def d_rtp_Bytes (G : Sem') : List V → M V
  | [t0] => fin (f_rtp_Bytes G t0)
  | _ => M.fail

theorem s_rtp_Bytes {g : Sem'} (hg : Sims g (sem T)) (args : List V) : Sim (d_rtp_Bytes g args) (sem T fn_rtp_Bytes args) := by
  unfold d_rtp_Bytes
  split
  · exact sim_fn tb_rtp_Bytes (Nat.le_of_ble_eq_true rfl) hg (eq_rtp_Bytes g _)
  · exact sim_fail

/-- palanquin/rtp.Good. -/
def f_rtp_Good (G : Sem') (t0 : V) : M Res :=
  (mbox ty_rtp_Packet t0).bind fun t1 =>
  M.blk 0 (
    (M.lift (Ax.faddr 1 t1)).bind fun t4 =>
    (mload none t4).bind fun t5 =>
    (M.lift (Ax.bin .lss t5 (V.int .i64 0))).bind fun t6 =>
    (guarded [(0, t6)] (some (0, false)) (M.lift (Ax.faddr 1 t1))).bind fun t8 =>
    (guarded [(0, t6)] (some (0, false)) (mload none t8)).bind fun t9 =>
    (guarded [(0, t6)] (some (0, false)) (M.lift (Ax.bin .gtr t9 (V.int .i64 127)))).bind fun t10 =>
    (M.lift (Ax.pick t6 (V.bool true) t10)).bind fun t11 =>
    (guarded [(0, t11)] (some (0, false)) (M.lift (Ax.faddr 5 t1))).bind fun t13 =>
    (guarded [(0, t11)] (some (0, false)) (mload none t13)).bind fun t14 =>
    (guarded [(0, t11)] (some (0, false)) (M.lift (vlen t14))).bind fun t15 =>
    (guarded [(0, t11)] (some (0, false)) (M.lift (Ax.bin .gtr t15 (V.int .i64 15)))).bind fun t16 =>
    (M.lift (Ax.pick t11 (V.bool true) t16)).bind fun t17 =>
    (guarded [(0, t17)] (some (0, false)) (M.lift (Ax.faddr 8 t1))).bind fun t19 =>
    (guarded [(0, t17)] (some (0, false)) (mload none t19)).bind fun t20 =>
    (guarded [(0, t17)] (some (0, false)) (M.lift (Ax.bin .lss t20 (V.int .i64 0)))).bind fun t21 =>
    (M.lift (Ax.pick t17 (V.bool true) t21)).bind fun t22 =>
    (guarded [(0, t22)] (some (0, false)) (M.lift (Ax.faddr 8 t1))).bind fun t24 =>
    (guarded [(0, t22)] (some (0, false)) (mload none t24)).bind fun t25 =>
    (guarded [(0, t22)] (some (0, false)) (M.lift (Ax.bin .gtr t25 (V.int .i64 255)))).bind fun t26 =>
    (M.lift (Ax.pick t22 (V.bool true) t26)).bind fun t27 =>
    M.ite t27
      (M.pure (.ret [(V.bool false)]))
      ((M.lift (Ax.faddr 6 t1)).bind fun t29 =>
      (mload none t29).bind fun t30 =>
      (M.lift (Ax.bin .eql t30 (V.int .i64 0))).bind fun t31 =>
      M.ite t31
        ((M.lift (Ax.faddr 7 t1)).bind fun t32 =>
        (mload none t32).bind fun t33 =>
        (M.lift (vlen t33)).bind fun t34 =>
        (M.lift (Ax.bin .eql t34 (V.int .i64 0))).bind fun t35 =>
        M.pure (.ret [t35]))
        ((M.lift (Ax.faddr 6 t1)).bind fun t37 =>
        (mload none t37).bind fun t38 =>
        (M.lift (Ax.bin .neq t38 (V.int .i64 48862))).bind fun t39 =>
        (guarded [(0, t39)] (some (0, true)) (M.lift (Ax.faddr 6 t1))).bind fun t41 =>
        (guarded [(0, t39)] (some (0, true)) (mload none t41)).bind fun t42 =>
        (guarded [(0, t39)] (some (0, true)) (M.lift (Ax.bin .neq t42 (V.int .i64 4096)))).bind fun t43 =>
        (M.lift (Ax.pick t39 t43 (V.bool false))).bind fun t44 =>
        M.ite t44
          (M.pure (.ret [(V.bool false)]))
          (M.pure (.nrm []))))) fun _ =>
  (M.lift (Ax.faddr 7 t1)).bind fun t45 =>
  (mload none t45).bind fun t46 =>
  (M.pure (.fn fn_rtp_Good_1 [t1])).bind fun t47 =>
  (G fn_slices_ContainsFunc_rtp_Ext_rtp_Ext [t46, t47]).bind fun t48 =>
  (M.lift (Ax.un .not t48)).bind fun t49 =>
  M.pure (.ret [t49])

theorem eq_rtp_Good (G : Sem') (t0 : V) : execK G ir_rtp_Good.rv ir_rtp_Good.body [] [] (params 0 [t0]) = f_rtp_Good G t0 := by kernel_rfl

def d_rtp_Good (G : Sem') : List V → M V
  | [t0] => fin (f_rtp_Good G t0)
  | _ => M.fail

theorem s_rtp_Good {g : Sem'} (hg : Sims g (sem T)) (args : List V) : Sim (d_rtp_Good g args) (sem T fn_rtp_Good args) := by
  unfold d_rtp_Good
  split
  · exact sim_fn tb_rtp_Good (Nat.le_of_ble_eq_true rfl) hg (eq_rtp_Good g _)
  · exact sim_fail

/-- palanquin/rtp.get. -/
def f_rtp_get_0 (G : Sem') (t7 t6 t2 : V) (L : List V) : M Res :=
  (M.lift (Ax.bin .lss (L.getD 1 .undef) t7)).bind fun t9 =>
  M.ite t9
    (M.blk 1 (
      (M.lift (Ax.iaddr none 1 t6 (L.getD 1 .undef))).bind fun t10 =>
      (mload none t10).bind fun t11 =>
      (M.lift (Ax.bin .shl (L.getD 0 .undef) (V.int .u64 8))).bind fun t13 =>
      (M.lift (Ax.cint .u32 t11)).bind fun t15 =>
      (M.lift (Ax.bin .or t13 t15)).bind fun t16 =>
      M.pure (.nrm [t16])) fun L0 =>
    (M.lift (Ax.bin .add (L.getD 1 .undef) (V.int .i64 1))).bind fun t17 =>
    M.pure (.nrm [(L0.getD 0 .undef), t17]))
    (M.pure (.ex 0 [(L.getD 0 .undef)]))

def f_rtp_get (G : Sem') (t0 : V) : M Res :=
  (M.lift (vlen t0)).bind fun t7 =>
  M.blk 0 (
    M.iter (f_rtp_get_0 G t7 t0 (V.int .u32 0)) [(V.int .u32 0), (V.int .i64 0)]) fun L1 =>
  M.pure (.ret [(L1.getD 0 .undef)])

theorem eq_rtp_get (G : Sem') (t0 : V) : execK G ir_rtp_get.rv ir_rtp_get.body [] [] (params 0 [t0]) = f_rtp_get G t0 := by kernel_rfl

def d_rtp_get (G : Sem') : List V → M V
  | [t0] => fin (f_rtp_get G t0)
  | _ => M.fail

theorem s_rtp_get {g : Sem'} (hg : Sims g (sem T)) (args : List V) : Sim (d_rtp_get g args) (sem T fn_rtp_get args) := by
  unfold d_rtp_get
  split
  · exact sim_fn tb_rtp_get (Nat.le_of_ble_eq_true rfl) hg (eq_rtp_get g _)
  · exact sim_fail

/-- palanquin/rtp.extension. -/
def f_rtp_extension (G : Sem') (t0 t1 : V) : M Res :=
  (M.lift (vlen t1)).bind fun t10 =>
  (M.lift (Ax.bin .lss t10 (V.int .i64 4))).bind fun t11 =>
  M.ite t11
    (M.pure (.ret [(V.int .i64 0), (V.int .i64 3)]))
    ((M.lift (vslice .sl 1 t1 (some (V.int .i64 2)) (some (V.int .i64 4)) none)).bind fun t13 =>
    (G fn_rtp_get [t13]).bind fun t14 =>
    (M.lift (Ax.cint .i64 t14)).bind fun t15 =>
    (M.lift (Ax.bin .mul (V.int .i64 4) t15)).bind fun t16 =>
    (M.lift (Ax.bin .add (V.int .i64 4) t16)).bind fun t17 =>
    (M.lift (vlen t1)).bind fun t19 =>
    (M.lift (Ax.bin .lss t19 t17)).bind fun t21 =>
    M.ite t21
      (M.pure (.ret [(V.int .i64 0), (V.int .i64 3)]))
      ((M.lift (vslice .sl 1 t1 none (some (V.int .i64 2)) none)).bind fun t24 =>
      (G fn_rtp_get [t24]).bind fun t25 =>
      (M.lift (Ax.cint .i64 t25)).bind fun t26 =>
      (M.lift (Ax.nilck t0)).bind fun t27 =>
      (M.lift (Ax.faddr 6 t27)).bind fun t28 =>
      (mstore 1 t28 t26).bind fun _ =>
      (M.lift (Ax.nilck t0)).bind fun t30 =>
      (M.lift (Ax.faddr 6 t30)).bind fun t31 =>
      (mload none t31).bind fun t32 =>
      (M.lift (Ax.bin .neq t32 (V.int .i64 48862))).bind fun t33 =>
      (guarded [(0, t33)] (some (0, true)) (M.pure t0)).bind fun t35 =>
      (guarded [(0, t33)] (some (0, true)) (M.lift (Ax.nilck t35))).bind fun t36 =>
      (guarded [(0, t33)] (some (0, true)) (M.lift (Ax.faddr 6 t36))).bind fun t37 =>
      (guarded [(0, t33)] (some (0, true)) (mload none t37)).bind fun t38 =>
      (guarded [(0, t33)] (some (0, true)) (M.lift (Ax.bin .neq t38 (V.int .i64 4096)))).bind fun t39 =>
      (M.lift (Ax.pick t33 t39 (V.bool false))).bind fun t40 =>
      M.ite t40
        (M.pure (.ret [(V.int .i64 0), (V.int .i64 2)]))
        ((M.lift (Ax.nilck t0)).bind fun t43 =>
        (M.lift (Ax.faddr 6 t43)).bind fun t44 =>
        (mload none t44).bind fun t45 =>
        (M.lift (vslice .sl 1 t1 (some (V.int .i64 4)) (some t17) none)).bind fun t48 =>
        (G fn_rtp_exts [t45, t48]).bind fun t49 =>
        (M.lift (Ax.ext 0 t49)).bind fun t50 =>
        (M.lift (Ax.ext 1 t49)).bind fun t51 =>
        (M.lift (Ax.un .not t51)).bind fun t53 =>
        M.ite t53
          (M.pure (.ret [(V.int .i64 0), (V.int .i64 2)]))
          ((M.lift (Ax.nilck t0)).bind fun t56 =>
          (M.lift (Ax.faddr 7 t56)).bind fun t57 =>
          (mstore 1 t57 t50).bind fun _ =>
          M.pure (.ret [t17, (V.int .i64 0)])))))

theorem eq_rtp_extension (G : Sem') (t0 t1 : V) : execK G ir_rtp_extension.rv ir_rtp_extension.body [] [] (params 0 [t0, t1]) = f_rtp_extension G t0 t1 := by kernel_rfl

def d_rtp_extension (G : Sem') : List V → M V
  | [t0, t1] => fin (f_rtp_extension G t0 t1)
  | _ => M.fail

theorem s_rtp_extension {g : Sem'} (hg : Sims g (sem T)) (args : List V) : Sim (d_rtp_extension g args) (sem T fn_rtp_extension args) := by
  unfold d_rtp_extension
  split
  · exact sim_fn tb_rtp_extension (Nat.le_of_ble_eq_true rfl) hg (eq_rtp_extension g _ _)
  · exact sim_fail

/-- bytes.Clone. -/
def f_bytes_Clone (G : Sem') (t0 : V) : M Res :=
  (M.lift (eqr .sl false t0 V.nils)).bind fun t4 =>
  M.ite t4
    (M.pure (.ret [V.nils]))
    ((mslit ty_uint8 0 [(V.int .u8 0)] []).bind fun t5 =>
    (mappend ty_uint8 1 1 t5 t0).bind fun t7 =>
    M.pure (.ret [t7]))

theorem eq_bytes_Clone (G : Sem') (t0 : V) : execK G ir_bytes_Clone.rv ir_bytes_Clone.body [] [] (params 0 [t0]) = f_bytes_Clone G t0 := by kernel_rfl

def d_bytes_Clone (G : Sem') : List V → M V
  | [t0] => fin (f_bytes_Clone G t0)
  | _ => M.fail

theorem s_bytes_Clone {g : Sem'} (hg : Sims g (sem T)) (args : List V) : Sim (d_bytes_Clone g args) (sem T fn_bytes_Clone args) := by
  unfold d_bytes_Clone
  split
  · exact sim_fn tb_bytes_Clone (Nat.le_of_ble_eq_true rfl) hg (eq_bytes_Clone g _)
  · exact sim_fail

/-- palanquin/rtp.at. -/
def f_rtp_at (G : Sem') (t0 t1 : V) : M Res :=
  (mbox ty_rtp_Packet t0).bind fun t2 =>
  (mbox ty_int t1).bind fun t3 =>
  (M.lift (Ax.faddr 7 t2)).bind fun t5 =>
  (mload none t5).bind fun t6 =>
  (M.pure (.fn fn_rtp_at_1 [t3])).bind fun t7 =>
  (G fn_slices_IndexFunc_rtp_Ext_rtp_Ext [t6, t7]).bind fun t8 =>
  M.pure (.ret [t8])

theorem eq_rtp_at (G : Sem') (t0 t1 : V) : execK G ir_rtp_at.rv ir_rtp_at.body [] [] (params 0 [t0, t1]) = f_rtp_at G t0 t1 := by kernel_rfl

def d_rtp_at (G : Sem') : List V → M V
  | [t0, t1] => fin (f_rtp_at G t0 t1)
  | _ => M.fail

theorem s_rtp_at {g : Sem'} (hg : Sims g (sem T)) (args : List V) : Sim (d_rtp_at g args) (sem T fn_rtp_at args) := by
  unfold d_rtp_at
  split
  · exact sim_fn tb_rtp_at (Nat.le_of_ble_eq_true rfl) hg (eq_rtp_at g _ _)
  · exact sim_fail

/-- palanquin/rtp.put. -/
def f_rtp_put_0 (G : Sem') (t1 t6 : V) (L : List V) : M Res :=
  (M.lift (Ax.bin .geq (L.getD 1 .undef) (V.int .i64 0))).bind fun t11 =>
  M.ite t11
    (M.blk 1 (
      (M.lift (Ax.bin .mul (V.int .i64 8) (L.getD 1 .undef))).bind fun t17 =>
      (M.lift (Ax.bin .shr t1 t17)).bind fun t18 =>
      (M.lift (Ax.cint .u8 t18)).bind fun t19 =>
      (mslit ty_uint8 1 [(V.int .u8 0)] [(0, 1, t19)]).bind fun t20 =>
      (mappend ty_uint8 1 1 (L.getD 0 .undef) t20).bind fun t21 =>
      M.pure (.nrm [t21])) fun L0 =>
    (M.lift (Ax.bin .sub (L.getD 1 .undef) (V.int .i64 1))).bind fun t13 =>
    M.pure (.nrm [(L0.getD 0 .undef), t13]))
    (M.pure (.ex 0 [(L.getD 0 .undef)]))

def f_rtp_put (G : Sem') (t0 t1 t2 : V) : M Res :=
  (M.lift (Ax.bin .sub t2 (V.int .i64 1))).bind fun t9 =>
  M.blk 0 (
    M.iter (f_rtp_put_0 G t1 V.nils) [t0, t9]) fun L1 =>
  M.pure (.ret [(L1.getD 0 .undef)])

theorem eq_rtp_put (G : Sem') (t0 t1 t2 : V) : execK G ir_rtp_put.rv ir_rtp_put.body [] [] (params 0 [t0, t1, t2]) = f_rtp_put G t0 t1 t2 := by kernel_rfl

def d_rtp_put (G : Sem') : List V → M V
  | [t0, t1, t2] => fin (f_rtp_put G t0 t1 t2)
  | _ => M.fail

theorem s_rtp_put {g : Sem'} (hg : Sims g (sem T)) (args : List V) : Sim (d_rtp_put g args) (sem T fn_rtp_put args) := by
  unfold d_rtp_put
  split
  · exact sim_fn tb_rtp_put (Nat.le_of_ble_eq_true rfl) hg (eq_rtp_put g _ _ _)
  · exact sim_fail

/-- palanquin/rtp.first. -/
def f_rtp_first (G : Sem') (t0 : V) : M Res :=
  (mbox ty_rtp_Packet t0).bind fun t1 =>
  (M.lift (Ax.faddr 5 t1)).bind fun t5 =>
  (mload none t5).bind fun t6 =>
  (M.lift (vlen t6)).bind fun t7 =>
  (M.lift (Ax.bin .or (V.int .i64 128) t7)).bind fun t8 =>
  (M.lift (Ax.cint .u8 t8)).bind fun t9 =>
  (M.lift (Ax.faddr 1 t1)).bind fun t10 =>
  (mload none t10).bind fun t11 =>
  (M.lift (Ax.cint .u8 t11)).bind fun t12 =>
  (M.lift (Ax.faddr 8 t1)).bind fun t13 =>
  (mload none t13).bind fun t14 =>
  (M.lift (Ax.bin .gtr t14 (V.int .i64 0))).bind fun t15 =>
  M.join (M.ite t15
    ((M.lift (Ax.bin .or t9 (V.int .u8 32))).bind fun t17 =>
    M.pure (.nrm [t17]))
    (M.pure (.nrm [t9]))) fun L0 =>
  (M.lift (Ax.faddr 6 t1)).bind fun t18 =>
  (mload none t18).bind fun t19 =>
  (M.lift (Ax.bin .neq t19 (V.int .i64 0))).bind fun t20 =>
  M.join (M.ite t20
    ((M.lift (Ax.bin .or (L0.getD 0 .undef) (V.int .u8 16))).bind fun t22 =>
    M.pure (.nrm [t22]))
    (M.pure (.nrm [(L0.getD 0 .undef)]))) fun L1 =>
  (M.lift (Ax.faddr 0 t1)).bind fun t23 =>
  (mload none t23).bind fun t24 =>
  M.join (M.ite t24
    ((M.lift (Ax.bin .or t12 (V.int .u8 128))).bind fun t26 =>
    M.pure (.nrm [t26]))
    (M.pure (.nrm [t12]))) fun L2 =>
  (mslit ty_uint8 2 [(V.int .u8 0)] [(0, 1, (L1.getD 0 .undef)), (1, 1, (L2.getD 0 .undef))]).bind fun t29 =>
  M.pure (.ret [t29])

theorem eq_rtp_first (G : Sem') (t0 : V) : execK G ir_rtp_first.rv ir_rtp_first.body [] [] (params 0 [t0]) = f_rtp_first G t0 := by kernel_rfl

def d_rtp_first (G : Sem') : List V → M V
  | [t0] => fin (f_rtp_first G t0)
  | _ => M.fail

theorem s_rtp_first {g : Sem'} (hg : Sims g (sem T)) (args : List V) : Sim (d_rtp_first g args) (sem T fn_rtp_first args) := by
  unfold d_rtp_first
  split
  · exact sim_fn tb_rtp_first (Nat.le_of_ble_eq_true rfl) hg (eq_rtp_first g _)
  · exact sim_fail

/-- palanquin/rtp.elements. -/
def f_rtp_elements_0 (G : Sem') (t8 t7 t1 t2 : V) (L : List V) : M Res :=
  (M.lift (Ax.bin .lss (L.getD 1 .undef) t8)).bind fun t10 =>
  M.ite t10
    (M.blk 1 (
      (M.lift (Ax.iaddr none 2 t7 (L.getD 1 .undef))).bind fun t11 =>
      (mload (some 2) t11).bind fun t12 =>
      (mbox ty_rtp_Ext (V.agg [(V.int .i64 0), V.nils])).bind fun t5 =>
      (mstore 2 t5 t12).bind fun _ =>
      (M.lift (Ax.faddr 6 t1)).bind fun t13 =>
      (mload none t13).bind fun t14 =>
      (M.lift (Ax.bin .eql t14 (V.int .i64 48862))).bind fun t15 =>
      M.join (M.ite t15
        ((M.lift (Ax.faddr 0 t5)).bind fun t17 =>
        (mload none t17).bind fun t18 =>
        (M.lift (Ax.bin .shl t18 (V.int .u64 4))).bind fun t19 =>
        (M.lift (Ax.faddr 1 t5)).bind fun t20 =>
        (mload none t20).bind fun t21 =>
        (M.lift (vlen t21)).bind fun t22 =>
        (M.lift (Ax.bin .sub t22 (V.int .i64 1))).bind fun t23 =>
        (M.lift (Ax.bin .or t19 t23)).bind fun t24 =>
        (M.lift (Ax.cint .u8 t24)).bind fun t25 =>
        (mslit ty_uint8 1 [(V.int .u8 0)] [(0, 1, t25)]).bind fun t26 =>
        (mappend ty_uint8 1 1 (L.getD 0 .undef) t26).bind fun t27 =>
        M.pure (.nrm [t27]))
        ((M.lift (Ax.faddr 0 t5)).bind fun t29 =>
        (mload none t29).bind fun t30 =>
        (M.lift (Ax.cint .u8 t30)).bind fun t31 =>
        (M.lift (Ax.faddr 1 t5)).bind fun t32 =>
        (mload none t32).bind fun t33 =>
        (M.lift (vlen t33)).bind fun t34 =>
        (M.lift (Ax.cint .u8 t34)).bind fun t35 =>
        (mslit ty_uint8 2 [(V.int .u8 0)] [(0, 1, t31), (1, 1, t35)]).bind fun t36 =>
        (mappend ty_uint8 1 1 (L.getD 0 .undef) t36).bind fun t37 =>
        M.pure (.nrm [t37]))) fun L0 =>
      (M.lift (Ax.faddr 1 t5)).bind fun t39 =>
      (mload none t39).bind fun t40 =>
      (mappend ty_uint8 1 1 (L0.getD 0 .undef) t40).bind fun t41 =>
      M.pure (.nrm [t41])) fun L1 =>
    (M.lift (Ax.bin .add (L.getD 1 .undef) (V.int .i64 1))).bind fun t42 =>
    M.pure (.nrm [(L1.getD 0 .undef), t42]))
    (M.pure (.ex 0 [(L.getD 0 .undef)]))

def f_rtp_elements_1 (G : Sem') (t2 : V) (L : List V) : M Res :=
  (M.lift (vlen (L.getD 0 .undef))).bind fun t44 =>
  (M.lift (Ax.bin .rem t44 (V.int .i64 4))).bind fun t45 =>
  (M.lift (Ax.bin .neq t45 (V.int .i64 0))).bind fun t46 =>
  M.ite t46
    (M.blk 3 (
      (mslit ty_uint8 1 [(V.int .u8 0)] [(0, 1, (V.int .u8 0))]).bind fun t48 =>
      (mappend ty_uint8 1 1 (L.getD 0 .undef) t48).bind fun t49 =>
      M.pure (.nrm [t49])) fun L3 =>
    M.pure (.nrm [(L3.getD 0 .undef)]))
    (M.pure (.ex 2 [(L.getD 0 .undef)]))

def f_rtp_elements (G : Sem') (t0 : V) : M Res :=
  (mbox ty_rtp_Packet t0).bind fun t1 =>
  (M.lift (Ax.faddr 7 t1)).bind fun t6 =>
  (mload none t6).bind fun t7 =>
  (M.lift (vlen t7)).bind fun t8 =>
  M.blk 0 (
    M.iter (f_rtp_elements_0 G t8 t7 t1 V.nils) [V.nils, (V.int .i64 0)]) fun L2 =>
  M.blk 2 (
    M.iter (f_rtp_elements_1 G V.nils) [(L2.getD 0 .undef)]) fun L4 =>
  M.pure (.ret [(L4.getD 0 .undef)])

theorem eq_rtp_elements (G : Sem') (t0 : V) : execK G ir_rtp_elements.rv ir_rtp_elements.body [] [] (params 0 [t0]) = f_rtp_elements G t0 := by kernel_rfl

def d_rtp_elements (G : Sem') : List V → M V
  | [t0] => fin (f_rtp_elements G t0)
  | _ => M.fail

theorem s_rtp_elements {g : Sem'} (hg : Sims g (sem T)) (args : List V) : Sim (d_rtp_elements g args) (sem T fn_rtp_elements args) := by
  unfold d_rtp_elements
  split
  · exact sim_fn tb_rtp_elements (Nat.le_of_ble_eq_true rfl) hg (eq_rtp_elements g _)
  · exact sim_fail

/-- slices.ContainsFunc[[]palanquin/rtp.Ext,palanquin/rtp.Ext]. -/
def f_slices_ContainsFunc_rtp_Ext_rtp_Ext (G : Sem') (t0 t1 : V) : M Res :=
  (G fn_slices_IndexFunc_rtp_Ext_rtp_Ext [t0, t1]).bind fun t7 =>
  (M.lift (Ax.bin .geq t7 (V.int .i64 0))).bind fun t8 =>
  M.pure (.ret [t8])

theorem eq_slices_ContainsFunc_rtp_Ext_rtp_Ext (G : Sem') (t0 t1 : V) : execK G ir_slices_ContainsFunc_rtp_Ext_rtp_Ext.rv ir_slices_ContainsFunc_rtp_Ext_rtp_Ext.body [] [] (params 0 [t0, t1]) = f_slices_ContainsFunc_rtp_Ext_rtp_Ext G t0 t1 := by kernel_rfl

def d_slices_ContainsFunc_rtp_Ext_rtp_Ext (G : Sem') : List V → M V
  | [t0, t1] => fin (f_slices_ContainsFunc_rtp_Ext_rtp_Ext G t0 t1)
  | _ => M.fail

theorem s_slices_ContainsFunc_rtp_Ext_rtp_Ext {g : Sem'} (hg : Sims g (sem T)) (args : List V) : Sim (d_slices_ContainsFunc_rtp_Ext_rtp_Ext g args) (sem T fn_slices_ContainsFunc_rtp_Ext_rtp_Ext args) := by
  unfold d_slices_ContainsFunc_rtp_Ext_rtp_Ext
  split
  · exact sim_fn tb_slices_ContainsFunc_rtp_Ext_rtp_Ext (Nat.le_of_ble_eq_true rfl) hg (eq_slices_ContainsFunc_rtp_Ext_rtp_Ext g _ _)
  · exact sim_fail

/-- palanquin/rtp.Good$1. -/
def f_rtp_Good_1 (G : Sem') (t0 t1 : V) : M Res :=
  (mbox ty_rtp_Ext t0).bind fun t2 =>
  (M.lift (Ax.faddr 6 t1)).bind fun t4 =>
  (mload none t4).bind fun t5 =>
  (mload (some 2) t2).bind fun t6 =>
  (G fn_rtp_goodExt [t5, t6]).bind fun t7 =>
  (M.lift (Ax.un .not t7)).bind fun t8 =>
  M.pure (.ret [t8])

theorem eq_rtp_Good_1 (G : Sem') (t0 t1 : V) : execK G ir_rtp_Good_1.rv ir_rtp_Good_1.body [] [] (params 0 [t0, t1]) = f_rtp_Good_1 G t0 t1 := by kernel_rfl

def d_rtp_Good_1 (G : Sem') : List V → M V
  | [t0, t1] => fin (f_rtp_Good_1 G t0 t1)
  | _ => M.fail

theorem s_rtp_Good_1 {g : Sem'} (hg : Sims g (sem T)) (args : List V) : Sim (d_rtp_Good_1 g args) (sem T fn_rtp_Good_1 args) := by
  unfold d_rtp_Good_1
  split
  · exact sim_fn tb_rtp_Good_1 (Nat.le_of_ble_eq_true rfl) hg (eq_rtp_Good_1 g _ _)
  · exact sim_fail

/-- palanquin/rtp.goodExt. -/
def f_rtp_goodExt (G : Sem') (t0 t1 : V) : M Res :=
  (mbox ty_rtp_Ext t1).bind fun t3 =>
  (M.lift (Ax.bin .eql t0 (V.int .i64 48862))).bind fun t6 =>
  M.ite t6
    ((M.lift (Ax.faddr 0 t3)).bind fun t7 =>
    (mload none t7).bind fun t8 =>
    (M.lift (Ax.bin .geq t8 (V.int .i64 1))).bind fun t9 =>
    (guarded [(0, t9)] (some (0, true)) (M.lift (Ax.faddr 0 t3))).bind fun t11 =>
    (guarded [(0, t9)] (some (0, true)) (mload none t11)).bind fun t12 =>
    (guarded [(0, t9)] (some (0, true)) (M.lift (Ax.bin .leq t12 (V.int .i64 14)))).bind fun t13 =>
    (M.lift (Ax.pick t9 t13 (V.bool false))).bind fun t14 =>
    (guarded [(0, t14)] (some (0, true)) (M.lift (Ax.faddr 1 t3))).bind fun t16 =>
    (guarded [(0, t14)] (some (0, true)) (mload none t16)).bind fun t17 =>
    (guarded [(0, t14)] (some (0, true)) (M.lift (vlen t17))).bind fun t18 =>
    (guarded [(0, t14)] (some (0, true)) (M.lift (Ax.bin .geq t18 (V.int .i64 1)))).bind fun t19 =>
    (M.lift (Ax.pick t14 t19 (V.bool false))).bind fun t20 =>
    (guarded [(0, t20)] (some (0, true)) (M.lift (Ax.faddr 1 t3))).bind fun t22 =>
    (guarded [(0, t20)] (some (0, true)) (mload none t22)).bind fun t23 =>
    (guarded [(0, t20)] (some (0, true)) (M.lift (vlen t23))).bind fun t24 =>
    (guarded [(0, t20)] (some (0, true)) (M.lift (Ax.bin .leq t24 (V.int .i64 16)))).bind fun t25 =>
    (M.lift (Ax.pick t20 t25 (V.bool false))).bind fun t26 =>
    M.pure (.ret [t26]))
    ((M.lift (Ax.faddr 0 t3)).bind fun t27 =>
    (mload none t27).bind fun t28 =>
    (M.lift (Ax.bin .geq t28 (V.int .i64 1))).bind fun t29 =>
    (guarded [(0, t29)] (some (0, true)) (M.lift (Ax.faddr 0 t3))).bind fun t31 =>
    (guarded [(0, t29)] (some (0, true)) (mload none t31)).bind fun t32 =>
    (guarded [(0, t29)] (some (0, true)) (M.lift (Ax.bin .leq t32 (V.int .i64 255)))).bind fun t33 =>
    (M.lift (Ax.pick t29 t33 (V.bool false))).bind fun t34 =>
    (guarded [(0, t34)] (some (0, true)) (M.lift (Ax.faddr 1 t3))).bind fun t36 =>
    (guarded [(0, t34)] (some (0, true)) (mload none t36)).bind fun t37 =>
    (guarded [(0, t34)] (some (0, true)) (M.lift (vlen t37))).bind fun t38 =>
    (guarded [(0, t34)] (some (0, true)) (M.lift (Ax.bin .leq t38 (V.int .i64 255)))).bind fun t39 =>
    (M.lift (Ax.pick t34 t39 (V.bool false))).bind fun t40 =>
    M.pure (.ret [t40]))

theorem eq_rtp_goodExt (G : Sem') (t0 t1 : V) : execK G ir_rtp_goodExt.rv ir_rtp_goodExt.body [] [] (params 0 [t0, t1]) = f_rtp_goodExt G t0 t1 := by kernel_rfl

def d_rtp_goodExt (G : Sem') : List V → M V
  | [t0, t1] => fin (f_rtp_goodExt G t0 t1)
  | _ => M.fail

theorem s_rtp_goodExt {g : Sem'} (hg : Sims g (sem T)) (args : List V) : Sim (d_rtp_goodExt g args) (sem T fn_rtp_goodExt args) := by
  unfold d_rtp_goodExt
  split
  · exact sim_fn tb_rtp_goodExt (Nat.le_of_ble_eq_true rfl) hg (eq_rtp_goodExt g _ _)
  · exact sim_fail

/-- palanquin/rtp.exts. -/
def f_rtp_exts_0 (G : Sem') (t0 : V) (L : List V) : M Res :=
  (M.lift (vlen (L.getD 0 .undef))).bind fun t11 =>
  (M.lift (Ax.bin .gtr t11 (V.int .i64 0))).bind fun t12 =>
  M.ite t12
    (M.blk 1 (
      (M.lift (Ax.iaddr none 1 (L.getD 0 .undef) (V.int .i64 0))).bind fun t14 =>
      (mload none t14).bind fun t15 =>
      (M.lift (Ax.bin .eql t15 (V.int .u8 0))).bind fun t16 =>
      M.ite t16
        ((M.lift (vslice .sl 1 (L.getD 0 .undef) (some (V.int .i64 1)) none none)).bind fun t18 =>
        M.pure (.ex 1 [t18, (L.getD 1 .undef)]))
        ((M.lift (Ax.bin .eql t0 (V.int .i64 48862))).bind fun t20 =>
        (guarded [(0, t20)] (some (0, true)) (M.pure (L.getD 0 .undef))).bind fun t22 =>
        (guarded [(0, t20)] (some (0, true)) (M.lift (Ax.iaddr none 1 t22 (V.int .i64 0)))).bind fun t23 =>
        (guarded [(0, t20)] (some (0, true)) (mload none t23)).bind fun t24 =>
        (guarded [(0, t20)] (some (0, true)) (M.lift (Ax.bin .shr t24 (V.int .u64 4)))).bind fun t25 =>
        (guarded [(0, t20)] (some (0, true)) (M.lift (Ax.bin .eql t25 (V.int .u8 15)))).bind fun t26 =>
        (M.lift (Ax.pick t20 t26 (V.bool false))).bind fun t27 =>
        M.ite t27
          (M.pure (.ex 0 [(L.getD 1 .undef)]))
          ((G fn_rtp_element [t0, (L.getD 0 .undef)]).bind fun t31 =>
          (M.lift (Ax.ext 0 t31)).bind fun t32 =>
          (M.lift (Ax.ext 1 t31)).bind fun t33 =>
          (M.lift (Ax.ext 2 t31)).bind fun t34 =>
          (mbox ty_rtp_Ext (V.agg [(V.int .i64 0), V.nils])).bind fun t7 =>
          (mstore 2 t7 t32).bind fun _ =>
          (M.lift (Ax.un .not t34)).bind fun t36 =>
          M.ite t36
            (M.pure (.ret [V.nils, (V.bool false)]))
            ((mload (some 2) t7).bind fun t38 =>
            (mslit ty_rtp_Ext 1 [(V.int .i64 0), V.nils] [(0, 2, t38)]).bind fun t39 =>
            (mappend ty_rtp_Ext 2 32 (L.getD 1 .undef) t39).bind fun t40 =>
            (M.lift (vslice .sl 1 (L.getD 0 .undef) (some t33) none none)).bind fun t43 =>
            M.pure (.nrm [t43, t40]))))) fun L0 =>
    M.pure (.nrm [(L0.getD 0 .undef), (L0.getD 1 .undef)]))
    (M.pure (.ex 0 [(L.getD 1 .undef)]))

def f_rtp_exts (G : Sem') (t0 t1 : V) : M Res :=
  M.blk 0 (
    M.iter (f_rtp_exts_0 G t0) [t1, V.nils]) fun L1 =>
  M.pure (.ret [(L1.getD 0 .undef), (V.bool true)])

theorem eq_rtp_exts (G : Sem') (t0 t1 : V) : execK G ir_rtp_exts.rv ir_rtp_exts.body [] [] (params 0 [t0, t1]) = f_rtp_exts G t0 t1 := by kernel_rfl

def d_rtp_exts (G : Sem') : List V → M V
  | [t0, t1] => fin (f_rtp_exts G t0 t1)
  | _ => M.fail

theorem s_rtp_exts {g : Sem'} (hg : Sims g (sem T)) (args : List V) : Sim (d_rtp_exts g args) (sem T fn_rtp_exts args) := by
  unfold d_rtp_exts
  split
  · exact sim_fn tb_rtp_exts (Nat.le_of_ble_eq_true rfl) hg (eq_rtp_exts g _ _)
  · exact sim_fail

/-- slices.IndexFunc[[]palanquin/rtp.Ext,palanquin/rtp.Ext]. -/
def f_slices_IndexFunc_rtp_Ext_rtp_Ext_0 (G : Sem') (t7 t1 t0 : V) (L : List V) : M Res :=
  (M.lift (Ax.bin .lss (L.getD 0 .undef) t7)).bind fun t9 =>
  M.ite t9
    (M.blk 1 (
      (M.lift (Ax.iaddr none 2 t0 (L.getD 0 .undef))).bind fun t14 =>
      (mload (some 2) t14).bind fun t15 =>
      (callv G t1 [t15]).bind fun t16 =>
      M.ite t16
        (M.pure (.ret [(L.getD 0 .undef)]))
        (M.pure (.nrm []))) fun _ =>
    (M.lift (Ax.bin .add (L.getD 0 .undef) (V.int .i64 1))).bind fun t18 =>
    M.pure (.nrm [t18]))
    (M.pure (.ex 0 []))

def f_slices_IndexFunc_rtp_Ext_rtp_Ext (G : Sem') (t0 t1 : V) : M Res :=
  (M.lift (vlen t0)).bind fun t7 =>
  M.blk 0 (
    M.iter (f_slices_IndexFunc_rtp_Ext_rtp_Ext_0 G t7 t1 t0) [(V.int .i64 0)]) fun _ =>
  M.pure (.ret [(V.int .i64 (-1))])

theorem eq_slices_IndexFunc_rtp_Ext_rtp_Ext (G : Sem') (t0 t1 : V) : execK G ir_slices_IndexFunc_rtp_Ext_rtp_Ext.rv ir_slices_IndexFunc_rtp_Ext_rtp_Ext.body [] [] (params 0 [t0, t1]) = f_slices_IndexFunc_rtp_Ext_rtp_Ext G t0 t1 := by kernel_rfl

def d_slices_IndexFunc_rtp_Ext_rtp_Ext (G : Sem') : List V → M V
  | [t0, t1] => fin (f_slices_IndexFunc_rtp_Ext_rtp_Ext G t0 t1)
  | _ => M.fail

theorem s_slices_IndexFunc_rtp_Ext_rtp_Ext {g : Sem'} (hg : Sims g (sem T)) (args : List V) : Sim (d_slices_IndexFunc_rtp_Ext_rtp_Ext g args) (sem T fn_slices_IndexFunc_rtp_Ext_rtp_Ext args) := by
  unfold d_slices_IndexFunc_rtp_Ext_rtp_Ext
  split
  · exact sim_fn tb_slices_IndexFunc_rtp_Ext_rtp_Ext (Nat.le_of_ble_eq_true rfl) hg (eq_slices_IndexFunc_rtp_Ext_rtp_Ext g _ _)
  · exact sim_fail

/-- palanquin/rtp.at$1. -/
def f_rtp_at_1 (G : Sem') (t0 t1 : V) : M Res :=
  (mbox ty_rtp_Ext t0).bind fun t2 =>
  (M.lift (Ax.faddr 0 t2)).bind fun t4 =>
  (mload none t4).bind fun t5 =>
  (mload none t1).bind fun t6 =>
  (M.lift (Ax.bin .eql t5 t6)).bind fun t7 =>
  M.pure (.ret [t7])

theorem eq_rtp_at_1 (G : Sem') (t0 t1 : V) : execK G ir_rtp_at_1.rv ir_rtp_at_1.body [] [] (params 0 [t0, t1]) = f_rtp_at_1 G t0 t1 := by kernel_rfl

def d_rtp_at_1 (G : Sem') : List V → M V
  | [t0, t1] => fin (f_rtp_at_1 G t0 t1)
  | _ => M.fail

theorem s_rtp_at_1 {g : Sem'} (hg : Sims g (sem T)) (args : List V) : Sim (d_rtp_at_1 g args) (sem T fn_rtp_at_1 args) := by
  unfold d_rtp_at_1
  split
  · exact sim_fn tb_rtp_at_1 (Nat.le_of_ble_eq_true rfl) hg (eq_rtp_at_1 g _ _)
  · exact sim_fail

/-- palanquin/rtp.element. -/
def f_rtp_element (G : Sem') (t0 t1 : V) : M Res :=
  (mbox ty_rtp_Ext (V.agg [(V.int .i64 0), V.nils])).bind fun t4 =>
  (M.lift (Ax.iaddr none 1 t1 (V.int .i64 0))).bind fun t11 =>
  (mload none t11).bind fun t12 =>
  (M.lift (Ax.cint .i64 t12)).bind fun t13 =>
  (M.lift (Ax.build [(V.int .i64 0), V.nils] [(0, 1, t13)])).bind fun t14 =>
  (mbox ty_rtp_Ext (V.agg [(V.int .i64 0), V.nils])).bind fun t7 =>
  (mstore 2 t7 t14).bind fun _ =>
  (M.lift (Ax.bin .eql t0 (V.int .i64 48862))).bind fun t16 =>
  M.join (M.ite t16
    ((M.lift (Ax.iaddr none 1 t1 (V.int .i64 0))).bind fun t18 =>
    (mload none t18).bind fun t19 =>
    (M.lift (Ax.bin .shr t19 (V.int .u64 4))).bind fun t20 =>
    (M.lift (Ax.cint .i64 t20)).bind fun t21 =>
    (M.lift (Ax.faddr 0 t7)).bind fun t22 =>
    (mstore 1 t22 t21).bind fun _ =>
    (M.lift (Ax.iaddr none 1 t1 (V.int .i64 0))).bind fun t24 =>
    (mload none t24).bind fun t25 =>
    (M.lift (Ax.bin .and t25 (V.int .u8 15))).bind fun t26 =>
    (M.lift (Ax.cint .i64 t26)).bind fun t27 =>
    (M.lift (Ax.bin .add t27 (V.int .i64 1))).bind fun t28 =>
    M.pure (.nrm [(V.int .i64 1), t28]))
    ((M.lift (vlen t1)).bind fun t30 =>
    (M.lift (Ax.bin .gtr t30 (V.int .i64 1))).bind fun t31 =>
    M.join (M.ite t31
      ((M.lift (Ax.iaddr none 1 t1 (V.int .i64 1))).bind fun t33 =>
      (mload none t33).bind fun t34 =>
      (M.lift (Ax.cint .i64 t34)).bind fun t35 =>
      M.pure (.nrm [t35]))
      (M.pure (.nrm [(V.int .i64 0)]))) fun L0 =>
    M.pure (.nrm [(V.int .i64 2), (L0.getD 0 .undef)]))) fun L1 =>
  (M.lift (Ax.faddr 0 t7)).bind fun t36 =>
  (mload none t36).bind fun t37 =>
  (M.lift (Ax.bin .eql t37 (V.int .i64 0))).bind fun t38 =>
  (guarded [(0, t38)] (some (0, false)) (M.pure t1)).bind fun t40 =>
  (guarded [(0, t38)] (some (0, false)) (M.lift (vlen t40))).bind fun t41 =>
  (guarded [(0, t38)] (some (0, false)) (M.pure (L1.getD 0 .undef))).bind fun t42 =>
  (guarded [(0, t38)] (some (0, false)) (M.pure (L1.getD 1 .undef))).bind fun t43 =>
  (guarded [(0, t38)] (some (0, false)) (M.lift (Ax.bin .add t42 t43))).bind fun t44 =>
  (guarded [(0, t38)] (some (0, false)) (M.lift (Ax.bin .lss t41 t44))).bind fun t45 =>
  (M.lift (Ax.pick t38 (V.bool true) t45)).bind fun t46 =>
  M.ite t46
    ((M.lift (Ax.build [(V.int .i64 0), V.nils] [])).bind fun t47 =>
    (mstore 2 t4 t47).bind fun _ =>
    (mload (some 2) t4).bind fun r0 =>
    M.pure (.ret [r0, (V.int .i64 0), (V.bool false)]))
    ((M.lift (Ax.bin .add (L1.getD 0 .undef) (L1.getD 1 .undef))).bind fun t52 =>
    (M.lift (vslice .sl 1 t1 (some (L1.getD 0 .undef)) (some t52) none)).bind fun t53 =>
    (G fn_bytes_Clone [t53]).bind fun t54 =>
    (M.lift (Ax.faddr 1 t7)).bind fun t55 =>
    (mstore 1 t55 t54).bind fun _ =>
    (mload (some 2) t7).bind fun t56 =>
    (M.lift (Ax.bin .add (L1.getD 0 .undef) (L1.getD 1 .undef))).bind fun t59 =>
    (mstore 2 t4 t56).bind fun _ =>
    (mload (some 2) t4).bind fun r0 =>
    M.pure (.ret [r0, t59, (V.bool true)]))

theorem eq_rtp_element (G : Sem') (t0 t1 : V) : execK G ir_rtp_element.rv ir_rtp_element.body [] [] (params 0 [t0, t1]) = f_rtp_element G t0 t1 := by kernel_rfl

def d_rtp_element (G : Sem') : List V → M V
  | [t0, t1] => fin (f_rtp_element G t0 t1)
  | _ => M.fail

theorem s_rtp_element {g : Sem'} (hg : Sims g (sem T)) (args : List V) : Sim (d_rtp_element g args) (sem T fn_rtp_element args) := by
  unfold d_rtp_element
  split
  · exact sim_fn tb_rtp_element (Nat.le_of_ble_eq_true rfl) hg (eq_rtp_element g _ _)
  · exact sim_fail

def disp (G : Sem') (f : FuncId) (args : List V) : M V :=
  if f < 41 then (if f < 25 then (if f < 13 then (if f < 12 then (if f = fn_palanquinlaw7_RtpKnown then d_palanquinlaw7_RtpKnown G args else M.fail) else (if f = fn_palanquinlaw7_awake then d_palanquinlaw7_awake G args else M.fail)) else (if f < 18 then (if f = fn_rtp_Parse then d_rtp_Parse G args else M.fail) else (if f < 23 then (if f = fn_rtp_Find then d_rtp_Find G args else M.fail) else (if f = fn_rtp_Bytes then d_rtp_Bytes G args else M.fail)))) else (if f < 35 then (if f < 34 then (if f = fn_rtp_Good then d_rtp_Good G args else M.fail) else (if f = fn_rtp_get then d_rtp_get G args else M.fail)) else (if f < 36 then (if f = fn_rtp_extension then d_rtp_extension G args else M.fail) else (if f < 39 then (if f = fn_bytes_Clone then d_bytes_Clone G args else M.fail) else (if f = fn_rtp_at then d_rtp_at G args else M.fail))))) else (if f < 48 then (if f < 43 then (if f < 42 then (if f = fn_rtp_put then d_rtp_put G args else M.fail) else (if f = fn_rtp_first then d_rtp_first G args else M.fail)) else (if f < 46 then (if f = fn_rtp_elements then d_rtp_elements G args else M.fail) else (if f < 47 then (if f = fn_slices_ContainsFunc_rtp_Ext_rtp_Ext then d_slices_ContainsFunc_rtp_Ext_rtp_Ext G args else M.fail) else (if f = fn_rtp_Good_1 then d_rtp_Good_1 G args else M.fail)))) else (if f < 62 then (if f < 61 then (if f = fn_rtp_goodExt then d_rtp_goodExt G args else M.fail) else (if f = fn_rtp_exts then d_rtp_exts G args else M.fail)) else (if f < 63 then (if f = fn_slices_IndexFunc_rtp_Ext_rtp_Ext then d_slices_IndexFunc_rtp_Ext_rtp_Ext G args else M.fail) else (if f < 71 then (if f = fn_rtp_at_1 then d_rtp_at_1 G args else M.fail) else (if f = fn_rtp_element then d_rtp_element G args else M.fail)))))

theorem sims_disp {g : Sem'} (hg : Sims g (sem T)) : Sims (disp g) (sem T) := fun f args =>
  (sim_if (fun _ => (sim_if (fun _ => (sim_if (fun _ => (sim_if (fun _ => (sim_if (fun e => e ▸ s_palanquinlaw7_RtpKnown hg args) sim_fail)) (sim_if (fun e => e ▸ s_palanquinlaw7_awake hg args) sim_fail))) (sim_if (fun _ => (sim_if (fun e => e ▸ s_rtp_Parse hg args) sim_fail)) (sim_if (fun _ => (sim_if (fun e => e ▸ s_rtp_Find hg args) sim_fail)) (sim_if (fun e => e ▸ s_rtp_Bytes hg args) sim_fail))))) (sim_if (fun _ => (sim_if (fun _ => (sim_if (fun e => e ▸ s_rtp_Good hg args) sim_fail)) (sim_if (fun e => e ▸ s_rtp_get hg args) sim_fail))) (sim_if (fun _ => (sim_if (fun e => e ▸ s_rtp_extension hg args) sim_fail)) (sim_if (fun _ => (sim_if (fun e => e ▸ s_bytes_Clone hg args) sim_fail)) (sim_if (fun e => e ▸ s_rtp_at hg args) sim_fail)))))) (sim_if (fun _ => (sim_if (fun _ => (sim_if (fun _ => (sim_if (fun e => e ▸ s_rtp_put hg args) sim_fail)) (sim_if (fun e => e ▸ s_rtp_first hg args) sim_fail))) (sim_if (fun _ => (sim_if (fun e => e ▸ s_rtp_elements hg args) sim_fail)) (sim_if (fun _ => (sim_if (fun e => e ▸ s_slices_ContainsFunc_rtp_Ext_rtp_Ext hg args) sim_fail)) (sim_if (fun e => e ▸ s_rtp_Good_1 hg args) sim_fail))))) (sim_if (fun _ => (sim_if (fun _ => (sim_if (fun e => e ▸ s_rtp_goodExt hg args) sim_fail)) (sim_if (fun e => e ▸ s_rtp_exts hg args) sim_fail))) (sim_if (fun _ => (sim_if (fun e => e ▸ s_slices_IndexFunc_rtp_Ext_rtp_Ext hg args) sim_fail)) (sim_if (fun _ => (sim_if (fun e => e ▸ s_rtp_at_1 hg args) sim_fail)) (sim_if (fun e => e ▸ s_rtp_element hg args) sim_fail))))))

def cs : Nat → Sem'
  | 0 => fun _ _ => M.fail
  | n + 1 => disp (cs n)

theorem sims_cs : ∀ n, Sims (cs n) (sem T)
  | 0 => fun _ _ => sim_fail
  | n + 1 => sims_disp (sims_cs n)

end Go.Ax.Cc
