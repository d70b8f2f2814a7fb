/-
  The functions of this seat as plain texts: printed by program (wip/gen/Emit.lean): part 1.
-/
import Derived.Test.YtoflegfbpjbedaaGreatFnK0
set_option maxRecDepth 100000
set_option linter.unusedVariables false
namespace Go.Ax
open Go.Proofs

/-- palanquin/palanquinlaw25.LaneKnown. -/
def ir_palanquinlaw25_LaneKnown : Fn' := ⟨309, [.tmp 0],
  .ops [⟨(some 0), none, .mv (.c (V.bool false))⟩]
  (.ops [⟨(some 40), none, .call fn_lane_New [(.c (V.int .u32 9))]⟩,
    ⟨(some 1), none, .mv (.s 40)⟩]
  (.ops [⟨(some 41), none, .call fn_palanquinlaw25_awake []⟩,
    ⟨(some 42), none, .un .not (.s 41)⟩,
    ⟨(some 43), none, .mv (.s 42)⟩,
    ⟨(some 44), (some (43, false)), .mv (.s 1)⟩,
    ⟨(some 45), (some (43, false)), .eq .ptr false (.s 44) (.c V.nilp)⟩,
    ⟨(some 46), none, .pick (.s 43) (.c (V.bool true)) (.s 45)⟩]
  (.cond (.s 46)
  (.ops [⟨(some 0), none, .mv (.c (V.bool false))⟩]
   (.ret))
  (.ops [⟨(some 47), none, .mv (.s 1)⟩,
     ⟨(some 48), none, .call fn_lane_Lane_Ask [(.s 47), (.c (V.int .i64 3))]⟩,
     ⟨(some 49), none, .mv (.s 1)⟩,
     ⟨(some 50), none, .call fn_lane_Lane_Limit [(.s 49), (.c (V.int .i64 4)), (.c (V.int .i64 0))]⟩,
     ⟨(some 51), none, .mv (.s 1)⟩,
     ⟨(some 52), none, .call fn_lane_Lane_Limit [(.s 51), (.c (V.int .i64 0)), (.c (V.int .i64 8))]⟩,
     ⟨(some 2), none, .mv (.s 48)⟩,
     ⟨(some 3), none, .mv (.s 50)⟩,
     ⟨(some 4), none, .mv (.s 52)⟩]
   (.ops [⟨(some 54), none, .mv (.s 1)⟩,
     ⟨(some 55), none, .call fn_lane_Lane_Lacks [(.s 54)]⟩,
     ⟨(some 53), none, .mv (.s 55)⟩,
     ⟨(some 56), none, .ext 0 (.s 53)⟩,
     ⟨(some 57), none, .ext 1 (.s 53)⟩,
     ⟨(some 5), none, .mv (.s 56)⟩,
     ⟨(some 6), none, .mv (.s 57)⟩]
   (.ops [⟨(some 59), none, .mv (.s 1)⟩,
     ⟨(some 60), none, .call fn_lane_Lane_Runs [(.s 59)]⟩,
     ⟨(some 58), none, .mv (.s 60)⟩,
     ⟨(some 61), none, .ext 0 (.s 58)⟩,
     ⟨(some 62), none, .ext 1 (.s 58)⟩,
     ⟨(some 7), none, .mv (.s 61)⟩,
     ⟨(some 8), none, .mv (.s 62)⟩]
   (.ops [⟨(some 64), none, .build [(V.bool false), (V.bool false), (V.int .i64 0), (V.int .u16 0), (V.bool false), (V.int .i64 0), (V.int .i64 0), V.nils, (V.int .i64 0), V.nils, V.nils, (V.bool false), (V.int .u32 0), (V.bool false), (V.bool false), (V.bool false), V.nils, V.nils, V.nils] [(0, 1, (.c (V.bool true))), (4, 1, (.c (V.bool true))), (3, 1, (.c (V.int .u16 10)))]⟩,
     ⟨(some 65), none, .slit ty_uint8 1 [(V.int .u8 0)] [(0, 1, (.c (V.int .u8 107)))]⟩,
     ⟨(some 66), none, .remark ty_uint8 (.s 65)⟩,
     ⟨(some 67), none, .call fn_palanquinlaw25_packet [(.s 64), (.c (V.int .u16 0)), (.s 66)]⟩,
     ⟨(some 63), none, .mv (.s 67)⟩,
     ⟨(some 68), none, .ext 0 (.s 63)⟩,
     ⟨(some 69), none, .ext 1 (.s 63)⟩,
     ⟨(some 9), none, .box ty_rtp_Packet (.c (V.agg [(V.bool false), (V.int .i64 0), (V.int .u16 0), (V.int .u32 0), (V.int .u32 0), V.nils, (V.int .i64 0), V.nils, (V.int .i64 0), V.nils]))⟩,
     ⟨(some 10), none, .box ty_depend_Frame (.c (V.agg [(V.bool false), (V.bool false), (V.int .i64 0), (V.int .u16 0), (V.bool false), (V.int .i64 0), (V.int .i64 0), V.nils, (V.int .i64 0), V.nils, V.nils, (V.bool false), (V.int .u32 0), (V.bool false), (V.bool false), (V.bool false), V.nils, V.nils, V.nils]))⟩,
     ⟨none, none, .store 10 (.s 9) (.s 68)⟩,
     ⟨none, none, .store 19 (.s 10) (.s 69)⟩]
   (.draw [⟨(some 71), none, .mv (.s 1)⟩,
     ⟨(some 72), none, .load (some 10) (.s 9)⟩,
     ⟨(some 73), none, .load (some 19) (.s 10)⟩,
     ⟨(some 74), none, .call fn_palanquinlaw25_plain []⟩,
     ⟨(some 75), none, .call fn_lane_Lane_Media [(.s 71), (.c (V.int .i64 0)), (.s 72), (.s 73), (.s 74), (.c (V.int .u32 3)), (.c (V.int .i64 0))]⟩,
     ⟨(some 70), none, .mv (.s 75)⟩,
     ⟨(some 76), none, .ext 0 (.s 70)⟩,
     ⟨(some 11), none, .box ty_lane_Out (.c (V.agg [V.nils, (V.int .i64 0), (V.bool false)]))⟩,
     ⟨none, none, .store 3 (.s 11) (.s 76)⟩,
     ⟨(some 77), none, .ext 1 (.s 70)⟩,
     ⟨(some 12), none, .mv (.s 77)⟩] [(1, 3), (2, 3)]
   (.ops [⟨(some 79), none, .build [(V.bool false), (V.bool false), (V.int .i64 0), (V.int .u16 0), (V.bool false), (V.int .i64 0), (V.int .i64 0), V.nils, (V.int .i64 0), V.nils, V.nils, (V.bool false), (V.int .u32 0), (V.bool false), (V.bool false), (V.bool false), V.nils, V.nils, V.nils] [(3, 1, (.c (V.int .u16 10)))]⟩,
     ⟨(some 80), none, .slit ty_uint8 1 [(V.int .u8 0)] [(0, 1, (.c (V.int .u8 109)))]⟩,
     ⟨(some 81), none, .remark ty_uint8 (.s 80)⟩,
     ⟨(some 82), none, .call fn_palanquinlaw25_packet [(.s 79), (.c (V.int .u16 1)), (.s 81)]⟩,
     ⟨(some 78), none, .mv (.s 82)⟩,
     ⟨(some 83), none, .ext 0 (.s 78)⟩,
     ⟨(some 84), none, .ext 1 (.s 78)⟩,
     ⟨(some 13), none, .box ty_rtp_Packet (.c (V.agg [(V.bool false), (V.int .i64 0), (V.int .u16 0), (V.int .u32 0), (V.int .u32 0), V.nils, (V.int .i64 0), V.nils, (V.int .i64 0), V.nils]))⟩,
     ⟨(some 14), none, .box ty_depend_Frame (.c (V.agg [(V.bool false), (V.bool false), (V.int .i64 0), (V.int .u16 0), (V.bool false), (V.int .i64 0), (V.int .i64 0), V.nils, (V.int .i64 0), V.nils, V.nils, (V.bool false), (V.int .u32 0), (V.bool false), (V.bool false), (V.bool false), V.nils, V.nils, V.nils]))⟩,
     ⟨none, none, .store 10 (.s 13) (.s 83)⟩,
     ⟨none, none, .store 19 (.s 14) (.s 84)⟩]
   (.draw [⟨(some 86), none, .mv (.s 1)⟩,
     ⟨(some 87), none, .load (some 10) (.s 13)⟩,
     ⟨(some 88), none, .load (some 19) (.s 14)⟩,
     ⟨(some 89), none, .call fn_palanquinlaw25_plain []⟩,
     ⟨(some 90), none, .call fn_lane_Lane_Media [(.s 86), (.c (V.int .i64 0)), (.s 87), (.s 88), (.s 89), (.c (V.int .u32 3)), (.c (V.int .i64 0))]⟩,
     ⟨(some 85), none, .mv (.s 90)⟩,
     ⟨(some 91), none, .ext 0 (.s 85)⟩,
     ⟨(some 15), none, .box ty_lane_Out (.c (V.agg [V.nils, (V.int .i64 0), (V.bool false)]))⟩,
     ⟨none, none, .store 3 (.s 15) (.s 91)⟩,
     ⟨(some 92), none, .ext 1 (.s 85)⟩,
     ⟨(some 16), none, .mv (.s 92)⟩] [(1, 3), (2, 3)]
   (.ops [⟨(some 94), none, .build [(V.bool false), (V.bool false), (V.int .i64 0), (V.int .u16 0), (V.bool false), (V.int .i64 0), (V.int .i64 0), V.nils, (V.int .i64 0), V.nils, V.nils, (V.bool false), (V.int .u32 0), (V.bool false), (V.bool false), (V.bool false), V.nils, V.nils, V.nils] [(3, 1, (.c (V.int .u16 11))), (2, 1, (.c (V.int .i64 2)))]⟩,
     ⟨(some 95), none, .slit ty_uint8 1 [(V.int .u8 0)] [(0, 1, (.c (V.int .u8 109)))]⟩,
     ⟨(some 96), none, .remark ty_uint8 (.s 95)⟩,
     ⟨(some 97), none, .call fn_palanquinlaw25_packet [(.s 94), (.c (V.int .u16 2)), (.s 96)]⟩,
     ⟨(some 93), none, .mv (.s 97)⟩,
     ⟨(some 98), none, .ext 0 (.s 93)⟩,
     ⟨(some 99), none, .ext 1 (.s 93)⟩,
     ⟨none, none, .store 10 (.s 13) (.s 98)⟩,
     ⟨none, none, .store 19 (.s 14) (.s 99)⟩]
   (.draw [⟨(some 101), none, .mv (.s 1)⟩,
     ⟨(some 102), none, .load (some 10) (.s 13)⟩,
     ⟨(some 103), none, .load (some 19) (.s 14)⟩,
     ⟨(some 104), none, .call fn_palanquinlaw25_plain []⟩,
     ⟨(some 105), none, .call fn_lane_Lane_Media [(.s 101), (.c (V.int .i64 0)), (.s 102), (.s 103), (.s 104), (.c (V.int .u32 3)), (.c (V.int .i64 0))]⟩,
     ⟨(some 100), none, .mv (.s 105)⟩,
     ⟨(some 106), none, .ext 0 (.s 100)⟩,
     ⟨(some 17), none, .box ty_lane_Out (.c (V.agg [V.nils, (V.int .i64 0), (V.bool false)]))⟩,
     ⟨none, none, .store 3 (.s 17) (.s 106)⟩,
     ⟨(some 107), none, .ext 1 (.s 100)⟩,
     ⟨(some 18), none, .mv (.s 107)⟩] [(1, 3), (2, 3)]
   (.ops [⟨(some 108), none, .mv (.s 1)⟩,
     ⟨(some 109), none, .call fn_lane_Lane_Limit [(.s 108), (.c (V.int .i64 0)), (.c (V.int .i64 0))]⟩,
     ⟨(some 19), none, .mv (.s 109)⟩]
   (.ops [⟨(some 111), none, .build [(V.bool false), (V.bool false), (V.int .i64 0), (V.int .u16 0), (V.bool false), (V.int .i64 0), (V.int .i64 0), V.nils, (V.int .i64 0), V.nils, V.nils, (V.bool false), (V.int .u32 0), (V.bool false), (V.bool false), (V.bool false), V.nils, V.nils, V.nils] [(3, 1, (.c (V.int .u16 11))), (2, 1, (.c (V.int .i64 2))), (0, 1, (.c (V.bool true)))]⟩,
     ⟨(some 112), none, .slit ty_uint8 1 [(V.int .u8 0)] [(0, 1, (.c (V.int .u8 109)))]⟩,
     ⟨(some 113), none, .remark ty_uint8 (.s 112)⟩,
     ⟨(some 114), none, .call fn_palanquinlaw25_packet [(.s 111), (.c (V.int .u16 3)), (.s 113)]⟩,
     ⟨(some 110), none, .mv (.s 114)⟩,
     ⟨(some 115), none, .ext 0 (.s 110)⟩,
     ⟨(some 116), none, .ext 1 (.s 110)⟩,
     ⟨none, none, .store 10 (.s 13) (.s 115)⟩,
     ⟨none, none, .store 19 (.s 14) (.s 116)⟩]
   (.draw [⟨(some 118), none, .mv (.s 1)⟩,
     ⟨(some 119), none, .load (some 10) (.s 13)⟩,
     ⟨(some 120), none, .load (some 19) (.s 14)⟩,
     ⟨(some 121), none, .call fn_palanquinlaw25_plain []⟩,
     ⟨(some 122), none, .call fn_lane_Lane_Media [(.s 118), (.c (V.int .i64 0)), (.s 119), (.s 120), (.s 121), (.c (V.int .u32 3)), (.c (V.int .i64 0))]⟩,
     ⟨(some 117), none, .mv (.s 122)⟩,
     ⟨(some 123), none, .ext 0 (.s 117)⟩,
     ⟨(some 20), none, .box ty_lane_Out (.c (V.agg [V.nils, (V.int .i64 0), (V.bool false)]))⟩,
     ⟨none, none, .store 3 (.s 20) (.s 123)⟩,
     ⟨(some 124), none, .ext 1 (.s 117)⟩,
     ⟨(some 21), none, .mv (.s 124)⟩] [(1, 3), (2, 3)]
   (.draw [⟨(some 126), none, .mv (.s 1)⟩,
     ⟨(some 127), none, .load (some 10) (.s 13)⟩,
     ⟨(some 128), none, .load (some 19) (.s 14)⟩,
     ⟨(some 129), none, .call fn_palanquinlaw25_plain []⟩,
     ⟨(some 130), none, .call fn_lane_Lane_Media [(.s 126), (.c (V.int .i64 0)), (.s 127), (.s 128), (.s 129), (.c (V.int .u32 0)), (.c (V.int .i64 0))]⟩,
     ⟨(some 125), none, .mv (.s 130)⟩,
     ⟨(some 131), none, .ext 0 (.s 125)⟩,
     ⟨(some 22), none, .box ty_lane_Out (.c (V.agg [V.nils, (V.int .i64 0), (V.bool false)]))⟩,
     ⟨none, none, .store 3 (.s 22) (.s 131)⟩,
     ⟨(some 132), none, .ext 1 (.s 125)⟩,
     ⟨(some 23), none, .mv (.s 132)⟩] [(1, 3), (2, 3)]
   (.ops [⟨(some 134), none, .build [(V.bool false), (V.bool false), (V.int .i64 0), (V.int .u16 0), (V.bool false), (V.int .i64 0), (V.int .i64 0), V.nils, (V.int .i64 0), V.nils, V.nils, (V.bool false), (V.int .u32 0), (V.bool false), (V.bool false), (V.bool false), V.nils, V.nils, V.nils] [(3, 1, (.c (V.int .u16 14))), (2, 1, (.c (V.int .i64 1))), (0, 1, (.c (V.bool true)))]⟩,
     ⟨(some 135), none, .slit ty_uint8 1 [(V.int .u8 0)] [(0, 1, (.c (V.int .u8 109)))]⟩,
     ⟨(some 136), none, .remark ty_uint8 (.s 135)⟩,
     ⟨(some 137), none, .call fn_palanquinlaw25_packet [(.s 134), (.c (V.int .u16 4)), (.s 136)]⟩,
     ⟨(some 133), none, .mv (.s 137)⟩,
     ⟨(some 138), none, .ext 0 (.s 133)⟩,
     ⟨(some 139), none, .ext 1 (.s 133)⟩,
     ⟨none, none, .store 10 (.s 13) (.s 138)⟩,
     ⟨none, none, .store 19 (.s 14) (.s 139)⟩]
   (.draw [⟨(some 141), none, .mv (.s 1)⟩,
     ⟨(some 142), none, .load (some 10) (.s 13)⟩,
     ⟨(some 143), none, .load (some 19) (.s 14)⟩,
     ⟨(some 144), none, .call fn_palanquinlaw25_plain []⟩,
     ⟨(some 145), none, .call fn_lane_Lane_Media [(.s 141), (.c (V.int .i64 0)), (.s 142), (.s 143), (.s 144), (.c (V.int .u32 3)), (.c (V.int .i64 0))]⟩,
     ⟨(some 140), none, .mv (.s 145)⟩,
     ⟨(some 146), none, .ext 0 (.s 140)⟩,
     ⟨(some 24), none, .box ty_lane_Out (.c (V.agg [V.nils, (V.int .i64 0), (V.bool false)]))⟩,
     ⟨none, none, .store 3 (.s 24) (.s 146)⟩,
     ⟨(some 147), none, .ext 1 (.s 140)⟩,
     ⟨(some 25), none, .mv (.s 147)⟩] [(1, 3), (2, 3)]
   (.ops [⟨(some 149), none, .build [(V.bool false), (V.bool false), (V.int .i64 0), (V.int .u16 0), (V.bool false), (V.int .i64 0), (V.int .i64 0), V.nils, (V.int .i64 0), V.nils, V.nils, (V.bool false), (V.int .u32 0), (V.bool false), (V.bool false), (V.bool false), V.nils, V.nils, V.nils] [(3, 1, (.c (V.int .u16 12))), (2, 1, (.c (V.int .i64 1))), (0, 1, (.c (V.bool true)))]⟩,
     ⟨(some 150), none, .slit ty_uint8 1 [(V.int .u8 0)] [(0, 1, (.c (V.int .u8 109)))]⟩,
     ⟨(some 151), none, .remark ty_uint8 (.s 150)⟩,
     ⟨(some 152), none, .call fn_palanquinlaw25_packet [(.s 149), (.c (V.int .u16 5)), (.s 151)]⟩,
     ⟨(some 148), none, .mv (.s 152)⟩,
     ⟨(some 153), none, .ext 0 (.s 148)⟩,
     ⟨(some 154), none, .ext 1 (.s 148)⟩,
     ⟨none, none, .store 10 (.s 13) (.s 153)⟩,
     ⟨none, none, .store 19 (.s 14) (.s 154)⟩]
   (.draw [⟨(some 156), none, .mv (.s 1)⟩,
     ⟨(some 157), none, .load (some 10) (.s 13)⟩,
     ⟨(some 158), none, .load (some 19) (.s 14)⟩,
     ⟨(some 159), none, .call fn_palanquinlaw25_plain []⟩,
     ⟨(some 160), none, .call fn_lane_Lane_Media [(.s 156), (.c (V.int .i64 0)), (.s 157), (.s 158), (.s 159), (.c (V.int .u32 3)), (.c (V.int .i64 0))]⟩,
     ⟨(some 155), none, .mv (.s 160)⟩,
     ⟨(some 161), none, .ext 0 (.s 155)⟩,
     ⟨(some 26), none, .box ty_lane_Out (.c (V.agg [V.nils, (V.int .i64 0), (V.bool false)]))⟩,
     ⟨none, none, .store 3 (.s 26) (.s 161)⟩,
     ⟨(some 162), none, .ext 1 (.s 155)⟩,
     ⟨(some 27), none, .mv (.s 162)⟩] [(1, 3), (2, 3)]
   (.draw [⟨(some 164), none, .mv (.s 1)⟩,
     ⟨(some 165), none, .load (some 10) (.s 13)⟩,
     ⟨(some 166), none, .load (some 19) (.s 14)⟩,
     ⟨(some 167), none, .call fn_palanquinlaw25_plain []⟩,
     ⟨(some 168), none, .call fn_lane_Lane_Media [(.s 164), (.c (V.int .i64 3)), (.s 165), (.s 166), (.s 167), (.c (V.int .u32 3)), (.c (V.int .i64 0))]⟩,
     ⟨(some 163), none, .mv (.s 168)⟩,
     ⟨(some 169), none, .ext 0 (.s 163)⟩,
     ⟨(some 28), none, .box ty_lane_Out (.c (V.agg [V.nils, (V.int .i64 0), (V.bool false)]))⟩,
     ⟨none, none, .store 3 (.s 28) (.s 169)⟩,
     ⟨(some 170), none, .ext 1 (.s 163)⟩,
     ⟨(some 29), none, .mv (.s 170)⟩] [(1, 3), (2, 3)]
   (.draw [⟨(some 172), none, .mv (.s 1)⟩,
     ⟨(some 173), none, .build [(V.bool false), (V.int .i64 0), (V.int .u16 0), (V.int .u32 0), (V.int .u32 0), V.nils, (V.int .i64 0), V.nils, (V.int .i64 0), V.nils] []⟩,
     ⟨(some 174), none, .load (some 19) (.s 14)⟩,
     ⟨(some 175), none, .call fn_palanquinlaw25_plain []⟩,
     ⟨(some 176), none, .call fn_lane_Lane_Media [(.s 172), (.c (V.int .i64 0)), (.s 173), (.s 174), (.s 175), (.c (V.int .u32 3)), (.c (V.int .i64 0))]⟩,
     ⟨(some 171), none, .mv (.s 176)⟩,
     ⟨(some 177), none, .ext 0 (.s 171)⟩,
     ⟨(some 30), none, .box ty_lane_Out (.c (V.agg [V.nils, (V.int .i64 0), (V.bool false)]))⟩,
     ⟨none, none, .store 3 (.s 30) (.s 177)⟩,
     ⟨(some 178), none, .ext 1 (.s 171)⟩,
     ⟨(some 31), none, .mv (.s 178)⟩] [(2, 3)]
   (.draw [⟨(some 180), none, .mv (.s 1)⟩,
     ⟨(some 181), none, .load (some 10) (.s 13)⟩,
     ⟨(some 182), none, .build [(V.bool false), (V.bool false), (V.int .i64 0), (V.int .u16 0), (V.bool false), (V.int .i64 0), (V.int .i64 0), V.nils, (V.int .i64 0), V.nils, V.nils, (V.bool false), (V.int .u32 0), (V.bool false), (V.bool false), (V.bool false), V.nils, V.nils, V.nils] [(2, 1, (.c (V.int .i64 9)))]⟩,
     ⟨(some 183), none, .call fn_palanquinlaw25_plain []⟩,
     ⟨(some 184), none, .call fn_lane_Lane_Media [(.s 180), (.c (V.int .i64 0)), (.s 181), (.s 182), (.s 183), (.c (V.int .u32 3)), (.c (V.int .i64 0))]⟩,
     ⟨(some 179), none, .mv (.s 184)⟩,
     ⟨(some 185), none, .ext 0 (.s 179)⟩,
     ⟨(some 32), none, .box ty_lane_Out (.c (V.agg [V.nils, (V.int .i64 0), (V.bool false)]))⟩,
     ⟨none, none, .store 3 (.s 32) (.s 185)⟩,
     ⟨(some 186), none, .ext 1 (.s 179)⟩,
     ⟨(some 33), none, .mv (.s 186)⟩] [(1, 3)]
   (.draw [⟨(some 188), none, .mv (.s 1)⟩,
     ⟨(some 189), none, .load (some 10) (.s 9)⟩,
     ⟨(some 190), none, .load (some 19) (.s 10)⟩,
     ⟨(some 191), none, .call fn_palanquinlaw25_plain []⟩,
     ⟨(some 192), none, .call fn_lane_Lane_Media [(.s 188), (.c (V.int .i64 0)), (.s 189), (.s 190), (.s 191), (.c (V.int .u32 3)), (.c (V.int .i64 0))]⟩,
     ⟨(some 187), none, .mv (.s 192)⟩,
     ⟨(some 193), none, .ext 0 (.s 187)⟩,
     ⟨(some 34), none, .box ty_lane_Out (.c (V.agg [V.nils, (V.int .i64 0), (V.bool false)]))⟩,
     ⟨none, none, .store 3 (.s 34) (.s 193)⟩,
     ⟨(some 194), none, .ext 1 (.s 187)⟩,
     ⟨(some 35), none, .mv (.s 194)⟩] [(1, 3), (2, 3)]
   (.ops [⟨(some 196), none, .mv (.s 1)⟩,
     ⟨(some 197), none, .call fn_lane_Lane_Runs [(.s 196)]⟩,
     ⟨(some 195), none, .mv (.s 197)⟩,
     ⟨(some 198), none, .ext 0 (.s 195)⟩,
     ⟨(some 199), none, .ext 1 (.s 195)⟩,
     ⟨(some 36), none, .mv (.s 198)⟩,
     ⟨(some 37), none, .mv (.s 199)⟩]
   (.ops [⟨(some 201), none, .faddr 0 (.s 34)⟩,
     ⟨(some 202), none, .load none (.s 201)⟩,
     ⟨(some 203), none, .call fn_rtp_Parse [(.s 202)]⟩,
     ⟨(some 200), none, .mv (.s 203)⟩,
     ⟨(some 204), none, .ext 0 (.s 200)⟩,
     ⟨(some 205), none, .ext 1 (.s 200)⟩,
     ⟨(some 38), none, .box ty_rtp_Packet (.c (V.agg [(V.bool false), (V.int .i64 0), (V.int .u16 0), (V.int .u32 0), (V.int .u32 0), V.nils, (V.int .i64 0), V.nils, (V.int .i64 0), V.nils]))⟩,
     ⟨none, none, .store 10 (.s 38) (.s 204)⟩,
     ⟨(some 39), none, .mv (.s 205)⟩]
   (.ops [⟨(some 206), none, .mv (.s 2)⟩,
     ⟨(some 207), none, .bin .eql (.s 206) (.c (V.int .i64 1))⟩,
     ⟨(some 208), none, .mv (.s 207)⟩,
     ⟨(some 209), (some (208, true)), .mv (.s 3)⟩,
     ⟨(some 210), (some (208, true)), .bin .eql (.s 209) (.c (V.int .i64 1))⟩,
     ⟨(some 211), none, .pick (.s 208) (.s 210) (.c (V.bool false))⟩,
     ⟨(some 212), none, .mv (.s 211)⟩,
     ⟨(some 213), (some (212, true)), .mv (.s 4)⟩,
     ⟨(some 214), (some (212, true)), .bin .eql (.s 213) (.c (V.int .i64 1))⟩,
     ⟨(some 215), none, .pick (.s 212) (.s 214) (.c (V.bool false))⟩,
     ⟨(some 216), none, .mv (.s 215)⟩,
     ⟨(some 217), (some (216, true)), .mv (.s 6)⟩,
     ⟨(some 218), none, .pick (.s 216) (.s 217) (.c (V.bool false))⟩,
     ⟨(some 219), none, .mv (.s 218)⟩,
     ⟨(some 220), (some (219, true)), .mv (.s 5)⟩,
     ⟨(some 221), (some (219, true)), .bin .eql (.s 220) (.c (V.int .i64 0))⟩,
     ⟨(some 222), none, .pick (.s 219) (.s 221) (.c (V.bool false))⟩,
     ⟨(some 223), none, .mv (.s 222)⟩,
     ⟨(some 224), (some (223, true)), .mv (.s 8)⟩,
     ⟨(some 225), (some (223, true)), .un .not (.s 224)⟩,
     ⟨(some 226), none, .pick (.s 223) (.s 225) (.c (V.bool false))⟩,
     ⟨(some 227), none, .mv (.s 226)⟩,
     ⟨(some 228), (some (227, true)), .faddr 1 (.s 11)⟩,
     ⟨(some 229), (some (227, true)), .load none (.s 228)⟩,
     ⟨(some 230), (some (227, true)), .bin .eql (.s 229) (.c (V.int .i64 0))⟩,
     ⟨(some 231), none, .pick (.s 227) (.s 230) (.c (V.bool false))⟩,
     ⟨(some 232), none, .mv (.s 231)⟩,
     ⟨(some 233), (some (232, true)), .faddr 1 (.s 15)⟩,
     ⟨(some 234), (some (232, true)), .load none (.s 233)⟩,
     ⟨(some 235), (some (232, true)), .bin .eql (.s 234) (.c (V.int .i64 0))⟩,
     ⟨(some 236), none, .pick (.s 232) (.s 235) (.c (V.bool false))⟩,
     ⟨(some 237), none, .mv (.s 236)⟩,
     ⟨(some 238), (some (237, true)), .faddr 1 (.s 17)⟩,
     ⟨(some 239), (some (237, true)), .load none (.s 238)⟩,
     ⟨(some 240), (some (237, true)), .bin .eql (.s 239) (.c (V.int .i64 6))⟩,
     ⟨(some 241), none, .pick (.s 237) (.s 240) (.c (V.bool false))⟩,
     ⟨(some 242), none, .mv (.s 241)⟩,
     ⟨(some 243), (some (242, true)), .mv (.s 19)⟩,
     ⟨(some 244), (some (242, true)), .bin .eql (.s 243) (.c (V.int .i64 0))⟩,
     ⟨(some 245), none, .pick (.s 242) (.s 244) (.c (V.bool false))⟩,
     ⟨(some 246), none, .mv (.s 245)⟩,
     ⟨(some 247), (some (246, true)), .faddr 1 (.s 20)⟩,
     ⟨(some 248), (some (246, true)), .load none (.s 247)⟩,
     ⟨(some 249), (some (246, true)), .bin .eql (.s 248) (.c (V.int .i64 4))⟩,
     ⟨(some 250), none, .pick (.s 246) (.s 249) (.c (V.bool false))⟩,
     ⟨(some 251), none, .mv (.s 250)⟩,
     ⟨(some 252), (some (251, true)), .faddr 1 (.s 22)⟩,
     ⟨(some 253), (some (251, true)), .load none (.s 252)⟩,
     ⟨(some 254), (some (251, true)), .bin .eql (.s 253) (.c (V.int .i64 3))⟩,
     ⟨(some 255), none, .pick (.s 251) (.s 254) (.c (V.bool false))⟩,
     ⟨(some 256), none, .mv (.s 255)⟩,
     ⟨(some 257), (some (256, true)), .faddr 1 (.s 24)⟩,
     ⟨(some 258), (some (256, true)), .load none (.s 257)⟩,
     ⟨(some 259), (some (256, true)), .bin .eql (.s 258) (.c (V.int .i64 5))⟩,
     ⟨(some 260), none, .pick (.s 256) (.s 259) (.c (V.bool false))⟩,
     ⟨(some 261), none, .mv (.s 260)⟩,
     ⟨(some 262), (some (261, true)), .faddr 2 (.s 24)⟩,
     ⟨(some 263), (some (261, true)), .load none (.s 262)⟩,
     ⟨(some 264), none, .pick (.s 261) (.s 263) (.c (V.bool false))⟩,
     ⟨(some 265), none, .mv (.s 264)⟩,
     ⟨(some 266), (some (265, true)), .faddr 1 (.s 26)⟩,
     ⟨(some 267), (some (265, true)), .load none (.s 266)⟩,
     ⟨(some 268), (some (265, true)), .bin .eql (.s 267) (.c (V.int .i64 2))⟩,
     ⟨(some 269), none, .pick (.s 265) (.s 268) (.c (V.bool false))⟩,
     ⟨(some 270), none, .mv (.s 269)⟩,
     ⟨(some 271), (some (270, true)), .faddr 2 (.s 26)⟩,
     ⟨(some 272), (some (270, true)), .load none (.s 271)⟩,
     ⟨(some 273), (some (270, true)), .un .not (.s 272)⟩,
     ⟨(some 274), none, .pick (.s 270) (.s 273) (.c (V.bool false))⟩,
     ⟨(some 275), none, .mv (.s 274)⟩,
     ⟨(some 276), (some (275, true)), .mv (.s 29)⟩,
     ⟨(some 277), (some (275, true)), .bin .eql (.s 276) (.c (V.int .i64 1))⟩,
     ⟨(some 278), none, .pick (.s 275) (.s 277) (.c (V.bool false))⟩,
     ⟨(some 279), none, .mv (.s 278)⟩,
     ⟨(some 280), (some (279, true)), .mv (.s 31)⟩,
     ⟨(some 281), (some (279, true)), .bin .eql (.s 280) (.c (V.int .i64 1))⟩,
     ⟨(some 282), none, .pick (.s 279) (.s 281) (.c (V.bool false))⟩,
     ⟨(some 283), none, .mv (.s 282)⟩,
     ⟨(some 284), (some (283, true)), .mv (.s 33)⟩,
     ⟨(some 285), (some (283, true)), .bin .eql (.s 284) (.c (V.int .i64 1))⟩,
     ⟨(some 286), none, .pick (.s 283) (.s 285) (.c (V.bool false))⟩,
     ⟨(some 287), none, .mv (.s 286)⟩,
     ⟨(some 288), (some (287, true)), .faddr 1 (.s 34)⟩,
     ⟨(some 289), (some (287, true)), .load none (.s 288)⟩,
     ⟨(some 290), (some (287, true)), .bin .eql (.s 289) (.c (V.int .i64 0))⟩,
     ⟨(some 291), none, .pick (.s 287) (.s 290) (.c (V.bool false))⟩,
     ⟨(some 292), none, .mv (.s 291)⟩,
     ⟨(some 293), (some (292, true)), .mv (.s 37)⟩,
     ⟨(some 294), none, .pick (.s 292) (.s 293) (.c (V.bool false))⟩,
     ⟨(some 295), none, .mv (.s 294)⟩,
     ⟨(some 296), (some (295, true)), .mv (.s 36)⟩,
     ⟨(some 297), (some (295, true)), .bin .eql (.s 296) (.c (V.int .i64 0))⟩,
     ⟨(some 298), none, .pick (.s 295) (.s 297) (.c (V.bool false))⟩,
     ⟨(some 299), none, .mv (.s 298)⟩,
     ⟨(some 300), (some (299, true)), .faddr 2 (.s 38)⟩,
     ⟨(some 301), (some (299, true)), .load none (.s 300)⟩,
     ⟨(some 302), (some (299, true)), .bin .eql (.s 301) (.c (V.int .u16 2))⟩,
     ⟨(some 303), none, .pick (.s 299) (.s 302) (.c (V.bool false))⟩,
     ⟨(some 304), none, .mv (.s 303)⟩,
     ⟨(some 305), (some (304, true)), .faddr 4 (.s 38)⟩,
     ⟨(some 306), (some (304, true)), .load none (.s 305)⟩,
     ⟨(some 307), (some (304, true)), .bin .eql (.s 306) (.c (V.int .u32 9))⟩,
     ⟨(some 308), none, .pick (.s 304) (.s 307) (.c (V.bool false))⟩,
     ⟨(some 0), none, .mv (.s 308)⟩]
   (.ret))))))))))))))))))))))))))))⟩

noncomputable def f_palanquinlaw25_LaneKnown (G : Sem') : M Res :=
  (G fn_lane_New [(V.int .u32 9)]).bind fun t40 =>
  (G fn_palanquinlaw25_awake []).bind fun t41 =>
  (M.lift (Ax.un .not t41)).bind fun t42 =>
  (guarded [(0, t42)] (some (0, false)) (M.pure t40)).bind fun t44 =>
  (guarded [(0, t42)] (some (0, false)) (M.lift (eqr .ptr false t44 V.nilp))).bind fun t45 =>
  (M.lift (Ax.pick t42 (V.bool true) t45)).bind fun t46 =>
  M.ite t46
    (M.pure (.ret [(V.bool false)]))
    ((G fn_lane_Lane_Ask [t40, (V.int .i64 3)]).bind fun t48 =>
    (G fn_lane_Lane_Limit [t40, (V.int .i64 4), (V.int .i64 0)]).bind fun t50 =>
    (G fn_lane_Lane_Limit [t40, (V.int .i64 0), (V.int .i64 8)]).bind fun t52 =>
    (G fn_lane_Lane_Lacks [t40]).bind fun t55 =>
    (M.lift (Ax.ext 0 t55)).bind fun t56 =>
    (M.lift (Ax.ext 1 t55)).bind fun t57 =>
    (G fn_lane_Lane_Runs [t40]).bind fun t60 =>
    (M.lift (Ax.ext 0 t60)).bind fun t61 =>
    (M.lift (Ax.ext 1 t60)).bind fun t62 =>
    (M.lift (Ax.build [(V.bool false), (V.bool false), (V.int .i64 0), (V.int .u16 0), (V.bool false), (V.int .i64 0), (V.int .i64 0), V.nils, (V.int .i64 0), V.nils, V.nils, (V.bool false), (V.int .u32 0), (V.bool false), (V.bool false), (V.bool false), V.nils, V.nils, V.nils] [(0, 1, (V.bool true)), (4, 1, (V.bool true)), (3, 1, (V.int .u16 10))])).bind fun t64 =>
    (mslit ty_uint8 1 [(V.int .u8 0)] [(0, 1, (V.int .u8 107))]).bind fun t65 =>
    (mremark ty_uint8 t65).bind fun t66 =>
    (G fn_palanquinlaw25_packet [t64, (V.int .u16 0), t66]).bind fun t67 =>
    (M.lift (Ax.ext 0 t67)).bind fun t68 =>
    (M.lift (Ax.ext 1 t67)).bind fun t69 =>
    (mbox ty_rtp_Packet (V.agg [(V.bool false), (V.int .i64 0), (V.int .u16 0), (V.int .u32 0), (V.int .u32 0), V.nils, (V.int .i64 0), V.nils, (V.int .i64 0), V.nils])).bind fun t9 =>
    (mbox ty_depend_Frame (V.agg [(V.bool false), (V.bool false), (V.int .i64 0), (V.int .u16 0), (V.bool false), (V.int .i64 0), (V.int .i64 0), V.nils, (V.int .i64 0), V.nils, V.nils, (V.bool false), (V.int .u32 0), (V.bool false), (V.bool false), (V.bool false), V.nils, V.nils, V.nils])).bind fun t10 =>
    (mstore 10 t9 t68).bind fun _ =>
    (mstore 19 t10 t69).bind fun _ =>
    (mload (some 10) t9).bind fun t72 =>
    (mload (some 19) t10).bind fun t73 =>
    M.getH.bind fun h0 =>
    (G fn_palanquinlaw25_plain []).bind fun t74 =>
    M.getH.bind fun h0' =>
    (M.unch t10 h0 h0').bind fun _ =>
    (M.unch t9 h0 h0').bind fun _ =>
    (G fn_lane_Lane_Media [t40, (V.int .i64 0), t72, t73, t74, (V.int .u32 3), (V.int .i64 0)]).bind fun t75 =>
    (M.lift (Ax.ext 0 t75)).bind fun t76 =>
    (mbox ty_lane_Out (V.agg [V.nils, (V.int .i64 0), (V.bool false)])).bind fun t11 =>
    (mstore 3 t11 t76).bind fun _ =>
    (M.lift (Ax.ext 1 t75)).bind fun t77 =>
    (M.lift (Ax.build [(V.bool false), (V.bool false), (V.int .i64 0), (V.int .u16 0), (V.bool false), (V.int .i64 0), (V.int .i64 0), V.nils, (V.int .i64 0), V.nils, V.nils, (V.bool false), (V.int .u32 0), (V.bool false), (V.bool false), (V.bool false), V.nils, V.nils, V.nils] [(3, 1, (V.int .u16 10))])).bind fun t79 =>
    (mslit ty_uint8 1 [(V.int .u8 0)] [(0, 1, (V.int .u8 109))]).bind fun t80 =>
    (mremark ty_uint8 t80).bind fun t81 =>
    (G fn_palanquinlaw25_packet [t79, (V.int .u16 1), t81]).bind fun t82 =>
    (M.lift (Ax.ext 0 t82)).bind fun t83 =>
    (M.lift (Ax.ext 1 t82)).bind fun t84 =>
    (mbox ty_rtp_Packet (V.agg [(V.bool false), (V.int .i64 0), (V.int .u16 0), (V.int .u32 0), (V.int .u32 0), V.nils, (V.int .i64 0), V.nils, (V.int .i64 0), V.nils])).bind fun t13 =>
    (mbox ty_depend_Frame (V.agg [(V.bool false), (V.bool false), (V.int .i64 0), (V.int .u16 0), (V.bool false), (V.int .i64 0), (V.int .i64 0), V.nils, (V.int .i64 0), V.nils, V.nils, (V.bool false), (V.int .u32 0), (V.bool false), (V.bool false), (V.bool false), V.nils, V.nils, V.nils])).bind fun t14 =>
    (mstore 10 t13 t83).bind fun _ =>
    (mstore 19 t14 t84).bind fun _ =>
    (mload (some 10) t13).bind fun t87 =>
    (mload (some 19) t14).bind fun t88 =>
    M.getH.bind fun h1 =>
    (G fn_palanquinlaw25_plain []).bind fun t89 =>
    M.getH.bind fun h1' =>
    (M.unch t14 h1 h1').bind fun _ =>
    (M.unch t13 h1 h1').bind fun _ =>
    (G fn_lane_Lane_Media [t40, (V.int .i64 0), t87, t88, t89, (V.int .u32 3), (V.int .i64 0)]).bind fun t90 =>
    (M.lift (Ax.ext 0 t90)).bind fun t91 =>
    (mbox ty_lane_Out (V.agg [V.nils, (V.int .i64 0), (V.bool false)])).bind fun t15 =>
    (mstore 3 t15 t91).bind fun _ =>
    (M.lift (Ax.ext 1 t90)).bind fun t92 =>
    (M.lift (Ax.build [(V.bool false), (V.bool false), (V.int .i64 0), (V.int .u16 0), (V.bool false), (V.int .i64 0), (V.int .i64 0), V.nils, (V.int .i64 0), V.nils, V.nils, (V.bool false), (V.int .u32 0), (V.bool false), (V.bool false), (V.bool false), V.nils, V.nils, V.nils] [(3, 1, (V.int .u16 11)), (2, 1, (V.int .i64 2))])).bind fun t94 =>
    (mslit ty_uint8 1 [(V.int .u8 0)] [(0, 1, (V.int .u8 109))]).bind fun t95 =>
    (mremark ty_uint8 t95).bind fun t96 =>
    (G fn_palanquinlaw25_packet [t94, (V.int .u16 2), t96]).bind fun t97 =>
    (M.lift (Ax.ext 0 t97)).bind fun t98 =>
    (M.lift (Ax.ext 1 t97)).bind fun t99 =>
    (mstore 10 t13 t98).bind fun _ =>
    (mstore 19 t14 t99).bind fun _ =>
    (mload (some 10) t13).bind fun t102 =>
    (mload (some 19) t14).bind fun t103 =>
    M.getH.bind fun h2 =>
    (G fn_palanquinlaw25_plain []).bind fun t104 =>
    M.getH.bind fun h2' =>
    (M.unch t14 h2 h2').bind fun _ =>
    (M.unch t13 h2 h2').bind fun _ =>
    (G fn_lane_Lane_Media [t40, (V.int .i64 0), t102, t103, t104, (V.int .u32 3), (V.int .i64 0)]).bind fun t105 =>
    (M.lift (Ax.ext 0 t105)).bind fun t106 =>
    (mbox ty_lane_Out (V.agg [V.nils, (V.int .i64 0), (V.bool false)])).bind fun t17 =>
    (mstore 3 t17 t106).bind fun _ =>
    (M.lift (Ax.ext 1 t105)).bind fun t107 =>
    (G fn_lane_Lane_Limit [t40, (V.int .i64 0), (V.int .i64 0)]).bind fun t109 =>
    (M.lift (Ax.build [(V.bool false), (V.bool false), (V.int .i64 0), (V.int .u16 0), (V.bool false), (V.int .i64 0), (V.int .i64 0), V.nils, (V.int .i64 0), V.nils, V.nils, (V.bool false), (V.int .u32 0), (V.bool false), (V.bool false), (V.bool false), V.nils, V.nils, V.nils] [(3, 1, (V.int .u16 11)), (2, 1, (V.int .i64 2)), (0, 1, (V.bool true))])).bind fun t111 =>
    (mslit ty_uint8 1 [(V.int .u8 0)] [(0, 1, (V.int .u8 109))]).bind fun t112 =>
    (mremark ty_uint8 t112).bind fun t113 =>
    (G fn_palanquinlaw25_packet [t111, (V.int .u16 3), t113]).bind fun t114 =>
    (M.lift (Ax.ext 0 t114)).bind fun t115 =>
    (M.lift (Ax.ext 1 t114)).bind fun t116 =>
    (mstore 10 t13 t115).bind fun _ =>
    (mstore 19 t14 t116).bind fun _ =>
    (mload (some 10) t13).bind fun t119 =>
    (mload (some 19) t14).bind fun t120 =>
    M.getH.bind fun h3 =>
    (G fn_palanquinlaw25_plain []).bind fun t121 =>
    M.getH.bind fun h3' =>
    (M.unch t14 h3 h3').bind fun _ =>
    (M.unch t13 h3 h3').bind fun _ =>
    (G fn_lane_Lane_Media [t40, (V.int .i64 0), t119, t120, t121, (V.int .u32 3), (V.int .i64 0)]).bind fun t122 =>
    (M.lift (Ax.ext 0 t122)).bind fun t123 =>
    (mbox ty_lane_Out (V.agg [V.nils, (V.int .i64 0), (V.bool false)])).bind fun t20 =>
    (mstore 3 t20 t123).bind fun _ =>
    (M.lift (Ax.ext 1 t122)).bind fun t124 =>
    (mload (some 10) t13).bind fun t127 =>
    (mload (some 19) t14).bind fun t128 =>
    M.getH.bind fun h4 =>
    (G fn_palanquinlaw25_plain []).bind fun t129 =>
    M.getH.bind fun h4' =>
    (M.unch t14 h4 h4').bind fun _ =>
    (M.unch t13 h4 h4').bind fun _ =>
    (G fn_lane_Lane_Media [t40, (V.int .i64 0), t127, t128, t129, (V.int .u32 0), (V.int .i64 0)]).bind fun t130 =>
    (M.lift (Ax.ext 0 t130)).bind fun t131 =>
    (mbox ty_lane_Out (V.agg [V.nils, (V.int .i64 0), (V.bool false)])).bind fun t22 =>
    (mstore 3 t22 t131).bind fun _ =>
    (M.lift (Ax.ext 1 t130)).bind fun t132 =>
    (M.lift (Ax.build [(V.bool false), (V.bool false), (V.int .i64 0), (V.int .u16 0), (V.bool false), (V.int .i64 0), (V.int .i64 0), V.nils, (V.int .i64 0), V.nils, V.nils, (V.bool false), (V.int .u32 0), (V.bool false), (V.bool false), (V.bool false), V.nils, V.nils, V.nils] [(3, 1, (V.int .u16 14)), (2, 1, (V.int .i64 1)), (0, 1, (V.bool true))])).bind fun t134 =>
    (mslit ty_uint8 1 [(V.int .u8 0)] [(0, 1, (V.int .u8 109))]).bind fun t135 =>
    (mremark ty_uint8 t135).bind fun t136 =>
    (G fn_palanquinlaw25_packet [t134, (V.int .u16 4), t136]).bind fun t137 =>
    (M.lift (Ax.ext 0 t137)).bind fun t138 =>
    (M.lift (Ax.ext 1 t137)).bind fun t139 =>
    (mstore 10 t13 t138).bind fun _ =>
    (mstore 19 t14 t139).bind fun _ =>
    (mload (some 10) t13).bind fun t142 =>
    (mload (some 19) t14).bind fun t143 =>
    M.getH.bind fun h5 =>
    (G fn_palanquinlaw25_plain []).bind fun t144 =>
    M.getH.bind fun h5' =>
    (M.unch t14 h5 h5').bind fun _ =>
    (M.unch t13 h5 h5').bind fun _ =>
    (G fn_lane_Lane_Media [t40, (V.int .i64 0), t142, t143, t144, (V.int .u32 3), (V.int .i64 0)]).bind fun t145 =>
    (M.lift (Ax.ext 0 t145)).bind fun t146 =>
    (mbox ty_lane_Out (V.agg [V.nils, (V.int .i64 0), (V.bool false)])).bind fun t24 =>
    (mstore 3 t24 t146).bind fun _ =>
    (M.lift (Ax.ext 1 t145)).bind fun t147 =>
    (M.lift (Ax.build [(V.bool false), (V.bool false), (V.int .i64 0), (V.int .u16 0), (V.bool false), (V.int .i64 0), (V.int .i64 0), V.nils, (V.int .i64 0), V.nils, V.nils, (V.bool false), (V.int .u32 0), (V.bool false), (V.bool false), (V.bool false), V.nils, V.nils, V.nils] [(3, 1, (V.int .u16 12)), (2, 1, (V.int .i64 1)), (0, 1, (V.bool true))])).bind fun t149 =>
    (mslit ty_uint8 1 [(V.int .u8 0)] [(0, 1, (V.int .u8 109))]).bind fun t150 =>
    (mremark ty_uint8 t150).bind fun t151 =>
    (G fn_palanquinlaw25_packet [t149, (V.int .u16 5), t151]).bind fun t152 =>
    (M.lift (Ax.ext 0 t152)).bind fun t153 =>
    (M.lift (Ax.ext 1 t152)).bind fun t154 =>
    (mstore 10 t13 t153).bind fun _ =>
    (mstore 19 t14 t154).bind fun _ =>
    (mload (some 10) t13).bind fun t157 =>
    (mload (some 19) t14).bind fun t158 =>
    M.getH.bind fun h6 =>
    (G fn_palanquinlaw25_plain []).bind fun t159 =>
    M.getH.bind fun h6' =>
    (M.unch t14 h6 h6').bind fun _ =>
    (M.unch t13 h6 h6').bind fun _ =>
    (G fn_lane_Lane_Media [t40, (V.int .i64 0), t157, t158, t159, (V.int .u32 3), (V.int .i64 0)]).bind fun t160 =>
    (M.lift (Ax.ext 0 t160)).bind fun t161 =>
    (mbox ty_lane_Out (V.agg [V.nils, (V.int .i64 0), (V.bool false)])).bind fun t26 =>
    (mstore 3 t26 t161).bind fun _ =>
    (M.lift (Ax.ext 1 t160)).bind fun t162 =>
    (mload (some 10) t13).bind fun t165 =>
    (mload (some 19) t14).bind fun t166 =>
    M.getH.bind fun h7 =>
    (G fn_palanquinlaw25_plain []).bind fun t167 =>
    M.getH.bind fun h7' =>
    (M.unch t14 h7 h7').bind fun _ =>
    (M.unch t13 h7 h7').bind fun _ =>
    (G fn_lane_Lane_Media [t40, (V.int .i64 3), t165, t166, t167, (V.int .u32 3), (V.int .i64 0)]).bind fun t168 =>
    (M.lift (Ax.ext 0 t168)).bind fun t169 =>
    (mbox ty_lane_Out (V.agg [V.nils, (V.int .i64 0), (V.bool false)])).bind fun t28 =>
    (mstore 3 t28 t169).bind fun _ =>
    (M.lift (Ax.ext 1 t168)).bind fun t170 =>
    (M.lift (Ax.build [(V.bool false), (V.int .i64 0), (V.int .u16 0), (V.int .u32 0), (V.int .u32 0), V.nils, (V.int .i64 0), V.nils, (V.int .i64 0), V.nils] [])).bind fun t173 =>
    (mload (some 19) t14).bind fun t174 =>
    M.getH.bind fun h8 =>
    (G fn_palanquinlaw25_plain []).bind fun t175 =>
    M.getH.bind fun h8' =>
    (M.unch t14 h8 h8').bind fun _ =>
    (G fn_lane_Lane_Media [t40, (V.int .i64 0), t173, t174, t175, (V.int .u32 3), (V.int .i64 0)]).bind fun t176 =>
    (M.lift (Ax.ext 0 t176)).bind fun t177 =>
    (mbox ty_lane_Out (V.agg [V.nils, (V.int .i64 0), (V.bool false)])).bind fun t30 =>
    (mstore 3 t30 t177).bind fun _ =>
    (M.lift (Ax.ext 1 t176)).bind fun t178 =>
    (mload (some 10) t13).bind fun t181 =>
    (M.lift (Ax.build [(V.bool false), (V.bool false), (V.int .i64 0), (V.int .u16 0), (V.bool false), (V.int .i64 0), (V.int .i64 0), V.nils, (V.int .i64 0), V.nils, V.nils, (V.bool false), (V.int .u32 0), (V.bool false), (V.bool false), (V.bool false), V.nils, V.nils, V.nils] [(2, 1, (V.int .i64 9))])).bind fun t182 =>
    M.getH.bind fun h9 =>
    (G fn_palanquinlaw25_plain []).bind fun t183 =>
    M.getH.bind fun h9' =>
    (M.unch t13 h9 h9').bind fun _ =>
    (G fn_lane_Lane_Media [t40, (V.int .i64 0), t181, t182, t183, (V.int .u32 3), (V.int .i64 0)]).bind fun t184 =>
    (M.lift (Ax.ext 0 t184)).bind fun t185 =>
    (mbox ty_lane_Out (V.agg [V.nils, (V.int .i64 0), (V.bool false)])).bind fun t32 =>
    (mstore 3 t32 t185).bind fun _ =>
    (M.lift (Ax.ext 1 t184)).bind fun t186 =>
    (mload (some 10) t9).bind fun t189 =>
    (mload (some 19) t10).bind fun t190 =>
    M.getH.bind fun h10 =>
    (G fn_palanquinlaw25_plain []).bind fun t191 =>
    M.getH.bind fun h10' =>
    (M.unch t10 h10 h10').bind fun _ =>
    (M.unch t9 h10 h10').bind fun _ =>
    (G fn_lane_Lane_Media [t40, (V.int .i64 0), t189, t190, t191, (V.int .u32 3), (V.int .i64 0)]).bind fun t192 =>
    (M.lift (Ax.ext 0 t192)).bind fun t193 =>
    (mbox ty_lane_Out (V.agg [V.nils, (V.int .i64 0), (V.bool false)])).bind fun t34 =>
    (mstore 3 t34 t193).bind fun _ =>
    (M.lift (Ax.ext 1 t192)).bind fun t194 =>
    (G fn_lane_Lane_Runs [t40]).bind fun t197 =>
    (M.lift (Ax.ext 0 t197)).bind fun t198 =>
    (M.lift (Ax.ext 1 t197)).bind fun t199 =>
    (M.lift (Ax.faddr 0 t34)).bind fun t201 =>
    (mload none t201).bind fun t202 =>
    (G fn_rtp_Parse [t202]).bind fun t203 =>
    (M.lift (Ax.ext 0 t203)).bind fun t204 =>
    (M.lift (Ax.ext 1 t203)).bind fun t205 =>
    (mbox ty_rtp_Packet (V.agg [(V.bool false), (V.int .i64 0), (V.int .u16 0), (V.int .u32 0), (V.int .u32 0), V.nils, (V.int .i64 0), V.nils, (V.int .i64 0), V.nils])).bind fun t38 =>
    (mstore 10 t38 t204).bind fun _ =>
    (M.lift (Ax.bin .eql t48 (V.int .i64 1))).bind fun t207 =>
    (guarded [(0, t207)] (some (0, true)) (M.pure t50)).bind fun t209 =>
    (guarded [(0, t207)] (some (0, true)) (M.lift (Ax.bin .eql t209 (V.int .i64 1)))).bind fun t210 =>
    (M.lift (Ax.pick t207 t210 (V.bool false))).bind fun t211 =>
    (guarded [(0, t211)] (some (0, true)) (M.pure t52)).bind fun t213 =>
    (guarded [(0, t211)] (some (0, true)) (M.lift (Ax.bin .eql t213 (V.int .i64 1)))).bind fun t214 =>
    (M.lift (Ax.pick t211 t214 (V.bool false))).bind fun t215 =>
    (guarded [(0, t215)] (some (0, true)) (M.pure t57)).bind fun t217 =>
    (M.lift (Ax.pick t215 t217 (V.bool false))).bind fun t218 =>
    (guarded [(0, t218)] (some (0, true)) (M.pure t56)).bind fun t220 =>
    (guarded [(0, t218)] (some (0, true)) (M.lift (Ax.bin .eql t220 (V.int .i64 0)))).bind fun t221 =>
    (M.lift (Ax.pick t218 t221 (V.bool false))).bind fun t222 =>
    (guarded [(0, t222)] (some (0, true)) (M.pure t62)).bind fun t224 =>
    (guarded [(0, t222)] (some (0, true)) (M.lift (Ax.un .not t224))).bind fun t225 =>
    (M.lift (Ax.pick t222 t225 (V.bool false))).bind fun t226 =>
    (guarded [(0, t226)] (some (0, true)) (M.lift (Ax.faddr 1 t11))).bind fun t228 =>
    (guarded [(0, t226)] (some (0, true)) (mload none t228)).bind fun t229 =>
    (guarded [(0, t226)] (some (0, true)) (M.lift (Ax.bin .eql t229 (V.int .i64 0)))).bind fun t230 =>
    (M.lift (Ax.pick t226 t230 (V.bool false))).bind fun t231 =>
    (guarded [(0, t231)] (some (0, true)) (M.lift (Ax.faddr 1 t15))).bind fun t233 =>
    (guarded [(0, t231)] (some (0, true)) (mload none t233)).bind fun t234 =>
    (guarded [(0, t231)] (some (0, true)) (M.lift (Ax.bin .eql t234 (V.int .i64 0)))).bind fun t235 =>
    (M.lift (Ax.pick t231 t235 (V.bool false))).bind fun t236 =>
    (guarded [(0, t236)] (some (0, true)) (M.lift (Ax.faddr 1 t17))).bind fun t238 =>
    (guarded [(0, t236)] (some (0, true)) (mload none t238)).bind fun t239 =>
    (guarded [(0, t236)] (some (0, true)) (M.lift (Ax.bin .eql t239 (V.int .i64 6)))).bind fun t240 =>
    (M.lift (Ax.pick t236 t240 (V.bool false))).bind fun t241 =>
    (guarded [(0, t241)] (some (0, true)) (M.pure t109)).bind fun t243 =>
    (guarded [(0, t241)] (some (0, true)) (M.lift (Ax.bin .eql t243 (V.int .i64 0)))).bind fun t244 =>
    (M.lift (Ax.pick t241 t244 (V.bool false))).bind fun t245 =>
    (guarded [(0, t245)] (some (0, true)) (M.lift (Ax.faddr 1 t20))).bind fun t247 =>
    (guarded [(0, t245)] (some (0, true)) (mload none t247)).bind fun t248 =>
    (guarded [(0, t245)] (some (0, true)) (M.lift (Ax.bin .eql t248 (V.int .i64 4)))).bind fun t249 =>
    (M.lift (Ax.pick t245 t249 (V.bool false))).bind fun t250 =>
    (guarded [(0, t250)] (some (0, true)) (M.lift (Ax.faddr 1 t22))).bind fun t252 =>
    (guarded [(0, t250)] (some (0, true)) (mload none t252)).bind fun t253 =>
    (guarded [(0, t250)] (some (0, true)) (M.lift (Ax.bin .eql t253 (V.int .i64 3)))).bind fun t254 =>
    (M.lift (Ax.pick t250 t254 (V.bool false))).bind fun t255 =>
    (guarded [(0, t255)] (some (0, true)) (M.lift (Ax.faddr 1 t24))).bind fun t257 =>
    (guarded [(0, t255)] (some (0, true)) (mload none t257)).bind fun t258 =>
    (guarded [(0, t255)] (some (0, true)) (M.lift (Ax.bin .eql t258 (V.int .i64 5)))).bind fun t259 =>
    (M.lift (Ax.pick t255 t259 (V.bool false))).bind fun t260 =>
    (guarded [(0, t260)] (some (0, true)) (M.lift (Ax.faddr 2 t24))).bind fun t262 =>
    (guarded [(0, t260)] (some (0, true)) (mload none t262)).bind fun t263 =>
    (M.lift (Ax.pick t260 t263 (V.bool false))).bind fun t264 =>
    (guarded [(0, t264)] (some (0, true)) (M.lift (Ax.faddr 1 t26))).bind fun t266 =>
    (guarded [(0, t264)] (some (0, true)) (mload none t266)).bind fun t267 =>
    (guarded [(0, t264)] (some (0, true)) (M.lift (Ax.bin .eql t267 (V.int .i64 2)))).bind fun t268 =>
    (M.lift (Ax.pick t264 t268 (V.bool false))).bind fun t269 =>
    (guarded [(0, t269)] (some (0, true)) (M.lift (Ax.faddr 2 t26))).bind fun t271 =>
    (guarded [(0, t269)] (some (0, true)) (mload none t271)).bind fun t272 =>
    (guarded [(0, t269)] (some (0, true)) (M.lift (Ax.un .not t272))).bind fun t273 =>
    (M.lift (Ax.pick t269 t273 (V.bool false))).bind fun t274 =>
    (guarded [(0, t274)] (some (0, true)) (M.pure t170)).bind fun t276 =>
    (guarded [(0, t274)] (some (0, true)) (M.lift (Ax.bin .eql t276 (V.int .i64 1)))).bind fun t277 =>
    (M.lift (Ax.pick t274 t277 (V.bool false))).bind fun t278 =>
    (guarded [(0, t278)] (some (0, true)) (M.pure t178)).bind fun t280 =>
    (guarded [(0, t278)] (some (0, true)) (M.lift (Ax.bin .eql t280 (V.int .i64 1)))).bind fun t281 =>
    (M.lift (Ax.pick t278 t281 (V.bool false))).bind fun t282 =>
    (guarded [(0, t282)] (some (0, true)) (M.pure t186)).bind fun t284 =>
    (guarded [(0, t282)] (some (0, true)) (M.lift (Ax.bin .eql t284 (V.int .i64 1)))).bind fun t285 =>
    (M.lift (Ax.pick t282 t285 (V.bool false))).bind fun t286 =>
    (guarded [(0, t286)] (some (0, true)) (M.lift (Ax.faddr 1 t34))).bind fun t288 =>
    (guarded [(0, t286)] (some (0, true)) (mload none t288)).bind fun t289 =>
    (guarded [(0, t286)] (some (0, true)) (M.lift (Ax.bin .eql t289 (V.int .i64 0)))).bind fun t290 =>
    (M.lift (Ax.pick t286 t290 (V.bool false))).bind fun t291 =>
    (guarded [(0, t291)] (some (0, true)) (M.pure t199)).bind fun t293 =>
    (M.lift (Ax.pick t291 t293 (V.bool false))).bind fun t294 =>
    (guarded [(0, t294)] (some (0, true)) (M.pure t198)).bind fun t296 =>
    (guarded [(0, t294)] (some (0, true)) (M.lift (Ax.bin .eql t296 (V.int .i64 0)))).bind fun t297 =>
    (M.lift (Ax.pick t294 t297 (V.bool false))).bind fun t298 =>
    (guarded [(0, t298)] (some (0, true)) (M.lift (Ax.faddr 2 t38))).bind fun t300 =>
    (guarded [(0, t298)] (some (0, true)) (mload none t300)).bind fun t301 =>
    (guarded [(0, t298)] (some (0, true)) (M.lift (Ax.bin .eql t301 (V.int .u16 2)))).bind fun t302 =>
    (M.lift (Ax.pick t298 t302 (V.bool false))).bind fun t303 =>
    (guarded [(0, t303)] (some (0, true)) (M.lift (Ax.faddr 4 t38))).bind fun t305 =>
    (guarded [(0, t303)] (some (0, true)) (mload none t305)).bind fun t306 =>
    (guarded [(0, t303)] (some (0, true)) (M.lift (Ax.bin .eql t306 (V.int .u32 9)))).bind fun t307 =>
    (M.lift (Ax.pick t303 t307 (V.bool false))).bind fun t308 =>
    M.pure (.ret [t308]))

theorem eq_palanquinlaw25_LaneKnown (G : Sem') : execK G ir_palanquinlaw25_LaneKnown.rv ir_palanquinlaw25_LaneKnown.body [] [] (params 0 []) = f_palanquinlaw25_LaneKnown G := by kernel_rfl

theorem tb_palanquinlaw25_LaneKnown : T fn_palanquinlaw25_LaneKnown = some ir_palanquinlaw25_LaneKnown := by kernel_rfl

theorem ok_palanquinlaw25_LaneKnown {H : Heap} {Q : V → Heap → Prop} (h : Ok (f_palanquinlaw25_LaneKnown (sem T)) H fun r H' => ∃ L, r = .ret L ∧ Q (tupled L) H') : Ok (sem T fn_palanquinlaw25_LaneKnown []) H Q :=
  ok_sem tb_palanquinlaw25_LaneKnown (Nat.le_of_ble_eq_true rfl) (eq_palanquinlaw25_LaneKnown (sem T)) h

/-- palanquin/lane.New. -/
def ir_lane_New : Fn' := ⟨7, [.tmp 2],
  .ops [⟨(some 2), none, .mv (.c V.nilp)⟩]
  (.ops [⟨(some 3), none, .mv (.s 0)⟩,
    ⟨(some 4), none, .call fn_ring_New []⟩,
    ⟨(some 5), none, .build [(V.int .u32 0), (V.int .i64 0), (V.int .i64 0), (V.bool false), (V.int .i64 0), (V.int .i64 0), (V.bool false), (V.int .u16 0), (V.int .u32 0), (V.int .u32 0), (V.int .u16 0), (V.int .u16 0), (V.int .i64 0), V.nils, V.nilp, (V.bool false)] [(0, 1, (.s 3)), (1, 1, (.c (V.int .i64 3))), (2, 1, (.c (V.int .i64 7))), (14, 1, (.s 4))]⟩,
    ⟨(some 6), none, .box ty_lane_Lane (.s 5)⟩,
    ⟨(some 2), none, .mv (.s 6)⟩]
  (.ret))⟩

noncomputable def f_lane_New (G : Sem') (t0 : V) : M Res :=
  (G fn_ring_New []).bind fun t4 =>
  (M.lift (Ax.build [(V.int .u32 0), (V.int .i64 0), (V.int .i64 0), (V.bool false), (V.int .i64 0), (V.int .i64 0), (V.bool false), (V.int .u16 0), (V.int .u32 0), (V.int .u32 0), (V.int .u16 0), (V.int .u16 0), (V.int .i64 0), V.nils, V.nilp, (V.bool false)] [(0, 1, t0), (1, 1, (V.int .i64 3)), (2, 1, (V.int .i64 7)), (14, 1, t4)])).bind fun t5 =>
  (mbox ty_lane_Lane t5).bind fun t6 =>
  M.pure (.ret [t6])

theorem eq_lane_New (G : Sem') (t0 : V) : execK G ir_lane_New.rv ir_lane_New.body [] [] (params 0 [t0]) = f_lane_New G t0 := by kernel_rfl

theorem tb_lane_New : T fn_lane_New = some ir_lane_New := by kernel_rfl

theorem ok_lane_New {t0 : V} {H : Heap} {Q : V → Heap → Prop} (h : Ok (f_lane_New (sem T) t0) H fun r H' => ∃ L, r = .ret L ∧ Q (tupled L) H') : Ok (sem T fn_lane_New [t0]) H Q :=
  ok_sem tb_lane_New (Nat.le_of_ble_eq_true rfl) (eq_lane_New (sem T) t0) h

/-- palanquin/ring.New. -/
def ir_ring_New : Fn' := ⟨3, [.tmp 0],
  .ops [⟨(some 0), none, .mv (.c V.nilp)⟩]
  (.ops [⟨(some 1), none, .build [V.nils] []⟩,
    ⟨(some 2), none, .box ty_ring_Ring (.s 1)⟩,
    ⟨(some 0), none, .mv (.s 2)⟩]
  (.ret))⟩

noncomputable def f_ring_New (G : Sem') : M Res :=
  (M.lift (Ax.build [V.nils] [])).bind fun t1 =>
  (mbox ty_ring_Ring t1).bind fun t2 =>
  M.pure (.ret [t2])

theorem eq_ring_New (G : Sem') : execK G ir_ring_New.rv ir_ring_New.body [] [] (params 0 []) = f_ring_New G := by kernel_rfl

theorem tb_ring_New : T fn_ring_New = some ir_ring_New := by kernel_rfl

theorem ok_ring_New {H : Heap} {Q : V → Heap → Prop} (h : Ok (f_ring_New (sem T)) H fun r H' => ∃ L, r = .ret L ∧ Q (tupled L) H') : Ok (sem T fn_ring_New []) H Q :=
  ok_sem tb_ring_New (Nat.le_of_ble_eq_true rfl) (eq_ring_New (sem T)) h

/-- palanquin/palanquinlaw25.awake. -/
def ir_palanquinlaw25_awake : Fn' := ⟨74, [.tmp 0],
  .ops [⟨(some 0), none, .mv (.c (V.bool false))⟩]
  (.ops [⟨(some 8), none, .call fn_lane_New [(.c (V.int .u32 9))]⟩,
    ⟨(some 1), none, .mv (.s 8)⟩]
  (.ops [⟨(some 9), none, .mv (.s 1)⟩,
    ⟨(some 10), none, .eq .ptr false (.s 9) (.c V.nilp)⟩]
  (.cond (.s 10)
  (.ops [⟨(some 0), none, .mv (.c (V.bool false))⟩]
   (.ret))
  (.ops [⟨(some 12), none, .build [(V.bool false), (V.bool false), (V.int .i64 0), (V.int .u16 0), (V.bool false), (V.int .i64 0), (V.int .i64 0), V.nils, (V.int .i64 0), V.nils, V.nils, (V.bool false), (V.int .u32 0), (V.bool false), (V.bool false), (V.bool false), V.nils, V.nils, V.nils] [(0, 1, (.c (V.bool true))), (3, 1, (.c (V.int .u16 4)))]⟩,
     ⟨(some 13), none, .slit ty_uint8 1 [(V.int .u8 0)] [(0, 1, (.c (V.int .u8 120)))]⟩,
     ⟨(some 14), none, .remark ty_uint8 (.s 13)⟩,
     ⟨(some 15), none, .call fn_palanquinlaw25_packet [(.s 12), (.c (V.int .u16 0)), (.s 14)]⟩,
     ⟨(some 11), none, .mv (.s 15)⟩,
     ⟨(some 16), none, .ext 0 (.s 11)⟩,
     ⟨(some 17), none, .ext 1 (.s 11)⟩,
     ⟨(some 2), none, .box ty_rtp_Packet (.c (V.agg [(V.bool false), (V.int .i64 0), (V.int .u16 0), (V.int .u32 0), (V.int .u32 0), V.nils, (V.int .i64 0), V.nils, (V.int .i64 0), V.nils]))⟩,
     ⟨(some 3), none, .box ty_depend_Frame (.c (V.agg [(V.bool false), (V.bool false), (V.int .i64 0), (V.int .u16 0), (V.bool false), (V.int .i64 0), (V.int .i64 0), V.nils, (V.int .i64 0), V.nils, V.nils, (V.bool false), (V.int .u32 0), (V.bool false), (V.bool false), (V.bool false), V.nils, V.nils, V.nils]))⟩,
     ⟨none, none, .store 10 (.s 2) (.s 16)⟩,
     ⟨none, none, .store 19 (.s 3) (.s 17)⟩]
   (.draw [⟨(some 19), none, .mv (.s 1)⟩,
     ⟨(some 20), none, .load (some 10) (.s 2)⟩,
     ⟨(some 21), none, .load (some 19) (.s 3)⟩,
     ⟨(some 22), none, .call fn_palanquinlaw25_plain []⟩,
     ⟨(some 23), none, .call fn_lane_Lane_Media [(.s 19), (.c (V.int .i64 0)), (.s 20), (.s 21), (.s 22), (.c (V.int .u32 3)), (.c (V.int .i64 0))]⟩,
     ⟨(some 18), none, .mv (.s 23)⟩,
     ⟨(some 24), none, .ext 0 (.s 18)⟩,
     ⟨(some 4), none, .box ty_lane_Out (.c (V.agg [V.nils, (V.int .i64 0), (V.bool false)]))⟩,
     ⟨none, none, .store 3 (.s 4) (.s 24)⟩,
     ⟨(some 25), none, .ext 1 (.s 18)⟩,
     ⟨(some 5), none, .mv (.s 25)⟩] [(1, 3), (2, 3)]
   (.ops [⟨(some 27), none, .build [(V.bool false), (V.bool false), (V.int .i64 0), (V.int .u16 0), (V.bool false), (V.int .i64 0), (V.int .i64 0), V.nils, (V.int .i64 0), V.nils, V.nils, (V.bool false), (V.int .u32 0), (V.bool false), (V.bool false), (V.bool false), V.nils, V.nils, V.nils] [(0, 1, (.c (V.bool true))), (4, 1, (.c (V.bool true))), (3, 1, (.c (V.int .u16 5)))]⟩,
     ⟨(some 28), none, .slit ty_uint8 1 [(V.int .u8 0)] [(0, 1, (.c (V.int .u8 121)))]⟩,
     ⟨(some 29), none, .remark ty_uint8 (.s 28)⟩,
     ⟨(some 30), none, .call fn_palanquinlaw25_packet [(.s 27), (.c (V.int .u16 1)), (.s 29)]⟩,
     ⟨(some 26), none, .mv (.s 30)⟩,
     ⟨(some 31), none, .ext 0 (.s 26)⟩,
     ⟨(some 32), none, .ext 1 (.s 26)⟩,
     ⟨none, none, .store 10 (.s 2) (.s 31)⟩,
     ⟨none, none, .store 19 (.s 3) (.s 32)⟩]
   (.draw [⟨(some 34), none, .mv (.s 1)⟩,
     ⟨(some 35), none, .load (some 10) (.s 2)⟩,
     ⟨(some 36), none, .load (some 19) (.s 3)⟩,
     ⟨(some 37), none, .call fn_palanquinlaw25_plain []⟩,
     ⟨(some 38), none, .call fn_lane_Lane_Media [(.s 34), (.c (V.int .i64 0)), (.s 35), (.s 36), (.s 37), (.c (V.int .u32 3)), (.c (V.int .i64 0))]⟩,
     ⟨(some 33), none, .mv (.s 38)⟩,
     ⟨(some 39), none, .ext 0 (.s 33)⟩,
     ⟨(some 6), none, .box ty_lane_Out (.c (V.agg [V.nils, (V.int .i64 0), (V.bool false)]))⟩,
     ⟨none, none, .store 3 (.s 6) (.s 39)⟩,
     ⟨(some 40), none, .ext 1 (.s 33)⟩,
     ⟨(some 7), none, .mv (.s 40)⟩] [(1, 3), (2, 3)]
   (.ops [⟨(some 41), none, .mv (.s 5)⟩,
     ⟨(some 42), none, .bin .eql (.s 41) (.c (V.int .i64 0))⟩,
     ⟨(some 43), none, .mv (.s 42)⟩,
     ⟨(some 44), (some (43, true)), .faddr 1 (.s 4)⟩,
     ⟨(some 45), (some (43, true)), .load none (.s 44)⟩,
     ⟨(some 46), (some (43, true)), .bin .eql (.s 45) (.c (V.int .i64 1))⟩,
     ⟨(some 47), none, .pick (.s 43) (.s 46) (.c (V.bool false))⟩,
     ⟨(some 48), none, .mv (.s 47)⟩,
     ⟨(some 49), (some (48, true)), .faddr 0 (.s 4)⟩,
     ⟨(some 50), (some (48, true)), .load none (.s 49)⟩,
     ⟨(some 51), (some (48, true)), .len (.s 50)⟩,
     ⟨(some 52), (some (48, true)), .bin .eql (.s 51) (.c (V.int .i64 0))⟩,
     ⟨(some 53), none, .pick (.s 48) (.s 52) (.c (V.bool false))⟩,
     ⟨(some 54), none, .mv (.s 53)⟩,
     ⟨(some 55), (some (54, true)), .mv (.s 7)⟩,
     ⟨(some 56), (some (54, true)), .bin .eql (.s 55) (.c (V.int .i64 0))⟩,
     ⟨(some 57), none, .pick (.s 54) (.s 56) (.c (V.bool false))⟩,
     ⟨(some 58), none, .mv (.s 57)⟩,
     ⟨(some 59), (some (58, true)), .faddr 1 (.s 6)⟩,
     ⟨(some 60), (some (58, true)), .load none (.s 59)⟩,
     ⟨(some 61), (some (58, true)), .bin .eql (.s 60) (.c (V.int .i64 0))⟩,
     ⟨(some 62), none, .pick (.s 58) (.s 61) (.c (V.bool false))⟩,
     ⟨(some 63), none, .mv (.s 62)⟩,
     ⟨(some 64), (some (63, true)), .faddr 0 (.s 6)⟩,
     ⟨(some 65), (some (63, true)), .load none (.s 64)⟩,
     ⟨(some 66), (some (63, true)), .len (.s 65)⟩,
     ⟨(some 67), (some (63, true)), .bin .gtr (.s 66) (.c (V.int .i64 12))⟩,
     ⟨(some 68), none, .pick (.s 63) (.s 67) (.c (V.bool false))⟩,
     ⟨(some 69), none, .mv (.s 68)⟩,
     ⟨(some 70), (some (69, true)), .mv (.s 1)⟩,
     ⟨(some 71), (some (69, true)), .call fn_lane_Lane_SSRC [(.s 70)]⟩,
     ⟨(some 72), (some (69, true)), .bin .eql (.s 71) (.c (V.int .u32 9))⟩,
     ⟨(some 73), none, .pick (.s 69) (.s 72) (.c (V.bool false))⟩,
     ⟨(some 0), none, .mv (.s 73)⟩]
   (.ret)))))))))⟩

noncomputable def f_palanquinlaw25_awake (G : Sem') : M Res :=
  (G fn_lane_New [(V.int .u32 9)]).bind fun t8 =>
  (M.lift (eqr .ptr false t8 V.nilp)).bind fun t10 =>
  M.ite t10
    (M.pure (.ret [(V.bool false)]))
    ((M.lift (Ax.build [(V.bool false), (V.bool false), (V.int .i64 0), (V.int .u16 0), (V.bool false), (V.int .i64 0), (V.int .i64 0), V.nils, (V.int .i64 0), V.nils, V.nils, (V.bool false), (V.int .u32 0), (V.bool false), (V.bool false), (V.bool false), V.nils, V.nils, V.nils] [(0, 1, (V.bool true)), (3, 1, (V.int .u16 4))])).bind fun t12 =>
    (mslit ty_uint8 1 [(V.int .u8 0)] [(0, 1, (V.int .u8 120))]).bind fun t13 =>
    (mremark ty_uint8 t13).bind fun t14 =>
    (G fn_palanquinlaw25_packet [t12, (V.int .u16 0), t14]).bind fun t15 =>
    (M.lift (Ax.ext 0 t15)).bind fun t16 =>
    (M.lift (Ax.ext 1 t15)).bind fun t17 =>
    (mbox ty_rtp_Packet (V.agg [(V.bool false), (V.int .i64 0), (V.int .u16 0), (V.int .u32 0), (V.int .u32 0), V.nils, (V.int .i64 0), V.nils, (V.int .i64 0), V.nils])).bind fun t2 =>
    (mbox ty_depend_Frame (V.agg [(V.bool false), (V.bool false), (V.int .i64 0), (V.int .u16 0), (V.bool false), (V.int .i64 0), (V.int .i64 0), V.nils, (V.int .i64 0), V.nils, V.nils, (V.bool false), (V.int .u32 0), (V.bool false), (V.bool false), (V.bool false), V.nils, V.nils, V.nils])).bind fun t3 =>
    (mstore 10 t2 t16).bind fun _ =>
    (mstore 19 t3 t17).bind fun _ =>
    (mload (some 10) t2).bind fun t20 =>
    (mload (some 19) t3).bind fun t21 =>
    M.getH.bind fun h0 =>
    (G fn_palanquinlaw25_plain []).bind fun t22 =>
    M.getH.bind fun h0' =>
    (M.unch t3 h0 h0').bind fun _ =>
    (M.unch t2 h0 h0').bind fun _ =>
    (G fn_lane_Lane_Media [t8, (V.int .i64 0), t20, t21, t22, (V.int .u32 3), (V.int .i64 0)]).bind fun t23 =>
    (M.lift (Ax.ext 0 t23)).bind fun t24 =>
    (mbox ty_lane_Out (V.agg [V.nils, (V.int .i64 0), (V.bool false)])).bind fun t4 =>
    (mstore 3 t4 t24).bind fun _ =>
    (M.lift (Ax.ext 1 t23)).bind fun t25 =>
    (M.lift (Ax.build [(V.bool false), (V.bool false), (V.int .i64 0), (V.int .u16 0), (V.bool false), (V.int .i64 0), (V.int .i64 0), V.nils, (V.int .i64 0), V.nils, V.nils, (V.bool false), (V.int .u32 0), (V.bool false), (V.bool false), (V.bool false), V.nils, V.nils, V.nils] [(0, 1, (V.bool true)), (4, 1, (V.bool true)), (3, 1, (V.int .u16 5))])).bind fun t27 =>
    (mslit ty_uint8 1 [(V.int .u8 0)] [(0, 1, (V.int .u8 121))]).bind fun t28 =>
    (mremark ty_uint8 t28).bind fun t29 =>
    (G fn_palanquinlaw25_packet [t27, (V.int .u16 1), t29]).bind fun t30 =>
    (M.lift (Ax.ext 0 t30)).bind fun t31 =>
    (M.lift (Ax.ext 1 t30)).bind fun t32 =>
    (mstore 10 t2 t31).bind fun _ =>
    (mstore 19 t3 t32).bind fun _ =>
    (mload (some 10) t2).bind fun t35 =>
    (mload (some 19) t3).bind fun t36 =>
    M.getH.bind fun h1 =>
    (G fn_palanquinlaw25_plain []).bind fun t37 =>
    M.getH.bind fun h1' =>
    (M.unch t3 h1 h1').bind fun _ =>
    (M.unch t2 h1 h1').bind fun _ =>
    (G fn_lane_Lane_Media [t8, (V.int .i64 0), t35, t36, t37, (V.int .u32 3), (V.int .i64 0)]).bind fun t38 =>
    (M.lift (Ax.ext 0 t38)).bind fun t39 =>
    (mbox ty_lane_Out (V.agg [V.nils, (V.int .i64 0), (V.bool false)])).bind fun t6 =>
    (mstore 3 t6 t39).bind fun _ =>
    (M.lift (Ax.ext 1 t38)).bind fun t40 =>
    (M.lift (Ax.bin .eql t25 (V.int .i64 0))).bind fun t42 =>
    (guarded [(0, t42)] (some (0, true)) (M.lift (Ax.faddr 1 t4))).bind fun t44 =>
    (guarded [(0, t42)] (some (0, true)) (mload none t44)).bind fun t45 =>
    (guarded [(0, t42)] (some (0, true)) (M.lift (Ax.bin .eql t45 (V.int .i64 1)))).bind fun t46 =>
    (M.lift (Ax.pick t42 t46 (V.bool false))).bind fun t47 =>
    (guarded [(0, t47)] (some (0, true)) (M.lift (Ax.faddr 0 t4))).bind fun t49 =>
    (guarded [(0, t47)] (some (0, true)) (mload none t49)).bind fun t50 =>
    (guarded [(0, t47)] (some (0, true)) (M.lift (vlen t50))).bind fun t51 =>
    (guarded [(0, t47)] (some (0, true)) (M.lift (Ax.bin .eql t51 (V.int .i64 0)))).bind fun t52 =>
    (M.lift (Ax.pick t47 t52 (V.bool false))).bind fun t53 =>
    (guarded [(0, t53)] (some (0, true)) (M.pure t40)).bind fun t55 =>
    (guarded [(0, t53)] (some (0, true)) (M.lift (Ax.bin .eql t55 (V.int .i64 0)))).bind fun t56 =>
    (M.lift (Ax.pick t53 t56 (V.bool false))).bind fun t57 =>
    (guarded [(0, t57)] (some (0, true)) (M.lift (Ax.faddr 1 t6))).bind fun t59 =>
    (guarded [(0, t57)] (some (0, true)) (mload none t59)).bind fun t60 =>
    (guarded [(0, t57)] (some (0, true)) (M.lift (Ax.bin .eql t60 (V.int .i64 0)))).bind fun t61 =>
    (M.lift (Ax.pick t57 t61 (V.bool false))).bind fun t62 =>
    (guarded [(0, t62)] (some (0, true)) (M.lift (Ax.faddr 0 t6))).bind fun t64 =>
    (guarded [(0, t62)] (some (0, true)) (mload none t64)).bind fun t65 =>
    (guarded [(0, t62)] (some (0, true)) (M.lift (vlen t65))).bind fun t66 =>
    (guarded [(0, t62)] (some (0, true)) (M.lift (Ax.bin .gtr t66 (V.int .i64 12)))).bind fun t67 =>
    (M.lift (Ax.pick t62 t67 (V.bool false))).bind fun t68 =>
    (guarded [(0, t68)] (some (0, true)) (M.pure t8)).bind fun t70 =>
    (guarded [(0, t68)] (some (0, true)) (G fn_lane_Lane_SSRC [t70])).bind fun t71 =>
    (guarded [(0, t68)] (some (0, true)) (M.lift (Ax.bin .eql t71 (V.int .u32 9)))).bind fun t72 =>
    (M.lift (Ax.pick t68 t72 (V.bool false))).bind fun t73 =>
    M.pure (.ret [t73]))

theorem eq_palanquinlaw25_awake (G : Sem') : execK G ir_palanquinlaw25_awake.rv ir_palanquinlaw25_awake.body [] [] (params 0 []) = f_palanquinlaw25_awake G := by kernel_rfl

theorem tb_palanquinlaw25_awake : T fn_palanquinlaw25_awake = some ir_palanquinlaw25_awake := by kernel_rfl

theorem ok_palanquinlaw25_awake {H : Heap} {Q : V → Heap → Prop} (h : Ok (f_palanquinlaw25_awake (sem T)) H fun r H' => ∃ L, r = .ret L ∧ Q (tupled L) H') : Ok (sem T fn_palanquinlaw25_awake []) H Q :=
  ok_sem tb_palanquinlaw25_awake (Nat.le_of_ble_eq_true rfl) (eq_palanquinlaw25_awake (sem T)) h

/-- palanquin/palanquinlaw25.packet. -/
def ir_palanquinlaw25_packet : Fn' := ⟨52, [.cell 6 (some 10), .cell 7 (some 19)],
  .ops [⟨(some 3), none, .box ty_depend_Frame (.s 0)⟩,
    ⟨(some 6), none, .box ty_rtp_Packet (.c (V.agg [(V.bool false), (V.int .i64 0), (V.int .u16 0), (V.int .u32 0), (V.int .u32 0), V.nils, (V.int .i64 0), V.nils, (V.int .i64 0), V.nils]))⟩,
    ⟨(some 7), none, .box ty_depend_Frame (.c (V.agg [(V.bool false), (V.bool false), (V.int .i64 0), (V.int .u16 0), (V.bool false), (V.int .i64 0), (V.int .i64 0), V.nils, (V.int .i64 0), V.nils, V.nils, (V.bool false), (V.int .u32 0), (V.bool false), (V.bool false), (V.bool false), V.nils, V.nils, V.nils]))⟩]
  (.ops [⟨(some 13), none, .call fn_palanquinlaw25_plain []⟩,
    ⟨(some 14), none, .call fn_palanquinhelp_Structure [(.s 13)]⟩,
    ⟨(some 8), none, .box ty_palanquinref9_Structure (.c (V.agg [(V.int .i64 0), (V.int .i64 0), V.nils, (V.int .i64 0), V.nils, V.nils]))⟩,
    ⟨none, none, .store 6 (.s 8) (.s 14)⟩]
  (.ops [⟨(some 15), none, .faddr 4 (.s 3)⟩,
    ⟨(some 16), none, .load none (.s 15)⟩]
  (.condJ (.s 16)
  (.ops [⟨(some 17), none, .call fn_palanquinlaw25_plain []⟩,
     ⟨(some 18), none, .faddr 5 (.s 3)⟩,
     ⟨none, none, .store 6 (.s 18) (.s 17)⟩]
   (.done))
  (.done) [] [17, 18]
  (.ops [⟨(some 19), none, .faddr 2 (.s 8)⟩,
    ⟨(some 20), none, .load none (.s 19)⟩,
    ⟨(some 21), none, .faddr 2 (.s 3)⟩,
    ⟨(some 22), none, .load none (.s 21)⟩,
    ⟨(some 23), none, .bin .rem (.s 22) (.c (V.int .i64 3))⟩,
    ⟨(some 24), none, .iaddr none 5 (.s 20) (.s 23)⟩,
    ⟨(some 25), none, .load (some 5) (.s 24)⟩,
    ⟨(some 9), none, .box ty_palanquinref9_Template (.c (V.agg [(V.int .i64 0), (V.int .i64 0), V.nils, V.nils, V.nils]))⟩,
    ⟨none, none, .store 5 (.s 9) (.s 25)⟩]
  (.draw [⟨(some 26), none, .faddr 2 (.s 9)⟩,
    ⟨(some 27), none, .load none (.s 26)⟩,
    ⟨(some 28), none, .faddr 3 (.s 9)⟩,
    ⟨(some 29), none, .load none (.s 28)⟩,
    ⟨(some 30), none, .faddr 16 (.s 3)⟩,
    ⟨none, none, .store 1 (.s 30) (.s 27)⟩,
    ⟨(some 31), none, .faddr 17 (.s 3)⟩,
    ⟨none, none, .store 1 (.s 31) (.s 29)⟩,
    ⟨(some 32), none, .faddr 18 (.s 3)⟩,
    ⟨none, none, .store 1 (.s 32) (.c V.nils)⟩] [(3, 5)]
  (.draw [⟨(some 34), none, .load (some 19) (.s 3)⟩,
    ⟨(some 36), none, .load (some 6) (.s 8)⟩,
    ⟨(some 35), none, .call fn_palanquinhelp_Frame [(.s 34)]⟩,
    ⟨(some 37), none, .call fn_palanquinref9_Bytes [(.s 35), (.s 36)]⟩,
    ⟨(some 33), none, .mv (.s 37)⟩,
    ⟨(some 38), none, .ext 0 (.s 33)⟩,
    ⟨(some 39), none, .ext 1 (.s 33)⟩,
    ⟨(some 10), none, .mv (.s 38)⟩,
    ⟨(some 11), none, .mv (.s 39)⟩] [(1, 2)]
  (.ops [⟨(some 40), none, .mv (.s 1)⟩,
    ⟨(some 41), none, .faddr 3 (.s 3)⟩,
    ⟨(some 42), none, .load none (.s 41)⟩,
    ⟨(some 43), none, .cint .u32 (.s 42)⟩,
    ⟨(some 44), none, .bin .mul (.c (V.int .u32 3000)) (.s 43)⟩,
    ⟨(some 45), none, .mv (.s 10)⟩,
    ⟨(some 46), none, .build [(V.int .i64 0), V.nils] [(0, 1, (.c (V.int .i64 1))), (1, 1, (.s 45))]⟩,
    ⟨(some 47), none, .slit ty_rtp_Ext 1 [(V.int .i64 0), V.nils] [(0, 2, (.s 46))]⟩,
    ⟨(some 48), none, .mv (.s 2)⟩,
    ⟨(some 49), none, .build [(V.bool false), (V.int .i64 0), (V.int .u16 0), (V.int .u32 0), (V.int .u32 0), V.nils, (V.int .i64 0), V.nils, (V.int .i64 0), V.nils] [(1, 1, (.c (V.int .i64 96))), (2, 1, (.s 40)), (3, 1, (.s 44)), (4, 1, (.c (V.int .u32 7))), (6, 1, (.c (V.int .i64 4096))), (7, 1, (.s 47)), (9, 1, (.s 48))]⟩,
    ⟨(some 12), none, .box ty_rtp_Packet (.c (V.agg [(V.bool false), (V.int .i64 0), (V.int .u16 0), (V.int .u32 0), (V.int .u32 0), V.nils, (V.int .i64 0), V.nils, (V.int .i64 0), V.nils]))⟩,
    ⟨none, none, .store 10 (.s 12) (.s 49)⟩]
  (.draw [⟨(some 50), none, .load (some 10) (.s 12)⟩,
    ⟨(some 51), none, .load (some 19) (.s 3)⟩,
    ⟨none, none, .store 10 (.s 6) (.s 50)⟩,
    ⟨none, none, .store 19 (.s 7) (.s 51)⟩] [(1, 2)]
  (.ret)))))))))⟩

noncomputable def f_palanquinlaw25_packet (G : Sem') (t0 t1 t2 : V) : M Res :=
  (mbox ty_depend_Frame t0).bind fun t3 =>
  (mbox ty_rtp_Packet (V.agg [(V.bool false), (V.int .i64 0), (V.int .u16 0), (V.int .u32 0), (V.int .u32 0), V.nils, (V.int .i64 0), V.nils, (V.int .i64 0), V.nils])).bind fun t6 =>
  (mbox ty_depend_Frame (V.agg [(V.bool false), (V.bool false), (V.int .i64 0), (V.int .u16 0), (V.bool false), (V.int .i64 0), (V.int .i64 0), V.nils, (V.int .i64 0), V.nils, V.nils, (V.bool false), (V.int .u32 0), (V.bool false), (V.bool false), (V.bool false), V.nils, V.nils, V.nils])).bind fun t7 =>
  (G fn_palanquinlaw25_plain []).bind fun t13 =>
  (G fn_palanquinhelp_Structure [t13]).bind fun t14 =>
  (mbox ty_palanquinref9_Structure (V.agg [(V.int .i64 0), (V.int .i64 0), V.nils, (V.int .i64 0), V.nils, V.nils])).bind fun t8 =>
  (mstore 6 t8 t14).bind fun _ =>
  (M.lift (Ax.faddr 4 t3)).bind fun t15 =>
  (mload none t15).bind fun t16 =>
  M.join (M.ite t16
    ((G fn_palanquinlaw25_plain []).bind fun t17 =>
    (M.lift (Ax.faddr 5 t3)).bind fun t18 =>
    (mstore 6 t18 t17).bind fun _ =>
    M.pure (.nrm []))
    (M.pure (.nrm []))) fun _ =>
  (M.lift (Ax.faddr 2 t8)).bind fun t19 =>
  (mload none t19).bind fun t20 =>
  (M.lift (Ax.faddr 2 t3)).bind fun t21 =>
  (mload none t21).bind fun t22 =>
  (M.lift (Ax.bin .rem t22 (V.int .i64 3))).bind fun t23 =>
  (M.lift (Ax.iaddr none 5 t20 t23)).bind fun t24 =>
  (mload (some 5) t24).bind fun t25 =>
  (mbox ty_palanquinref9_Template (V.agg [(V.int .i64 0), (V.int .i64 0), V.nils, V.nils, V.nils])).bind fun t9 =>
  (mstore 5 t9 t25).bind fun _ =>
  (M.lift (Ax.faddr 2 t9)).bind fun t26 =>
  (mload none t26).bind fun t27 =>
  (M.lift (Ax.faddr 3 t9)).bind fun t28 =>
  (mload none t28).bind fun t29 =>
  (M.lift (Ax.faddr 16 t3)).bind fun t30 =>
  M.getH.bind fun h0 =>
  (mstore 1 t30 t27).bind fun _ =>
  M.getH.bind fun h0' =>
  (M.unch t28 h0 h0').bind fun _ =>
  (M.lift (Ax.faddr 17 t3)).bind fun t31 =>
  (mstore 1 t31 t29).bind fun _ =>
  (M.lift (Ax.faddr 18 t3)).bind fun t32 =>
  (mstore 1 t32 V.nils).bind fun _ =>
  (mload (some 19) t3).bind fun t34 =>
  (mload (some 6) t8).bind fun t36 =>
  M.getH.bind fun h1 =>
  (G fn_palanquinhelp_Frame [t34]).bind fun t35 =>
  M.getH.bind fun h1' =>
  (M.unch t8 h1 h1').bind fun _ =>
  (G fn_palanquinref9_Bytes [t35, t36]).bind fun t37 =>
  (M.lift (Ax.ext 0 t37)).bind fun t38 =>
  (M.lift (Ax.ext 1 t37)).bind fun t39 =>
  (M.lift (Ax.faddr 3 t3)).bind fun t41 =>
  (mload none t41).bind fun t42 =>
  (M.lift (Ax.cint .u32 t42)).bind fun t43 =>
  (M.lift (Ax.bin .mul (V.int .u32 3000) t43)).bind fun t44 =>
  (M.lift (Ax.build [(V.int .i64 0), V.nils] [(0, 1, (V.int .i64 1)), (1, 1, t38)])).bind fun t46 =>
  (mslit ty_rtp_Ext 1 [(V.int .i64 0), V.nils] [(0, 2, t46)]).bind fun t47 =>
  (M.lift (Ax.build [(V.bool false), (V.int .i64 0), (V.int .u16 0), (V.int .u32 0), (V.int .u32 0), V.nils, (V.int .i64 0), V.nils, (V.int .i64 0), V.nils] [(1, 1, (V.int .i64 96)), (2, 1, t1), (3, 1, t44), (4, 1, (V.int .u32 7)), (6, 1, (V.int .i64 4096)), (7, 1, t47), (9, 1, t2)])).bind fun t49 =>
  (mbox ty_rtp_Packet (V.agg [(V.bool false), (V.int .i64 0), (V.int .u16 0), (V.int .u32 0), (V.int .u32 0), V.nils, (V.int .i64 0), V.nils, (V.int .i64 0), V.nils])).bind fun t12 =>
  (mstore 10 t12 t49).bind fun _ =>
  (mload (some 10) t12).bind fun t50 =>
  (mload (some 19) t3).bind fun t51 =>
  M.getH.bind fun h2 =>
  (mstore 10 t6 t50).bind fun _ =>
  M.getH.bind fun h2' =>
  (M.unch t3 h2 h2').bind fun _ =>
  (mstore 19 t7 t51).bind fun _ =>
  (mload (some 10) t6).bind fun r0 =>
  (mload (some 19) t7).bind fun r1 =>
  M.pure (.ret [r0, r1])

theorem eq_palanquinlaw25_packet (G : Sem') (t0 t1 t2 : V) : execK G ir_palanquinlaw25_packet.rv ir_palanquinlaw25_packet.body [] [] (params 0 [t0, t1, t2]) = f_palanquinlaw25_packet G t0 t1 t2 := by kernel_rfl

theorem tb_palanquinlaw25_packet : T fn_palanquinlaw25_packet = some ir_palanquinlaw25_packet := by kernel_rfl

theorem ok_palanquinlaw25_packet {t0 t1 t2 : V} {H : Heap} {Q : V → Heap → Prop} (h : Ok (f_palanquinlaw25_packet (sem T) t0 t1 t2) H fun r H' => ∃ L, r = .ret L ∧ Q (tupled L) H') : Ok (sem T fn_palanquinlaw25_packet [t0, t1, t2]) H Q :=
  ok_sem tb_palanquinlaw25_packet (Nat.le_of_ble_eq_true rfl) (eq_palanquinlaw25_packet (sem T) t0 t1 t2) h

/-- palanquin/palanquinlaw25.plain. -/
def ir_palanquinlaw25_plain : Fn' := ⟨11, [.cell 0 (some 6)],
  .ops [⟨(some 0), none, .box ty_depend_Structure (.c (V.agg [(V.int .i64 0), (V.int .i64 0), V.nils, (V.int .i64 0), V.nils, V.nils]))⟩]
  (.ops [⟨(some 1), none, .slit ty_int 2 [(V.int .i64 0)] [(0, 1, (.c (V.int .i64 2))), (1, 1, (.c (V.int .i64 2)))]⟩,
    ⟨(some 2), none, .build [(V.int .i64 0), (V.int .i64 0), V.nils, V.nils, V.nils] [(2, 1, (.s 1))]⟩,
    ⟨(some 3), none, .slit ty_int 2 [(V.int .i64 0)] [(0, 1, (.c (V.int .i64 2))), (1, 1, (.c (V.int .i64 2)))]⟩,
    ⟨(some 4), none, .slit ty_int 1 [(V.int .i64 0)] [(0, 1, (.c (V.int .i64 2)))]⟩,
    ⟨(some 5), none, .build [(V.int .i64 0), (V.int .i64 0), V.nils, V.nils, V.nils] [(2, 1, (.s 3)), (3, 1, (.s 4))]⟩,
    ⟨(some 6), none, .slit ty_int 2 [(V.int .i64 0)] [(0, 1, (.c (V.int .i64 1))), (1, 1, (.c (V.int .i64 0)))]⟩,
    ⟨(some 7), none, .slit ty_int 1 [(V.int .i64 0)] [(0, 1, (.c (V.int .i64 1)))]⟩,
    ⟨(some 8), none, .build [(V.int .i64 0), (V.int .i64 0), V.nils, V.nils, V.nils] [(1, 1, (.c (V.int .i64 1))), (2, 1, (.s 6)), (3, 1, (.s 7))]⟩,
    ⟨(some 9), none, .slit ty_depend_Template 3 [(V.int .i64 0), (V.int .i64 0), V.nils, V.nils, V.nils] [(0, 5, (.s 2)), (5, 5, (.s 5)), (10, 5, (.s 8))]⟩,
    ⟨(some 10), none, .build [(V.int .i64 0), (V.int .i64 0), V.nils, (V.int .i64 0), V.nils, V.nils] [(1, 1, (.c (V.int .i64 2))), (2, 1, (.s 9))]⟩,
    ⟨none, none, .store 6 (.s 0) (.s 10)⟩]
  (.ret))⟩

noncomputable def f_palanquinlaw25_plain (G : Sem') : M Res :=
  (mbox ty_depend_Structure (V.agg [(V.int .i64 0), (V.int .i64 0), V.nils, (V.int .i64 0), V.nils, V.nils])).bind fun t0 =>
  (mslit ty_int 2 [(V.int .i64 0)] [(0, 1, (V.int .i64 2)), (1, 1, (V.int .i64 2))]).bind fun t1 =>
  (M.lift (Ax.build [(V.int .i64 0), (V.int .i64 0), V.nils, V.nils, V.nils] [(2, 1, t1)])).bind fun t2 =>
  (mslit ty_int 2 [(V.int .i64 0)] [(0, 1, (V.int .i64 2)), (1, 1, (V.int .i64 2))]).bind fun t3 =>
  (mslit ty_int 1 [(V.int .i64 0)] [(0, 1, (V.int .i64 2))]).bind fun t4 =>
  (M.lift (Ax.build [(V.int .i64 0), (V.int .i64 0), V.nils, V.nils, V.nils] [(2, 1, t3), (3, 1, t4)])).bind fun t5 =>
  (mslit ty_int 2 [(V.int .i64 0)] [(0, 1, (V.int .i64 1)), (1, 1, (V.int .i64 0))]).bind fun t6 =>
  (mslit ty_int 1 [(V.int .i64 0)] [(0, 1, (V.int .i64 1))]).bind fun t7 =>
  (M.lift (Ax.build [(V.int .i64 0), (V.int .i64 0), V.nils, V.nils, V.nils] [(1, 1, (V.int .i64 1)), (2, 1, t6), (3, 1, t7)])).bind fun t8 =>
  (mslit ty_depend_Template 3 [(V.int .i64 0), (V.int .i64 0), V.nils, V.nils, V.nils] [(0, 5, t2), (5, 5, t5), (10, 5, t8)]).bind fun t9 =>
  (M.lift (Ax.build [(V.int .i64 0), (V.int .i64 0), V.nils, (V.int .i64 0), V.nils, V.nils] [(1, 1, (V.int .i64 2)), (2, 1, t9)])).bind fun t10 =>
  (mstore 6 t0 t10).bind fun _ =>
  (mload (some 6) t0).bind fun r0 =>
  M.pure (.ret [r0])

theorem eq_palanquinlaw25_plain (G : Sem') : execK G ir_palanquinlaw25_plain.rv ir_palanquinlaw25_plain.body [] [] (params 0 []) = f_palanquinlaw25_plain G := by kernel_rfl

theorem tb_palanquinlaw25_plain : T fn_palanquinlaw25_plain = some ir_palanquinlaw25_plain := by kernel_rfl

theorem ok_palanquinlaw25_plain {H : Heap} {Q : V → Heap → Prop} (h : Ok (f_palanquinlaw25_plain (sem T)) H fun r H' => ∃ L, r = .ret L ∧ Q (tupled L) H') : Ok (sem T fn_palanquinlaw25_plain []) H Q :=
  ok_sem tb_palanquinlaw25_plain (Nat.le_of_ble_eq_true rfl) (eq_palanquinlaw25_plain (sem T)) h

/-- palanquin/palanquinhelp.Structure. -/
def loop_palanquinhelp_Structure_0 : C :=
  .ops [⟨(some 16), none, .mv (.s 4)⟩,
    ⟨(some 17), none, .faddr 2 (.s 1)⟩,
    ⟨(some 18), none, .load none (.s 17)⟩,
    ⟨(some 19), none, .len (.s 18)⟩,
    ⟨(some 20), none, .bin .lss (.s 16) (.s 19)⟩]
  (.cond (.s 20)
  (.blk 1
   (.draw [⟨(some 23), none, .faddr 2 (.s 3)⟩,
      ⟨(some 24), none, .load none (.s 23)⟩,
      ⟨(some 25), none, .faddr 2 (.s 1)⟩,
      ⟨(some 26), none, .load none (.s 25)⟩,
      ⟨(some 27), none, .mv (.s 4)⟩,
      ⟨(some 28), none, .iaddr none 5 (.s 26) (.s 27)⟩,
      ⟨(some 29), none, .load (some 5) (.s 28)⟩,
      ⟨(some 30), none, .slit ty_palanquinref9_Template 1 [(V.int .i64 0), (V.int .i64 0), V.nils, V.nils, V.nils] [(0, 5, (.s 29))]⟩,
      ⟨(some 31), none, .append ty_palanquinref9_Template 5 88 (.s 24) (.s 30)⟩,
      ⟨(some 32), none, .faddr 2 (.s 3)⟩,
      ⟨none, none, .store 1 (.s 32) (.s 31)⟩] []
    (.done)) [] [23, 24, 25, 26, 27, 28, 29, 30, 31, 32]
   (.ops [⟨(some 21), none, .mv (.s 4)⟩,
     ⟨(some 22), none, .bin .add (.s 21) (.c (V.int .i64 1))⟩,
     ⟨(some 4), none, .mv (.s 22)⟩]
   (.done)))
  (.exit 0))

def ir_palanquinhelp_Structure : Fn' := ⟨34, [.cell 2 (some 6)],
  .ops [⟨(some 1), none, .box ty_depend_Structure (.s 0)⟩,
    ⟨(some 2), none, .box ty_palanquinref9_Structure (.c (V.agg [(V.int .i64 0), (V.int .i64 0), V.nils, (V.int .i64 0), V.nils, V.nils]))⟩]
  (.ops [⟨(some 5), none, .faddr 0 (.s 1)⟩,
    ⟨(some 6), none, .load none (.s 5)⟩,
    ⟨(some 7), none, .faddr 1 (.s 1)⟩,
    ⟨(some 8), none, .load none (.s 7)⟩,
    ⟨(some 9), none, .faddr 3 (.s 1)⟩,
    ⟨(some 10), none, .load none (.s 9)⟩,
    ⟨(some 11), none, .faddr 4 (.s 1)⟩,
    ⟨(some 12), none, .load none (.s 11)⟩,
    ⟨(some 13), none, .faddr 5 (.s 1)⟩,
    ⟨(some 14), none, .load none (.s 13)⟩,
    ⟨(some 15), none, .build [(V.int .i64 0), (V.int .i64 0), V.nils, (V.int .i64 0), V.nils, V.nils] [(0, 1, (.s 6)), (1, 1, (.s 8)), (3, 1, (.s 10)), (4, 1, (.s 12)), (5, 1, (.s 14))]⟩,
    ⟨(some 3), none, .box ty_palanquinref9_Structure (.c (V.agg [(V.int .i64 0), (V.int .i64 0), V.nils, (V.int .i64 0), V.nils, V.nils]))⟩,
    ⟨none, none, .store 6 (.s 3) (.s 15)⟩]
  (.ops [⟨(some 4), none, .mv (.c (V.int .i64 0))⟩]
  (.blk 0
  (.loop loop_palanquinhelp_Structure_0 [4] [16, 17, 18, 19, 20, 23, 24, 25, 26, 27, 28, 29, 30, 31, 32, 21, 22, 4]) [] [16, 17, 18, 19, 20, 23, 24, 25, 26, 27, 28, 29, 30, 31, 32, 21, 22, 4]
  (.ops [⟨(some 33), none, .load (some 6) (.s 3)⟩,
    ⟨none, none, .store 6 (.s 2) (.s 33)⟩]
  (.ret)))))⟩

noncomputable def f_palanquinhelp_Structure_0 (G : Sem') (t1 t3 t2 : V) (L : List V) : M Res :=
  (M.lift (Ax.faddr 2 t1)).bind fun t17 =>
  (mload none t17).bind fun t18 =>
  (M.lift (vlen t18)).bind fun t19 =>
  (M.lift (Ax.bin .lss (L.getD 0 .undef) t19)).bind fun t20 =>
  M.ite t20
    (M.blk 1 (
      (M.lift (Ax.faddr 2 t3)).bind fun t23 =>
      (mload none t23).bind fun t24 =>
      (M.lift (Ax.faddr 2 t1)).bind fun t25 =>
      (mload none t25).bind fun t26 =>
      (M.lift (Ax.iaddr none 5 t26 (L.getD 0 .undef))).bind fun t28 =>
      (mload (some 5) t28).bind fun t29 =>
      (mslit ty_palanquinref9_Template 1 [(V.int .i64 0), (V.int .i64 0), V.nils, V.nils, V.nils] [(0, 5, t29)]).bind fun t30 =>
      (mappend ty_palanquinref9_Template 5 88 t24 t30).bind fun t31 =>
      (M.lift (Ax.faddr 2 t3)).bind fun t32 =>
      (mstore 1 t32 t31).bind fun _ =>
      M.pure (.nrm [])) fun _ =>
    (M.lift (Ax.bin .add (L.getD 0 .undef) (V.int .i64 1))).bind fun t22 =>
    M.pure (.nrm [t22]))
    (M.pure (.ex 0 []))

noncomputable def f_palanquinhelp_Structure (G : Sem') (t0 : V) : M Res :=
  (mbox ty_depend_Structure t0).bind fun t1 =>
  (mbox ty_palanquinref9_Structure (V.agg [(V.int .i64 0), (V.int .i64 0), V.nils, (V.int .i64 0), V.nils, V.nils])).bind fun t2 =>
  (M.lift (Ax.faddr 0 t1)).bind fun t5 =>
  (mload none t5).bind fun t6 =>
  (M.lift (Ax.faddr 1 t1)).bind fun t7 =>
  (mload none t7).bind fun t8 =>
  (M.lift (Ax.faddr 3 t1)).bind fun t9 =>
  (mload none t9).bind fun t10 =>
  (M.lift (Ax.faddr 4 t1)).bind fun t11 =>
  (mload none t11).bind fun t12 =>
  (M.lift (Ax.faddr 5 t1)).bind fun t13 =>
  (mload none t13).bind fun t14 =>
  (M.lift (Ax.build [(V.int .i64 0), (V.int .i64 0), V.nils, (V.int .i64 0), V.nils, V.nils] [(0, 1, t6), (1, 1, t8), (3, 1, t10), (4, 1, t12), (5, 1, t14)])).bind fun t15 =>
  (mbox ty_palanquinref9_Structure (V.agg [(V.int .i64 0), (V.int .i64 0), V.nils, (V.int .i64 0), V.nils, V.nils])).bind fun t3 =>
  (mstore 6 t3 t15).bind fun _ =>
  M.blk 0 (
    M.iter (f_palanquinhelp_Structure_0 G t1 t3 t2) [(V.int .i64 0)]) fun _ =>
  (mload (some 6) t3).bind fun t33 =>
  (mstore 6 t2 t33).bind fun _ =>
  (mload (some 6) t2).bind fun r0 =>
  M.pure (.ret [r0])

theorem eq_palanquinhelp_Structure (G : Sem') (t0 : V) : execK G ir_palanquinhelp_Structure.rv ir_palanquinhelp_Structure.body [] [] (params 0 [t0]) = f_palanquinhelp_Structure G t0 := by kernel_rfl

theorem tb_palanquinhelp_Structure : T fn_palanquinhelp_Structure = some ir_palanquinhelp_Structure := by kernel_rfl

theorem ok_palanquinhelp_Structure {t0 : V} {H : Heap} {Q : V → Heap → Prop} (h : Ok (f_palanquinhelp_Structure (sem T) t0) H fun r H' => ∃ L, r = .ret L ∧ Q (tupled L) H') : Ok (sem T fn_palanquinhelp_Structure [t0]) H Q :=
  ok_sem tb_palanquinhelp_Structure (Nat.le_of_ble_eq_true rfl) (eq_palanquinhelp_Structure (sem T) t0) h

/-- palanquin/palanquinhelp.Frame. -/
def ir_palanquinhelp_Frame : Fn' := ⟨33, [.cell 2 (some 19)],
  .ops [⟨(some 1), none, .box ty_depend_Frame (.s 0)⟩,
    ⟨(some 2), none, .box ty_palanquinref9_Frame (.c (V.agg [(V.bool false), (V.bool false), (V.int .i64 0), (V.int .u16 0), (V.bool false), (V.int .i64 0), (V.int .i64 0), V.nils, (V.int .i64 0), V.nils, V.nils, (V.bool false), (V.int .u32 0), (V.bool false), (V.bool false), (V.bool false), V.nils, V.nils, V.nils]))⟩]
  (.draw [⟨(some 3), none, .faddr 0 (.s 1)⟩,
    ⟨(some 4), none, .load none (.s 3)⟩,
    ⟨(some 5), none, .faddr 1 (.s 1)⟩,
    ⟨(some 6), none, .load none (.s 5)⟩,
    ⟨(some 7), none, .faddr 2 (.s 1)⟩,
    ⟨(some 8), none, .load none (.s 7)⟩,
    ⟨(some 9), none, .faddr 3 (.s 1)⟩,
    ⟨(some 10), none, .load none (.s 9)⟩,
    ⟨(some 11), none, .faddr 4 (.s 1)⟩,
    ⟨(some 12), none, .load none (.s 11)⟩,
    ⟨(some 13), none, .faddr 5 (.s 1)⟩,
    ⟨(some 14), none, .load (some 6) (.s 13)⟩,
    ⟨(some 16), none, .faddr 11 (.s 1)⟩,
    ⟨(some 17), none, .load none (.s 16)⟩,
    ⟨(some 18), none, .faddr 12 (.s 1)⟩,
    ⟨(some 19), none, .load none (.s 18)⟩,
    ⟨(some 20), none, .faddr 13 (.s 1)⟩,
    ⟨(some 21), none, .load none (.s 20)⟩,
    ⟨(some 22), none, .faddr 14 (.s 1)⟩,
    ⟨(some 23), none, .load none (.s 22)⟩,
    ⟨(some 24), none, .faddr 15 (.s 1)⟩,
    ⟨(some 25), none, .load none (.s 24)⟩,
    ⟨(some 26), none, .faddr 16 (.s 1)⟩,
    ⟨(some 27), none, .load none (.s 26)⟩,
    ⟨(some 28), none, .faddr 17 (.s 1)⟩,
    ⟨(some 29), none, .load none (.s 28)⟩,
    ⟨(some 30), none, .faddr 18 (.s 1)⟩,
    ⟨(some 31), none, .load none (.s 30)⟩,
    ⟨(some 15), none, .call fn_palanquinhelp_Structure [(.s 14)]⟩,
    ⟨(some 32), none, .build [(V.bool false), (V.bool false), (V.int .i64 0), (V.int .u16 0), (V.bool false), (V.int .i64 0), (V.int .i64 0), V.nils, (V.int .i64 0), V.nils, V.nils, (V.bool false), (V.int .u32 0), (V.bool false), (V.bool false), (V.bool false), V.nils, V.nils, V.nils] [(0, 1, (.s 4)), (1, 1, (.s 6)), (2, 1, (.s 8)), (3, 1, (.s 10)), (4, 1, (.s 12)), (5, 6, (.s 15)), (11, 1, (.s 17)), (12, 1, (.s 19)), (13, 1, (.s 21)), (14, 1, (.s 23)), (15, 1, (.s 25)), (16, 1, (.s 27)), (17, 1, (.s 29)), (18, 1, (.s 31))]⟩,
    ⟨none, none, .store 19 (.s 2) (.s 32)⟩] [(1, 28), (3, 28), (5, 28), (7, 28), (9, 28), (13, 28), (15, 28), (17, 28), (19, 28), (21, 28), (23, 28), (25, 28), (27, 28)]
  (.ret))⟩

noncomputable def f_palanquinhelp_Frame (G : Sem') (t0 : V) : M Res :=
  (mbox ty_depend_Frame t0).bind fun t1 =>
  (mbox ty_palanquinref9_Frame (V.agg [(V.bool false), (V.bool false), (V.int .i64 0), (V.int .u16 0), (V.bool false), (V.int .i64 0), (V.int .i64 0), V.nils, (V.int .i64 0), V.nils, V.nils, (V.bool false), (V.int .u32 0), (V.bool false), (V.bool false), (V.bool false), V.nils, V.nils, V.nils])).bind fun t2 =>
  (M.lift (Ax.faddr 0 t1)).bind fun t3 =>
  (mload none t3).bind fun t4 =>
  (M.lift (Ax.faddr 1 t1)).bind fun t5 =>
  (mload none t5).bind fun t6 =>
  (M.lift (Ax.faddr 2 t1)).bind fun t7 =>
  (mload none t7).bind fun t8 =>
  (M.lift (Ax.faddr 3 t1)).bind fun t9 =>
  (mload none t9).bind fun t10 =>
  (M.lift (Ax.faddr 4 t1)).bind fun t11 =>
  (mload none t11).bind fun t12 =>
  (M.lift (Ax.faddr 5 t1)).bind fun t13 =>
  (mload (some 6) t13).bind fun t14 =>
  (M.lift (Ax.faddr 11 t1)).bind fun t16 =>
  (mload none t16).bind fun t17 =>
  (M.lift (Ax.faddr 12 t1)).bind fun t18 =>
  (mload none t18).bind fun t19 =>
  (M.lift (Ax.faddr 13 t1)).bind fun t20 =>
  (mload none t20).bind fun t21 =>
  (M.lift (Ax.faddr 14 t1)).bind fun t22 =>
  (mload none t22).bind fun t23 =>
  (M.lift (Ax.faddr 15 t1)).bind fun t24 =>
  (mload none t24).bind fun t25 =>
  (M.lift (Ax.faddr 16 t1)).bind fun t26 =>
  (mload none t26).bind fun t27 =>
  (M.lift (Ax.faddr 17 t1)).bind fun t28 =>
  (mload none t28).bind fun t29 =>
  (M.lift (Ax.faddr 18 t1)).bind fun t30 =>
  (mload none t30).bind fun t31 =>
  M.getH.bind fun h0 =>
  (G fn_palanquinhelp_Structure [t14]).bind fun t15 =>
  M.getH.bind fun h0' =>
  (M.unch t30 h0 h0').bind fun _ =>
  (M.unch t28 h0 h0').bind fun _ =>
  (M.unch t26 h0 h0').bind fun _ =>
  (M.unch t24 h0 h0').bind fun _ =>
  (M.unch t22 h0 h0').bind fun _ =>
  (M.unch t20 h0 h0').bind fun _ =>
  (M.unch t18 h0 h0').bind fun _ =>
  (M.unch t16 h0 h0').bind fun _ =>
  (M.unch t11 h0 h0').bind fun _ =>
  (M.unch t9 h0 h0').bind fun _ =>
  (M.unch t7 h0 h0').bind fun _ =>
  (M.unch t5 h0 h0').bind fun _ =>
  (M.unch t3 h0 h0').bind fun _ =>
  (M.lift (Ax.build [(V.bool false), (V.bool false), (V.int .i64 0), (V.int .u16 0), (V.bool false), (V.int .i64 0), (V.int .i64 0), V.nils, (V.int .i64 0), V.nils, V.nils, (V.bool false), (V.int .u32 0), (V.bool false), (V.bool false), (V.bool false), V.nils, V.nils, V.nils] [(0, 1, t4), (1, 1, t6), (2, 1, t8), (3, 1, t10), (4, 1, t12), (5, 6, t15), (11, 1, t17), (12, 1, t19), (13, 1, t21), (14, 1, t23), (15, 1, t25), (16, 1, t27), (17, 1, t29), (18, 1, t31)])).bind fun t32 =>
  (mstore 19 t2 t32).bind fun _ =>
  (mload (some 19) t2).bind fun r0 =>
  M.pure (.ret [r0])

theorem eq_palanquinhelp_Frame (G : Sem') (t0 : V) : execK G ir_palanquinhelp_Frame.rv ir_palanquinhelp_Frame.body [] [] (params 0 [t0]) = f_palanquinhelp_Frame G t0 := by kernel_rfl

theorem tb_palanquinhelp_Frame : T fn_palanquinhelp_Frame = some ir_palanquinhelp_Frame := by kernel_rfl

theorem ok_palanquinhelp_Frame {t0 : V} {H : Heap} {Q : V → Heap → Prop} (h : Ok (f_palanquinhelp_Frame (sem T) t0) H fun r H' => ∃ L, r = .ret L ∧ Q (tupled L) H') : Ok (sem T fn_palanquinhelp_Frame [t0]) H Q :=
  ok_sem tb_palanquinhelp_Frame (Nat.le_of_ble_eq_true rfl) (eq_palanquinhelp_Frame (sem T) t0) h

/-- palanquin/palanquinref9.Bytes. -/
def loop_palanquinref9_Bytes_0 : C :=
  .ops [⟨(some 104), none, .faddr 13 (.s 2)⟩,
    ⟨(some 105), none, .load none (.s 104)⟩,
    ⟨(some 106), none, .mv (.s 105)⟩,
    ⟨(some 107), (some (106, true)), .mv (.s 7)⟩,
    ⟨(some 108), (some (106, true)), .faddr 16 (.s 2)⟩,
    ⟨(some 109), (some (106, true)), .load none (.s 108)⟩,
    ⟨(some 110), (some (106, true)), .len (.s 109)⟩,
    ⟨(some 111), (some (106, true)), .bin .lss (.s 107) (.s 110)⟩,
    ⟨(some 112), none, .pick (.s 106) (.s 111) (.c (V.bool false))⟩]
  (.cond (.s 112)
  (.blk 1
   (.ops [⟨(some 115), none, .mv (.s 6)⟩,
      ⟨(some 116), none, .faddr 16 (.s 2)⟩,
      ⟨(some 117), none, .load none (.s 116)⟩,
      ⟨(some 118), none, .mv (.s 7)⟩,
      ⟨(some 119), none, .iaddr none 1 (.s 117) (.s 118)⟩,
      ⟨(some 120), none, .load none (.s 119)⟩,
      ⟨(some 121), none, .cint .u64 (.s 120)⟩,
      ⟨(some 122), none, .call fn_palanquinref6_Writer_Add [(.s 115), (.s 121), (.c (V.int .i64 2))]⟩]
    (.done)) [] [115, 116, 117, 118, 119, 120, 121, 122]
   (.ops [⟨(some 113), none, .mv (.s 7)⟩,
     ⟨(some 114), none, .bin .add (.s 113) (.c (V.int .i64 1))⟩,
     ⟨(some 7), none, .mv (.s 114)⟩]
   (.done)))
  (.exit 0))

def loop_palanquinref9_Bytes_1 : C :=
  .ops [⟨(some 132), none, .faddr 17 (.s 2)⟩,
    ⟨(some 133), none, .load none (.s 132)⟩,
    ⟨(some 134), none, .mv (.s 8)⟩,
    ⟨(some 135), none, .iaddr none 1 (.s 133) (.s 134)⟩,
    ⟨(some 136), none, .load none (.s 135)⟩,
    ⟨(some 137), none, .mv (.s 9)⟩,
    ⟨(some 138), none, .bin .mul (.c (V.int .i64 4)) (.s 137)⟩,
    ⟨(some 139), none, .cint .u64 (.s 138)⟩,
    ⟨(some 140), none, .bin .shl (.c (V.int .i64 1)) (.s 139)⟩,
    ⟨(some 141), none, .bin .gtr (.s 136) (.s 140)⟩]
  (.cond (.s 141)
  (.blk 5
   (.ops [⟨(some 142), none, .mv (.s 9)⟩,
      ⟨(some 143), none, .bin .add (.s 142) (.c (V.int .i64 1))⟩,
      ⟨(some 9), none, .mv (.s 143)⟩]
    (.done)) [9] [142, 143, 9]
   (.done))
  (.exit 4))

def loop_palanquinref9_Bytes_2 : C :=
  .ops [⟨(some 125), none, .mv (.s 8)⟩,
    ⟨(some 126), none, .faddr 17 (.s 2)⟩,
    ⟨(some 127), none, .load none (.s 126)⟩,
    ⟨(some 128), none, .len (.s 127)⟩,
    ⟨(some 129), none, .bin .lss (.s 125) (.s 128)⟩]
  (.cond (.s 129)
  (.blk 3
   (.ops [⟨(some 9), none, .mv (.c (V.int .i64 1))⟩]
    (.blk 4
    (.loop loop_palanquinref9_Bytes_1 [9] [132, 133, 134, 135, 136, 137, 138, 139, 140, 141, 142, 143, 9]) [9] [132, 133, 134, 135, 136, 137, 138, 139, 140, 141, 142, 143, 9]
    (.ops [⟨(some 144), none, .mv (.s 6)⟩,
      ⟨(some 145), none, .mv (.s 9)⟩,
      ⟨(some 146), none, .cint .u64 (.s 145)⟩,
      ⟨(some 147), none, .call fn_palanquinref6_Writer_Add [(.s 144), (.s 146), (.c (V.int .i64 2))]⟩]
    (.ops [⟨(some 148), none, .mv (.s 6)⟩,
      ⟨(some 149), none, .faddr 17 (.s 2)⟩,
      ⟨(some 150), none, .load none (.s 149)⟩,
      ⟨(some 151), none, .mv (.s 8)⟩,
      ⟨(some 152), none, .iaddr none 1 (.s 150) (.s 151)⟩,
      ⟨(some 153), none, .load none (.s 152)⟩,
      ⟨(some 154), none, .bin .sub (.s 153) (.c (V.int .i64 1))⟩,
      ⟨(some 155), none, .cint .u64 (.s 154)⟩,
      ⟨(some 156), none, .mv (.s 9)⟩,
      ⟨(some 157), none, .bin .mul (.c (V.int .i64 4)) (.s 156)⟩,
      ⟨(some 158), none, .call fn_palanquinref6_Writer_Add [(.s 148), (.s 155), (.s 157)]⟩]
    (.done))))) [] [9, 132, 133, 134, 135, 136, 137, 138, 139, 140, 141, 142, 143, 9, 144, 145, 146, 147, 148, 149, 150, 151, 152, 153, 154, 155, 156, 157, 158]
   (.ops [⟨(some 130), none, .mv (.s 8)⟩,
     ⟨(some 131), none, .bin .add (.s 130) (.c (V.int .i64 1))⟩,
     ⟨(some 8), none, .mv (.s 131)⟩]
   (.done)))
  (.exit 2))

def loop_palanquinref9_Bytes_3 : C :=
  .ops [⟨(some 161), none, .faddr 15 (.s 2)⟩,
    ⟨(some 162), none, .load none (.s 161)⟩,
    ⟨(some 163), none, .mv (.s 162)⟩,
    ⟨(some 164), (some (163, true)), .mv (.s 10)⟩,
    ⟨(some 165), (some (163, true)), .faddr 18 (.s 2)⟩,
    ⟨(some 166), (some (163, true)), .load none (.s 165)⟩,
    ⟨(some 167), (some (163, true)), .len (.s 166)⟩,
    ⟨(some 168), (some (163, true)), .bin .lss (.s 164) (.s 167)⟩,
    ⟨(some 169), none, .pick (.s 163) (.s 168) (.c (V.bool false))⟩]
  (.cond (.s 169)
  (.blk 7
   (.ops [⟨(some 172), none, .mv (.s 6)⟩,
      ⟨(some 173), none, .faddr 18 (.s 2)⟩,
      ⟨(some 174), none, .load none (.s 173)⟩,
      ⟨(some 175), none, .mv (.s 10)⟩,
      ⟨(some 176), none, .iaddr none 1 (.s 174) (.s 175)⟩,
      ⟨(some 177), none, .load none (.s 176)⟩,
      ⟨(some 178), none, .cint .u64 (.s 177)⟩,
      ⟨(some 179), none, .call fn_palanquinref6_Writer_Add [(.s 172), (.s 178), (.c (V.int .i64 8))]⟩]
    (.done)) [] [172, 173, 174, 175, 176, 177, 178, 179]
   (.ops [⟨(some 170), none, .mv (.s 10)⟩,
     ⟨(some 171), none, .bin .add (.s 170) (.c (V.int .i64 1))⟩,
     ⟨(some 10), none, .mv (.s 171)⟩]
   (.done)))
  (.exit 6))

def ir_palanquinref9_Bytes : Fn' := ⟨182, [.tmp 4, .tmp 5],
  .ops [⟨(some 2), none, .box ty_palanquinref9_Frame (.s 0)⟩,
    ⟨(some 3), none, .box ty_palanquinref9_Structure (.s 1)⟩,
    ⟨(some 4), none, .mv (.c V.nils)⟩,
    ⟨(some 5), none, .mv (.c (V.int .i64 0))⟩]
  (.ops [⟨(some 11), none, .load (some 19) (.s 2)⟩,
    ⟨(some 12), none, .load (some 6) (.s 3)⟩,
    ⟨(some 13), none, .call fn_palanquinref9_Good [(.s 11), (.s 12)]⟩,
    ⟨(some 14), none, .un .not (.s 13)⟩]
  (.cond (.s 14)
  (.ops [⟨(some 4), none, .mv (.c V.nils)⟩,
     ⟨(some 5), none, .mv (.c (V.int .i64 1))⟩]
   (.ret))
  (.ops [⟨(some 15), none, .build [V.nils] []⟩,
     ⟨(some 16), none, .box ty_palanquinref6_Writer (.s 15)⟩,
     ⟨(some 6), none, .mv (.s 16)⟩]
   (.ops [⟨(some 17), none, .mv (.s 6)⟩,
     ⟨(some 18), none, .faddr 0 (.s 2)⟩,
     ⟨(some 19), none, .load none (.s 18)⟩,
     ⟨(some 20), none, .call fn_palanquinref9_one [(.s 19)]⟩,
     ⟨(some 21), none, .call fn_palanquinref6_Writer_Add [(.s 17), (.s 20), (.c (V.int .i64 1))]⟩]
   (.ops [⟨(some 22), none, .mv (.s 6)⟩,
     ⟨(some 23), none, .faddr 1 (.s 2)⟩,
     ⟨(some 24), none, .load none (.s 23)⟩,
     ⟨(some 25), none, .call fn_palanquinref9_one [(.s 24)]⟩,
     ⟨(some 26), none, .call fn_palanquinref6_Writer_Add [(.s 22), (.s 25), (.c (V.int .i64 1))]⟩]
   (.ops [⟨(some 27), none, .mv (.s 6)⟩,
     ⟨(some 28), none, .faddr 2 (.s 2)⟩,
     ⟨(some 29), none, .load none (.s 28)⟩,
     ⟨(some 30), none, .cint .u64 (.s 29)⟩,
     ⟨(some 31), none, .call fn_palanquinref6_Writer_Add [(.s 27), (.s 30), (.c (V.int .i64 6))]⟩]
   (.ops [⟨(some 32), none, .mv (.s 6)⟩,
     ⟨(some 33), none, .faddr 3 (.s 2)⟩,
     ⟨(some 34), none, .load none (.s 33)⟩,
     ⟨(some 35), none, .cint .u64 (.s 34)⟩,
     ⟨(some 36), none, .call fn_palanquinref6_Writer_Add [(.s 32), (.s 35), (.c (V.int .i64 16))]⟩]
   (.ops [⟨(some 37), none, .faddr 4 (.s 2)⟩,
     ⟨(some 38), none, .load none (.s 37)⟩,
     ⟨(some 39), none, .un .not (.s 38)⟩,
     ⟨(some 40), none, .mv (.s 39)⟩,
     ⟨(some 41), (some (40, true)), .faddr 11 (.s 2)⟩,
     ⟨(some 42), (some (40, true)), .load none (.s 41)⟩,
     ⟨(some 43), (some (40, true)), .un .not (.s 42)⟩,
     ⟨(some 44), none, .pick (.s 40) (.s 43) (.c (V.bool false))⟩,
     ⟨(some 45), none, .mv (.s 44)⟩,
     ⟨(some 46), (some (45, true)), .faddr 13 (.s 2)⟩,
     ⟨(some 47), (some (45, true)), .load none (.s 46)⟩,
     ⟨(some 48), (some (45, true)), .un .not (.s 47)⟩,
     ⟨(some 49), none, .pick (.s 45) (.s 48) (.c (V.bool false))⟩,
     ⟨(some 50), none, .mv (.s 49)⟩,
     ⟨(some 51), (some (50, true)), .faddr 14 (.s 2)⟩,
     ⟨(some 52), (some (50, true)), .load none (.s 51)⟩,
     ⟨(some 53), (some (50, true)), .un .not (.s 52)⟩,
     ⟨(some 54), none, .pick (.s 50) (.s 53) (.c (V.bool false))⟩,
     ⟨(some 55), none, .mv (.s 54)⟩,
     ⟨(some 56), (some (55, true)), .faddr 15 (.s 2)⟩,
     ⟨(some 57), (some (55, true)), .load none (.s 56)⟩,
     ⟨(some 58), (some (55, true)), .un .not (.s 57)⟩,
     ⟨(some 59), none, .pick (.s 55) (.s 58) (.c (V.bool false))⟩]
   (.cond (.s 59)
   (.ops [⟨(some 60), none, .mv (.s 6)⟩,
      ⟨(some 61), none, .call fn_palanquinref6_Writer_Bytes [(.s 60)]⟩,
      ⟨(some 4), none, .mv (.s 61)⟩,
      ⟨(some 5), none, .mv (.c (V.int .i64 0))⟩]
    (.ret))
   (.ops [⟨(some 62), none, .mv (.s 6)⟩,
      ⟨(some 63), none, .faddr 4 (.s 2)⟩,
      ⟨(some 64), none, .load none (.s 63)⟩,
      ⟨(some 65), none, .call fn_palanquinref9_one [(.s 64)]⟩,
      ⟨(some 66), none, .call fn_palanquinref6_Writer_Add [(.s 62), (.s 65), (.c (V.int .i64 1))]⟩]
    (.ops [⟨(some 67), none, .mv (.s 6)⟩,
      ⟨(some 68), none, .faddr 11 (.s 2)⟩,
      ⟨(some 69), none, .load none (.s 68)⟩,
      ⟨(some 70), none, .call fn_palanquinref9_one [(.s 69)]⟩,
      ⟨(some 71), none, .call fn_palanquinref6_Writer_Add [(.s 67), (.s 70), (.c (V.int .i64 1))]⟩]
    (.ops [⟨(some 72), none, .mv (.s 6)⟩,
      ⟨(some 73), none, .faddr 13 (.s 2)⟩,
      ⟨(some 74), none, .load none (.s 73)⟩,
      ⟨(some 75), none, .call fn_palanquinref9_one [(.s 74)]⟩,
      ⟨(some 76), none, .call fn_palanquinref6_Writer_Add [(.s 72), (.s 75), (.c (V.int .i64 1))]⟩]
    (.ops [⟨(some 77), none, .mv (.s 6)⟩,
      ⟨(some 78), none, .faddr 14 (.s 2)⟩,
      ⟨(some 79), none, .load none (.s 78)⟩,
      ⟨(some 80), none, .call fn_palanquinref9_one [(.s 79)]⟩,
      ⟨(some 81), none, .call fn_palanquinref6_Writer_Add [(.s 77), (.s 80), (.c (V.int .i64 1))]⟩]
    (.ops [⟨(some 82), none, .mv (.s 6)⟩,
      ⟨(some 83), none, .faddr 15 (.s 2)⟩,
      ⟨(some 84), none, .load none (.s 83)⟩,
      ⟨(some 85), none, .call fn_palanquinref9_one [(.s 84)]⟩,
      ⟨(some 86), none, .call fn_palanquinref6_Writer_Add [(.s 82), (.s 85), (.c (V.int .i64 1))]⟩]
    (.ops [⟨(some 87), none, .faddr 4 (.s 2)⟩,
      ⟨(some 88), none, .load none (.s 87)⟩]
    (.condJ (.s 88)
    (.ops [⟨(some 89), none, .mv (.s 6)⟩,
       ⟨(some 90), none, .faddr 5 (.s 2)⟩,
       ⟨(some 91), none, .load (some 6) (.s 90)⟩,
       ⟨(some 92), none, .call fn_palanquinref9_writes [(.s 89), (.s 91)]⟩]
     (.done))
    (.done) [] [89, 90, 91, 92]
    (.ops [⟨(some 93), none, .faddr 11 (.s 2)⟩,
      ⟨(some 94), none, .load none (.s 93)⟩]
    (.condJ (.s 94)
    (.draw [⟨(some 95), none, .mv (.s 6)⟩,
       ⟨(some 96), none, .faddr 12 (.s 2)⟩,
       ⟨(some 97), none, .load none (.s 96)⟩,
       ⟨(some 98), none, .cint .u64 (.s 97)⟩,
       ⟨(some 99), none, .load (some 19) (.s 2)⟩,
       ⟨(some 100), none, .load (some 6) (.s 3)⟩,
       ⟨(some 101), none, .call fn_palanquinref9_holds [(.s 99), (.s 100)]⟩,
       ⟨(some 102), none, .field 1 none (.s 101)⟩,
       ⟨(some 103), none, .call fn_palanquinref6_Writer_Add [(.s 95), (.s 98), (.s 102)]⟩] [(2, 6)]
     (.done))
    (.done) [] [95, 96, 97, 98, 99, 100, 101, 102, 103]
    (.ops [⟨(some 7), none, .mv (.c (V.int .i64 0))⟩]
    (.blk 0
    (.loop loop_palanquinref9_Bytes_0 [7] [104, 105, 106, 107, 108, 109, 110, 111, 112, 115, 116, 117, 118, 119, 120, 121, 122, 113, 114, 7]) [] [104, 105, 106, 107, 108, 109, 110, 111, 112, 115, 116, 117, 118, 119, 120, 121, 122, 113, 114, 7]
    (.ops [⟨(some 123), none, .faddr 14 (.s 2)⟩,
      ⟨(some 124), none, .load none (.s 123)⟩]
    (.condJ (.s 124)
    (.ops [⟨(some 8), none, .mv (.c (V.int .i64 0))⟩]
     (.blk 2
     (.loop loop_palanquinref9_Bytes_2 [8] [125, 126, 127, 128, 129, 9, 132, 133, 134, 135, 136, 137, 138, 139, 140, 141, 142, 143, 9, 144, 145, 146, 147, 148, 149, 150, 151, 152, 153, 154, 155, 156, 157, 158, 130, 131, 8]) [] [125, 126, 127, 128, 129, 9, 132, 133, 134, 135, 136, 137, 138, 139, 140, 141, 142, 143, 9, 144, 145, 146, 147, 148, 149, 150, 151, 152, 153, 154, 155, 156, 157, 158, 130, 131, 8]
     (.ops [⟨(some 159), none, .mv (.s 6)⟩,
       ⟨(some 160), none, .call fn_palanquinref6_Writer_Add [(.s 159), (.c (V.int .u64 0)), (.c (V.int .i64 2))]⟩]
     (.done))))
    (.done) [] [8, 125, 126, 127, 128, 129, 9, 132, 133, 134, 135, 136, 137, 138, 139, 140, 141, 142, 143, 9, 144, 145, 146, 147, 148, 149, 150, 151, 152, 153, 154, 155, 156, 157, 158, 130, 131, 8, 159, 160]
    (.ops [⟨(some 10), none, .mv (.c (V.int .i64 0))⟩]
    (.blk 6
    (.loop loop_palanquinref9_Bytes_3 [10] [161, 162, 163, 164, 165, 166, 167, 168, 169, 172, 173, 174, 175, 176, 177, 178, 179, 170, 171, 10]) [] [161, 162, 163, 164, 165, 166, 167, 168, 169, 172, 173, 174, 175, 176, 177, 178, 179, 170, 171, 10]
    (.ops [⟨(some 180), none, .mv (.s 6)⟩,
      ⟨(some 181), none, .call fn_palanquinref6_Writer_Bytes [(.s 180)]⟩,
      ⟨(some 4), none, .mv (.s 181)⟩,
      ⟨(some 5), none, .mv (.c (V.int .i64 0))⟩]
    (.ret))))))))))))))))))))))))))⟩

noncomputable def f_palanquinref9_Bytes_0 (G : Sem') (t6 t2 t4 t5 : V) (L : List V) : M Res :=
  (M.lift (Ax.faddr 13 t2)).bind fun t104 =>
  (mload none t104).bind fun t105 =>
  (guarded [(0, t105)] (some (0, true)) (M.pure (L.getD 0 .undef))).bind fun t107 =>
  (guarded [(0, t105)] (some (0, true)) (M.lift (Ax.faddr 16 t2))).bind fun t108 =>
  (guarded [(0, t105)] (some (0, true)) (mload none t108)).bind fun t109 =>
  (guarded [(0, t105)] (some (0, true)) (M.lift (vlen t109))).bind fun t110 =>
  (guarded [(0, t105)] (some (0, true)) (M.lift (Ax.bin .lss t107 t110))).bind fun t111 =>
  (M.lift (Ax.pick t105 t111 (V.bool false))).bind fun t112 =>
  M.ite t112
    (M.blk 1 (
      (M.lift (Ax.faddr 16 t2)).bind fun t116 =>
      (mload none t116).bind fun t117 =>
      (M.lift (Ax.iaddr none 1 t117 (L.getD 0 .undef))).bind fun t119 =>
      (mload none t119).bind fun t120 =>
      (M.lift (Ax.cint .u64 t120)).bind fun t121 =>
      (G fn_palanquinref6_Writer_Add [t6, t121, (V.int .i64 2)]).bind fun t122 =>
      M.pure (.nrm [])) fun _ =>
    (M.lift (Ax.bin .add (L.getD 0 .undef) (V.int .i64 1))).bind fun t114 =>
    M.pure (.nrm [t114]))
    (M.pure (.ex 0 []))

noncomputable def f_palanquinref9_Bytes_1 (G : Sem') (t2 t8 t4 t5 : V) (L : List V) : M Res :=
  (M.lift (Ax.faddr 17 t2)).bind fun t132 =>
  (mload none t132).bind fun t133 =>
  (M.lift (Ax.iaddr none 1 t133 t8)).bind fun t135 =>
  (mload none t135).bind fun t136 =>
  (M.lift (Ax.bin .mul (V.int .i64 4) (L.getD 0 .undef))).bind fun t138 =>
  (M.lift (Ax.cint .u64 t138)).bind fun t139 =>
  (M.lift (Ax.bin .shl (V.int .i64 1) t139)).bind fun t140 =>
  (M.lift (Ax.bin .gtr t136 t140)).bind fun t141 =>
  M.ite t141
    (M.blk 5 (
      (M.lift (Ax.bin .add (L.getD 0 .undef) (V.int .i64 1))).bind fun t143 =>
      M.pure (.nrm [t143])) fun L4 =>
    M.pure (.nrm [(L4.getD 0 .undef)]))
    (M.pure (.ex 4 [(L.getD 0 .undef)]))

noncomputable def f_palanquinref9_Bytes_2 (G : Sem') (t6 t2 t4 t5 : V) (L : List V) : M Res :=
  (M.lift (Ax.faddr 17 t2)).bind fun t126 =>
  (mload none t126).bind fun t127 =>
  (M.lift (vlen t127)).bind fun t128 =>
  (M.lift (Ax.bin .lss (L.getD 0 .undef) t128)).bind fun t129 =>
  M.ite t129
    (M.blk 3 (
      M.blk 4 (
        M.iter (f_palanquinref9_Bytes_1 G t2 (L.getD 0 .undef) t4 t5) [(V.int .i64 1)]) fun L5 =>
      (M.lift (Ax.cint .u64 (L5.getD 0 .undef))).bind fun t146 =>
      (G fn_palanquinref6_Writer_Add [t6, t146, (V.int .i64 2)]).bind fun t147 =>
      (M.lift (Ax.faddr 17 t2)).bind fun t149 =>
      (mload none t149).bind fun t150 =>
      (M.lift (Ax.iaddr none 1 t150 (L.getD 0 .undef))).bind fun t152 =>
      (mload none t152).bind fun t153 =>
      (M.lift (Ax.bin .sub t153 (V.int .i64 1))).bind fun t154 =>
      (M.lift (Ax.cint .u64 t154)).bind fun t155 =>
      (M.lift (Ax.bin .mul (V.int .i64 4) (L5.getD 0 .undef))).bind fun t157 =>
      (G fn_palanquinref6_Writer_Add [t6, t155, t157]).bind fun t158 =>
      M.pure (.nrm [])) fun _ =>
    (M.lift (Ax.bin .add (L.getD 0 .undef) (V.int .i64 1))).bind fun t131 =>
    M.pure (.nrm [t131]))
    (M.pure (.ex 2 []))

noncomputable def f_palanquinref9_Bytes_3 (G : Sem') (t6 t2 t4 t5 : V) (L : List V) : M Res :=
  (M.lift (Ax.faddr 15 t2)).bind fun t161 =>
  (mload none t161).bind fun t162 =>
  (guarded [(0, t162)] (some (0, true)) (M.pure (L.getD 0 .undef))).bind fun t164 =>
  (guarded [(0, t162)] (some (0, true)) (M.lift (Ax.faddr 18 t2))).bind fun t165 =>
  (guarded [(0, t162)] (some (0, true)) (mload none t165)).bind fun t166 =>
  (guarded [(0, t162)] (some (0, true)) (M.lift (vlen t166))).bind fun t167 =>
  (guarded [(0, t162)] (some (0, true)) (M.lift (Ax.bin .lss t164 t167))).bind fun t168 =>
  (M.lift (Ax.pick t162 t168 (V.bool false))).bind fun t169 =>
  M.ite t169
    (M.blk 7 (
      (M.lift (Ax.faddr 18 t2)).bind fun t173 =>
      (mload none t173).bind fun t174 =>
      (M.lift (Ax.iaddr none 1 t174 (L.getD 0 .undef))).bind fun t176 =>
      (mload none t176).bind fun t177 =>
      (M.lift (Ax.cint .u64 t177)).bind fun t178 =>
      (G fn_palanquinref6_Writer_Add [t6, t178, (V.int .i64 8)]).bind fun t179 =>
      M.pure (.nrm [])) fun _ =>
    (M.lift (Ax.bin .add (L.getD 0 .undef) (V.int .i64 1))).bind fun t171 =>
    M.pure (.nrm [t171]))
    (M.pure (.ex 6 []))

noncomputable def f_palanquinref9_Bytes (G : Sem') (t0 t1 : V) : M Res :=
  (mbox ty_palanquinref9_Frame t0).bind fun t2 =>
  (mbox ty_palanquinref9_Structure t1).bind fun t3 =>
  (mload (some 19) t2).bind fun t11 =>
  (mload (some 6) t3).bind fun t12 =>
  (G fn_palanquinref9_Good [t11, t12]).bind fun t13 =>
  (M.lift (Ax.un .not t13)).bind fun t14 =>
  M.ite t14
    (M.pure (.ret [V.nils, (V.int .i64 1)]))
    ((M.lift (Ax.build [V.nils] [])).bind fun t15 =>
    (mbox ty_palanquinref6_Writer t15).bind fun t16 =>
    (M.lift (Ax.faddr 0 t2)).bind fun t18 =>
    (mload none t18).bind fun t19 =>
    (G fn_palanquinref9_one [t19]).bind fun t20 =>
    (G fn_palanquinref6_Writer_Add [t16, t20, (V.int .i64 1)]).bind fun t21 =>
    (M.lift (Ax.faddr 1 t2)).bind fun t23 =>
    (mload none t23).bind fun t24 =>
    (G fn_palanquinref9_one [t24]).bind fun t25 =>
    (G fn_palanquinref6_Writer_Add [t16, t25, (V.int .i64 1)]).bind fun t26 =>
    (M.lift (Ax.faddr 2 t2)).bind fun t28 =>
    (mload none t28).bind fun t29 =>
    (M.lift (Ax.cint .u64 t29)).bind fun t30 =>
    (G fn_palanquinref6_Writer_Add [t16, t30, (V.int .i64 6)]).bind fun t31 =>
    (M.lift (Ax.faddr 3 t2)).bind fun t33 =>
    (mload none t33).bind fun t34 =>
    (M.lift (Ax.cint .u64 t34)).bind fun t35 =>
    (G fn_palanquinref6_Writer_Add [t16, t35, (V.int .i64 16)]).bind fun t36 =>
    (M.lift (Ax.faddr 4 t2)).bind fun t37 =>
    (mload none t37).bind fun t38 =>
    (M.lift (Ax.un .not t38)).bind fun t39 =>
    (guarded [(0, t39)] (some (0, true)) (M.lift (Ax.faddr 11 t2))).bind fun t41 =>
    (guarded [(0, t39)] (some (0, true)) (mload none t41)).bind fun t42 =>
    (guarded [(0, t39)] (some (0, true)) (M.lift (Ax.un .not t42))).bind fun t43 =>
    (M.lift (Ax.pick t39 t43 (V.bool false))).bind fun t44 =>
    (guarded [(0, t44)] (some (0, true)) (M.lift (Ax.faddr 13 t2))).bind fun t46 =>
    (guarded [(0, t44)] (some (0, true)) (mload none t46)).bind fun t47 =>
    (guarded [(0, t44)] (some (0, true)) (M.lift (Ax.un .not t47))).bind fun t48 =>
    (M.lift (Ax.pick t44 t48 (V.bool false))).bind fun t49 =>
    (guarded [(0, t49)] (some (0, true)) (M.lift (Ax.faddr 14 t2))).bind fun t51 =>
    (guarded [(0, t49)] (some (0, true)) (mload none t51)).bind fun t52 =>
    (guarded [(0, t49)] (some (0, true)) (M.lift (Ax.un .not t52))).bind fun t53 =>
    (M.lift (Ax.pick t49 t53 (V.bool false))).bind fun t54 =>
    (guarded [(0, t54)] (some (0, true)) (M.lift (Ax.faddr 15 t2))).bind fun t56 =>
    (guarded [(0, t54)] (some (0, true)) (mload none t56)).bind fun t57 =>
    (guarded [(0, t54)] (some (0, true)) (M.lift (Ax.un .not t57))).bind fun t58 =>
    (M.lift (Ax.pick t54 t58 (V.bool false))).bind fun t59 =>
    M.ite t59
      ((G fn_palanquinref6_Writer_Bytes [t16]).bind fun t61 =>
      M.pure (.ret [t61, (V.int .i64 0)]))
      ((M.lift (Ax.faddr 4 t2)).bind fun t63 =>
      (mload none t63).bind fun t64 =>
      (G fn_palanquinref9_one [t64]).bind fun t65 =>
      (G fn_palanquinref6_Writer_Add [t16, t65, (V.int .i64 1)]).bind fun t66 =>
      (M.lift (Ax.faddr 11 t2)).bind fun t68 =>
      (mload none t68).bind fun t69 =>
      (G fn_palanquinref9_one [t69]).bind fun t70 =>
      (G fn_palanquinref6_Writer_Add [t16, t70, (V.int .i64 1)]).bind fun t71 =>
      (M.lift (Ax.faddr 13 t2)).bind fun t73 =>
      (mload none t73).bind fun t74 =>
      (G fn_palanquinref9_one [t74]).bind fun t75 =>
      (G fn_palanquinref6_Writer_Add [t16, t75, (V.int .i64 1)]).bind fun t76 =>
      (M.lift (Ax.faddr 14 t2)).bind fun t78 =>
      (mload none t78).bind fun t79 =>
      (G fn_palanquinref9_one [t79]).bind fun t80 =>
      (G fn_palanquinref6_Writer_Add [t16, t80, (V.int .i64 1)]).bind fun t81 =>
      (M.lift (Ax.faddr 15 t2)).bind fun t83 =>
      (mload none t83).bind fun t84 =>
      (G fn_palanquinref9_one [t84]).bind fun t85 =>
      (G fn_palanquinref6_Writer_Add [t16, t85, (V.int .i64 1)]).bind fun t86 =>
      (M.lift (Ax.faddr 4 t2)).bind fun t87 =>
      (mload none t87).bind fun t88 =>
      M.join (M.ite t88
        ((M.lift (Ax.faddr 5 t2)).bind fun t90 =>
        (mload (some 6) t90).bind fun t91 =>
        (G fn_palanquinref9_writes [t16, t91]).bind fun t92 =>
        M.pure (.nrm []))
        (M.pure (.nrm []))) fun _ =>
      (M.lift (Ax.faddr 11 t2)).bind fun t93 =>
      (mload none t93).bind fun t94 =>
      M.join (M.ite t94
        ((M.lift (Ax.faddr 12 t2)).bind fun t96 =>
        (mload none t96).bind fun t97 =>
        (M.lift (Ax.cint .u64 t97)).bind fun t98 =>
        (mload (some 19) t2).bind fun t99 =>
        (mload (some 6) t3).bind fun t100 =>
        M.getH.bind fun h0 =>
        (G fn_palanquinref9_holds [t99, t100]).bind fun t101 =>
        M.getH.bind fun h0' =>
        (M.unch t96 h0 h0').bind fun _ =>
        (M.lift (Ax.field 1 none t101)).bind fun t102 =>
        (G fn_palanquinref6_Writer_Add [t16, t98, t102]).bind fun t103 =>
        M.pure (.nrm []))
        (M.pure (.nrm []))) fun _ =>
      M.blk 0 (
        M.iter (f_palanquinref9_Bytes_0 G t16 t2 V.nils (V.int .i64 0)) [(V.int .i64 0)]) fun _ =>
      (M.lift (Ax.faddr 14 t2)).bind fun t123 =>
      (mload none t123).bind fun t124 =>
      M.join (M.ite t124
        (M.blk 2 (
          M.iter (f_palanquinref9_Bytes_2 G t16 t2 V.nils (V.int .i64 0)) [(V.int .i64 0)]) fun _ =>
        (G fn_palanquinref6_Writer_Add [t16, (V.int .u64 0), (V.int .i64 2)]).bind fun t160 =>
        M.pure (.nrm []))
        (M.pure (.nrm []))) fun _ =>
      M.blk 6 (
        M.iter (f_palanquinref9_Bytes_3 G t16 t2 V.nils (V.int .i64 0)) [(V.int .i64 0)]) fun _ =>
      (G fn_palanquinref6_Writer_Bytes [t16]).bind fun t181 =>
      M.pure (.ret [t181, (V.int .i64 0)])))

theorem eq_palanquinref9_Bytes (G : Sem') (t0 t1 : V) : execK G ir_palanquinref9_Bytes.rv ir_palanquinref9_Bytes.body [] [] (params 0 [t0, t1]) = f_palanquinref9_Bytes G t0 t1 := by kernel_rfl

theorem tb_palanquinref9_Bytes : T fn_palanquinref9_Bytes = some ir_palanquinref9_Bytes := by kernel_rfl

theorem ok_palanquinref9_Bytes {t0 t1 : V} {H : Heap} {Q : V → Heap → Prop} (h : Ok (f_palanquinref9_Bytes (sem T) t0 t1) H fun r H' => ∃ L, r = .ret L ∧ Q (tupled L) H') : Ok (sem T fn_palanquinref9_Bytes [t0, t1]) H Q :=
  ok_sem tb_palanquinref9_Bytes (Nat.le_of_ble_eq_true rfl) (eq_palanquinref9_Bytes (sem T) t0 t1) h

/-- palanquin/palanquinref9.Good. -/
def ir_palanquinref9_Good : Fn' := ⟨119, [.tmp 4],
  .ops [⟨(some 2), none, .box ty_palanquinref9_Frame (.s 0)⟩,
    ⟨(some 3), none, .box ty_palanquinref9_Structure (.s 1)⟩,
    ⟨(some 4), none, .mv (.c (V.bool false))⟩]
  (.ops [⟨(some 9), none, .load (some 19) (.s 2)⟩,
    ⟨(some 10), none, .load (some 6) (.s 3)⟩,
    ⟨(some 11), none, .call fn_palanquinref9_Of [(.s 9), (.s 10)]⟩,
    ⟨(some 8), none, .mv (.s 11)⟩,
    ⟨(some 12), none, .ext 0 (.s 8)⟩,
    ⟨(some 13), none, .ext 1 (.s 8)⟩,
    ⟨(some 5), none, .box ty_palanquinref9_Template (.c (V.agg [(V.int .i64 0), (V.int .i64 0), V.nils, V.nils, V.nils]))⟩,
    ⟨none, none, .store 5 (.s 5) (.s 12)⟩,
    ⟨(some 6), none, .mv (.s 13)⟩]
  (.ops [⟨(some 14), none, .mv (.s 6)⟩,
    ⟨(some 15), none, .un .not (.s 14)⟩,
    ⟨(some 16), none, .mv (.s 15)⟩,
    ⟨(some 17), (some (16, false)), .faddr 4 (.s 2)⟩,
    ⟨(some 18), (some (16, false)), .load none (.s 17)⟩,
    ⟨(some 19), (some (16, false)), .un .not (.s 18)⟩,
    ⟨(some 20), (some (16, false)), .mv (.s 19)⟩,
    ⟨(some 21), (some (20, true)), .faddr 5 (.s 2)⟩,
    ⟨(some 22), (some (20, true)), .load (some 6) (.s 21)⟩,
    ⟨(some 23), (some (20, true)), .call fn_palanquinref9_zero [(.s 22)]⟩,
    ⟨(some 24), (some (20, true)), .un .not (.s 23)⟩,
    ⟨(some 25), (some (16, false)), .pick (.s 20) (.s 24) (.c (V.bool false))⟩,
    ⟨(some 26), none, .pick (.s 16) (.c (V.bool true)) (.s 25)⟩]
  (.cond (.s 26)
  (.ops [⟨(some 4), none, .mv (.c (V.bool false))⟩]
   (.ret))
  (.ops [⟨(some 27), none, .load (some 19) (.s 2)⟩,
     ⟨(some 28), none, .load (some 6) (.s 3)⟩,
     ⟨(some 29), none, .call fn_palanquinref9_holds [(.s 27), (.s 28)]⟩,
     ⟨(some 7), none, .box ty_palanquinref9_Structure (.c (V.agg [(V.int .i64 0), (V.int .i64 0), V.nils, (V.int .i64 0), V.nils, V.nils]))⟩,
     ⟨none, none, .store 6 (.s 7) (.s 29)⟩]
   (.ops [⟨(some 30), none, .faddr 11 (.s 2)⟩,
     ⟨(some 31), none, .load none (.s 30)⟩,
     ⟨(some 32), none, .un .not (.s 31)⟩,
     ⟨(some 33), none, .mv (.s 32)⟩,
     ⟨(some 34), (some (33, true)), .faddr 12 (.s 2)⟩,
     ⟨(some 35), (some (33, true)), .load none (.s 34)⟩,
     ⟨(some 36), (some (33, true)), .bin .neq (.s 35) (.c (V.int .u32 0))⟩,
     ⟨(some 37), none, .pick (.s 33) (.s 36) (.c (V.bool false))⟩,
     ⟨(some 38), none, .mv (.s 37)⟩,
     ⟨(some 39), (some (38, false)), .faddr 12 (.s 2)⟩,
     ⟨(some 40), (some (38, false)), .load none (.s 39)⟩,
     ⟨(some 41), (some (38, false)), .cint .u64 (.s 40)⟩,
     ⟨(some 42), (some (38, false)), .faddr 1 (.s 7)⟩,
     ⟨(some 43), (some (38, false)), .load none (.s 42)⟩,
     ⟨(some 44), (some (38, false)), .cint .u64 (.s 43)⟩,
     ⟨(some 45), (some (38, false)), .bin .shr (.s 41) (.s 44)⟩,
     ⟨(some 46), (some (38, false)), .bin .neq (.s 45) (.c (V.int .u64 0))⟩,
     ⟨(some 47), none, .pick (.s 38) (.c (V.bool true)) (.s 46)⟩]
   (.cond (.s 47)
   (.ops [⟨(some 4), none, .mv (.c (V.bool false))⟩]
    (.ret))
   (.ops [⟨(some 48), none, .faddr 13 (.s 2)⟩,
      ⟨(some 49), none, .load none (.s 48)⟩,
      ⟨(some 50), none, .un .not (.s 49)⟩,
      ⟨(some 51), none, .mv (.s 50)⟩,
      ⟨(some 52), (some (51, true)), .faddr 16 (.s 2)⟩,
      ⟨(some 53), (some (51, true)), .load none (.s 52)⟩,
      ⟨(some 54), (some (51, true)), .faddr 2 (.s 5)⟩,
      ⟨(some 55), (some (51, true)), .load none (.s 54)⟩,
      ⟨(some 56), (some (51, true)), .call fn_palanquinref9_SameInts [(.s 53), (.s 55)]⟩,
      ⟨(some 57), (some (51, true)), .un .not (.s 56)⟩,
      ⟨(some 58), none, .pick (.s 51) (.s 57) (.c (V.bool false))⟩,
      ⟨(some 59), none, .mv (.s 58)⟩,
      ⟨(some 60), (some (59, false)), .faddr 13 (.s 2)⟩,
      ⟨(some 61), (some (59, false)), .load none (.s 60)⟩,
      ⟨(some 62), (some (59, false)), .mv (.s 61)⟩,
      ⟨(some 63), (some (62, true)), .faddr 16 (.s 2)⟩,
      ⟨(some 64), (some (62, true)), .load none (.s 63)⟩,
      ⟨(some 65), (some (62, true)), .faddr 1 (.s 7)⟩,
      ⟨(some 66), (some (62, true)), .load none (.s 65)⟩,
      ⟨(some 67), (some (62, true)), .call fn_palanquinref9_within [(.s 64), (.s 66), (.c (V.int .i64 0)), (.c (V.int .i64 3))]⟩,
      ⟨(some 68), (some (62, true)), .un .not (.s 67)⟩,
      ⟨(some 69), (some (59, false)), .pick (.s 62) (.s 68) (.c (V.bool false))⟩,
      ⟨(some 70), none, .pick (.s 59) (.c (V.bool true)) (.s 69)⟩]
    (.cond (.s 70)
    (.ops [⟨(some 4), none, .mv (.c (V.bool false))⟩]
     (.ret))
    (.ops [⟨(some 71), none, .faddr 14 (.s 2)⟩,
       ⟨(some 72), none, .load none (.s 71)⟩,
       ⟨(some 73), none, .un .not (.s 72)⟩,
       ⟨(some 74), none, .mv (.s 73)⟩,
       ⟨(some 75), (some (74, true)), .faddr 17 (.s 2)⟩,
       ⟨(some 76), (some (74, true)), .load none (.s 75)⟩,
       ⟨(some 77), (some (74, true)), .faddr 3 (.s 5)⟩,
       ⟨(some 78), (some (74, true)), .load none (.s 77)⟩,
       ⟨(some 79), (some (74, true)), .call fn_palanquinref9_SameInts [(.s 76), (.s 78)]⟩,
       ⟨(some 80), (some (74, true)), .un .not (.s 79)⟩,
       ⟨(some 81), none, .pick (.s 74) (.s 80) (.c (V.bool false))⟩,
       ⟨(some 82), none, .mv (.s 81)⟩,
       ⟨(some 83), (some (82, false)), .faddr 14 (.s 2)⟩,
       ⟨(some 84), (some (82, false)), .load none (.s 83)⟩,
       ⟨(some 85), (some (82, false)), .mv (.s 84)⟩,
       ⟨(some 86), (some (85, true)), .faddr 17 (.s 2)⟩,
       ⟨(some 87), (some (85, true)), .load none (.s 86)⟩,
       ⟨(some 88), (some (85, true)), .len (.s 87)⟩,
       ⟨(some 89), (some (85, true)), .bin .gtr (.s 88) (.c (V.int .i64 16))⟩,
       ⟨(some 90), (some (85, true)), .mv (.s 89)⟩,
       ⟨(some 91), (some (90, false)), .faddr 17 (.s 2)⟩,
       ⟨(some 92), (some (90, false)), .load none (.s 91)⟩,
       ⟨(some 93), (some (90, false)), .call fn_palanquinref9_within [(.s 92), (.c (V.int .i64 (-1))), (.c (V.int .i64 1)), (.c (V.int .i64 4096))]⟩,
       ⟨(some 94), (some (90, false)), .un .not (.s 93)⟩,
       ⟨(some 95), (some (85, true)), .pick (.s 90) (.c (V.bool true)) (.s 94)⟩,
       ⟨(some 96), (some (82, false)), .pick (.s 85) (.s 95) (.c (V.bool false))⟩,
       ⟨(some 97), none, .pick (.s 82) (.c (V.bool true)) (.s 96)⟩]
     (.cond (.s 97)
     (.ops [⟨(some 4), none, .mv (.c (V.bool false))⟩]
      (.ret))
     (.ops [⟨(some 98), none, .faddr 15 (.s 2)⟩,
        ⟨(some 99), none, .load none (.s 98)⟩,
        ⟨(some 100), none, .un .not (.s 99)⟩,
        ⟨(some 101), none, .mv (.s 100)⟩,
        ⟨(some 102), (some (101, true)), .faddr 18 (.s 2)⟩,
        ⟨(some 103), (some (101, true)), .load none (.s 102)⟩,
        ⟨(some 104), (some (101, true)), .faddr 4 (.s 5)⟩,
        ⟨(some 105), (some (101, true)), .load none (.s 104)⟩,
        ⟨(some 106), (some (101, true)), .call fn_palanquinref9_SameInts [(.s 103), (.s 105)]⟩,
        ⟨(some 107), none, .pick (.s 101) (.s 106) (.c (V.bool false))⟩,
        ⟨(some 108), none, .mv (.s 107)⟩,
        ⟨(some 109), (some (108, false)), .faddr 15 (.s 2)⟩,
        ⟨(some 110), (some (108, false)), .load none (.s 109)⟩,
        ⟨(some 111), (some (108, false)), .mv (.s 110)⟩,
        ⟨(some 112), (some (111, true)), .faddr 18 (.s 2)⟩,
        ⟨(some 113), (some (111, true)), .load none (.s 112)⟩,
        ⟨(some 114), (some (111, true)), .faddr 3 (.s 7)⟩,
        ⟨(some 115), (some (111, true)), .load none (.s 114)⟩,
        ⟨(some 116), (some (111, true)), .call fn_palanquinref9_within [(.s 113), (.s 115), (.c (V.int .i64 0)), (.c (V.int .i64 255))]⟩,
        ⟨(some 117), (some (108, false)), .pick (.s 111) (.s 116) (.c (V.bool false))⟩,
        ⟨(some 118), none, .pick (.s 108) (.c (V.bool true)) (.s 117)⟩,
        ⟨(some 4), none, .mv (.s 118)⟩]
      (.ret))))))))))))⟩

noncomputable def f_palanquinref9_Good (G : Sem') (t0 t1 : V) : M Res :=
  (mbox ty_palanquinref9_Frame t0).bind fun t2 =>
  (mbox ty_palanquinref9_Structure t1).bind fun t3 =>
  (mload (some 19) t2).bind fun t9 =>
  (mload (some 6) t3).bind fun t10 =>
  (G fn_palanquinref9_Of [t9, t10]).bind fun t11 =>
  (M.lift (Ax.ext 0 t11)).bind fun t12 =>
  (M.lift (Ax.ext 1 t11)).bind fun t13 =>
  (mbox ty_palanquinref9_Template (V.agg [(V.int .i64 0), (V.int .i64 0), V.nils, V.nils, V.nils])).bind fun t5 =>
  (mstore 5 t5 t12).bind fun _ =>
  (M.lift (Ax.un .not t13)).bind fun t15 =>
  (guarded [(0, t15)] (some (0, false)) (M.lift (Ax.faddr 4 t2))).bind fun t17 =>
  (guarded [(0, t15)] (some (0, false)) (mload none t17)).bind fun t18 =>
  (guarded [(0, t15)] (some (0, false)) (M.lift (Ax.un .not t18))).bind fun t19 =>
  (guarded [(0, t15)] (some (0, false)) (M.pure t19)).bind fun t20 =>
  (guarded [(0, t20)] (some (0, true)) (M.lift (Ax.faddr 5 t2))).bind fun t21 =>
  (guarded [(0, t20)] (some (0, true)) (mload (some 6) t21)).bind fun t22 =>
  (guarded [(0, t20)] (some (0, true)) (G fn_palanquinref9_zero [t22])).bind fun t23 =>
  (guarded [(0, t20)] (some (0, true)) (M.lift (Ax.un .not t23))).bind fun t24 =>
  (guarded [(0, t15)] (some (0, false)) (M.lift (Ax.pick t20 t24 (V.bool false)))).bind fun t25 =>
  (M.lift (Ax.pick t15 (V.bool true) t25)).bind fun t26 =>
  M.ite t26
    (M.pure (.ret [(V.bool false)]))
    ((mload (some 19) t2).bind fun t27 =>
    (mload (some 6) t3).bind fun t28 =>
    (G fn_palanquinref9_holds [t27, t28]).bind fun t29 =>
    (mbox ty_palanquinref9_Structure (V.agg [(V.int .i64 0), (V.int .i64 0), V.nils, (V.int .i64 0), V.nils, V.nils])).bind fun t7 =>
    (mstore 6 t7 t29).bind fun _ =>
    (M.lift (Ax.faddr 11 t2)).bind fun t30 =>
    (mload none t30).bind fun t31 =>
    (M.lift (Ax.un .not t31)).bind fun t32 =>
    (guarded [(0, t32)] (some (0, true)) (M.lift (Ax.faddr 12 t2))).bind fun t34 =>
    (guarded [(0, t32)] (some (0, true)) (mload none t34)).bind fun t35 =>
    (guarded [(0, t32)] (some (0, true)) (M.lift (Ax.bin .neq t35 (V.int .u32 0)))).bind fun t36 =>
    (M.lift (Ax.pick t32 t36 (V.bool false))).bind fun t37 =>
    (guarded [(0, t37)] (some (0, false)) (M.lift (Ax.faddr 12 t2))).bind fun t39 =>
    (guarded [(0, t37)] (some (0, false)) (mload none t39)).bind fun t40 =>
    (guarded [(0, t37)] (some (0, false)) (M.lift (Ax.cint .u64 t40))).bind fun t41 =>
    (guarded [(0, t37)] (some (0, false)) (M.lift (Ax.faddr 1 t7))).bind fun t42 =>
    (guarded [(0, t37)] (some (0, false)) (mload none t42)).bind fun t43 =>
    (guarded [(0, t37)] (some (0, false)) (M.lift (Ax.cint .u64 t43))).bind fun t44 =>
    (guarded [(0, t37)] (some (0, false)) (M.lift (Ax.bin .shr t41 t44))).bind fun t45 =>
    (guarded [(0, t37)] (some (0, false)) (M.lift (Ax.bin .neq t45 (V.int .u64 0)))).bind fun t46 =>
    (M.lift (Ax.pick t37 (V.bool true) t46)).bind fun t47 =>
    M.ite t47
      (M.pure (.ret [(V.bool false)]))
      ((M.lift (Ax.faddr 13 t2)).bind fun t48 =>
      (mload none t48).bind fun t49 =>
      (M.lift (Ax.un .not t49)).bind fun t50 =>
      (guarded [(0, t50)] (some (0, true)) (M.lift (Ax.faddr 16 t2))).bind fun t52 =>
      (guarded [(0, t50)] (some (0, true)) (mload none t52)).bind fun t53 =>
      (guarded [(0, t50)] (some (0, true)) (M.lift (Ax.faddr 2 t5))).bind fun t54 =>
      (guarded [(0, t50)] (some (0, true)) (mload none t54)).bind fun t55 =>
      (guarded [(0, t50)] (some (0, true)) (G fn_palanquinref9_SameInts [t53, t55])).bind fun t56 =>
      (guarded [(0, t50)] (some (0, true)) (M.lift (Ax.un .not t56))).bind fun t57 =>
      (M.lift (Ax.pick t50 t57 (V.bool false))).bind fun t58 =>
      (guarded [(0, t58)] (some (0, false)) (M.lift (Ax.faddr 13 t2))).bind fun t60 =>
      (guarded [(0, t58)] (some (0, false)) (mload none t60)).bind fun t61 =>
      (guarded [(0, t58)] (some (0, false)) (M.pure t61)).bind fun t62 =>
      (guarded [(0, t62)] (some (0, true)) (M.lift (Ax.faddr 16 t2))).bind fun t63 =>
      (guarded [(0, t62)] (some (0, true)) (mload none t63)).bind fun t64 =>
      (guarded [(0, t62)] (some (0, true)) (M.lift (Ax.faddr 1 t7))).bind fun t65 =>
      (guarded [(0, t62)] (some (0, true)) (mload none t65)).bind fun t66 =>
      (guarded [(0, t62)] (some (0, true)) (G fn_palanquinref9_within [t64, t66, (V.int .i64 0), (V.int .i64 3)])).bind fun t67 =>
      (guarded [(0, t62)] (some (0, true)) (M.lift (Ax.un .not t67))).bind fun t68 =>
      (guarded [(0, t58)] (some (0, false)) (M.lift (Ax.pick t62 t68 (V.bool false)))).bind fun t69 =>
      (M.lift (Ax.pick t58 (V.bool true) t69)).bind fun t70 =>
      M.ite t70
        (M.pure (.ret [(V.bool false)]))
        ((M.lift (Ax.faddr 14 t2)).bind fun t71 =>
        (mload none t71).bind fun t72 =>
        (M.lift (Ax.un .not t72)).bind fun t73 =>
        (guarded [(0, t73)] (some (0, true)) (M.lift (Ax.faddr 17 t2))).bind fun t75 =>
        (guarded [(0, t73)] (some (0, true)) (mload none t75)).bind fun t76 =>
        (guarded [(0, t73)] (some (0, true)) (M.lift (Ax.faddr 3 t5))).bind fun t77 =>
        (guarded [(0, t73)] (some (0, true)) (mload none t77)).bind fun t78 =>
        (guarded [(0, t73)] (some (0, true)) (G fn_palanquinref9_SameInts [t76, t78])).bind fun t79 =>
        (guarded [(0, t73)] (some (0, true)) (M.lift (Ax.un .not t79))).bind fun t80 =>
        (M.lift (Ax.pick t73 t80 (V.bool false))).bind fun t81 =>
        (guarded [(0, t81)] (some (0, false)) (M.lift (Ax.faddr 14 t2))).bind fun t83 =>
        (guarded [(0, t81)] (some (0, false)) (mload none t83)).bind fun t84 =>
        (guarded [(0, t81)] (some (0, false)) (M.pure t84)).bind fun t85 =>
        (guarded [(0, t85)] (some (0, true)) (M.lift (Ax.faddr 17 t2))).bind fun t86 =>
        (guarded [(0, t85)] (some (0, true)) (mload none t86)).bind fun t87 =>
        (guarded [(0, t85)] (some (0, true)) (M.lift (vlen t87))).bind fun t88 =>
        (guarded [(0, t85)] (some (0, true)) (M.lift (Ax.bin .gtr t88 (V.int .i64 16)))).bind fun t89 =>
        (guarded [(0, t85)] (some (0, true)) (M.pure t89)).bind fun t90 =>
        (guarded [(0, t90)] (some (0, false)) (M.lift (Ax.faddr 17 t2))).bind fun t91 =>
        (guarded [(0, t90)] (some (0, false)) (mload none t91)).bind fun t92 =>
        (guarded [(0, t90)] (some (0, false)) (G fn_palanquinref9_within [t92, (V.int .i64 (-1)), (V.int .i64 1), (V.int .i64 4096)])).bind fun t93 =>
        (guarded [(0, t90)] (some (0, false)) (M.lift (Ax.un .not t93))).bind fun t94 =>
        (guarded [(0, t85)] (some (0, true)) (M.lift (Ax.pick t90 (V.bool true) t94))).bind fun t95 =>
        (guarded [(0, t81)] (some (0, false)) (M.lift (Ax.pick t85 t95 (V.bool false)))).bind fun t96 =>
        (M.lift (Ax.pick t81 (V.bool true) t96)).bind fun t97 =>
        M.ite t97
          (M.pure (.ret [(V.bool false)]))
          ((M.lift (Ax.faddr 15 t2)).bind fun t98 =>
          (mload none t98).bind fun t99 =>
          (M.lift (Ax.un .not t99)).bind fun t100 =>
          (guarded [(0, t100)] (some (0, true)) (M.lift (Ax.faddr 18 t2))).bind fun t102 =>
          (guarded [(0, t100)] (some (0, true)) (mload none t102)).bind fun t103 =>
          (guarded [(0, t100)] (some (0, true)) (M.lift (Ax.faddr 4 t5))).bind fun t104 =>
          (guarded [(0, t100)] (some (0, true)) (mload none t104)).bind fun t105 =>
          (guarded [(0, t100)] (some (0, true)) (G fn_palanquinref9_SameInts [t103, t105])).bind fun t106 =>
          (M.lift (Ax.pick t100 t106 (V.bool false))).bind fun t107 =>
          (guarded [(0, t107)] (some (0, false)) (M.lift (Ax.faddr 15 t2))).bind fun t109 =>
          (guarded [(0, t107)] (some (0, false)) (mload none t109)).bind fun t110 =>
          (guarded [(0, t107)] (some (0, false)) (M.pure t110)).bind fun t111 =>
          (guarded [(0, t111)] (some (0, true)) (M.lift (Ax.faddr 18 t2))).bind fun t112 =>
          (guarded [(0, t111)] (some (0, true)) (mload none t112)).bind fun t113 =>
          (guarded [(0, t111)] (some (0, true)) (M.lift (Ax.faddr 3 t7))).bind fun t114 =>
          (guarded [(0, t111)] (some (0, true)) (mload none t114)).bind fun t115 =>
          (guarded [(0, t111)] (some (0, true)) (G fn_palanquinref9_within [t113, t115, (V.int .i64 0), (V.int .i64 255)])).bind fun t116 =>
          (guarded [(0, t107)] (some (0, false)) (M.lift (Ax.pick t111 t116 (V.bool false)))).bind fun t117 =>
          (M.lift (Ax.pick t107 (V.bool true) t117)).bind fun t118 =>
          M.pure (.ret [t118])))))

theorem eq_palanquinref9_Good (G : Sem') (t0 t1 : V) : execK G ir_palanquinref9_Good.rv ir_palanquinref9_Good.body [] [] (params 0 [t0, t1]) = f_palanquinref9_Good G t0 t1 := by kernel_rfl

theorem tb_palanquinref9_Good : T fn_palanquinref9_Good = some ir_palanquinref9_Good := by kernel_rfl

theorem ok_palanquinref9_Good {t0 t1 : V} {H : Heap} {Q : V → Heap → Prop} (h : Ok (f_palanquinref9_Good (sem T) t0 t1) H fun r H' => ∃ L, r = .ret L ∧ Q (tupled L) H') : Ok (sem T fn_palanquinref9_Good [t0, t1]) H Q :=
  ok_sem tb_palanquinref9_Good (Nat.le_of_ble_eq_true rfl) (eq_palanquinref9_Good (sem T) t0 t1) h

/-- palanquin/palanquinref9.Of. -/
def ir_palanquinref9_Of : Fn' := ⟨43, [.cell 4 (some 5), .tmp 5],
  .ops [⟨(some 2), none, .box ty_palanquinref9_Frame (.s 0)⟩,
    ⟨(some 3), none, .box ty_palanquinref9_Structure (.s 1)⟩,
    ⟨(some 4), none, .box ty_palanquinref9_Template (.c (V.agg [(V.int .i64 0), (V.int .i64 0), V.nils, V.nils, V.nils]))⟩,
    ⟨(some 5), none, .mv (.c (V.bool false))⟩]
  (.ops [⟨(some 8), none, .load (some 19) (.s 2)⟩,
    ⟨(some 9), none, .load (some 6) (.s 3)⟩,
    ⟨(some 10), none, .call fn_palanquinref9_holds [(.s 8), (.s 9)]⟩,
    ⟨(some 6), none, .box ty_palanquinref9_Structure (.c (V.agg [(V.int .i64 0), (V.int .i64 0), V.nils, (V.int .i64 0), V.nils, V.nils]))⟩,
    ⟨none, none, .store 6 (.s 6) (.s 10)⟩]
  (.ops [⟨(some 11), none, .faddr 2 (.s 2)⟩,
    ⟨(some 12), none, .load none (.s 11)⟩,
    ⟨(some 13), none, .bin .lss (.s 12) (.c (V.int .i64 0))⟩,
    ⟨(some 14), none, .mv (.s 13)⟩,
    ⟨(some 15), (some (14, false)), .faddr 2 (.s 2)⟩,
    ⟨(some 16), (some (14, false)), .load none (.s 15)⟩,
    ⟨(some 17), (some (14, false)), .bin .gtr (.s 16) (.c (V.int .i64 63))⟩,
    ⟨(some 18), none, .pick (.s 14) (.c (V.bool true)) (.s 17)⟩,
    ⟨(some 19), none, .mv (.s 18)⟩,
    ⟨(some 20), (some (19, false)), .load (some 6) (.s 6)⟩,
    ⟨(some 21), (some (19, false)), .call fn_palanquinref9_Fine [(.s 20)]⟩,
    ⟨(some 22), (some (19, false)), .un .not (.s 21)⟩,
    ⟨(some 23), none, .pick (.s 19) (.c (V.bool true)) (.s 22)⟩]
  (.cond (.s 23)
  (.ops [⟨(some 24), none, .build [(V.int .i64 0), (V.int .i64 0), V.nils, V.nils, V.nils] []⟩,
     ⟨none, none, .store 5 (.s 4) (.s 24)⟩,
     ⟨(some 5), none, .mv (.c (V.bool false))⟩]
   (.ret))
  (.ops [⟨(some 25), none, .faddr 2 (.s 2)⟩,
     ⟨(some 26), none, .load none (.s 25)⟩,
     ⟨(some 27), none, .bin .add (.s 26) (.c (V.int .i64 64))⟩,
     ⟨(some 28), none, .faddr 0 (.s 6)⟩,
     ⟨(some 29), none, .load none (.s 28)⟩,
     ⟨(some 30), none, .bin .sub (.s 27) (.s 29)⟩,
     ⟨(some 31), none, .bin .rem (.s 30) (.c (V.int .i64 64))⟩,
     ⟨(some 7), none, .mv (.s 31)⟩]
   (.ops [⟨(some 32), none, .mv (.s 7)⟩,
     ⟨(some 33), none, .faddr 2 (.s 6)⟩,
     ⟨(some 34), none, .load none (.s 33)⟩,
     ⟨(some 35), none, .len (.s 34)⟩,
     ⟨(some 36), none, .bin .geq (.s 32) (.s 35)⟩]
   (.cond (.s 36)
   (.ops [⟨(some 37), none, .build [(V.int .i64 0), (V.int .i64 0), V.nils, V.nils, V.nils] []⟩,
      ⟨none, none, .store 5 (.s 4) (.s 37)⟩,
      ⟨(some 5), none, .mv (.c (V.bool false))⟩]
    (.ret))
   (.ops [⟨(some 38), none, .faddr 2 (.s 6)⟩,
      ⟨(some 39), none, .load none (.s 38)⟩,
      ⟨(some 40), none, .mv (.s 7)⟩,
      ⟨(some 41), none, .iaddr none 5 (.s 39) (.s 40)⟩,
      ⟨(some 42), none, .load (some 5) (.s 41)⟩,
      ⟨none, none, .store 5 (.s 4) (.s 42)⟩,
      ⟨(some 5), none, .mv (.c (V.bool true))⟩]
    (.ret))))))))⟩

noncomputable def f_palanquinref9_Of (G : Sem') (t0 t1 : V) : M Res :=
  (mbox ty_palanquinref9_Frame t0).bind fun t2 =>
  (mbox ty_palanquinref9_Structure t1).bind fun t3 =>
  (mbox ty_palanquinref9_Template (V.agg [(V.int .i64 0), (V.int .i64 0), V.nils, V.nils, V.nils])).bind fun t4 =>
  (mload (some 19) t2).bind fun t8 =>
  (mload (some 6) t3).bind fun t9 =>
  (G fn_palanquinref9_holds [t8, t9]).bind fun t10 =>
  (mbox ty_palanquinref9_Structure (V.agg [(V.int .i64 0), (V.int .i64 0), V.nils, (V.int .i64 0), V.nils, V.nils])).bind fun t6 =>
  (mstore 6 t6 t10).bind fun _ =>
  (M.lift (Ax.faddr 2 t2)).bind fun t11 =>
  (mload none t11).bind fun t12 =>
  (M.lift (Ax.bin .lss t12 (V.int .i64 0))).bind fun t13 =>
  (guarded [(0, t13)] (some (0, false)) (M.lift (Ax.faddr 2 t2))).bind fun t15 =>
  (guarded [(0, t13)] (some (0, false)) (mload none t15)).bind fun t16 =>
  (guarded [(0, t13)] (some (0, false)) (M.lift (Ax.bin .gtr t16 (V.int .i64 63)))).bind fun t17 =>
  (M.lift (Ax.pick t13 (V.bool true) t17)).bind fun t18 =>
  (guarded [(0, t18)] (some (0, false)) (mload (some 6) t6)).bind fun t20 =>
  (guarded [(0, t18)] (some (0, false)) (G fn_palanquinref9_Fine [t20])).bind fun t21 =>
  (guarded [(0, t18)] (some (0, false)) (M.lift (Ax.un .not t21))).bind fun t22 =>
  (M.lift (Ax.pick t18 (V.bool true) t22)).bind fun t23 =>
  M.ite t23
    ((M.lift (Ax.build [(V.int .i64 0), (V.int .i64 0), V.nils, V.nils, V.nils] [])).bind fun t24 =>
    (mstore 5 t4 t24).bind fun _ =>
    (mload (some 5) t4).bind fun r0 =>
    M.pure (.ret [r0, (V.bool false)]))
    ((M.lift (Ax.faddr 2 t2)).bind fun t25 =>
    (mload none t25).bind fun t26 =>
    (M.lift (Ax.bin .add t26 (V.int .i64 64))).bind fun t27 =>
    (M.lift (Ax.faddr 0 t6)).bind fun t28 =>
    (mload none t28).bind fun t29 =>
    (M.lift (Ax.bin .sub t27 t29)).bind fun t30 =>
    (M.lift (Ax.bin .rem t30 (V.int .i64 64))).bind fun t31 =>
    (M.lift (Ax.faddr 2 t6)).bind fun t33 =>
    (mload none t33).bind fun t34 =>
    (M.lift (vlen t34)).bind fun t35 =>
    (M.lift (Ax.bin .geq t31 t35)).bind fun t36 =>
    M.ite t36
      ((M.lift (Ax.build [(V.int .i64 0), (V.int .i64 0), V.nils, V.nils, V.nils] [])).bind fun t37 =>
      (mstore 5 t4 t37).bind fun _ =>
      (mload (some 5) t4).bind fun r0 =>
      M.pure (.ret [r0, (V.bool false)]))
      ((M.lift (Ax.faddr 2 t6)).bind fun t38 =>
      (mload none t38).bind fun t39 =>
      (M.lift (Ax.iaddr none 5 t39 t31)).bind fun t41 =>
      (mload (some 5) t41).bind fun t42 =>
      (mstore 5 t4 t42).bind fun _ =>
      (mload (some 5) t4).bind fun r0 =>
      M.pure (.ret [r0, (V.bool true)])))

theorem eq_palanquinref9_Of (G : Sem') (t0 t1 : V) : execK G ir_palanquinref9_Of.rv ir_palanquinref9_Of.body [] [] (params 0 [t0, t1]) = f_palanquinref9_Of G t0 t1 := by kernel_rfl

theorem tb_palanquinref9_Of : T fn_palanquinref9_Of = some ir_palanquinref9_Of := by kernel_rfl

theorem ok_palanquinref9_Of {t0 t1 : V} {H : Heap} {Q : V → Heap → Prop} (h : Ok (f_palanquinref9_Of (sem T) t0 t1) H fun r H' => ∃ L, r = .ret L ∧ Q (tupled L) H') : Ok (sem T fn_palanquinref9_Of [t0, t1]) H Q :=
  ok_sem tb_palanquinref9_Of (Nat.le_of_ble_eq_true rfl) (eq_palanquinref9_Of (sem T) t0 t1) h

/-- palanquin/palanquinref9.holds. -/
def ir_palanquinref9_holds : Fn' := ⟨10, [.cell 4 (some 6)],
  .ops [⟨(some 2), none, .box ty_palanquinref9_Frame (.s 0)⟩,
    ⟨(some 3), none, .box ty_palanquinref9_Structure (.s 1)⟩,
    ⟨(some 4), none, .box ty_palanquinref9_Structure (.c (V.agg [(V.int .i64 0), (V.int .i64 0), V.nils, (V.int .i64 0), V.nils, V.nils]))⟩]
  (.ops [⟨(some 5), none, .faddr 4 (.s 2)⟩,
    ⟨(some 6), none, .load none (.s 5)⟩]
  (.cond (.s 6)
  (.ops [⟨(some 7), none, .faddr 5 (.s 2)⟩,
     ⟨(some 8), none, .load (some 6) (.s 7)⟩,
     ⟨none, none, .store 6 (.s 4) (.s 8)⟩]
   (.ret))
  (.ops [⟨(some 9), none, .load (some 6) (.s 3)⟩,
     ⟨none, none, .store 6 (.s 4) (.s 9)⟩]
   (.ret))))⟩

noncomputable def f_palanquinref9_holds (G : Sem') (t0 t1 : V) : M Res :=
  (mbox ty_palanquinref9_Frame t0).bind fun t2 =>
  (mbox ty_palanquinref9_Structure t1).bind fun t3 =>
  (mbox ty_palanquinref9_Structure (V.agg [(V.int .i64 0), (V.int .i64 0), V.nils, (V.int .i64 0), V.nils, V.nils])).bind fun t4 =>
  (M.lift (Ax.faddr 4 t2)).bind fun t5 =>
  (mload none t5).bind fun t6 =>
  M.ite t6
    ((M.lift (Ax.faddr 5 t2)).bind fun t7 =>
    (mload (some 6) t7).bind fun t8 =>
    (mstore 6 t4 t8).bind fun _ =>
    (mload (some 6) t4).bind fun r0 =>
    M.pure (.ret [r0]))
    ((mload (some 6) t3).bind fun t9 =>
    (mstore 6 t4 t9).bind fun _ =>
    (mload (some 6) t4).bind fun r0 =>
    M.pure (.ret [r0]))

theorem eq_palanquinref9_holds (G : Sem') (t0 t1 : V) : execK G ir_palanquinref9_holds.rv ir_palanquinref9_holds.body [] [] (params 0 [t0, t1]) = f_palanquinref9_holds G t0 t1 := by kernel_rfl

theorem tb_palanquinref9_holds : T fn_palanquinref9_holds = some ir_palanquinref9_holds := by kernel_rfl

theorem ok_palanquinref9_holds {t0 t1 : V} {H : Heap} {Q : V → Heap → Prop} (h : Ok (f_palanquinref9_holds (sem T) t0 t1) H fun r H' => ∃ L, r = .ret L ∧ Q (tupled L) H') : Ok (sem T fn_palanquinref9_holds [t0, t1]) H Q :=
  ok_sem tb_palanquinref9_holds (Nat.le_of_ble_eq_true rfl) (eq_palanquinref9_holds (sem T) t0 t1) h

/-- palanquin/palanquinref9.Fine. -/
def loop_palanquinref9_Fine_0 : C :=
  .ops [⟨(some 49), none, .mv (.s 4)⟩,
    ⟨(some 50), none, .mv (.s 3)⟩,
    ⟨(some 51), none, .bin .lss (.s 49) (.s 50)⟩]
  (.cond (.s 51)
  (.blk 1
   (.ops [⟨(some 54), none, .faddr 2 (.s 1)⟩,
      ⟨(some 55), none, .load none (.s 54)⟩,
      ⟨(some 56), none, .mv (.s 4)⟩,
      ⟨(some 57), none, .iaddr none 5 (.s 55) (.s 56)⟩,
      ⟨(some 58), none, .load (some 5) (.s 57)⟩,
      ⟨(some 5), none, .box ty_palanquinref9_Template (.c (V.agg [(V.int .i64 0), (V.int .i64 0), V.nils, V.nils, V.nils]))⟩,
      ⟨none, none, .store 5 (.s 5) (.s 58)⟩]
    (.ops [⟨(some 59), none, .faddr 0 (.s 5)⟩,
      ⟨(some 60), none, .load none (.s 59)⟩,
      ⟨(some 61), none, .bin .lss (.s 60) (.c (V.int .i64 0))⟩,
      ⟨(some 62), none, .mv (.s 61)⟩,
      ⟨(some 63), (some (62, false)), .faddr 0 (.s 5)⟩,
      ⟨(some 64), (some (62, false)), .load none (.s 63)⟩,
      ⟨(some 65), (some (62, false)), .bin .gtr (.s 64) (.c (V.int .i64 3))⟩,
      ⟨(some 66), none, .pick (.s 62) (.c (V.bool true)) (.s 65)⟩,
      ⟨(some 67), none, .mv (.s 66)⟩,
      ⟨(some 68), (some (67, false)), .faddr 1 (.s 5)⟩,
      ⟨(some 69), (some (67, false)), .load none (.s 68)⟩,
      ⟨(some 70), (some (67, false)), .bin .lss (.s 69) (.c (V.int .i64 0))⟩,
      ⟨(some 71), none, .pick (.s 67) (.c (V.bool true)) (.s 70)⟩,
      ⟨(some 72), none, .mv (.s 71)⟩,
      ⟨(some 73), (some (72, false)), .faddr 1 (.s 5)⟩,
      ⟨(some 74), (some (72, false)), .load none (.s 73)⟩,
      ⟨(some 75), (some (72, false)), .bin .gtr (.s 74) (.c (V.int .i64 7))⟩,
      ⟨(some 76), none, .pick (.s 72) (.c (V.bool true)) (.s 75)⟩,
      ⟨(some 77), none, .mv (.s 76)⟩,
      ⟨(some 78), (some (77, false)), .mv (.s 4)⟩,
      ⟨(some 79), (some (77, false)), .bin .eql (.s 78) (.c (V.int .i64 0))⟩,
      ⟨(some 80), (some (77, false)), .mv (.s 79)⟩,
      ⟨(some 81), (some (80, true)), .faddr 0 (.s 5)⟩,
      ⟨(some 82), (some (80, true)), .load none (.s 81)⟩,
      ⟨(some 83), (some (80, true)), .bin .neq (.s 82) (.c (V.int .i64 0))⟩,
      ⟨(some 84), (some (80, true)), .mv (.s 83)⟩,
      ⟨(some 85), (some (84, false)), .faddr 1 (.s 5)⟩,
      ⟨(some 86), (some (84, false)), .load none (.s 85)⟩,
      ⟨(some 87), (some (84, false)), .bin .neq (.s 86) (.c (V.int .i64 0))⟩,
      ⟨(some 88), (some (80, true)), .pick (.s 84) (.c (V.bool true)) (.s 87)⟩,
      ⟨(some 89), (some (77, false)), .pick (.s 80) (.s 88) (.c (V.bool false))⟩,
      ⟨(some 90), none, .pick (.s 77) (.c (V.bool true)) (.s 89)⟩]
    (.cond (.s 90)
    (.ops [⟨(some 2), none, .mv (.c (V.bool false))⟩]
     (.ret))
    (.draw [⟨(some 91), none, .mv (.s 4)⟩,
       ⟨(some 92), none, .bin .gtr (.s 91) (.c (V.int .i64 0))⟩,
       ⟨(some 93), none, .mv (.s 92)⟩,
       ⟨(some 94), (some (93, true)), .faddr 2 (.s 1)⟩,
       ⟨(some 95), (some (93, true)), .load none (.s 94)⟩,
       ⟨(some 96), (some (93, true)), .mv (.s 4)⟩,
       ⟨(some 97), (some (93, true)), .bin .sub (.s 96) (.c (V.int .i64 1))⟩,
       ⟨(some 98), (some (93, true)), .iaddr none 5 (.s 95) (.s 97)⟩,
       ⟨(some 99), (some (93, true)), .load (some 5) (.s 98)⟩,
       ⟨(some 100), (some (93, true)), .load (some 5) (.s 5)⟩,
       ⟨(some 101), (some (93, true)), .call fn_palanquinref9_step [(.s 99), (.s 100)]⟩,
       ⟨(some 102), (some (93, true)), .bin .eql (.s 101) (.c (V.int .i64 3))⟩,
       ⟨(some 103), none, .pick (.s 93) (.s 102) (.c (V.bool false))⟩] []
     (.cond (.s 103)
     (.ops [⟨(some 2), none, .mv (.c (V.bool false))⟩]
      (.ret))
     (.ops [⟨(some 104), none, .faddr 2 (.s 5)⟩,
        ⟨(some 105), none, .load none (.s 104)⟩,
        ⟨(some 106), none, .faddr 1 (.s 1)⟩,
        ⟨(some 107), none, .load none (.s 106)⟩,
        ⟨(some 108), none, .call fn_palanquinref9_within [(.s 105), (.s 107), (.c (V.int .i64 0)), (.c (V.int .i64 3))]⟩,
        ⟨(some 109), none, .un .not (.s 108)⟩,
        ⟨(some 110), none, .mv (.s 109)⟩,
        ⟨(some 111), (some (110, false)), .faddr 3 (.s 5)⟩,
        ⟨(some 112), (some (110, false)), .load none (.s 111)⟩,
        ⟨(some 113), (some (110, false)), .len (.s 112)⟩,
        ⟨(some 114), (some (110, false)), .bin .gtr (.s 113) (.c (V.int .i64 8))⟩,
        ⟨(some 115), none, .pick (.s 110) (.c (V.bool true)) (.s 114)⟩,
        ⟨(some 116), none, .mv (.s 115)⟩,
        ⟨(some 117), (some (116, false)), .faddr 3 (.s 5)⟩,
        ⟨(some 118), (some (116, false)), .load none (.s 117)⟩,
        ⟨(some 119), (some (116, false)), .call fn_palanquinref9_within [(.s 118), (.c (V.int .i64 (-1))), (.c (V.int .i64 1)), (.c (V.int .i64 16))]⟩,
        ⟨(some 120), (some (116, false)), .un .not (.s 119)⟩,
        ⟨(some 121), none, .pick (.s 116) (.c (V.bool true)) (.s 120)⟩,
        ⟨(some 122), none, .mv (.s 121)⟩,
        ⟨(some 123), (some (122, false)), .faddr 4 (.s 5)⟩,
        ⟨(some 124), (some (122, false)), .load none (.s 123)⟩,
        ⟨(some 125), (some (122, false)), .faddr 3 (.s 1)⟩,
        ⟨(some 126), (some (122, false)), .load none (.s 125)⟩,
        ⟨(some 127), (some (122, false)), .call fn_palanquinref9_within [(.s 124), (.s 126), (.c (V.int .i64 0)), (.c (V.int .i64 15))]⟩,
        ⟨(some 128), (some (122, false)), .un .not (.s 127)⟩,
        ⟨(some 129), none, .pick (.s 122) (.c (V.bool true)) (.s 128)⟩]
      (.cond (.s 129)
      (.ops [⟨(some 2), none, .mv (.c (V.bool false))⟩]
       (.ret))
      (.done)))))))) [] [54, 55, 56, 57, 58, 5, 59, 60, 61, 62, 63, 64, 65, 66, 67, 68, 69, 70, 71, 72, 73, 74, 75, 76, 77, 78, 79, 80, 81, 82, 83, 84, 85, 86, 87, 88, 89, 90, 2, 91, 92, 93, 94, 95, 96, 97, 98, 99, 100, 101, 102, 103, 2, 104, 105, 106, 107, 108, 109, 110, 111, 112, 113, 114, 115, 116, 117, 118, 119, 120, 121, 122, 123, 124, 125, 126, 127, 128, 129, 2]
   (.ops [⟨(some 52), none, .mv (.s 4)⟩,
     ⟨(some 53), none, .bin .add (.s 52) (.c (V.int .i64 1))⟩,
     ⟨(some 4), none, .mv (.s 53)⟩]
   (.done)))
  (.exit 0))

def loop_palanquinref9_Fine_1 : C :=
  .ops [⟨(some 158), none, .mv (.s 7)⟩,
    ⟨(some 159), none, .faddr 5 (.s 1)⟩,
    ⟨(some 160), none, .load none (.s 159)⟩,
    ⟨(some 161), none, .len (.s 160)⟩,
    ⟨(some 162), none, .bin .lss (.s 158) (.s 161)⟩]
  (.cond (.s 162)
  (.blk 3
   (.draw [⟨(some 165), none, .faddr 5 (.s 1)⟩,
      ⟨(some 166), none, .load none (.s 165)⟩,
      ⟨(some 167), none, .mv (.s 7)⟩,
      ⟨(some 168), none, .iaddr none 2 (.s 166) (.s 167)⟩,
      ⟨(some 169), none, .iaddr (some 2) 1 (.s 168) (.c (V.int .i64 0))⟩,
      ⟨(some 170), none, .load none (.s 169)⟩,
      ⟨(some 171), none, .faddr 5 (.s 1)⟩,
      ⟨(some 172), none, .load none (.s 171)⟩,
      ⟨(some 173), none, .mv (.s 7)⟩,
      ⟨(some 174), none, .iaddr none 2 (.s 172) (.s 173)⟩,
      ⟨(some 175), none, .iaddr (some 2) 1 (.s 174) (.c (V.int .i64 1))⟩,
      ⟨(some 176), none, .load none (.s 175)⟩,
      ⟨(some 177), none, .slit ty_int 2 [(V.int .i64 0)] [(0, 1, (.s 170)), (1, 1, (.s 176))]⟩,
      ⟨(some 178), none, .call fn_palanquinref9_within [(.s 177), (.c (V.int .i64 2)), (.c (V.int .i64 1)), (.c (V.int .i64 65536))]⟩,
      ⟨(some 179), none, .un .not (.s 178)⟩] []
    (.cond (.s 179)
    (.ops [⟨(some 2), none, .mv (.c (V.bool false))⟩]
     (.ret))
    (.done))) [] [165, 166, 167, 168, 169, 170, 171, 172, 173, 174, 175, 176, 177, 178, 179, 2]
   (.ops [⟨(some 163), none, .mv (.s 7)⟩,
     ⟨(some 164), none, .bin .add (.s 163) (.c (V.int .i64 1))⟩,
     ⟨(some 7), none, .mv (.s 164)⟩]
   (.done)))
  (.exit 2))

def ir_palanquinref9_Fine : Fn' := ⟨180, [.tmp 2],
  .ops [⟨(some 1), none, .box ty_palanquinref9_Structure (.s 0)⟩,
    ⟨(some 2), none, .mv (.c (V.bool false))⟩]
  (.ops [⟨(some 8), none, .faddr 2 (.s 1)⟩,
    ⟨(some 9), none, .load none (.s 8)⟩,
    ⟨(some 10), none, .len (.s 9)⟩,
    ⟨(some 3), none, .mv (.s 10)⟩]
  (.ops [⟨(some 11), none, .faddr 0 (.s 1)⟩,
    ⟨(some 12), none, .load none (.s 11)⟩,
    ⟨(some 13), none, .bin .lss (.s 12) (.c (V.int .i64 0))⟩,
    ⟨(some 14), none, .mv (.s 13)⟩,
    ⟨(some 15), (some (14, false)), .faddr 0 (.s 1)⟩,
    ⟨(some 16), (some (14, false)), .load none (.s 15)⟩,
    ⟨(some 17), (some (14, false)), .bin .gtr (.s 16) (.c (V.int .i64 63))⟩,
    ⟨(some 18), none, .pick (.s 14) (.c (V.bool true)) (.s 17)⟩,
    ⟨(some 19), none, .mv (.s 18)⟩,
    ⟨(some 20), (some (19, false)), .faddr 1 (.s 1)⟩,
    ⟨(some 21), (some (19, false)), .load none (.s 20)⟩,
    ⟨(some 22), (some (19, false)), .bin .lss (.s 21) (.c (V.int .i64 1))⟩,
    ⟨(some 23), none, .pick (.s 19) (.c (V.bool true)) (.s 22)⟩,
    ⟨(some 24), none, .mv (.s 23)⟩,
    ⟨(some 25), (some (24, false)), .faddr 1 (.s 1)⟩,
    ⟨(some 26), (some (24, false)), .load none (.s 25)⟩,
    ⟨(some 27), (some (24, false)), .bin .gtr (.s 26) (.c (V.int .i64 32))⟩,
    ⟨(some 28), none, .pick (.s 24) (.c (V.bool true)) (.s 27)⟩,
    ⟨(some 29), none, .mv (.s 28)⟩,
    ⟨(some 30), (some (29, false)), .mv (.s 3)⟩,
    ⟨(some 31), (some (29, false)), .bin .lss (.s 30) (.c (V.int .i64 1))⟩,
    ⟨(some 32), none, .pick (.s 29) (.c (V.bool true)) (.s 31)⟩,
    ⟨(some 33), none, .mv (.s 32)⟩,
    ⟨(some 34), (some (33, false)), .mv (.s 3)⟩,
    ⟨(some 35), (some (33, false)), .bin .gtr (.s 34) (.c (V.int .i64 64))⟩,
    ⟨(some 36), none, .pick (.s 33) (.c (V.bool true)) (.s 35)⟩,
    ⟨(some 37), none, .mv (.s 36)⟩,
    ⟨(some 38), (some (37, false)), .faddr 3 (.s 1)⟩,
    ⟨(some 39), (some (37, false)), .load none (.s 38)⟩,
    ⟨(some 40), (some (37, false)), .bin .lss (.s 39) (.c (V.int .i64 0))⟩,
    ⟨(some 41), none, .pick (.s 37) (.c (V.bool true)) (.s 40)⟩,
    ⟨(some 42), none, .mv (.s 41)⟩,
    ⟨(some 43), (some (42, false)), .faddr 3 (.s 1)⟩,
    ⟨(some 44), (some (42, false)), .load none (.s 43)⟩,
    ⟨(some 45), (some (42, false)), .faddr 1 (.s 1)⟩,
    ⟨(some 46), (some (42, false)), .load none (.s 45)⟩,
    ⟨(some 47), (some (42, false)), .bin .gtr (.s 44) (.s 46)⟩,
    ⟨(some 48), none, .pick (.s 42) (.c (V.bool true)) (.s 47)⟩]
  (.cond (.s 48)
  (.ops [⟨(some 2), none, .mv (.c (V.bool false))⟩]
   (.ret))
  (.ops [⟨(some 4), none, .mv (.c (V.int .i64 0))⟩]
   (.blk 0
   (.loop loop_palanquinref9_Fine_0 [4] [49, 50, 51, 54, 55, 56, 57, 58, 5, 59, 60, 61, 62, 63, 64, 65, 66, 67, 68, 69, 70, 71, 72, 73, 74, 75, 76, 77, 78, 79, 80, 81, 82, 83, 84, 85, 86, 87, 88, 89, 90, 2, 91, 92, 93, 94, 95, 96, 97, 98, 99, 100, 101, 102, 103, 2, 104, 105, 106, 107, 108, 109, 110, 111, 112, 113, 114, 115, 116, 117, 118, 119, 120, 121, 122, 123, 124, 125, 126, 127, 128, 129, 2, 52, 53, 4]) [] [49, 50, 51, 54, 55, 56, 57, 58, 5, 59, 60, 61, 62, 63, 64, 65, 66, 67, 68, 69, 70, 71, 72, 73, 74, 75, 76, 77, 78, 79, 80, 81, 82, 83, 84, 85, 86, 87, 88, 89, 90, 2, 91, 92, 93, 94, 95, 96, 97, 98, 99, 100, 101, 102, 103, 2, 104, 105, 106, 107, 108, 109, 110, 111, 112, 113, 114, 115, 116, 117, 118, 119, 120, 121, 122, 123, 124, 125, 126, 127, 128, 129, 2, 52, 53, 4]
   (.ops [⟨(some 6), none, .mv (.c (V.int .i64 0))⟩]
   (.ops [⟨(some 130), none, .faddr 3 (.s 1)⟩,
     ⟨(some 131), none, .load none (.s 130)⟩,
     ⟨(some 132), none, .bin .gtr (.s 131) (.c (V.int .i64 0))⟩]
   (.condJ (.s 132)
   (.ops [⟨(some 133), none, .faddr 1 (.s 1)⟩,
      ⟨(some 134), none, .load none (.s 133)⟩,
      ⟨(some 6), none, .mv (.s 134)⟩]
    (.done))
   (.done) [6] [133, 134, 6]
   (.draw [⟨(some 135), none, .faddr 4 (.s 1)⟩,
     ⟨(some 136), none, .load none (.s 135)⟩,
     ⟨(some 137), none, .mv (.s 6)⟩,
     ⟨(some 138), none, .faddr 3 (.s 1)⟩,
     ⟨(some 139), none, .load none (.s 138)⟩,
     ⟨(some 140), none, .bin .sub (.s 139) (.c (V.int .i64 1))⟩,
     ⟨(some 141), none, .call fn_palanquinref9_within [(.s 136), (.s 137), (.c (V.int .i64 0)), (.s 140)]⟩,
     ⟨(some 142), none, .un .not (.s 141)⟩,
     ⟨(some 143), none, .mv (.s 142)⟩,
     ⟨(some 144), (some (143, false)), .faddr 5 (.s 1)⟩,
     ⟨(some 145), (some (143, false)), .load none (.s 144)⟩,
     ⟨(some 146), (some (143, false)), .len (.s 145)⟩,
     ⟨(some 147), (some (143, false)), .bin .gtr (.s 146) (.c (V.int .i64 0))⟩,
     ⟨(some 148), (some (143, false)), .mv (.s 147)⟩,
     ⟨(some 152), (some (148, true)), .load (some 6) (.s 1)⟩,
     ⟨(some 153), (some (148, true)), .call fn_palanquinref9_top [(.s 152)]⟩,
     ⟨(some 149), (some (148, true)), .faddr 5 (.s 1)⟩,
     ⟨(some 150), (some (148, true)), .load none (.s 149)⟩,
     ⟨(some 151), (some (148, true)), .len (.s 150)⟩,
     ⟨(some 154), (some (148, true)), .bin .add (.s 153) (.c (V.int .i64 1))⟩,
     ⟨(some 155), (some (148, true)), .bin .neq (.s 151) (.s 154)⟩,
     ⟨(some 156), (some (143, false)), .pick (.s 148) (.s 155) (.c (V.bool false))⟩,
     ⟨(some 157), none, .pick (.s 143) (.c (V.bool true)) (.s 156)⟩] [(17, 15)]
   (.cond (.s 157)
   (.ops [⟨(some 2), none, .mv (.c (V.bool false))⟩]
    (.ret))
   (.ops [⟨(some 7), none, .mv (.c (V.int .i64 0))⟩]
    (.blk 2
    (.loop loop_palanquinref9_Fine_1 [7] [158, 159, 160, 161, 162, 165, 166, 167, 168, 169, 170, 171, 172, 173, 174, 175, 176, 177, 178, 179, 2, 163, 164, 7]) [] [158, 159, 160, 161, 162, 165, 166, 167, 168, 169, 170, 171, 172, 173, 174, 175, 176, 177, 178, 179, 2, 163, 164, 7]
    (.ops [⟨(some 2), none, .mv (.c (V.bool true))⟩]
    (.ret))))))))))))))⟩

noncomputable def f_palanquinref9_Fine_0 (G : Sem') (t3 t1 : V) (L : List V) : M Res :=
  (M.lift (Ax.bin .lss (L.getD 0 .undef) t3)).bind fun t51 =>
  M.ite t51
    (M.blk 1 (
      (M.lift (Ax.faddr 2 t1)).bind fun t54 =>
      (mload none t54).bind fun t55 =>
      (M.lift (Ax.iaddr none 5 t55 (L.getD 0 .undef))).bind fun t57 =>
      (mload (some 5) t57).bind fun t58 =>
      (mbox ty_palanquinref9_Template (V.agg [(V.int .i64 0), (V.int .i64 0), V.nils, V.nils, V.nils])).bind fun t5 =>
      (mstore 5 t5 t58).bind fun _ =>
      (M.lift (Ax.faddr 0 t5)).bind fun t59 =>
      (mload none t59).bind fun t60 =>
      (M.lift (Ax.bin .lss t60 (V.int .i64 0))).bind fun t61 =>
      (guarded [(0, t61)] (some (0, false)) (M.lift (Ax.faddr 0 t5))).bind fun t63 =>
      (guarded [(0, t61)] (some (0, false)) (mload none t63)).bind fun t64 =>
      (guarded [(0, t61)] (some (0, false)) (M.lift (Ax.bin .gtr t64 (V.int .i64 3)))).bind fun t65 =>
      (M.lift (Ax.pick t61 (V.bool true) t65)).bind fun t66 =>
      (guarded [(0, t66)] (some (0, false)) (M.lift (Ax.faddr 1 t5))).bind fun t68 =>
      (guarded [(0, t66)] (some (0, false)) (mload none t68)).bind fun t69 =>
      (guarded [(0, t66)] (some (0, false)) (M.lift (Ax.bin .lss t69 (V.int .i64 0)))).bind fun t70 =>
      (M.lift (Ax.pick t66 (V.bool true) t70)).bind fun t71 =>
      (guarded [(0, t71)] (some (0, false)) (M.lift (Ax.faddr 1 t5))).bind fun t73 =>
      (guarded [(0, t71)] (some (0, false)) (mload none t73)).bind fun t74 =>
      (guarded [(0, t71)] (some (0, false)) (M.lift (Ax.bin .gtr t74 (V.int .i64 7)))).bind fun t75 =>
      (M.lift (Ax.pick t71 (V.bool true) t75)).bind fun t76 =>
      (guarded [(0, t76)] (some (0, false)) (M.pure (L.getD 0 .undef))).bind fun t78 =>
      (guarded [(0, t76)] (some (0, false)) (M.lift (Ax.bin .eql t78 (V.int .i64 0)))).bind fun t79 =>
      (guarded [(0, t76)] (some (0, false)) (M.pure t79)).bind fun t80 =>
      (guarded [(0, t80)] (some (0, true)) (M.lift (Ax.faddr 0 t5))).bind fun t81 =>
      (guarded [(0, t80)] (some (0, true)) (mload none t81)).bind fun t82 =>
      (guarded [(0, t80)] (some (0, true)) (M.lift (Ax.bin .neq t82 (V.int .i64 0)))).bind fun t83 =>
      (guarded [(0, t80)] (some (0, true)) (M.pure t83)).bind fun t84 =>
      (guarded [(0, t84)] (some (0, false)) (M.lift (Ax.faddr 1 t5))).bind fun t85 =>
      (guarded [(0, t84)] (some (0, false)) (mload none t85)).bind fun t86 =>
      (guarded [(0, t84)] (some (0, false)) (M.lift (Ax.bin .neq t86 (V.int .i64 0)))).bind fun t87 =>
      (guarded [(0, t80)] (some (0, true)) (M.lift (Ax.pick t84 (V.bool true) t87))).bind fun t88 =>
      (guarded [(0, t76)] (some (0, false)) (M.lift (Ax.pick t80 t88 (V.bool false)))).bind fun t89 =>
      (M.lift (Ax.pick t76 (V.bool true) t89)).bind fun t90 =>
      M.ite t90
        (M.pure (.ret [(V.bool false)]))
        ((M.lift (Ax.bin .gtr (L.getD 0 .undef) (V.int .i64 0))).bind fun t92 =>
        (guarded [(0, t92)] (some (0, true)) (M.lift (Ax.faddr 2 t1))).bind fun t94 =>
        (guarded [(0, t92)] (some (0, true)) (mload none t94)).bind fun t95 =>
        (guarded [(0, t92)] (some (0, true)) (M.pure (L.getD 0 .undef))).bind fun t96 =>
        (guarded [(0, t92)] (some (0, true)) (M.lift (Ax.bin .sub t96 (V.int .i64 1)))).bind fun t97 =>
        (guarded [(0, t92)] (some (0, true)) (M.lift (Ax.iaddr none 5 t95 t97))).bind fun t98 =>
        (guarded [(0, t92)] (some (0, true)) (mload (some 5) t98)).bind fun t99 =>
        (guarded [(0, t92)] (some (0, true)) (mload (some 5) t5)).bind fun t100 =>
        (guarded [(0, t92)] (some (0, true)) (G fn_palanquinref9_step [t99, t100])).bind fun t101 =>
        (guarded [(0, t92)] (some (0, true)) (M.lift (Ax.bin .eql t101 (V.int .i64 3)))).bind fun t102 =>
        (M.lift (Ax.pick t92 t102 (V.bool false))).bind fun t103 =>
        M.ite t103
          (M.pure (.ret [(V.bool false)]))
          ((M.lift (Ax.faddr 2 t5)).bind fun t104 =>
          (mload none t104).bind fun t105 =>
          (M.lift (Ax.faddr 1 t1)).bind fun t106 =>
          (mload none t106).bind fun t107 =>
          (G fn_palanquinref9_within [t105, t107, (V.int .i64 0), (V.int .i64 3)]).bind fun t108 =>
          (M.lift (Ax.un .not t108)).bind fun t109 =>
          (guarded [(0, t109)] (some (0, false)) (M.lift (Ax.faddr 3 t5))).bind fun t111 =>
          (guarded [(0, t109)] (some (0, false)) (mload none t111)).bind fun t112 =>
          (guarded [(0, t109)] (some (0, false)) (M.lift (vlen t112))).bind fun t113 =>
          (guarded [(0, t109)] (some (0, false)) (M.lift (Ax.bin .gtr t113 (V.int .i64 8)))).bind fun t114 =>
          (M.lift (Ax.pick t109 (V.bool true) t114)).bind fun t115 =>
          (guarded [(0, t115)] (some (0, false)) (M.lift (Ax.faddr 3 t5))).bind fun t117 =>
          (guarded [(0, t115)] (some (0, false)) (mload none t117)).bind fun t118 =>
          (guarded [(0, t115)] (some (0, false)) (G fn_palanquinref9_within [t118, (V.int .i64 (-1)), (V.int .i64 1), (V.int .i64 16)])).bind fun t119 =>
          (guarded [(0, t115)] (some (0, false)) (M.lift (Ax.un .not t119))).bind fun t120 =>
          (M.lift (Ax.pick t115 (V.bool true) t120)).bind fun t121 =>
          (guarded [(0, t121)] (some (0, false)) (M.lift (Ax.faddr 4 t5))).bind fun t123 =>
          (guarded [(0, t121)] (some (0, false)) (mload none t123)).bind fun t124 =>
          (guarded [(0, t121)] (some (0, false)) (M.lift (Ax.faddr 3 t1))).bind fun t125 =>
          (guarded [(0, t121)] (some (0, false)) (mload none t125)).bind fun t126 =>
          (guarded [(0, t121)] (some (0, false)) (G fn_palanquinref9_within [t124, t126, (V.int .i64 0), (V.int .i64 15)])).bind fun t127 =>
          (guarded [(0, t121)] (some (0, false)) (M.lift (Ax.un .not t127))).bind fun t128 =>
          (M.lift (Ax.pick t121 (V.bool true) t128)).bind fun t129 =>
          M.ite t129
            (M.pure (.ret [(V.bool false)]))
            (M.pure (.nrm []))))) fun _ =>
    (M.lift (Ax.bin .add (L.getD 0 .undef) (V.int .i64 1))).bind fun t53 =>
    M.pure (.nrm [t53]))
    (M.pure (.ex 0 []))

noncomputable def f_palanquinref9_Fine_1 (G : Sem') (t1 : V) (L : List V) : M Res :=
  (M.lift (Ax.faddr 5 t1)).bind fun t159 =>
  (mload none t159).bind fun t160 =>
  (M.lift (vlen t160)).bind fun t161 =>
  (M.lift (Ax.bin .lss (L.getD 0 .undef) t161)).bind fun t162 =>
  M.ite t162
    (M.blk 3 (
      (M.lift (Ax.faddr 5 t1)).bind fun t165 =>
      (mload none t165).bind fun t166 =>
      (M.lift (Ax.iaddr none 2 t166 (L.getD 0 .undef))).bind fun t168 =>
      (M.lift (Ax.iaddr (some 2) 1 t168 (V.int .i64 0))).bind fun t169 =>
      (mload none t169).bind fun t170 =>
      (M.lift (Ax.faddr 5 t1)).bind fun t171 =>
      (mload none t171).bind fun t172 =>
      (M.lift (Ax.iaddr none 2 t172 (L.getD 0 .undef))).bind fun t174 =>
      (M.lift (Ax.iaddr (some 2) 1 t174 (V.int .i64 1))).bind fun t175 =>
      (mload none t175).bind fun t176 =>
      (mslit ty_int 2 [(V.int .i64 0)] [(0, 1, t170), (1, 1, t176)]).bind fun t177 =>
      (G fn_palanquinref9_within [t177, (V.int .i64 2), (V.int .i64 1), (V.int .i64 65536)]).bind fun t178 =>
      (M.lift (Ax.un .not t178)).bind fun t179 =>
      M.ite t179
        (M.pure (.ret [(V.bool false)]))
        (M.pure (.nrm []))) fun _ =>
    (M.lift (Ax.bin .add (L.getD 0 .undef) (V.int .i64 1))).bind fun t164 =>
    M.pure (.nrm [t164]))
    (M.pure (.ex 2 []))

noncomputable def f_palanquinref9_Fine (G : Sem') (t0 : V) : M Res :=
  (mbox ty_palanquinref9_Structure t0).bind fun t1 =>
  (M.lift (Ax.faddr 2 t1)).bind fun t8 =>
  (mload none t8).bind fun t9 =>
  (M.lift (vlen t9)).bind fun t10 =>
  (M.lift (Ax.faddr 0 t1)).bind fun t11 =>
  (mload none t11).bind fun t12 =>
  (M.lift (Ax.bin .lss t12 (V.int .i64 0))).bind fun t13 =>
  (guarded [(0, t13)] (some (0, false)) (M.lift (Ax.faddr 0 t1))).bind fun t15 =>
  (guarded [(0, t13)] (some (0, false)) (mload none t15)).bind fun t16 =>
  (guarded [(0, t13)] (some (0, false)) (M.lift (Ax.bin .gtr t16 (V.int .i64 63)))).bind fun t17 =>
  (M.lift (Ax.pick t13 (V.bool true) t17)).bind fun t18 =>
  (guarded [(0, t18)] (some (0, false)) (M.lift (Ax.faddr 1 t1))).bind fun t20 =>
  (guarded [(0, t18)] (some (0, false)) (mload none t20)).bind fun t21 =>
  (guarded [(0, t18)] (some (0, false)) (M.lift (Ax.bin .lss t21 (V.int .i64 1)))).bind fun t22 =>
  (M.lift (Ax.pick t18 (V.bool true) t22)).bind fun t23 =>
  (guarded [(0, t23)] (some (0, false)) (M.lift (Ax.faddr 1 t1))).bind fun t25 =>
  (guarded [(0, t23)] (some (0, false)) (mload none t25)).bind fun t26 =>
  (guarded [(0, t23)] (some (0, false)) (M.lift (Ax.bin .gtr t26 (V.int .i64 32)))).bind fun t27 =>
  (M.lift (Ax.pick t23 (V.bool true) t27)).bind fun t28 =>
  (guarded [(0, t28)] (some (0, false)) (M.pure t10)).bind fun t30 =>
  (guarded [(0, t28)] (some (0, false)) (M.lift (Ax.bin .lss t30 (V.int .i64 1)))).bind fun t31 =>
  (M.lift (Ax.pick t28 (V.bool true) t31)).bind fun t32 =>
  (guarded [(0, t32)] (some (0, false)) (M.pure t10)).bind fun t34 =>
  (guarded [(0, t32)] (some (0, false)) (M.lift (Ax.bin .gtr t34 (V.int .i64 64)))).bind fun t35 =>
  (M.lift (Ax.pick t32 (V.bool true) t35)).bind fun t36 =>
  (guarded [(0, t36)] (some (0, false)) (M.lift (Ax.faddr 3 t1))).bind fun t38 =>
  (guarded [(0, t36)] (some (0, false)) (mload none t38)).bind fun t39 =>
  (guarded [(0, t36)] (some (0, false)) (M.lift (Ax.bin .lss t39 (V.int .i64 0)))).bind fun t40 =>
  (M.lift (Ax.pick t36 (V.bool true) t40)).bind fun t41 =>
  (guarded [(0, t41)] (some (0, false)) (M.lift (Ax.faddr 3 t1))).bind fun t43 =>
  (guarded [(0, t41)] (some (0, false)) (mload none t43)).bind fun t44 =>
  (guarded [(0, t41)] (some (0, false)) (M.lift (Ax.faddr 1 t1))).bind fun t45 =>
  (guarded [(0, t41)] (some (0, false)) (mload none t45)).bind fun t46 =>
  (guarded [(0, t41)] (some (0, false)) (M.lift (Ax.bin .gtr t44 t46))).bind fun t47 =>
  (M.lift (Ax.pick t41 (V.bool true) t47)).bind fun t48 =>
  M.ite t48
    (M.pure (.ret [(V.bool false)]))
    (M.blk 0 (
      M.iter (f_palanquinref9_Fine_0 G t10 t1) [(V.int .i64 0)]) fun _ =>
    (M.lift (Ax.faddr 3 t1)).bind fun t130 =>
    (mload none t130).bind fun t131 =>
    (M.lift (Ax.bin .gtr t131 (V.int .i64 0))).bind fun t132 =>
    M.join (M.ite t132
      ((M.lift (Ax.faddr 1 t1)).bind fun t133 =>
      (mload none t133).bind fun t134 =>
      M.pure (.nrm [t134]))
      (M.pure (.nrm [(V.int .i64 0)]))) fun L2 =>
    (M.lift (Ax.faddr 4 t1)).bind fun t135 =>
    (mload none t135).bind fun t136 =>
    (M.lift (Ax.faddr 3 t1)).bind fun t138 =>
    (mload none t138).bind fun t139 =>
    (M.lift (Ax.bin .sub t139 (V.int .i64 1))).bind fun t140 =>
    (G fn_palanquinref9_within [t136, (L2.getD 0 .undef), (V.int .i64 0), t140]).bind fun t141 =>
    (M.lift (Ax.un .not t141)).bind fun t142 =>
    (guarded [(0, t142)] (some (0, false)) (M.lift (Ax.faddr 5 t1))).bind fun t144 =>
    (guarded [(0, t142)] (some (0, false)) (mload none t144)).bind fun t145 =>
    (guarded [(0, t142)] (some (0, false)) (M.lift (vlen t145))).bind fun t146 =>
    (guarded [(0, t142)] (some (0, false)) (M.lift (Ax.bin .gtr t146 (V.int .i64 0)))).bind fun t147 =>
    (guarded [(0, t142)] (some (0, false)) (M.pure t147)).bind fun t148 =>
    (guarded [(0, t148)] (some (0, true)) (mload (some 6) t1)).bind fun t152 =>
    M.getH.bind fun h0 =>
    (guarded [(0, t148)] (some (0, true)) (G fn_palanquinref9_top [t152])).bind fun t153 =>
    M.getH.bind fun h0' =>
    (guarded [(0, t148)] (some (0, true)) (M.lift (Ax.faddr 5 t1))).bind fun t149 =>
    (guarded [(0, t148)] (some (0, true)) (mload none t149)).bind fun t150 =>
    (M.unch t149 h0 h0').bind fun _ =>
    (guarded [(0, t148)] (some (0, true)) (M.lift (vlen t150))).bind fun t151 =>
    (guarded [(0, t148)] (some (0, true)) (M.lift (Ax.bin .add t153 (V.int .i64 1)))).bind fun t154 =>
    (guarded [(0, t148)] (some (0, true)) (M.lift (Ax.bin .neq t151 t154))).bind fun t155 =>
    (guarded [(0, t142)] (some (0, false)) (M.lift (Ax.pick t148 t155 (V.bool false)))).bind fun t156 =>
    (M.lift (Ax.pick t142 (V.bool true) t156)).bind fun t157 =>
    M.ite t157
      (M.pure (.ret [(V.bool false)]))
      (M.blk 2 (
        M.iter (f_palanquinref9_Fine_1 G t1) [(V.int .i64 0)]) fun _ =>
      M.pure (.ret [(V.bool true)])))

theorem eq_palanquinref9_Fine (G : Sem') (t0 : V) : execK G ir_palanquinref9_Fine.rv ir_palanquinref9_Fine.body [] [] (params 0 [t0]) = f_palanquinref9_Fine G t0 := by kernel_rfl

theorem tb_palanquinref9_Fine : T fn_palanquinref9_Fine = some ir_palanquinref9_Fine := by kernel_rfl

theorem ok_palanquinref9_Fine {t0 : V} {H : Heap} {Q : V → Heap → Prop} (h : Ok (f_palanquinref9_Fine (sem T) t0) H fun r H' => ∃ L, r = .ret L ∧ Q (tupled L) H') : Ok (sem T fn_palanquinref9_Fine [t0]) H Q :=
  ok_sem tb_palanquinref9_Fine (Nat.le_of_ble_eq_true rfl) (eq_palanquinref9_Fine (sem T) t0) h

end Go.Ax
