/-
  The functions of this seat as plain texts: printed by program (wip/gen/Emit.lean): part 1.
-/
import Derived.Test.YtmiafikogmhckaaFnK0
set_option maxRecDepth 100000
set_option linter.unusedVariables false
namespace Go.Ax
open Go.Proofs

/-- palanquin/palanquinlaw7.RtpKnown. -/
def ir_palanquinlaw7_RtpKnown : Fn' := ⟨244, [.tmp 0],
  .ops [⟨(some 0), none, .mv (.c (V.bool false))⟩]
  (.ops [⟨(some 32), none, .call fn_palanquinlaw7_awake []⟩,
    ⟨(some 33), none, .un .not (.s 32)⟩]
  (.cond (.s 33)
  (.ops [⟨(some 0), none, .mv (.c (V.bool false))⟩]
   (.ret))
  (.ops [⟨(some 34), none, .slit ty_uint8 12 [(V.int .u8 0)] [(0, 1, (.c (V.int .u8 128))), (1, 1, (.c (V.int .u8 96))), (2, 1, (.c (V.int .u8 0))), (3, 1, (.c (V.int .u8 1))), (4, 1, (.c (V.int .u8 0))), (5, 1, (.c (V.int .u8 0))), (6, 1, (.c (V.int .u8 0))), (7, 1, (.c (V.int .u8 2))), (8, 1, (.c (V.int .u8 0))), (9, 1, (.c (V.int .u8 0))), (10, 1, (.c (V.int .u8 0))), (11, 1, (.c (V.int .u8 3)))]⟩,
     ⟨(some 1), none, .mv (.s 34)⟩]
   (.ops [⟨(some 36), none, .mv (.s 1)⟩,
     ⟨(some 37), none, .slice .sl 1 (.s 36) none (some (.c (V.int .i64 11))) none⟩,
     ⟨(some 38), none, .call fn_rtp_Parse [(.s 37)]⟩,
     ⟨(some 35), none, .mv (.s 38)⟩,
     ⟨(some 39), none, .ext 0 (.s 35)⟩,
     ⟨(some 40), none, .ext 1 (.s 35)⟩,
     ⟨(some 2), none, .box ty_rtp_Packet (.c (V.agg [(V.bool false), (V.int .i64 0), (V.int .u16 0), (V.int .u32 0), (V.int .u32 0), V.nils, (V.int .i64 0), V.nils, (V.int .i64 0), V.nils]))⟩,
     ⟨none, none, .store 10 (.s 2) (.s 39)⟩,
     ⟨(some 3), none, .mv (.s 40)⟩]
   (.ops [⟨(some 42), none, .slit ty_uint8 1 [(V.int .u8 0)] [(0, 1, (.c (V.int .u8 64)))]⟩,
     ⟨(some 43), none, .mv (.s 1)⟩,
     ⟨(some 44), none, .slice .sl 1 (.s 43) (some (.c (V.int .i64 1))) none none⟩,
     ⟨(some 45), none, .append ty_uint8 1 1 (.s 42) (.s 44)⟩,
     ⟨(some 46), none, .call fn_rtp_Parse [(.s 45)]⟩,
     ⟨(some 41), none, .mv (.s 46)⟩,
     ⟨(some 47), none, .ext 0 (.s 41)⟩,
     ⟨(some 48), none, .ext 1 (.s 41)⟩,
     ⟨(some 4), none, .box ty_rtp_Packet (.c (V.agg [(V.bool false), (V.int .i64 0), (V.int .u16 0), (V.int .u32 0), (V.int .u32 0), V.nils, (V.int .i64 0), V.nils, (V.int .i64 0), V.nils]))⟩,
     ⟨none, none, .store 10 (.s 4) (.s 47)⟩,
     ⟨(some 5), none, .mv (.s 48)⟩]
   (.ops [⟨(some 50), none, .slit ty_uint8 1 [(V.int .u8 0)] [(0, 1, (.c (V.int .u8 129)))]⟩,
     ⟨(some 51), none, .mv (.s 1)⟩,
     ⟨(some 52), none, .slice .sl 1 (.s 51) (some (.c (V.int .i64 1))) none none⟩,
     ⟨(some 53), none, .append ty_uint8 1 1 (.s 50) (.s 52)⟩,
     ⟨(some 54), none, .call fn_rtp_Parse [(.s 53)]⟩,
     ⟨(some 49), none, .mv (.s 54)⟩,
     ⟨(some 55), none, .ext 0 (.s 49)⟩,
     ⟨(some 56), none, .ext 1 (.s 49)⟩,
     ⟨(some 6), none, .box ty_rtp_Packet (.c (V.agg [(V.bool false), (V.int .i64 0), (V.int .u16 0), (V.int .u32 0), (V.int .u32 0), V.nils, (V.int .i64 0), V.nils, (V.int .i64 0), V.nils]))⟩,
     ⟨none, none, .store 10 (.s 6) (.s 55)⟩,
     ⟨(some 7), none, .mv (.s 56)⟩]
   (.ops [⟨(some 58), none, .mkslice ty_uint8 1 [(V.int .u8 0)] (.c (V.int .i64 1201)) (.c (V.int .i64 1201))⟩,
     ⟨(some 59), none, .call fn_rtp_Parse [(.s 58)]⟩,
     ⟨(some 57), none, .mv (.s 59)⟩,
     ⟨(some 60), none, .ext 0 (.s 57)⟩,
     ⟨(some 61), none, .ext 1 (.s 57)⟩,
     ⟨(some 8), none, .box ty_rtp_Packet (.c (V.agg [(V.bool false), (V.int .i64 0), (V.int .u16 0), (V.int .u32 0), (V.int .u32 0), V.nils, (V.int .i64 0), V.nils, (V.int .i64 0), V.nils]))⟩,
     ⟨none, none, .store 10 (.s 8) (.s 60)⟩,
     ⟨(some 9), none, .mv (.s 61)⟩]
   (.ops [⟨(some 63), none, .slit ty_uint8 1 [(V.int .u8 0)] [(0, 1, (.c (V.int .u8 144)))]⟩,
     ⟨(some 64), none, .mv (.s 1)⟩,
     ⟨(some 65), none, .slice .sl 1 (.s 64) (some (.c (V.int .i64 1))) none none⟩,
     ⟨(some 66), none, .append ty_uint8 1 1 (.s 63) (.s 65)⟩,
     ⟨(some 67), none, .slit ty_uint8 4 [(V.int .u8 0)] [(0, 1, (.c (V.int .u8 190))), (1, 1, (.c (V.int .u8 222))), (2, 1, (.c (V.int .u8 0))), (3, 1, (.c (V.int .u8 1)))]⟩,
     ⟨(some 68), none, .append ty_uint8 1 1 (.s 66) (.s 67)⟩,
     ⟨(some 69), none, .call fn_rtp_Parse [(.s 68)]⟩,
     ⟨(some 62), none, .mv (.s 69)⟩,
     ⟨(some 70), none, .ext 0 (.s 62)⟩,
     ⟨(some 71), none, .ext 1 (.s 62)⟩,
     ⟨(some 10), none, .box ty_rtp_Packet (.c (V.agg [(V.bool false), (V.int .i64 0), (V.int .u16 0), (V.int .u32 0), (V.int .u32 0), V.nils, (V.int .i64 0), V.nils, (V.int .i64 0), V.nils]))⟩,
     ⟨none, none, .store 10 (.s 10) (.s 70)⟩,
     ⟨(some 11), none, .mv (.s 71)⟩]
   (.ops [⟨(some 73), none, .slit ty_uint8 1 [(V.int .u8 0)] [(0, 1, (.c (V.int .u8 144)))]⟩,
     ⟨(some 74), none, .mv (.s 1)⟩,
     ⟨(some 75), none, .slice .sl 1 (.s 74) (some (.c (V.int .i64 1))) none none⟩,
     ⟨(some 76), none, .append ty_uint8 1 1 (.s 73) (.s 75)⟩,
     ⟨(some 77), none, .slit ty_uint8 4 [(V.int .u8 0)] [(0, 1, (.c (V.int .u8 190))), (1, 1, (.c (V.int .u8 223))), (2, 1, (.c (V.int .u8 0))), (3, 1, (.c (V.int .u8 0)))]⟩,
     ⟨(some 78), none, .append ty_uint8 1 1 (.s 76) (.s 77)⟩,
     ⟨(some 79), none, .call fn_rtp_Parse [(.s 78)]⟩,
     ⟨(some 72), none, .mv (.s 79)⟩,
     ⟨(some 80), none, .ext 0 (.s 72)⟩,
     ⟨(some 81), none, .ext 1 (.s 72)⟩,
     ⟨(some 12), none, .box ty_rtp_Packet (.c (V.agg [(V.bool false), (V.int .i64 0), (V.int .u16 0), (V.int .u32 0), (V.int .u32 0), V.nils, (V.int .i64 0), V.nils, (V.int .i64 0), V.nils]))⟩,
     ⟨none, none, .store 10 (.s 12) (.s 80)⟩,
     ⟨(some 13), none, .mv (.s 81)⟩]
   (.ops [⟨(some 83), none, .slit ty_uint8 1 [(V.int .u8 0)] [(0, 1, (.c (V.int .u8 144)))]⟩,
     ⟨(some 84), none, .mv (.s 1)⟩,
     ⟨(some 85), none, .slice .sl 1 (.s 84) (some (.c (V.int .i64 1))) none none⟩,
     ⟨(some 86), none, .append ty_uint8 1 1 (.s 83) (.s 85)⟩,
     ⟨(some 87), none, .slit ty_uint8 8 [(V.int .u8 0)] [(0, 1, (.c (V.int .u8 190))), (1, 1, (.c (V.int .u8 222))), (2, 1, (.c (V.int .u8 0))), (3, 1, (.c (V.int .u8 1))), (4, 1, (.c (V.int .u8 0))), (5, 1, (.c (V.int .u8 16))), (6, 1, (.c (V.int .u8 7))), (7, 1, (.c (V.int .u8 243)))]⟩,
     ⟨(some 88), none, .append ty_uint8 1 1 (.s 86) (.s 87)⟩,
     ⟨(some 89), none, .call fn_rtp_Parse [(.s 88)]⟩,
     ⟨(some 82), none, .mv (.s 89)⟩,
     ⟨(some 90), none, .ext 0 (.s 82)⟩,
     ⟨(some 91), none, .ext 1 (.s 82)⟩,
     ⟨(some 14), none, .box ty_rtp_Packet (.c (V.agg [(V.bool false), (V.int .i64 0), (V.int .u16 0), (V.int .u32 0), (V.int .u32 0), V.nils, (V.int .i64 0), V.nils, (V.int .i64 0), V.nils]))⟩,
     ⟨none, none, .store 10 (.s 14) (.s 90)⟩,
     ⟨(some 15), none, .mv (.s 91)⟩]
   (.ops [⟨(some 93), none, .slit ty_uint8 1 [(V.int .u8 0)] [(0, 1, (.c (V.int .u8 144)))]⟩,
     ⟨(some 94), none, .mv (.s 1)⟩,
     ⟨(some 95), none, .slice .sl 1 (.s 94) (some (.c (V.int .i64 1))) none none⟩,
     ⟨(some 96), none, .append ty_uint8 1 1 (.s 93) (.s 95)⟩,
     ⟨(some 97), none, .slit ty_uint8 8 [(V.int .u8 0)] [(0, 1, (.c (V.int .u8 190))), (1, 1, (.c (V.int .u8 222))), (2, 1, (.c (V.int .u8 0))), (3, 1, (.c (V.int .u8 1))), (4, 1, (.c (V.int .u8 18))), (5, 1, (.c (V.int .u8 7))), (6, 1, (.c (V.int .u8 7))), (7, 1, (.c (V.int .u8 7)))]⟩,
     ⟨(some 98), none, .append ty_uint8 1 1 (.s 96) (.s 97)⟩,
     ⟨(some 99), none, .call fn_rtp_Parse [(.s 98)]⟩,
     ⟨(some 92), none, .mv (.s 99)⟩,
     ⟨(some 100), none, .ext 0 (.s 92)⟩,
     ⟨(some 101), none, .ext 1 (.s 92)⟩,
     ⟨(some 16), none, .box ty_rtp_Packet (.c (V.agg [(V.bool false), (V.int .i64 0), (V.int .u16 0), (V.int .u32 0), (V.int .u32 0), V.nils, (V.int .i64 0), V.nils, (V.int .i64 0), V.nils]))⟩,
     ⟨none, none, .store 10 (.s 16) (.s 100)⟩,
     ⟨(some 17), none, .mv (.s 101)⟩]
   (.ops [⟨(some 103), none, .slit ty_uint8 1 [(V.int .u8 0)] [(0, 1, (.c (V.int .u8 144)))]⟩,
     ⟨(some 104), none, .mv (.s 1)⟩,
     ⟨(some 105), none, .slice .sl 1 (.s 104) (some (.c (V.int .i64 1))) none none⟩,
     ⟨(some 106), none, .append ty_uint8 1 1 (.s 103) (.s 105)⟩,
     ⟨(some 107), none, .slit ty_uint8 8 [(V.int .u8 0)] [(0, 1, (.c (V.int .u8 190))), (1, 1, (.c (V.int .u8 222))), (2, 1, (.c (V.int .u8 0))), (3, 1, (.c (V.int .u8 1))), (4, 1, (.c (V.int .u8 2))), (5, 1, (.c (V.int .u8 7))), (6, 1, (.c (V.int .u8 7))), (7, 1, (.c (V.int .u8 7)))]⟩,
     ⟨(some 108), none, .append ty_uint8 1 1 (.s 106) (.s 107)⟩,
     ⟨(some 109), none, .call fn_rtp_Parse [(.s 108)]⟩,
     ⟨(some 102), none, .mv (.s 109)⟩,
     ⟨(some 110), none, .ext 0 (.s 102)⟩,
     ⟨(some 111), none, .ext 1 (.s 102)⟩,
     ⟨(some 18), none, .box ty_rtp_Packet (.c (V.agg [(V.bool false), (V.int .i64 0), (V.int .u16 0), (V.int .u32 0), (V.int .u32 0), V.nils, (V.int .i64 0), V.nils, (V.int .i64 0), V.nils]))⟩,
     ⟨none, none, .store 10 (.s 18) (.s 110)⟩,
     ⟨(some 19), none, .mv (.s 111)⟩]
   (.ops [⟨(some 113), none, .slit ty_uint8 1 [(V.int .u8 0)] [(0, 1, (.c (V.int .u8 160)))]⟩,
     ⟨(some 114), none, .mv (.s 1)⟩,
     ⟨(some 115), none, .slice .sl 1 (.s 114) (some (.c (V.int .i64 1))) none none⟩,
     ⟨(some 116), none, .append ty_uint8 1 1 (.s 113) (.s 115)⟩,
     ⟨(some 117), none, .slit ty_uint8 1 [(V.int .u8 0)] [(0, 1, (.c (V.int .u8 0)))]⟩,
     ⟨(some 118), none, .append ty_uint8 1 1 (.s 116) (.s 117)⟩,
     ⟨(some 119), none, .call fn_rtp_Parse [(.s 118)]⟩,
     ⟨(some 112), none, .mv (.s 119)⟩,
     ⟨(some 120), none, .ext 0 (.s 112)⟩,
     ⟨(some 121), none, .ext 1 (.s 112)⟩,
     ⟨(some 20), none, .box ty_rtp_Packet (.c (V.agg [(V.bool false), (V.int .i64 0), (V.int .u16 0), (V.int .u32 0), (V.int .u32 0), V.nils, (V.int .i64 0), V.nils, (V.int .i64 0), V.nils]))⟩,
     ⟨none, none, .store 10 (.s 20) (.s 120)⟩,
     ⟨(some 21), none, .mv (.s 121)⟩]
   (.ops [⟨(some 123), none, .slit ty_uint8 1 [(V.int .u8 0)] [(0, 1, (.c (V.int .u8 160)))]⟩,
     ⟨(some 124), none, .mv (.s 1)⟩,
     ⟨(some 125), none, .slice .sl 1 (.s 124) (some (.c (V.int .i64 1))) none none⟩,
     ⟨(some 126), none, .append ty_uint8 1 1 (.s 123) (.s 125)⟩,
     ⟨(some 127), none, .slit ty_uint8 3 [(V.int .u8 0)] [(0, 1, (.c (V.int .u8 9))), (1, 1, (.c (V.int .u8 9))), (2, 1, (.c (V.int .u8 2)))]⟩,
     ⟨(some 128), none, .append ty_uint8 1 1 (.s 126) (.s 127)⟩,
     ⟨(some 129), none, .call fn_rtp_Parse [(.s 128)]⟩,
     ⟨(some 122), none, .mv (.s 129)⟩,
     ⟨(some 130), none, .ext 0 (.s 122)⟩,
     ⟨(some 131), none, .ext 1 (.s 122)⟩,
     ⟨(some 22), none, .box ty_rtp_Packet (.c (V.agg [(V.bool false), (V.int .i64 0), (V.int .u16 0), (V.int .u32 0), (V.int .u32 0), V.nils, (V.int .i64 0), V.nils, (V.int .i64 0), V.nils]))⟩,
     ⟨none, none, .store 10 (.s 22) (.s 130)⟩,
     ⟨(some 23), none, .mv (.s 131)⟩]
   (.ops [⟨(some 133), none, .build [(V.bool false), (V.int .i64 0), (V.int .u16 0), (V.int .u32 0), (V.int .u32 0), V.nils, (V.int .i64 0), V.nils, (V.int .i64 0), V.nils] [(1, 1, (.c (V.int .i64 128)))]⟩,
     ⟨(some 134), none, .call fn_rtp_Bytes [(.s 133)]⟩,
     ⟨(some 132), none, .mv (.s 134)⟩,
     ⟨(some 135), none, .ext 0 (.s 132)⟩,
     ⟨(some 136), none, .ext 1 (.s 132)⟩,
     ⟨(some 24), none, .mv (.s 135)⟩,
     ⟨(some 25), none, .mv (.s 136)⟩]
   (.ops [⟨(some 138), none, .mkslice ty_uint8 1 [(V.int .u8 0)] (.c (V.int .i64 1189)) (.c (V.int .i64 1189))⟩,
     ⟨(some 139), none, .build [(V.bool false), (V.int .i64 0), (V.int .u16 0), (V.int .u32 0), (V.int .u32 0), V.nils, (V.int .i64 0), V.nils, (V.int .i64 0), V.nils] [(9, 1, (.s 138))]⟩,
     ⟨(some 140), none, .call fn_rtp_Bytes [(.s 139)]⟩,
     ⟨(some 137), none, .mv (.s 140)⟩,
     ⟨(some 141), none, .ext 0 (.s 137)⟩,
     ⟨(some 142), none, .ext 1 (.s 137)⟩,
     ⟨(some 26), none, .mv (.s 141)⟩,
     ⟨(some 27), none, .mv (.s 142)⟩]
   (.ops [⟨(some 144), none, .mkslice ty_uint8 1 [(V.int .u8 0)] (.c (V.int .i64 1188)) (.c (V.int .i64 1188))⟩,
     ⟨(some 145), none, .build [(V.bool false), (V.int .i64 0), (V.int .u16 0), (V.int .u32 0), (V.int .u32 0), V.nils, (V.int .i64 0), V.nils, (V.int .i64 0), V.nils] [(9, 1, (.s 144))]⟩,
     ⟨(some 146), none, .call fn_rtp_Bytes [(.s 145)]⟩,
     ⟨(some 143), none, .mv (.s 146)⟩,
     ⟨(some 147), none, .ext 0 (.s 143)⟩,
     ⟨(some 148), none, .ext 1 (.s 143)⟩,
     ⟨(some 28), none, .mv (.s 147)⟩,
     ⟨(some 29), none, .mv (.s 148)⟩]
   (.ops [⟨(some 150), none, .load (some 10) (.s 14)⟩,
     ⟨(some 151), none, .call fn_rtp_Find [(.s 150), (.c (V.int .i64 1))]⟩,
     ⟨(some 149), none, .mv (.s 151)⟩,
     ⟨(some 152), none, .ext 0 (.s 149)⟩,
     ⟨(some 153), none, .ext 1 (.s 149)⟩,
     ⟨(some 30), none, .mv (.s 152)⟩,
     ⟨(some 31), none, .mv (.s 153)⟩]
   (.ops [⟨(some 154), none, .mv (.s 3)⟩,
     ⟨(some 155), none, .bin .eql (.s 154) (.c (V.int .i64 3))⟩,
     ⟨(some 156), none, .mv (.s 155)⟩,
     ⟨(some 157), (some (156, true)), .mv (.s 5)⟩,
     ⟨(some 158), (some (156, true)), .bin .eql (.s 157) (.c (V.int .i64 2))⟩,
     ⟨(some 159), none, .pick (.s 156) (.s 158) (.c (V.bool false))⟩,
     ⟨(some 160), none, .mv (.s 159)⟩,
     ⟨(some 161), (some (160, true)), .mv (.s 7)⟩,
     ⟨(some 162), (some (160, true)), .bin .eql (.s 161) (.c (V.int .i64 3))⟩,
     ⟨(some 163), none, .pick (.s 160) (.s 162) (.c (V.bool false))⟩,
     ⟨(some 164), none, .mv (.s 163)⟩,
     ⟨(some 165), (some (164, true)), .mv (.s 9)⟩,
     ⟨(some 166), (some (164, true)), .bin .eql (.s 165) (.c (V.int .i64 4))⟩,
     ⟨(some 167), none, .pick (.s 164) (.s 166) (.c (V.bool false))⟩,
     ⟨(some 168), none, .mv (.s 167)⟩,
     ⟨(some 169), (some (168, true)), .mv (.s 11)⟩,
     ⟨(some 170), (some (168, true)), .bin .eql (.s 169) (.c (V.int .i64 3))⟩,
     ⟨(some 171), none, .pick (.s 168) (.s 170) (.c (V.bool false))⟩,
     ⟨(some 172), none, .mv (.s 171)⟩,
     ⟨(some 173), (some (172, true)), .mv (.s 13)⟩,
     ⟨(some 174), (some (172, true)), .bin .eql (.s 173) (.c (V.int .i64 2))⟩,
     ⟨(some 175), none, .pick (.s 172) (.s 174) (.c (V.bool false))⟩,
     ⟨(some 176), none, .mv (.s 175)⟩,
     ⟨(some 177), (some (176, true)), .mv (.s 15)⟩,
     ⟨(some 178), (some (176, true)), .bin .eql (.s 177) (.c (V.int .i64 0))⟩,
     ⟨(some 179), none, .pick (.s 176) (.s 178) (.c (V.bool false))⟩,
     ⟨(some 180), none, .mv (.s 179)⟩,
     ⟨(some 181), (some (180, true)), .mv (.s 31)⟩,
     ⟨(some 182), none, .pick (.s 180) (.s 181) (.c (V.bool false))⟩,
     ⟨(some 183), none, .mv (.s 182)⟩,
     ⟨(some 184), (some (183, true)), .mv (.s 30)⟩,
     ⟨(some 185), (some (183, true)), .len (.s 184)⟩,
     ⟨(some 186), (some (183, true)), .bin .eql (.s 185) (.c (V.int .i64 1))⟩,
     ⟨(some 187), none, .pick (.s 183) (.s 186) (.c (V.bool false))⟩,
     ⟨(some 188), none, .mv (.s 187)⟩,
     ⟨(some 189), (some (188, true)), .mv (.s 30)⟩,
     ⟨(some 190), (some (188, true)), .iaddr none 1 (.s 189) (.c (V.int .i64 0))⟩,
     ⟨(some 191), (some (188, true)), .load none (.s 190)⟩,
     ⟨(some 192), (some (188, true)), .bin .eql (.s 191) (.c (V.int .u8 7))⟩,
     ⟨(some 193), none, .pick (.s 188) (.s 192) (.c (V.bool false))⟩,
     ⟨(some 194), none, .mv (.s 193)⟩,
     ⟨(some 195), (some (194, true)), .faddr 7 (.s 14)⟩,
     ⟨(some 196), (some (194, true)), .load none (.s 195)⟩,
     ⟨(some 197), (some (194, true)), .len (.s 196)⟩,
     ⟨(some 198), (some (194, true)), .bin .eql (.s 197) (.c (V.int .i64 1))⟩,
     ⟨(some 199), none, .pick (.s 194) (.s 198) (.c (V.bool false))⟩,
     ⟨(some 200), none, .mv (.s 199)⟩,
     ⟨(some 201), (some (200, true)), .mv (.s 17)⟩,
     ⟨(some 202), (some (200, true)), .bin .eql (.s 201) (.c (V.int .i64 0))⟩,
     ⟨(some 203), none, .pick (.s 200) (.s 202) (.c (V.bool false))⟩,
     ⟨(some 204), none, .mv (.s 203)⟩,
     ⟨(some 205), (some (204, true)), .mv (.s 19)⟩,
     ⟨(some 206), (some (204, true)), .bin .eql (.s 205) (.c (V.int .i64 2))⟩,
     ⟨(some 207), none, .pick (.s 204) (.s 206) (.c (V.bool false))⟩,
     ⟨(some 208), none, .mv (.s 207)⟩,
     ⟨(some 209), (some (208, true)), .mv (.s 21)⟩,
     ⟨(some 210), (some (208, true)), .bin .eql (.s 209) (.c (V.int .i64 2))⟩,
     ⟨(some 211), none, .pick (.s 208) (.s 210) (.c (V.bool false))⟩,
     ⟨(some 212), none, .mv (.s 211)⟩,
     ⟨(some 213), (some (212, true)), .mv (.s 23)⟩,
     ⟨(some 214), (some (212, true)), .bin .eql (.s 213) (.c (V.int .i64 0))⟩,
     ⟨(some 215), none, .pick (.s 212) (.s 214) (.c (V.bool false))⟩,
     ⟨(some 216), none, .mv (.s 215)⟩,
     ⟨(some 217), (some (216, true)), .faddr 8 (.s 22)⟩,
     ⟨(some 218), (some (216, true)), .load none (.s 217)⟩,
     ⟨(some 219), (some (216, true)), .bin .eql (.s 218) (.c (V.int .i64 2))⟩,
     ⟨(some 220), none, .pick (.s 216) (.s 219) (.c (V.bool false))⟩,
     ⟨(some 221), none, .mv (.s 220)⟩,
     ⟨(some 222), (some (221, true)), .faddr 9 (.s 22)⟩,
     ⟨(some 223), (some (221, true)), .load none (.s 222)⟩,
     ⟨(some 224), (some (221, true)), .len (.s 223)⟩,
     ⟨(some 225), (some (221, true)), .bin .eql (.s 224) (.c (V.int .i64 1))⟩,
     ⟨(some 226), none, .pick (.s 221) (.s 225) (.c (V.bool false))⟩,
     ⟨(some 227), none, .mv (.s 226)⟩,
     ⟨(some 228), (some (227, true)), .mv (.s 25)⟩,
     ⟨(some 229), (some (227, true)), .bin .eql (.s 228) (.c (V.int .i64 1))⟩,
     ⟨(some 230), none, .pick (.s 227) (.s 229) (.c (V.bool false))⟩,
     ⟨(some 231), none, .mv (.s 230)⟩,
     ⟨(some 232), (some (231, true)), .mv (.s 27)⟩,
     ⟨(some 233), (some (231, true)), .bin .eql (.s 232) (.c (V.int .i64 4))⟩,
     ⟨(some 234), none, .pick (.s 231) (.s 233) (.c (V.bool false))⟩,
     ⟨(some 235), none, .mv (.s 234)⟩,
     ⟨(some 236), (some (235, true)), .mv (.s 28)⟩,
     ⟨(some 237), (some (235, true)), .len (.s 236)⟩,
     ⟨(some 238), (some (235, true)), .bin .eql (.s 237) (.c (V.int .i64 1200))⟩,
     ⟨(some 239), none, .pick (.s 235) (.s 238) (.c (V.bool false))⟩,
     ⟨(some 240), none, .mv (.s 239)⟩,
     ⟨(some 241), (some (240, true)), .mv (.s 29)⟩,
     ⟨(some 242), (some (240, true)), .bin .eql (.s 241) (.c (V.int .i64 0))⟩,
     ⟨(some 243), none, .pick (.s 240) (.s 242) (.c (V.bool false))⟩,
     ⟨(some 0), none, .mv (.s 243)⟩]
   (.ret))))))))))))))))))))⟩

noncomputable def f_palanquinlaw7_RtpKnown (G : Sem') : M Res :=
  (G fn_palanquinlaw7_awake []).bind fun t32 =>
  (M.lift (Ax.un .not t32)).bind fun t33 =>
  M.ite t33
    (M.pure (.ret [(V.bool false)]))
    ((mslit ty_uint8 12 [(V.int .u8 0)] [(0, 1, (V.int .u8 128)), (1, 1, (V.int .u8 96)), (2, 1, (V.int .u8 0)), (3, 1, (V.int .u8 1)), (4, 1, (V.int .u8 0)), (5, 1, (V.int .u8 0)), (6, 1, (V.int .u8 0)), (7, 1, (V.int .u8 2)), (8, 1, (V.int .u8 0)), (9, 1, (V.int .u8 0)), (10, 1, (V.int .u8 0)), (11, 1, (V.int .u8 3))]).bind fun t34 =>
    (M.lift (vslice .sl 1 t34 none (some (V.int .i64 11)) none)).bind fun t37 =>
    (G fn_rtp_Parse [t37]).bind fun t38 =>
    (M.lift (Ax.ext 0 t38)).bind fun t39 =>
    (M.lift (Ax.ext 1 t38)).bind fun t40 =>
    (mbox ty_rtp_Packet (V.agg [(V.bool false), (V.int .i64 0), (V.int .u16 0), (V.int .u32 0), (V.int .u32 0), V.nils, (V.int .i64 0), V.nils, (V.int .i64 0), V.nils])).bind fun t2 =>
    (mstore 10 t2 t39).bind fun _ =>
    (mslit ty_uint8 1 [(V.int .u8 0)] [(0, 1, (V.int .u8 64))]).bind fun t42 =>
    (M.lift (vslice .sl 1 t34 (some (V.int .i64 1)) none none)).bind fun t44 =>
    (mappend ty_uint8 1 1 t42 t44).bind fun t45 =>
    (G fn_rtp_Parse [t45]).bind fun t46 =>
    (M.lift (Ax.ext 0 t46)).bind fun t47 =>
    (M.lift (Ax.ext 1 t46)).bind fun t48 =>
    (mbox ty_rtp_Packet (V.agg [(V.bool false), (V.int .i64 0), (V.int .u16 0), (V.int .u32 0), (V.int .u32 0), V.nils, (V.int .i64 0), V.nils, (V.int .i64 0), V.nils])).bind fun t4 =>
    (mstore 10 t4 t47).bind fun _ =>
    (mslit ty_uint8 1 [(V.int .u8 0)] [(0, 1, (V.int .u8 129))]).bind fun t50 =>
    (M.lift (vslice .sl 1 t34 (some (V.int .i64 1)) none none)).bind fun t52 =>
    (mappend ty_uint8 1 1 t50 t52).bind fun t53 =>
    (G fn_rtp_Parse [t53]).bind fun t54 =>
    (M.lift (Ax.ext 0 t54)).bind fun t55 =>
    (M.lift (Ax.ext 1 t54)).bind fun t56 =>
    (mbox ty_rtp_Packet (V.agg [(V.bool false), (V.int .i64 0), (V.int .u16 0), (V.int .u32 0), (V.int .u32 0), V.nils, (V.int .i64 0), V.nils, (V.int .i64 0), V.nils])).bind fun t6 =>
    (mstore 10 t6 t55).bind fun _ =>
    (mmkslice ty_uint8 1 [(V.int .u8 0)] (V.int .i64 1201) (V.int .i64 1201)).bind fun t58 =>
    (G fn_rtp_Parse [t58]).bind fun t59 =>
    (M.lift (Ax.ext 0 t59)).bind fun t60 =>
    (M.lift (Ax.ext 1 t59)).bind fun t61 =>
    (mbox ty_rtp_Packet (V.agg [(V.bool false), (V.int .i64 0), (V.int .u16 0), (V.int .u32 0), (V.int .u32 0), V.nils, (V.int .i64 0), V.nils, (V.int .i64 0), V.nils])).bind fun t8 =>
    (mstore 10 t8 t60).bind fun _ =>
    (mslit ty_uint8 1 [(V.int .u8 0)] [(0, 1, (V.int .u8 144))]).bind fun t63 =>
    (M.lift (vslice .sl 1 t34 (some (V.int .i64 1)) none none)).bind fun t65 =>
    (mappend ty_uint8 1 1 t63 t65).bind fun t66 =>
    (mslit ty_uint8 4 [(V.int .u8 0)] [(0, 1, (V.int .u8 190)), (1, 1, (V.int .u8 222)), (2, 1, (V.int .u8 0)), (3, 1, (V.int .u8 1))]).bind fun t67 =>
    (mappend ty_uint8 1 1 t66 t67).bind fun t68 =>
    (G fn_rtp_Parse [t68]).bind fun t69 =>
    (M.lift (Ax.ext 0 t69)).bind fun t70 =>
    (M.lift (Ax.ext 1 t69)).bind fun t71 =>
    (mbox ty_rtp_Packet (V.agg [(V.bool false), (V.int .i64 0), (V.int .u16 0), (V.int .u32 0), (V.int .u32 0), V.nils, (V.int .i64 0), V.nils, (V.int .i64 0), V.nils])).bind fun t10 =>
    (mstore 10 t10 t70).bind fun _ =>
    (mslit ty_uint8 1 [(V.int .u8 0)] [(0, 1, (V.int .u8 144))]).bind fun t73 =>
    (M.lift (vslice .sl 1 t34 (some (V.int .i64 1)) none none)).bind fun t75 =>
    (mappend ty_uint8 1 1 t73 t75).bind fun t76 =>
    (mslit ty_uint8 4 [(V.int .u8 0)] [(0, 1, (V.int .u8 190)), (1, 1, (V.int .u8 223)), (2, 1, (V.int .u8 0)), (3, 1, (V.int .u8 0))]).bind fun t77 =>
    (mappend ty_uint8 1 1 t76 t77).bind fun t78 =>
    (G fn_rtp_Parse [t78]).bind fun t79 =>
    (M.lift (Ax.ext 0 t79)).bind fun t80 =>
    (M.lift (Ax.ext 1 t79)).bind fun t81 =>
    (mbox ty_rtp_Packet (V.agg [(V.bool false), (V.int .i64 0), (V.int .u16 0), (V.int .u32 0), (V.int .u32 0), V.nils, (V.int .i64 0), V.nils, (V.int .i64 0), V.nils])).bind fun t12 =>
    (mstore 10 t12 t80).bind fun _ =>
    (mslit ty_uint8 1 [(V.int .u8 0)] [(0, 1, (V.int .u8 144))]).bind fun t83 =>
    (M.lift (vslice .sl 1 t34 (some (V.int .i64 1)) none none)).bind fun t85 =>
    (mappend ty_uint8 1 1 t83 t85).bind fun t86 =>
    (mslit ty_uint8 8 [(V.int .u8 0)] [(0, 1, (V.int .u8 190)), (1, 1, (V.int .u8 222)), (2, 1, (V.int .u8 0)), (3, 1, (V.int .u8 1)), (4, 1, (V.int .u8 0)), (5, 1, (V.int .u8 16)), (6, 1, (V.int .u8 7)), (7, 1, (V.int .u8 243))]).bind fun t87 =>
    (mappend ty_uint8 1 1 t86 t87).bind fun t88 =>
    (G fn_rtp_Parse [t88]).bind fun t89 =>
    (M.lift (Ax.ext 0 t89)).bind fun t90 =>
    (M.lift (Ax.ext 1 t89)).bind fun t91 =>
    (mbox ty_rtp_Packet (V.agg [(V.bool false), (V.int .i64 0), (V.int .u16 0), (V.int .u32 0), (V.int .u32 0), V.nils, (V.int .i64 0), V.nils, (V.int .i64 0), V.nils])).bind fun t14 =>
    (mstore 10 t14 t90).bind fun _ =>
    (mslit ty_uint8 1 [(V.int .u8 0)] [(0, 1, (V.int .u8 144))]).bind fun t93 =>
    (M.lift (vslice .sl 1 t34 (some (V.int .i64 1)) none none)).bind fun t95 =>
    (mappend ty_uint8 1 1 t93 t95).bind fun t96 =>
    (mslit ty_uint8 8 [(V.int .u8 0)] [(0, 1, (V.int .u8 190)), (1, 1, (V.int .u8 222)), (2, 1, (V.int .u8 0)), (3, 1, (V.int .u8 1)), (4, 1, (V.int .u8 18)), (5, 1, (V.int .u8 7)), (6, 1, (V.int .u8 7)), (7, 1, (V.int .u8 7))]).bind fun t97 =>
    (mappend ty_uint8 1 1 t96 t97).bind fun t98 =>
    (G fn_rtp_Parse [t98]).bind fun t99 =>
    (M.lift (Ax.ext 0 t99)).bind fun t100 =>
    (M.lift (Ax.ext 1 t99)).bind fun t101 =>
    (mbox ty_rtp_Packet (V.agg [(V.bool false), (V.int .i64 0), (V.int .u16 0), (V.int .u32 0), (V.int .u32 0), V.nils, (V.int .i64 0), V.nils, (V.int .i64 0), V.nils])).bind fun t16 =>
    (mstore 10 t16 t100).bind fun _ =>
    (mslit ty_uint8 1 [(V.int .u8 0)] [(0, 1, (V.int .u8 144))]).bind fun t103 =>
    (M.lift (vslice .sl 1 t34 (some (V.int .i64 1)) none none)).bind fun t105 =>
    (mappend ty_uint8 1 1 t103 t105).bind fun t106 =>
    (mslit ty_uint8 8 [(V.int .u8 0)] [(0, 1, (V.int .u8 190)), (1, 1, (V.int .u8 222)), (2, 1, (V.int .u8 0)), (3, 1, (V.int .u8 1)), (4, 1, (V.int .u8 2)), (5, 1, (V.int .u8 7)), (6, 1, (V.int .u8 7)), (7, 1, (V.int .u8 7))]).bind fun t107 =>
    (mappend ty_uint8 1 1 t106 t107).bind fun t108 =>
    (G fn_rtp_Parse [t108]).bind fun t109 =>
    (M.lift (Ax.ext 0 t109)).bind fun t110 =>
    (M.lift (Ax.ext 1 t109)).bind fun t111 =>
    (mbox ty_rtp_Packet (V.agg [(V.bool false), (V.int .i64 0), (V.int .u16 0), (V.int .u32 0), (V.int .u32 0), V.nils, (V.int .i64 0), V.nils, (V.int .i64 0), V.nils])).bind fun t18 =>
    (mstore 10 t18 t110).bind fun _ =>
    (mslit ty_uint8 1 [(V.int .u8 0)] [(0, 1, (V.int .u8 160))]).bind fun t113 =>
    (M.lift (vslice .sl 1 t34 (some (V.int .i64 1)) none none)).bind fun t115 =>
    (mappend ty_uint8 1 1 t113 t115).bind fun t116 =>
    (mslit ty_uint8 1 [(V.int .u8 0)] [(0, 1, (V.int .u8 0))]).bind fun t117 =>
    (mappend ty_uint8 1 1 t116 t117).bind fun t118 =>
    (G fn_rtp_Parse [t118]).bind fun t119 =>
    (M.lift (Ax.ext 0 t119)).bind fun t120 =>
    (M.lift (Ax.ext 1 t119)).bind fun t121 =>
    (mbox ty_rtp_Packet (V.agg [(V.bool false), (V.int .i64 0), (V.int .u16 0), (V.int .u32 0), (V.int .u32 0), V.nils, (V.int .i64 0), V.nils, (V.int .i64 0), V.nils])).bind fun t20 =>
    (mstore 10 t20 t120).bind fun _ =>
    (mslit ty_uint8 1 [(V.int .u8 0)] [(0, 1, (V.int .u8 160))]).bind fun t123 =>
    (M.lift (vslice .sl 1 t34 (some (V.int .i64 1)) none none)).bind fun t125 =>
    (mappend ty_uint8 1 1 t123 t125).bind fun t126 =>
    (mslit ty_uint8 3 [(V.int .u8 0)] [(0, 1, (V.int .u8 9)), (1, 1, (V.int .u8 9)), (2, 1, (V.int .u8 2))]).bind fun t127 =>
    (mappend ty_uint8 1 1 t126 t127).bind fun t128 =>
    (G fn_rtp_Parse [t128]).bind fun t129 =>
    (M.lift (Ax.ext 0 t129)).bind fun t130 =>
    (M.lift (Ax.ext 1 t129)).bind fun t131 =>
    (mbox ty_rtp_Packet (V.agg [(V.bool false), (V.int .i64 0), (V.int .u16 0), (V.int .u32 0), (V.int .u32 0), V.nils, (V.int .i64 0), V.nils, (V.int .i64 0), V.nils])).bind fun t22 =>
    (mstore 10 t22 t130).bind fun _ =>
    (M.lift (Ax.build [(V.bool false), (V.int .i64 0), (V.int .u16 0), (V.int .u32 0), (V.int .u32 0), V.nils, (V.int .i64 0), V.nils, (V.int .i64 0), V.nils] [(1, 1, (V.int .i64 128))])).bind fun t133 =>
    (G fn_rtp_Bytes [t133]).bind fun t134 =>
    (M.lift (Ax.ext 0 t134)).bind fun t135 =>
    (M.lift (Ax.ext 1 t134)).bind fun t136 =>
    (mmkslice ty_uint8 1 [(V.int .u8 0)] (V.int .i64 1189) (V.int .i64 1189)).bind fun t138 =>
    (M.lift (Ax.build [(V.bool false), (V.int .i64 0), (V.int .u16 0), (V.int .u32 0), (V.int .u32 0), V.nils, (V.int .i64 0), V.nils, (V.int .i64 0), V.nils] [(9, 1, t138)])).bind fun t139 =>
    (G fn_rtp_Bytes [t139]).bind fun t140 =>
    (M.lift (Ax.ext 0 t140)).bind fun t141 =>
    (M.lift (Ax.ext 1 t140)).bind fun t142 =>
    (mmkslice ty_uint8 1 [(V.int .u8 0)] (V.int .i64 1188) (V.int .i64 1188)).bind fun t144 =>
    (M.lift (Ax.build [(V.bool false), (V.int .i64 0), (V.int .u16 0), (V.int .u32 0), (V.int .u32 0), V.nils, (V.int .i64 0), V.nils, (V.int .i64 0), V.nils] [(9, 1, t144)])).bind fun t145 =>
    (G fn_rtp_Bytes [t145]).bind fun t146 =>
    (M.lift (Ax.ext 0 t146)).bind fun t147 =>
    (M.lift (Ax.ext 1 t146)).bind fun t148 =>
    (mload (some 10) t14).bind fun t150 =>
    (G fn_rtp_Find [t150, (V.int .i64 1)]).bind fun t151 =>
    (M.lift (Ax.ext 0 t151)).bind fun t152 =>
    (M.lift (Ax.ext 1 t151)).bind fun t153 =>
    (M.lift (Ax.bin .eql t40 (V.int .i64 3))).bind fun t155 =>
    (guarded [(0, t155)] (some (0, true)) (M.pure t48)).bind fun t157 =>
    (guarded [(0, t155)] (some (0, true)) (M.lift (Ax.bin .eql t157 (V.int .i64 2)))).bind fun t158 =>
    (M.lift (Ax.pick t155 t158 (V.bool false))).bind fun t159 =>
    (guarded [(0, t159)] (some (0, true)) (M.pure t56)).bind fun t161 =>
    (guarded [(0, t159)] (some (0, true)) (M.lift (Ax.bin .eql t161 (V.int .i64 3)))).bind fun t162 =>
    (M.lift (Ax.pick t159 t162 (V.bool false))).bind fun t163 =>
    (guarded [(0, t163)] (some (0, true)) (M.pure t61)).bind fun t165 =>
    (guarded [(0, t163)] (some (0, true)) (M.lift (Ax.bin .eql t165 (V.int .i64 4)))).bind fun t166 =>
    (M.lift (Ax.pick t163 t166 (V.bool false))).bind fun t167 =>
    (guarded [(0, t167)] (some (0, true)) (M.pure t71)).bind fun t169 =>
    (guarded [(0, t167)] (some (0, true)) (M.lift (Ax.bin .eql t169 (V.int .i64 3)))).bind fun t170 =>
    (M.lift (Ax.pick t167 t170 (V.bool false))).bind fun t171 =>
    (guarded [(0, t171)] (some (0, true)) (M.pure t81)).bind fun t173 =>
    (guarded [(0, t171)] (some (0, true)) (M.lift (Ax.bin .eql t173 (V.int .i64 2)))).bind fun t174 =>
    (M.lift (Ax.pick t171 t174 (V.bool false))).bind fun t175 =>
    (guarded [(0, t175)] (some (0, true)) (M.pure t91)).bind fun t177 =>
    (guarded [(0, t175)] (some (0, true)) (M.lift (Ax.bin .eql t177 (V.int .i64 0)))).bind fun t178 =>
    (M.lift (Ax.pick t175 t178 (V.bool false))).bind fun t179 =>
    (guarded [(0, t179)] (some (0, true)) (M.pure t153)).bind fun t181 =>
    (M.lift (Ax.pick t179 t181 (V.bool false))).bind fun t182 =>
    (guarded [(0, t182)] (some (0, true)) (M.pure t152)).bind fun t184 =>
    (guarded [(0, t182)] (some (0, true)) (M.lift (vlen t184))).bind fun t185 =>
    (guarded [(0, t182)] (some (0, true)) (M.lift (Ax.bin .eql t185 (V.int .i64 1)))).bind fun t186 =>
    (M.lift (Ax.pick t182 t186 (V.bool false))).bind fun t187 =>
    (guarded [(0, t187)] (some (0, true)) (M.pure t152)).bind fun t189 =>
    (guarded [(0, t187)] (some (0, true)) (M.lift (Ax.iaddr none 1 t189 (V.int .i64 0)))).bind fun t190 =>
    (guarded [(0, t187)] (some (0, true)) (mload none t190)).bind fun t191 =>
    (guarded [(0, t187)] (some (0, true)) (M.lift (Ax.bin .eql t191 (V.int .u8 7)))).bind fun t192 =>
    (M.lift (Ax.pick t187 t192 (V.bool false))).bind fun t193 =>
    (guarded [(0, t193)] (some (0, true)) (M.lift (Ax.faddr 7 t14))).bind fun t195 =>
    (guarded [(0, t193)] (some (0, true)) (mload none t195)).bind fun t196 =>
    (guarded [(0, t193)] (some (0, true)) (M.lift (vlen t196))).bind fun t197 =>
    (guarded [(0, t193)] (some (0, true)) (M.lift (Ax.bin .eql t197 (V.int .i64 1)))).bind fun t198 =>
    (M.lift (Ax.pick t193 t198 (V.bool false))).bind fun t199 =>
    (guarded [(0, t199)] (some (0, true)) (M.pure t101)).bind fun t201 =>
    (guarded [(0, t199)] (some (0, true)) (M.lift (Ax.bin .eql t201 (V.int .i64 0)))).bind fun t202 =>
    (M.lift (Ax.pick t199 t202 (V.bool false))).bind fun t203 =>
    (guarded [(0, t203)] (some (0, true)) (M.pure t111)).bind fun t205 =>
    (guarded [(0, t203)] (some (0, true)) (M.lift (Ax.bin .eql t205 (V.int .i64 2)))).bind fun t206 =>
    (M.lift (Ax.pick t203 t206 (V.bool false))).bind fun t207 =>
    (guarded [(0, t207)] (some (0, true)) (M.pure t121)).bind fun t209 =>
    (guarded [(0, t207)] (some (0, true)) (M.lift (Ax.bin .eql t209 (V.int .i64 2)))).bind fun t210 =>
    (M.lift (Ax.pick t207 t210 (V.bool false))).bind fun t211 =>
    (guarded [(0, t211)] (some (0, true)) (M.pure t131)).bind fun t213 =>
    (guarded [(0, t211)] (some (0, true)) (M.lift (Ax.bin .eql t213 (V.int .i64 0)))).bind fun t214 =>
    (M.lift (Ax.pick t211 t214 (V.bool false))).bind fun t215 =>
    (guarded [(0, t215)] (some (0, true)) (M.lift (Ax.faddr 8 t22))).bind fun t217 =>
    (guarded [(0, t215)] (some (0, true)) (mload none t217)).bind fun t218 =>
    (guarded [(0, t215)] (some (0, true)) (M.lift (Ax.bin .eql t218 (V.int .i64 2)))).bind fun t219 =>
    (M.lift (Ax.pick t215 t219 (V.bool false))).bind fun t220 =>
    (guarded [(0, t220)] (some (0, true)) (M.lift (Ax.faddr 9 t22))).bind fun t222 =>
    (guarded [(0, t220)] (some (0, true)) (mload none t222)).bind fun t223 =>
    (guarded [(0, t220)] (some (0, true)) (M.lift (vlen t223))).bind fun t224 =>
    (guarded [(0, t220)] (some (0, true)) (M.lift (Ax.bin .eql t224 (V.int .i64 1)))).bind fun t225 =>
    (M.lift (Ax.pick t220 t225 (V.bool false))).bind fun t226 =>
    (guarded [(0, t226)] (some (0, true)) (M.pure t136)).bind fun t228 =>
    (guarded [(0, t226)] (some (0, true)) (M.lift (Ax.bin .eql t228 (V.int .i64 1)))).bind fun t229 =>
    (M.lift (Ax.pick t226 t229 (V.bool false))).bind fun t230 =>
    (guarded [(0, t230)] (some (0, true)) (M.pure t142)).bind fun t232 =>
    (guarded [(0, t230)] (some (0, true)) (M.lift (Ax.bin .eql t232 (V.int .i64 4)))).bind fun t233 =>
    (M.lift (Ax.pick t230 t233 (V.bool false))).bind fun t234 =>
    (guarded [(0, t234)] (some (0, true)) (M.pure t147)).bind fun t236 =>
    (guarded [(0, t234)] (some (0, true)) (M.lift (vlen t236))).bind fun t237 =>
    (guarded [(0, t234)] (some (0, true)) (M.lift (Ax.bin .eql t237 (V.int .i64 1200)))).bind fun t238 =>
    (M.lift (Ax.pick t234 t238 (V.bool false))).bind fun t239 =>
    (guarded [(0, t239)] (some (0, true)) (M.pure t148)).bind fun t241 =>
    (guarded [(0, t239)] (some (0, true)) (M.lift (Ax.bin .eql t241 (V.int .i64 0)))).bind fun t242 =>
    (M.lift (Ax.pick t239 t242 (V.bool false))).bind fun t243 =>
    M.pure (.ret [t243]))

theorem eq_palanquinlaw7_RtpKnown (G : Sem') : execK G ir_palanquinlaw7_RtpKnown.rv ir_palanquinlaw7_RtpKnown.body [] [] (params 0 []) = f_palanquinlaw7_RtpKnown G := by kernel_rfl

theorem tb_palanquinlaw7_RtpKnown : T fn_palanquinlaw7_RtpKnown = some ir_palanquinlaw7_RtpKnown := by kernel_rfl

theorem ok_palanquinlaw7_RtpKnown {H : Heap} {Q : V → Heap → Prop} (h : Ok (f_palanquinlaw7_RtpKnown (sem T)) H fun r H' => ∃ L, r = .ret L ∧ Q (tupled L) H') : Ok (sem T fn_palanquinlaw7_RtpKnown []) H Q :=
  ok_sem tb_palanquinlaw7_RtpKnown (Nat.le_of_ble_eq_true rfl) (eq_palanquinlaw7_RtpKnown (sem T)) h

/-- palanquin/palanquinlaw7.awake. -/
def ir_palanquinlaw7_awake : Fn' := ⟨34, [.tmp 0],
  .ops [⟨(some 0), none, .mv (.c (V.bool false))⟩]
  (.ops [⟨(some 4), none, .slit ty_uint8 12 [(V.int .u8 0)] [(0, 1, (.c (V.int .u8 128))), (1, 1, (.c (V.int .u8 96))), (2, 1, (.c (V.int .u8 0))), (3, 1, (.c (V.int .u8 1))), (4, 1, (.c (V.int .u8 0))), (5, 1, (.c (V.int .u8 0))), (6, 1, (.c (V.int .u8 0))), (7, 1, (.c (V.int .u8 2))), (8, 1, (.c (V.int .u8 0))), (9, 1, (.c (V.int .u8 0))), (10, 1, (.c (V.int .u8 0))), (11, 1, (.c (V.int .u8 3)))]⟩,
    ⟨(some 5), none, .call fn_rtp_Parse [(.s 4)]⟩,
    ⟨(some 3), none, .mv (.s 5)⟩,
    ⟨(some 6), none, .ext 0 (.s 3)⟩,
    ⟨(some 7), none, .ext 1 (.s 3)⟩,
    ⟨(some 1), none, .box ty_rtp_Packet (.c (V.agg [(V.bool false), (V.int .i64 0), (V.int .u16 0), (V.int .u32 0), (V.int .u32 0), V.nils, (V.int .i64 0), V.nils, (V.int .i64 0), V.nils]))⟩,
    ⟨none, none, .store 10 (.s 1) (.s 6)⟩,
    ⟨(some 2), none, .mv (.s 7)⟩]
  (.ops [⟨(some 8), none, .mv (.s 2)⟩,
    ⟨(some 9), none, .bin .eql (.s 8) (.c (V.int .i64 0))⟩,
    ⟨(some 10), none, .mv (.s 9)⟩,
    ⟨(some 11), (some (10, true)), .faddr 1 (.s 1)⟩,
    ⟨(some 12), (some (10, true)), .load none (.s 11)⟩,
    ⟨(some 13), (some (10, true)), .bin .eql (.s 12) (.c (V.int .i64 96))⟩,
    ⟨(some 14), none, .pick (.s 10) (.s 13) (.c (V.bool false))⟩,
    ⟨(some 15), none, .mv (.s 14)⟩,
    ⟨(some 16), (some (15, true)), .faddr 2 (.s 1)⟩,
    ⟨(some 17), (some (15, true)), .load none (.s 16)⟩,
    ⟨(some 18), (some (15, true)), .bin .eql (.s 17) (.c (V.int .u16 1))⟩,
    ⟨(some 19), none, .pick (.s 15) (.s 18) (.c (V.bool false))⟩,
    ⟨(some 20), none, .mv (.s 19)⟩,
    ⟨(some 21), (some (20, true)), .faddr 3 (.s 1)⟩,
    ⟨(some 22), (some (20, true)), .load none (.s 21)⟩,
    ⟨(some 23), (some (20, true)), .bin .eql (.s 22) (.c (V.int .u32 2))⟩,
    ⟨(some 24), none, .pick (.s 20) (.s 23) (.c (V.bool false))⟩,
    ⟨(some 25), none, .mv (.s 24)⟩,
    ⟨(some 26), (some (25, true)), .faddr 4 (.s 1)⟩,
    ⟨(some 27), (some (25, true)), .load none (.s 26)⟩,
    ⟨(some 28), (some (25, true)), .bin .eql (.s 27) (.c (V.int .u32 3))⟩,
    ⟨(some 29), none, .pick (.s 25) (.s 28) (.c (V.bool false))⟩,
    ⟨(some 30), none, .mv (.s 29)⟩,
    ⟨(some 31), (some (30, true)), .load (some 10) (.s 1)⟩,
    ⟨(some 32), (some (30, true)), .call fn_rtp_Good [(.s 31)]⟩,
    ⟨(some 33), none, .pick (.s 30) (.s 32) (.c (V.bool false))⟩,
    ⟨(some 0), none, .mv (.s 33)⟩]
  (.ret)))⟩

noncomputable def f_palanquinlaw7_awake (G : Sem') : M Res :=
  (mslit ty_uint8 12 [(V.int .u8 0)] [(0, 1, (V.int .u8 128)), (1, 1, (V.int .u8 96)), (2, 1, (V.int .u8 0)), (3, 1, (V.int .u8 1)), (4, 1, (V.int .u8 0)), (5, 1, (V.int .u8 0)), (6, 1, (V.int .u8 0)), (7, 1, (V.int .u8 2)), (8, 1, (V.int .u8 0)), (9, 1, (V.int .u8 0)), (10, 1, (V.int .u8 0)), (11, 1, (V.int .u8 3))]).bind fun t4 =>
  (G fn_rtp_Parse [t4]).bind fun t5 =>
  (M.lift (Ax.ext 0 t5)).bind fun t6 =>
  (M.lift (Ax.ext 1 t5)).bind fun t7 =>
  (mbox ty_rtp_Packet (V.agg [(V.bool false), (V.int .i64 0), (V.int .u16 0), (V.int .u32 0), (V.int .u32 0), V.nils, (V.int .i64 0), V.nils, (V.int .i64 0), V.nils])).bind fun t1 =>
  (mstore 10 t1 t6).bind fun _ =>
  (M.lift (Ax.bin .eql t7 (V.int .i64 0))).bind fun t9 =>
  (guarded [(0, t9)] (some (0, true)) (M.lift (Ax.faddr 1 t1))).bind fun t11 =>
  (guarded [(0, t9)] (some (0, true)) (mload none t11)).bind fun t12 =>
  (guarded [(0, t9)] (some (0, true)) (M.lift (Ax.bin .eql t12 (V.int .i64 96)))).bind fun t13 =>
  (M.lift (Ax.pick t9 t13 (V.bool false))).bind fun t14 =>
  (guarded [(0, t14)] (some (0, true)) (M.lift (Ax.faddr 2 t1))).bind fun t16 =>
  (guarded [(0, t14)] (some (0, true)) (mload none t16)).bind fun t17 =>
  (guarded [(0, t14)] (some (0, true)) (M.lift (Ax.bin .eql t17 (V.int .u16 1)))).bind fun t18 =>
  (M.lift (Ax.pick t14 t18 (V.bool false))).bind fun t19 =>
  (guarded [(0, t19)] (some (0, true)) (M.lift (Ax.faddr 3 t1))).bind fun t21 =>
  (guarded [(0, t19)] (some (0, true)) (mload none t21)).bind fun t22 =>
  (guarded [(0, t19)] (some (0, true)) (M.lift (Ax.bin .eql t22 (V.int .u32 2)))).bind fun t23 =>
  (M.lift (Ax.pick t19 t23 (V.bool false))).bind fun t24 =>
  (guarded [(0, t24)] (some (0, true)) (M.lift (Ax.faddr 4 t1))).bind fun t26 =>
  (guarded [(0, t24)] (some (0, true)) (mload none t26)).bind fun t27 =>
  (guarded [(0, t24)] (some (0, true)) (M.lift (Ax.bin .eql t27 (V.int .u32 3)))).bind fun t28 =>
  (M.lift (Ax.pick t24 t28 (V.bool false))).bind fun t29 =>
  (guarded [(0, t29)] (some (0, true)) (mload (some 10) t1)).bind fun t31 =>
  (guarded [(0, t29)] (some (0, true)) (G fn_rtp_Good [t31])).bind fun t32 =>
  (M.lift (Ax.pick t29 t32 (V.bool false))).bind fun t33 =>
  M.pure (.ret [t33])

theorem eq_palanquinlaw7_awake (G : Sem') : execK G ir_palanquinlaw7_awake.rv ir_palanquinlaw7_awake.body [] [] (params 0 []) = f_palanquinlaw7_awake G := by kernel_rfl

theorem tb_palanquinlaw7_awake : T fn_palanquinlaw7_awake = some ir_palanquinlaw7_awake := by kernel_rfl

theorem ok_palanquinlaw7_awake {H : Heap} {Q : V → Heap → Prop} (h : Ok (f_palanquinlaw7_awake (sem T)) H fun r H' => ∃ L, r = .ret L ∧ Q (tupled L) H') : Ok (sem T fn_palanquinlaw7_awake []) H Q :=
  ok_sem tb_palanquinlaw7_awake (Nat.le_of_ble_eq_true rfl) (eq_palanquinlaw7_awake (sem T)) h

/-- palanquin/rtp.Parse. -/
def loop_rtp_Parse_0 : C :=
  .ops [⟨(some 60), none, .mv (.s 6)⟩,
    ⟨(some 61), none, .mv (.s 5)⟩,
    ⟨(some 62), none, .bin .lss (.s 60) (.s 61)⟩]
  (.cond (.s 62)
  (.blk 2
   (.draw [⟨(some 65), none, .faddr 5 (.s 4)⟩,
      ⟨(some 66), none, .load none (.s 65)⟩,
      ⟨(some 67), none, .mv (.s 0)⟩,
      ⟨(some 68), none, .mv (.s 6)⟩,
      ⟨(some 69), none, .mv (.s 6)⟩,
      ⟨(some 70), none, .bin .add (.s 69) (.c (V.int .i64 4))⟩,
      ⟨(some 71), none, .slice .sl 1 (.s 67) (some (.s 68)) (some (.s 70)) none⟩,
      ⟨(some 72), none, .call fn_rtp_get [(.s 71)]⟩,
      ⟨(some 73), none, .slit ty_uint32 1 [(V.int .u32 0)] [(0, 1, (.s 72))]⟩,
      ⟨(some 74), none, .append ty_uint32 1 4 (.s 66) (.s 73)⟩,
      ⟨(some 75), none, .faddr 5 (.s 4)⟩,
      ⟨none, none, .store 1 (.s 75) (.s 74)⟩] [(1, 7)]
    (.done)) [] [65, 66, 67, 68, 69, 70, 71, 72, 73, 74, 75]
   (.ops [⟨(some 63), none, .mv (.s 6)⟩,
     ⟨(some 64), none, .bin .add (.s 63) (.c (V.int .i64 4))⟩,
     ⟨(some 6), none, .mv (.s 64)⟩]
   (.done)))
  (.exit 1))

def ir_rtp_Parse : Fn' := ⟨132, [.cell 2 (some 10), .tmp 3],
  .ops [⟨(some 2), none, .box ty_rtp_Packet (.c (V.agg [(V.bool false), (V.int .i64 0), (V.int .u16 0), (V.int .u32 0), (V.int .u32 0), V.nils, (V.int .i64 0), V.nils, (V.int .i64 0), V.nils]))⟩,
    ⟨(some 3), none, .mv (.c (V.int .i64 0))⟩]
  (.blk 0
  (.ops [⟨(some 11), none, .mv (.s 0)⟩,
     ⟨(some 12), none, .len (.s 11)⟩,
     ⟨(some 13), none, .bin .gtr (.s 12) (.c (V.int .i64 1200))⟩,
     ⟨(some 10), none, .mv (.s 13)⟩]
   (.cond (.s 10)
   (.ops [⟨(some 14), none, .build [(V.bool false), (V.int .i64 0), (V.int .u16 0), (V.int .u32 0), (V.int .u32 0), V.nils, (V.int .i64 0), V.nils, (V.int .i64 0), V.nils] []⟩,
      ⟨none, none, .store 10 (.s 2) (.s 14)⟩,
      ⟨(some 3), none, .mv (.c (V.int .i64 4))⟩]
    (.ret))
   (.ops [⟨(some 16), none, .mv (.s 0)⟩,
      ⟨(some 17), none, .len (.s 16)⟩,
      ⟨(some 18), none, .bin .lss (.s 17) (.c (V.int .i64 12))⟩,
      ⟨(some 15), none, .mv (.s 18)⟩]
    (.cond (.s 15)
    (.ops [⟨(some 19), none, .build [(V.bool false), (V.int .i64 0), (V.int .u16 0), (V.int .u32 0), (V.int .u32 0), V.nils, (V.int .i64 0), V.nils, (V.int .i64 0), V.nils] []⟩,
       ⟨none, none, .store 10 (.s 2) (.s 19)⟩,
       ⟨(some 3), none, .mv (.c (V.int .i64 3))⟩]
     (.ret))
    (.ops [⟨(some 21), none, .mv (.s 0)⟩,
       ⟨(some 22), none, .iaddr none 1 (.s 21) (.c (V.int .i64 0))⟩,
       ⟨(some 23), none, .load none (.s 22)⟩,
       ⟨(some 24), none, .bin .shr (.s 23) (.c (V.int .u64 6))⟩,
       ⟨(some 25), none, .bin .neq (.s 24) (.c (V.int .u8 2))⟩,
       ⟨(some 20), none, .mv (.s 25)⟩]
     (.cond (.s 20)
     (.ops [⟨(some 26), none, .build [(V.bool false), (V.int .i64 0), (V.int .u16 0), (V.int .u32 0), (V.int .u32 0), V.nils, (V.int .i64 0), V.nils, (V.int .i64 0), V.nils] []⟩,
        ⟨none, none, .store 10 (.s 2) (.s 26)⟩,
        ⟨(some 3), none, .mv (.c (V.int .i64 2))⟩]
      (.ret))
     (.done))))))) [] [11, 12, 13, 10, 14, 3, 16, 17, 18, 15, 19, 3, 21, 22, 23, 24, 25, 20, 26, 3]
  (.draw [⟨(some 27), none, .mv (.s 0)⟩,
    ⟨(some 28), none, .iaddr none 1 (.s 27) (.c (V.int .i64 1))⟩,
    ⟨(some 29), none, .load none (.s 28)⟩,
    ⟨(some 30), none, .bin .and (.s 29) (.c (V.int .u8 128))⟩,
    ⟨(some 31), none, .bin .neq (.s 30) (.c (V.int .u8 0))⟩,
    ⟨(some 32), none, .mv (.s 0)⟩,
    ⟨(some 33), none, .iaddr none 1 (.s 32) (.c (V.int .i64 1))⟩,
    ⟨(some 34), none, .load none (.s 33)⟩,
    ⟨(some 35), none, .bin .andNot (.s 34) (.c (V.int .u8 128))⟩,
    ⟨(some 36), none, .cint .i64 (.s 35)⟩,
    ⟨(some 37), none, .mv (.s 0)⟩,
    ⟨(some 38), none, .slice .sl 1 (.s 37) (some (.c (V.int .i64 2))) (some (.c (V.int .i64 4))) none⟩,
    ⟨(some 41), none, .mv (.s 0)⟩,
    ⟨(some 42), none, .slice .sl 1 (.s 41) (some (.c (V.int .i64 4))) (some (.c (V.int .i64 8))) none⟩,
    ⟨(some 44), none, .mv (.s 0)⟩,
    ⟨(some 45), none, .slice .sl 1 (.s 44) (some (.c (V.int .i64 8))) (some (.c (V.int .i64 12))) none⟩,
    ⟨(some 39), none, .call fn_rtp_get [(.s 38)]⟩,
    ⟨(some 43), none, .call fn_rtp_get [(.s 42)]⟩,
    ⟨(some 46), none, .call fn_rtp_get [(.s 45)]⟩,
    ⟨(some 40), none, .cint .u16 (.s 39)⟩,
    ⟨(some 47), none, .build [(V.bool false), (V.int .i64 0), (V.int .u16 0), (V.int .u32 0), (V.int .u32 0), V.nils, (V.int .i64 0), V.nils, (V.int .i64 0), V.nils] [(0, 1, (.s 31)), (1, 1, (.s 36)), (2, 1, (.s 40)), (3, 1, (.s 43)), (4, 1, (.s 46))]⟩,
    ⟨(some 4), none, .box ty_rtp_Packet (.c (V.agg [(V.bool false), (V.int .i64 0), (V.int .u16 0), (V.int .u32 0), (V.int .u32 0), V.nils, (V.int .i64 0), V.nils, (V.int .i64 0), V.nils]))⟩,
    ⟨none, none, .store 10 (.s 4) (.s 47)⟩] [(2, 16), (2, 17), (2, 18), (7, 16), (7, 17), (7, 18)]
  (.ops [⟨(some 48), none, .mv (.s 0)⟩,
    ⟨(some 49), none, .iaddr none 1 (.s 48) (.c (V.int .i64 0))⟩,
    ⟨(some 50), none, .load none (.s 49)⟩,
    ⟨(some 51), none, .bin .and (.s 50) (.c (V.int .u8 15))⟩,
    ⟨(some 52), none, .cint .i64 (.s 51)⟩,
    ⟨(some 53), none, .bin .mul (.c (V.int .i64 4)) (.s 52)⟩,
    ⟨(some 54), none, .bin .add (.c (V.int .i64 12)) (.s 53)⟩,
    ⟨(some 5), none, .mv (.s 54)⟩]
  (.ops [⟨(some 55), none, .mv (.s 0)⟩,
    ⟨(some 56), none, .len (.s 55)⟩,
    ⟨(some 57), none, .mv (.s 5)⟩,
    ⟨(some 58), none, .bin .lss (.s 56) (.s 57)⟩]
  (.cond (.s 58)
  (.ops [⟨(some 59), none, .build [(V.bool false), (V.int .i64 0), (V.int .u16 0), (V.int .u32 0), (V.int .u32 0), V.nils, (V.int .i64 0), V.nils, (V.int .i64 0), V.nils] []⟩,
     ⟨none, none, .store 10 (.s 2) (.s 59)⟩,
     ⟨(some 3), none, .mv (.c (V.int .i64 3))⟩]
   (.ret))
  (.ops [⟨(some 6), none, .mv (.c (V.int .i64 12))⟩]
   (.blk 1
   (.loop loop_rtp_Parse_0 [6] [60, 61, 62, 65, 66, 67, 68, 69, 70, 71, 72, 73, 74, 75, 63, 64, 6]) [] [60, 61, 62, 65, 66, 67, 68, 69, 70, 71, 72, 73, 74, 75, 63, 64, 6]
   (.ops [⟨(some 76), none, .mv (.s 0)⟩,
     ⟨(some 77), none, .iaddr none 1 (.s 76) (.c (V.int .i64 0))⟩,
     ⟨(some 78), none, .load none (.s 77)⟩,
     ⟨(some 79), none, .bin .and (.s 78) (.c (V.int .u8 16))⟩,
     ⟨(some 80), none, .bin .neq (.s 79) (.c (V.int .u8 0))⟩]
   (.condJ (.s 80)
   (.ops [⟨(some 82), none, .mv (.s 0)⟩,
      ⟨(some 83), none, .mv (.s 5)⟩,
      ⟨(some 84), none, .slice .sl 1 (.s 82) (some (.s 83)) none none⟩,
      ⟨(some 85), none, .call fn_rtp_extension [(.s 4), (.s 84)]⟩,
      ⟨(some 81), none, .mv (.s 85)⟩,
      ⟨(some 86), none, .ext 0 (.s 81)⟩,
      ⟨(some 87), none, .ext 1 (.s 81)⟩,
      ⟨(some 7), none, .mv (.s 86)⟩,
      ⟨(some 8), none, .mv (.s 87)⟩]
    (.ops [⟨(some 88), none, .mv (.s 8)⟩,
      ⟨(some 89), none, .bin .neq (.s 88) (.c (V.int .i64 0))⟩]
    (.cond (.s 89)
    (.ops [⟨(some 90), none, .build [(V.bool false), (V.int .i64 0), (V.int .u16 0), (V.int .u32 0), (V.int .u32 0), V.nils, (V.int .i64 0), V.nils, (V.int .i64 0), V.nils] []⟩,
       ⟨(some 91), none, .mv (.s 8)⟩,
       ⟨none, none, .store 10 (.s 2) (.s 90)⟩,
       ⟨(some 3), none, .mv (.s 91)⟩]
     (.ret))
    (.ops [⟨(some 92), none, .mv (.s 5)⟩,
       ⟨(some 93), none, .mv (.s 7)⟩,
       ⟨(some 94), none, .bin .add (.s 92) (.s 93)⟩,
       ⟨(some 5), none, .mv (.s 94)⟩]
     (.done)))))
   (.done) [5] [82, 83, 84, 85, 81, 86, 87, 7, 8, 88, 89, 90, 91, 3, 92, 93, 94, 5]
   (.ops [⟨(some 95), none, .mv (.s 0)⟩,
     ⟨(some 96), none, .mv (.s 5)⟩,
     ⟨(some 97), none, .slice .sl 1 (.s 95) (some (.s 96)) none none⟩,
     ⟨(some 9), none, .mv (.s 97)⟩]
   (.ops [⟨(some 98), none, .mv (.s 0)⟩,
     ⟨(some 99), none, .iaddr none 1 (.s 98) (.c (V.int .i64 0))⟩,
     ⟨(some 100), none, .load none (.s 99)⟩,
     ⟨(some 101), none, .bin .and (.s 100) (.c (V.int .u8 32))⟩,
     ⟨(some 102), none, .bin .neq (.s 101) (.c (V.int .u8 0))⟩]
   (.condJ (.s 102)
   (.ops [⟨(some 103), none, .mv (.s 0)⟩,
      ⟨(some 104), none, .mv (.s 0)⟩,
      ⟨(some 105), none, .len (.s 104)⟩,
      ⟨(some 106), none, .bin .sub (.s 105) (.c (V.int .i64 1))⟩,
      ⟨(some 107), none, .iaddr none 1 (.s 103) (.s 106)⟩,
      ⟨(some 108), none, .load none (.s 107)⟩,
      ⟨(some 109), none, .cint .i64 (.s 108)⟩,
      ⟨(some 110), none, .faddr 8 (.s 4)⟩,
      ⟨none, none, .store 1 (.s 110) (.s 109)⟩]
    (.ops [⟨(some 111), none, .faddr 8 (.s 4)⟩,
      ⟨(some 112), none, .load none (.s 111)⟩,
      ⟨(some 113), none, .bin .eql (.s 112) (.c (V.int .i64 0))⟩,
      ⟨(some 114), none, .mv (.s 113)⟩,
      ⟨(some 115), (some (114, false)), .faddr 8 (.s 4)⟩,
      ⟨(some 116), (some (114, false)), .load none (.s 115)⟩,
      ⟨(some 117), (some (114, false)), .mv (.s 9)⟩,
      ⟨(some 118), (some (114, false)), .len (.s 117)⟩,
      ⟨(some 119), (some (114, false)), .bin .gtr (.s 116) (.s 118)⟩,
      ⟨(some 120), none, .pick (.s 114) (.c (V.bool true)) (.s 119)⟩]
    (.cond (.s 120)
    (.ops [⟨(some 121), none, .build [(V.bool false), (V.int .i64 0), (V.int .u16 0), (V.int .u32 0), (V.int .u32 0), V.nils, (V.int .i64 0), V.nils, (V.int .i64 0), V.nils] []⟩,
       ⟨none, none, .store 10 (.s 2) (.s 121)⟩,
       ⟨(some 3), none, .mv (.c (V.int .i64 2))⟩]
     (.ret))
    (.done))))
   (.done) [] [103, 104, 105, 106, 107, 108, 109, 110, 111, 112, 113, 114, 115, 116, 117, 118, 119, 120, 121, 3]
   (.ops [⟨(some 122), none, .mv (.s 9)⟩,
     ⟨(some 123), none, .mv (.s 9)⟩,
     ⟨(some 124), none, .len (.s 123)⟩,
     ⟨(some 125), none, .faddr 8 (.s 4)⟩,
     ⟨(some 126), none, .load none (.s 125)⟩,
     ⟨(some 127), none, .bin .sub (.s 124) (.s 126)⟩,
     ⟨(some 128), none, .slice .sl 1 (.s 122) none (some (.s 127)) none⟩,
     ⟨(some 129), none, .call fn_bytes_Clone [(.s 128)]⟩,
     ⟨(some 130), none, .faddr 9 (.s 4)⟩,
     ⟨none, none, .store 1 (.s 130) (.s 129)⟩]
   (.ops [⟨(some 131), none, .load (some 10) (.s 4)⟩,
     ⟨none, none, .store 10 (.s 2) (.s 131)⟩,
     ⟨(some 3), none, .mv (.c (V.int .i64 0))⟩]
   (.ret)))))))))))))))⟩

noncomputable def f_rtp_Parse_0 (G : Sem') (t5 t0 t4 t2 : V) (L : List V) : M Res :=
  (M.lift (Ax.bin .lss (L.getD 0 .undef) t5)).bind fun t62 =>
  M.ite t62
    (M.blk 2 (
      (M.lift (Ax.faddr 5 t4)).bind fun t65 =>
      (mload none t65).bind fun t66 =>
      (M.lift (Ax.bin .add (L.getD 0 .undef) (V.int .i64 4))).bind fun t70 =>
      (M.lift (vslice .sl 1 t0 (some (L.getD 0 .undef)) (some t70) none)).bind fun t71 =>
      M.getH.bind fun h3 =>
      (G fn_rtp_get [t71]).bind fun t72 =>
      M.getH.bind fun h3' =>
      (M.unch t65 h3 h3').bind fun _ =>
      (mslit ty_uint32 1 [(V.int .u32 0)] [(0, 1, t72)]).bind fun t73 =>
      (mappend ty_uint32 1 4 t66 t73).bind fun t74 =>
      (M.lift (Ax.faddr 5 t4)).bind fun t75 =>
      (mstore 1 t75 t74).bind fun _ =>
      M.pure (.nrm [])) fun _ =>
    (M.lift (Ax.bin .add (L.getD 0 .undef) (V.int .i64 4))).bind fun t64 =>
    M.pure (.nrm [t64]))
    (M.pure (.ex 1 []))

noncomputable def f_rtp_Parse (G : Sem') (t0 : V) : M Res :=
  (mbox ty_rtp_Packet (V.agg [(V.bool false), (V.int .i64 0), (V.int .u16 0), (V.int .u32 0), (V.int .u32 0), V.nils, (V.int .i64 0), V.nils, (V.int .i64 0), V.nils])).bind fun t2 =>
  M.blk 0 (
    (M.lift (vlen t0)).bind fun t12 =>
    (M.lift (Ax.bin .gtr t12 (V.int .i64 1200))).bind fun t13 =>
    M.ite t13
      ((M.lift (Ax.build [(V.bool false), (V.int .i64 0), (V.int .u16 0), (V.int .u32 0), (V.int .u32 0), V.nils, (V.int .i64 0), V.nils, (V.int .i64 0), V.nils] [])).bind fun t14 =>
      (mstore 10 t2 t14).bind fun _ =>
      (mload (some 10) t2).bind fun r0 =>
      M.pure (.ret [r0, (V.int .i64 4)]))
      ((M.lift (vlen t0)).bind fun t17 =>
      (M.lift (Ax.bin .lss t17 (V.int .i64 12))).bind fun t18 =>
      M.ite t18
        ((M.lift (Ax.build [(V.bool false), (V.int .i64 0), (V.int .u16 0), (V.int .u32 0), (V.int .u32 0), V.nils, (V.int .i64 0), V.nils, (V.int .i64 0), V.nils] [])).bind fun t19 =>
        (mstore 10 t2 t19).bind fun _ =>
        (mload (some 10) t2).bind fun r0 =>
        M.pure (.ret [r0, (V.int .i64 3)]))
        ((M.lift (Ax.iaddr none 1 t0 (V.int .i64 0))).bind fun t22 =>
        (mload none t22).bind fun t23 =>
        (M.lift (Ax.bin .shr t23 (V.int .u64 6))).bind fun t24 =>
        (M.lift (Ax.bin .neq t24 (V.int .u8 2))).bind fun t25 =>
        M.ite t25
          ((M.lift (Ax.build [(V.bool false), (V.int .i64 0), (V.int .u16 0), (V.int .u32 0), (V.int .u32 0), V.nils, (V.int .i64 0), V.nils, (V.int .i64 0), V.nils] [])).bind fun t26 =>
          (mstore 10 t2 t26).bind fun _ =>
          (mload (some 10) t2).bind fun r0 =>
          M.pure (.ret [r0, (V.int .i64 2)]))
          (M.pure (.nrm []))))) fun _ =>
  (M.lift (Ax.iaddr none 1 t0 (V.int .i64 1))).bind fun t28 =>
  (mload none t28).bind fun t29 =>
  (M.lift (Ax.bin .and t29 (V.int .u8 128))).bind fun t30 =>
  (M.lift (Ax.bin .neq t30 (V.int .u8 0))).bind fun t31 =>
  (M.lift (Ax.iaddr none 1 t0 (V.int .i64 1))).bind fun t33 =>
  (mload none t33).bind fun t34 =>
  (M.lift (Ax.bin .andNot t34 (V.int .u8 128))).bind fun t35 =>
  (M.lift (Ax.cint .i64 t35)).bind fun t36 =>
  (M.lift (vslice .sl 1 t0 (some (V.int .i64 2)) (some (V.int .i64 4)) none)).bind fun t38 =>
  (M.lift (vslice .sl 1 t0 (some (V.int .i64 4)) (some (V.int .i64 8)) none)).bind fun t42 =>
  (M.lift (vslice .sl 1 t0 (some (V.int .i64 8)) (some (V.int .i64 12)) none)).bind fun t45 =>
  M.getH.bind fun h0 =>
  (G fn_rtp_get [t38]).bind fun t39 =>
  M.getH.bind fun h0' =>
  (M.unch t33 h0 h0').bind fun _ =>
  (M.unch t28 h0 h0').bind fun _ =>
  M.getH.bind fun h1 =>
  (G fn_rtp_get [t42]).bind fun t43 =>
  M.getH.bind fun h1' =>
  (M.unch t33 h1 h1').bind fun _ =>
  (M.unch t28 h1 h1').bind fun _ =>
  M.getH.bind fun h2 =>
  (G fn_rtp_get [t45]).bind fun t46 =>
  M.getH.bind fun h2' =>
  (M.unch t33 h2 h2').bind fun _ =>
  (M.unch t28 h2 h2').bind fun _ =>
  (M.lift (Ax.cint .u16 t39)).bind fun t40 =>
  (M.lift (Ax.build [(V.bool false), (V.int .i64 0), (V.int .u16 0), (V.int .u32 0), (V.int .u32 0), V.nils, (V.int .i64 0), V.nils, (V.int .i64 0), V.nils] [(0, 1, t31), (1, 1, t36), (2, 1, t40), (3, 1, t43), (4, 1, t46)])).bind fun t47 =>
  (mbox ty_rtp_Packet (V.agg [(V.bool false), (V.int .i64 0), (V.int .u16 0), (V.int .u32 0), (V.int .u32 0), V.nils, (V.int .i64 0), V.nils, (V.int .i64 0), V.nils])).bind fun t4 =>
  (mstore 10 t4 t47).bind fun _ =>
  (M.lift (Ax.iaddr none 1 t0 (V.int .i64 0))).bind fun t49 =>
  (mload none t49).bind fun t50 =>
  (M.lift (Ax.bin .and t50 (V.int .u8 15))).bind fun t51 =>
  (M.lift (Ax.cint .i64 t51)).bind fun t52 =>
  (M.lift (Ax.bin .mul (V.int .i64 4) t52)).bind fun t53 =>
  (M.lift (Ax.bin .add (V.int .i64 12) t53)).bind fun t54 =>
  (M.lift (vlen t0)).bind fun t56 =>
  (M.lift (Ax.bin .lss t56 t54)).bind fun t58 =>
  M.ite t58
    ((M.lift (Ax.build [(V.bool false), (V.int .i64 0), (V.int .u16 0), (V.int .u32 0), (V.int .u32 0), V.nils, (V.int .i64 0), V.nils, (V.int .i64 0), V.nils] [])).bind fun t59 =>
    (mstore 10 t2 t59).bind fun _ =>
    (mload (some 10) t2).bind fun r0 =>
    M.pure (.ret [r0, (V.int .i64 3)]))
    (M.blk 1 (
      M.iter (f_rtp_Parse_0 G t54 t0 t4 t2) [(V.int .i64 12)]) fun _ =>
    (M.lift (Ax.iaddr none 1 t0 (V.int .i64 0))).bind fun t77 =>
    (mload none t77).bind fun t78 =>
    (M.lift (Ax.bin .and t78 (V.int .u8 16))).bind fun t79 =>
    (M.lift (Ax.bin .neq t79 (V.int .u8 0))).bind fun t80 =>
    M.join (M.ite t80
      ((M.lift (vslice .sl 1 t0 (some t54) none none)).bind fun t84 =>
      (G fn_rtp_extension [t4, t84]).bind fun t85 =>
      (M.lift (Ax.ext 0 t85)).bind fun t86 =>
      (M.lift (Ax.ext 1 t85)).bind fun t87 =>
      (M.lift (Ax.bin .neq t87 (V.int .i64 0))).bind fun t89 =>
      M.ite t89
        ((M.lift (Ax.build [(V.bool false), (V.int .i64 0), (V.int .u16 0), (V.int .u32 0), (V.int .u32 0), V.nils, (V.int .i64 0), V.nils, (V.int .i64 0), V.nils] [])).bind fun t90 =>
        (mstore 10 t2 t90).bind fun _ =>
        (mload (some 10) t2).bind fun r0 =>
        M.pure (.ret [r0, t87]))
        ((M.lift (Ax.bin .add t54 t86)).bind fun t94 =>
        M.pure (.nrm [t94])))
      (M.pure (.nrm [t54]))) fun L3 =>
    (M.lift (vslice .sl 1 t0 (some (L3.getD 0 .undef)) none none)).bind fun t97 =>
    (M.lift (Ax.iaddr none 1 t0 (V.int .i64 0))).bind fun t99 =>
    (mload none t99).bind fun t100 =>
    (M.lift (Ax.bin .and t100 (V.int .u8 32))).bind fun t101 =>
    (M.lift (Ax.bin .neq t101 (V.int .u8 0))).bind fun t102 =>
    M.join (M.ite t102
      ((M.lift (vlen t0)).bind fun t105 =>
      (M.lift (Ax.bin .sub t105 (V.int .i64 1))).bind fun t106 =>
      (M.lift (Ax.iaddr none 1 t0 t106)).bind fun t107 =>
      (mload none t107).bind fun t108 =>
      (M.lift (Ax.cint .i64 t108)).bind fun t109 =>
      (M.lift (Ax.faddr 8 t4)).bind fun t110 =>
      (mstore 1 t110 t109).bind fun _ =>
      (M.lift (Ax.faddr 8 t4)).bind fun t111 =>
      (mload none t111).bind fun t112 =>
      (M.lift (Ax.bin .eql t112 (V.int .i64 0))).bind fun t113 =>
      (guarded [(0, t113)] (some (0, false)) (M.lift (Ax.faddr 8 t4))).bind fun t115 =>
      (guarded [(0, t113)] (some (0, false)) (mload none t115)).bind fun t116 =>
      (guarded [(0, t113)] (some (0, false)) (M.pure t97)).bind fun t117 =>
      (guarded [(0, t113)] (some (0, false)) (M.lift (vlen t117))).bind fun t118 =>
      (guarded [(0, t113)] (some (0, false)) (M.lift (Ax.bin .gtr t116 t118))).bind fun t119 =>
      (M.lift (Ax.pick t113 (V.bool true) t119)).bind fun t120 =>
      M.ite t120
        ((M.lift (Ax.build [(V.bool false), (V.int .i64 0), (V.int .u16 0), (V.int .u32 0), (V.int .u32 0), V.nils, (V.int .i64 0), V.nils, (V.int .i64 0), V.nils] [])).bind fun t121 =>
        (mstore 10 t2 t121).bind fun _ =>
        (mload (some 10) t2).bind fun r0 =>
        M.pure (.ret [r0, (V.int .i64 2)]))
        (M.pure (.nrm [])))
      (M.pure (.nrm []))) fun _ =>
    (M.lift (vlen t97)).bind fun t124 =>
    (M.lift (Ax.faddr 8 t4)).bind fun t125 =>
    (mload none t125).bind fun t126 =>
    (M.lift (Ax.bin .sub t124 t126)).bind fun t127 =>
    (M.lift (vslice .sl 1 t97 none (some t127) none)).bind fun t128 =>
    (G fn_bytes_Clone [t128]).bind fun t129 =>
    (M.lift (Ax.faddr 9 t4)).bind fun t130 =>
    (mstore 1 t130 t129).bind fun _ =>
    (mload (some 10) t4).bind fun t131 =>
    (mstore 10 t2 t131).bind fun _ =>
    (mload (some 10) t2).bind fun r0 =>
    M.pure (.ret [r0, (V.int .i64 0)]))

theorem eq_rtp_Parse (G : Sem') (t0 : V) : execK G ir_rtp_Parse.rv ir_rtp_Parse.body [] [] (params 0 [t0]) = f_rtp_Parse G t0 := by kernel_rfl

theorem tb_rtp_Parse : T fn_rtp_Parse = some ir_rtp_Parse := by kernel_rfl

theorem ok_rtp_Parse {t0 : V} {H : Heap} {Q : V → Heap → Prop} (h : Ok (f_rtp_Parse (sem T) t0) H fun r H' => ∃ L, r = .ret L ∧ Q (tupled L) H') : Ok (sem T fn_rtp_Parse [t0]) H Q :=
  ok_sem tb_rtp_Parse (Nat.le_of_ble_eq_true rfl) (eq_rtp_Parse (sem T) t0) h

/-- palanquin/rtp.get. -/
def loop_rtp_get_0 : C :=
  .ops [⟨(some 9), none, .bin .lss (.s 8) (.s 7)⟩]
  (.cond (.s 9)
  (.blk 1
   (.ops [⟨(some 10), none, .iaddr none 1 (.s 6) (.s 8)⟩,
      ⟨(some 11), none, .load none (.s 10)⟩,
      ⟨(some 5), none, .mv (.s 11)⟩]
    (.ops [⟨(some 12), none, .mv (.s 3)⟩,
      ⟨(some 13), none, .bin .shl (.s 12) (.c (V.int .u64 8))⟩,
      ⟨(some 14), none, .mv (.s 5)⟩,
      ⟨(some 15), none, .cint .u32 (.s 14)⟩,
      ⟨(some 16), none, .bin .or (.s 13) (.s 15)⟩,
      ⟨(some 3), none, .mv (.s 16)⟩]
    (.done))) [3] [10, 11, 5, 12, 13, 14, 15, 16, 3]
   (.ops [⟨(some 17), none, .bin .add (.s 8) (.c (V.int .i64 1))⟩,
     ⟨(some 8), none, .mv (.s 17)⟩]
   (.done)))
  (.exit 0))

def ir_rtp_get : Fn' := ⟨19, [.tmp 2],
  .ops [⟨(some 2), none, .mv (.c (V.int .u32 0))⟩]
  (.ops [⟨(some 3), none, .mv (.c (V.int .u32 0))⟩]
  (.ops [⟨(some 6), none, .mv (.s 0)⟩,
    ⟨(some 7), none, .len (.s 6)⟩,
    ⟨(some 8), none, .mv (.c (V.int .i64 0))⟩]
  (.blk 0
  (.loop loop_rtp_get_0 [3, 8] [9, 10, 11, 5, 12, 13, 14, 15, 16, 3, 17, 8]) [3] [9, 10, 11, 5, 12, 13, 14, 15, 16, 3, 17, 8]
  (.ops [⟨(some 18), none, .mv (.s 3)⟩,
    ⟨(some 2), none, .mv (.s 18)⟩]
  (.ret)))))⟩

noncomputable def f_rtp_get_0 (G : Sem') (t7 t6 t2 : V) (L : List V) : M Res :=
  (M.lift (Ax.bin .lss (L.getD 1 .undef) t7)).bind fun t9 =>
  M.ite t9
    (M.blk 1 (
      (M.lift (Ax.iaddr none 1 t6 (L.getD 1 .undef))).bind fun t10 =>
      (mload none t10).bind fun t11 =>
      (M.lift (Ax.bin .shl (L.getD 0 .undef) (V.int .u64 8))).bind fun t13 =>
      (M.lift (Ax.cint .u32 t11)).bind fun t15 =>
      (M.lift (Ax.bin .or t13 t15)).bind fun t16 =>
      M.pure (.nrm [t16])) fun L0 =>
    (M.lift (Ax.bin .add (L.getD 1 .undef) (V.int .i64 1))).bind fun t17 =>
    M.pure (.nrm [(L0.getD 0 .undef), t17]))
    (M.pure (.ex 0 [(L.getD 0 .undef)]))

noncomputable def f_rtp_get (G : Sem') (t0 : V) : M Res :=
  (M.lift (vlen t0)).bind fun t7 =>
  M.blk 0 (
    M.iter (f_rtp_get_0 G t7 t0 (V.int .u32 0)) [(V.int .u32 0), (V.int .i64 0)]) fun L1 =>
  M.pure (.ret [(L1.getD 0 .undef)])

theorem eq_rtp_get (G : Sem') (t0 : V) : execK G ir_rtp_get.rv ir_rtp_get.body [] [] (params 0 [t0]) = f_rtp_get G t0 := by kernel_rfl

theorem tb_rtp_get : T fn_rtp_get = some ir_rtp_get := by kernel_rfl

theorem ok_rtp_get {t0 : V} {H : Heap} {Q : V → Heap → Prop} (h : Ok (f_rtp_get (sem T) t0) H fun r H' => ∃ L, r = .ret L ∧ Q (tupled L) H') : Ok (sem T fn_rtp_get [t0]) H Q :=
  ok_sem tb_rtp_get (Nat.le_of_ble_eq_true rfl) (eq_rtp_get (sem T) t0) h

/-- palanquin/rtp.extension. -/
def ir_rtp_extension : Fn' := ⟨59, [.tmp 4, .tmp 5],
  .ops [⟨(some 4), none, .mv (.c (V.int .i64 0))⟩,
    ⟨(some 5), none, .mv (.c (V.int .i64 0))⟩]
  (.ops [⟨(some 9), none, .mv (.s 1)⟩,
    ⟨(some 10), none, .len (.s 9)⟩,
    ⟨(some 11), none, .bin .lss (.s 10) (.c (V.int .i64 4))⟩]
  (.cond (.s 11)
  (.ops [⟨(some 4), none, .mv (.c (V.int .i64 0))⟩,
     ⟨(some 5), none, .mv (.c (V.int .i64 3))⟩]
   (.ret))
  (.ops [⟨(some 12), none, .mv (.s 1)⟩,
     ⟨(some 13), none, .slice .sl 1 (.s 12) (some (.c (V.int .i64 2))) (some (.c (V.int .i64 4))) none⟩,
     ⟨(some 14), none, .call fn_rtp_get [(.s 13)]⟩,
     ⟨(some 15), none, .cint .i64 (.s 14)⟩,
     ⟨(some 16), none, .bin .mul (.c (V.int .i64 4)) (.s 15)⟩,
     ⟨(some 17), none, .bin .add (.c (V.int .i64 4)) (.s 16)⟩,
     ⟨(some 6), none, .mv (.s 17)⟩]
   (.ops [⟨(some 18), none, .mv (.s 1)⟩,
     ⟨(some 19), none, .len (.s 18)⟩,
     ⟨(some 20), none, .mv (.s 6)⟩,
     ⟨(some 21), none, .bin .lss (.s 19) (.s 20)⟩]
   (.cond (.s 21)
   (.ops [⟨(some 4), none, .mv (.c (V.int .i64 0))⟩,
      ⟨(some 5), none, .mv (.c (V.int .i64 3))⟩]
    (.ret))
   (.ops [⟨(some 22), none, .mv (.s 0)⟩,
      ⟨(some 23), none, .mv (.s 1)⟩,
      ⟨(some 24), none, .slice .sl 1 (.s 23) none (some (.c (V.int .i64 2))) none⟩,
      ⟨(some 25), none, .call fn_rtp_get [(.s 24)]⟩,
      ⟨(some 26), none, .cint .i64 (.s 25)⟩,
      ⟨(some 27), none, .nilck (.s 22)⟩,
      ⟨(some 28), none, .faddr 6 (.s 27)⟩,
      ⟨none, none, .store 1 (.s 28) (.s 26)⟩]
    (.ops [⟨(some 29), none, .mv (.s 0)⟩,
      ⟨(some 30), none, .nilck (.s 29)⟩,
      ⟨(some 31), none, .faddr 6 (.s 30)⟩,
      ⟨(some 32), none, .load none (.s 31)⟩,
      ⟨(some 33), none, .bin .neq (.s 32) (.c (V.int .i64 48862))⟩,
      ⟨(some 34), none, .mv (.s 33)⟩,
      ⟨(some 35), (some (34, true)), .mv (.s 0)⟩,
      ⟨(some 36), (some (34, true)), .nilck (.s 35)⟩,
      ⟨(some 37), (some (34, true)), .faddr 6 (.s 36)⟩,
      ⟨(some 38), (some (34, true)), .load none (.s 37)⟩,
      ⟨(some 39), (some (34, true)), .bin .neq (.s 38) (.c (V.int .i64 4096))⟩,
      ⟨(some 40), none, .pick (.s 34) (.s 39) (.c (V.bool false))⟩]
    (.cond (.s 40)
    (.ops [⟨(some 4), none, .mv (.c (V.int .i64 0))⟩,
       ⟨(some 5), none, .mv (.c (V.int .i64 2))⟩]
     (.ret))
    (.draw [⟨(some 42), none, .mv (.s 0)⟩,
       ⟨(some 43), none, .nilck (.s 42)⟩,
       ⟨(some 44), none, .faddr 6 (.s 43)⟩,
       ⟨(some 45), none, .load none (.s 44)⟩,
       ⟨(some 46), none, .mv (.s 1)⟩,
       ⟨(some 47), none, .mv (.s 6)⟩,
       ⟨(some 48), none, .slice .sl 1 (.s 46) (some (.c (V.int .i64 4))) (some (.s 47)) none⟩,
       ⟨(some 49), none, .call fn_rtp_exts [(.s 45), (.s 48)]⟩,
       ⟨(some 41), none, .mv (.s 49)⟩,
       ⟨(some 50), none, .ext 0 (.s 41)⟩,
       ⟨(some 51), none, .ext 1 (.s 41)⟩,
       ⟨(some 7), none, .mv (.s 50)⟩,
       ⟨(some 8), none, .mv (.s 51)⟩] []
     (.ops [⟨(some 52), none, .mv (.s 8)⟩,
       ⟨(some 53), none, .un .not (.s 52)⟩]
     (.cond (.s 53)
     (.ops [⟨(some 4), none, .mv (.c (V.int .i64 0))⟩,
        ⟨(some 5), none, .mv (.c (V.int .i64 2))⟩]
      (.ret))
     (.ops [⟨(some 54), none, .mv (.s 0)⟩,
        ⟨(some 55), none, .mv (.s 7)⟩,
        ⟨(some 56), none, .nilck (.s 54)⟩,
        ⟨(some 57), none, .faddr 7 (.s 56)⟩,
        ⟨none, none, .store 1 (.s 57) (.s 55)⟩]
      (.ops [⟨(some 58), none, .mv (.s 6)⟩,
        ⟨(some 4), none, .mv (.s 58)⟩,
        ⟨(some 5), none, .mv (.c (V.int .i64 0))⟩]
      (.ret))))))))))))))⟩

noncomputable def f_rtp_extension (G : Sem') (t0 t1 : V) : M Res :=
  (M.lift (vlen t1)).bind fun t10 =>
  (M.lift (Ax.bin .lss t10 (V.int .i64 4))).bind fun t11 =>
  M.ite t11
    (M.pure (.ret [(V.int .i64 0), (V.int .i64 3)]))
    ((M.lift (vslice .sl 1 t1 (some (V.int .i64 2)) (some (V.int .i64 4)) none)).bind fun t13 =>
    (G fn_rtp_get [t13]).bind fun t14 =>
    (M.lift (Ax.cint .i64 t14)).bind fun t15 =>
    (M.lift (Ax.bin .mul (V.int .i64 4) t15)).bind fun t16 =>
    (M.lift (Ax.bin .add (V.int .i64 4) t16)).bind fun t17 =>
    (M.lift (vlen t1)).bind fun t19 =>
    (M.lift (Ax.bin .lss t19 t17)).bind fun t21 =>
    M.ite t21
      (M.pure (.ret [(V.int .i64 0), (V.int .i64 3)]))
      ((M.lift (vslice .sl 1 t1 none (some (V.int .i64 2)) none)).bind fun t24 =>
      (G fn_rtp_get [t24]).bind fun t25 =>
      (M.lift (Ax.cint .i64 t25)).bind fun t26 =>
      (M.lift (Ax.nilck t0)).bind fun t27 =>
      (M.lift (Ax.faddr 6 t27)).bind fun t28 =>
      (mstore 1 t28 t26).bind fun _ =>
      (M.lift (Ax.nilck t0)).bind fun t30 =>
      (M.lift (Ax.faddr 6 t30)).bind fun t31 =>
      (mload none t31).bind fun t32 =>
      (M.lift (Ax.bin .neq t32 (V.int .i64 48862))).bind fun t33 =>
      (guarded [(0, t33)] (some (0, true)) (M.pure t0)).bind fun t35 =>
      (guarded [(0, t33)] (some (0, true)) (M.lift (Ax.nilck t35))).bind fun t36 =>
      (guarded [(0, t33)] (some (0, true)) (M.lift (Ax.faddr 6 t36))).bind fun t37 =>
      (guarded [(0, t33)] (some (0, true)) (mload none t37)).bind fun t38 =>
      (guarded [(0, t33)] (some (0, true)) (M.lift (Ax.bin .neq t38 (V.int .i64 4096)))).bind fun t39 =>
      (M.lift (Ax.pick t33 t39 (V.bool false))).bind fun t40 =>
      M.ite t40
        (M.pure (.ret [(V.int .i64 0), (V.int .i64 2)]))
        ((M.lift (Ax.nilck t0)).bind fun t43 =>
        (M.lift (Ax.faddr 6 t43)).bind fun t44 =>
        (mload none t44).bind fun t45 =>
        (M.lift (vslice .sl 1 t1 (some (V.int .i64 4)) (some t17) none)).bind fun t48 =>
        (G fn_rtp_exts [t45, t48]).bind fun t49 =>
        (M.lift (Ax.ext 0 t49)).bind fun t50 =>
        (M.lift (Ax.ext 1 t49)).bind fun t51 =>
        (M.lift (Ax.un .not t51)).bind fun t53 =>
        M.ite t53
          (M.pure (.ret [(V.int .i64 0), (V.int .i64 2)]))
          ((M.lift (Ax.nilck t0)).bind fun t56 =>
          (M.lift (Ax.faddr 7 t56)).bind fun t57 =>
          (mstore 1 t57 t50).bind fun _ =>
          M.pure (.ret [t17, (V.int .i64 0)])))))

theorem eq_rtp_extension (G : Sem') (t0 t1 : V) : execK G ir_rtp_extension.rv ir_rtp_extension.body [] [] (params 0 [t0, t1]) = f_rtp_extension G t0 t1 := by kernel_rfl

theorem tb_rtp_extension : T fn_rtp_extension = some ir_rtp_extension := by kernel_rfl

theorem ok_rtp_extension {t0 t1 : V} {H : Heap} {Q : V → Heap → Prop} (h : Ok (f_rtp_extension (sem T) t0 t1) H fun r H' => ∃ L, r = .ret L ∧ Q (tupled L) H') : Ok (sem T fn_rtp_extension [t0, t1]) H Q :=
  ok_sem tb_rtp_extension (Nat.le_of_ble_eq_true rfl) (eq_rtp_extension (sem T) t0 t1) h

/-- palanquin/rtp.exts. -/
def loop_rtp_exts_0 : C :=
  .ops [⟨(some 10), none, .mv (.s 1)⟩,
    ⟨(some 11), none, .len (.s 10)⟩,
    ⟨(some 12), none, .bin .gtr (.s 11) (.c (V.int .i64 0))⟩]
  (.cond (.s 12)
  (.blk 1
   (.ops [⟨(some 13), none, .mv (.s 1)⟩,
      ⟨(some 14), none, .iaddr none 1 (.s 13) (.c (V.int .i64 0))⟩,
      ⟨(some 15), none, .load none (.s 14)⟩,
      ⟨(some 16), none, .bin .eql (.s 15) (.c (V.int .u8 0))⟩]
    (.cond (.s 16)
    (.ops [⟨(some 17), none, .mv (.s 1)⟩,
       ⟨(some 18), none, .slice .sl 1 (.s 17) (some (.c (V.int .i64 1))) none none⟩,
       ⟨(some 1), none, .mv (.s 18)⟩]
     (.exit 1))
    (.ops [⟨(some 19), none, .mv (.s 0)⟩,
       ⟨(some 20), none, .bin .eql (.s 19) (.c (V.int .i64 48862))⟩,
       ⟨(some 21), none, .mv (.s 20)⟩,
       ⟨(some 22), (some (21, true)), .mv (.s 1)⟩,
       ⟨(some 23), (some (21, true)), .iaddr none 1 (.s 22) (.c (V.int .i64 0))⟩,
       ⟨(some 24), (some (21, true)), .load none (.s 23)⟩,
       ⟨(some 25), (some (21, true)), .bin .shr (.s 24) (.c (V.int .u64 4))⟩,
       ⟨(some 26), (some (21, true)), .bin .eql (.s 25) (.c (V.int .u8 15))⟩,
       ⟨(some 27), none, .pick (.s 21) (.s 26) (.c (V.bool false))⟩]
     (.cond (.s 27)
     (.exit 0)
     (.ops [⟨(some 29), none, .mv (.s 0)⟩,
        ⟨(some 30), none, .mv (.s 1)⟩,
        ⟨(some 31), none, .call fn_rtp_element [(.s 29), (.s 30)]⟩,
        ⟨(some 28), none, .mv (.s 31)⟩,
        ⟨(some 32), none, .ext 0 (.s 28)⟩,
        ⟨(some 33), none, .ext 1 (.s 28)⟩,
        ⟨(some 34), none, .ext 2 (.s 28)⟩,
        ⟨(some 7), none, .box ty_rtp_Ext (.c (V.agg [(V.int .i64 0), V.nils]))⟩,
        ⟨none, none, .store 2 (.s 7) (.s 32)⟩,
        ⟨(some 8), none, .mv (.s 33)⟩,
        ⟨(some 9), none, .mv (.s 34)⟩]
      (.ops [⟨(some 35), none, .mv (.s 9)⟩,
        ⟨(some 36), none, .un .not (.s 35)⟩]
      (.cond (.s 36)
      (.ops [⟨(some 4), none, .mv (.c V.nils)⟩,
         ⟨(some 5), none, .mv (.c (V.bool false))⟩]
       (.ret))
      (.ops [⟨(some 37), none, .mv (.s 6)⟩,
         ⟨(some 38), none, .load (some 2) (.s 7)⟩,
         ⟨(some 39), none, .slit ty_rtp_Ext 1 [(V.int .i64 0), V.nils] [(0, 2, (.s 38))]⟩,
         ⟨(some 40), none, .append ty_rtp_Ext 2 32 (.s 37) (.s 39)⟩,
         ⟨(some 6), none, .mv (.s 40)⟩]
       (.ops [⟨(some 41), none, .mv (.s 1)⟩,
         ⟨(some 42), none, .mv (.s 8)⟩,
         ⟨(some 43), none, .slice .sl 1 (.s 41) (some (.s 42)) none none⟩,
         ⟨(some 1), none, .mv (.s 43)⟩]
       (.done)))))))))) [1, 6] [13, 14, 15, 16, 17, 18, 1, 19, 20, 21, 22, 23, 24, 25, 26, 27, 29, 30, 31, 28, 32, 33, 34, 7, 8, 9, 35, 36, 4, 5, 37, 38, 39, 40, 6, 41, 42, 43, 1]
   (.done))
  (.exit 0))

def ir_rtp_exts : Fn' := ⟨45, [.tmp 4, .tmp 5],
  .ops [⟨(some 4), none, .mv (.c V.nils)⟩,
    ⟨(some 5), none, .mv (.c (V.bool false))⟩]
  (.ops [⟨(some 6), none, .mv (.c V.nils)⟩]
  (.blk 0
  (.loop loop_rtp_exts_0 [1, 6] [10, 11, 12, 13, 14, 15, 16, 17, 18, 1, 19, 20, 21, 22, 23, 24, 25, 26, 27, 29, 30, 31, 28, 32, 33, 34, 7, 8, 9, 35, 36, 4, 5, 37, 38, 39, 40, 6, 41, 42, 43, 1]) [6] [10, 11, 12, 13, 14, 15, 16, 17, 18, 1, 19, 20, 21, 22, 23, 24, 25, 26, 27, 29, 30, 31, 28, 32, 33, 34, 7, 8, 9, 35, 36, 4, 5, 37, 38, 39, 40, 6, 41, 42, 43, 1]
  (.ops [⟨(some 44), none, .mv (.s 6)⟩,
    ⟨(some 4), none, .mv (.s 44)⟩,
    ⟨(some 5), none, .mv (.c (V.bool true))⟩]
  (.ret))))⟩

noncomputable def f_rtp_exts_0 (G : Sem') (t0 : V) (L : List V) : M Res :=
  (M.lift (vlen (L.getD 0 .undef))).bind fun t11 =>
  (M.lift (Ax.bin .gtr t11 (V.int .i64 0))).bind fun t12 =>
  M.ite t12
    (M.blk 1 (
      (M.lift (Ax.iaddr none 1 (L.getD 0 .undef) (V.int .i64 0))).bind fun t14 =>
      (mload none t14).bind fun t15 =>
      (M.lift (Ax.bin .eql t15 (V.int .u8 0))).bind fun t16 =>
      M.ite t16
        ((M.lift (vslice .sl 1 (L.getD 0 .undef) (some (V.int .i64 1)) none none)).bind fun t18 =>
        M.pure (.ex 1 [t18, (L.getD 1 .undef)]))
        ((M.lift (Ax.bin .eql t0 (V.int .i64 48862))).bind fun t20 =>
        (guarded [(0, t20)] (some (0, true)) (M.pure (L.getD 0 .undef))).bind fun t22 =>
        (guarded [(0, t20)] (some (0, true)) (M.lift (Ax.iaddr none 1 t22 (V.int .i64 0)))).bind fun t23 =>
        (guarded [(0, t20)] (some (0, true)) (mload none t23)).bind fun t24 =>
        (guarded [(0, t20)] (some (0, true)) (M.lift (Ax.bin .shr t24 (V.int .u64 4)))).bind fun t25 =>
        (guarded [(0, t20)] (some (0, true)) (M.lift (Ax.bin .eql t25 (V.int .u8 15)))).bind fun t26 =>
        (M.lift (Ax.pick t20 t26 (V.bool false))).bind fun t27 =>
        M.ite t27
          (M.pure (.ex 0 [(L.getD 1 .undef)]))
          ((G fn_rtp_element [t0, (L.getD 0 .undef)]).bind fun t31 =>
          (M.lift (Ax.ext 0 t31)).bind fun t32 =>
          (M.lift (Ax.ext 1 t31)).bind fun t33 =>
          (M.lift (Ax.ext 2 t31)).bind fun t34 =>
          (mbox ty_rtp_Ext (V.agg [(V.int .i64 0), V.nils])).bind fun t7 =>
          (mstore 2 t7 t32).bind fun _ =>
          (M.lift (Ax.un .not t34)).bind fun t36 =>
          M.ite t36
            (M.pure (.ret [V.nils, (V.bool false)]))
            ((mload (some 2) t7).bind fun t38 =>
            (mslit ty_rtp_Ext 1 [(V.int .i64 0), V.nils] [(0, 2, t38)]).bind fun t39 =>
            (mappend ty_rtp_Ext 2 32 (L.getD 1 .undef) t39).bind fun t40 =>
            (M.lift (vslice .sl 1 (L.getD 0 .undef) (some t33) none none)).bind fun t43 =>
            M.pure (.nrm [t43, t40]))))) fun L0 =>
    M.pure (.nrm [(L0.getD 0 .undef), (L0.getD 1 .undef)]))
    (M.pure (.ex 0 [(L.getD 1 .undef)]))

noncomputable def f_rtp_exts (G : Sem') (t0 t1 : V) : M Res :=
  M.blk 0 (
    M.iter (f_rtp_exts_0 G t0) [t1, V.nils]) fun L1 =>
  M.pure (.ret [(L1.getD 0 .undef), (V.bool true)])

theorem eq_rtp_exts (G : Sem') (t0 t1 : V) : execK G ir_rtp_exts.rv ir_rtp_exts.body [] [] (params 0 [t0, t1]) = f_rtp_exts G t0 t1 := by kernel_rfl

theorem tb_rtp_exts : T fn_rtp_exts = some ir_rtp_exts := by kernel_rfl

theorem ok_rtp_exts {t0 t1 : V} {H : Heap} {Q : V → Heap → Prop} (h : Ok (f_rtp_exts (sem T) t0 t1) H fun r H' => ∃ L, r = .ret L ∧ Q (tupled L) H') : Ok (sem T fn_rtp_exts [t0, t1]) H Q :=
  ok_sem tb_rtp_exts (Nat.le_of_ble_eq_true rfl) (eq_rtp_exts (sem T) t0 t1) h

/-- palanquin/rtp.element. -/
def ir_rtp_element : Fn' := ⟨60, [.cell 4 (some 2), .tmp 5, .tmp 6],
  .ops [⟨(some 4), none, .box ty_rtp_Ext (.c (V.agg [(V.int .i64 0), V.nils]))⟩,
    ⟨(some 5), none, .mv (.c (V.int .i64 0))⟩,
    ⟨(some 6), none, .mv (.c (V.bool false))⟩]
  (.ops [⟨(some 10), none, .mv (.s 1)⟩,
    ⟨(some 11), none, .iaddr none 1 (.s 10) (.c (V.int .i64 0))⟩,
    ⟨(some 12), none, .load none (.s 11)⟩,
    ⟨(some 13), none, .cint .i64 (.s 12)⟩,
    ⟨(some 14), none, .build [(V.int .i64 0), V.nils] [(0, 1, (.s 13))]⟩,
    ⟨(some 7), none, .box ty_rtp_Ext (.c (V.agg [(V.int .i64 0), V.nils]))⟩,
    ⟨none, none, .store 2 (.s 7) (.s 14)⟩,
    ⟨(some 8), none, .mv (.c (V.int .i64 2))⟩]
  (.ops [⟨(some 9), none, .mv (.c (V.int .i64 0))⟩]
  (.ops [⟨(some 15), none, .mv (.s 0)⟩,
    ⟨(some 16), none, .bin .eql (.s 15) (.c (V.int .i64 48862))⟩]
  (.condJ (.s 16)
  (.ops [⟨(some 17), none, .mv (.s 1)⟩,
     ⟨(some 18), none, .iaddr none 1 (.s 17) (.c (V.int .i64 0))⟩,
     ⟨(some 19), none, .load none (.s 18)⟩,
     ⟨(some 20), none, .bin .shr (.s 19) (.c (V.int .u64 4))⟩,
     ⟨(some 21), none, .cint .i64 (.s 20)⟩,
     ⟨(some 22), none, .faddr 0 (.s 7)⟩,
     ⟨none, none, .store 1 (.s 22) (.s 21)⟩,
     ⟨(some 8), none, .mv (.c (V.int .i64 1))⟩]
   (.ops [⟨(some 23), none, .mv (.s 1)⟩,
     ⟨(some 24), none, .iaddr none 1 (.s 23) (.c (V.int .i64 0))⟩,
     ⟨(some 25), none, .load none (.s 24)⟩,
     ⟨(some 26), none, .bin .and (.s 25) (.c (V.int .u8 15))⟩,
     ⟨(some 27), none, .cint .i64 (.s 26)⟩,
     ⟨(some 28), none, .bin .add (.s 27) (.c (V.int .i64 1))⟩,
     ⟨(some 9), none, .mv (.s 28)⟩]
   (.done)))
  (.ops [⟨(some 29), none, .mv (.s 1)⟩,
     ⟨(some 30), none, .len (.s 29)⟩,
     ⟨(some 31), none, .bin .gtr (.s 30) (.c (V.int .i64 1))⟩]
   (.condJ (.s 31)
   (.ops [⟨(some 32), none, .mv (.s 1)⟩,
      ⟨(some 33), none, .iaddr none 1 (.s 32) (.c (V.int .i64 1))⟩,
      ⟨(some 34), none, .load none (.s 33)⟩,
      ⟨(some 35), none, .cint .i64 (.s 34)⟩,
      ⟨(some 9), none, .mv (.s 35)⟩]
    (.done))
   (.done) [9] [32, 33, 34, 35, 9]
   (.done))) [8, 9] [17, 18, 19, 20, 21, 22, 8, 23, 24, 25, 26, 27, 28, 9, 29, 30, 31, 32, 33, 34, 35, 9]
  (.ops [⟨(some 36), none, .faddr 0 (.s 7)⟩,
    ⟨(some 37), none, .load none (.s 36)⟩,
    ⟨(some 38), none, .bin .eql (.s 37) (.c (V.int .i64 0))⟩,
    ⟨(some 39), none, .mv (.s 38)⟩,
    ⟨(some 40), (some (39, false)), .mv (.s 1)⟩,
    ⟨(some 41), (some (39, false)), .len (.s 40)⟩,
    ⟨(some 42), (some (39, false)), .mv (.s 8)⟩,
    ⟨(some 43), (some (39, false)), .mv (.s 9)⟩,
    ⟨(some 44), (some (39, false)), .bin .add (.s 42) (.s 43)⟩,
    ⟨(some 45), (some (39, false)), .bin .lss (.s 41) (.s 44)⟩,
    ⟨(some 46), none, .pick (.s 39) (.c (V.bool true)) (.s 45)⟩]
  (.cond (.s 46)
  (.ops [⟨(some 47), none, .build [(V.int .i64 0), V.nils] []⟩,
     ⟨none, none, .store 2 (.s 4) (.s 47)⟩,
     ⟨(some 5), none, .mv (.c (V.int .i64 0))⟩,
     ⟨(some 6), none, .mv (.c (V.bool false))⟩]
   (.ret))
  (.ops [⟨(some 48), none, .mv (.s 1)⟩,
     ⟨(some 49), none, .mv (.s 8)⟩,
     ⟨(some 50), none, .mv (.s 8)⟩,
     ⟨(some 51), none, .mv (.s 9)⟩,
     ⟨(some 52), none, .bin .add (.s 50) (.s 51)⟩,
     ⟨(some 53), none, .slice .sl 1 (.s 48) (some (.s 49)) (some (.s 52)) none⟩,
     ⟨(some 54), none, .call fn_bytes_Clone [(.s 53)]⟩,
     ⟨(some 55), none, .faddr 1 (.s 7)⟩,
     ⟨none, none, .store 1 (.s 55) (.s 54)⟩]
   (.ops [⟨(some 56), none, .load (some 2) (.s 7)⟩,
     ⟨(some 57), none, .mv (.s 8)⟩,
     ⟨(some 58), none, .mv (.s 9)⟩,
     ⟨(some 59), none, .bin .add (.s 57) (.s 58)⟩,
     ⟨none, none, .store 2 (.s 4) (.s 56)⟩,
     ⟨(some 5), none, .mv (.s 59)⟩,
     ⟨(some 6), none, .mv (.c (V.bool true))⟩]
   (.ret)))))))))⟩

noncomputable def f_rtp_element (G : Sem') (t0 t1 : V) : M Res :=
  (mbox ty_rtp_Ext (V.agg [(V.int .i64 0), V.nils])).bind fun t4 =>
  (M.lift (Ax.iaddr none 1 t1 (V.int .i64 0))).bind fun t11 =>
  (mload none t11).bind fun t12 =>
  (M.lift (Ax.cint .i64 t12)).bind fun t13 =>
  (M.lift (Ax.build [(V.int .i64 0), V.nils] [(0, 1, t13)])).bind fun t14 =>
  (mbox ty_rtp_Ext (V.agg [(V.int .i64 0), V.nils])).bind fun t7 =>
  (mstore 2 t7 t14).bind fun _ =>
  (M.lift (Ax.bin .eql t0 (V.int .i64 48862))).bind fun t16 =>
  M.join (M.ite t16
    ((M.lift (Ax.iaddr none 1 t1 (V.int .i64 0))).bind fun t18 =>
    (mload none t18).bind fun t19 =>
    (M.lift (Ax.bin .shr t19 (V.int .u64 4))).bind fun t20 =>
    (M.lift (Ax.cint .i64 t20)).bind fun t21 =>
    (M.lift (Ax.faddr 0 t7)).bind fun t22 =>
    (mstore 1 t22 t21).bind fun _ =>
    (M.lift (Ax.iaddr none 1 t1 (V.int .i64 0))).bind fun t24 =>
    (mload none t24).bind fun t25 =>
    (M.lift (Ax.bin .and t25 (V.int .u8 15))).bind fun t26 =>
    (M.lift (Ax.cint .i64 t26)).bind fun t27 =>
    (M.lift (Ax.bin .add t27 (V.int .i64 1))).bind fun t28 =>
    M.pure (.nrm [(V.int .i64 1), t28]))
    ((M.lift (vlen t1)).bind fun t30 =>
    (M.lift (Ax.bin .gtr t30 (V.int .i64 1))).bind fun t31 =>
    M.join (M.ite t31
      ((M.lift (Ax.iaddr none 1 t1 (V.int .i64 1))).bind fun t33 =>
      (mload none t33).bind fun t34 =>
      (M.lift (Ax.cint .i64 t34)).bind fun t35 =>
      M.pure (.nrm [t35]))
      (M.pure (.nrm [(V.int .i64 0)]))) fun L0 =>
    M.pure (.nrm [(V.int .i64 2), (L0.getD 0 .undef)]))) fun L1 =>
  (M.lift (Ax.faddr 0 t7)).bind fun t36 =>
  (mload none t36).bind fun t37 =>
  (M.lift (Ax.bin .eql t37 (V.int .i64 0))).bind fun t38 =>
  (guarded [(0, t38)] (some (0, false)) (M.pure t1)).bind fun t40 =>
  (guarded [(0, t38)] (some (0, false)) (M.lift (vlen t40))).bind fun t41 =>
  (guarded [(0, t38)] (some (0, false)) (M.pure (L1.getD 0 .undef))).bind fun t42 =>
  (guarded [(0, t38)] (some (0, false)) (M.pure (L1.getD 1 .undef))).bind fun t43 =>
  (guarded [(0, t38)] (some (0, false)) (M.lift (Ax.bin .add t42 t43))).bind fun t44 =>
  (guarded [(0, t38)] (some (0, false)) (M.lift (Ax.bin .lss t41 t44))).bind fun t45 =>
  (M.lift (Ax.pick t38 (V.bool true) t45)).bind fun t46 =>
  M.ite t46
    ((M.lift (Ax.build [(V.int .i64 0), V.nils] [])).bind fun t47 =>
    (mstore 2 t4 t47).bind fun _ =>
    (mload (some 2) t4).bind fun r0 =>
    M.pure (.ret [r0, (V.int .i64 0), (V.bool false)]))
    ((M.lift (Ax.bin .add (L1.getD 0 .undef) (L1.getD 1 .undef))).bind fun t52 =>
    (M.lift (vslice .sl 1 t1 (some (L1.getD 0 .undef)) (some t52) none)).bind fun t53 =>
    (G fn_bytes_Clone [t53]).bind fun t54 =>
    (M.lift (Ax.faddr 1 t7)).bind fun t55 =>
    (mstore 1 t55 t54).bind fun _ =>
    (mload (some 2) t7).bind fun t56 =>
    (M.lift (Ax.bin .add (L1.getD 0 .undef) (L1.getD 1 .undef))).bind fun t59 =>
    (mstore 2 t4 t56).bind fun _ =>
    (mload (some 2) t4).bind fun r0 =>
    M.pure (.ret [r0, t59, (V.bool true)]))

theorem eq_rtp_element (G : Sem') (t0 t1 : V) : execK G ir_rtp_element.rv ir_rtp_element.body [] [] (params 0 [t0, t1]) = f_rtp_element G t0 t1 := by kernel_rfl

theorem tb_rtp_element : T fn_rtp_element = some ir_rtp_element := by kernel_rfl

theorem ok_rtp_element {t0 t1 : V} {H : Heap} {Q : V → Heap → Prop} (h : Ok (f_rtp_element (sem T) t0 t1) H fun r H' => ∃ L, r = .ret L ∧ Q (tupled L) H') : Ok (sem T fn_rtp_element [t0, t1]) H Q :=
  ok_sem tb_rtp_element (Nat.le_of_ble_eq_true rfl) (eq_rtp_element (sem T) t0 t1) h

/-- bytes.Clone. -/
def ir_bytes_Clone : Fn' := ⟨8, [.tmp 2],
  .ops [⟨(some 2), none, .mv (.c V.nils)⟩]
  (.ops [⟨(some 3), none, .mv (.s 0)⟩,
    ⟨(some 4), none, .eq .sl false (.s 3) (.c V.nils)⟩]
  (.cond (.s 4)
  (.ops [⟨(some 2), none, .mv (.c V.nils)⟩]
   (.ret))
  (.ops [⟨(some 5), none, .slit ty_uint8 0 [(V.int .u8 0)] []⟩,
     ⟨(some 6), none, .mv (.s 0)⟩,
     ⟨(some 7), none, .append ty_uint8 1 1 (.s 5) (.s 6)⟩,
     ⟨(some 2), none, .mv (.s 7)⟩]
   (.ret))))⟩

noncomputable def f_bytes_Clone (G : Sem') (t0 : V) : M Res :=
  (M.lift (eqr .sl false t0 V.nils)).bind fun t4 =>
  M.ite t4
    (M.pure (.ret [V.nils]))
    ((mslit ty_uint8 0 [(V.int .u8 0)] []).bind fun t5 =>
    (mappend ty_uint8 1 1 t5 t0).bind fun t7 =>
    M.pure (.ret [t7]))

theorem eq_bytes_Clone (G : Sem') (t0 : V) : execK G ir_bytes_Clone.rv ir_bytes_Clone.body [] [] (params 0 [t0]) = f_bytes_Clone G t0 := by kernel_rfl

theorem tb_bytes_Clone : T fn_bytes_Clone = some ir_bytes_Clone := by kernel_rfl

theorem ok_bytes_Clone {t0 : V} {H : Heap} {Q : V → Heap → Prop} (h : Ok (f_bytes_Clone (sem T) t0) H fun r H' => ∃ L, r = .ret L ∧ Q (tupled L) H') : Ok (sem T fn_bytes_Clone [t0]) H Q :=
  ok_sem tb_bytes_Clone (Nat.le_of_ble_eq_true rfl) (eq_bytes_Clone (sem T) t0) h

/-- palanquin/rtp.Good. -/
def ir_rtp_Good : Fn' := ⟨50, [.tmp 2],
  .ops [⟨(some 1), none, .box ty_rtp_Packet (.s 0)⟩,
    ⟨(some 2), none, .mv (.c (V.bool false))⟩]
  (.blk 0
  (.ops [⟨(some 4), none, .faddr 1 (.s 1)⟩,
     ⟨(some 5), none, .load none (.s 4)⟩,
     ⟨(some 6), none, .bin .lss (.s 5) (.c (V.int .i64 0))⟩,
     ⟨(some 7), none, .mv (.s 6)⟩,
     ⟨(some 8), (some (7, false)), .faddr 1 (.s 1)⟩,
     ⟨(some 9), (some (7, false)), .load none (.s 8)⟩,
     ⟨(some 10), (some (7, false)), .bin .gtr (.s 9) (.c (V.int .i64 127))⟩,
     ⟨(some 11), none, .pick (.s 7) (.c (V.bool true)) (.s 10)⟩,
     ⟨(some 12), none, .mv (.s 11)⟩,
     ⟨(some 13), (some (12, false)), .faddr 5 (.s 1)⟩,
     ⟨(some 14), (some (12, false)), .load none (.s 13)⟩,
     ⟨(some 15), (some (12, false)), .len (.s 14)⟩,
     ⟨(some 16), (some (12, false)), .bin .gtr (.s 15) (.c (V.int .i64 15))⟩,
     ⟨(some 17), none, .pick (.s 12) (.c (V.bool true)) (.s 16)⟩,
     ⟨(some 18), none, .mv (.s 17)⟩,
     ⟨(some 19), (some (18, false)), .faddr 8 (.s 1)⟩,
     ⟨(some 20), (some (18, false)), .load none (.s 19)⟩,
     ⟨(some 21), (some (18, false)), .bin .lss (.s 20) (.c (V.int .i64 0))⟩,
     ⟨(some 22), none, .pick (.s 18) (.c (V.bool true)) (.s 21)⟩,
     ⟨(some 23), none, .mv (.s 22)⟩,
     ⟨(some 24), (some (23, false)), .faddr 8 (.s 1)⟩,
     ⟨(some 25), (some (23, false)), .load none (.s 24)⟩,
     ⟨(some 26), (some (23, false)), .bin .gtr (.s 25) (.c (V.int .i64 255))⟩,
     ⟨(some 27), none, .pick (.s 23) (.c (V.bool true)) (.s 26)⟩,
     ⟨(some 3), none, .mv (.s 27)⟩]
   (.cond (.s 3)
   (.ops [⟨(some 2), none, .mv (.c (V.bool false))⟩]
    (.ret))
   (.ops [⟨(some 29), none, .faddr 6 (.s 1)⟩,
      ⟨(some 30), none, .load none (.s 29)⟩,
      ⟨(some 31), none, .bin .eql (.s 30) (.c (V.int .i64 0))⟩,
      ⟨(some 28), none, .mv (.s 31)⟩]
    (.cond (.s 28)
    (.ops [⟨(some 32), none, .faddr 7 (.s 1)⟩,
       ⟨(some 33), none, .load none (.s 32)⟩,
       ⟨(some 34), none, .len (.s 33)⟩,
       ⟨(some 35), none, .bin .eql (.s 34) (.c (V.int .i64 0))⟩,
       ⟨(some 2), none, .mv (.s 35)⟩]
     (.ret))
    (.ops [⟨(some 37), none, .faddr 6 (.s 1)⟩,
       ⟨(some 38), none, .load none (.s 37)⟩,
       ⟨(some 39), none, .bin .neq (.s 38) (.c (V.int .i64 48862))⟩,
       ⟨(some 40), none, .mv (.s 39)⟩,
       ⟨(some 41), (some (40, true)), .faddr 6 (.s 1)⟩,
       ⟨(some 42), (some (40, true)), .load none (.s 41)⟩,
       ⟨(some 43), (some (40, true)), .bin .neq (.s 42) (.c (V.int .i64 4096))⟩,
       ⟨(some 44), none, .pick (.s 40) (.s 43) (.c (V.bool false))⟩,
       ⟨(some 36), none, .mv (.s 44)⟩]
     (.cond (.s 36)
     (.ops [⟨(some 2), none, .mv (.c (V.bool false))⟩]
      (.ret))
     (.done))))))) [] [4, 5, 6, 7, 8, 9, 10, 11, 12, 13, 14, 15, 16, 17, 18, 19, 20, 21, 22, 23, 24, 25, 26, 27, 3, 2, 29, 30, 31, 28, 32, 33, 34, 35, 2, 37, 38, 39, 40, 41, 42, 43, 44, 36, 2]
  (.ops [⟨(some 45), none, .faddr 7 (.s 1)⟩,
    ⟨(some 46), none, .load none (.s 45)⟩,
    ⟨(some 47), none, .mkfn fn_rtp_Good_1 [(.s 1)]⟩,
    ⟨(some 48), none, .call fn_slices_ContainsFunc_rtp_Ext_rtp_Ext [(.s 46), (.s 47)]⟩,
    ⟨(some 49), none, .un .not (.s 48)⟩,
    ⟨(some 2), none, .mv (.s 49)⟩]
  (.ret)))⟩

noncomputable def f_rtp_Good (G : Sem') (t0 : V) : M Res :=
  (mbox ty_rtp_Packet t0).bind fun t1 =>
  M.blk 0 (
    (M.lift (Ax.faddr 1 t1)).bind fun t4 =>
    (mload none t4).bind fun t5 =>
    (M.lift (Ax.bin .lss t5 (V.int .i64 0))).bind fun t6 =>
    (guarded [(0, t6)] (some (0, false)) (M.lift (Ax.faddr 1 t1))).bind fun t8 =>
    (guarded [(0, t6)] (some (0, false)) (mload none t8)).bind fun t9 =>
    (guarded [(0, t6)] (some (0, false)) (M.lift (Ax.bin .gtr t9 (V.int .i64 127)))).bind fun t10 =>
    (M.lift (Ax.pick t6 (V.bool true) t10)).bind fun t11 =>
    (guarded [(0, t11)] (some (0, false)) (M.lift (Ax.faddr 5 t1))).bind fun t13 =>
    (guarded [(0, t11)] (some (0, false)) (mload none t13)).bind fun t14 =>
    (guarded [(0, t11)] (some (0, false)) (M.lift (vlen t14))).bind fun t15 =>
    (guarded [(0, t11)] (some (0, false)) (M.lift (Ax.bin .gtr t15 (V.int .i64 15)))).bind fun t16 =>
    (M.lift (Ax.pick t11 (V.bool true) t16)).bind fun t17 =>
    (guarded [(0, t17)] (some (0, false)) (M.lift (Ax.faddr 8 t1))).bind fun t19 =>
    (guarded [(0, t17)] (some (0, false)) (mload none t19)).bind fun t20 =>
    (guarded [(0, t17)] (some (0, false)) (M.lift (Ax.bin .lss t20 (V.int .i64 0)))).bind fun t21 =>
    (M.lift (Ax.pick t17 (V.bool true) t21)).bind fun t22 =>
    (guarded [(0, t22)] (some (0, false)) (M.lift (Ax.faddr 8 t1))).bind fun t24 =>
    (guarded [(0, t22)] (some (0, false)) (mload none t24)).bind fun t25 =>
    (guarded [(0, t22)] (some (0, false)) (M.lift (Ax.bin .gtr t25 (V.int .i64 255)))).bind fun t26 =>
    (M.lift (Ax.pick t22 (V.bool true) t26)).bind fun t27 =>
    M.ite t27
      (M.pure (.ret [(V.bool false)]))
      ((M.lift (Ax.faddr 6 t1)).bind fun t29 =>
      (mload none t29).bind fun t30 =>
      (M.lift (Ax.bin .eql t30 (V.int .i64 0))).bind fun t31 =>
      M.ite t31
        ((M.lift (Ax.faddr 7 t1)).bind fun t32 =>
        (mload none t32).bind fun t33 =>
        (M.lift (vlen t33)).bind fun t34 =>
        (M.lift (Ax.bin .eql t34 (V.int .i64 0))).bind fun t35 =>
        M.pure (.ret [t35]))
        ((M.lift (Ax.faddr 6 t1)).bind fun t37 =>
        (mload none t37).bind fun t38 =>
        (M.lift (Ax.bin .neq t38 (V.int .i64 48862))).bind fun t39 =>
        (guarded [(0, t39)] (some (0, true)) (M.lift (Ax.faddr 6 t1))).bind fun t41 =>
        (guarded [(0, t39)] (some (0, true)) (mload none t41)).bind fun t42 =>
        (guarded [(0, t39)] (some (0, true)) (M.lift (Ax.bin .neq t42 (V.int .i64 4096)))).bind fun t43 =>
        (M.lift (Ax.pick t39 t43 (V.bool false))).bind fun t44 =>
        M.ite t44
          (M.pure (.ret [(V.bool false)]))
          (M.pure (.nrm []))))) fun _ =>
  (M.lift (Ax.faddr 7 t1)).bind fun t45 =>
  (mload none t45).bind fun t46 =>
  (M.pure (.fn fn_rtp_Good_1 [t1])).bind fun t47 =>
  (G fn_slices_ContainsFunc_rtp_Ext_rtp_Ext [t46, t47]).bind fun t48 =>
  (M.lift (Ax.un .not t48)).bind fun t49 =>
  M.pure (.ret [t49])

theorem eq_rtp_Good (G : Sem') (t0 : V) : execK G ir_rtp_Good.rv ir_rtp_Good.body [] [] (params 0 [t0]) = f_rtp_Good G t0 := by kernel_rfl

theorem tb_rtp_Good : T fn_rtp_Good = some ir_rtp_Good := by kernel_rfl

theorem ok_rtp_Good {t0 : V} {H : Heap} {Q : V → Heap → Prop} (h : Ok (f_rtp_Good (sem T) t0) H fun r H' => ∃ L, r = .ret L ∧ Q (tupled L) H') : Ok (sem T fn_rtp_Good [t0]) H Q :=
  ok_sem tb_rtp_Good (Nat.le_of_ble_eq_true rfl) (eq_rtp_Good (sem T) t0) h

/-- palanquin/rtp.Good$1. -/
def ir_rtp_Good_1 : Fn' := ⟨9, [.tmp 3],
  .ops [⟨(some 2), none, .box ty_rtp_Ext (.s 0)⟩,
    ⟨(some 3), none, .mv (.c (V.bool false))⟩]
  (.ops [⟨(some 4), none, .faddr 6 (.s 1)⟩,
    ⟨(some 5), none, .load none (.s 4)⟩,
    ⟨(some 6), none, .load (some 2) (.s 2)⟩,
    ⟨(some 7), none, .call fn_rtp_goodExt [(.s 5), (.s 6)]⟩,
    ⟨(some 8), none, .un .not (.s 7)⟩,
    ⟨(some 3), none, .mv (.s 8)⟩]
  (.ret))⟩

noncomputable def f_rtp_Good_1 (G : Sem') (t0 t1 : V) : M Res :=
  (mbox ty_rtp_Ext t0).bind fun t2 =>
  (M.lift (Ax.faddr 6 t1)).bind fun t4 =>
  (mload none t4).bind fun t5 =>
  (mload (some 2) t2).bind fun t6 =>
  (G fn_rtp_goodExt [t5, t6]).bind fun t7 =>
  (M.lift (Ax.un .not t7)).bind fun t8 =>
  M.pure (.ret [t8])

theorem eq_rtp_Good_1 (G : Sem') (t0 t1 : V) : execK G ir_rtp_Good_1.rv ir_rtp_Good_1.body [] [] (params 0 [t0, t1]) = f_rtp_Good_1 G t0 t1 := by kernel_rfl

theorem tb_rtp_Good_1 : T fn_rtp_Good_1 = some ir_rtp_Good_1 := by kernel_rfl

theorem ok_rtp_Good_1 {t0 t1 : V} {H : Heap} {Q : V → Heap → Prop} (h : Ok (f_rtp_Good_1 (sem T) t0 t1) H fun r H' => ∃ L, r = .ret L ∧ Q (tupled L) H') : Ok (sem T fn_rtp_Good_1 [t0, t1]) H Q :=
  ok_sem tb_rtp_Good_1 (Nat.le_of_ble_eq_true rfl) (eq_rtp_Good_1 (sem T) t0 t1) h

/-- palanquin/rtp.goodExt. -/
def ir_rtp_goodExt : Fn' := ⟨41, [.tmp 4],
  .ops [⟨(some 3), none, .box ty_rtp_Ext (.s 1)⟩,
    ⟨(some 4), none, .mv (.c (V.bool false))⟩]
  (.ops [⟨(some 5), none, .mv (.s 0)⟩,
    ⟨(some 6), none, .bin .eql (.s 5) (.c (V.int .i64 48862))⟩]
  (.cond (.s 6)
  (.ops [⟨(some 7), none, .faddr 0 (.s 3)⟩,
     ⟨(some 8), none, .load none (.s 7)⟩,
     ⟨(some 9), none, .bin .geq (.s 8) (.c (V.int .i64 1))⟩,
     ⟨(some 10), none, .mv (.s 9)⟩,
     ⟨(some 11), (some (10, true)), .faddr 0 (.s 3)⟩,
     ⟨(some 12), (some (10, true)), .load none (.s 11)⟩,
     ⟨(some 13), (some (10, true)), .bin .leq (.s 12) (.c (V.int .i64 14))⟩,
     ⟨(some 14), none, .pick (.s 10) (.s 13) (.c (V.bool false))⟩,
     ⟨(some 15), none, .mv (.s 14)⟩,
     ⟨(some 16), (some (15, true)), .faddr 1 (.s 3)⟩,
     ⟨(some 17), (some (15, true)), .load none (.s 16)⟩,
     ⟨(some 18), (some (15, true)), .len (.s 17)⟩,
     ⟨(some 19), (some (15, true)), .bin .geq (.s 18) (.c (V.int .i64 1))⟩,
     ⟨(some 20), none, .pick (.s 15) (.s 19) (.c (V.bool false))⟩,
     ⟨(some 21), none, .mv (.s 20)⟩,
     ⟨(some 22), (some (21, true)), .faddr 1 (.s 3)⟩,
     ⟨(some 23), (some (21, true)), .load none (.s 22)⟩,
     ⟨(some 24), (some (21, true)), .len (.s 23)⟩,
     ⟨(some 25), (some (21, true)), .bin .leq (.s 24) (.c (V.int .i64 16))⟩,
     ⟨(some 26), none, .pick (.s 21) (.s 25) (.c (V.bool false))⟩,
     ⟨(some 4), none, .mv (.s 26)⟩]
   (.ret))
  (.ops [⟨(some 27), none, .faddr 0 (.s 3)⟩,
     ⟨(some 28), none, .load none (.s 27)⟩,
     ⟨(some 29), none, .bin .geq (.s 28) (.c (V.int .i64 1))⟩,
     ⟨(some 30), none, .mv (.s 29)⟩,
     ⟨(some 31), (some (30, true)), .faddr 0 (.s 3)⟩,
     ⟨(some 32), (some (30, true)), .load none (.s 31)⟩,
     ⟨(some 33), (some (30, true)), .bin .leq (.s 32) (.c (V.int .i64 255))⟩,
     ⟨(some 34), none, .pick (.s 30) (.s 33) (.c (V.bool false))⟩,
     ⟨(some 35), none, .mv (.s 34)⟩,
     ⟨(some 36), (some (35, true)), .faddr 1 (.s 3)⟩,
     ⟨(some 37), (some (35, true)), .load none (.s 36)⟩,
     ⟨(some 38), (some (35, true)), .len (.s 37)⟩,
     ⟨(some 39), (some (35, true)), .bin .leq (.s 38) (.c (V.int .i64 255))⟩,
     ⟨(some 40), none, .pick (.s 35) (.s 39) (.c (V.bool false))⟩,
     ⟨(some 4), none, .mv (.s 40)⟩]
   (.ret))))⟩

noncomputable def f_rtp_goodExt (G : Sem') (t0 t1 : V) : M Res :=
  (mbox ty_rtp_Ext t1).bind fun t3 =>
  (M.lift (Ax.bin .eql t0 (V.int .i64 48862))).bind fun t6 =>
  M.ite t6
    ((M.lift (Ax.faddr 0 t3)).bind fun t7 =>
    (mload none t7).bind fun t8 =>
    (M.lift (Ax.bin .geq t8 (V.int .i64 1))).bind fun t9 =>
    (guarded [(0, t9)] (some (0, true)) (M.lift (Ax.faddr 0 t3))).bind fun t11 =>
    (guarded [(0, t9)] (some (0, true)) (mload none t11)).bind fun t12 =>
    (guarded [(0, t9)] (some (0, true)) (M.lift (Ax.bin .leq t12 (V.int .i64 14)))).bind fun t13 =>
    (M.lift (Ax.pick t9 t13 (V.bool false))).bind fun t14 =>
    (guarded [(0, t14)] (some (0, true)) (M.lift (Ax.faddr 1 t3))).bind fun t16 =>
    (guarded [(0, t14)] (some (0, true)) (mload none t16)).bind fun t17 =>
    (guarded [(0, t14)] (some (0, true)) (M.lift (vlen t17))).bind fun t18 =>
    (guarded [(0, t14)] (some (0, true)) (M.lift (Ax.bin .geq t18 (V.int .i64 1)))).bind fun t19 =>
    (M.lift (Ax.pick t14 t19 (V.bool false))).bind fun t20 =>
    (guarded [(0, t20)] (some (0, true)) (M.lift (Ax.faddr 1 t3))).bind fun t22 =>
    (guarded [(0, t20)] (some (0, true)) (mload none t22)).bind fun t23 =>
    (guarded [(0, t20)] (some (0, true)) (M.lift (vlen t23))).bind fun t24 =>
    (guarded [(0, t20)] (some (0, true)) (M.lift (Ax.bin .leq t24 (V.int .i64 16)))).bind fun t25 =>
    (M.lift (Ax.pick t20 t25 (V.bool false))).bind fun t26 =>
    M.pure (.ret [t26]))
    ((M.lift (Ax.faddr 0 t3)).bind fun t27 =>
    (mload none t27).bind fun t28 =>
    (M.lift (Ax.bin .geq t28 (V.int .i64 1))).bind fun t29 =>
    (guarded [(0, t29)] (some (0, true)) (M.lift (Ax.faddr 0 t3))).bind fun t31 =>
    (guarded [(0, t29)] (some (0, true)) (mload none t31)).bind fun t32 =>
    (guarded [(0, t29)] (some (0, true)) (M.lift (Ax.bin .leq t32 (V.int .i64 255)))).bind fun t33 =>
    (M.lift (Ax.pick t29 t33 (V.bool false))).bind fun t34 =>
    (guarded [(0, t34)] (some (0, true)) (M.lift (Ax.faddr 1 t3))).bind fun t36 =>
    (guarded [(0, t34)] (some (0, true)) (mload none t36)).bind fun t37 =>
    (guarded [(0, t34)] (some (0, true)) (M.lift (vlen t37))).bind fun t38 =>
    (guarded [(0, t34)] (some (0, true)) (M.lift (Ax.bin .leq t38 (V.int .i64 255)))).bind fun t39 =>
    (M.lift (Ax.pick t34 t39 (V.bool false))).bind fun t40 =>
    M.pure (.ret [t40]))

theorem eq_rtp_goodExt (G : Sem') (t0 t1 : V) : execK G ir_rtp_goodExt.rv ir_rtp_goodExt.body [] [] (params 0 [t0, t1]) = f_rtp_goodExt G t0 t1 := by kernel_rfl

theorem tb_rtp_goodExt : T fn_rtp_goodExt = some ir_rtp_goodExt := by kernel_rfl

theorem ok_rtp_goodExt {t0 t1 : V} {H : Heap} {Q : V → Heap → Prop} (h : Ok (f_rtp_goodExt (sem T) t0 t1) H fun r H' => ∃ L, r = .ret L ∧ Q (tupled L) H') : Ok (sem T fn_rtp_goodExt [t0, t1]) H Q :=
  ok_sem tb_rtp_goodExt (Nat.le_of_ble_eq_true rfl) (eq_rtp_goodExt (sem T) t0 t1) h

/-- slices.ContainsFunc[[]palanquin/rtp.Ext,palanquin/rtp.Ext]. -/
def ir_slices_ContainsFunc_rtp_Ext_rtp_Ext : Fn' := ⟨9, [.tmp 4],
  .ops [⟨(some 4), none, .mv (.c (V.bool false))⟩]
  (.ops [⟨(some 5), none, .mv (.s 0)⟩,
    ⟨(some 6), none, .mv (.s 1)⟩,
    ⟨(some 7), none, .call fn_slices_IndexFunc_rtp_Ext_rtp_Ext [(.s 5), (.s 6)]⟩,
    ⟨(some 8), none, .bin .geq (.s 7) (.c (V.int .i64 0))⟩,
    ⟨(some 4), none, .mv (.s 8)⟩]
  (.ret))⟩

noncomputable def f_slices_ContainsFunc_rtp_Ext_rtp_Ext (G : Sem') (t0 t1 : V) : M Res :=
  (G fn_slices_IndexFunc_rtp_Ext_rtp_Ext [t0, t1]).bind fun t7 =>
  (M.lift (Ax.bin .geq t7 (V.int .i64 0))).bind fun t8 =>
  M.pure (.ret [t8])

theorem eq_slices_ContainsFunc_rtp_Ext_rtp_Ext (G : Sem') (t0 t1 : V) : execK G ir_slices_ContainsFunc_rtp_Ext_rtp_Ext.rv ir_slices_ContainsFunc_rtp_Ext_rtp_Ext.body [] [] (params 0 [t0, t1]) = f_slices_ContainsFunc_rtp_Ext_rtp_Ext G t0 t1 := by kernel_rfl

theorem tb_slices_ContainsFunc_rtp_Ext_rtp_Ext : T fn_slices_ContainsFunc_rtp_Ext_rtp_Ext = some ir_slices_ContainsFunc_rtp_Ext_rtp_Ext := by kernel_rfl

theorem ok_slices_ContainsFunc_rtp_Ext_rtp_Ext {t0 t1 : V} {H : Heap} {Q : V → Heap → Prop} (h : Ok (f_slices_ContainsFunc_rtp_Ext_rtp_Ext (sem T) t0 t1) H fun r H' => ∃ L, r = .ret L ∧ Q (tupled L) H') : Ok (sem T fn_slices_ContainsFunc_rtp_Ext_rtp_Ext [t0, t1]) H Q :=
  ok_sem tb_slices_ContainsFunc_rtp_Ext_rtp_Ext (Nat.le_of_ble_eq_true rfl) (eq_slices_ContainsFunc_rtp_Ext_rtp_Ext (sem T) t0 t1) h

/-- slices.IndexFunc[[]palanquin/rtp.Ext,palanquin/rtp.Ext]. -/
def loop_slices_IndexFunc_rtp_Ext_rtp_Ext_0 : C :=
  .ops [⟨(some 9), none, .bin .lss (.s 8) (.s 7)⟩]
  (.cond (.s 9)
  (.blk 1
   (.ops [⟨(some 10), none, .mv (.s 8)⟩,
      ⟨(some 5), none, .mv (.s 10)⟩]
    (.ops [⟨(some 11), none, .mv (.s 1)⟩,
      ⟨(some 12), none, .mv (.s 0)⟩,
      ⟨(some 13), none, .mv (.s 5)⟩,
      ⟨(some 14), none, .iaddr none 2 (.s 12) (.s 13)⟩,
      ⟨(some 15), none, .load (some 2) (.s 14)⟩,
      ⟨(some 16), none, .callv (.s 11) [(.s 15)]⟩]
    (.cond (.s 16)
    (.ops [⟨(some 17), none, .mv (.s 5)⟩,
       ⟨(some 4), none, .mv (.s 17)⟩]
     (.ret))
    (.done)))) [] [10, 5, 11, 12, 13, 14, 15, 16, 17, 4]
   (.ops [⟨(some 18), none, .bin .add (.s 8) (.c (V.int .i64 1))⟩,
     ⟨(some 8), none, .mv (.s 18)⟩]
   (.done)))
  (.exit 0))

def ir_slices_IndexFunc_rtp_Ext_rtp_Ext : Fn' := ⟨19, [.tmp 4],
  .ops [⟨(some 4), none, .mv (.c (V.int .i64 0))⟩]
  (.ops [⟨(some 6), none, .mv (.s 0)⟩,
    ⟨(some 7), none, .len (.s 6)⟩,
    ⟨(some 8), none, .mv (.c (V.int .i64 0))⟩]
  (.blk 0
  (.loop loop_slices_IndexFunc_rtp_Ext_rtp_Ext_0 [8] [9, 10, 5, 11, 12, 13, 14, 15, 16, 17, 4, 18, 8]) [] [9, 10, 5, 11, 12, 13, 14, 15, 16, 17, 4, 18, 8]
  (.ops [⟨(some 4), none, .mv (.c (V.int .i64 (-1)))⟩]
  (.ret))))⟩

noncomputable def f_slices_IndexFunc_rtp_Ext_rtp_Ext_0 (G : Sem') (t7 t1 t0 : V) (L : List V) : M Res :=
  (M.lift (Ax.bin .lss (L.getD 0 .undef) t7)).bind fun t9 =>
  M.ite t9
    (M.blk 1 (
      (M.lift (Ax.iaddr none 2 t0 (L.getD 0 .undef))).bind fun t14 =>
      (mload (some 2) t14).bind fun t15 =>
      (callv G t1 [t15]).bind fun t16 =>
      M.ite t16
        (M.pure (.ret [(L.getD 0 .undef)]))
        (M.pure (.nrm []))) fun _ =>
    (M.lift (Ax.bin .add (L.getD 0 .undef) (V.int .i64 1))).bind fun t18 =>
    M.pure (.nrm [t18]))
    (M.pure (.ex 0 []))

noncomputable def f_slices_IndexFunc_rtp_Ext_rtp_Ext (G : Sem') (t0 t1 : V) : M Res :=
  (M.lift (vlen t0)).bind fun t7 =>
  M.blk 0 (
    M.iter (f_slices_IndexFunc_rtp_Ext_rtp_Ext_0 G t7 t1 t0) [(V.int .i64 0)]) fun _ =>
  M.pure (.ret [(V.int .i64 (-1))])

theorem eq_slices_IndexFunc_rtp_Ext_rtp_Ext (G : Sem') (t0 t1 : V) : execK G ir_slices_IndexFunc_rtp_Ext_rtp_Ext.rv ir_slices_IndexFunc_rtp_Ext_rtp_Ext.body [] [] (params 0 [t0, t1]) = f_slices_IndexFunc_rtp_Ext_rtp_Ext G t0 t1 := by kernel_rfl

theorem tb_slices_IndexFunc_rtp_Ext_rtp_Ext : T fn_slices_IndexFunc_rtp_Ext_rtp_Ext = some ir_slices_IndexFunc_rtp_Ext_rtp_Ext := by kernel_rfl

theorem ok_slices_IndexFunc_rtp_Ext_rtp_Ext {t0 t1 : V} {H : Heap} {Q : V → Heap → Prop} (h : Ok (f_slices_IndexFunc_rtp_Ext_rtp_Ext (sem T) t0 t1) H fun r H' => ∃ L, r = .ret L ∧ Q (tupled L) H') : Ok (sem T fn_slices_IndexFunc_rtp_Ext_rtp_Ext [t0, t1]) H Q :=
  ok_sem tb_slices_IndexFunc_rtp_Ext_rtp_Ext (Nat.le_of_ble_eq_true rfl) (eq_slices_IndexFunc_rtp_Ext_rtp_Ext (sem T) t0 t1) h

/-- palanquin/rtp.Bytes. -/
def loop_rtp_Bytes_0 : C :=
  .ops [⟨(some 28), none, .bin .lss (.s 27) (.s 26)⟩]
  (.cond (.s 28)
  (.blk 1
   (.ops [⟨(some 29), none, .iaddr none 1 (.s 25) (.s 27)⟩,
      ⟨(some 30), none, .load none (.s 29)⟩,
      ⟨(some 6), none, .mv (.s 30)⟩]
    (.ops [⟨(some 31), none, .mv (.s 4)⟩,
      ⟨(some 32), none, .mv (.s 6)⟩,
      ⟨(some 33), none, .call fn_rtp_put [(.s 31), (.s 32), (.c (V.int .i64 4))]⟩,
      ⟨(some 4), none, .mv (.s 33)⟩]
    (.done))) [4] [29, 30, 6, 31, 32, 33, 4]
   (.ops [⟨(some 34), none, .bin .add (.s 27) (.c (V.int .i64 1))⟩,
     ⟨(some 27), none, .mv (.s 34)⟩]
   (.done)))
  (.exit 0))

def ir_rtp_Bytes : Fn' := ⟨83, [.tmp 2, .tmp 3],
  .ops [⟨(some 1), none, .box ty_rtp_Packet (.s 0)⟩,
    ⟨(some 2), none, .mv (.c V.nils)⟩,
    ⟨(some 3), none, .mv (.c (V.int .i64 0))⟩]
  (.ops [⟨(some 8), none, .load (some 10) (.s 1)⟩,
    ⟨(some 9), none, .call fn_rtp_Good [(.s 8)]⟩,
    ⟨(some 10), none, .un .not (.s 9)⟩]
  (.cond (.s 10)
  (.ops [⟨(some 2), none, .mv (.c V.nils)⟩,
     ⟨(some 3), none, .mv (.c (V.int .i64 1))⟩]
   (.ret))
  (.draw [⟨(some 11), none, .load (some 10) (.s 1)⟩,
     ⟨(some 13), none, .faddr 2 (.s 1)⟩,
     ⟨(some 14), none, .load none (.s 13)⟩,
     ⟨(some 15), none, .cint .u32 (.s 14)⟩,
     ⟨(some 12), none, .call fn_rtp_first [(.s 11)]⟩,
     ⟨(some 16), none, .call fn_rtp_put [(.s 12), (.s 15), (.c (V.int .i64 2))]⟩,
     ⟨(some 4), none, .mv (.s 16)⟩] [(2, 4)]
   (.draw [⟨(some 17), none, .mv (.s 4)⟩,
     ⟨(some 18), none, .faddr 3 (.s 1)⟩,
     ⟨(some 19), none, .load none (.s 18)⟩,
     ⟨(some 21), none, .faddr 4 (.s 1)⟩,
     ⟨(some 22), none, .load none (.s 21)⟩,
     ⟨(some 20), none, .call fn_rtp_put [(.s 17), (.s 19), (.c (V.int .i64 4))]⟩,
     ⟨(some 23), none, .call fn_rtp_put [(.s 20), (.s 22), (.c (V.int .i64 4))]⟩,
     ⟨(some 4), none, .mv (.s 23)⟩] [(4, 5)]
   (.ops [⟨(some 24), none, .faddr 5 (.s 1)⟩,
     ⟨(some 25), none, .load none (.s 24)⟩,
     ⟨(some 26), none, .len (.s 25)⟩,
     ⟨(some 27), none, .mv (.c (V.int .i64 0))⟩]
   (.blk 0
   (.loop loop_rtp_Bytes_0 [4, 27] [28, 29, 30, 6, 31, 32, 33, 4, 34, 27]) [4] [28, 29, 30, 6, 31, 32, 33, 4, 34, 27]
   (.ops [⟨(some 35), none, .faddr 6 (.s 1)⟩,
     ⟨(some 36), none, .load none (.s 35)⟩,
     ⟨(some 37), none, .bin .neq (.s 36) (.c (V.int .i64 0))⟩]
   (.condJ (.s 37)
   (.ops [⟨(some 38), none, .load (some 10) (.s 1)⟩,
      ⟨(some 39), none, .call fn_rtp_elements [(.s 38)]⟩,
      ⟨(some 7), none, .mv (.s 39)⟩]
    (.ops [⟨(some 40), none, .mv (.s 4)⟩,
      ⟨(some 41), none, .faddr 6 (.s 1)⟩,
      ⟨(some 42), none, .load none (.s 41)⟩,
      ⟨(some 43), none, .cint .u32 (.s 42)⟩,
      ⟨(some 44), none, .call fn_rtp_put [(.s 40), (.s 43), (.c (V.int .i64 2))]⟩,
      ⟨(some 45), none, .mv (.s 7)⟩,
      ⟨(some 46), none, .len (.s 45)⟩,
      ⟨(some 47), none, .bin .quo (.s 46) (.c (V.int .i64 4))⟩,
      ⟨(some 48), none, .cint .u32 (.s 47)⟩,
      ⟨(some 49), none, .call fn_rtp_put [(.s 44), (.s 48), (.c (V.int .i64 2))]⟩,
      ⟨(some 4), none, .mv (.s 49)⟩]
    (.ops [⟨(some 50), none, .mv (.s 4)⟩,
      ⟨(some 51), none, .mv (.s 7)⟩,
      ⟨(some 52), none, .append ty_uint8 1 1 (.s 50) (.s 51)⟩,
      ⟨(some 4), none, .mv (.s 52)⟩]
    (.done))))
   (.done) [4] [38, 39, 7, 40, 41, 42, 43, 44, 45, 46, 47, 48, 49, 4, 50, 51, 52, 4]
   (.ops [⟨(some 53), none, .mv (.s 4)⟩,
     ⟨(some 54), none, .len (.s 53)⟩,
     ⟨(some 55), none, .faddr 9 (.s 1)⟩,
     ⟨(some 56), none, .load none (.s 55)⟩,
     ⟨(some 57), none, .len (.s 56)⟩,
     ⟨(some 58), none, .bin .add (.s 54) (.s 57)⟩,
     ⟨(some 59), none, .faddr 8 (.s 1)⟩,
     ⟨(some 60), none, .load none (.s 59)⟩,
     ⟨(some 61), none, .bin .add (.s 58) (.s 60)⟩,
     ⟨(some 62), none, .bin .gtr (.s 61) (.c (V.int .i64 1200))⟩]
   (.cond (.s 62)
   (.ops [⟨(some 2), none, .mv (.c V.nils)⟩,
      ⟨(some 3), none, .mv (.c (V.int .i64 4))⟩]
    (.ret))
   (.ops [⟨(some 63), none, .mv (.s 4)⟩,
      ⟨(some 64), none, .faddr 9 (.s 1)⟩,
      ⟨(some 65), none, .load none (.s 64)⟩,
      ⟨(some 66), none, .append ty_uint8 1 1 (.s 63) (.s 65)⟩,
      ⟨(some 4), none, .mv (.s 66)⟩]
    (.ops [⟨(some 67), none, .faddr 8 (.s 1)⟩,
      ⟨(some 68), none, .load none (.s 67)⟩,
      ⟨(some 69), none, .bin .gtr (.s 68) (.c (V.int .i64 0))⟩]
    (.condJ (.s 69)
    (.ops [⟨(some 70), none, .mv (.s 4)⟩,
       ⟨(some 71), none, .faddr 8 (.s 1)⟩,
       ⟨(some 72), none, .load none (.s 71)⟩,
       ⟨(some 73), none, .appendz ty_uint8 1 [(V.int .u8 0)] (.s 70) (.s 72)⟩,
       ⟨(some 4), none, .mv (.s 73)⟩]
     (.ops [⟨(some 74), none, .mv (.s 4)⟩,
       ⟨(some 75), none, .mv (.s 4)⟩,
       ⟨(some 76), none, .len (.s 75)⟩,
       ⟨(some 77), none, .bin .sub (.s 76) (.c (V.int .i64 1))⟩,
       ⟨(some 78), none, .faddr 8 (.s 1)⟩,
       ⟨(some 79), none, .load none (.s 78)⟩,
       ⟨(some 80), none, .cint .u8 (.s 79)⟩,
       ⟨(some 81), none, .iaddr none 1 (.s 74) (.s 77)⟩,
       ⟨none, none, .store 1 (.s 81) (.s 80)⟩]
     (.done)))
    (.done) [4] [70, 71, 72, 73, 4, 74, 75, 76, 77, 78, 79, 80, 81]
    (.ops [⟨(some 82), none, .mv (.s 4)⟩,
      ⟨(some 2), none, .mv (.s 82)⟩,
      ⟨(some 3), none, .mv (.c (V.int .i64 0))⟩]
    (.ret)))))))))))))))⟩

noncomputable def f_rtp_Bytes_0 (G : Sem') (t26 t25 t2 t3 : V) (L : List V) : M Res :=
  (M.lift (Ax.bin .lss (L.getD 1 .undef) t26)).bind fun t28 =>
  M.ite t28
    (M.blk 1 (
      (M.lift (Ax.iaddr none 1 t25 (L.getD 1 .undef))).bind fun t29 =>
      (mload none t29).bind fun t30 =>
      (G fn_rtp_put [(L.getD 0 .undef), t30, (V.int .i64 4)]).bind fun t33 =>
      M.pure (.nrm [t33])) fun L0 =>
    (M.lift (Ax.bin .add (L.getD 1 .undef) (V.int .i64 1))).bind fun t34 =>
    M.pure (.nrm [(L0.getD 0 .undef), t34]))
    (M.pure (.ex 0 [(L.getD 0 .undef)]))

noncomputable def f_rtp_Bytes (G : Sem') (t0 : V) : M Res :=
  (mbox ty_rtp_Packet t0).bind fun t1 =>
  (mload (some 10) t1).bind fun t8 =>
  (G fn_rtp_Good [t8]).bind fun t9 =>
  (M.lift (Ax.un .not t9)).bind fun t10 =>
  M.ite t10
    (M.pure (.ret [V.nils, (V.int .i64 1)]))
    ((mload (some 10) t1).bind fun t11 =>
    (M.lift (Ax.faddr 2 t1)).bind fun t13 =>
    (mload none t13).bind fun t14 =>
    (M.lift (Ax.cint .u32 t14)).bind fun t15 =>
    M.getH.bind fun h0 =>
    (G fn_rtp_first [t11]).bind fun t12 =>
    M.getH.bind fun h0' =>
    (M.unch t13 h0 h0').bind fun _ =>
    (G fn_rtp_put [t12, t15, (V.int .i64 2)]).bind fun t16 =>
    (M.lift (Ax.faddr 3 t1)).bind fun t18 =>
    (mload none t18).bind fun t19 =>
    (M.lift (Ax.faddr 4 t1)).bind fun t21 =>
    (mload none t21).bind fun t22 =>
    M.getH.bind fun h1 =>
    (G fn_rtp_put [t16, t19, (V.int .i64 4)]).bind fun t20 =>
    M.getH.bind fun h1' =>
    (M.unch t21 h1 h1').bind fun _ =>
    (G fn_rtp_put [t20, t22, (V.int .i64 4)]).bind fun t23 =>
    (M.lift (Ax.faddr 5 t1)).bind fun t24 =>
    (mload none t24).bind fun t25 =>
    (M.lift (vlen t25)).bind fun t26 =>
    M.blk 0 (
      M.iter (f_rtp_Bytes_0 G t26 t25 V.nils (V.int .i64 0)) [t23, (V.int .i64 0)]) fun L1 =>
    (M.lift (Ax.faddr 6 t1)).bind fun t35 =>
    (mload none t35).bind fun t36 =>
    (M.lift (Ax.bin .neq t36 (V.int .i64 0))).bind fun t37 =>
    M.join (M.ite t37
      ((mload (some 10) t1).bind fun t38 =>
      (G fn_rtp_elements [t38]).bind fun t39 =>
      (M.lift (Ax.faddr 6 t1)).bind fun t41 =>
      (mload none t41).bind fun t42 =>
      (M.lift (Ax.cint .u32 t42)).bind fun t43 =>
      (G fn_rtp_put [(L1.getD 0 .undef), t43, (V.int .i64 2)]).bind fun t44 =>
      (M.lift (vlen t39)).bind fun t46 =>
      (M.lift (Ax.bin .quo t46 (V.int .i64 4))).bind fun t47 =>
      (M.lift (Ax.cint .u32 t47)).bind fun t48 =>
      (G fn_rtp_put [t44, t48, (V.int .i64 2)]).bind fun t49 =>
      (mappend ty_uint8 1 1 t49 t39).bind fun t52 =>
      M.pure (.nrm [t52]))
      (M.pure (.nrm [(L1.getD 0 .undef)]))) fun L2 =>
    (M.lift (vlen (L2.getD 0 .undef))).bind fun t54 =>
    (M.lift (Ax.faddr 9 t1)).bind fun t55 =>
    (mload none t55).bind fun t56 =>
    (M.lift (vlen t56)).bind fun t57 =>
    (M.lift (Ax.bin .add t54 t57)).bind fun t58 =>
    (M.lift (Ax.faddr 8 t1)).bind fun t59 =>
    (mload none t59).bind fun t60 =>
    (M.lift (Ax.bin .add t58 t60)).bind fun t61 =>
    (M.lift (Ax.bin .gtr t61 (V.int .i64 1200))).bind fun t62 =>
    M.ite t62
      (M.pure (.ret [V.nils, (V.int .i64 4)]))
      ((M.lift (Ax.faddr 9 t1)).bind fun t64 =>
      (mload none t64).bind fun t65 =>
      (mappend ty_uint8 1 1 (L2.getD 0 .undef) t65).bind fun t66 =>
      (M.lift (Ax.faddr 8 t1)).bind fun t67 =>
      (mload none t67).bind fun t68 =>
      (M.lift (Ax.bin .gtr t68 (V.int .i64 0))).bind fun t69 =>
      M.join (M.ite t69
        ((M.lift (Ax.faddr 8 t1)).bind fun t71 =>
        (mload none t71).bind fun t72 =>
        (mappendz ty_uint8 1 [(V.int .u8 0)] t66 t72).bind fun t73 =>
        (M.lift (vlen t73)).bind fun t76 =>
        (M.lift (Ax.bin .sub t76 (V.int .i64 1))).bind fun t77 =>
        (M.lift (Ax.faddr 8 t1)).bind fun t78 =>
        (mload none t78).bind fun t79 =>
        (M.lift (Ax.cint .u8 t79)).bind fun t80 =>
        (M.lift (Ax.iaddr none 1 t73 t77)).bind fun t81 =>
        (mstore 1 t81 t80).bind fun _ =>
        M.pure (.nrm [t73]))
        (M.pure (.nrm [t66]))) fun L3 =>
      M.pure (.ret [(L3.getD 0 .undef), (V.int .i64 0)])))

theorem eq_rtp_Bytes (G : Sem') (t0 : V) : execK G ir_rtp_Bytes.rv ir_rtp_Bytes.body [] [] (params 0 [t0]) = f_rtp_Bytes G t0 := by kernel_rfl

theorem tb_rtp_Bytes : T fn_rtp_Bytes = some ir_rtp_Bytes := by kernel_rfl

theorem ok_rtp_Bytes {t0 : V} {H : Heap} {Q : V → Heap → Prop} (h : Ok (f_rtp_Bytes (sem T) t0) H fun r H' => ∃ L, r = .ret L ∧ Q (tupled L) H') : Ok (sem T fn_rtp_Bytes [t0]) H Q :=
  ok_sem tb_rtp_Bytes (Nat.le_of_ble_eq_true rfl) (eq_rtp_Bytes (sem T) t0) h

/-- palanquin/rtp.first. -/
def ir_rtp_first : Fn' := ⟨30, [.tmp 2],
  .ops [⟨(some 1), none, .box ty_rtp_Packet (.s 0)⟩,
    ⟨(some 2), none, .mv (.c V.nils)⟩]
  (.draw [⟨(some 5), none, .faddr 5 (.s 1)⟩,
    ⟨(some 6), none, .load none (.s 5)⟩,
    ⟨(some 7), none, .len (.s 6)⟩,
    ⟨(some 8), none, .bin .or (.c (V.int .i64 128)) (.s 7)⟩,
    ⟨(some 9), none, .cint .u8 (.s 8)⟩,
    ⟨(some 10), none, .faddr 1 (.s 1)⟩,
    ⟨(some 11), none, .load none (.s 10)⟩,
    ⟨(some 12), none, .cint .u8 (.s 11)⟩,
    ⟨(some 3), none, .mv (.s 9)⟩,
    ⟨(some 4), none, .mv (.s 12)⟩] []
  (.ops [⟨(some 13), none, .faddr 8 (.s 1)⟩,
    ⟨(some 14), none, .load none (.s 13)⟩,
    ⟨(some 15), none, .bin .gtr (.s 14) (.c (V.int .i64 0))⟩]
  (.condJ (.s 15)
  (.ops [⟨(some 16), none, .mv (.s 3)⟩,
     ⟨(some 17), none, .bin .or (.s 16) (.c (V.int .u8 32))⟩,
     ⟨(some 3), none, .mv (.s 17)⟩]
   (.done))
  (.done) [3] [16, 17, 3]
  (.ops [⟨(some 18), none, .faddr 6 (.s 1)⟩,
    ⟨(some 19), none, .load none (.s 18)⟩,
    ⟨(some 20), none, .bin .neq (.s 19) (.c (V.int .i64 0))⟩]
  (.condJ (.s 20)
  (.ops [⟨(some 21), none, .mv (.s 3)⟩,
     ⟨(some 22), none, .bin .or (.s 21) (.c (V.int .u8 16))⟩,
     ⟨(some 3), none, .mv (.s 22)⟩]
   (.done))
  (.done) [3] [21, 22, 3]
  (.ops [⟨(some 23), none, .faddr 0 (.s 1)⟩,
    ⟨(some 24), none, .load none (.s 23)⟩]
  (.condJ (.s 24)
  (.ops [⟨(some 25), none, .mv (.s 4)⟩,
     ⟨(some 26), none, .bin .or (.s 25) (.c (V.int .u8 128))⟩,
     ⟨(some 4), none, .mv (.s 26)⟩]
   (.done))
  (.done) [4] [25, 26, 4]
  (.ops [⟨(some 27), none, .mv (.s 3)⟩,
    ⟨(some 28), none, .mv (.s 4)⟩,
    ⟨(some 29), none, .slit ty_uint8 2 [(V.int .u8 0)] [(0, 1, (.s 27)), (1, 1, (.s 28))]⟩,
    ⟨(some 2), none, .mv (.s 29)⟩]
  (.ret)))))))))⟩

noncomputable def f_rtp_first (G : Sem') (t0 : V) : M Res :=
  (mbox ty_rtp_Packet t0).bind fun t1 =>
  (M.lift (Ax.faddr 5 t1)).bind fun t5 =>
  (mload none t5).bind fun t6 =>
  (M.lift (vlen t6)).bind fun t7 =>
  (M.lift (Ax.bin .or (V.int .i64 128) t7)).bind fun t8 =>
  (M.lift (Ax.cint .u8 t8)).bind fun t9 =>
  (M.lift (Ax.faddr 1 t1)).bind fun t10 =>
  (mload none t10).bind fun t11 =>
  (M.lift (Ax.cint .u8 t11)).bind fun t12 =>
  (M.lift (Ax.faddr 8 t1)).bind fun t13 =>
  (mload none t13).bind fun t14 =>
  (M.lift (Ax.bin .gtr t14 (V.int .i64 0))).bind fun t15 =>
  M.join (M.ite t15
    ((M.lift (Ax.bin .or t9 (V.int .u8 32))).bind fun t17 =>
    M.pure (.nrm [t17]))
    (M.pure (.nrm [t9]))) fun L0 =>
  (M.lift (Ax.faddr 6 t1)).bind fun t18 =>
  (mload none t18).bind fun t19 =>
  (M.lift (Ax.bin .neq t19 (V.int .i64 0))).bind fun t20 =>
  M.join (M.ite t20
    ((M.lift (Ax.bin .or (L0.getD 0 .undef) (V.int .u8 16))).bind fun t22 =>
    M.pure (.nrm [t22]))
    (M.pure (.nrm [(L0.getD 0 .undef)]))) fun L1 =>
  (M.lift (Ax.faddr 0 t1)).bind fun t23 =>
  (mload none t23).bind fun t24 =>
  M.join (M.ite t24
    ((M.lift (Ax.bin .or t12 (V.int .u8 128))).bind fun t26 =>
    M.pure (.nrm [t26]))
    (M.pure (.nrm [t12]))) fun L2 =>
  (mslit ty_uint8 2 [(V.int .u8 0)] [(0, 1, (L1.getD 0 .undef)), (1, 1, (L2.getD 0 .undef))]).bind fun t29 =>
  M.pure (.ret [t29])

theorem eq_rtp_first (G : Sem') (t0 : V) : execK G ir_rtp_first.rv ir_rtp_first.body [] [] (params 0 [t0]) = f_rtp_first G t0 := by kernel_rfl

theorem tb_rtp_first : T fn_rtp_first = some ir_rtp_first := by kernel_rfl

theorem ok_rtp_first {t0 : V} {H : Heap} {Q : V → Heap → Prop} (h : Ok (f_rtp_first (sem T) t0) H fun r H' => ∃ L, r = .ret L ∧ Q (tupled L) H') : Ok (sem T fn_rtp_first [t0]) H Q :=
  ok_sem tb_rtp_first (Nat.le_of_ble_eq_true rfl) (eq_rtp_first (sem T) t0) h

/-- palanquin/rtp.put. -/
def loop_rtp_put_0 : C :=
  .ops [⟨(some 10), none, .mv (.s 7)⟩,
    ⟨(some 11), none, .bin .geq (.s 10) (.c (V.int .i64 0))⟩]
  (.cond (.s 11)
  (.blk 1
   (.ops [⟨(some 14), none, .mv (.s 0)⟩,
      ⟨(some 15), none, .mv (.s 1)⟩,
      ⟨(some 16), none, .mv (.s 7)⟩,
      ⟨(some 17), none, .bin .mul (.c (V.int .i64 8)) (.s 16)⟩,
      ⟨(some 18), none, .bin .shr (.s 15) (.s 17)⟩,
      ⟨(some 19), none, .cint .u8 (.s 18)⟩,
      ⟨(some 20), none, .slit ty_uint8 1 [(V.int .u8 0)] [(0, 1, (.s 19))]⟩,
      ⟨(some 21), none, .append ty_uint8 1 1 (.s 14) (.s 20)⟩,
      ⟨(some 0), none, .mv (.s 21)⟩]
    (.done)) [0] [14, 15, 16, 17, 18, 19, 20, 21, 0]
   (.ops [⟨(some 12), none, .mv (.s 7)⟩,
     ⟨(some 13), none, .bin .sub (.s 12) (.c (V.int .i64 1))⟩,
     ⟨(some 7), none, .mv (.s 13)⟩]
   (.done)))
  (.exit 0))

def ir_rtp_put : Fn' := ⟨23, [.tmp 6],
  .ops [⟨(some 6), none, .mv (.c V.nils)⟩]
  (.ops [⟨(some 8), none, .mv (.s 2)⟩,
    ⟨(some 9), none, .bin .sub (.s 8) (.c (V.int .i64 1))⟩,
    ⟨(some 7), none, .mv (.s 9)⟩]
  (.blk 0
  (.loop loop_rtp_put_0 [0, 7] [10, 11, 14, 15, 16, 17, 18, 19, 20, 21, 0, 12, 13, 7]) [0] [10, 11, 14, 15, 16, 17, 18, 19, 20, 21, 0, 12, 13, 7]
  (.ops [⟨(some 22), none, .mv (.s 0)⟩,
    ⟨(some 6), none, .mv (.s 22)⟩]
  (.ret))))⟩

noncomputable def f_rtp_put_0 (G : Sem') (t1 t6 : V) (L : List V) : M Res :=
  (M.lift (Ax.bin .geq (L.getD 1 .undef) (V.int .i64 0))).bind fun t11 =>
  M.ite t11
    (M.blk 1 (
      (M.lift (Ax.bin .mul (V.int .i64 8) (L.getD 1 .undef))).bind fun t17 =>
      (M.lift (Ax.bin .shr t1 t17)).bind fun t18 =>
      (M.lift (Ax.cint .u8 t18)).bind fun t19 =>
      (mslit ty_uint8 1 [(V.int .u8 0)] [(0, 1, t19)]).bind fun t20 =>
      (mappend ty_uint8 1 1 (L.getD 0 .undef) t20).bind fun t21 =>
      M.pure (.nrm [t21])) fun L0 =>
    (M.lift (Ax.bin .sub (L.getD 1 .undef) (V.int .i64 1))).bind fun t13 =>
    M.pure (.nrm [(L0.getD 0 .undef), t13]))
    (M.pure (.ex 0 [(L.getD 0 .undef)]))

noncomputable def f_rtp_put (G : Sem') (t0 t1 t2 : V) : M Res :=
  (M.lift (Ax.bin .sub t2 (V.int .i64 1))).bind fun t9 =>
  M.blk 0 (
    M.iter (f_rtp_put_0 G t1 V.nils) [t0, t9]) fun L1 =>
  M.pure (.ret [(L1.getD 0 .undef)])

theorem eq_rtp_put (G : Sem') (t0 t1 t2 : V) : execK G ir_rtp_put.rv ir_rtp_put.body [] [] (params 0 [t0, t1, t2]) = f_rtp_put G t0 t1 t2 := by kernel_rfl

theorem tb_rtp_put : T fn_rtp_put = some ir_rtp_put := by kernel_rfl

theorem ok_rtp_put {t0 t1 t2 : V} {H : Heap} {Q : V → Heap → Prop} (h : Ok (f_rtp_put (sem T) t0 t1 t2) H fun r H' => ∃ L, r = .ret L ∧ Q (tupled L) H') : Ok (sem T fn_rtp_put [t0, t1, t2]) H Q :=
  ok_sem tb_rtp_put (Nat.le_of_ble_eq_true rfl) (eq_rtp_put (sem T) t0 t1 t2) h

/-- palanquin/rtp.elements. -/
def loop_rtp_elements_0 : C :=
  .ops [⟨(some 10), none, .bin .lss (.s 9) (.s 8)⟩]
  (.cond (.s 10)
  (.blk 1
   (.ops [⟨(some 11), none, .iaddr none 2 (.s 7) (.s 9)⟩,
      ⟨(some 12), none, .load (some 2) (.s 11)⟩,
      ⟨(some 5), none, .box ty_rtp_Ext (.c (V.agg [(V.int .i64 0), V.nils]))⟩,
      ⟨none, none, .store 2 (.s 5) (.s 12)⟩]
    (.ops [⟨(some 13), none, .faddr 6 (.s 1)⟩,
      ⟨(some 14), none, .load none (.s 13)⟩,
      ⟨(some 15), none, .bin .eql (.s 14) (.c (V.int .i64 48862))⟩]
    (.condJ (.s 15)
    (.ops [⟨(some 16), none, .mv (.s 3)⟩,
       ⟨(some 17), none, .faddr 0 (.s 5)⟩,
       ⟨(some 18), none, .load none (.s 17)⟩,
       ⟨(some 19), none, .bin .shl (.s 18) (.c (V.int .u64 4))⟩,
       ⟨(some 20), none, .faddr 1 (.s 5)⟩,
       ⟨(some 21), none, .load none (.s 20)⟩,
       ⟨(some 22), none, .len (.s 21)⟩,
       ⟨(some 23), none, .bin .sub (.s 22) (.c (V.int .i64 1))⟩,
       ⟨(some 24), none, .bin .or (.s 19) (.s 23)⟩,
       ⟨(some 25), none, .cint .u8 (.s 24)⟩,
       ⟨(some 26), none, .slit ty_uint8 1 [(V.int .u8 0)] [(0, 1, (.s 25))]⟩,
       ⟨(some 27), none, .append ty_uint8 1 1 (.s 16) (.s 26)⟩,
       ⟨(some 3), none, .mv (.s 27)⟩]
     (.done))
    (.ops [⟨(some 28), none, .mv (.s 3)⟩,
       ⟨(some 29), none, .faddr 0 (.s 5)⟩,
       ⟨(some 30), none, .load none (.s 29)⟩,
       ⟨(some 31), none, .cint .u8 (.s 30)⟩,
       ⟨(some 32), none, .faddr 1 (.s 5)⟩,
       ⟨(some 33), none, .load none (.s 32)⟩,
       ⟨(some 34), none, .len (.s 33)⟩,
       ⟨(some 35), none, .cint .u8 (.s 34)⟩,
       ⟨(some 36), none, .slit ty_uint8 2 [(V.int .u8 0)] [(0, 1, (.s 31)), (1, 1, (.s 35))]⟩,
       ⟨(some 37), none, .append ty_uint8 1 1 (.s 28) (.s 36)⟩,
       ⟨(some 3), none, .mv (.s 37)⟩]
     (.done)) [3] [16, 17, 18, 19, 20, 21, 22, 23, 24, 25, 26, 27, 3, 28, 29, 30, 31, 32, 33, 34, 35, 36, 37, 3]
    (.ops [⟨(some 38), none, .mv (.s 3)⟩,
      ⟨(some 39), none, .faddr 1 (.s 5)⟩,
      ⟨(some 40), none, .load none (.s 39)⟩,
      ⟨(some 41), none, .append ty_uint8 1 1 (.s 38) (.s 40)⟩,
      ⟨(some 3), none, .mv (.s 41)⟩]
    (.done))))) [3] [11, 12, 5, 13, 14, 15, 16, 17, 18, 19, 20, 21, 22, 23, 24, 25, 26, 27, 3, 28, 29, 30, 31, 32, 33, 34, 35, 36, 37, 3, 38, 39, 40, 41, 3]
   (.ops [⟨(some 42), none, .bin .add (.s 9) (.c (V.int .i64 1))⟩,
     ⟨(some 9), none, .mv (.s 42)⟩]
   (.done)))
  (.exit 0))

def loop_rtp_elements_1 : C :=
  .ops [⟨(some 43), none, .mv (.s 3)⟩,
    ⟨(some 44), none, .len (.s 43)⟩,
    ⟨(some 45), none, .bin .rem (.s 44) (.c (V.int .i64 4))⟩,
    ⟨(some 46), none, .bin .neq (.s 45) (.c (V.int .i64 0))⟩]
  (.cond (.s 46)
  (.blk 3
   (.ops [⟨(some 47), none, .mv (.s 3)⟩,
      ⟨(some 48), none, .slit ty_uint8 1 [(V.int .u8 0)] [(0, 1, (.c (V.int .u8 0)))]⟩,
      ⟨(some 49), none, .append ty_uint8 1 1 (.s 47) (.s 48)⟩,
      ⟨(some 3), none, .mv (.s 49)⟩]
    (.done)) [3] [47, 48, 49, 3]
   (.done))
  (.exit 2))

def ir_rtp_elements : Fn' := ⟨51, [.tmp 2],
  .ops [⟨(some 1), none, .box ty_rtp_Packet (.s 0)⟩,
    ⟨(some 2), none, .mv (.c V.nils)⟩]
  (.ops [⟨(some 3), none, .mv (.c V.nils)⟩]
  (.ops [⟨(some 6), none, .faddr 7 (.s 1)⟩,
    ⟨(some 7), none, .load none (.s 6)⟩,
    ⟨(some 8), none, .len (.s 7)⟩,
    ⟨(some 9), none, .mv (.c (V.int .i64 0))⟩]
  (.blk 0
  (.loop loop_rtp_elements_0 [3, 9] [10, 11, 12, 5, 13, 14, 15, 16, 17, 18, 19, 20, 21, 22, 23, 24, 25, 26, 27, 3, 28, 29, 30, 31, 32, 33, 34, 35, 36, 37, 3, 38, 39, 40, 41, 3, 42, 9]) [3] [10, 11, 12, 5, 13, 14, 15, 16, 17, 18, 19, 20, 21, 22, 23, 24, 25, 26, 27, 3, 28, 29, 30, 31, 32, 33, 34, 35, 36, 37, 3, 38, 39, 40, 41, 3, 42, 9]
  (.blk 2
  (.loop loop_rtp_elements_1 [3] [43, 44, 45, 46, 47, 48, 49, 3]) [3] [43, 44, 45, 46, 47, 48, 49, 3]
  (.ops [⟨(some 50), none, .mv (.s 3)⟩,
    ⟨(some 2), none, .mv (.s 50)⟩]
  (.ret))))))⟩

noncomputable def f_rtp_elements_0 (G : Sem') (t8 t7 t1 t2 : V) (L : List V) : M Res :=
  (M.lift (Ax.bin .lss (L.getD 1 .undef) t8)).bind fun t10 =>
  M.ite t10
    (M.blk 1 (
      (M.lift (Ax.iaddr none 2 t7 (L.getD 1 .undef))).bind fun t11 =>
      (mload (some 2) t11).bind fun t12 =>
      (mbox ty_rtp_Ext (V.agg [(V.int .i64 0), V.nils])).bind fun t5 =>
      (mstore 2 t5 t12).bind fun _ =>
      (M.lift (Ax.faddr 6 t1)).bind fun t13 =>
      (mload none t13).bind fun t14 =>
      (M.lift (Ax.bin .eql t14 (V.int .i64 48862))).bind fun t15 =>
      M.join (M.ite t15
        ((M.lift (Ax.faddr 0 t5)).bind fun t17 =>
        (mload none t17).bind fun t18 =>
        (M.lift (Ax.bin .shl t18 (V.int .u64 4))).bind fun t19 =>
        (M.lift (Ax.faddr 1 t5)).bind fun t20 =>
        (mload none t20).bind fun t21 =>
        (M.lift (vlen t21)).bind fun t22 =>
        (M.lift (Ax.bin .sub t22 (V.int .i64 1))).bind fun t23 =>
        (M.lift (Ax.bin .or t19 t23)).bind fun t24 =>
        (M.lift (Ax.cint .u8 t24)).bind fun t25 =>
        (mslit ty_uint8 1 [(V.int .u8 0)] [(0, 1, t25)]).bind fun t26 =>
        (mappend ty_uint8 1 1 (L.getD 0 .undef) t26).bind fun t27 =>
        M.pure (.nrm [t27]))
        ((M.lift (Ax.faddr 0 t5)).bind fun t29 =>
        (mload none t29).bind fun t30 =>
        (M.lift (Ax.cint .u8 t30)).bind fun t31 =>
        (M.lift (Ax.faddr 1 t5)).bind fun t32 =>
        (mload none t32).bind fun t33 =>
        (M.lift (vlen t33)).bind fun t34 =>
        (M.lift (Ax.cint .u8 t34)).bind fun t35 =>
        (mslit ty_uint8 2 [(V.int .u8 0)] [(0, 1, t31), (1, 1, t35)]).bind fun t36 =>
        (mappend ty_uint8 1 1 (L.getD 0 .undef) t36).bind fun t37 =>
        M.pure (.nrm [t37]))) fun L0 =>
      (M.lift (Ax.faddr 1 t5)).bind fun t39 =>
      (mload none t39).bind fun t40 =>
      (mappend ty_uint8 1 1 (L0.getD 0 .undef) t40).bind fun t41 =>
      M.pure (.nrm [t41])) fun L1 =>
    (M.lift (Ax.bin .add (L.getD 1 .undef) (V.int .i64 1))).bind fun t42 =>
    M.pure (.nrm [(L1.getD 0 .undef), t42]))
    (M.pure (.ex 0 [(L.getD 0 .undef)]))

noncomputable def f_rtp_elements_1 (G : Sem') (t2 : V) (L : List V) : M Res :=
  (M.lift (vlen (L.getD 0 .undef))).bind fun t44 =>
  (M.lift (Ax.bin .rem t44 (V.int .i64 4))).bind fun t45 =>
  (M.lift (Ax.bin .neq t45 (V.int .i64 0))).bind fun t46 =>
  M.ite t46
    (M.blk 3 (
      (mslit ty_uint8 1 [(V.int .u8 0)] [(0, 1, (V.int .u8 0))]).bind fun t48 =>
      (mappend ty_uint8 1 1 (L.getD 0 .undef) t48).bind fun t49 =>
      M.pure (.nrm [t49])) fun L3 =>
    M.pure (.nrm [(L3.getD 0 .undef)]))
    (M.pure (.ex 2 [(L.getD 0 .undef)]))

noncomputable def f_rtp_elements (G : Sem') (t0 : V) : M Res :=
  (mbox ty_rtp_Packet t0).bind fun t1 =>
  (M.lift (Ax.faddr 7 t1)).bind fun t6 =>
  (mload none t6).bind fun t7 =>
  (M.lift (vlen t7)).bind fun t8 =>
  M.blk 0 (
    M.iter (f_rtp_elements_0 G t8 t7 t1 V.nils) [V.nils, (V.int .i64 0)]) fun L2 =>
  M.blk 2 (
    M.iter (f_rtp_elements_1 G V.nils) [(L2.getD 0 .undef)]) fun L4 =>
  M.pure (.ret [(L4.getD 0 .undef)])

theorem eq_rtp_elements (G : Sem') (t0 : V) : execK G ir_rtp_elements.rv ir_rtp_elements.body [] [] (params 0 [t0]) = f_rtp_elements G t0 := by kernel_rfl

theorem tb_rtp_elements : T fn_rtp_elements = some ir_rtp_elements := by kernel_rfl

theorem ok_rtp_elements {t0 : V} {H : Heap} {Q : V → Heap → Prop} (h : Ok (f_rtp_elements (sem T) t0) H fun r H' => ∃ L, r = .ret L ∧ Q (tupled L) H') : Ok (sem T fn_rtp_elements [t0]) H Q :=
  ok_sem tb_rtp_elements (Nat.le_of_ble_eq_true rfl) (eq_rtp_elements (sem T) t0) h

/-- palanquin/rtp.Find. -/
def ir_rtp_Find : Fn' := ⟨19, [.tmp 4, .tmp 5],
  .ops [⟨(some 2), none, .box ty_rtp_Packet (.s 0)⟩,
    ⟨(some 4), none, .mv (.c V.nils)⟩,
    ⟨(some 5), none, .mv (.c (V.bool false))⟩]
  (.ops [⟨(some 7), none, .load (some 10) (.s 2)⟩,
    ⟨(some 8), none, .mv (.s 1)⟩,
    ⟨(some 9), none, .call fn_rtp_at [(.s 7), (.s 8)]⟩,
    ⟨(some 6), none, .mv (.s 9)⟩]
  (.ops [⟨(some 10), none, .mv (.s 6)⟩,
    ⟨(some 11), none, .bin .lss (.s 10) (.c (V.int .i64 0))⟩]
  (.cond (.s 11)
  (.ops [⟨(some 4), none, .mv (.c V.nils)⟩,
     ⟨(some 5), none, .mv (.c (V.bool false))⟩]
   (.ret))
  (.ops [⟨(some 12), none, .faddr 7 (.s 2)⟩,
     ⟨(some 13), none, .load none (.s 12)⟩,
     ⟨(some 14), none, .mv (.s 6)⟩,
     ⟨(some 15), none, .iaddr none 2 (.s 13) (.s 14)⟩,
     ⟨(some 16), none, .faddr 1 (.s 15)⟩,
     ⟨(some 17), none, .load none (.s 16)⟩,
     ⟨(some 18), none, .call fn_bytes_Clone [(.s 17)]⟩,
     ⟨(some 4), none, .mv (.s 18)⟩,
     ⟨(some 5), none, .mv (.c (V.bool true))⟩]
   (.ret)))))⟩

noncomputable def f_rtp_Find (G : Sem') (t0 t1 : V) : M Res :=
  (mbox ty_rtp_Packet t0).bind fun t2 =>
  (mload (some 10) t2).bind fun t7 =>
  (G fn_rtp_at [t7, t1]).bind fun t9 =>
  (M.lift (Ax.bin .lss t9 (V.int .i64 0))).bind fun t11 =>
  M.ite t11
    (M.pure (.ret [V.nils, (V.bool false)]))
    ((M.lift (Ax.faddr 7 t2)).bind fun t12 =>
    (mload none t12).bind fun t13 =>
    (M.lift (Ax.iaddr none 2 t13 t9)).bind fun t15 =>
    (M.lift (Ax.faddr 1 t15)).bind fun t16 =>
    (mload none t16).bind fun t17 =>
    (G fn_bytes_Clone [t17]).bind fun t18 =>
    M.pure (.ret [t18, (V.bool true)]))

theorem eq_rtp_Find (G : Sem') (t0 t1 : V) : execK G ir_rtp_Find.rv ir_rtp_Find.body [] [] (params 0 [t0, t1]) = f_rtp_Find G t0 t1 := by kernel_rfl

theorem tb_rtp_Find : T fn_rtp_Find = some ir_rtp_Find := by kernel_rfl

theorem ok_rtp_Find {t0 t1 : V} {H : Heap} {Q : V → Heap → Prop} (h : Ok (f_rtp_Find (sem T) t0 t1) H fun r H' => ∃ L, r = .ret L ∧ Q (tupled L) H') : Ok (sem T fn_rtp_Find [t0, t1]) H Q :=
  ok_sem tb_rtp_Find (Nat.le_of_ble_eq_true rfl) (eq_rtp_Find (sem T) t0 t1) h

/-- palanquin/rtp.at. -/
def ir_rtp_at : Fn' := ⟨9, [.tmp 4],
  .ops [⟨(some 2), none, .box ty_rtp_Packet (.s 0)⟩,
    ⟨(some 3), none, .box ty_int (.s 1)⟩,
    ⟨(some 4), none, .mv (.c (V.int .i64 0))⟩]
  (.ops [⟨(some 5), none, .faddr 7 (.s 2)⟩,
    ⟨(some 6), none, .load none (.s 5)⟩,
    ⟨(some 7), none, .mkfn fn_rtp_at_1 [(.s 3)]⟩,
    ⟨(some 8), none, .call fn_slices_IndexFunc_rtp_Ext_rtp_Ext [(.s 6), (.s 7)]⟩,
    ⟨(some 4), none, .mv (.s 8)⟩]
  (.ret))⟩

noncomputable def f_rtp_at (G : Sem') (t0 t1 : V) : M Res :=
  (mbox ty_rtp_Packet t0).bind fun t2 =>
  (mbox ty_int t1).bind fun t3 =>
  (M.lift (Ax.faddr 7 t2)).bind fun t5 =>
  (mload none t5).bind fun t6 =>
  (M.pure (.fn fn_rtp_at_1 [t3])).bind fun t7 =>
  (G fn_slices_IndexFunc_rtp_Ext_rtp_Ext [t6, t7]).bind fun t8 =>
  M.pure (.ret [t8])

theorem eq_rtp_at (G : Sem') (t0 t1 : V) : execK G ir_rtp_at.rv ir_rtp_at.body [] [] (params 0 [t0, t1]) = f_rtp_at G t0 t1 := by kernel_rfl

theorem tb_rtp_at : T fn_rtp_at = some ir_rtp_at := by kernel_rfl

theorem ok_rtp_at {t0 t1 : V} {H : Heap} {Q : V → Heap → Prop} (h : Ok (f_rtp_at (sem T) t0 t1) H fun r H' => ∃ L, r = .ret L ∧ Q (tupled L) H') : Ok (sem T fn_rtp_at [t0, t1]) H Q :=
  ok_sem tb_rtp_at (Nat.le_of_ble_eq_true rfl) (eq_rtp_at (sem T) t0 t1) h

/-- palanquin/rtp.at$1. -/
def ir_rtp_at_1 : Fn' := ⟨8, [.tmp 3],
  .ops [⟨(some 2), none, .box ty_rtp_Ext (.s 0)⟩,
    ⟨(some 3), none, .mv (.c (V.bool false))⟩]
  (.ops [⟨(some 4), none, .faddr 0 (.s 2)⟩,
    ⟨(some 5), none, .load none (.s 4)⟩,
    ⟨(some 6), none, .load none (.s 1)⟩,
    ⟨(some 7), none, .bin .eql (.s 5) (.s 6)⟩,
    ⟨(some 3), none, .mv (.s 7)⟩]
  (.ret))⟩

noncomputable def f_rtp_at_1 (G : Sem') (t0 t1 : V) : M Res :=
  (mbox ty_rtp_Ext t0).bind fun t2 =>
  (M.lift (Ax.faddr 0 t2)).bind fun t4 =>
  (mload none t4).bind fun t5 =>
  (mload none t1).bind fun t6 =>
  (M.lift (Ax.bin .eql t5 t6)).bind fun t7 =>
  M.pure (.ret [t7])

theorem eq_rtp_at_1 (G : Sem') (t0 t1 : V) : execK G ir_rtp_at_1.rv ir_rtp_at_1.body [] [] (params 0 [t0, t1]) = f_rtp_at_1 G t0 t1 := by kernel_rfl

theorem tb_rtp_at_1 : T fn_rtp_at_1 = some ir_rtp_at_1 := by kernel_rfl

theorem ok_rtp_at_1 {t0 t1 : V} {H : Heap} {Q : V → Heap → Prop} (h : Ok (f_rtp_at_1 (sem T) t0 t1) H fun r H' => ∃ L, r = .ret L ∧ Q (tupled L) H') : Ok (sem T fn_rtp_at_1 [t0, t1]) H Q :=
  ok_sem tb_rtp_at_1 (Nat.le_of_ble_eq_true rfl) (eq_rtp_at_1 (sem T) t0 t1) h

end Go.Ax
