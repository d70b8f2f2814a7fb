/-
  The functions of this seat as plain texts: printed by program (wip/gen/Emit.lean): part 0: numbers, hints, the table.
-/
import Derived.Test.YtecklladobbpbaaAx20
import Derived.Test.YtecklladobbpbaaProg
import Derived.KernelRfl
namespace Go.Ax
open Go.Proofs

def ty_ : TypeId := 0
def ty_func : TypeId := 1
def ty_int64 : TypeId := 2
def ty_int : TypeId := 3
def ty_bool : TypeId := 4
def ty_uint8 : TypeId := 5
def ty_abi_BoundsErrorCode : TypeId := 6
def ty_struct_x_int64_y_int_signed_bool_code_abi_BoundsErrorCode : TypeId := 7
def ty_runtime_boundsError : TypeId := 8
def ty_string : TypeId := 9
def ty_runtime_errorString : TypeId := 10
def ty_runtime_plainError : TypeId := 11
def ty_uintptr : TypeId := 12
def ty_struct_msg_string_addr_uintptr : TypeId := 13
def ty_runtime_errorAddressString : TypeId := 14
def ty_p_runtime_TypeAssertionError : TypeId := 15
def ty_p_runtime_PanicNilError : TypeId := 16
def ty_p_abi_Type : TypeId := 17
def ty_struct_typ_p_abi_Type : TypeId := 18
def ty_maps_unhashableTypeError : TypeId := 19
def ty_interface : TypeId := 20
def ty_int32 : TypeId := 21
def ty_func_bool : TypeId := 22
def ty_int_bool : TypeId := 23
def ty_func_depend_Structure_uint32_int_int_int_bool : TypeId := 24
def ty_sl_depend_Template : TypeId := 25
def ty_sl_int : TypeId := 26
def ty_sl_2_int : TypeId := 27
def ty_struct_Offset_int_Targets_int_Templates_sl_depend_Template_Chains_int_Protected_sl_int_Sizes_sl_2_int : TypeId := 28
def ty_depend_Structure : TypeId := 29
def ty_func_depend_Structure : TypeId := 30
def ty_uint32 : TypeId := 31
def ty_func_uint64_sl_int_int : TypeId := 32
def ty_uint64 : TypeId := 33
def ty_func_depend_Frame_int_bool : TypeId := 34
def ty_uint16 : TypeId := 35
def ty_struct_Start_bool_End_bool_ID_int_Number_uint16_New_bool_Structure_depend_Structure_HasActive_bool_Active_uint32_OwnDTI_bool_OwnDiffs_bool_OwnChains_bool_DTI_sl_int_Diffs_sl_int_Chains_sl_int : TypeId := 36
def ty_depend_Frame : TypeId := 37
def ty_func_depend_Structure_bool : TypeId := 38
def ty_func_palanquinref9_Structure_uint32_int_int_int_bool : TypeId := 39
def ty_sl_palanquinref9_Template : TypeId := 40
def ty_struct_Offset_int_Targets_int_Templates_sl_palanquinref9_Template_Chains_int_Protected_sl_int_Sizes_sl_2_int : TypeId := 41
def ty_palanquinref9_Structure : TypeId := 42
def ty_func_depend_Structure_palanquinref9_Structure : TypeId := 43
def ty_func_palanquinref9_Frame_int_bool : TypeId := 44
def ty_struct_Start_bool_End_bool_ID_int_Number_uint16_New_bool_Structure_palanquinref9_Structure_HasActive_bool_Active_uint32_OwnDTI_bool_OwnDiffs_bool_OwnChains_bool_DTI_sl_int_Diffs_sl_int_Chains_sl_int : TypeId := 45
def ty_palanquinref9_Frame : TypeId := 46
def ty_func_depend_Structure_uint32_int_int_depend_Frame_int_uint64_sl_int_bool : TypeId := 47
def ty_int_int_bool : TypeId := 48
def ty_func_depend_Structure_int_int_int_bool : TypeId := 49
def ty_uint : TypeId := 50
def ty_func_depend_Structure_uint32_uint8_uint8_uint8_bool : TypeId := 51
def ty_sl_uint16 : TypeId := 52
def ty_func_uint64_uint64_sl_uint16_bool : TypeId := 53
def ty_sl_palanquinlaw25_Come : TypeId := 54
def ty_p_lane_Lane : TypeId := 55
def ty_func_uint32_p_lane_Lane : TypeId := 56
def ty_sl_uint32 : TypeId := 57
def ty_sl_rtp_Ext : TypeId := 58
def ty_sl_uint8 : TypeId := 59
def ty_struct_Mark_bool_Type_int_Seq_uint16_TS_uint32_SSRC_uint32_CSRC_sl_uint32_Profile_int_Exts_sl_rtp_Ext_Pad_int_Payload_sl_uint8 : TypeId := 60
def ty_rtp_Packet : TypeId := 61
def ty_rtp_Packet_depend_Frame : TypeId := 62
def ty_func_depend_Frame_uint16_sl_uint8_rtp_Packet_depend_Frame : TypeId := 63
def ty_struct_B_sl_uint8_Why_int_Ask_bool : TypeId := 64
def ty_lane_Out : TypeId := 65
def ty_api_Errno : TypeId := 66
def ty_lane_Out_api_Errno : TypeId := 67
def ty_func_int_rtp_Packet_depend_Frame_depend_Structure_uint32_int64_lane_Out_api_Errno : TypeId := 68
def ty_func_palanquinlaw25_Come_bool : TypeId := 69
def ty_sl_rtcp_Pair : TypeId := 70
def ty_struct_Op_int_Source_int_N_int_M_int_Raw_bool_P_rtp_Packet_F_depend_Frame_Seq_uint16_B_sl_uint8_A_uint32_Ticks_uint16_Pairs_sl_rtcp_Pair : TypeId := 71
def ty_palanquinlaw25_Come : TypeId := 72
def ty_func_palanquinlaw25_Come_rtp_Packet_depend_Frame : TypeId := 73
def ty_func_sl_palanquinlaw25_Come_uint16_bool : TypeId := 74
def ty_func_int_api_Errno : TypeId := 75
def ty_func_sl_uint16_uint16_bool : TypeId := 76
def ty_func_sl_uint16_uint16_sl_int_bool : TypeId := 77
def ty_func_sl_palanquinlaw25_Come_bool : TypeId := 78
def ty_struct_Any_bool_Now_int_Want_int : TypeId := 79
def ty_cast_Cast : TypeId := 80
def ty_struct_Any_bool_Seq_uint16_TS_uint32_DTS_uint32_Frame_uint16_DFrame_uint16_At_int64 : TypeId := 81
def ty_turn_Turn : TypeId := 82
def ty_cast_Cast_api_Errno : TypeId := 83
def ty_func_cast_Cast_int_cast_Cast_api_Errno : TypeId := 84
def ty_cast_Cast_bool_bool : TypeId := 85
def ty_func_cast_Cast_int_bool_cast_Cast_bool_bool : TypeId := 86
def ty_func_turn_Turn_uint32_uint16_int64_turn_Turn : TypeId := 87
def ty_turn_Turn_uint16_uint32_uint16 : TypeId := 88
def ty_func_turn_Turn_uint32_uint16_int64_turn_Turn_uint16_uint32_uint16 : TypeId := 89
def ty_sl_palanquinref7_Ext : TypeId := 90
def ty_struct_Mark_bool_Type_int_Seq_uint16_TS_uint32_SSRC_uint32_CSRC_sl_uint32_Profile_int_Exts_sl_palanquinref7_Ext_Pad_int_Payload_sl_uint8 : TypeId := 91
def ty_palanquinref7_Packet : TypeId := 92
def ty_palanquinref7_Packet_api_Errno : TypeId := 93
def ty_func_sl_uint8_palanquinref7_Packet_api_Errno : TypeId := 94
def ty_sl_uint8_bool : TypeId := 95
def ty_func_palanquinref7_Packet_int_sl_uint8_bool : TypeId := 96
def ty_sl_sl_uint8 : TypeId := 97
def ty_func_rtcp_Pair_sl_sl_uint8 : TypeId := 98
def ty_struct_PID_uint16_BLP_uint16 : TypeId := 99
def ty_rtcp_Pair : TypeId := 100
def ty_func_sl_uint8_sl_uint8_bool : TypeId := 101
def ty_func_uint8_sl_uint8_sl_uint16_bool : TypeId := 102
def ty_struct_Spatial_int_Temporal_int_DTI_sl_int_Diffs_sl_int_Chains_sl_int : TypeId := 103
def ty_depend_Template : TypeId := 104
def ty_func_palanquinref9_Structure_int_int_int_bool : TypeId := 105
def ty_palanquinref9_Template : TypeId := 106
def ty_p_ring_Ring : TypeId := 107
def ty_func_p_ring_Ring : TypeId := 108
def ty_struct_ssrc_uint32_spatial_int_temporal_int_cast_cast_Cast_turn_turn_Turn_refs_sl_uint16_ring_p_ring_Ring_broken_bool : TypeId := 109
def ty_lane_Lane : TypeId := 110
def ty_func_uint32 : TypeId := 111
def ty_sl_uint8_api_Errno : TypeId := 112
def ty_func_palanquinref9_Frame_palanquinref9_Structure_sl_uint8_api_Errno : TypeId := 113
def ty_func_depend_Frame_palanquinref9_Frame : TypeId := 114
def ty_struct_ID_int_B_sl_uint8 : TypeId := 115
def ty_rtp_Ext : TypeId := 116
def ty_func_rtp_Packet_sl_uint8_api_Errno : TypeId := 117
def ty_func_rtp_Packet_int_sl_uint8_bool : TypeId := 118
def ty_func_depend_Frame_depend_Structure_bool : TypeId := 119
def ty_func_int_rtp_Packet_depend_Frame_int64_bool : TypeId := 120
def ty_func_depend_Frame_depend_Structure_uint32_int : TypeId := 121
def ty_func_sl_uint16_uint16_sl_uint16 : TypeId := 122
def ty_rtp_Packet_bool : TypeId := 123
def ty_func_rtp_Packet_int_sl_uint8_rtp_Packet_bool : TypeId := 124
def ty_func_sl_uint8_uint16_sl_uint8 : TypeId := 125
def ty_func_uint16_sl_uint8 : TypeId := 126
def ty_func_cast_Cast_bool : TypeId := 127
def ty_func_int_bool : TypeId := 128
def ty_func_int64_int64_uint32 : TypeId := 129
def ty_func_sl_uint8_int_int_uint64 : TypeId := 130
def ty_sl_palanquinref7_Ext_bool : TypeId := 131
def ty_func_sl_uint8_int_sl_palanquinref7_Ext_bool : TypeId := 132
def ty_palanquinref7_Ext : TypeId := 133
def ty_func_rtcp_Pair_sl_uint16 : TypeId := 134
def ty_func_uint16_sl_uint8_bool : TypeId := 135
def ty_func_sl_int_int_int_int_bool : TypeId := 136
def ty_func_depend_Structure_int : TypeId := 137
def ty_2_int : TypeId := 138
def ty_func_sl_depend_Template_func_depend_Template_bool_bool : TypeId := 139
def ty_func_depend_Template_bool : TypeId := 140
def ty_func_palanquinref9_Structure_bool : TypeId := 141
def ty_sl_ring_entry : TypeId := 142
def ty_struct_l_sl_ring_entry : TypeId := 143
def ty_ring_Ring : TypeId := 144
def ty_func_palanquinref9_Frame_palanquinref9_Structure_bool : TypeId := 145
def ty_p_palanquinref6_Writer : TypeId := 146
def ty_sl_bool : TypeId := 147
def ty_struct_L_sl_bool : TypeId := 148
def ty_palanquinref6_Writer : TypeId := 149
def ty_func_uint64_int_api_Errno : TypeId := 150
def ty_func_bool_uint64 : TypeId := 151
def ty_func_sl_uint8 : TypeId := 152
def ty_func_p_palanquinref6_Writer_palanquinref9_Structure : TypeId := 153
def ty_func_palanquinref9_Frame_palanquinref9_Structure_palanquinref9_Structure : TypeId := 154
def ty_func_rtp_Packet_bool : TypeId := 155
def ty_func_sl_uint8_uint32_int_sl_uint8 : TypeId := 156
def ty_func_rtp_Packet_sl_uint8 : TypeId := 157
def ty_func_rtp_Packet_int_int : TypeId := 158
def ty_func_sl_uint8_sl_uint8 : TypeId := 159
def ty_depend_Template_bool : TypeId := 160
def ty_func_depend_Frame_depend_Structure_depend_Template_bool : TypeId := 161
def ty_func_depend_Frame_depend_Structure_depend_Structure : TypeId := 162
def ty_func_sl_int_sl_int_bool : TypeId := 163
def ty_func_sl_int_int_int_bool : TypeId := 164
def ty_func_sl_uint16_sl_uint16 : TypeId := 165
def ty_func_sl_uint16 : TypeId := 166
def ty_func_rtp_Packet_rtp_Packet : TypeId := 167
def ty_func_uint16_int : TypeId := 168
def ty_func_sl_ring_entry_int_int_sl_ring_entry : TypeId := 169
def ty_struct_seq_uint16_b_sl_uint8 : TypeId := 170
def ty_ring_entry : TypeId := 171
def ty_func_sl_int_func_int_bool_bool : TypeId := 172
def ty_func_depend_Template_depend_Template_int_bool : TypeId := 173
def ty_func_sl_depend_Template_func_depend_Template_bool_int : TypeId := 174
def ty_func_palanquinref9_Template_palanquinref9_Template_int : TypeId := 175
def ty_func_palanquinref9_Structure_int : TypeId := 176
def ty_palanquinref9_Template_bool : TypeId := 177
def ty_func_palanquinref9_Frame_palanquinref9_Structure_palanquinref9_Template_bool : TypeId := 178
def ty_func_uint64_uint64_api_Errno : TypeId := 179
def ty_func_sl_rtp_Ext_func_rtp_Ext_bool_bool : TypeId := 180
def ty_func_int_rtp_Ext_bool : TypeId := 181
def ty_func_rtp_Ext_bool : TypeId := 182
def ty_func_sl_rtp_Ext_func_rtp_Ext_bool_int : TypeId := 183
def ty_func_depend_Structure_int_depend_Template_bool : TypeId := 184
def ty_func_sl_uint16_uint16_int : TypeId := 185
def ty_func_sl_uint32_sl_uint32 : TypeId := 186
def ty_func_sl_rtp_Ext_sl_rtp_Ext : TypeId := 187
def ty_func_sl_ring_entry_func_ring_entry_bool_int : TypeId := 188
def ty_func_ring_entry_bool : TypeId := 189
def ty_func_sl_int_func_int_bool_int : TypeId := 190
def ty_int_uint64 : TypeId := 191
def ty_func_uint64_int_uint64 : TypeId := 192
def ty_func_depend_Template_depend_Template : TypeId := 193
def ty_func_sl_int_sl_int : TypeId := 194
def ty_func_string : TypeId := 195
def ty_struct_interface_p_abi_Type_concrete_p_abi_Type_asserted_p_abi_Type_missingMethod_string : TypeId := 196
def ty_runtime_TypeAssertionError : TypeId := 197
def ty_0_p_runtime_PanicNilError : TypeId := 198
def ty_struct_0_p_runtime_PanicNilError : TypeId := 199
def ty_runtime_PanicNilError : TypeId := 200
def ty_func_int : TypeId := 201
def ty_abi_TFlag : TypeId := 202
def ty_abi_Kind : TypeId := 203
def ty_func_unsafe_Pointer_unsafe_Pointer_bool : TypeId := 204
def ty_p_uint8 : TypeId := 205
def ty_abi_NameOff : TypeId := 206
def ty_abi_TypeOff : TypeId := 207
def ty_struct_Size_uintptr_PtrBytes_uintptr_Hash_uint32_TFlag_abi_TFlag_Align_uint8_FieldAlign_uint8_Kind_abi_Kind_Equal_func_unsafe_Pointer_unsafe_Pointer_bool_GCData_p_uint8_Str_abi_NameOff_PtrToThis_abi_TypeOff : TypeId := 208
def ty_abi_Type : TypeId := 209
def ty_unsafe_Pointer : TypeId := 210

def fn_palanquinlaw20_PickSays : FuncId := 4
def fn_palanquinlaw20_awake : FuncId := 11
def fn_palanquinlaw20_three : FuncId := 13
def fn_pick_Fits : FuncId := 12
def fn_depend_Fine : FuncId := 40
def fn_depend_within : FuncId := 63
def fn_depend_within_1 : FuncId := 97
def fn_slices_ContainsFunc_int_int : FuncId := 96
def fn_slices_IndexFunc_int_int : FuncId := 118
def fn_depend_layers : FuncId := 64
def fn_depend_next : FuncId := 98
def fn_depend_spatial : FuncId := 65
def fn_depend_Fine_1 : FuncId := 67
def fn_depend_Structure_fine : FuncId := 68
def fn_depend_diffs : FuncId := 86
def fn_slices_ContainsFunc_depend_Template_depend_Template : FuncId := 66
def fn_slices_IndexFunc_depend_Template_depend_Template : FuncId := 99
def fn_depend_Layers : FuncId := 21
def fn_pick_Source : FuncId := 14
def fn_pick_In : FuncId := 15
def fn_palanquinlaw20_heavy : FuncId := 16
def fn_palanquinhelp_Structure : FuncId := 18
def fn_palanquinref20_Fits : FuncId := 17
def fn_palanquinref9_Layers : FuncId := 41
def fn_palanquinref9_Fine : FuncId := 69
def fn_palanquinref9_step : FuncId := 100
def fn_palanquinref9_within : FuncId := 101
def fn_palanquinref9_top : FuncId := 102
def fn_palanquinref20_In : FuncId := 19
def fn_palanquinref20_Source : FuncId := 20
def fn_palanquinlaw20_PickBest : FuncId := 5
def fn_palanquinlaw20_PickSource : FuncId := 6

def hintRows : List (Nat × List (List Nat)) := [
  (fn_palanquinlaw20_PickSays, [[0, 1, 2, 3, 4, 5, 6, 7, 8, 9, 10, 12, 13, 14, 15, 11, 16, 17, 18, 19, 20, 21, 22, 23, 24, 25, 26, 27, 28]]),
  (fn_palanquinlaw20_awake, []),
  (fn_palanquinlaw20_three, []),
  (fn_pick_Fits, [[10, 13], [10, 11, 12, 13, 23], [10, 11, 12, 13], [10, 11, 12, 13]]),
  (fn_depend_Fine, [[], [71], [], [3]]),
  (fn_depend_within, []),
  (fn_depend_within_1, []),
  (fn_slices_ContainsFunc_int_int, []),
  (fn_slices_IndexFunc_int_int, [[], [8], []]),
  (fn_depend_layers, [[], [12], []]),
  (fn_depend_next, [[]]),
  (fn_depend_spatial, [[3], [3, 9], [3]]),
  (fn_depend_Fine_1, []),
  (fn_depend_Structure_fine, []),
  (fn_depend_diffs, []),
  (fn_slices_ContainsFunc_depend_Template_depend_Template, []),
  (fn_slices_IndexFunc_depend_Template_depend_Template, [[], [8], []]),
  (fn_depend_Layers, [[4, 5, 6], [4, 5, 6, 25], [4, 5, 6], [4, 5, 6], [0, 1, 2, 3, 4, 5, 6, 7, 8, 9, 10]]),
  (fn_pick_Source, [[5, 6], [5, 6, 11], [5, 6], [5], [6]]),
  (fn_pick_In, []),
  (fn_palanquinlaw20_heavy, [[3], [3, 4], [3]]),
  (fn_palanquinhelp_Structure, [[], [4], [], [0, 1, 2, 3, 4, 5, 6, 7, 8, 9, 10]]),
  (fn_palanquinref20_Fits, [[10, 13], [10, 11, 12, 13, 14], [10, 11, 12, 13], [10, 11, 12, 13]]),
  (fn_palanquinref9_Layers, [[7, 8, 9], [7, 8, 9, 10], [7, 8, 9], [7, 8, 9], [0, 1, 2, 3, 4, 5, 6, 7, 8, 9, 10, 11, 12, 13, 14, 15, 16, 17, 18]]),
  (fn_palanquinref9_Fine, [[], [7], [], [0, 1, 2, 3, 4, 5, 6, 7, 8, 9, 10, 11, 12, 13, 14], [0, 1, 2, 3, 4, 5, 6, 7, 8, 9, 10, 11, 12, 13, 17, 18, 14, 15, 16, 19, 20, 21, 22], [6], [], [4], [], [0, 1, 2, 3, 4, 5, 6, 7, 8, 9, 10, 11, 12]]),
  (fn_palanquinref9_step, [[]]),
  (fn_palanquinref9_within, [[], [9], []]),
  (fn_palanquinref9_top, [[3], [3, 4], [3]]),
  (fn_palanquinref20_In, []),
  (fn_palanquinref20_Source, [[5, 6], [5, 6, 7], [5, 6], [5], [6]]),
  (fn_palanquinlaw20_PickBest, [[], [18], []]),
  (fn_palanquinlaw20_PickSource, [[10], [10, 11], [10], [7], [7, 8], [7]])]

def hintOf : List (Nat × List (List Nat)) → FuncId → List (List Nat)
  | [], _ => []
  | (g, h) :: l, f => if g = f then h else hintOf l f

noncomputable def T : FuncId → Option Fn' := table Try.prog (hintOf hintRows)

theorem sound : SemOk Try.prog (sem T) := sem_ok _ _

end Go.Ax
