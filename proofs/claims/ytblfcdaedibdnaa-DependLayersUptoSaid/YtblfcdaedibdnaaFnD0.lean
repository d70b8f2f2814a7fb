/-
  The functions of this seat as plain texts: printed by program (wip/gen/Emit.lean): part 0: numbers, hints, the table.
-/
import Derived.Test.YtblfcdaedibdnaaAx20
import Derived.Test.YtblfcdaedibdnaaProg
import Derived.KernelRfl
namespace Go.Ax
open Go.Proofs

def ty_ : TypeId := 0
def ty_func : TypeId := 1
def ty_int64 : TypeId := 2
def ty_int : TypeId := 3
def ty_bool : TypeId := 4
def ty_uint8 : TypeId := 5
def ty_abi_BoundsErrorCode : TypeId := 6
def ty_struct_x_int64_y_int_signed_bool_code_abi_BoundsErrorCode : TypeId := 7
def ty_runtime_boundsError : TypeId := 8
def ty_string : TypeId := 9
def ty_runtime_errorString : TypeId := 10
def ty_runtime_plainError : TypeId := 11
def ty_uintptr : TypeId := 12
def ty_struct_msg_string_addr_uintptr : TypeId := 13
def ty_runtime_errorAddressString : TypeId := 14
def ty_p_runtime_TypeAssertionError : TypeId := 15
def ty_p_runtime_PanicNilError : TypeId := 16
def ty_p_abi_Type : TypeId := 17
def ty_struct_typ_p_abi_Type : TypeId := 18
def ty_maps_unhashableTypeError : TypeId := 19
def ty_interface : TypeId := 20
def ty_int32 : TypeId := 21
def ty_sl_depend_Template : TypeId := 22
def ty_sl_int : TypeId := 23
def ty_sl_2_int : TypeId := 24
def ty_struct_Offset_int_Targets_int_Templates_sl_depend_Template_Chains_int_Protected_sl_int_Sizes_sl_2_int : TypeId := 25
def ty_depend_Structure : TypeId := 26
def ty_uint32 : TypeId := 27
def ty_uint16 : TypeId := 28
def ty_struct_Start_bool_End_bool_ID_int_Number_uint16_New_bool_Structure_depend_Structure_HasActive_bool_Active_uint32_OwnDTI_bool_OwnDiffs_bool_OwnChains_bool_DTI_sl_int_Diffs_sl_int_Chains_sl_int : TypeId := 29
def ty_depend_Frame : TypeId := 30
def ty_uint64 : TypeId := 31
def ty_func_bool : TypeId := 32
def ty_func_depend_Structure_bool : TypeId := 33
def ty_int_bool : TypeId := 34
def ty_func_depend_Structure_uint32_int_int_int_bool : TypeId := 35
def ty_func_palanquinref9_Structure_uint32_int_int_int_bool : TypeId := 36
def ty_sl_palanquinref9_Template : TypeId := 37
def ty_struct_Offset_int_Targets_int_Templates_sl_palanquinref9_Template_Chains_int_Protected_sl_int_Sizes_sl_2_int : TypeId := 38
def ty_palanquinref9_Structure : TypeId := 39
def ty_func_depend_Structure_palanquinref9_Structure : TypeId := 40
def ty_func_depend_Frame_int_bool : TypeId := 41
def ty_func_palanquinref9_Frame_int_bool : TypeId := 42
def ty_struct_Start_bool_End_bool_ID_int_Number_uint16_New_bool_Structure_palanquinref9_Structure_HasActive_bool_Active_uint32_OwnDTI_bool_OwnDiffs_bool_OwnChains_bool_DTI_sl_int_Diffs_sl_int_Chains_sl_int : TypeId := 43
def ty_palanquinref9_Frame : TypeId := 44
def ty_func_uint64_sl_int_int : TypeId := 45
def ty_func_depend_Structure_uint32_int_int_depend_Frame_int_uint64_sl_int_bool : TypeId := 46
def ty_int_int_bool : TypeId := 47
def ty_func_depend_Structure_int_int_int_bool : TypeId := 48
def ty_uint : TypeId := 49
def ty_func_depend_Structure_uint32_uint8_uint8_uint8_bool : TypeId := 50
def ty_func_depend_Frame_bool : TypeId := 51
def ty_func_depend_Frame_palanquinref9_Frame : TypeId := 52
def ty_struct_Spatial_int_Temporal_int_DTI_sl_int_Diffs_sl_int_Chains_sl_int : TypeId := 53
def ty_depend_Template : TypeId := 54
def ty_depend_Template_bool : TypeId := 55
def ty_func_depend_Frame_depend_Structure_depend_Template_bool : TypeId := 56
def ty_palanquinref9_Template : TypeId := 57
def ty_palanquinref9_Template_bool : TypeId := 58
def ty_func_palanquinref9_Frame_palanquinref9_Structure_palanquinref9_Template_bool : TypeId := 59
def ty_sl_uint8 : TypeId := 60
def ty_api_Errno : TypeId := 61
def ty_sl_uint8_api_Errno : TypeId := 62
def ty_func_depend_Frame_depend_Structure_sl_uint8_api_Errno : TypeId := 63
def ty_func_palanquinref9_Frame_palanquinref9_Structure_sl_uint8_api_Errno : TypeId := 64
def ty_func_palanquinref9_Structure_bool : TypeId := 65
def ty_func_sl_int_sl_int_bool : TypeId := 66
def ty_func_depend_Frame_depend_Structure_bool : TypeId := 67
def ty_func_palanquinref9_Frame_palanquinref9_Structure_bool : TypeId := 68
def ty_func_sl_uint8_sl_uint8_bool : TypeId := 69
def ty_func_palanquinref9_Structure_int_int_int_bool : TypeId := 70
def ty_func_depend_Structure_int_bool : TypeId := 71
def ty_sl_palanquinlaw25_Come : TypeId := 72
def ty_p_lane_Lane : TypeId := 73
def ty_func_uint32_p_lane_Lane : TypeId := 74
def ty_sl_uint32 : TypeId := 75
def ty_sl_rtp_Ext : TypeId := 76
def ty_struct_Mark_bool_Type_int_Seq_uint16_TS_uint32_SSRC_uint32_CSRC_sl_uint32_Profile_int_Exts_sl_rtp_Ext_Pad_int_Payload_sl_uint8 : TypeId := 77
def ty_rtp_Packet : TypeId := 78
def ty_rtp_Packet_depend_Frame : TypeId := 79
def ty_func_depend_Frame_uint16_sl_uint8_rtp_Packet_depend_Frame : TypeId := 80
def ty_struct_B_sl_uint8_Why_int_Ask_bool : TypeId := 81
def ty_lane_Out : TypeId := 82
def ty_lane_Out_api_Errno : TypeId := 83
def ty_func_int_rtp_Packet_depend_Frame_depend_Structure_uint32_int64_lane_Out_api_Errno : TypeId := 84
def ty_func_depend_Structure : TypeId := 85
def ty_func_palanquinlaw25_Come_bool : TypeId := 86
def ty_sl_rtcp_Pair : TypeId := 87
def ty_struct_Op_int_Source_int_N_int_M_int_Raw_bool_P_rtp_Packet_F_depend_Frame_Seq_uint16_B_sl_uint8_A_uint32_Ticks_uint16_Pairs_sl_rtcp_Pair : TypeId := 88
def ty_palanquinlaw25_Come : TypeId := 89
def ty_func_palanquinlaw25_Come_rtp_Packet_depend_Frame : TypeId := 90
def ty_func_sl_palanquinlaw25_Come_uint16_bool : TypeId := 91
def ty_depend_Frame_api_Errno : TypeId := 92
def ty_func_sl_uint8_depend_Structure_depend_Frame_api_Errno : TypeId := 93
def ty_palanquinref9_Frame_api_Errno : TypeId := 94
def ty_func_sl_uint8_palanquinref9_Structure_palanquinref9_Frame_api_Errno : TypeId := 95
def ty_func_palanquinref9_Frame_palanquinref9_Frame_bool : TypeId := 96
def ty_func_sl_uint8_depend_Structure_bool : TypeId := 97
def ty_func_depend_Frame_depend_Structure_sl_uint8_bool : TypeId := 98
def ty_sl_uint16 : TypeId := 99
def ty_func_int_api_Errno : TypeId := 100
def ty_func_sl_uint16_uint16_bool : TypeId := 101
def ty_func_sl_uint16_uint16_sl_int_bool : TypeId := 102
def ty_func_sl_palanquinlaw25_Come_bool : TypeId := 103
def ty_struct_Any_bool_Now_int_Want_int : TypeId := 104
def ty_cast_Cast : TypeId := 105
def ty_struct_Any_bool_Seq_uint16_TS_uint32_DTS_uint32_Frame_uint16_DFrame_uint16_At_int64 : TypeId := 106
def ty_turn_Turn : TypeId := 107
def ty_cast_Cast_api_Errno : TypeId := 108
def ty_func_cast_Cast_int_cast_Cast_api_Errno : TypeId := 109
def ty_cast_Cast_bool_bool : TypeId := 110
def ty_func_cast_Cast_int_bool_cast_Cast_bool_bool : TypeId := 111
def ty_func_turn_Turn_uint32_uint16_int64_turn_Turn : TypeId := 112
def ty_turn_Turn_uint16_uint32_uint16 : TypeId := 113
def ty_func_turn_Turn_uint32_uint16_int64_turn_Turn_uint16_uint32_uint16 : TypeId := 114
def ty_sl_palanquinref7_Ext : TypeId := 115
def ty_struct_Mark_bool_Type_int_Seq_uint16_TS_uint32_SSRC_uint32_CSRC_sl_uint32_Profile_int_Exts_sl_palanquinref7_Ext_Pad_int_Payload_sl_uint8 : TypeId := 116
def ty_palanquinref7_Packet : TypeId := 117
def ty_palanquinref7_Packet_api_Errno : TypeId := 118
def ty_func_sl_uint8_palanquinref7_Packet_api_Errno : TypeId := 119
def ty_sl_uint8_bool : TypeId := 120
def ty_func_palanquinref7_Packet_int_sl_uint8_bool : TypeId := 121
def ty_func_sl_uint8_uint16_sl_uint8 : TypeId := 122
def ty_func_sl_uint8_depend_Structure_uint16_bool : TypeId := 123
def ty_sl_sl_uint8 : TypeId := 124
def ty_func_rtcp_Pair_sl_sl_uint8 : TypeId := 125
def ty_struct_PID_uint16_BLP_uint16 : TypeId := 126
def ty_rtcp_Pair : TypeId := 127
def ty_func_uint8_sl_uint8_sl_uint16_bool : TypeId := 128
def ty_func_depend_Frame_depend_Structure_depend_Structure : TypeId := 129
def ty_func_depend_Structure_int_depend_Template_bool : TypeId := 130
def ty_func_palanquinref9_Frame_palanquinref9_Structure_palanquinref9_Structure : TypeId := 131
def ty_p_bits_Writer : TypeId := 132
def ty_func_p_bits_Writer : TypeId := 133
def ty_struct_p_bits_Writer : TypeId := 134
def ty_depend_writer : TypeId := 135
def ty_func_bool_2 : TypeId := 136
def ty_func_int_int : TypeId := 137
def ty_func_sl_uint8 : TypeId := 138
def ty_sl_bool : TypeId := 139
def ty_func_depend_Structure_2 : TypeId := 140
def ty_func_sl_int_int : TypeId := 141
def ty_func_sl_int : TypeId := 142
def ty_p_palanquinref6_Writer : TypeId := 143
def ty_struct_L_sl_bool : TypeId := 144
def ty_palanquinref6_Writer : TypeId := 145
def ty_func_uint64_int_api_Errno : TypeId := 146
def ty_func_bool_uint64 : TypeId := 147
def ty_func_p_palanquinref6_Writer_palanquinref9_Structure : TypeId := 148
def ty_func_sl_int_int_int_int_bool : TypeId := 149
def ty_func_depend_Structure_int : TypeId := 150
def ty_2_int : TypeId := 151
def ty_func_sl_depend_Template_func_depend_Template_bool_bool : TypeId := 152
def ty_func_depend_Template_bool : TypeId := 153
def ty_func_palanquinref9_Template_palanquinref9_Template_int : TypeId := 154
def ty_func_palanquinref9_Structure_int : TypeId := 155
def ty_func_sl_int_int_int_bool : TypeId := 156
def ty_p_ring_Ring : TypeId := 157
def ty_func_p_ring_Ring : TypeId := 158
def ty_struct_ssrc_uint32_spatial_int_temporal_int_cast_cast_Cast_turn_turn_Turn_refs_sl_uint16_ring_p_ring_Ring_broken_bool : TypeId := 159
def ty_lane_Lane : TypeId := 160
def ty_func_uint32 : TypeId := 161
def ty_struct_ID_int_B_sl_uint8 : TypeId := 162
def ty_rtp_Ext : TypeId := 163
def ty_func_rtp_Packet_sl_uint8_api_Errno : TypeId := 164
def ty_func_rtp_Packet_int_sl_uint8_bool : TypeId := 165
def ty_func_int_rtp_Packet_depend_Frame_int64_bool : TypeId := 166
def ty_func_depend_Frame_depend_Structure_uint32_int : TypeId := 167
def ty_func_sl_uint16_uint16_sl_uint16 : TypeId := 168
def ty_rtp_Packet_bool : TypeId := 169
def ty_func_rtp_Packet_int_sl_uint8_rtp_Packet_bool : TypeId := 170
def ty_func_uint16_sl_uint8 : TypeId := 171
def ty_p_depend_reader : TypeId := 172
def ty_p_bits_Reader : TypeId := 173
def ty_func_sl_uint8_p_bits_Reader : TypeId := 174
def ty_struct_p_bits_Reader_e_api_Errno : TypeId := 175
def ty_depend_reader : TypeId := 176
def ty_func_int_int_2 : TypeId := 177
def ty_func_api_Errno : TypeId := 178
def ty_func_int_int_sl_int : TypeId := 179
def ty_func_sl_int_2 : TypeId := 180
def ty_func_int : TypeId := 181
def ty_p_palanquinref9_reader : TypeId := 182
def ty_p_palanquinref6_Reader : TypeId := 183
def ty_struct_B_sl_uint8_At_int : TypeId := 184
def ty_palanquinref6_Reader : TypeId := 185
def ty_struct_r_p_palanquinref6_Reader_e_api_Errno : TypeId := 186
def ty_palanquinref9_reader : TypeId := 187
def ty_func_palanquinref9_Structure : TypeId := 188
def ty_func_p_palanquinref9_Frame_palanquinref9_Template_palanquinref9_Structure : TypeId := 189
def ty_p_palanquinref9_Frame : TypeId := 190
def ty_func_palanquinref9_Structure_palanquinref9_Structure_bool : TypeId := 191
def ty_func_cast_Cast_bool : TypeId := 192
def ty_func_int_bool : TypeId := 193
def ty_func_int64_int64_uint32 : TypeId := 194
def ty_func_sl_uint8_int_int_uint64 : TypeId := 195
def ty_sl_palanquinref7_Ext_bool : TypeId := 196
def ty_func_sl_uint8_int_sl_palanquinref7_Ext_bool : TypeId := 197
def ty_palanquinref7_Ext : TypeId := 198
def ty_func_sl_uint8_sl_uint8 : TypeId := 199
def ty_func_rtcp_Pair_sl_uint16 : TypeId := 200
def ty_func_uint16_sl_uint8_bool : TypeId := 201
def ty_func_depend_Template_depend_Template : TypeId := 202
def ty_struct_b_sl_uint8_n_int : TypeId := 203
def ty_bits_Writer : TypeId := 204
def ty_func_depend_Template_depend_Template_int_bool : TypeId := 205
def ty_func_uint64_uint64_api_Errno : TypeId := 206
def ty_func_sl_int_func_int_bool_bool : TypeId := 207
def ty_func_sl_depend_Template_func_depend_Template_bool_int : TypeId := 208
def ty_sl_ring_entry : TypeId := 209
def ty_struct_l_sl_ring_entry : TypeId := 210
def ty_ring_Ring : TypeId := 211
def ty_func_rtp_Packet_bool : TypeId := 212
def ty_func_sl_uint8_uint32_int_sl_uint8 : TypeId := 213
def ty_func_rtp_Packet_sl_uint8 : TypeId := 214
def ty_func_rtp_Packet_int_int : TypeId := 215
def ty_func_sl_uint16_sl_uint16 : TypeId := 216
def ty_func_sl_uint16 : TypeId := 217
def ty_func_rtp_Packet_rtp_Packet : TypeId := 218
def ty_func_uint16_int : TypeId := 219
def ty_func_sl_ring_entry_int_int_sl_ring_entry : TypeId := 220
def ty_struct_seq_uint16_b_sl_uint8 : TypeId := 221
def ty_ring_entry : TypeId := 222
def ty_struct_b_sl_uint8_at_int : TypeId := 223
def ty_bits_Reader : TypeId := 224
def ty_uint64_api_Errno : TypeId := 225
def ty_func_int_uint64_api_Errno : TypeId := 226
def ty_func_sl_depend_Template : TypeId := 227
def ty_func_sl_palanquinref9_Template : TypeId := 228
def ty_func_sl_int_sl_int : TypeId := 229
def ty_func_uint64_int : TypeId := 230
def ty_int_uint64 : TypeId := 231
def ty_func_uint64_int_uint64 : TypeId := 232
def ty_func_sl_int_func_int_bool_int : TypeId := 233
def ty_func_sl_rtp_Ext_func_rtp_Ext_bool_bool : TypeId := 234
def ty_func_int_rtp_Ext_bool : TypeId := 235
def ty_func_rtp_Ext_bool : TypeId := 236
def ty_func_sl_rtp_Ext_func_rtp_Ext_bool_int : TypeId := 237
def ty_func_sl_uint16_uint16_int : TypeId := 238
def ty_func_sl_uint32_sl_uint32 : TypeId := 239
def ty_func_sl_rtp_Ext_sl_rtp_Ext : TypeId := 240
def ty_func_sl_ring_entry_func_ring_entry_bool_int : TypeId := 241
def ty_func_ring_entry_bool : TypeId := 242
def ty_func_uint64_uint64_api_Errno_2 : TypeId := 243
def ty_func_uint64 : TypeId := 244
def ty_func_string : TypeId := 245
def ty_struct_interface_p_abi_Type_concrete_p_abi_Type_asserted_p_abi_Type_missingMethod_string : TypeId := 246
def ty_runtime_TypeAssertionError : TypeId := 247
def ty_0_p_runtime_PanicNilError : TypeId := 248
def ty_struct_0_p_runtime_PanicNilError : TypeId := 249
def ty_runtime_PanicNilError : TypeId := 250
def ty_abi_TFlag : TypeId := 251
def ty_abi_Kind : TypeId := 252
def ty_func_unsafe_Pointer_unsafe_Pointer_bool : TypeId := 253
def ty_p_uint8 : TypeId := 254
def ty_abi_NameOff : TypeId := 255
def ty_abi_TypeOff : TypeId := 256
def ty_struct_Size_uintptr_PtrBytes_uintptr_Hash_uint32_TFlag_abi_TFlag_Align_uint8_FieldAlign_uint8_Kind_abi_Kind_Equal_func_unsafe_Pointer_unsafe_Pointer_bool_GCData_p_uint8_Str_abi_NameOff_PtrToThis_abi_TypeOff : TypeId := 257
def ty_abi_Type : TypeId := 258
def ty_unsafe_Pointer : TypeId := 259

def fn_palanquinlaw20_PickSays : FuncId := 3
def fn_palanquinlaw20_awake : FuncId := 14
def fn_palanquinlaw20_three : FuncId := 60
def fn_pick_Fits : FuncId := 16
def fn_depend_Fine : FuncId := 32
def fn_depend_within : FuncId := 76
def fn_depend_within_1 : FuncId := 127
def fn_slices_ContainsFunc_int_int : FuncId := 126
def fn_slices_IndexFunc_int_int : FuncId := 154
def fn_depend_layers : FuncId := 77
def fn_depend_next : FuncId := 123
def fn_depend_spatial : FuncId := 78
def fn_depend_Fine_1 : FuncId := 80
def fn_depend_Structure_fine : FuncId := 81
def fn_depend_diffs : FuncId := 87
def fn_slices_ContainsFunc_depend_Template_depend_Template : FuncId := 79
def fn_slices_IndexFunc_depend_Template_depend_Template : FuncId := 128
def fn_depend_Layers : FuncId := 23
def fn_pick_Source : FuncId := 21
def fn_pick_In : FuncId := 19
def fn_palanquinlaw20_heavy : FuncId := 15
def fn_palanquinhelp_Structure : FuncId := 18
def fn_palanquinref20_Fits : FuncId := 17
def fn_palanquinref9_Layers : FuncId := 38
def fn_palanquinref9_Fine : FuncId := 33
def fn_palanquinref9_step : FuncId := 82
def fn_palanquinref9_within : FuncId := 83
def fn_palanquinref9_top : FuncId := 84
def fn_palanquinref20_In : FuncId := 20
def fn_palanquinref20_Source : FuncId := 22
def fn_palanquinlaw20_PickBest : FuncId := 4
def fn_palanquinlaw9_DependSays : FuncId := 5
def fn_palanquinlaw9_awake : FuncId := 24
def fn_palanquinlaw9_plain : FuncId := 61
def fn_depend_Bytes : FuncId := 30
def fn_depend_Good : FuncId := 35
def fn_depend_Of : FuncId := 28
def fn_depend_holds : FuncId := 62
def fn_depend_template : FuncId := 63
def fn_depend_copied : FuncId := 121
def fn_slices_Clone_int_int : FuncId := 150
def fn_depend_none : FuncId := 85
def fn_slices_Equal_int_int : FuncId := 86
def fn_bits_New : FuncId := 65
def fn_depend_writer_bit : FuncId := 66
def fn_depend_writer_num : FuncId := 67
def fn_bits_Writer_Add : FuncId := 122
def fn_math_bits_Len64 : FuncId := 151
def fn_bits_Writer_Bytes : FuncId := 68
def fn_depend_writer_structure : FuncId := 69
def fn_depend_writer_nums : FuncId := 70
def fn_bits_Writer_AddNS : FuncId := 124
def fn_bits_short : FuncId := 152
def fn_depend_writer_own : FuncId := 71
def fn_palanquinlaw9_long : FuncId := 25
def fn_palanquinlaw9_heavy : FuncId := 26
def fn_palanquinhelp_Frame : FuncId := 27
def fn_palanquinref9_Of : FuncId := 29
def fn_palanquinref9_holds : FuncId := 64
def fn_palanquinref9_Bytes : FuncId := 31
def fn_palanquinref9_Good : FuncId := 36
def fn_palanquinref9_zero : FuncId := 88
def fn_palanquinref9_SameInts : FuncId := 34
def fn_palanquinref9_one : FuncId := 73
def fn_palanquinref6_Writer_Add : FuncId := 72
def fn_palanquinref6_Writer_Bytes : FuncId := 74
def fn_palanquinref9_writes : FuncId := 75
def fn_palanquinref6_Writer_AddNS : FuncId := 125
def fn_palanquinref6_width : FuncId := 153
def fn_palanquinref1_Same : FuncId := 37
def fn_palanquinlaw9_DependLayers : FuncId := 6
def fn_palanquinlaw9_DependReads : FuncId := 8
def fn_depend_Parse : FuncId := 46
def fn_bits_Over : FuncId := 98
def fn_depend_reader_bit : FuncId := 99
def fn_depend_reader_num : FuncId := 100
def fn_bits_Reader_Take : FuncId := 143
def fn_bits_Reader_Left : FuncId := 105
def fn_depend_reader_structure : FuncId := 101
def fn_depend_reader_templates : FuncId := 144
def fn_depend_reader_fail : FuncId := 102
def fn_depend_reader_nums : FuncId := 103
def fn_depend_reader_diffs : FuncId := 145
def fn_depend_reader_ns : FuncId := 146
def fn_bits_Reader_TakeNS : FuncId := 165
def fn_depend_reader_own : FuncId := 104
def fn_palanquinref9_Parse : FuncId := 47
def fn_palanquinref9_reader_n : FuncId := 106
def fn_palanquinref6_Reader_Take : FuncId := 147
def fn_palanquinref6_Reader_Left : FuncId := 110
def fn_palanquinref6_Reader_bit : FuncId := 166
def fn_palanquinref9_reader_structure : FuncId := 107
def fn_palanquinref9_reader_layers : FuncId := 148
def fn_palanquinref9_reader_bad : FuncId := 108
def fn_palanquinref9_reader_ns : FuncId := 149
def fn_palanquinref6_Reader_TakeNS : FuncId := 167
def fn_palanquinref9_reader_own : FuncId := 109
def fn_palanquinref9_SameFrame : FuncId := 48
def fn_palanquinref9_SameStructure : FuncId := 111
def fn_palanquinlaw9_DependBack : FuncId := 9
def fn_palanquinlaw9_DependNumber : FuncId := 12
def fn_depend_Number : FuncId := 58
def fn_bytes_Clone : FuncId := 118

def hintRows : List (Nat × List (List Nat)) := [
  (fn_palanquinlaw20_PickSays, [[0, 1, 2, 3, 4, 5, 6, 7, 8, 9, 10, 12, 13, 14, 15, 11, 16, 17, 18, 19, 20, 21, 22, 23, 24, 25, 26, 27, 28]]),
  (fn_palanquinlaw20_awake, []),
  (fn_palanquinlaw20_three, []),
  (fn_pick_Fits, [[10, 13], [10, 11, 12, 13, 23], [10, 11, 12, 13], [10, 11, 12, 13]]),
  (fn_depend_Fine, [[], [71], [], [3]]),
  (fn_depend_within, []),
  (fn_depend_within_1, []),
  (fn_slices_ContainsFunc_int_int, []),
  (fn_slices_IndexFunc_int_int, [[], [8], []]),
  (fn_depend_layers, [[], [12], []]),
  (fn_depend_next, [[]]),
  (fn_depend_spatial, [[3], [3, 9], [3]]),
  (fn_depend_Fine_1, []),
  (fn_depend_Structure_fine, []),
  (fn_depend_diffs, []),
  (fn_slices_ContainsFunc_depend_Template_depend_Template, []),
  (fn_slices_IndexFunc_depend_Template_depend_Template, [[], [8], []]),
  (fn_depend_Layers, [[4, 5, 6], [4, 5, 6, 25], [4, 5, 6], [4, 5, 6], [0, 1, 2, 3, 4, 5, 6, 7, 8, 9, 10]]),
  (fn_pick_Source, [[5, 6], [5, 6, 11], [5, 6], [5], [6]]),
  (fn_pick_In, []),
  (fn_palanquinlaw20_heavy, [[3], [3, 4], [3]]),
  (fn_palanquinhelp_Structure, [[], [4], [], [0, 1, 2, 3, 4, 5, 6, 7, 8, 9, 10]]),
  (fn_palanquinref20_Fits, [[10, 13], [10, 11, 12, 13, 14], [10, 11, 12, 13], [10, 11, 12, 13]]),
  (fn_palanquinref9_Layers, [[7, 8, 9], [7, 8, 9, 10], [7, 8, 9], [7, 8, 9], [0, 1, 2, 3, 4, 5, 6, 7, 8, 9, 10, 11, 12, 13, 14, 15, 16, 17, 18]]),
  (fn_palanquinref9_Fine, [[], [7], [], [0, 1, 2, 3, 4, 5, 6, 7, 8, 9, 10, 11, 12, 13, 14], [0, 1, 2, 3, 4, 5, 6, 7, 8, 9, 10, 11, 12, 13, 17, 18, 14, 15, 16, 19, 20, 21, 22], [6], [], [4], [], [0, 1, 2, 3, 4, 5, 6, 7, 8, 9, 10, 11, 12]]),
  (fn_palanquinref9_step, [[]]),
  (fn_palanquinref9_within, [[], [9], []]),
  (fn_palanquinref9_top, [[3], [3, 4], [3]]),
  (fn_palanquinref20_In, []),
  (fn_palanquinref20_Source, [[5, 6], [5, 6, 7], [5, 6], [5], [6]]),
  (fn_palanquinlaw20_PickBest, [[], [18], []]),
  (fn_palanquinlaw9_DependSays, [[0, 2, 1, 3, 4, 5, 6, 7, 8, 9, 10, 11, 12, 13, 14, 15, 16, 17, 18, 19, 20, 21, 22, 23, 24, 25, 26, 27, 28, 29, 30, 31, 32, 33, 34, 35, 36, 37, 38, 39, 40, 41, 42, 43, 44, 45, 46, 47, 48, 49, 50, 51, 52, 53, 54, 55, 56, 57, 58, 59, 60, 61, 62, 63, 64, 65, 66, 67, 68, 69, 70, 71, 72, 73], [0, 2, 1, 3, 4, 5, 6, 7]]),
  (fn_palanquinlaw9_awake, []),
  (fn_palanquinlaw9_plain, []),
  (fn_depend_Bytes, [[], [], [], [], [0, 1, 2, 3, 4, 5, 6, 7, 8], [], [], [70], []]),
  (fn_depend_Good, [[]]),
  (fn_depend_Of, []),
  (fn_depend_holds, []),
  (fn_depend_template, []),
  (fn_depend_copied, [[0, 1, 3, 4, 6, 7, 2, 5, 8, 9, 10, 11, 12, 13, 14]]),
  (fn_slices_Clone_int_int, []),
  (fn_depend_none, []),
  (fn_slices_Equal_int_int, [[], [13], [], [0, 1, 2, 3, 4, 5, 6, 7, 8]]),
  (fn_bits_New, []),
  (fn_depend_writer_bit, [[4]]),
  (fn_depend_writer_num, []),
  (fn_bits_Writer_Add, [[], [7], [], [], [0, 1, 2, 3, 4, 5, 6, 7, 8, 9, 10, 11, 12, 13, 14, 15, 16, 17, 18, 19], []]),
  (fn_math_bits_Len64, [[0, 2], [0, 2], [0, 2]]),
  (fn_bits_Writer_Bytes, []),
  (fn_depend_writer_structure, [[], [144], [], [], [], [126], [], [], [110], [], [], [73], [], [], [80], [], [], [61], [], [], [30], [], [5], [0, 1, 2, 3, 4, 5, 6, 7, 8, 9, 10, 11, 12, 13, 14, 15]]),
  (fn_depend_writer_nums, [[], [10], []]),
  (fn_bits_Writer_AddNS, []),
  (fn_bits_short, [[0, 1, 2, 3, 4, 5, 6]]),
  (fn_depend_writer_own, [[], [9], [], [6], [6], [6]]),
  (fn_palanquinlaw9_long, []),
  (fn_palanquinlaw9_heavy, [[3], [3, 4], [3]]),
  (fn_palanquinhelp_Frame, [[0, 1, 2, 3, 4, 5, 6, 7, 8, 9, 10, 11, 13, 14, 15, 16, 17, 18, 19, 20, 21, 22, 23, 24, 25, 26, 27, 28, 12, 29, 30]]),
  (fn_palanquinref9_Of, []),
  (fn_palanquinref9_holds, []),
  (fn_palanquinref9_Bytes, [[], [10], [], [], [], [8], [], [9], [9], [9], [], [7], [], [], [0, 1, 2, 3, 4, 5, 6, 7, 8], []]),
  (fn_palanquinref9_Good, []),
  (fn_palanquinref9_zero, []),
  (fn_palanquinref9_SameInts, [[], [5], [], [0, 1, 2, 3, 4, 5, 6, 7, 8]]),
  (fn_palanquinref9_one, []),
  (fn_palanquinref6_Writer_Add, [[], [7], []]),
  (fn_palanquinref6_Writer_Bytes, [[], [4], [], []]),
  (fn_palanquinref9_writes, [[], [14], [], [], [], [12], [], [], [13], [], [], [11], [], [0, 1, 2, 3, 4, 5, 6, 7, 8, 9, 10], [], [9], [], [], [10], [], [], [7], [], [], [8], [], [], [5], [], [6], [0, 1, 2, 3, 4, 5, 6, 7, 8, 9, 10, 11, 12]]),
  (fn_palanquinref6_Writer_AddNS, []),
  (fn_palanquinref6_width, [[4], [4, 5], [4]]),
  (fn_palanquinref1_Same, []),
  (fn_palanquinlaw9_DependLayers, [[11, 12], [11, 12, 13], [11, 12], [0, 1, 2, 3, 4, 5, 6, 7, 8, 9, 10, 11, 12, 13, 14, 15]]),
  (fn_palanquinlaw9_DependReads, [[0, 1, 2, 3, 4, 6, 5, 7, 8, 9]]),
  (fn_depend_Parse, [[0, 1, 2, 3, 4, 5, 6], [], [], [], [], [], [], [], [0, 1, 2, 3, 4, 5, 6, 7, 8, 9, 10, 11], [], [], [], [0, 1, 2, 3, 4, 5, 6], [], []]),
  (fn_bits_Over, []),
  (fn_depend_reader_bit, []),
  (fn_depend_reader_num, []),
  (fn_bits_Reader_Take, [[6], [6, 20], [6], [0, 1, 2, 3, 4, 5, 6, 7, 8, 9, 10, 11, 12, 13, 14, 15, 16, 17, 18, 19, 20, 21, 22, 23], []]),
  (fn_bits_Reader_Left, [[0, 1, 2, 3, 4, 5, 6, 7, 8, 9, 10, 11]]),
  (fn_depend_reader_structure, [[], [], [89], [], [0, 1, 2, 5, 3, 6, 4, 7, 8, 9, 10, 11, 12], [], [], [72], [], [0, 1, 2, 3, 4, 5, 6, 7, 8, 9], [], [57], [], [0, 1, 2, 3, 4, 5, 6, 7, 8, 9], [], [35], [], [0, 1, 2, 3, 4, 5, 6, 7], [], [19], [], [0, 1, 2, 3, 4, 5, 6, 7, 8, 9]]),
  (fn_depend_reader_templates, [[3], [3], [3], [], [], [], [], [0, 1, 2, 3, 4, 5, 6, 7, 8, 9, 10, 11, 12, 13, 14, 15, 16]]),
  (fn_depend_reader_fail, [[]]),
  (fn_depend_reader_nums, [[7], [7, 9], [7]]),
  (fn_depend_reader_diffs, [[3], [3], [3]]),
  (fn_depend_reader_ns, []),
  (fn_bits_Reader_TakeNS, []),
  (fn_depend_reader_own, [[3], [3, 4], [3]]),
  (fn_palanquinref9_Parse, [[0, 1, 2, 3, 4, 5, 6], [], [], [], [], [0, 1, 2, 3, 4, 5, 6], [], [], [], []]),
  (fn_palanquinref9_reader_n, []),
  (fn_palanquinref6_Reader_Take, [[6], [6, 7], [6]]),
  (fn_palanquinref6_Reader_Left, [[0, 1, 2, 3, 4, 5, 6, 7, 8, 9, 10, 11]]),
  (fn_palanquinref6_Reader_bit, [[0, 1, 2, 3, 4, 5, 6, 7, 8, 9, 10, 11, 12, 13, 14, 15, 16, 17, 18, 19, 20]]),
  (fn_palanquinref9_reader_structure, [[], [], [10], [], [], [], [8], [], [], [9], [], [0, 1, 2, 3, 4, 5, 6, 7, 8, 9, 10, 11, 12, 13, 14, 15], [], [7], [], [0, 1, 2, 3, 4, 5, 6, 7, 8, 9], [], [6], [], [], [], [], [0, 1, 2, 3, 4, 5, 6, 7, 8, 9, 10, 11, 12, 13, 14, 15, 16], [], [4], [], [], [5], [], [0, 1, 2, 3, 4, 5, 6, 7, 8, 9, 10, 11, 12, 13, 14, 15]]),
  (fn_palanquinref9_reader_layers, [[3], [3], [3], [], [], [0, 1, 2, 3, 4, 5, 6, 7, 8, 9, 10, 11, 12, 13, 14, 15, 16]]),
  (fn_palanquinref9_reader_bad, [[]]),
  (fn_palanquinref9_reader_ns, []),
  (fn_palanquinref6_Reader_TakeNS, []),
  (fn_palanquinref9_reader_own, [[], [], [10], [], [0, 1, 2, 3, 4, 5, 6, 7, 8, 9, 10, 11], [], [], [9], [], [0, 1, 2, 3, 4, 5, 6, 7, 8, 9, 10, 11, 12, 13, 14], [], [], [8], [], [0, 1, 2, 3, 4, 5, 6, 7, 8, 9, 10, 11], [0, 1, 2, 4, 5, 8, 9, 12, 13, 3, 6, 7, 10, 11, 14, 15, 16, 17, 18, 19, 20, 21, 22, 23]]),
  (fn_palanquinref9_SameFrame, []),
  (fn_palanquinref9_SameStructure, [[], [8], [], [0, 1, 2, 3, 4, 5, 6, 7, 8, 9, 10], [], [5], [], [0, 1, 2, 3, 4, 5, 6, 7, 8, 9, 10, 11, 12, 13]]),
  (fn_palanquinlaw9_DependBack, [[0, 1, 2, 3, 4, 5, 6, 7, 8, 9, 10, 11, 12, 13, 14, 15, 16, 17, 18], [], [0, 1, 2, 3, 5, 4, 6, 7, 8, 9]]),
  (fn_palanquinlaw9_DependNumber, [[0, 2, 1, 3, 4, 5]]),
  (fn_depend_Number, [[]]),
  (fn_bytes_Clone, [])]

def hintOf : List (Nat × List (List Nat)) → FuncId → List (List Nat)
  | [], _ => []
  | (g, h) :: l, f => if g = f then h else hintOf l f

noncomputable def T : FuncId → Option Fn' := table Try.prog (hintOf hintRows)

theorem sound : SemOk Try.prog (sem T) := sem_ok _ _

end Go.Ax
