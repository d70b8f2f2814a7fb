/-
  The functions of this seat as plain texts: printed by program (wip/gen/Emit.lean): part 0: numbers, hints, the table.
-/
import Derived.Test.YtmiafikogmhckaaAx20
import Derived.Test.YtmiafikogmhckaaProg
import Derived.KernelRfl
namespace Go.Ax
open Go.Proofs

def ty_ : TypeId := 0
def ty_func : TypeId := 1
def ty_int64 : TypeId := 2
def ty_int : TypeId := 3
def ty_bool : TypeId := 4
def ty_uint8 : TypeId := 5
def ty_abi_BoundsErrorCode : TypeId := 6
def ty_struct_x_int64_y_int_signed_bool_code_abi_BoundsErrorCode : TypeId := 7
def ty_runtime_boundsError : TypeId := 8
def ty_string : TypeId := 9
def ty_runtime_errorString : TypeId := 10
def ty_runtime_plainError : TypeId := 11
def ty_uintptr : TypeId := 12
def ty_struct_msg_string_addr_uintptr : TypeId := 13
def ty_runtime_errorAddressString : TypeId := 14
def ty_p_runtime_TypeAssertionError : TypeId := 15
def ty_p_runtime_PanicNilError : TypeId := 16
def ty_p_abi_Type : TypeId := 17
def ty_struct_typ_p_abi_Type : TypeId := 18
def ty_maps_unhashableTypeError : TypeId := 19
def ty_interface : TypeId := 20
def ty_int32 : TypeId := 21
def ty_sl_uint8 : TypeId := 22
def ty_func_bool : TypeId := 23
def ty_uint16 : TypeId := 24
def ty_uint32 : TypeId := 25
def ty_sl_uint32 : TypeId := 26
def ty_sl_rtp_Ext : TypeId := 27
def ty_struct_Mark_bool_Type_int_Seq_uint16_TS_uint32_SSRC_uint32_CSRC_sl_uint32_Profile_int_Exts_sl_rtp_Ext_Pad_int_Payload_sl_uint8 : TypeId := 28
def ty_rtp_Packet : TypeId := 29
def ty_api_Errno : TypeId := 30
def ty_rtp_Packet_api_Errno : TypeId := 31
def ty_func_sl_uint8_rtp_Packet_api_Errno : TypeId := 32
def ty_sl_palanquinref7_Ext : TypeId := 33
def ty_struct_Mark_bool_Type_int_Seq_uint16_TS_uint32_SSRC_uint32_CSRC_sl_uint32_Profile_int_Exts_sl_palanquinref7_Ext_Pad_int_Payload_sl_uint8 : TypeId := 34
def ty_palanquinref7_Packet : TypeId := 35
def ty_palanquinref7_Packet_api_Errno : TypeId := 36
def ty_func_sl_uint8_palanquinref7_Packet_api_Errno : TypeId := 37
def ty_func_palanquinref7_Packet_palanquinref7_Packet_bool : TypeId := 38
def ty_func_rtp_Packet_palanquinref7_Packet : TypeId := 39
def ty_func_sl_uint8_bool : TypeId := 40
def ty_func_rtp_Packet_bool : TypeId := 41
def ty_sl_uint8_bool : TypeId := 42
def ty_func_rtp_Packet_int_sl_uint8_bool : TypeId := 43
def ty_func_palanquinref7_Packet_int_sl_uint8_bool : TypeId := 44
def ty_rtp_Packet_bool : TypeId := 45
def ty_func_rtp_Packet_int_sl_uint8_rtp_Packet_bool : TypeId := 46
def ty_palanquinref7_Packet_bool : TypeId := 47
def ty_func_palanquinref7_Packet_int_sl_uint8_palanquinref7_Packet_bool : TypeId := 48
def ty_func_sl_uint8_sl_uint8_bool : TypeId := 49
def ty_func_rtp_Packet_int_sl_uint8_bool_2 : TypeId := 50
def ty_sl_uint8_api_Errno : TypeId := 51
def ty_func_rtp_Packet_sl_uint8_api_Errno : TypeId := 52
def ty_func_palanquinref7_Packet_sl_uint8_api_Errno : TypeId := 53
def ty_func_palanquinref7_Packet_bool : TypeId := 54
def ty_func_rtp_Packet_sl_uint8_bool : TypeId := 55
def ty_uint64 : TypeId := 56
def ty_4_int : TypeId := 57
def ty_p_suite_Keys : TypeId := 58
def ty_p_suite_Keys_api_Errno : TypeId := 59
def ty_func_int_uint64_sl_uint8_p_suite_Keys_api_Errno : TypeId := 60
def ty_int_int_bool : TypeId := 61
def ty_func_int_int_int_bool : TypeId := 62
def ty_func_uint64_sl_uint8_sl_uint8_sl_uint8_api_Errno : TypeId := 63
def ty_func_uint64_uint64_sl_uint8 : TypeId := 64
def ty_func_uint8_uint64_uint64_sl_uint8_sl_uint8_uint16_bool : TypeId := 65
def ty_sl_uint8_uint64_api_Errno : TypeId := 66
def ty_func_sl_uint8_sl_uint8_sl_uint8_uint64_api_Errno : TypeId := 67
def ty_uint64_uint64_int_api_Errno : TypeId := 68
def ty_func_sl_uint8_uint64_uint64_int_api_Errno : TypeId := 69
def ty_func_uint8_uint64_uint64_sl_uint8_sl_uint8_sl_uint8_bool : TypeId := 70
def ty_uint : TypeId := 71
def ty_func_sl_uint8_uint32 : TypeId := 72
def ty_int_api_Errno : TypeId := 73
def ty_func_p_rtp_Packet_sl_uint8_int_api_Errno : TypeId := 74
def ty_p_rtp_Packet : TypeId := 75
def ty_func_sl_uint8_sl_uint8 : TypeId := 76
def ty_func_sl_uint8_int_int_uint64 : TypeId := 77
def ty_sl_palanquinref7_Ext_bool : TypeId := 78
def ty_func_sl_uint8_int_sl_palanquinref7_Ext_bool : TypeId := 79
def ty_struct_ID_int_B_sl_uint8 : TypeId := 80
def ty_palanquinref7_Ext : TypeId := 81
def ty_rtp_Ext : TypeId := 82
def ty_func_rtp_Packet_int_int : TypeId := 83
def ty_func_rtp_Packet_rtp_Packet : TypeId := 84
def ty_func_sl_uint8_uint32_int_sl_uint8 : TypeId := 85
def ty_func_rtp_Packet_sl_uint8 : TypeId := 86
def ty_func_bool_int : TypeId := 87
def ty_func_sl_uint8_uint64_int_sl_uint8 : TypeId := 88
def ty_func_sl_rtp_Ext_func_rtp_Ext_bool_bool : TypeId := 89
def ty_func_int_rtp_Ext_bool : TypeId := 90
def ty_func_rtp_Ext_bool : TypeId := 91
def ty_32_uint8 : TypeId := 92
def ty_func_sl_uint8_sl_uint8_32_uint8 : TypeId := 93
def ty_func_uint64_int_sl_uint8 : TypeId := 94
def ty_func_sl_uint8_sl_uint8_int_sl_uint8_api_Errno : TypeId := 95
def ty_p_block_Key : TypeId := 96
def ty_p_block_Key_api_Errno : TypeId := 97
def ty_func_sl_uint8_p_block_Key_api_Errno : TypeId := 98
def ty_struct_kid_uint64_tag_int_aes_p_block_Key_auth_sl_uint8_salt_sl_uint8 : TypeId := 99
def ty_suite_Keys : TypeId := 100
def ty_func_uint64_sl_uint8 : TypeId := 101
def ty_func_sl_uint8_sl_uint8_sl_uint8 : TypeId := 102
def ty_func_sl_sl_uint8_sl_uint8_sl_uint8 : TypeId := 103
def ty_func_sl_uint8_sl_uint8_sl_uint8_sl_uint8_sl_uint8 : TypeId := 104
def ty_sl_sl_uint8 : TypeId := 105
def ty_uint8_sl_uint8 : TypeId := 106
def ty_func_uint64_uint8_sl_uint8 : TypeId := 107
def ty_func_uint8_int : TypeId := 108
def ty_uint64_bool : TypeId := 109
def ty_func_uint8_sl_uint8_uint64_bool : TypeId := 110
def ty_sl_rtp_Ext_bool : TypeId := 111
def ty_func_int_sl_uint8_sl_rtp_Ext_bool : TypeId := 112
def ty_func_sl_rtp_Ext_func_rtp_Ext_bool_int : TypeId := 113
def ty_func_sl_uint32_sl_uint32 : TypeId := 114
def ty_func_sl_rtp_Ext_sl_rtp_Ext : TypeId := 115
def ty_func_sl_uint8_sl_uint8_32_uint8_2 : TypeId := 116
def ty_struct : TypeId := 117
def ty_sync_noCopy : TypeId := 118
def ty_atomic_noCopy : TypeId := 119
def ty_struct_atomic_noCopy_v_uint32 : TypeId := 120
def ty_atomic_Bool : TypeId := 121
def ty_struct_state_int32_sema_uint32 : TypeId := 122
def ty_sync_Mutex : TypeId := 123
def ty_struct_sync_noCopy_mu_sync_Mutex : TypeId := 124
def ty_sync_Mutex_2 : TypeId := 125
def ty_struct_sync_noCopy_done_atomic_Bool_m_sync_Mutex : TypeId := 126
def ty_sync_Once : TypeId := 127
def ty_256_uint8 : TypeId := 128
def ty_struct_once_sync_Once_all_256_uint8 : TypeId := 129
def ty_block_table : TypeId := 130
def ty_sl_4_uint8 : TypeId := 131
def ty_struct_t_block_table_words_sl_4_uint8 : TypeId := 132
def ty_block_Key : TypeId := 133
def ty_p_256_uint8 : TypeId := 134
def ty_func_p_256_uint8 : TypeId := 135
def ty_4_uint8 : TypeId := 136
def ty_func_uint8_uint8 : TypeId := 137
def ty_16_uint8 : TypeId := 138
def ty_func_p_block_Key_16_uint8_int_sl_uint8_sl_uint8_api_Errno : TypeId := 139
def ty_func_int_sl_uint8 : TypeId := 140
def ty_rtp_Ext_int_bool : TypeId := 141
def ty_func_int_sl_uint8_rtp_Ext_int_bool : TypeId := 142
def ty_func_sl_uint8_32_uint8 : TypeId := 143
def ty_p_digest_Stream : TypeId := 144
def ty_func_p_digest_Stream : TypeId := 145
def ty_func_sl_uint8 : TypeId := 146
def ty_func_sl_uint8_uint8_sl_uint8 : TypeId := 147
def ty_func_32_uint8 : TypeId := 148
def ty_p_block_table : TypeId := 149
def ty_func_func : TypeId := 150
def ty_255_uint8 : TypeId := 151
def ty_func_uint8_uint8_uint8 : TypeId := 152
def ty_func_16_uint8_16_uint8 : TypeId := 153
def ty_func_16_uint8_uint64_16_uint8 : TypeId := 154
def ty_8_uint32 : TypeId := 155
def ty_p_digest_consts : TypeId := 156
def ty_64_uint32 : TypeId := 157
def ty_struct_once_sync_Once_k_64_uint32 : TypeId := 158
def ty_digest_consts : TypeId := 159
def ty_struct_h_8_uint32_b_sl_uint8_n_uint64_c_p_digest_consts : TypeId := 160
def ty_digest_Stream : TypeId := 161
def ty_p_sync_Once : TypeId := 162
def ty_func_uint8_int_uint8 : TypeId := 163
def ty_func_16_uint8_int_16_uint8 : TypeId := 164
def ty_func_sl_uint8_uint64 : TypeId := 165
def ty_p_64_uint32 : TypeId := 166
def ty_func_p_64_uint32 : TypeId := 167
def ty_func_uint32_int_uint32 : TypeId := 168
def ty_p_atomic_Bool : TypeId := 169
def ty_func_p_uint32_uint32 : TypeId := 170
def ty_p_uint32 : TypeId := 171
def ty_func_bool_2 : TypeId := 172
def ty_func_int_bool : TypeId := 173
def ty_func_uint64_uint32 : TypeId := 174
def ty_p_sync_Mutex : TypeId := 175
def ty_func_p_uint32_uint32_2 : TypeId := 176
def ty_func_bool_uint32 : TypeId := 177
def ty_float64 : TypeId := 178
def ty_func_float64_float64 : TypeId := 179
def ty_func_uint64_uint64_bool : TypeId := 180
def ty_p_sync_Mutex_2 : TypeId := 181
def ty_func_p_int32_int32_int32_bool : TypeId := 182
def ty_p_int32 : TypeId := 183
def ty_func_unsafe_Pointer : TypeId := 184
def ty_unsafe_Pointer : TypeId := 185
def ty_func_p_int32_int32_int32 : TypeId := 186
def ty_func_int32 : TypeId := 187
def ty_uint64_uint64 : TypeId := 188
def ty_func_uint64_uint64_uint64_uint64 : TypeId := 189
def ty_func_string : TypeId := 190
def ty_func_int64 : TypeId := 191
def ty_func_p_uint32_bool_int : TypeId := 192
def ty_func_float64_bool : TypeId := 193
def ty_func_float64_int_bool : TypeId := 194
def ty_func_uint64_float64 : TypeId := 195
def ty_func_float64_uint64 : TypeId := 196
def ty_func_string_2 : TypeId := 197
def ty_struct_interface_p_abi_Type_concrete_p_abi_Type_asserted_p_abi_Type_missingMethod_string : TypeId := 198
def ty_runtime_TypeAssertionError : TypeId := 199
def ty_0_p_runtime_PanicNilError : TypeId := 200
def ty_struct_0_p_runtime_PanicNilError : TypeId := 201
def ty_runtime_PanicNilError : TypeId := 202
def ty_func_int : TypeId := 203
def ty_abi_TFlag : TypeId := 204
def ty_abi_Kind : TypeId := 205
def ty_func_unsafe_Pointer_unsafe_Pointer_bool : TypeId := 206
def ty_p_uint8 : TypeId := 207
def ty_abi_NameOff : TypeId := 208
def ty_abi_TypeOff : TypeId := 209
def ty_struct_Size_uintptr_PtrBytes_uintptr_Hash_uint32_TFlag_abi_TFlag_Align_uint8_FieldAlign_uint8_Kind_abi_Kind_Equal_func_unsafe_Pointer_unsafe_Pointer_bool_GCData_p_uint8_Str_abi_NameOff_PtrToThis_abi_TypeOff : TypeId := 210
def ty_abi_Type : TypeId := 211

def fn_palanquinlaw7_RtpReads : FuncId := 3
def fn_palanquinlaw7_awake : FuncId := 12
def fn_rtp_Parse : FuncId := 13
def fn_rtp_get : FuncId := 34
def fn_rtp_extension : FuncId := 35
def fn_rtp_exts : FuncId := 61
def fn_rtp_element : FuncId := 71
def fn_bytes_Clone : FuncId := 36
def fn_rtp_Good : FuncId := 25
def fn_rtp_Good_1 : FuncId := 47
def fn_rtp_goodExt : FuncId := 48
def fn_slices_ContainsFunc_rtp_Ext_rtp_Ext : FuncId := 46
def fn_slices_IndexFunc_rtp_Ext_rtp_Ext : FuncId := 62
def fn_palanquinref7_Parse : FuncId := 14
def fn_palanquinref7_N : FuncId := 37
def fn_palanquinref7_elements : FuncId := 38
def fn_palanquinhelp_Packet : FuncId := 16
def fn_palanquinref7_SamePacket : FuncId := 15
def fn_palanquinref1_Same : FuncId := 22
def fn_palanquinlaw7_RtpFinds : FuncId := 4
def fn_palanquinlaw7_heavy : FuncId := 17
def fn_rtp_Find : FuncId := 18
def fn_rtp_at : FuncId := 39
def fn_rtp_at_1 : FuncId := 63
def fn_palanquinref7_Find : FuncId := 19
def fn_rtp_Set : FuncId := 20
def fn_rtp_copied : FuncId := 40
def fn_slices_Clone_uint32_uint32 : FuncId := 64
def fn_slices_Clone_rtp_Ext_rtp_Ext : FuncId := 65
def fn_palanquinref7_Set : FuncId := 21
def fn_palanquinlaw7_RtpSays : FuncId := 5
def fn_rtp_Bytes : FuncId := 23
def fn_rtp_first : FuncId := 42
def fn_rtp_put : FuncId := 41
def fn_rtp_elements : FuncId := 43
def fn_palanquinref7_Bytes : FuncId := 24
def fn_palanquinref7_Good : FuncId := 26
def fn_palanquinref7_one : FuncId := 44
def fn_palanquinref1_U : FuncId := 45
def fn_palanquinlaw7_RtpBack : FuncId := 6
def fn_palanquinlaw7_RtpHead : FuncId := 7

def hintRows : List (Nat × List (List Nat)) := [
  (fn_palanquinlaw7_RtpReads, [[0, 1, 2, 3, 4, 6, 5, 7, 8, 9]]),
  (fn_palanquinlaw7_awake, []),
  (fn_rtp_Parse, [[], [5], [], [6], [], [0, 1, 2, 3, 4, 5, 6, 7, 8, 9, 10, 11], [0, 1, 2, 3, 4, 5, 6, 7, 8, 9, 10, 11, 14, 15, 17, 18, 12, 16, 19, 13, 20, 21, 22], []]),
  (fn_rtp_get, [[3], [3, 8], [3]]),
  (fn_rtp_extension, [[0, 1, 2, 3, 4, 5, 6, 7, 8, 9, 10, 11, 12]]),
  (fn_rtp_exts, [[6], [1, 6], [1, 6]]),
  (fn_rtp_element, [[8, 9], [9]]),
  (fn_bytes_Clone, []),
  (fn_rtp_Good, [[]]),
  (fn_rtp_Good_1, []),
  (fn_rtp_goodExt, []),
  (fn_slices_ContainsFunc_rtp_Ext_rtp_Ext, []),
  (fn_slices_IndexFunc_rtp_Ext_rtp_Ext, [[], [8], []]),
  (fn_palanquinref7_Parse, [[11], [6], [0, 1, 2, 3, 4, 5, 6, 7, 8, 9, 10, 11, 12, 13, 14], [], [7], [], [0, 1, 2, 3, 4, 5, 6, 7, 8, 9, 10, 11], [0, 1, 2, 3, 4, 5, 6, 7, 8, 9, 12, 15, 10, 13, 16, 11, 14, 17, 18, 19, 20]]),
  (fn_palanquinref7_N, [[7], [7, 8], [7]]),
  (fn_palanquinref7_elements, [[6], [6, 7], [6, 7], [8, 9, 10], [0, 1, 2, 3, 4, 5, 6, 7, 8, 9, 10, 11, 12, 13, 14, 15, 16, 17], [9]]),
  (fn_palanquinhelp_Packet, [[], [4], [], [0, 1, 2, 3, 4, 5, 6, 7, 9, 10, 11, 12, 13, 14, 8, 15, 16, 17, 18, 19, 20], [0, 1, 2, 3, 4, 5, 6, 7, 8, 9, 10, 11, 12, 13, 15, 16, 14, 17, 18, 19, 20]]),
  (fn_palanquinref7_SamePacket, [[], [6], [], [0, 1, 2, 3, 4, 5, 6, 7, 8, 9, 10, 11, 12, 13, 14, 15, 16, 17, 18, 19, 20, 21, 22, 23, 24, 25, 26, 27, 28], [], [5], [], [0, 1, 2, 3, 4, 5, 6, 7, 8, 9, 10]]),
  (fn_palanquinref1_Same, []),
  (fn_palanquinlaw7_RtpFinds, [[0, 1, 2, 3, 4, 5, 6, 7, 8, 9, 10, 11, 12, 13, 14, 15, 16, 17, 18, 19, 20, 21, 22, 23, 24, 25, 26, 27, 28, 29, 30, 31, 32, 33, 34, 35, 36, 37, 38, 39]]),
  (fn_palanquinlaw7_heavy, [[3], [3, 4], [3]]),
  (fn_rtp_Find, []),
  (fn_rtp_at, []),
  (fn_rtp_at_1, []),
  (fn_palanquinref7_Find, [[], [6], []]),
  (fn_rtp_Set, [[0, 1, 2, 3, 4, 5, 6, 7]]),
  (fn_rtp_copied, [[], [19], [], [0, 1, 2, 3, 4, 5, 6, 7, 8, 9, 10, 11, 12], [0, 1, 3, 4, 6, 7, 2, 5, 8, 9, 10, 11, 12, 13, 14]]),
  (fn_slices_Clone_uint32_uint32, []),
  (fn_slices_Clone_rtp_Ext_rtp_Ext, []),
  (fn_palanquinref7_Set, [[], [8], []]),
  (fn_palanquinlaw7_RtpSays, [[0, 2, 1, 3, 4, 5, 6, 7, 8, 9, 10, 11, 12, 13, 14, 15]]),
  (fn_rtp_Bytes, [[4], [4], [4], [4, 27], [4], [0, 1, 2, 4, 5, 3, 6, 7], [0, 2, 3, 4, 1, 5, 6]]),
  (fn_rtp_first, [[4], [3], [3], [0, 1, 2, 3, 4, 5, 6, 7, 8, 9]]),
  (fn_rtp_put, [[0], [0, 7], [0]]),
  (fn_rtp_elements, [[3], [3], [3], [3], [3, 9], [3], [3]]),
  (fn_palanquinref7_Bytes, [[4], [0, 1, 2, 3, 5, 6, 7, 4, 8, 9, 10], [4], [6], [6], [6], [6], [6, 7], [6], [6], [4], [4, 5], [4], [0, 1, 2, 6, 7, 8, 12, 13, 14, 17, 18, 21, 22, 3, 9, 19, 4, 5, 10, 11, 15, 16, 20, 23, 24, 25, 26]]),
  (fn_palanquinref7_Good, [[], [3], []]),
  (fn_palanquinref7_one, []),
  (fn_palanquinref1_U, [[7], [7, 8], [7]]),
  (fn_palanquinlaw7_RtpBack, [[0, 1, 2, 3, 4, 5, 6, 7, 8, 9, 10, 11, 12, 13, 14, 15, 16, 17, 18, 19, 20, 21, 22, 23, 24], [], [0, 1, 2, 3, 5, 4, 6, 7, 8, 9]]),
  (fn_palanquinlaw7_RtpHead, [[0, 1, 2, 3, 4, 5, 6, 7, 8, 9, 10, 11, 12, 13, 14, 15, 16, 17, 18, 19, 20, 21, 22, 23, 24, 25, 26, 27, 28, 29, 30, 31, 32, 33, 34, 35, 36, 37, 38, 39, 40, 41, 42, 43, 44, 45, 46, 47]])]

def hintOf : List (Nat × List (List Nat)) → FuncId → List (List Nat)
  | [], _ => []
  | (g, h) :: l, f => if g = f then h else hintOf l f

noncomputable def T : FuncId → Option Fn' := table Try.prog (hintOf hintRows)

theorem sound : SemOk Try.prog (sem T) := sem_ok _ _

end Go.Ax
