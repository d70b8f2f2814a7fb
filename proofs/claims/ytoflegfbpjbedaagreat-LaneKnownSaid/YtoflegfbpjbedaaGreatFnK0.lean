/-
  The functions of this seat as plain texts: printed by program (wip/gen/Emit.lean): part 0: numbers, hints, the table.
-/
import Derived.Test.YtoflegfbpjbedaaGreatAx20
import Derived.Test.YtoflegfbpjbedaaGreatProg
import Derived.KernelRfl
namespace Go.Ax
open Go.Proofs

def ty_ : TypeId := 0
def ty_func : TypeId := 1
def ty_int64 : TypeId := 2
def ty_int : TypeId := 3
def ty_bool : TypeId := 4
def ty_uint8 : TypeId := 5
def ty_abi_BoundsErrorCode : TypeId := 6
def ty_struct_x_int64_y_int_signed_bool_code_abi_BoundsErrorCode : TypeId := 7
def ty_runtime_boundsError : TypeId := 8
def ty_string : TypeId := 9
def ty_runtime_errorString : TypeId := 10
def ty_runtime_plainError : TypeId := 11
def ty_uintptr : TypeId := 12
def ty_struct_msg_string_addr_uintptr : TypeId := 13
def ty_runtime_errorAddressString : TypeId := 14
def ty_p_runtime_TypeAssertionError : TypeId := 15
def ty_p_runtime_PanicNilError : TypeId := 16
def ty_p_abi_Type : TypeId := 17
def ty_struct_typ_p_abi_Type : TypeId := 18
def ty_maps_unhashableTypeError : TypeId := 19
def ty_interface : TypeId := 20
def ty_int32 : TypeId := 21
def ty_p_lane_Lane : TypeId := 22
def ty_func_uint32_p_lane_Lane : TypeId := 23
def ty_uint32 : TypeId := 24
def ty_func_bool : TypeId := 25
def ty_api_Errno : TypeId := 26
def ty_func_int_api_Errno : TypeId := 27
def ty_func_int_int_api_Errno : TypeId := 28
def ty_int_bool : TypeId := 29
def ty_func_int_bool : TypeId := 30
def ty_uint16 : TypeId := 31
def ty_sl_uint32 : TypeId := 32
def ty_sl_rtp_Ext : TypeId := 33
def ty_sl_uint8 : TypeId := 34
def ty_struct_Mark_bool_Type_int_Seq_uint16_TS_uint32_SSRC_uint32_CSRC_sl_uint32_Profile_int_Exts_sl_rtp_Ext_Pad_int_Payload_sl_uint8 : TypeId := 35
def ty_rtp_Packet : TypeId := 36
def ty_sl_depend_Template : TypeId := 37
def ty_sl_int : TypeId := 38
def ty_sl_2_int : TypeId := 39
def ty_struct_Offset_int_Targets_int_Templates_sl_depend_Template_Chains_int_Protected_sl_int_Sizes_sl_2_int : TypeId := 40
def ty_depend_Structure : TypeId := 41
def ty_struct_Start_bool_End_bool_ID_int_Number_uint16_New_bool_Structure_depend_Structure_HasActive_bool_Active_uint32_OwnDTI_bool_OwnDiffs_bool_OwnChains_bool_DTI_sl_int_Diffs_sl_int_Chains_sl_int : TypeId := 42
def ty_depend_Frame : TypeId := 43
def ty_rtp_Packet_depend_Frame : TypeId := 44
def ty_func_depend_Frame_uint16_sl_uint8_rtp_Packet_depend_Frame : TypeId := 45
def ty_struct_B_sl_uint8_Why_int_Ask_bool : TypeId := 46
def ty_lane_Out : TypeId := 47
def ty_lane_Out_api_Errno : TypeId := 48
def ty_func_int_rtp_Packet_depend_Frame_depend_Structure_uint32_int64_lane_Out_api_Errno : TypeId := 49
def ty_func_depend_Structure : TypeId := 50
def ty_rtp_Packet_api_Errno : TypeId := 51
def ty_func_sl_uint8_rtp_Packet_api_Errno : TypeId := 52
def ty_uint64 : TypeId := 53
def ty_p_suite_Keys : TypeId := 54
def ty_p_suite_Keys_api_Errno : TypeId := 55
def ty_func_int_uint64_sl_uint8_p_suite_Keys_api_Errno : TypeId := 56
def ty_256_uint8 : TypeId := 57
def ty_sl_16_uint8 : TypeId := 58
def ty_struct_T_256_uint8_R_sl_16_uint8 : TypeId := 59
def ty_palanquinref1_Key : TypeId := 60
def ty_struct_K_palanquinref1_Key_Tag_sl_uint8_Salt_sl_uint8_KID_uint64_N_int : TypeId := 61
def ty_palanquinref10_Keys : TypeId := 62
def ty_palanquinref10_Keys_api_Errno : TypeId := 63
def ty_func_int_uint64_sl_uint8_palanquinref10_Keys_api_Errno : TypeId := 64
def ty_int_int_bool : TypeId := 65
def ty_func_int_int_int_bool : TypeId := 66
def ty_sl_uint8_api_Errno : TypeId := 67
def ty_func_uint64_sl_uint8_sl_uint8_sl_uint8_api_Errno : TypeId := 68
def ty_func_sl_uint8_sl_uint8_bool : TypeId := 69
def ty_func_int_uint64_sl_uint8_uint64_sl_uint8_sl_uint8_bool : TypeId := 70
def ty_sl_sl_uint8 : TypeId := 71
def ty_sl_uint8_uint64_api_Errno : TypeId := 72
def ty_func_sl_uint8_sl_uint8_sl_uint8_uint64_api_Errno : TypeId := 73
def ty_func_int_uint64_uint64_sl_uint8_sl_uint8_sl_uint8_sl_uint8_uint16_uint8_uint8_bool : TypeId := 74
def ty_p_lock_Sender : TypeId := 75
def ty_p_lock_Sender_api_Errno : TypeId := 76
def ty_func_int_int_p_lock_Sender_api_Errno : TypeId := 77
def ty_p_lock_Receiver : TypeId := 78
def ty_p_lock_Receiver_api_Errno : TypeId := 79
def ty_func_int_p_lock_Receiver_api_Errno : TypeId := 80
def ty_func_sl_uint8_int_sl_uint8_api_Errno : TypeId := 81
def ty_func_int_int_sl_uint8_api_Errno : TypeId := 82
def ty_func_int_int_int_sl_uint8_api_Errno : TypeId := 83
def ty_func_sl_uint8_sl_uint8_sl_uint8_api_Errno : TypeId := 84
def ty_struct_Epoch_int_Step_int_Slot_int_Count_uint64_Plain_sl_uint8 : TypeId := 85
def ty_lock_Got : TypeId := 86
def ty_lock_Got_api_Errno : TypeId := 87
def ty_func_sl_uint8_sl_uint8_lock_Got_api_Errno : TypeId := 88
def ty_func_sl_uint8_uint8_uint8_sl_uint8_bool : TypeId := 89
def ty_int_int_uint64_bool : TypeId := 90
def ty_func_int_int_uint64_bool : TypeId := 91
def ty_func_int_int_bool : TypeId := 92
def ty_sl_palanquinlaw15_Step : TypeId := 93
def ty_p_palanquinref10_Sender : TypeId := 94
def ty_struct_ID_int_Slot_int_Any_bool_KID_uint64_Count_uint64_K_palanquinref10_Keys : TypeId := 95
def ty_palanquinref10_Sender : TypeId := 96
def ty_struct_Op_int_Epoch_int_Step_int_M_sl_uint8_B_sl_uint8 : TypeId := 97
def ty_palanquinlaw15_Step : TypeId := 98
def ty_int_int_int_bool : TypeId := 99
def ty_func_uint64_int_int_int_bool : TypeId := 100
def ty_func_int_int_sl_palanquinlaw15_Step_bool : TypeId := 101
def ty_sl_palanquinlaw15_Turn : TypeId := 102
def ty_p_palanquinref10_Receiver : TypeId := 103
def ty_sl_palanquinref10_Chain : TypeId := 104
def ty_struct_ID_int_L_sl_palanquinref10_Chain : TypeId := 105
def ty_palanquinref10_Receiver : TypeId := 106
def ty_struct_Op_int_Epoch_int_Slot_int_Step_int_Count_uint64_At_int_By_uint8_B_sl_uint8_Base_sl_uint8 : TypeId := 107
def ty_palanquinlaw15_Turn : TypeId := 108
def ty_func_int : TypeId := 109
def ty_uint64_api_Errno : TypeId := 110
def ty_func_int_int_int_uint64_api_Errno : TypeId := 111
def ty_palanquinref10_Got : TypeId := 112
def ty_palanquinref10_Got_api_Errno : TypeId := 113
def ty_func_sl_uint8_sl_uint8_palanquinref10_Got_api_Errno : TypeId := 114
def ty_func_palanquinref10_Got_palanquinref10_Got_bool : TypeId := 115
def ty_func_int_int_int : TypeId := 116
def ty_func_int_sl_palanquinlaw15_Turn_bool : TypeId := 117
def ty_4_int : TypeId := 118
def ty_sl_bool : TypeId := 119
def ty_func_uint8_sl_uint8_sl_sl_uint8_sl_uint8_bool : TypeId := 120
def ty_p_ring_Ring : TypeId := 121
def ty_func_p_ring_Ring : TypeId := 122
def ty_struct_Any_bool_Now_int_Want_int : TypeId := 123
def ty_cast_Cast : TypeId := 124
def ty_struct_Any_bool_Seq_uint16_TS_uint32_DTS_uint32_Frame_uint16_DFrame_uint16_At_int64 : TypeId := 125
def ty_turn_Turn : TypeId := 126
def ty_sl_uint16 : TypeId := 127
def ty_struct_ssrc_uint32_spatial_int_temporal_int_cast_cast_Cast_turn_turn_Turn_refs_sl_uint16_ring_p_ring_Ring_broken_bool : TypeId := 128
def ty_lane_Lane : TypeId := 129
def ty_func_uint32 : TypeId := 130
def ty_cast_Cast_api_Errno : TypeId := 131
def ty_func_cast_Cast_int_cast_Cast_api_Errno : TypeId := 132
def ty_func_cast_Cast_int_bool : TypeId := 133
def ty_sl_palanquinref9_Template : TypeId := 134
def ty_struct_Offset_int_Targets_int_Templates_sl_palanquinref9_Template_Chains_int_Protected_sl_int_Sizes_sl_2_int : TypeId := 135
def ty_palanquinref9_Structure : TypeId := 136
def ty_func_depend_Structure_palanquinref9_Structure : TypeId := 137
def ty_struct_Spatial_int_Temporal_int_DTI_sl_int_Diffs_sl_int_Chains_sl_int : TypeId := 138
def ty_palanquinref9_Template : TypeId := 139
def ty_func_palanquinref9_Frame_palanquinref9_Structure_sl_uint8_api_Errno : TypeId := 140
def ty_struct_Start_bool_End_bool_ID_int_Number_uint16_New_bool_Structure_palanquinref9_Structure_HasActive_bool_Active_uint32_OwnDTI_bool_OwnDiffs_bool_OwnChains_bool_DTI_sl_int_Diffs_sl_int_Chains_sl_int : TypeId := 141
def ty_palanquinref9_Frame : TypeId := 142
def ty_func_depend_Frame_palanquinref9_Frame : TypeId := 143
def ty_struct_ID_int_B_sl_uint8 : TypeId := 144
def ty_rtp_Ext : TypeId := 145
def ty_func_rtp_Packet_sl_uint8_api_Errno : TypeId := 146
def ty_sl_uint8_bool : TypeId := 147
def ty_func_rtp_Packet_int_sl_uint8_bool : TypeId := 148
def ty_func_depend_Frame_depend_Structure_bool : TypeId := 149
def ty_func_int_rtp_Packet_depend_Frame_int64_bool : TypeId := 150
def ty_func_depend_Frame_depend_Structure_uint32_int : TypeId := 151
def ty_func_sl_uint16_uint16_sl_uint16 : TypeId := 152
def ty_turn_Turn_uint16_uint32_uint16 : TypeId := 153
def ty_func_turn_Turn_uint32_uint16_int64_turn_Turn_uint16_uint32_uint16 : TypeId := 154
def ty_rtp_Packet_bool : TypeId := 155
def ty_func_rtp_Packet_int_sl_uint8_rtp_Packet_bool : TypeId := 156
def ty_func_sl_uint8_uint16_sl_uint8 : TypeId := 157
def ty_func_uint16_sl_uint8 : TypeId := 158
def ty_depend_Template : TypeId := 159
def ty_uint : TypeId := 160
def ty_func_sl_uint8_uint32 : TypeId := 161
def ty_int_api_Errno : TypeId := 162
def ty_func_p_rtp_Packet_sl_uint8_int_api_Errno : TypeId := 163
def ty_p_rtp_Packet : TypeId := 164
def ty_func_sl_uint8_sl_uint8 : TypeId := 165
def ty_32_uint8 : TypeId := 166
def ty_func_sl_uint8_sl_uint8_32_uint8 : TypeId := 167
def ty_func_uint64_int_sl_uint8 : TypeId := 168
def ty_func_sl_uint8_sl_uint8_int_sl_uint8_api_Errno : TypeId := 169
def ty_p_block_Key : TypeId := 170
def ty_p_block_Key_api_Errno : TypeId := 171
def ty_func_sl_uint8_p_block_Key_api_Errno : TypeId := 172
def ty_struct_kid_uint64_tag_int_aes_p_block_Key_auth_sl_uint8_salt_sl_uint8 : TypeId := 173
def ty_suite_Keys : TypeId := 174
def ty_func_sl_uint8_uint64_int_sl_uint8 : TypeId := 175
def ty_palanquinref1_Key_api_Errno : TypeId := 176
def ty_func_sl_uint8_palanquinref1_Key_api_Errno : TypeId := 177
def ty_func_uint64_uint64_sl_uint8 : TypeId := 178
def ty_func_uint64_sl_uint8 : TypeId := 179
def ty_func_sl_uint8_sl_uint8_sl_uint8 : TypeId := 180
def ty_func_sl_sl_uint8_sl_uint8_sl_uint8 : TypeId := 181
def ty_func_sl_uint8_sl_uint8_sl_uint8_sl_uint8_sl_uint8 : TypeId := 182
def ty_func_sl_sl_uint8_sl_uint8 : TypeId := 183
def ty_uint64_uint64_int_api_Errno : TypeId := 184
def ty_func_sl_uint8_uint64_uint64_int_api_Errno : TypeId := 185
def ty_struct_id_int_slot_int_keys_p_suite_Keys_epoch_int_step_int_kid_uint64_count_uint64 : TypeId := 186
def ty_lock_Sender : TypeId := 187
def ty_map_lock_place_p_ratchet_Chain : TypeId := 188
def ty_map_uint64_window_Window : TypeId := 189
def ty_map_uint64_p_suite_Keys : TypeId := 190
def ty_struct_id_int_chains_map_lock_place_p_ratchet_Chain_windows_map_uint64_window_Window_keys_map_uint64_p_suite_Keys : TypeId := 191
def ty_lock_Receiver : TypeId := 192
def ty_func_uint64_uint64_bool : TypeId := 193
def ty_p_ratchet_Chain : TypeId := 194
def ty_p_ratchet_Chain_api_Errno : TypeId := 195
def ty_func_int_sl_uint8_p_ratchet_Chain_api_Errno : TypeId := 196
def ty_struct_epoch_int_slot_int : TypeId := 197
def ty_lock_place : TypeId := 198
def ty_func_int_2 : TypeId := 199
def ty_struct_Any_bool_High_uint64_Seen_uint64 : TypeId := 200
def ty_window_Window : TypeId := 201
def ty_func_window_Window_uint64_api_Errno : TypeId := 202
def ty_func_int_sl_uint8_api_Errno : TypeId := 203
def ty_func_uint64_sl_uint8_p_suite_Keys_api_Errno : TypeId := 204
def ty_window_Window_api_Errno : TypeId := 205
def ty_func_window_Window_uint64_window_Window_api_Errno : TypeId := 206
def ty_palanquinref10_Window : TypeId := 207
def ty_32_palanquinref10_Window : TypeId := 208
def ty_struct_Epoch_int_Slot_int_Step_int_Base_sl_uint8_W_32_palanquinref10_Window : TypeId := 209
def ty_palanquinref10_Chain : TypeId := 210
def ty_palanquinref10_Window_api_Errno : TypeId := 211
def ty_func_palanquinref10_Window_uint64_palanquinref10_Window_api_Errno : TypeId := 212
def ty_sl_ring_entry : TypeId := 213
def ty_struct_l_sl_ring_entry : TypeId := 214
def ty_ring_Ring : TypeId := 215
def ty_func_cast_Cast_bool : TypeId := 216
def ty_func_int_bool_2 : TypeId := 217
def ty_func_palanquinref9_Frame_palanquinref9_Structure_bool : TypeId := 218
def ty_p_palanquinref6_Writer : TypeId := 219
def ty_struct_L_sl_bool : TypeId := 220
def ty_palanquinref6_Writer : TypeId := 221
def ty_func_uint64_int_api_Errno : TypeId := 222
def ty_func_bool_uint64 : TypeId := 223
def ty_func_sl_uint8 : TypeId := 224
def ty_func_p_palanquinref6_Writer_palanquinref9_Structure : TypeId := 225
def ty_func_palanquinref9_Frame_palanquinref9_Structure_palanquinref9_Structure : TypeId := 226
def ty_func_rtp_Packet_bool : TypeId := 227
def ty_func_sl_uint8_uint32_int_sl_uint8 : TypeId := 228
def ty_func_rtp_Packet_sl_uint8 : TypeId := 229
def ty_func_rtp_Packet_int_int : TypeId := 230
def ty_depend_Template_bool : TypeId := 231
def ty_func_depend_Frame_depend_Structure_depend_Template_bool : TypeId := 232
def ty_func_depend_Frame_depend_Structure_depend_Structure : TypeId := 233
def ty_func_depend_Structure_bool : TypeId := 234
def ty_func_sl_int_int_int_int_bool : TypeId := 235
def ty_func_sl_int_sl_int_bool : TypeId := 236
def ty_func_sl_int_int_int_bool : TypeId := 237
def ty_cast_Cast_bool_bool : TypeId := 238
def ty_func_cast_Cast_int_bool_cast_Cast_bool_bool : TypeId := 239
def ty_func_turn_Turn_uint32_uint16_int64_turn_Turn : TypeId := 240
def ty_func_depend_Structure_uint32_int_int_int_bool : TypeId := 241
def ty_func_depend_Frame_int_bool : TypeId := 242
def ty_func_sl_uint16_uint16_sl_int_bool : TypeId := 243
def ty_func_sl_uint16_uint16_bool : TypeId := 244
def ty_func_sl_uint16_sl_uint16 : TypeId := 245
def ty_func_sl_uint16 : TypeId := 246
def ty_func_rtp_Packet_rtp_Packet : TypeId := 247
def ty_func_uint16_int : TypeId := 248
def ty_func_sl_ring_entry_int_int_sl_ring_entry : TypeId := 249
def ty_struct_seq_uint16_b_sl_uint8 : TypeId := 250
def ty_ring_entry : TypeId := 251
def ty_sl_rtp_Ext_bool : TypeId := 252
def ty_func_int_sl_uint8_sl_rtp_Ext_bool : TypeId := 253
def ty_func_sl_uint8_sl_uint8_32_uint8_2 : TypeId := 254
def ty_struct : TypeId := 255
def ty_sync_noCopy : TypeId := 256
def ty_atomic_noCopy : TypeId := 257
def ty_struct_atomic_noCopy_v_uint32 : TypeId := 258
def ty_atomic_Bool : TypeId := 259
def ty_struct_state_int32_sema_uint32 : TypeId := 260
def ty_sync_Mutex : TypeId := 261
def ty_struct_sync_noCopy_mu_sync_Mutex : TypeId := 262
def ty_sync_Mutex_2 : TypeId := 263
def ty_struct_sync_noCopy_done_atomic_Bool_m_sync_Mutex : TypeId := 264
def ty_sync_Once : TypeId := 265
def ty_struct_once_sync_Once_all_256_uint8 : TypeId := 266
def ty_block_table : TypeId := 267
def ty_sl_4_uint8 : TypeId := 268
def ty_struct_t_block_table_words_sl_4_uint8 : TypeId := 269
def ty_block_Key : TypeId := 270
def ty_p_256_uint8 : TypeId := 271
def ty_func_p_256_uint8 : TypeId := 272
def ty_4_uint8 : TypeId := 273
def ty_func_uint8_uint8 : TypeId := 274
def ty_func_256_uint8 : TypeId := 275
def ty_func_uint8_uint8_uint8 : TypeId := 276
def ty_16_uint8 : TypeId := 277
def ty_uint8_sl_uint8 : TypeId := 278
def ty_func_uint64_uint8_sl_uint8 : TypeId := 279
def ty_func_p_block_Key_16_uint8_int_sl_uint8_sl_uint8_api_Errno : TypeId := 280
def ty_func_int_sl_uint8 : TypeId := 281
def ty_func_palanquinref1_Key_16_uint8_int_sl_uint8_sl_uint8_api_Errno : TypeId := 282
def ty_func_uint8_int : TypeId := 283
def ty_uint64_bool : TypeId := 284
def ty_func_uint8_sl_uint8_uint64_bool : TypeId := 285
def ty_struct_step_int_base_sl_uint8 : TypeId := 286
def ty_ratchet_Chain : TypeId := 287
def ty_func_window_Window_bool : TypeId := 288
def ty_func_palanquinref10_Window_uint64_api_Errno : TypeId := 289
def ty_palanquinref9_Template_bool : TypeId := 290
def ty_func_palanquinref9_Frame_palanquinref9_Structure_palanquinref9_Template_bool : TypeId := 291
def ty_func_palanquinref9_Structure_bool : TypeId := 292
def ty_func_palanquinref9_Template_palanquinref9_Template_int : TypeId := 293
def ty_func_uint64_uint64_api_Errno : TypeId := 294
def ty_2_int : TypeId := 295
def ty_func_sl_rtp_Ext_func_rtp_Ext_bool_bool : TypeId := 296
def ty_func_int_rtp_Ext_bool : TypeId := 297
def ty_func_rtp_Ext_bool : TypeId := 298
def ty_func_sl_rtp_Ext_func_rtp_Ext_bool_int : TypeId := 299
def ty_func_depend_Structure_int_depend_Template_bool : TypeId := 300
def ty_func_sl_int_func_int_bool_bool : TypeId := 301
def ty_func_int64_int64_uint32 : TypeId := 302
def ty_func_depend_Structure_int_int_int_bool : TypeId := 303
def ty_func_sl_uint16_uint16_int : TypeId := 304
def ty_func_sl_uint32_sl_uint32 : TypeId := 305
def ty_func_sl_rtp_Ext_sl_rtp_Ext : TypeId := 306
def ty_func_sl_ring_entry_func_ring_entry_bool_int : TypeId := 307
def ty_func_ring_entry_bool : TypeId := 308
def ty_rtp_Ext_int_bool : TypeId := 309
def ty_func_int_sl_uint8_rtp_Ext_int_bool : TypeId := 310
def ty_func_sl_uint8_32_uint8 : TypeId := 311
def ty_p_digest_Stream : TypeId := 312
def ty_func_p_digest_Stream : TypeId := 313
def ty_func_sl_uint8_2 : TypeId := 314
def ty_func_sl_uint8_uint8_sl_uint8 : TypeId := 315
def ty_func_32_uint8 : TypeId := 316
def ty_p_block_table : TypeId := 317
def ty_func_func : TypeId := 318
def ty_255_uint8 : TypeId := 319
def ty_func_sl_uint8_32_uint8_2 : TypeId := 320
def ty_func_uint8_uint_uint8 : TypeId := 321
def ty_func_16_uint8_16_uint8 : TypeId := 322
def ty_func_16_uint8_uint64_16_uint8 : TypeId := 323
def ty_func_uint64_int : TypeId := 324
def ty_func_palanquinref10_Window_bool : TypeId := 325
def ty_int_uint64 : TypeId := 326
def ty_func_uint64_int_uint64 : TypeId := 327
def ty_func_depend_Structure_int : TypeId := 328
def ty_func_sl_depend_Template_func_depend_Template_bool_bool : TypeId := 329
def ty_func_depend_Template_bool : TypeId := 330
def ty_func_depend_Template_depend_Template : TypeId := 331
def ty_func_sl_int_func_int_bool_int : TypeId := 332
def ty_8_uint32 : TypeId := 333
def ty_p_digest_consts : TypeId := 334
def ty_64_uint32 : TypeId := 335
def ty_struct_once_sync_Once_k_64_uint32 : TypeId := 336
def ty_digest_consts : TypeId := 337
def ty_struct_h_8_uint32_b_sl_uint8_n_uint64_c_p_digest_consts : TypeId := 338
def ty_digest_Stream : TypeId := 339
def ty_p_sync_Once : TypeId := 340
def ty_func_uint8_int_uint8 : TypeId := 341
def ty_func_64_uint32 : TypeId := 342
def ty_func_8_uint32_sl_uint8_64_uint32_8_uint32 : TypeId := 343
def ty_func_16_uint8_int_16_uint8 : TypeId := 344
def ty_func_sl_uint8_uint64 : TypeId := 345
def ty_func_16_uint8_16_uint8_16_uint8 : TypeId := 346
def ty_func_palanquinref9_Structure_int : TypeId := 347
def ty_func_depend_Template_depend_Template_int_bool : TypeId := 348
def ty_func_sl_depend_Template_func_depend_Template_bool_int : TypeId := 349
def ty_func_sl_int_sl_int : TypeId := 350
def ty_p_64_uint32 : TypeId := 351
def ty_func_p_64_uint32 : TypeId := 352
def ty_func_uint32_int_uint32 : TypeId := 353
def ty_p_atomic_Bool : TypeId := 354
def ty_func_p_uint32_uint32 : TypeId := 355
def ty_p_uint32 : TypeId := 356
def ty_func_bool_2 : TypeId := 357
def ty_func_uint32_uint_uint32 : TypeId := 358
def ty_func_uint64_uint32 : TypeId := 359
def ty_p_sync_Mutex : TypeId := 360
def ty_func_p_uint32_uint32_2 : TypeId := 361
def ty_func_bool_uint32 : TypeId := 362
def ty_float64 : TypeId := 363
def ty_func_float64_float64 : TypeId := 364
def ty_p_sync_Mutex_2 : TypeId := 365
def ty_func_p_int32_int32_int32_bool : TypeId := 366
def ty_p_int32 : TypeId := 367
def ty_func_unsafe_Pointer : TypeId := 368
def ty_unsafe_Pointer : TypeId := 369
def ty_func_p_int32_int32_int32 : TypeId := 370
def ty_func_int32 : TypeId := 371
def ty_uint64_uint64 : TypeId := 372
def ty_func_uint64_uint64_uint64_uint64 : TypeId := 373
def ty_func_string : TypeId := 374
def ty_func_int64 : TypeId := 375
def ty_func_p_uint32_bool_int : TypeId := 376
def ty_func_float64_bool : TypeId := 377
def ty_func_float64_int_bool : TypeId := 378
def ty_func_uint64_float64 : TypeId := 379
def ty_func_float64_uint64 : TypeId := 380
def ty_func_string_2 : TypeId := 381
def ty_struct_interface_p_abi_Type_concrete_p_abi_Type_asserted_p_abi_Type_missingMethod_string : TypeId := 382
def ty_runtime_TypeAssertionError : TypeId := 383
def ty_0_p_runtime_PanicNilError : TypeId := 384
def ty_struct_0_p_runtime_PanicNilError : TypeId := 385
def ty_runtime_PanicNilError : TypeId := 386
def ty_abi_TFlag : TypeId := 387
def ty_abi_Kind : TypeId := 388
def ty_func_unsafe_Pointer_unsafe_Pointer_bool : TypeId := 389
def ty_p_uint8 : TypeId := 390
def ty_abi_NameOff : TypeId := 391
def ty_abi_TypeOff : TypeId := 392
def ty_struct_Size_uintptr_PtrBytes_uintptr_Hash_uint32_TFlag_abi_TFlag_Align_uint8_FieldAlign_uint8_Kind_abi_Kind_Equal_func_unsafe_Pointer_unsafe_Pointer_bool_GCData_p_uint8_Str_abi_NameOff_PtrToThis_abi_TypeOff : TypeId := 393
def ty_abi_Type : TypeId := 394

def fn_palanquinlaw25_LaneKnown : FuncId := 3
def fn_lane_New : FuncId := 11
def fn_ring_New : FuncId := 51
def fn_palanquinlaw25_awake : FuncId := 12
def fn_palanquinlaw25_packet : FuncId := 17
def fn_palanquinlaw25_plain : FuncId := 19
def fn_palanquinhelp_Structure : FuncId := 55
def fn_palanquinhelp_Frame : FuncId := 57
def fn_palanquinref9_Bytes : FuncId := 56
def fn_palanquinref9_Good : FuncId := 106
def fn_palanquinref9_Of : FuncId := 156
def fn_palanquinref9_holds : FuncId := 111
def fn_palanquinref9_Fine : FuncId := 197
def fn_palanquinref9_step : FuncId := 160
def fn_palanquinref9_within : FuncId := 159
def fn_palanquinref9_top : FuncId := 219
def fn_palanquinref9_zero : FuncId := 157
def fn_palanquinref9_SameInts : FuncId := 158
def fn_palanquinref9_one : FuncId := 108
def fn_palanquinref6_Writer_Add : FuncId := 107
def fn_palanquinref6_Writer_Bytes : FuncId := 109
def fn_palanquinref9_writes : FuncId := 110
def fn_palanquinref6_Writer_AddNS : FuncId := 161
def fn_palanquinref6_width : FuncId := 198
def fn_lane_Lane_Media : FuncId := 18
def fn_rtp_Bytes : FuncId := 58
def fn_rtp_Good : FuncId := 112
def fn_rtp_Good_1 : FuncId := 163
def fn_rtp_goodExt : FuncId := 164
def fn_slices_ContainsFunc_rtp_Ext_rtp_Ext : FuncId := 162
def fn_slices_IndexFunc_rtp_Ext_rtp_Ext : FuncId := 165
def fn_rtp_first : FuncId := 114
def fn_rtp_put : FuncId := 113
def fn_rtp_elements : FuncId := 115
def fn_rtp_Find : FuncId := 59
def fn_rtp_at : FuncId := 116
def fn_rtp_at_1 : FuncId := 166
def fn_bytes_Clone : FuncId := 70
def fn_depend_Good : FuncId := 60
def fn_depend_Of : FuncId := 117
def fn_depend_holds : FuncId := 118
def fn_depend_Fine : FuncId := 167
def fn_depend_within : FuncId := 120
def fn_depend_within_1 : FuncId := 170
def fn_slices_ContainsFunc_int_int : FuncId := 169
def fn_slices_IndexFunc_int_int : FuncId := 205
def fn_depend_layers : FuncId := 199
def fn_depend_next : FuncId := 220
def fn_depend_spatial : FuncId := 200
def fn_depend_Fine_1 : FuncId := 202
def fn_depend_Structure_fine : FuncId := 203
def fn_depend_diffs : FuncId := 122
def fn_slices_ContainsFunc_depend_Template_depend_Template : FuncId := 201
def fn_slices_IndexFunc_depend_Template_depend_Template : FuncId := 221
def fn_depend_template : FuncId := 168
def fn_depend_copied : FuncId := 204
def fn_slices_Clone_int_int : FuncId := 222
def fn_depend_none : FuncId := 119
def fn_slices_Equal_int_int : FuncId := 121
def fn_lane_Lane_turned : FuncId := 61
def fn_cast_On : FuncId := 123
def fn_cast_Good : FuncId := 103
def fn_cast_source : FuncId := 104
def fn_cast_Cast_runs : FuncId := 105
def fn_lane_Lane_whole : FuncId := 124
def fn_turn_Begin : FuncId := 125
def fn_turn_ticks : FuncId := 171
def fn_lane_Lane_why : FuncId := 62
def fn_pick_Fits : FuncId := 126
def fn_depend_Layers : FuncId := 172
def fn_pick_In : FuncId := 127
def fn_refs_Fit : FuncId := 128
def fn_refs_Has : FuncId := 129
def fn_slices_Contains_uint16_uint16 : FuncId := 131
def fn_slices_Index_uint16_uint16 : FuncId := 173
def fn_refs_Add : FuncId := 63
def fn_slices_Clone_uint16_uint16 : FuncId := 130
def fn_slices_Reverse_uint16_uint16 : FuncId := 132
def fn_turn_Out : FuncId := 64
def fn_depend_Number : FuncId := 66
def fn_rtp_Set : FuncId := 65
def fn_rtp_copied : FuncId := 133
def fn_slices_Clone_uint32_uint32 : FuncId := 174
def fn_slices_Clone_rtp_Ext_rtp_Ext : FuncId := 175
def fn_ring_Ring_Add : FuncId := 67
def fn_ring_Ring_at : FuncId := 134
def fn_ring_Ring_at_1 : FuncId := 177
def fn_slices_IndexFunc_ring_entry_ring_entry : FuncId := 176
def fn_slices_Delete_ring_entry_ring_entry : FuncId := 135
def fn_lane_Lane_SSRC : FuncId := 52
def fn_lane_Lane_Ask : FuncId := 13
def fn_cast_Ask : FuncId := 53
def fn_lane_Lane_Limit : FuncId := 14
def fn_lane_Lane_Lacks : FuncId := 15
def fn_cast_Lacks : FuncId := 54
def fn_lane_Lane_Runs : FuncId := 16
def fn_rtp_Parse : FuncId := 20
def fn_rtp_get : FuncId := 68
def fn_rtp_extension : FuncId := 69
def fn_rtp_exts : FuncId := 136
def fn_rtp_element : FuncId := 178

def hintRows : List (Nat × List (List Nat)) := [
  (fn_palanquinlaw25_LaneKnown, [[0, 1, 2, 3, 4, 5, 6, 8, 9, 7, 10], [0, 1, 2, 3, 4, 5, 6, 8, 9, 7, 10], [0, 1, 2, 3, 4, 5, 6, 8, 9, 7, 10], [0, 1, 2, 3, 4, 5, 6, 8, 9, 7, 10], [0, 1, 2, 3, 4, 5, 6, 8, 9, 7, 10], [0, 1, 2, 3, 4, 5, 6, 8, 9, 7, 10], [0, 1, 2, 3, 4, 5, 6, 8, 9, 7, 10], [0, 1, 2, 3, 4, 5, 6, 8, 9, 7, 10], [0, 1, 2, 3, 4, 5, 6, 8, 9, 7, 10], [0, 1, 2, 3, 4, 5, 6, 8, 9, 7, 10], [0, 1, 2, 3, 4, 5, 6, 8, 9, 7, 10]]),
  (fn_lane_New, []),
  (fn_ring_New, []),
  (fn_palanquinlaw25_awake, [[0, 1, 2, 3, 4, 5, 6, 8, 9, 7, 10], [0, 1, 2, 3, 4, 5, 6, 8, 9, 7, 10]]),
  (fn_palanquinlaw25_packet, [[0, 1, 2, 3], [0, 2, 1, 3, 4, 5, 6, 7, 8], [0, 1, 2, 3, 4, 5, 6, 7, 8, 9], []]),
  (fn_palanquinlaw25_plain, []),
  (fn_palanquinhelp_Structure, [[], [4], [], [0, 1, 2, 3, 4, 5, 6, 7, 8, 9, 10]]),
  (fn_palanquinhelp_Frame, [[0, 1, 2, 3, 4, 5, 6, 7, 8, 9, 10, 11, 13, 14, 15, 16, 17, 18, 19, 20, 21, 22, 23, 24, 25, 26, 27, 28, 12, 29, 30]]),
  (fn_palanquinref9_Bytes, [[], [10], [], [], [], [8], [], [9], [9], [9], [], [7], [], [], [0, 1, 2, 3, 4, 5, 6, 7, 8], []]),
  (fn_palanquinref9_Good, []),
  (fn_palanquinref9_Of, []),
  (fn_palanquinref9_holds, []),
  (fn_palanquinref9_Fine, [[], [7], [], [0, 1, 2, 3, 4, 5, 6, 7, 8, 9, 10, 11, 12, 13, 14], [0, 1, 2, 3, 4, 5, 6, 7, 8, 9, 10, 11, 12, 13, 17, 18, 14, 15, 16, 19, 20, 21, 22], [6], [], [4], [], [0, 1, 2, 3, 4, 5, 6, 7, 8, 9, 10, 11, 12]]),
  (fn_palanquinref9_step, [[]]),
  (fn_palanquinref9_within, [[], [9], []]),
  (fn_palanquinref9_top, [[3], [3, 4], [3]]),
  (fn_palanquinref9_zero, []),
  (fn_palanquinref9_SameInts, [[], [5], [], [0, 1, 2, 3, 4, 5, 6, 7, 8]]),
  (fn_palanquinref9_one, []),
  (fn_palanquinref6_Writer_Add, [[], [7], []]),
  (fn_palanquinref6_Writer_Bytes, [[], [4], [], []]),
  (fn_palanquinref9_writes, [[], [14], [], [], [], [12], [], [], [13], [], [], [11], [], [0, 1, 2, 3, 4, 5, 6, 7, 8, 9, 10], [], [9], [], [], [10], [], [], [7], [], [], [8], [], [], [5], [], [6], [0, 1, 2, 3, 4, 5, 6, 7, 8, 9, 10, 11, 12]]),
  (fn_palanquinref6_Writer_AddNS, []),
  (fn_palanquinref6_width, [[4], [4, 5], [4]]),
  (fn_lane_Lane_Media, [[0, 1, 2, 3, 4, 5, 6, 7, 8, 9, 10, 11], [0, 1, 2, 3, 4, 5, 6, 8, 7], [0, 1, 2, 3, 4, 5, 6, 7, 8, 9, 10, 11, 15, 16, 12, 13, 14, 17, 18, 19], [], [0, 1, 2, 3, 4, 5, 6, 7, 8, 9, 10]]),
  (fn_rtp_Bytes, [[4], [4], [4], [4, 27], [4], [0, 1, 2, 4, 5, 3, 6, 7], [0, 2, 3, 4, 1, 5, 6]]),
  (fn_rtp_Good, [[]]),
  (fn_rtp_Good_1, []),
  (fn_rtp_goodExt, []),
  (fn_slices_ContainsFunc_rtp_Ext_rtp_Ext, []),
  (fn_slices_IndexFunc_rtp_Ext_rtp_Ext, [[], [8], []]),
  (fn_rtp_first, [[4], [3], [3], [0, 1, 2, 3, 4, 5, 6, 7, 8, 9]]),
  (fn_rtp_put, [[0], [0, 7], [0]]),
  (fn_rtp_elements, [[3], [3], [3], [3], [3, 9], [3], [3]]),
  (fn_rtp_Find, []),
  (fn_rtp_at, []),
  (fn_rtp_at_1, []),
  (fn_bytes_Clone, []),
  (fn_depend_Good, [[]]),
  (fn_depend_Of, []),
  (fn_depend_holds, []),
  (fn_depend_Fine, [[], [71], [], [3]]),
  (fn_depend_within, []),
  (fn_depend_within_1, []),
  (fn_slices_ContainsFunc_int_int, []),
  (fn_slices_IndexFunc_int_int, [[], [8], []]),
  (fn_depend_layers, [[], [12], []]),
  (fn_depend_next, [[]]),
  (fn_depend_spatial, [[3], [3, 9], [3]]),
  (fn_depend_Fine_1, []),
  (fn_depend_Structure_fine, []),
  (fn_depend_diffs, []),
  (fn_slices_ContainsFunc_depend_Template_depend_Template, []),
  (fn_slices_IndexFunc_depend_Template_depend_Template, [[], [8], []]),
  (fn_depend_template, []),
  (fn_depend_copied, [[0, 1, 3, 4, 6, 7, 2, 5, 8, 9, 10, 11, 12, 13, 14]]),
  (fn_slices_Clone_int_int, []),
  (fn_depend_none, []),
  (fn_slices_Equal_int_int, [[], [13], [], [0, 1, 2, 3, 4, 5, 6, 7, 8]]),
  (fn_lane_Lane_turned, [[], [0, 1, 2, 3, 4, 5, 6, 7, 8, 9, 10, 11, 12, 13], []]),
  (fn_cast_On, [[0, 1, 2, 3, 4, 5, 6], []]),
  (fn_cast_Good, []),
  (fn_cast_source, []),
  (fn_cast_Cast_runs, []),
  (fn_lane_Lane_whole, []),
  (fn_turn_Begin, [[], [0, 1, 2, 3, 4, 8, 5, 6, 7, 9, 10, 11]]),
  (fn_turn_ticks, []),
  (fn_lane_Lane_why, [[], [0, 1, 2, 3, 4, 5, 6, 7, 8, 9, 10, 11, 12, 13], [0, 1, 2, 3, 4, 5, 6, 7, 8, 9, 10, 11, 12, 13, 14], [0, 1, 2, 3, 4, 5, 6, 7, 8, 9, 10, 11, 12, 13, 14, 15]]),
  (fn_pick_Fits, [[10, 13], [10, 11, 12, 13, 23], [10, 11, 12, 13], [10, 11, 12, 13]]),
  (fn_depend_Layers, [[4, 5, 6], [4, 5, 6, 25], [4, 5, 6], [4, 5, 6], [0, 1, 2, 3, 4, 5, 6, 7, 8, 9, 10]]),
  (fn_pick_In, []),
  (fn_refs_Fit, [[], [11], []]),
  (fn_refs_Has, []),
  (fn_slices_Contains_uint16_uint16, []),
  (fn_slices_Index_uint16_uint16, [[], [8], []]),
  (fn_refs_Add, [[6], [6, 7], [6], [6]]),
  (fn_slices_Clone_uint16_uint16, []),
  (fn_slices_Reverse_uint16_uint16, [[], [2, 3], [], [0, 1, 2, 3, 4, 5, 6, 7, 8, 9, 10, 11, 12, 13, 14, 15]]),
  (fn_turn_Out, [[], [], [0, 1, 2, 3, 4, 5, 6, 7, 8, 9], [9]]),
  (fn_depend_Number, [[]]),
  (fn_rtp_Set, [[0, 1, 2, 3, 4, 5, 6, 7]]),
  (fn_rtp_copied, [[], [19], [], [0, 1, 2, 3, 4, 5, 6, 7, 8, 9, 10, 11, 12], [0, 1, 3, 4, 6, 7, 2, 5, 8, 9, 10, 11, 12, 13, 14]]),
  (fn_slices_Clone_uint32_uint32, []),
  (fn_slices_Clone_rtp_Ext_rtp_Ext, []),
  (fn_ring_Ring_Add, [[], [0, 1, 2, 3, 4, 5, 6, 7, 8, 9, 10, 11, 12, 13], []]),
  (fn_ring_Ring_at, []),
  (fn_ring_Ring_at_1, []),
  (fn_slices_IndexFunc_ring_entry_ring_entry, [[], [8], []]),
  (fn_slices_Delete_ring_entry_ring_entry, [[0, 1, 2, 3, 4, 5, 6, 7]]),
  (fn_lane_Lane_SSRC, []),
  (fn_lane_Lane_Ask, []),
  (fn_cast_Ask, []),
  (fn_lane_Lane_Limit, []),
  (fn_lane_Lane_Lacks, []),
  (fn_cast_Lacks, []),
  (fn_lane_Lane_Runs, [[0, 1, 2, 3, 4, 5, 6, 7, 8, 9, 10, 11]]),
  (fn_rtp_Parse, [[], [5], [], [6], [], [0, 1, 2, 3, 4, 5, 6, 7, 8, 9, 10, 11], [0, 1, 2, 3, 4, 5, 6, 7, 8, 9, 10, 11, 14, 15, 17, 18, 12, 16, 19, 13, 20, 21, 22], []]),
  (fn_rtp_get, [[3], [3, 8], [3]]),
  (fn_rtp_extension, [[0, 1, 2, 3, 4, 5, 6, 7, 8, 9, 10, 11, 12]]),
  (fn_rtp_exts, [[6], [1, 6], [1, 6]]),
  (fn_rtp_element, [[8, 9], [9]])]

def hintOf : List (Nat × List (List Nat)) → FuncId → List (List Nat)
  | [], _ => []
  | (g, h) :: l, f => if g = f then h else hintOf l f

noncomputable def T : FuncId → Option Fn' := table Tryz.prog (hintOf hintRows)

theorem sound : SemOk Tryz.prog (sem T) := sem_ok _ _

end Go.Ax
