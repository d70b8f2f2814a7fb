/-
  The functions of this seat as plain texts: printed by program (wip/gen/Emit.lean): part 0: numbers, hints, the table.
-/
import Derived.Test.YtcjakbkffnofcaaAx20
import Derived.Test.YtcjakbkffnofcaaProg
import Derived.KernelRfl
namespace Go.Ax
open Go.Proofs

def ty_ : TypeId := 0
def ty_func : TypeId := 1
def ty_int64 : TypeId := 2
def ty_int : TypeId := 3
def ty_bool : TypeId := 4
def ty_uint8 : TypeId := 5
def ty_abi_BoundsErrorCode : TypeId := 6
def ty_struct_x_int64_y_int_signed_bool_code_abi_BoundsErrorCode : TypeId := 7
def ty_runtime_boundsError : TypeId := 8
def ty_string : TypeId := 9
def ty_runtime_errorString : TypeId := 10
def ty_runtime_plainError : TypeId := 11
def ty_uintptr : TypeId := 12
def ty_struct_msg_string_addr_uintptr : TypeId := 13
def ty_runtime_errorAddressString : TypeId := 14
def ty_p_runtime_TypeAssertionError : TypeId := 15
def ty_p_runtime_PanicNilError : TypeId := 16
def ty_p_abi_Type : TypeId := 17
def ty_struct_typ_p_abi_Type : TypeId := 18
def ty_maps_unhashableTypeError : TypeId := 19
def ty_interface : TypeId := 20
def ty_int32 : TypeId := 21
def ty_sl_palanquinlaw6_Step : TypeId := 22
def ty_p_bits_Writer : TypeId := 23
def ty_func_p_bits_Writer : TypeId := 24
def ty_p_palanquinref6_Writer : TypeId := 25
def ty_sl_bool : TypeId := 26
def ty_struct_L_sl_bool : TypeId := 27
def ty_palanquinref6_Writer : TypeId := 28
def ty_func_bool : TypeId := 29
def ty_uint64 : TypeId := 30
def ty_struct_V_uint64_M_uint64_N_int_NS_bool : TypeId := 31
def ty_palanquinlaw6_Step : TypeId := 32
def ty_api_Errno : TypeId := 33
def ty_func_uint64_uint64_api_Errno : TypeId := 34
def ty_func_uint64_int_api_Errno : TypeId := 35
def ty_func_int : TypeId := 36
def ty_func_sl_uint8_sl_uint8_bool : TypeId := 37
def ty_sl_uint8 : TypeId := 38
def ty_func_sl_uint8 : TypeId := 39
def ty_func_sl_palanquinlaw6_Step_bool : TypeId := 40
def ty_uint16 : TypeId := 41
def ty_func_uint16_uint16_uint16_bool : TypeId := 42
def ty_p_bits_Reader : TypeId := 43
def ty_func_sl_uint8_p_bits_Reader : TypeId := 44
def ty_p_palanquinref6_Reader : TypeId := 45
def ty_struct_B_sl_uint8_At_int : TypeId := 46
def ty_palanquinref6_Reader : TypeId := 47
def ty_uint64_api_Errno : TypeId := 48
def ty_func_uint64_uint64_api_Errno_2 : TypeId := 49
def ty_func_int_uint64_api_Errno : TypeId := 50
def ty_func_sl_uint8_sl_palanquinlaw6_Step_bool : TypeId := 51
def ty_sl_depend_Template : TypeId := 52
def ty_sl_int : TypeId := 53
def ty_sl_2_int : TypeId := 54
def ty_struct_Offset_int_Targets_int_Templates_sl_depend_Template_Chains_int_Protected_sl_int_Sizes_sl_2_int : TypeId := 55
def ty_depend_Structure : TypeId := 56
def ty_uint32 : TypeId := 57
def ty_struct_Start_bool_End_bool_ID_int_Number_uint16_New_bool_Structure_depend_Structure_HasActive_bool_Active_uint32_OwnDTI_bool_OwnDiffs_bool_OwnChains_bool_DTI_sl_int_Diffs_sl_int_Chains_sl_int : TypeId := 58
def ty_depend_Frame : TypeId := 59
def ty_func_depend_Frame_bool : TypeId := 60
def ty_func_depend_Structure_bool : TypeId := 61
def ty_sl_palanquinref9_Template : TypeId := 62
def ty_struct_Offset_int_Targets_int_Templates_sl_palanquinref9_Template_Chains_int_Protected_sl_int_Sizes_sl_2_int : TypeId := 63
def ty_palanquinref9_Structure : TypeId := 64
def ty_struct_Start_bool_End_bool_ID_int_Number_uint16_New_bool_Structure_palanquinref9_Structure_HasActive_bool_Active_uint32_OwnDTI_bool_OwnDiffs_bool_OwnChains_bool_DTI_sl_int_Diffs_sl_int_Chains_sl_int : TypeId := 65
def ty_palanquinref9_Frame : TypeId := 66
def ty_func_depend_Frame_palanquinref9_Frame : TypeId := 67
def ty_func_depend_Structure_palanquinref9_Structure : TypeId := 68
def ty_struct_Spatial_int_Temporal_int_DTI_sl_int_Diffs_sl_int_Chains_sl_int : TypeId := 69
def ty_depend_Template : TypeId := 70
def ty_depend_Template_bool : TypeId := 71
def ty_func_depend_Frame_depend_Structure_depend_Template_bool : TypeId := 72
def ty_palanquinref9_Template : TypeId := 73
def ty_palanquinref9_Template_bool : TypeId := 74
def ty_func_palanquinref9_Frame_palanquinref9_Structure_palanquinref9_Template_bool : TypeId := 75
def ty_sl_uint8_api_Errno : TypeId := 76
def ty_func_depend_Frame_depend_Structure_sl_uint8_api_Errno : TypeId := 77
def ty_func_palanquinref9_Frame_palanquinref9_Structure_sl_uint8_api_Errno : TypeId := 78
def ty_func_palanquinref9_Structure_bool : TypeId := 79
def ty_func_sl_int_sl_int_bool : TypeId := 80
def ty_func_depend_Frame_depend_Structure_bool : TypeId := 81
def ty_func_palanquinref9_Frame_palanquinref9_Structure_bool : TypeId := 82
def ty_int_int_bool : TypeId := 83
def ty_func_depend_Structure_int_int_int_bool : TypeId := 84
def ty_func_palanquinref9_Structure_int_int_int_bool : TypeId := 85
def ty_func_depend_Structure_int_bool : TypeId := 86
def ty_depend_Frame_api_Errno : TypeId := 87
def ty_func_sl_uint8_depend_Structure_depend_Frame_api_Errno : TypeId := 88
def ty_palanquinref9_Frame_api_Errno : TypeId := 89
def ty_func_sl_uint8_palanquinref9_Structure_palanquinref9_Frame_api_Errno : TypeId := 90
def ty_func_palanquinref9_Frame_palanquinref9_Frame_bool : TypeId := 91
def ty_func_sl_uint8_depend_Structure_bool : TypeId := 92
def ty_func_depend_Frame_depend_Structure_sl_uint8_bool : TypeId := 93
def ty_func_sl_uint8_uint16_sl_uint8 : TypeId := 94
def ty_func_sl_uint8_depend_Structure_uint16_bool : TypeId := 95
def ty_func_depend_Structure : TypeId := 96
def ty_struct_b_sl_uint8_n_int : TypeId := 97
def ty_bits_Writer : TypeId := 98
def ty_int_uint64 : TypeId := 99
def ty_func_uint64_int_uint64 : TypeId := 100
def ty_func_uint64_int : TypeId := 101
def ty_uint : TypeId := 102
def ty_struct_b_sl_uint8_at_int : TypeId := 103
def ty_bits_Reader : TypeId := 104
def ty_func_uint64 : TypeId := 105
def ty_func_depend_Frame_depend_Structure_depend_Structure : TypeId := 106
def ty_func_depend_Structure_int_depend_Template_bool : TypeId := 107
def ty_func_palanquinref9_Frame_palanquinref9_Structure_palanquinref9_Structure : TypeId := 108
def ty_struct_p_bits_Writer : TypeId := 109
def ty_depend_writer : TypeId := 110
def ty_func_bool_2 : TypeId := 111
def ty_func_int_int : TypeId := 112
def ty_func_depend_Structure_2 : TypeId := 113
def ty_func_sl_int_int : TypeId := 114
def ty_func_sl_int : TypeId := 115
def ty_func_bool_uint64 : TypeId := 116
def ty_func_p_palanquinref6_Writer_palanquinref9_Structure : TypeId := 117
def ty_func_sl_int_int_int_int_bool : TypeId := 118
def ty_func_depend_Structure_int : TypeId := 119
def ty_2_int : TypeId := 120
def ty_func_sl_depend_Template_func_depend_Template_bool_bool : TypeId := 121
def ty_func_depend_Template_bool : TypeId := 122
def ty_func_palanquinref9_Template_palanquinref9_Template_int : TypeId := 123
def ty_func_palanquinref9_Structure_int : TypeId := 124
def ty_func_sl_int_int_int_bool : TypeId := 125
def ty_p_depend_reader : TypeId := 126
def ty_struct_p_bits_Reader_e_api_Errno : TypeId := 127
def ty_depend_reader : TypeId := 128
def ty_func_int_int_2 : TypeId := 129
def ty_func_api_Errno : TypeId := 130
def ty_func_int_int_sl_int : TypeId := 131
def ty_func_sl_int_2 : TypeId := 132
def ty_p_palanquinref9_reader : TypeId := 133
def ty_struct_r_p_palanquinref6_Reader_e_api_Errno : TypeId := 134
def ty_palanquinref9_reader : TypeId := 135
def ty_func_palanquinref9_Structure : TypeId := 136
def ty_func_p_palanquinref9_Frame_palanquinref9_Template_palanquinref9_Structure : TypeId := 137
def ty_p_palanquinref9_Frame : TypeId := 138
def ty_func_palanquinref9_Structure_palanquinref9_Structure_bool : TypeId := 139
def ty_func_sl_uint8_sl_uint8 : TypeId := 140
def ty_func_depend_Template_depend_Template : TypeId := 141
def ty_int_bool : TypeId := 142
def ty_func_depend_Template_depend_Template_int_bool : TypeId := 143
def ty_func_sl_int_func_int_bool_bool : TypeId := 144
def ty_func_int_bool : TypeId := 145
def ty_func_sl_depend_Template_func_depend_Template_bool_int : TypeId := 146
def ty_func_sl_depend_Template : TypeId := 147
def ty_func_sl_palanquinref9_Template : TypeId := 148
def ty_func_sl_int_sl_int : TypeId := 149
def ty_func_sl_int_func_int_bool_int : TypeId := 150
def ty_func_string : TypeId := 151
def ty_struct_interface_p_abi_Type_concrete_p_abi_Type_asserted_p_abi_Type_missingMethod_string : TypeId := 152
def ty_runtime_TypeAssertionError : TypeId := 153
def ty_0_p_runtime_PanicNilError : TypeId := 154
def ty_struct_0_p_runtime_PanicNilError : TypeId := 155
def ty_runtime_PanicNilError : TypeId := 156
def ty_abi_TFlag : TypeId := 157
def ty_abi_Kind : TypeId := 158
def ty_func_unsafe_Pointer_unsafe_Pointer_bool : TypeId := 159
def ty_p_uint8 : TypeId := 160
def ty_abi_NameOff : TypeId := 161
def ty_abi_TypeOff : TypeId := 162
def ty_struct_Size_uintptr_PtrBytes_uintptr_Hash_uint32_TFlag_abi_TFlag_Align_uint8_FieldAlign_uint8_Kind_abi_Kind_Equal_func_unsafe_Pointer_unsafe_Pointer_bool_GCData_p_uint8_Str_abi_NameOff_PtrToThis_abi_TypeOff : TypeId := 163
def ty_abi_Type : TypeId := 164
def ty_unsafe_Pointer : TypeId := 165

def fn_palanquinlaw6_BitsSays : FuncId := 3
def fn_bits_New : FuncId := 14
def fn_palanquinlaw6_awake : FuncId := 15
def fn_bits_Writer_Add : FuncId := 18
def fn_math_bits_Len64 : FuncId := 54
def fn_bits_Writer_Bytes : FuncId := 22
def fn_bits_Writer_Len : FuncId := 20
def fn_bits_Writer_AddNS : FuncId := 16
def fn_bits_short : FuncId := 52
def fn_palanquinref6_Writer_AddNS : FuncId := 17
def fn_palanquinref6_width : FuncId := 53
def fn_palanquinref6_Writer_Add : FuncId := 19
def fn_palanquinref6_Writer_Bytes : FuncId := 23
def fn_palanquinref1_Same : FuncId := 21
def fn_palanquinlaw6_BitsNS : FuncId := 4
def fn_palanquinlaw6_BitsTakes : FuncId := 5
def fn_bits_Over : FuncId := 24
def fn_bits_Reader_TakeNS : FuncId := 25
def fn_bits_Reader_Take : FuncId := 27
def fn_bits_Reader_Left : FuncId := 29
def fn_palanquinref6_Reader_TakeNS : FuncId := 26
def fn_palanquinref6_Reader_Take : FuncId := 28
def fn_palanquinref6_Reader_Left : FuncId := 30
def fn_palanquinref6_Reader_bit : FuncId := 55
def fn_palanquinlaw6_BitsKnown : FuncId := 6
def fn_palanquinlaw6_BitsBack : FuncId := 7
def fn_palanquinlaw9_DependSays : FuncId := 8
def fn_palanquinlaw9_awake : FuncId := 31
def fn_palanquinlaw9_plain : FuncId := 51
def fn_depend_Bytes : FuncId := 38
def fn_depend_Good : FuncId := 43
def fn_depend_Of : FuncId := 36
def fn_depend_holds : FuncId := 56
def fn_depend_Fine : FuncId := 40
def fn_depend_within : FuncId := 66
def fn_depend_within_1 : FuncId := 94
def fn_slices_ContainsFunc_int_int : FuncId := 93
def fn_slices_IndexFunc_int_int : FuncId := 102
def fn_depend_layers : FuncId := 67
def fn_depend_next : FuncId := 92
def fn_depend_spatial : FuncId := 68
def fn_depend_Fine_1 : FuncId := 70
def fn_depend_Structure_fine : FuncId := 71
def fn_depend_diffs : FuncId := 77
def fn_slices_ContainsFunc_depend_Template_depend_Template : FuncId := 69
def fn_slices_IndexFunc_depend_Template_depend_Template : FuncId := 95
def fn_depend_template : FuncId := 57
def fn_depend_copied : FuncId := 91
def fn_slices_Clone_int_int : FuncId := 101
def fn_depend_none : FuncId := 75
def fn_slices_Equal_int_int : FuncId := 76
def fn_depend_writer_bit : FuncId := 59
def fn_depend_writer_num : FuncId := 60
def fn_depend_writer_structure : FuncId := 61
def fn_depend_writer_nums : FuncId := 62
def fn_depend_writer_own : FuncId := 63
def fn_palanquinlaw9_long : FuncId := 32
def fn_palanquinlaw9_heavy : FuncId := 33
def fn_palanquinhelp_Frame : FuncId := 34
def fn_palanquinhelp_Structure : FuncId := 35
def fn_palanquinref9_Of : FuncId := 37
def fn_palanquinref9_holds : FuncId := 58
def fn_palanquinref9_Fine : FuncId := 41
def fn_palanquinref9_step : FuncId := 72
def fn_palanquinref9_within : FuncId := 73
def fn_palanquinref9_top : FuncId := 74
def fn_palanquinref9_Bytes : FuncId := 39
def fn_palanquinref9_Good : FuncId := 44
def fn_palanquinref9_zero : FuncId := 78
def fn_palanquinref9_SameInts : FuncId := 42
def fn_palanquinref9_one : FuncId := 64
def fn_palanquinref9_writes : FuncId := 65
def fn_palanquinlaw9_DependLayers : FuncId := 9
def fn_depend_Layers : FuncId := 45
def fn_palanquinref9_Layers : FuncId := 46
def fn_palanquinlaw9_DependReads : FuncId := 10
def fn_depend_Parse : FuncId := 47
def fn_depend_reader_bit : FuncId := 79
def fn_depend_reader_num : FuncId := 80
def fn_depend_reader_structure : FuncId := 81
def fn_depend_reader_templates : FuncId := 96
def fn_depend_reader_fail : FuncId := 82
def fn_depend_reader_nums : FuncId := 83
def fn_depend_reader_diffs : FuncId := 97
def fn_depend_reader_ns : FuncId := 98
def fn_depend_reader_own : FuncId := 84
def fn_palanquinref9_Parse : FuncId := 48
def fn_palanquinref9_reader_n : FuncId := 85
def fn_palanquinref9_reader_structure : FuncId := 86
def fn_palanquinref9_reader_layers : FuncId := 99
def fn_palanquinref9_reader_bad : FuncId := 87
def fn_palanquinref9_reader_ns : FuncId := 100
def fn_palanquinref9_reader_own : FuncId := 88
def fn_palanquinref9_SameFrame : FuncId := 49
def fn_palanquinref9_SameStructure : FuncId := 89
def fn_palanquinlaw9_DependBack : FuncId := 11
def fn_palanquinlaw9_DependNumber : FuncId := 12
def fn_depend_Number : FuncId := 50
def fn_bytes_Clone : FuncId := 90
def fn_palanquinlaw9_DependKnown : FuncId := 13

def hintRows : List (Nat × List (List Nat)) := [
  (fn_palanquinlaw6_BitsSays, [[], [5], [], [0, 1, 2, 3, 4, 6, 7, 8, 9, 10, 5, 11, 12], [7, 8], [0, 1, 2, 3, 4, 6, 7, 8, 9, 10, 5, 11, 12, 13], [0, 1, 2, 3, 4, 6, 7, 8, 9, 10, 5, 11, 12, 13]]),
  (fn_bits_New, []),
  (fn_palanquinlaw6_awake, []),
  (fn_bits_Writer_Add, [[], [7], [], [], [0, 1, 2, 3, 4, 5, 6, 7, 8, 9, 10, 11, 12, 13, 14, 15, 16, 17, 18, 19], []]),
  (fn_math_bits_Len64, [[0, 2], [0, 2], [0, 2]]),
  (fn_bits_Writer_Bytes, []),
  (fn_bits_Writer_Len, []),
  (fn_bits_Writer_AddNS, []),
  (fn_bits_short, [[0, 1, 2, 3, 4, 5, 6]]),
  (fn_palanquinref6_Writer_AddNS, []),
  (fn_palanquinref6_width, [[4], [4, 5], [4]]),
  (fn_palanquinref6_Writer_Add, [[], [7], []]),
  (fn_palanquinref6_Writer_Bytes, [[], [4], [], []]),
  (fn_palanquinref1_Same, []),
  (fn_palanquinlaw6_BitsNS, [[0, 1, 2, 3, 4, 5, 6, 7, 8, 9]]),
  (fn_palanquinlaw6_BitsTakes, [[], [7], [], [8, 9, 10, 11]]),
  (fn_bits_Over, []),
  (fn_bits_Reader_TakeNS, []),
  (fn_bits_Reader_Take, [[6], [6, 20], [6], [0, 1, 2, 3, 4, 5, 6, 7, 8, 9, 10, 11, 12, 13, 14, 15, 16, 17, 18, 19, 20, 21, 22, 23], []]),
  (fn_bits_Reader_Left, [[0, 1, 2, 3, 4, 5, 6, 7, 8, 9, 10, 11]]),
  (fn_palanquinref6_Reader_TakeNS, []),
  (fn_palanquinref6_Reader_Take, [[6], [6, 7], [6]]),
  (fn_palanquinref6_Reader_Left, [[0, 1, 2, 3, 4, 5, 6, 7, 8, 9, 10, 11]]),
  (fn_palanquinref6_Reader_bit, [[0, 1, 2, 3, 4, 5, 6, 7, 8, 9, 10, 11, 12, 13, 14, 15, 16, 17, 18, 19, 20]]),
  (fn_palanquinlaw6_BitsKnown, []),
  (fn_palanquinlaw6_BitsBack, [[], [8], [], [9, 10], [4], [4, 5], [4], [4], [6], [0, 1, 2, 3, 4, 5, 6, 7, 8, 9, 10, 11, 12], [0, 1, 2, 3, 4, 5, 6, 7, 8, 9, 10, 11, 12]]),
  (fn_palanquinlaw9_DependSays, [[0, 2, 1, 3, 4, 5, 6, 7, 8, 9, 10, 11, 12, 13, 14, 15, 16, 17, 18, 19, 20, 21, 22, 23, 24, 25, 26, 27, 28, 29, 30, 31, 32, 33, 34, 35, 36, 37, 38, 39, 40, 41, 42, 43, 44, 45, 46, 47, 48, 49, 50, 51, 52, 53, 54, 55, 56, 57, 58, 59, 60, 61, 62, 63, 64, 65, 66, 67, 68, 69, 70, 71, 72, 73], [0, 2, 1, 3, 4, 5, 6, 7]]),
  (fn_palanquinlaw9_awake, []),
  (fn_palanquinlaw9_plain, []),
  (fn_depend_Bytes, [[], [], [], [], [0, 1, 2, 3, 4, 5, 6, 7, 8], [], [], [70], []]),
  (fn_depend_Good, [[]]),
  (fn_depend_Of, []),
  (fn_depend_holds, []),
  (fn_depend_Fine, [[], [71], [], [3]]),
  (fn_depend_within, []),
  (fn_depend_within_1, []),
  (fn_slices_ContainsFunc_int_int, []),
  (fn_slices_IndexFunc_int_int, [[], [8], []]),
  (fn_depend_layers, [[], [12], []]),
  (fn_depend_next, [[]]),
  (fn_depend_spatial, [[3], [3, 9], [3]]),
  (fn_depend_Fine_1, []),
  (fn_depend_Structure_fine, []),
  (fn_depend_diffs, []),
  (fn_slices_ContainsFunc_depend_Template_depend_Template, []),
  (fn_slices_IndexFunc_depend_Template_depend_Template, [[], [8], []]),
  (fn_depend_template, []),
  (fn_depend_copied, [[0, 1, 3, 4, 6, 7, 2, 5, 8, 9, 10, 11, 12, 13, 14]]),
  (fn_slices_Clone_int_int, []),
  (fn_depend_none, []),
  (fn_slices_Equal_int_int, [[], [13], [], [0, 1, 2, 3, 4, 5, 6, 7, 8]]),
  (fn_depend_writer_bit, [[4]]),
  (fn_depend_writer_num, []),
  (fn_depend_writer_structure, [[], [144], [], [], [], [126], [], [], [110], [], [], [73], [], [], [80], [], [], [61], [], [], [30], [], [5], [0, 1, 2, 3, 4, 5, 6, 7, 8, 9, 10, 11, 12, 13, 14, 15]]),
  (fn_depend_writer_nums, [[], [10], []]),
  (fn_depend_writer_own, [[], [9], [], [6], [6], [6]]),
  (fn_palanquinlaw9_long, []),
  (fn_palanquinlaw9_heavy, [[3], [3, 4], [3]]),
  (fn_palanquinhelp_Frame, [[0, 1, 2, 3, 4, 5, 6, 7, 8, 9, 10, 11, 13, 14, 15, 16, 17, 18, 19, 20, 21, 22, 23, 24, 25, 26, 27, 28, 12, 29, 30]]),
  (fn_palanquinhelp_Structure, [[], [4], [], [0, 1, 2, 3, 4, 5, 6, 7, 8, 9, 10]]),
  (fn_palanquinref9_Of, []),
  (fn_palanquinref9_holds, []),
  (fn_palanquinref9_Fine, [[], [7], [], [0, 1, 2, 3, 4, 5, 6, 7, 8, 9, 10, 11, 12, 13, 14], [0, 1, 2, 3, 4, 5, 6, 7, 8, 9, 10, 11, 12, 13, 17, 18, 14, 15, 16, 19, 20, 21, 22], [6], [], [4], [], [0, 1, 2, 3, 4, 5, 6, 7, 8, 9, 10, 11, 12]]),
  (fn_palanquinref9_step, [[]]),
  (fn_palanquinref9_within, [[], [9], []]),
  (fn_palanquinref9_top, [[3], [3, 4], [3]]),
  (fn_palanquinref9_Bytes, [[], [10], [], [], [], [8], [], [9], [9], [9], [], [7], [], [], [0, 1, 2, 3, 4, 5, 6, 7, 8], []]),
  (fn_palanquinref9_Good, []),
  (fn_palanquinref9_zero, []),
  (fn_palanquinref9_SameInts, [[], [5], [], [0, 1, 2, 3, 4, 5, 6, 7, 8]]),
  (fn_palanquinref9_one, []),
  (fn_palanquinref9_writes, [[], [14], [], [], [], [12], [], [], [13], [], [], [11], [], [0, 1, 2, 3, 4, 5, 6, 7, 8, 9, 10], [], [9], [], [], [10], [], [], [7], [], [], [8], [], [], [5], [], [6], [0, 1, 2, 3, 4, 5, 6, 7, 8, 9, 10, 11, 12]]),
  (fn_palanquinlaw9_DependLayers, [[11, 12], [11, 12, 13], [11, 12], [0, 1, 2, 3, 4, 5, 6, 7, 8, 9, 10, 11, 12, 13, 14, 15]]),
  (fn_depend_Layers, [[4, 5, 6], [4, 5, 6, 25], [4, 5, 6], [4, 5, 6], [0, 1, 2, 3, 4, 5, 6, 7, 8, 9, 10]]),
  (fn_palanquinref9_Layers, [[7, 8, 9], [7, 8, 9, 10], [7, 8, 9], [7, 8, 9], [0, 1, 2, 3, 4, 5, 6, 7, 8, 9, 10, 11, 12, 13, 14, 15, 16, 17, 18]]),
  (fn_palanquinlaw9_DependReads, [[0, 1, 2, 3, 4, 6, 5, 7, 8, 9]]),
  (fn_depend_Parse, [[0, 1, 2, 3, 4, 5, 6], [], [], [], [], [], [], [], [0, 1, 2, 3, 4, 5, 6, 7, 8, 9, 10, 11], [], [], [], [0, 1, 2, 3, 4, 5, 6], [], []]),
  (fn_depend_reader_bit, []),
  (fn_depend_reader_num, []),
  (fn_depend_reader_structure, [[], [], [89], [], [0, 1, 2, 5, 3, 6, 4, 7, 8, 9, 10, 11, 12], [], [], [72], [], [0, 1, 2, 3, 4, 5, 6, 7, 8, 9], [], [57], [], [0, 1, 2, 3, 4, 5, 6, 7, 8, 9], [], [35], [], [0, 1, 2, 3, 4, 5, 6, 7], [], [19], [], [0, 1, 2, 3, 4, 5, 6, 7, 8, 9]]),
  (fn_depend_reader_templates, [[3], [3], [3], [], [], [], [], [0, 1, 2, 3, 4, 5, 6, 7, 8, 9, 10, 11, 12, 13, 14, 15, 16]]),
  (fn_depend_reader_fail, [[]]),
  (fn_depend_reader_nums, [[7], [7, 9], [7]]),
  (fn_depend_reader_diffs, [[3], [3], [3]]),
  (fn_depend_reader_ns, []),
  (fn_depend_reader_own, [[3], [3, 4], [3]]),
  (fn_palanquinref9_Parse, [[0, 1, 2, 3, 4, 5, 6], [], [], [], [], [0, 1, 2, 3, 4, 5, 6], [], [], [], []]),
  (fn_palanquinref9_reader_n, []),
  (fn_palanquinref9_reader_structure, [[], [], [10], [], [], [], [8], [], [], [9], [], [0, 1, 2, 3, 4, 5, 6, 7, 8, 9, 10, 11, 12, 13, 14, 15], [], [7], [], [0, 1, 2, 3, 4, 5, 6, 7, 8, 9], [], [6], [], [], [], [], [0, 1, 2, 3, 4, 5, 6, 7, 8, 9, 10, 11, 12, 13, 14, 15, 16], [], [4], [], [], [5], [], [0, 1, 2, 3, 4, 5, 6, 7, 8, 9, 10, 11, 12, 13, 14, 15]]),
  (fn_palanquinref9_reader_layers, [[3], [3], [3], [], [], [0, 1, 2, 3, 4, 5, 6, 7, 8, 9, 10, 11, 12, 13, 14, 15, 16]]),
  (fn_palanquinref9_reader_bad, [[]]),
  (fn_palanquinref9_reader_ns, []),
  (fn_palanquinref9_reader_own, [[], [], [10], [], [0, 1, 2, 3, 4, 5, 6, 7, 8, 9, 10, 11], [], [], [9], [], [0, 1, 2, 3, 4, 5, 6, 7, 8, 9, 10, 11, 12, 13, 14], [], [], [8], [], [0, 1, 2, 3, 4, 5, 6, 7, 8, 9, 10, 11], [0, 1, 2, 4, 5, 8, 9, 12, 13, 3, 6, 7, 10, 11, 14, 15, 16, 17, 18, 19, 20, 21, 22, 23]]),
  (fn_palanquinref9_SameFrame, []),
  (fn_palanquinref9_SameStructure, [[], [8], [], [0, 1, 2, 3, 4, 5, 6, 7, 8, 9, 10], [], [5], [], [0, 1, 2, 3, 4, 5, 6, 7, 8, 9, 10, 11, 12, 13]]),
  (fn_palanquinlaw9_DependBack, [[0, 1, 2, 3, 4, 5, 6, 7, 8, 9, 10, 11, 12, 13, 14, 15, 16, 17, 18], [], [0, 1, 2, 3, 5, 4, 6, 7, 8, 9]]),
  (fn_palanquinlaw9_DependNumber, [[0, 2, 1, 3, 4, 5]]),
  (fn_depend_Number, [[]]),
  (fn_bytes_Clone, []),
  (fn_palanquinlaw9_DependKnown, [])]

def hintOf : List (Nat × List (List Nat)) → FuncId → List (List Nat)
  | [], _ => []
  | (g, h) :: l, f => if g = f then h else hintOf l f

noncomputable def T : FuncId → Option Fn' := table Try.prog (hintOf hintRows)

theorem sound : SemOk Try.prog (sem T) := sem_ok _ _

end Go.Ax
