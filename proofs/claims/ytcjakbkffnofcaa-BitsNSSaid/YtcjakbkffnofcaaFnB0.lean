/-
  The functions of this seat as plain texts: printed by program (wip/gen/Emit.lean): part 0: numbers, hints, the table.
-/
import Derived.Test.YtcjakbkffnofcaaAx20
import Derived.Test.YtcjakbkffnofcaaProg
import Derived.KernelRfl
namespace Go.Ax
open Go.Proofs

def ty_ : TypeId := 0
def ty_func : TypeId := 1
def ty_int64 : TypeId := 2
def ty_int : TypeId := 3
def ty_bool : TypeId := 4
def ty_uint8 : TypeId := 5
def ty_abi_BoundsErrorCode : TypeId := 6
def ty_struct_x_int64_y_int_signed_bool_code_abi_BoundsErrorCode : TypeId := 7
def ty_runtime_boundsError : TypeId := 8
def ty_string : TypeId := 9
def ty_runtime_errorString : TypeId := 10
def ty_runtime_plainError : TypeId := 11
def ty_uintptr : TypeId := 12
def ty_struct_msg_string_addr_uintptr : TypeId := 13
def ty_runtime_errorAddressString : TypeId := 14
def ty_p_runtime_TypeAssertionError : TypeId := 15
def ty_p_runtime_PanicNilError : TypeId := 16
def ty_p_abi_Type : TypeId := 17
def ty_struct_typ_p_abi_Type : TypeId := 18
def ty_maps_unhashableTypeError : TypeId := 19
def ty_interface : TypeId := 20
def ty_int32 : TypeId := 21
def ty_sl_palanquinlaw6_Step : TypeId := 22
def ty_p_bits_Writer : TypeId := 23
def ty_func_p_bits_Writer : TypeId := 24
def ty_p_palanquinref6_Writer : TypeId := 25
def ty_sl_bool : TypeId := 26
def ty_struct_L_sl_bool : TypeId := 27
def ty_palanquinref6_Writer : TypeId := 28
def ty_func_bool : TypeId := 29
def ty_uint64 : TypeId := 30
def ty_struct_V_uint64_M_uint64_N_int_NS_bool : TypeId := 31
def ty_palanquinlaw6_Step : TypeId := 32
def ty_api_Errno : TypeId := 33
def ty_func_uint64_uint64_api_Errno : TypeId := 34
def ty_func_uint64_int_api_Errno : TypeId := 35
def ty_func_int : TypeId := 36
def ty_func_sl_uint8_sl_uint8_bool : TypeId := 37
def ty_sl_uint8 : TypeId := 38
def ty_func_sl_uint8 : TypeId := 39
def ty_func_sl_palanquinlaw6_Step_bool : TypeId := 40
def ty_uint16 : TypeId := 41
def ty_func_uint16_uint16_uint16_bool : TypeId := 42
def ty_p_bits_Reader : TypeId := 43
def ty_func_sl_uint8_p_bits_Reader : TypeId := 44
def ty_p_palanquinref6_Reader : TypeId := 45
def ty_struct_B_sl_uint8_At_int : TypeId := 46
def ty_palanquinref6_Reader : TypeId := 47
def ty_uint64_api_Errno : TypeId := 48
def ty_func_uint64_uint64_api_Errno_2 : TypeId := 49
def ty_func_int_uint64_api_Errno : TypeId := 50
def ty_func_sl_uint8_sl_palanquinlaw6_Step_bool : TypeId := 51
def ty_sl_depend_Template : TypeId := 52
def ty_sl_int : TypeId := 53
def ty_sl_2_int : TypeId := 54
def ty_struct_Offset_int_Targets_int_Templates_sl_depend_Template_Chains_int_Protected_sl_int_Sizes_sl_2_int : TypeId := 55
def ty_depend_Structure : TypeId := 56
def ty_uint32 : TypeId := 57
def ty_struct_Start_bool_End_bool_ID_int_Number_uint16_New_bool_Structure_depend_Structure_HasActive_bool_Active_uint32_OwnDTI_bool_OwnDiffs_bool_OwnChains_bool_DTI_sl_int_Diffs_sl_int_Chains_sl_int : TypeId := 58
def ty_depend_Frame : TypeId := 59
def ty_func_depend_Frame_bool : TypeId := 60
def ty_func_depend_Structure_bool : TypeId := 61
def ty_sl_palanquinref9_Template : TypeId := 62
def ty_struct_Offset_int_Targets_int_Templates_sl_palanquinref9_Template_Chains_int_Protected_sl_int_Sizes_sl_2_int : TypeId := 63
def ty_palanquinref9_Structure : TypeId := 64
def ty_struct_Start_bool_End_bool_ID_int_Number_uint16_New_bool_Structure_palanquinref9_Structure_HasActive_bool_Active_uint32_OwnDTI_bool_OwnDiffs_bool_OwnChains_bool_DTI_sl_int_Diffs_sl_int_Chains_sl_int : TypeId := 65
def ty_palanquinref9_Frame : TypeId := 66
def ty_func_depend_Frame_palanquinref9_Frame : TypeId := 67
def ty_func_depend_Structure_palanquinref9_Structure : TypeId := 68
def ty_struct_Spatial_int_Temporal_int_DTI_sl_int_Diffs_sl_int_Chains_sl_int : TypeId := 69
def ty_depend_Template : TypeId := 70
def ty_depend_Template_bool : TypeId := 71
def ty_func_depend_Frame_depend_Structure_depend_Template_bool : TypeId := 72
def ty_palanquinref9_Template : TypeId := 73
def ty_palanquinref9_Template_bool : TypeId := 74
def ty_func_palanquinref9_Frame_palanquinref9_Structure_palanquinref9_Template_bool : TypeId := 75
def ty_sl_uint8_api_Errno : TypeId := 76
def ty_func_depend_Frame_depend_Structure_sl_uint8_api_Errno : TypeId := 77
def ty_func_palanquinref9_Frame_palanquinref9_Structure_sl_uint8_api_Errno : TypeId := 78
def ty_func_palanquinref9_Structure_bool : TypeId := 79
def ty_func_sl_int_sl_int_bool : TypeId := 80
def ty_func_depend_Frame_depend_Structure_bool : TypeId := 81
def ty_func_palanquinref9_Frame_palanquinref9_Structure_bool : TypeId := 82
def ty_int_int_bool : TypeId := 83
def ty_func_depend_Structure_int_int_int_bool : TypeId := 84
def ty_func_palanquinref9_Structure_int_int_int_bool : TypeId := 85
def ty_func_depend_Structure_int_bool : TypeId := 86
def ty_depend_Frame_api_Errno : TypeId := 87
def ty_func_sl_uint8_depend_Structure_depend_Frame_api_Errno : TypeId := 88
def ty_palanquinref9_Frame_api_Errno : TypeId := 89
def ty_func_sl_uint8_palanquinref9_Structure_palanquinref9_Frame_api_Errno : TypeId := 90
def ty_func_palanquinref9_Frame_palanquinref9_Frame_bool : TypeId := 91
def ty_func_sl_uint8_depend_Structure_bool : TypeId := 92
def ty_func_depend_Frame_depend_Structure_sl_uint8_bool : TypeId := 93
def ty_func_sl_uint8_uint16_sl_uint8 : TypeId := 94
def ty_func_sl_uint8_depend_Structure_uint16_bool : TypeId := 95
def ty_func_depend_Structure : TypeId := 96
def ty_struct_b_sl_uint8_n_int : TypeId := 97
def ty_bits_Writer : TypeId := 98
def ty_int_uint64 : TypeId := 99
def ty_func_uint64_int_uint64 : TypeId := 100
def ty_func_uint64_int : TypeId := 101
def ty_uint : TypeId := 102
def ty_struct_b_sl_uint8_at_int : TypeId := 103
def ty_bits_Reader : TypeId := 104
def ty_func_uint64 : TypeId := 105
def ty_func_depend_Frame_depend_Structure_depend_Structure : TypeId := 106
def ty_func_depend_Structure_int_depend_Template_bool : TypeId := 107
def ty_func_palanquinref9_Frame_palanquinref9_Structure_palanquinref9_Structure : TypeId := 108
def ty_struct_p_bits_Writer : TypeId := 109
def ty_depend_writer : TypeId := 110
def ty_func_bool_2 : TypeId := 111
def ty_func_int_int : TypeId := 112
def ty_func_depend_Structure_2 : TypeId := 113
def ty_func_sl_int_int : TypeId := 114
def ty_func_sl_int : TypeId := 115
def ty_func_bool_uint64 : TypeId := 116
def ty_func_p_palanquinref6_Writer_palanquinref9_Structure : TypeId := 117
def ty_func_sl_int_int_int_int_bool : TypeId := 118
def ty_func_depend_Structure_int : TypeId := 119
def ty_2_int : TypeId := 120
def ty_func_sl_depend_Template_func_depend_Template_bool_bool : TypeId := 121
def ty_func_depend_Template_bool : TypeId := 122
def ty_func_palanquinref9_Template_palanquinref9_Template_int : TypeId := 123
def ty_func_palanquinref9_Structure_int : TypeId := 124
def ty_func_sl_int_int_int_bool : TypeId := 125
def ty_p_depend_reader : TypeId := 126
def ty_struct_p_bits_Reader_e_api_Errno : TypeId := 127
def ty_depend_reader : TypeId := 128
def ty_func_int_int_2 : TypeId := 129
def ty_func_api_Errno : TypeId := 130
def ty_func_int_int_sl_int : TypeId := 131
def ty_func_sl_int_2 : TypeId := 132
def ty_p_palanquinref9_reader : TypeId := 133
def ty_struct_r_p_palanquinref6_Reader_e_api_Errno : TypeId := 134
def ty_palanquinref9_reader : TypeId := 135
def ty_func_palanquinref9_Structure : TypeId := 136
def ty_func_p_palanquinref9_Frame_palanquinref9_Template_palanquinref9_Structure : TypeId := 137
def ty_p_palanquinref9_Frame : TypeId := 138
def ty_func_palanquinref9_Structure_palanquinref9_Structure_bool : TypeId := 139
def ty_func_sl_uint8_sl_uint8 : TypeId := 140
def ty_func_depend_Template_depend_Template : TypeId := 141
def ty_int_bool : TypeId := 142
def ty_func_depend_Template_depend_Template_int_bool : TypeId := 143
def ty_func_sl_int_func_int_bool_bool : TypeId := 144
def ty_func_int_bool : TypeId := 145
def ty_func_sl_depend_Template_func_depend_Template_bool_int : TypeId := 146
def ty_func_sl_depend_Template : TypeId := 147
def ty_func_sl_palanquinref9_Template : TypeId := 148
def ty_func_sl_int_sl_int : TypeId := 149
def ty_func_sl_int_func_int_bool_int : TypeId := 150
def ty_func_string : TypeId := 151
def ty_struct_interface_p_abi_Type_concrete_p_abi_Type_asserted_p_abi_Type_missingMethod_string : TypeId := 152
def ty_runtime_TypeAssertionError : TypeId := 153
def ty_0_p_runtime_PanicNilError : TypeId := 154
def ty_struct_0_p_runtime_PanicNilError : TypeId := 155
def ty_runtime_PanicNilError : TypeId := 156
def ty_abi_TFlag : TypeId := 157
def ty_abi_Kind : TypeId := 158
def ty_func_unsafe_Pointer_unsafe_Pointer_bool : TypeId := 159
def ty_p_uint8 : TypeId := 160
def ty_abi_NameOff : TypeId := 161
def ty_abi_TypeOff : TypeId := 162
def ty_struct_Size_uintptr_PtrBytes_uintptr_Hash_uint32_TFlag_abi_TFlag_Align_uint8_FieldAlign_uint8_Kind_abi_Kind_Equal_func_unsafe_Pointer_unsafe_Pointer_bool_GCData_p_uint8_Str_abi_NameOff_PtrToThis_abi_TypeOff : TypeId := 163
def ty_abi_Type : TypeId := 164
def ty_unsafe_Pointer : TypeId := 165

def fn_palanquinlaw6_BitsSays : FuncId := 3
def fn_bits_New : FuncId := 14
def fn_palanquinlaw6_awake : FuncId := 15
def fn_bits_Writer_Add : FuncId := 18
def fn_math_bits_Len64 : FuncId := 54
def fn_bits_Writer_Bytes : FuncId := 22
def fn_bits_Writer_Len : FuncId := 20
def fn_bits_Writer_AddNS : FuncId := 16
def fn_bits_short : FuncId := 52
def fn_palanquinref6_Writer_AddNS : FuncId := 17
def fn_palanquinref6_width : FuncId := 53
def fn_palanquinref6_Writer_Add : FuncId := 19
def fn_palanquinref6_Writer_Bytes : FuncId := 23
def fn_palanquinref1_Same : FuncId := 21
def fn_palanquinlaw6_BitsNS : FuncId := 4
def fn_palanquinlaw6_BitsTakes : FuncId := 5
def fn_bits_Over : FuncId := 24
def fn_bits_Reader_TakeNS : FuncId := 25
def fn_bits_Reader_Take : FuncId := 27
def fn_bits_Reader_Left : FuncId := 29
def fn_palanquinref6_Reader_TakeNS : FuncId := 26
def fn_palanquinref6_Reader_Take : FuncId := 28
def fn_palanquinref6_Reader_Left : FuncId := 30
def fn_palanquinref6_Reader_bit : FuncId := 55
def fn_palanquinlaw6_BitsBack : FuncId := 7

def hintRows : List (Nat × List (List Nat)) := [
  (fn_palanquinlaw6_BitsSays, [[], [5], [], [0, 1, 2, 3, 4, 6, 7, 8, 9, 10, 5, 11, 12], [7, 8], [0, 1, 2, 3, 4, 6, 7, 8, 9, 10, 5, 11, 12, 13], [0, 1, 2, 3, 4, 6, 7, 8, 9, 10, 5, 11, 12, 13]]),
  (fn_bits_New, []),
  (fn_palanquinlaw6_awake, []),
  (fn_bits_Writer_Add, [[], [7], [], [], [0, 1, 2, 3, 4, 5, 6, 7, 8, 9, 10, 11, 12, 13, 14, 15, 16, 17, 18, 19], []]),
  (fn_math_bits_Len64, [[0, 2], [0, 2], [0, 2]]),
  (fn_bits_Writer_Bytes, []),
  (fn_bits_Writer_Len, []),
  (fn_bits_Writer_AddNS, []),
  (fn_bits_short, [[0, 1, 2, 3, 4, 5, 6]]),
  (fn_palanquinref6_Writer_AddNS, []),
  (fn_palanquinref6_width, [[4], [4, 5], [4]]),
  (fn_palanquinref6_Writer_Add, [[], [7], []]),
  (fn_palanquinref6_Writer_Bytes, [[], [4], [], []]),
  (fn_palanquinref1_Same, []),
  (fn_palanquinlaw6_BitsNS, [[0, 1, 2, 3, 4, 5, 6, 7, 8, 9]]),
  (fn_palanquinlaw6_BitsTakes, [[], [7], [], [8, 9, 10, 11]]),
  (fn_bits_Over, []),
  (fn_bits_Reader_TakeNS, []),
  (fn_bits_Reader_Take, [[6], [6, 20], [6], [0, 1, 2, 3, 4, 5, 6, 7, 8, 9, 10, 11, 12, 13, 14, 15, 16, 17, 18, 19, 20, 21, 22, 23], []]),
  (fn_bits_Reader_Left, [[0, 1, 2, 3, 4, 5, 6, 7, 8, 9, 10, 11]]),
  (fn_palanquinref6_Reader_TakeNS, []),
  (fn_palanquinref6_Reader_Take, [[6], [6, 7], [6]]),
  (fn_palanquinref6_Reader_Left, [[0, 1, 2, 3, 4, 5, 6, 7, 8, 9, 10, 11]]),
  (fn_palanquinref6_Reader_bit, [[0, 1, 2, 3, 4, 5, 6, 7, 8, 9, 10, 11, 12, 13, 14, 15, 16, 17, 18, 19, 20]]),
  (fn_palanquinlaw6_BitsBack, [[], [8], [], [9, 10], [4], [4, 5], [4], [4], [6], [0, 1, 2, 3, 4, 5, 6, 7, 8, 9, 10, 11, 12], [0, 1, 2, 3, 4, 5, 6, 7, 8, 9, 10, 11, 12]])]

def hintOf : List (Nat × List (List Nat)) → FuncId → List (List Nat)
  | [], _ => []
  | (g, h) :: l, f => if g = f then h else hintOf l f

noncomputable def T : FuncId → Option Fn' := table Try.prog (hintOf hintRows)

theorem sound : SemOk Try.prog (sem T) := sem_ok _ _

end Go.Ax
