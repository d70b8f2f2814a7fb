/-
  Texts of mine, put together by program (wip/slim.py), for law_dependBack: part 5.
-/
import Derived.Test.YtblfcdaedibdnaaRk4
import Derived.Test.YtblfcdaedibdnaaProg
import Derived.KernelRfl
/- FnD0 -/
namespace Go.Ax
open Go.Proofs
def ty_int : TypeId := 3
def ty_bool : TypeId := 4
def ty_uint8 : TypeId := 5
def ty_depend_Structure : TypeId := 26
def ty_depend_Frame : TypeId := 30
def ty_palanquinref9_Structure : TypeId := 39
def ty_palanquinref9_Frame : TypeId := 44
def ty_depend_Template : TypeId := 54
def ty_palanquinref9_Template : TypeId := 57
def ty_depend_writer : TypeId := 135
def ty_palanquinref6_Writer : TypeId := 145
def ty_2_int : TypeId := 151
def ty_depend_reader : TypeId := 176
def ty_palanquinref6_Reader : TypeId := 185
def ty_palanquinref9_reader : TypeId := 187
def ty_bits_Writer : TypeId := 204
def ty_bits_Reader : TypeId := 224
def fn_palanquinlaw20_PickSays : FuncId := 3
def fn_palanquinlaw20_awake : FuncId := 14
def fn_palanquinlaw20_three : FuncId := 60
def fn_pick_Fits : FuncId := 16
def fn_depend_Fine : FuncId := 32
def fn_depend_within : FuncId := 76
def fn_depend_within_1 : FuncId := 127
def fn_slices_ContainsFunc_int_int : FuncId := 126
def fn_slices_IndexFunc_int_int : FuncId := 154
def fn_depend_layers : FuncId := 77
def fn_depend_next : FuncId := 123
def fn_depend_spatial : FuncId := 78
def fn_depend_Fine_1 : FuncId := 80
def fn_depend_Structure_fine : FuncId := 81
def fn_depend_diffs : FuncId := 87
def fn_slices_ContainsFunc_depend_Template_depend_Template : FuncId := 79
def fn_slices_IndexFunc_depend_Template_depend_Template : FuncId := 128
def fn_depend_Layers : FuncId := 23
def fn_pick_Source : FuncId := 21
def fn_pick_In : FuncId := 19
def fn_palanquinlaw20_heavy : FuncId := 15
def fn_palanquinhelp_Structure : FuncId := 18
def fn_palanquinref20_Fits : FuncId := 17
def fn_palanquinref9_Layers : FuncId := 38
def fn_palanquinref9_Fine : FuncId := 33
def fn_palanquinref9_step : FuncId := 82
def fn_palanquinref9_within : FuncId := 83
def fn_palanquinref9_top : FuncId := 84
def fn_palanquinref20_In : FuncId := 20
def fn_palanquinref20_Source : FuncId := 22
def fn_palanquinlaw20_PickBest : FuncId := 4
def fn_palanquinlaw9_DependSays : FuncId := 5
def fn_palanquinlaw9_awake : FuncId := 24
def fn_palanquinlaw9_plain : FuncId := 61
def fn_depend_Bytes : FuncId := 30
def fn_depend_Good : FuncId := 35
def fn_depend_Of : FuncId := 28
def fn_depend_holds : FuncId := 62
def fn_depend_template : FuncId := 63
def fn_depend_copied : FuncId := 121
def fn_slices_Clone_int_int : FuncId := 150
def fn_depend_none : FuncId := 85
def fn_slices_Equal_int_int : FuncId := 86
def fn_bits_New : FuncId := 65
def fn_depend_writer_bit : FuncId := 66
def fn_depend_writer_num : FuncId := 67
def fn_bits_Writer_Add : FuncId := 122
def fn_math_bits_Len64 : FuncId := 151
def fn_bits_Writer_Bytes : FuncId := 68
def fn_depend_writer_structure : FuncId := 69
def fn_depend_writer_nums : FuncId := 70
def fn_bits_Writer_AddNS : FuncId := 124
def fn_bits_short : FuncId := 152
def fn_depend_writer_own : FuncId := 71
def fn_palanquinlaw9_long : FuncId := 25
def fn_palanquinlaw9_heavy : FuncId := 26
def fn_palanquinhelp_Frame : FuncId := 27
def fn_palanquinref9_Of : FuncId := 29
def fn_palanquinref9_holds : FuncId := 64
def fn_palanquinref9_Bytes : FuncId := 31
def fn_palanquinref9_Good : FuncId := 36
def fn_palanquinref9_zero : FuncId := 88
def fn_palanquinref9_SameInts : FuncId := 34
def fn_palanquinref9_one : FuncId := 73
def fn_palanquinref6_Writer_Add : FuncId := 72
def fn_palanquinref6_Writer_Bytes : FuncId := 74
def fn_palanquinref9_writes : FuncId := 75
def fn_palanquinref6_Writer_AddNS : FuncId := 125
def fn_palanquinref6_width : FuncId := 153
def fn_palanquinref1_Same : FuncId := 37
def fn_palanquinlaw9_DependLayers : FuncId := 6
def fn_palanquinlaw9_DependReads : FuncId := 8
def fn_depend_Parse : FuncId := 46
def fn_bits_Over : FuncId := 98
def fn_depend_reader_bit : FuncId := 99
def fn_depend_reader_num : FuncId := 100
def fn_bits_Reader_Take : FuncId := 143
def fn_bits_Reader_Left : FuncId := 105
def fn_depend_reader_structure : FuncId := 101
def fn_depend_reader_templates : FuncId := 144
def fn_depend_reader_fail : FuncId := 102
def fn_depend_reader_nums : FuncId := 103
def fn_depend_reader_diffs : FuncId := 145
def fn_depend_reader_ns : FuncId := 146
def fn_bits_Reader_TakeNS : FuncId := 165
def fn_depend_reader_own : FuncId := 104
def fn_palanquinref9_Parse : FuncId := 47
def fn_palanquinref9_reader_n : FuncId := 106
def fn_palanquinref6_Reader_Take : FuncId := 147
def fn_palanquinref6_Reader_Left : FuncId := 110
def fn_palanquinref6_Reader_bit : FuncId := 166
def fn_palanquinref9_reader_structure : FuncId := 107
def fn_palanquinref9_reader_layers : FuncId := 148
def fn_palanquinref9_reader_bad : FuncId := 108
def fn_palanquinref9_reader_ns : FuncId := 149
def fn_palanquinref6_Reader_TakeNS : FuncId := 167
def fn_palanquinref9_reader_own : FuncId := 109
def fn_palanquinref9_SameFrame : FuncId := 48
def fn_palanquinref9_SameStructure : FuncId := 111
def fn_palanquinlaw9_DependBack : FuncId := 9
def fn_palanquinlaw9_DependNumber : FuncId := 12
def fn_depend_Number : FuncId := 58
def fn_bytes_Clone : FuncId := 118

def hintRows : List (Nat × List (List Nat)) := [
  (fn_palanquinlaw20_PickSays, [[0, 1, 2, 3, 4, 5, 6, 7, 8, 9, 10, 12, 13, 14, 15, 11, 16, 17, 18, 19, 20, 21, 22, 23, 24, 25, 26, 27, 28]]),
  (fn_palanquinlaw20_awake, []),
  (fn_palanquinlaw20_three, []),
  (fn_pick_Fits, [[10, 13], [10, 11, 12, 13, 23], [10, 11, 12, 13], [10, 11, 12, 13]]),
  (fn_depend_Fine, [[], [71], [], [3]]),
  (fn_depend_within, []),
  (fn_depend_within_1, []),
  (fn_slices_ContainsFunc_int_int, []),
  (fn_slices_IndexFunc_int_int, [[], [8], []]),
  (fn_depend_layers, [[], [12], []]),
  (fn_depend_next, [[]]),
  (fn_depend_spatial, [[3], [3, 9], [3]]),
  (fn_depend_Fine_1, []),
  (fn_depend_Structure_fine, []),
  (fn_depend_diffs, []),
  (fn_slices_ContainsFunc_depend_Template_depend_Template, []),
  (fn_slices_IndexFunc_depend_Template_depend_Template, [[], [8], []]),
  (fn_depend_Layers, [[4, 5, 6], [4, 5, 6, 25], [4, 5, 6], [4, 5, 6], [0, 1, 2, 3, 4, 5, 6, 7, 8, 9, 10]]),
  (fn_pick_Source, [[5, 6], [5, 6, 11], [5, 6], [5], [6]]),
  (fn_pick_In, []),
  (fn_palanquinlaw20_heavy, [[3], [3, 4], [3]]),
  (fn_palanquinhelp_Structure, [[], [4], [], [0, 1, 2, 3, 4, 5, 6, 7, 8, 9, 10]]),
  (fn_palanquinref20_Fits, [[10, 13], [10, 11, 12, 13, 14], [10, 11, 12, 13], [10, 11, 12, 13]]),
  (fn_palanquinref9_Layers, [[7, 8, 9], [7, 8, 9, 10], [7, 8, 9], [7, 8, 9], [0, 1, 2, 3, 4, 5, 6, 7, 8, 9, 10, 11, 12, 13, 14, 15, 16, 17, 18]]),
  (fn_palanquinref9_Fine, [[], [7], [], [0, 1, 2, 3, 4, 5, 6, 7, 8, 9, 10, 11, 12, 13, 14], [0, 1, 2, 3, 4, 5, 6, 7, 8, 9, 10, 11, 12, 13, 17, 18, 14, 15, 16, 19, 20, 21, 22], [6], [], [4], [], [0, 1, 2, 3, 4, 5, 6, 7, 8, 9, 10, 11, 12]]),
  (fn_palanquinref9_step, [[]]),
  (fn_palanquinref9_within, [[], [9], []]),
  (fn_palanquinref9_top, [[3], [3, 4], [3]]),
  (fn_palanquinref20_In, []),
  (fn_palanquinref20_Source, [[5, 6], [5, 6, 7], [5, 6], [5], [6]]),
  (fn_palanquinlaw20_PickBest, [[], [18], []]),
  (fn_palanquinlaw9_DependSays, [[0, 2, 1, 3, 4, 5, 6, 7, 8, 9, 10, 11, 12, 13, 14, 15, 16, 17, 18, 19, 20, 21, 22, 23, 24, 25, 26, 27, 28, 29, 30, 31, 32, 33, 34, 35, 36, 37, 38, 39, 40, 41, 42, 43, 44, 45, 46, 47, 48, 49, 50, 51, 52, 53, 54, 55, 56, 57, 58, 59, 60, 61, 62, 63, 64, 65, 66, 67, 68, 69, 70, 71, 72, 73], [0, 2, 1, 3, 4, 5, 6, 7]]),
  (fn_palanquinlaw9_awake, []),
  (fn_palanquinlaw9_plain, []),
  (fn_depend_Bytes, [[], [], [], [], [0, 1, 2, 3, 4, 5, 6, 7, 8], [], [], [70], []]),
  (fn_depend_Good, [[]]),
  (fn_depend_Of, []),
  (fn_depend_holds, []),
  (fn_depend_template, []),
  (fn_depend_copied, [[0, 1, 3, 4, 6, 7, 2, 5, 8, 9, 10, 11, 12, 13, 14]]),
  (fn_slices_Clone_int_int, []),
  (fn_depend_none, []),
  (fn_slices_Equal_int_int, [[], [13], [], [0, 1, 2, 3, 4, 5, 6, 7, 8]]),
  (fn_bits_New, []),
  (fn_depend_writer_bit, [[4]]),
  (fn_depend_writer_num, []),
  (fn_bits_Writer_Add, [[], [7], [], [], [0, 1, 2, 3, 4, 5, 6, 7, 8, 9, 10, 11, 12, 13, 14, 15, 16, 17, 18, 19], []]),
  (fn_math_bits_Len64, [[0, 2], [0, 2], [0, 2]]),
  (fn_bits_Writer_Bytes, []),
  (fn_depend_writer_structure, [[], [144], [], [], [], [126], [], [], [110], [], [], [73], [], [], [80], [], [], [61], [], [], [30], [], [5], [0, 1, 2, 3, 4, 5, 6, 7, 8, 9, 10, 11, 12, 13, 14, 15]]),
  (fn_depend_writer_nums, [[], [10], []]),
  (fn_bits_Writer_AddNS, []),
  (fn_bits_short, [[0, 1, 2, 3, 4, 5, 6]]),
  (fn_depend_writer_own, [[], [9], [], [6], [6], [6]]),
  (fn_palanquinlaw9_long, []),
  (fn_palanquinlaw9_heavy, [[3], [3, 4], [3]]),
  (fn_palanquinhelp_Frame, [[0, 1, 2, 3, 4, 5, 6, 7, 8, 9, 10, 11, 13, 14, 15, 16, 17, 18, 19, 20, 21, 22, 23, 24, 25, 26, 27, 28, 12, 29, 30]]),
  (fn_palanquinref9_Of, []),
  (fn_palanquinref9_holds, []),
  (fn_palanquinref9_Bytes, [[], [10], [], [], [], [8], [], [9], [9], [9], [], [7], [], [], [0, 1, 2, 3, 4, 5, 6, 7, 8], []]),
  (fn_palanquinref9_Good, []),
  (fn_palanquinref9_zero, []),
  (fn_palanquinref9_SameInts, [[], [5], [], [0, 1, 2, 3, 4, 5, 6, 7, 8]]),
  (fn_palanquinref9_one, []),
  (fn_palanquinref6_Writer_Add, [[], [7], []]),
  (fn_palanquinref6_Writer_Bytes, [[], [4], [], []]),
  (fn_palanquinref9_writes, [[], [14], [], [], [], [12], [], [], [13], [], [], [11], [], [0, 1, 2, 3, 4, 5, 6, 7, 8, 9, 10], [], [9], [], [], [10], [], [], [7], [], [], [8], [], [], [5], [], [6], [0, 1, 2, 3, 4, 5, 6, 7, 8, 9, 10, 11, 12]]),
  (fn_palanquinref6_Writer_AddNS, []),
  (fn_palanquinref6_width, [[4], [4, 5], [4]]),
  (fn_palanquinref1_Same, []),
  (fn_palanquinlaw9_DependLayers, [[11, 12], [11, 12, 13], [11, 12], [0, 1, 2, 3, 4, 5, 6, 7, 8, 9, 10, 11, 12, 13, 14, 15]]),
  (fn_palanquinlaw9_DependReads, [[0, 1, 2, 3, 4, 6, 5, 7, 8, 9]]),
  (fn_depend_Parse, [[0, 1, 2, 3, 4, 5, 6], [], [], [], [], [], [], [], [0, 1, 2, 3, 4, 5, 6, 7, 8, 9, 10, 11], [], [], [], [0, 1, 2, 3, 4, 5, 6], [], []]),
  (fn_bits_Over, []),
  (fn_depend_reader_bit, []),
  (fn_depend_reader_num, []),
  (fn_bits_Reader_Take, [[6], [6, 20], [6], [0, 1, 2, 3, 4, 5, 6, 7, 8, 9, 10, 11, 12, 13, 14, 15, 16, 17, 18, 19, 20, 21, 22, 23], []]),
  (fn_bits_Reader_Left, [[0, 1, 2, 3, 4, 5, 6, 7, 8, 9, 10, 11]]),
  (fn_depend_reader_structure, [[], [], [89], [], [0, 1, 2, 5, 3, 6, 4, 7, 8, 9, 10, 11, 12], [], [], [72], [], [0, 1, 2, 3, 4, 5, 6, 7, 8, 9], [], [57], [], [0, 1, 2, 3, 4, 5, 6, 7, 8, 9], [], [35], [], [0, 1, 2, 3, 4, 5, 6, 7], [], [19], [], [0, 1, 2, 3, 4, 5, 6, 7, 8, 9]]),
  (fn_depend_reader_templates, [[3], [3], [3], [], [], [], [], [0, 1, 2, 3, 4, 5, 6, 7, 8, 9, 10, 11, 12, 13, 14, 15, 16]]),
  (fn_depend_reader_fail, [[]]),
  (fn_depend_reader_nums, [[7], [7, 9], [7]]),
  (fn_depend_reader_diffs, [[3], [3], [3]]),
  (fn_depend_reader_ns, []),
  (fn_bits_Reader_TakeNS, []),
  (fn_depend_reader_own, [[3], [3, 4], [3]]),
  (fn_palanquinref9_Parse, [[0, 1, 2, 3, 4, 5, 6], [], [], [], [], [0, 1, 2, 3, 4, 5, 6], [], [], [], []]),
  (fn_palanquinref9_reader_n, []),
  (fn_palanquinref6_Reader_Take, [[6], [6, 7], [6]]),
  (fn_palanquinref6_Reader_Left, [[0, 1, 2, 3, 4, 5, 6, 7, 8, 9, 10, 11]]),
  (fn_palanquinref6_Reader_bit, [[0, 1, 2, 3, 4, 5, 6, 7, 8, 9, 10, 11, 12, 13, 14, 15, 16, 17, 18, 19, 20]]),
  (fn_palanquinref9_reader_structure, [[], [], [10], [], [], [], [8], [], [], [9], [], [0, 1, 2, 3, 4, 5, 6, 7, 8, 9, 10, 11, 12, 13, 14, 15], [], [7], [], [0, 1, 2, 3, 4, 5, 6, 7, 8, 9], [], [6], [], [], [], [], [0, 1, 2, 3, 4, 5, 6, 7, 8, 9, 10, 11, 12, 13, 14, 15, 16], [], [4], [], [], [5], [], [0, 1, 2, 3, 4, 5, 6, 7, 8, 9, 10, 11, 12, 13, 14, 15]]),
  (fn_palanquinref9_reader_layers, [[3], [3], [3], [], [], [0, 1, 2, 3, 4, 5, 6, 7, 8, 9, 10, 11, 12, 13, 14, 15, 16]]),
  (fn_palanquinref9_reader_bad, [[]]),
  (fn_palanquinref9_reader_ns, []),
  (fn_palanquinref6_Reader_TakeNS, []),
  (fn_palanquinref9_reader_own, [[], [], [10], [], [0, 1, 2, 3, 4, 5, 6, 7, 8, 9, 10, 11], [], [], [9], [], [0, 1, 2, 3, 4, 5, 6, 7, 8, 9, 10, 11, 12, 13, 14], [], [], [8], [], [0, 1, 2, 3, 4, 5, 6, 7, 8, 9, 10, 11], [0, 1, 2, 4, 5, 8, 9, 12, 13, 3, 6, 7, 10, 11, 14, 15, 16, 17, 18, 19, 20, 21, 22, 23]]),
  (fn_palanquinref9_SameFrame, []),
  (fn_palanquinref9_SameStructure, [[], [8], [], [0, 1, 2, 3, 4, 5, 6, 7, 8, 9, 10], [], [5], [], [0, 1, 2, 3, 4, 5, 6, 7, 8, 9, 10, 11, 12, 13]]),
  (fn_palanquinlaw9_DependBack, [[0, 1, 2, 3, 4, 5, 6, 7, 8, 9, 10, 11, 12, 13, 14, 15, 16, 17, 18], [], [0, 1, 2, 3, 5, 4, 6, 7, 8, 9]]),
  (fn_palanquinlaw9_DependNumber, [[0, 2, 1, 3, 4, 5]]),
  (fn_depend_Number, [[]]),
  (fn_bytes_Clone, [])]

def hintOf : List (Nat × List (List Nat)) → FuncId → List (List Nat)
  | [], _ => []
  | (g, h) :: l, f => if g = f then h else hintOf l f

noncomputable def T : FuncId → Option Fn' := table Try.prog (hintOf hintRows)

noncomputable def irOf (f : FuncId) : Fn' := (T f).getD ⟨0, [], .bad⟩
theorem sound : SemOk Try.prog (sem T) := sem_ok _ _

end Go.Ax
/- FnD1 -/
set_option maxRecDepth 100000
set_option linter.unusedVariables false
namespace Go.Ax
open Go.Proofs
noncomputable def ir_depend_Fine : Fn' := irOf fn_depend_Fine
noncomputable def f_depend_Fine_0 (G : Sem') (t70 t69 : V) (L : List V) : M Res :=
 (M.lift (Ax.bin .lss (L.getD 0 .undef) t70)).bind fun t72 =>
 M.ite t72
 (M.blk 1 (
 (M.lift (Ax.iaddr none 2 t69 (L.getD 0 .undef))).bind fun t73 =>
 (mload (some 2) t73).bind fun t74 =>
 (mbox ty_2_int (V.agg [(V.int .i64 0), (V.int .i64 0)])).bind fun t6 =>
 (mstore 2 t6 t74).bind fun _ =>
 (M.lift (vslice (.arr 2) 1 t6 none none none)).bind fun t75 =>
 (G fn_depend_within [t75, (V.int .i64 2), (V.int .i64 1), (V.int .i64 65536)]).bind fun t76 =>
 (M.lift (Ax.un .not t76)).bind fun t77 =>
 M.ite t77
 (M.pure (.ret [(V.bool false)]))
 (M.pure (.nrm []))) fun _ =>
 (M.lift (Ax.bin .add (L.getD 0 .undef) (V.int .i64 1))).bind fun t78 =>
 M.pure (.nrm [t78]))
 (M.pure (.ex 0 []))

noncomputable def f_depend_Fine (G : Sem') (t0 : V) : M Res :=
 (mbox ty_depend_Structure t0).bind fun t1 =>
 (M.lift (Ax.faddr 1 t1)).bind fun t7 =>
 (mload none t7).bind fun t8 =>
 (M.lift (Ax.faddr 3 t1)).bind fun t9 =>
 (mload none t9).bind fun t10 =>
 (M.lift (Ax.bin .eql t10 (V.int .i64 0))).bind fun t11 =>
 M.join (M.ite t11
 (M.pure (.nrm [(V.int .i64 0)]))
 (M.pure (.nrm [t8]))) fun L0 =>
 (M.lift (Ax.faddr 0 t1)).bind fun t12 =>
 (mload none t12).bind fun t13 =>
 (M.lift (Ax.bin .lss t13 (V.int .i64 0))).bind fun t14 =>
 (guarded [(0, t14)] (some (0, false)) (M.lift (Ax.faddr 0 t1))).bind fun t16 =>
 (guarded [(0, t14)] (some (0, false)) (mload none t16)).bind fun t17 =>
 (guarded [(0, t14)] (some (0, false)) (M.lift (Ax.bin .geq t17 (V.int .i64 64)))).bind fun t18 =>
 (M.lift (Ax.pick t14 (V.bool true) t18)).bind fun t19 =>
 (guarded [(0, t19)] (some (0, false)) (M.lift (Ax.faddr 1 t1))).bind fun t21 =>
 (guarded [(0, t19)] (some (0, false)) (mload none t21)).bind fun t22 =>
 (guarded [(0, t19)] (some (0, false)) (M.lift (Ax.bin .lss t22 (V.int .i64 1)))).bind fun t23 =>
 (M.lift (Ax.pick t19 (V.bool true) t23)).bind fun t24 =>
 (guarded [(0, t24)] (some (0, false)) (M.lift (Ax.faddr 1 t1))).bind fun t26 =>
 (guarded [(0, t24)] (some (0, false)) (mload none t26)).bind fun t27 =>
 (guarded [(0, t24)] (some (0, false)) (M.lift (Ax.bin .gtr t27 (V.int .i64 32)))).bind fun t28 =>
 (M.lift (Ax.pick t24 (V.bool true) t28)).bind fun t29 =>
 (guarded [(0, t29)] (some (0, false)) (M.lift (Ax.faddr 3 t1))).bind fun t31 =>
 (guarded [(0, t29)] (some (0, false)) (mload none t31)).bind fun t32 =>
 (guarded [(0, t29)] (some (0, false)) (M.lift (Ax.bin .lss t32 (V.int .i64 0)))).bind fun t33 =>
 (M.lift (Ax.pick t29 (V.bool true) t33)).bind fun t34 =>
 (guarded [(0, t34)] (some (0, false)) (M.lift (Ax.faddr 3 t1))).bind fun t36 =>
 (guarded [(0, t34)] (some (0, false)) (mload none t36)).bind fun t37 =>
 (guarded [(0, t34)] (some (0, false)) (M.lift (Ax.faddr 1 t1))).bind fun t38 =>
 (guarded [(0, t34)] (some (0, false)) (mload none t38)).bind fun t39 =>
 (guarded [(0, t34)] (some (0, false)) (M.lift (Ax.bin .gtr t37 t39))).bind fun t40 =>
 (M.lift (Ax.pick t34 (V.bool true) t40)).bind fun t41 =>
 (guarded [(0, t41)] (some (0, false)) (M.lift (Ax.faddr 4 t1))).bind fun t43 =>
 (guarded [(0, t41)] (some (0, false)) (mload none t43)).bind fun t44 =>
 (guarded [(0, t41)] (some (0, false)) (M.pure (L0.getD 0 .undef))).bind fun t45 =>
 (guarded [(0, t41)] (some (0, false)) (M.lift (Ax.faddr 3 t1))).bind fun t46 =>
 (guarded [(0, t41)] (some (0, false)) (mload none t46)).bind fun t47 =>
 (guarded [(0, t41)] (some (0, false)) (M.lift (Ax.bin .sub t47 (V.int .i64 1)))).bind fun t48 =>
 (guarded [(0, t41)] (some (0, false)) (G fn_depend_within [t44, t45, (V.int .i64 0), t48])).bind fun t49 =>
 (guarded [(0, t41)] (some (0, false)) (M.lift (Ax.un .not t49))).bind fun t50 =>
 (M.lift (Ax.pick t41 (V.bool true) t50)).bind fun t51 =>
 (guarded [(0, t51)] (some (0, false)) (mload (some 6) t1)).bind fun t53 =>
 (guarded [(0, t51)] (some (0, false)) (G fn_depend_layers [t53])).bind fun t54 =>
 (guarded [(0, t51)] (some (0, false)) (M.lift (Ax.un .not t54))).bind fun t55 =>
 (M.lift (Ax.pick t51 (V.bool true) t55)).bind fun t56 =>
 M.ite t56
 (M.pure (.ret [(V.bool false)]))
 ((M.lift (Ax.faddr 5 t1)).bind fun t57 =>
 (mload none t57).bind fun t58 =>
 (M.lift (vlen t58)).bind fun t59 =>
 (M.lift (Ax.bin .neq t59 (V.int .i64 0))).bind fun t61 =>
 (guarded [(0, t61)] (some (0, true)) (M.pure t59)).bind fun t63 =>
 (guarded [(0, t61)] (some (0, true)) (mload (some 6) t1)).bind fun t64 =>
 (guarded [(0, t61)] (some (0, true)) (G fn_depend_spatial [t64])).bind fun t65 =>
 (guarded [(0, t61)] (some (0, true)) (M.lift (Ax.bin .neq t63 t65))).bind fun t66 =>
 (M.lift (Ax.pick t61 t66 (V.bool false))).bind fun t67 =>
 M.ite t67
 (M.pure (.ret [(V.bool false)]))
 ((M.lift (Ax.faddr 5 t1)).bind fun t68 =>
 (mload none t68).bind fun t69 =>
 (M.lift (vlen t69)).bind fun t70 =>
 M.blk 0 (
 M.iter (f_depend_Fine_0 G t70 t69) [(V.int .i64 0)]) fun _ =>
 (M.lift (Ax.faddr 2 t1)).bind fun t79 =>
 (mload none t79).bind fun t80 =>
 (M.pure (.fn fn_depend_Fine_1 [t1])).bind fun t81 =>
 (G fn_slices_ContainsFunc_depend_Template_depend_Template [t80, t81]).bind fun t82 =>
 (M.lift (Ax.un .not t82)).bind fun t83 =>
 M.pure (.ret [t83])))

theorem eq_depend_Fine (G : Sem') (t0 : V) : execK G ir_depend_Fine.rv ir_depend_Fine.body [] [] (params 0 [t0]) = f_depend_Fine G t0 := by kernel_rfl

theorem tb_depend_Fine : T fn_depend_Fine = some ir_depend_Fine := by kernel_rfl

theorem ok_depend_Fine {t0 : V} {H : Heap} {Q : V → Heap → Prop} (h : Ok (f_depend_Fine (sem T) t0) H fun r H' => ∃ L, r = .ret L ∧ Q (tupled L) H') : Ok (sem T fn_depend_Fine [t0]) H Q :=
  ok_sem tb_depend_Fine (Nat.le_of_ble_eq_true (by kernel_rfl)) (eq_depend_Fine (sem T) t0) h

noncomputable def ir_depend_within : Fn' := irOf fn_depend_within
noncomputable def f_depend_within (G : Sem') (t0 t1 t2 t3 : V) : M Res :=
 (mbox ty_int t2).bind fun t6 =>
 (mbox ty_int t3).bind fun t7 =>
 (M.lift (vlen t0)).bind fun t10 =>
 (M.lift (Ax.bin .eql t10 t1)).bind fun t12 =>
 (guarded [(0, t12)] (some (0, true)) (M.pure t0)).bind fun t14 =>
 (guarded [(0, t12)] (some (0, true)) (M.pure (.fn fn_depend_within_1 [t6, t7]))).bind fun t15 =>
 (guarded [(0, t12)] (some (0, true)) (G fn_slices_ContainsFunc_int_int [t14, t15])).bind fun t16 =>
 (guarded [(0, t12)] (some (0, true)) (M.lift (Ax.un .not t16))).bind fun t17 =>
 (M.lift (Ax.pick t12 t17 (V.bool false))).bind fun t18 =>
 M.pure (.ret [t18])

theorem eq_depend_within (G : Sem') (t0 t1 t2 t3 : V) : execK G ir_depend_within.rv ir_depend_within.body [] [] (params 0 [t0, t1, t2, t3]) = f_depend_within G t0 t1 t2 t3 := by kernel_rfl

theorem tb_depend_within : T fn_depend_within = some ir_depend_within := by kernel_rfl

theorem ok_depend_within {t0 t1 t2 t3 : V} {H : Heap} {Q : V → Heap → Prop} (h : Ok (f_depend_within (sem T) t0 t1 t2 t3) H fun r H' => ∃ L, r = .ret L ∧ Q (tupled L) H') : Ok (sem T fn_depend_within [t0, t1, t2, t3]) H Q :=
  ok_sem tb_depend_within (Nat.le_of_ble_eq_true (by kernel_rfl)) (eq_depend_within (sem T) t0 t1 t2 t3) h

noncomputable def ir_depend_within_1 : Fn' := irOf fn_depend_within_1
noncomputable def f_depend_within_1 (G : Sem') (t0 t1 t2 : V) : M Res :=
 (mload none t1).bind fun t6 =>
 (M.lift (Ax.bin .lss t0 t6)).bind fun t7 =>
 (guarded [(0, t7)] (some (0, false)) (M.pure t0)).bind fun t9 =>
 (guarded [(0, t7)] (some (0, false)) (mload none t2)).bind fun t10 =>
 (guarded [(0, t7)] (some (0, false)) (M.lift (Ax.bin .gtr t9 t10))).bind fun t11 =>
 (M.lift (Ax.pick t7 (V.bool true) t11)).bind fun t12 =>
 M.pure (.ret [t12])

theorem eq_depend_within_1 (G : Sem') (t0 t1 t2 : V) : execK G ir_depend_within_1.rv ir_depend_within_1.body [] [] (params 0 [t0, t1, t2]) = f_depend_within_1 G t0 t1 t2 := by kernel_rfl

theorem tb_depend_within_1 : T fn_depend_within_1 = some ir_depend_within_1 := by kernel_rfl

theorem ok_depend_within_1 {t0 t1 t2 : V} {H : Heap} {Q : V → Heap → Prop} (h : Ok (f_depend_within_1 (sem T) t0 t1 t2) H fun r H' => ∃ L, r = .ret L ∧ Q (tupled L) H') : Ok (sem T fn_depend_within_1 [t0, t1, t2]) H Q :=
  ok_sem tb_depend_within_1 (Nat.le_of_ble_eq_true (by kernel_rfl)) (eq_depend_within_1 (sem T) t0 t1 t2) h

noncomputable def ir_slices_ContainsFunc_int_int : Fn' := irOf fn_slices_ContainsFunc_int_int
noncomputable def f_slices_ContainsFunc_int_int (G : Sem') (t0 t1 : V) : M Res :=
 (G fn_slices_IndexFunc_int_int [t0, t1]).bind fun t7 =>
 (M.lift (Ax.bin .geq t7 (V.int .i64 0))).bind fun t8 =>
 M.pure (.ret [t8])

theorem eq_slices_ContainsFunc_int_int (G : Sem') (t0 t1 : V) : execK G ir_slices_ContainsFunc_int_int.rv ir_slices_ContainsFunc_int_int.body [] [] (params 0 [t0, t1]) = f_slices_ContainsFunc_int_int G t0 t1 := by kernel_rfl

theorem tb_slices_ContainsFunc_int_int : T fn_slices_ContainsFunc_int_int = some ir_slices_ContainsFunc_int_int := by kernel_rfl

theorem ok_slices_ContainsFunc_int_int {t0 t1 : V} {H : Heap} {Q : V → Heap → Prop} (h : Ok (f_slices_ContainsFunc_int_int (sem T) t0 t1) H fun r H' => ∃ L, r = .ret L ∧ Q (tupled L) H') : Ok (sem T fn_slices_ContainsFunc_int_int [t0, t1]) H Q :=
  ok_sem tb_slices_ContainsFunc_int_int (Nat.le_of_ble_eq_true (by kernel_rfl)) (eq_slices_ContainsFunc_int_int (sem T) t0 t1) h

noncomputable def ir_slices_IndexFunc_int_int : Fn' := irOf fn_slices_IndexFunc_int_int
noncomputable def f_slices_IndexFunc_int_int_0 (G : Sem') (t7 t1 t0 : V) (L : List V) : M Res :=
 (M.lift (Ax.bin .lss (L.getD 0 .undef) t7)).bind fun t9 =>
 M.ite t9
 (M.blk 1 (
 (M.lift (Ax.iaddr none 1 t0 (L.getD 0 .undef))).bind fun t14 =>
 (mload none t14).bind fun t15 =>
 (callv G t1 [t15]).bind fun t16 =>
 M.ite t16
 (M.pure (.ret [(L.getD 0 .undef)]))
 (M.pure (.nrm []))) fun _ =>
 (M.lift (Ax.bin .add (L.getD 0 .undef) (V.int .i64 1))).bind fun t18 =>
 M.pure (.nrm [t18]))
 (M.pure (.ex 0 []))

noncomputable def f_slices_IndexFunc_int_int (G : Sem') (t0 t1 : V) : M Res :=
 (M.lift (vlen t0)).bind fun t7 =>
 M.blk 0 (
 M.iter (f_slices_IndexFunc_int_int_0 G t7 t1 t0) [(V.int .i64 0)]) fun _ =>
 M.pure (.ret [(V.int .i64 (-1))])

theorem eq_slices_IndexFunc_int_int (G : Sem') (t0 t1 : V) : execK G ir_slices_IndexFunc_int_int.rv ir_slices_IndexFunc_int_int.body [] [] (params 0 [t0, t1]) = f_slices_IndexFunc_int_int G t0 t1 := by kernel_rfl

theorem tb_slices_IndexFunc_int_int : T fn_slices_IndexFunc_int_int = some ir_slices_IndexFunc_int_int := by kernel_rfl

theorem ok_slices_IndexFunc_int_int {t0 t1 : V} {H : Heap} {Q : V → Heap → Prop} (h : Ok (f_slices_IndexFunc_int_int (sem T) t0 t1) H fun r H' => ∃ L, r = .ret L ∧ Q (tupled L) H') : Ok (sem T fn_slices_IndexFunc_int_int [t0, t1]) H Q :=
  ok_sem tb_slices_IndexFunc_int_int (Nat.le_of_ble_eq_true (by kernel_rfl)) (eq_slices_IndexFunc_int_int (sem T) t0 t1) h

noncomputable def ir_depend_layers : Fn' := irOf fn_depend_layers
noncomputable def f_depend_layers_0 (G : Sem') (t11 t10 t3 : V) (L : List V) : M Res :=
 (M.lift (Ax.bin .lss (L.getD 0 .undef) t11)).bind fun t13 =>
 M.ite t13
 (M.blk 1 (
 (M.lift (Ax.iaddr none 5 t10 (L.getD 0 .undef))).bind fun t15 =>
 (mload (some 5) t15).bind fun t16 =>
 (mbox ty_depend_Template (V.agg [(V.int .i64 0), (V.int .i64 0), V.nils, V.nils, V.nils])).bind fun t5 =>
 (mstore 5 t5 t16).bind fun _ =>
 (mload (some 5) t3).bind fun t18 =>
 (mload (some 5) t5).bind fun t19 =>
 (G fn_depend_next [t18, t19]).bind fun t20 =>
 (M.lift (Ax.ext 0 t20)).bind fun t21 =>
 (M.lift (Ax.ext 1 t20)).bind fun t22 =>
 (M.lift (Ax.un .not t22)).bind fun t24 =>
 (guarded [(0, t24)] (some (0, false)) (M.pure (L.getD 0 .undef))).bind fun t26 =>
 (guarded [(0, t24)] (some (0, false)) (M.lift (Ax.bin .eql t26 (V.int .i64 0)))).bind fun t27 =>
 (guarded [(0, t24)] (some (0, false)) (M.pure t27)).bind fun t28 =>
 (guarded [(0, t28)] (some (0, true)) (M.pure t21)).bind fun t29 =>
 (guarded [(0, t28)] (some (0, true)) (M.lift (Ax.bin .neq t29 (V.int .i64 0)))).bind fun t30 =>
 (guarded [(0, t24)] (some (0, false)) (M.lift (Ax.pick t28 t30 (V.bool false)))).bind fun t31 =>
 (M.lift (Ax.pick t24 (V.bool true) t31)).bind fun t32 =>
 (guarded [(0, t32)] (some (0, false)) (M.lift (Ax.faddr 0 t5))).bind fun t34 =>
 (guarded [(0, t32)] (some (0, false)) (mload none t34)).bind fun t35 =>
 (guarded [(0, t32)] (some (0, false)) (M.lift (Ax.bin .gtr t35 (V.int .i64 3)))).bind fun t36 =>
 (M.lift (Ax.pick t32 (V.bool true) t36)).bind fun t37 =>
 (guarded [(0, t37)] (some (0, false)) (M.lift (Ax.faddr 1 t5))).bind fun t39 =>
 (guarded [(0, t37)] (some (0, false)) (mload none t39)).bind fun t40 =>
 (guarded [(0, t37)] (some (0, false)) (M.lift (Ax.bin .gtr t40 (V.int .i64 7)))).bind fun t41 =>
 (M.lift (Ax.pick t37 (V.bool true) t41)).bind fun t42 =>
 M.ite t42
 (M.pure (.ret [(V.bool false)]))
 ((mload (some 5) t5).bind fun t43 =>
 (mstore 5 t3 t43).bind fun _ =>
 M.pure (.nrm []))) fun _ =>
 (M.lift (Ax.bin .add (L.getD 0 .undef) (V.int .i64 1))).bind fun t44 =>
 M.pure (.nrm [t44]))
 (M.pure (.ex 0 []))

noncomputable def f_depend_layers (G : Sem') (t0 : V) : M Res :=
 (mbox ty_depend_Structure t0).bind fun t1 =>
 (M.lift (Ax.build [(V.int .i64 0), (V.int .i64 0), V.nils, V.nils, V.nils] [])).bind fun t8 =>
 (mbox ty_depend_Template (V.agg [(V.int .i64 0), (V.int .i64 0), V.nils, V.nils, V.nils])).bind fun t3 =>
 (mstore 5 t3 t8).bind fun _ =>
 (M.lift (Ax.faddr 2 t1)).bind fun t9 =>
 (mload none t9).bind fun t10 =>
 (M.lift (vlen t10)).bind fun t11 =>
 M.blk 0 (
 M.iter (f_depend_layers_0 G t11 t10 t3) [(V.int .i64 0)]) fun _ =>
 (M.lift (Ax.faddr 2 t1)).bind fun t45 =>
 (mload none t45).bind fun t46 =>
 (M.lift (vlen t46)).bind fun t47 =>
 (M.lift (Ax.bin .geq t47 (V.int .i64 1))).bind fun t48 =>
 (guarded [(0, t48)] (some (0, true)) (M.lift (Ax.faddr 2 t1))).bind fun t50 =>
 (guarded [(0, t48)] (some (0, true)) (mload none t50)).bind fun t51 =>
 (guarded [(0, t48)] (some (0, true)) (M.lift (vlen t51))).bind fun t52 =>
 (guarded [(0, t48)] (some (0, true)) (M.lift (Ax.bin .leq t52 (V.int .i64 64)))).bind fun t53 =>
 (M.lift (Ax.pick t48 t53 (V.bool false))).bind fun t54 =>
 M.pure (.ret [t54])

theorem eq_depend_layers (G : Sem') (t0 : V) : execK G ir_depend_layers.rv ir_depend_layers.body [] [] (params 0 [t0]) = f_depend_layers G t0 := by kernel_rfl

theorem tb_depend_layers : T fn_depend_layers = some ir_depend_layers := by kernel_rfl

theorem ok_depend_layers {t0 : V} {H : Heap} {Q : V → Heap → Prop} (h : Ok (f_depend_layers (sem T) t0) H fun r H' => ∃ L, r = .ret L ∧ Q (tupled L) H') : Ok (sem T fn_depend_layers [t0]) H Q :=
  ok_sem tb_depend_layers (Nat.le_of_ble_eq_true (by kernel_rfl)) (eq_depend_layers (sem T) t0) h

noncomputable def ir_depend_next : Fn' := irOf fn_depend_next
noncomputable def f_depend_next (G : Sem') (t0 t1 : V) : M Res :=
 (mbox ty_depend_Template t0).bind fun t2 =>
 (mbox ty_depend_Template t1).bind fun t3 =>
 M.blk 0 (
 (M.lift (Ax.faddr 0 t3)).bind fun t7 =>
 (mload none t7).bind fun t8 =>
 (M.lift (Ax.faddr 0 t2)).bind fun t9 =>
 (mload none t9).bind fun t10 =>
 (M.lift (Ax.bin .eql t8 t10)).bind fun t11 =>
 (guarded [(0, t11)] (some (0, true)) (M.lift (Ax.faddr 1 t3))).bind fun t13 =>
 (guarded [(0, t11)] (some (0, true)) (mload none t13)).bind fun t14 =>
 (guarded [(0, t11)] (some (0, true)) (M.lift (Ax.faddr 1 t2))).bind fun t15 =>
 (guarded [(0, t11)] (some (0, true)) (mload none t15)).bind fun t16 =>
 (guarded [(0, t11)] (some (0, true)) (M.lift (Ax.bin .eql t14 t16))).bind fun t17 =>
 (M.lift (Ax.pick t11 t17 (V.bool false))).bind fun t18 =>
 M.ite t18
 (M.pure (.ret [(V.int .i64 0), (V.bool true)]))
 ((M.lift (Ax.faddr 0 t3)).bind fun t20 =>
 (mload none t20).bind fun t21 =>
 (M.lift (Ax.faddr 0 t2)).bind fun t22 =>
 (mload none t22).bind fun t23 =>
 (M.lift (Ax.bin .eql t21 t23)).bind fun t24 =>
 (guarded [(0, t24)] (some (0, true)) (M.lift (Ax.faddr 1 t3))).bind fun t26 =>
 (guarded [(0, t24)] (some (0, true)) (mload none t26)).bind fun t27 =>
 (guarded [(0, t24)] (some (0, true)) (M.lift (Ax.faddr 1 t2))).bind fun t28 =>
 (guarded [(0, t24)] (some (0, true)) (mload none t28)).bind fun t29 =>
 (guarded [(0, t24)] (some (0, true)) (M.lift (Ax.bin .add t29 (V.int .i64 1)))).bind fun t30 =>
 (guarded [(0, t24)] (some (0, true)) (M.lift (Ax.bin .eql t27 t30))).bind fun t31 =>
 (M.lift (Ax.pick t24 t31 (V.bool false))).bind fun t32 =>
 M.ite t32
 (M.pure (.ret [(V.int .i64 1), (V.bool true)]))
 ((M.lift (Ax.faddr 0 t3)).bind fun t34 =>
 (mload none t34).bind fun t35 =>
 (M.lift (Ax.faddr 0 t2)).bind fun t36 =>
 (mload none t36).bind fun t37 =>
 (M.lift (Ax.bin .add t37 (V.int .i64 1))).bind fun t38 =>
 (M.lift (Ax.bin .eql t35 t38)).bind fun t39 =>
 (guarded [(0, t39)] (some (0, true)) (M.lift (Ax.faddr 1 t3))).bind fun t41 =>
 (guarded [(0, t39)] (some (0, true)) (mload none t41)).bind fun t42 =>
 (guarded [(0, t39)] (some (0, true)) (M.lift (Ax.bin .eql t42 (V.int .i64 0)))).bind fun t43 =>
 (M.lift (Ax.pick t39 t43 (V.bool false))).bind fun t44 =>
 M.ite t44
 (M.pure (.ret [(V.int .i64 2), (V.bool true)]))
 (M.pure (.nrm []))))) fun _ =>
 M.pure (.ret [(V.int .i64 0), (V.bool false)])

theorem eq_depend_next (G : Sem') (t0 t1 : V) : execK G ir_depend_next.rv ir_depend_next.body [] [] (params 0 [t0, t1]) = f_depend_next G t0 t1 := by kernel_rfl

theorem tb_depend_next : T fn_depend_next = some ir_depend_next := by kernel_rfl

theorem ok_depend_next {t0 t1 : V} {H : Heap} {Q : V → Heap → Prop} (h : Ok (f_depend_next (sem T) t0 t1) H fun r H' => ∃ L, r = .ret L ∧ Q (tupled L) H') : Ok (sem T fn_depend_next [t0, t1]) H Q :=
  ok_sem tb_depend_next (Nat.le_of_ble_eq_true (by kernel_rfl)) (eq_depend_next (sem T) t0 t1) h

noncomputable def ir_depend_spatial : Fn' := irOf fn_depend_spatial
noncomputable def f_depend_spatial_0 (G : Sem') (t8 t7 t2 : V) (L : List V) : M Res :=
 (M.lift (Ax.bin .lss (L.getD 1 .undef) t8)).bind fun t10 =>
 M.ite t10
 (M.blk 1 (
 (M.lift (Ax.iaddr none 5 t7 (L.getD 1 .undef))).bind fun t11 =>
 (mload (some 5) t11).bind fun t12 =>
 (mbox ty_depend_Template (V.agg [(V.int .i64 0), (V.int .i64 0), V.nils, V.nils, V.nils])).bind fun t5 =>
 (mstore 5 t5 t12).bind fun _ =>
 (M.lift (Ax.faddr 0 t5)).bind fun t14 =>
 (mload none t14).bind fun t15 =>
 (M.lift (Ax.bin .add t15 (V.int .i64 1))).bind fun t16 =>
 (M.lift (Ax.minmax true (L.getD 0 .undef) [t16])).bind fun t17 =>
 M.pure (.nrm [t17])) fun L0 =>
 (M.lift (Ax.bin .add (L.getD 1 .undef) (V.int .i64 1))).bind fun t18 =>
 M.pure (.nrm [(L0.getD 0 .undef), t18]))
 (M.pure (.ex 0 [(L.getD 0 .undef)]))

noncomputable def f_depend_spatial (G : Sem') (t0 : V) : M Res :=
 (mbox ty_depend_Structure t0).bind fun t1 =>
 (M.lift (Ax.faddr 2 t1)).bind fun t6 =>
 (mload none t6).bind fun t7 =>
 (M.lift (vlen t7)).bind fun t8 =>
 M.blk 0 (
 M.iter (f_depend_spatial_0 G t8 t7 (V.int .i64 0)) [(V.int .i64 0), (V.int .i64 0)]) fun L1 =>
 M.pure (.ret [(L1.getD 0 .undef)])

theorem eq_depend_spatial (G : Sem') (t0 : V) : execK G ir_depend_spatial.rv ir_depend_spatial.body [] [] (params 0 [t0]) = f_depend_spatial G t0 := by kernel_rfl

theorem tb_depend_spatial : T fn_depend_spatial = some ir_depend_spatial := by kernel_rfl

theorem ok_depend_spatial {t0 : V} {H : Heap} {Q : V → Heap → Prop} (h : Ok (f_depend_spatial (sem T) t0) H fun r H' => ∃ L, r = .ret L ∧ Q (tupled L) H') : Ok (sem T fn_depend_spatial [t0]) H Q :=
  ok_sem tb_depend_spatial (Nat.le_of_ble_eq_true (by kernel_rfl)) (eq_depend_spatial (sem T) t0) h

noncomputable def ir_depend_Fine_1 : Fn' := irOf fn_depend_Fine_1
noncomputable def f_depend_Fine_1 (G : Sem') (t0 t1 : V) : M Res :=
 (mbox ty_depend_Template t0).bind fun t2 =>
 (mload (some 6) t1).bind fun t4 =>
 (mload (some 5) t2).bind fun t5 =>
 (G fn_depend_Structure_fine [t4, t5]).bind fun t6 =>
 (M.lift (Ax.un .not t6)).bind fun t7 =>
 M.pure (.ret [t7])

theorem eq_depend_Fine_1 (G : Sem') (t0 t1 : V) : execK G ir_depend_Fine_1.rv ir_depend_Fine_1.body [] [] (params 0 [t0, t1]) = f_depend_Fine_1 G t0 t1 := by kernel_rfl

theorem tb_depend_Fine_1 : T fn_depend_Fine_1 = some ir_depend_Fine_1 := by kernel_rfl

theorem ok_depend_Fine_1 {t0 t1 : V} {H : Heap} {Q : V → Heap → Prop} (h : Ok (f_depend_Fine_1 (sem T) t0 t1) H fun r H' => ∃ L, r = .ret L ∧ Q (tupled L) H') : Ok (sem T fn_depend_Fine_1 [t0, t1]) H Q :=
  ok_sem tb_depend_Fine_1 (Nat.le_of_ble_eq_true (by kernel_rfl)) (eq_depend_Fine_1 (sem T) t0 t1) h

noncomputable def ir_depend_Structure_fine : Fn' := irOf fn_depend_Structure_fine
noncomputable def f_depend_Structure_fine (G : Sem') (t0 t1 : V) : M Res :=
 (mbox ty_depend_Structure t0).bind fun t2 =>
 (mbox ty_depend_Template t1).bind fun t3 =>
 (M.lift (Ax.faddr 2 t3)).bind fun t5 =>
 (mload none t5).bind fun t6 =>
 (M.lift (Ax.faddr 1 t2)).bind fun t7 =>
 (mload none t7).bind fun t8 =>
 (G fn_depend_within [t6, t8, (V.int .i64 0), (V.int .i64 3)]).bind fun t9 =>
 (guarded [(0, t9)] (some (0, true)) (M.lift (Ax.faddr 3 t3))).bind fun t11 =>
 (guarded [(0, t9)] (some (0, true)) (mload none t11)).bind fun t12 =>
 (guarded [(0, t9)] (some (0, true)) (G fn_depend_diffs [t12, (V.int .i64 8), (V.int .i64 16)])).bind fun t13 =>
 (M.lift (Ax.pick t9 t13 (V.bool false))).bind fun t14 =>
 (guarded [(0, t14)] (some (0, true)) (M.lift (Ax.faddr 4 t3))).bind fun t16 =>
 (guarded [(0, t14)] (some (0, true)) (mload none t16)).bind fun t17 =>
 (guarded [(0, t14)] (some (0, true)) (M.lift (Ax.faddr 3 t2))).bind fun t18 =>
 (guarded [(0, t14)] (some (0, true)) (mload none t18)).bind fun t19 =>
 (guarded [(0, t14)] (some (0, true)) (G fn_depend_within [t17, t19, (V.int .i64 0), (V.int .i64 15)])).bind fun t20 =>
 (M.lift (Ax.pick t14 t20 (V.bool false))).bind fun t21 =>
 M.pure (.ret [t21])

theorem eq_depend_Structure_fine (G : Sem') (t0 t1 : V) : execK G ir_depend_Structure_fine.rv ir_depend_Structure_fine.body [] [] (params 0 [t0, t1]) = f_depend_Structure_fine G t0 t1 := by kernel_rfl

theorem tb_depend_Structure_fine : T fn_depend_Structure_fine = some ir_depend_Structure_fine := by kernel_rfl

theorem ok_depend_Structure_fine {t0 t1 : V} {H : Heap} {Q : V → Heap → Prop} (h : Ok (f_depend_Structure_fine (sem T) t0 t1) H fun r H' => ∃ L, r = .ret L ∧ Q (tupled L) H') : Ok (sem T fn_depend_Structure_fine [t0, t1]) H Q :=
  ok_sem tb_depend_Structure_fine (Nat.le_of_ble_eq_true (by kernel_rfl)) (eq_depend_Structure_fine (sem T) t0 t1) h

noncomputable def ir_depend_diffs : Fn' := irOf fn_depend_diffs
noncomputable def f_depend_diffs (G : Sem') (t0 t1 t2 : V) : M Res :=
 (M.lift (vlen t0)).bind fun t8 =>
 (M.lift (Ax.bin .leq t8 t1)).bind fun t10 =>
 (guarded [(0, t10)] (some (0, true)) (M.pure t0)).bind fun t12 =>
 (guarded [(0, t10)] (some (0, true)) (M.pure t0)).bind fun t13 =>
 (guarded [(0, t10)] (some (0, true)) (M.lift (vlen t13))).bind fun t14 =>
 (guarded [(0, t10)] (some (0, true)) (M.pure t2)).bind fun t15 =>
 (guarded [(0, t10)] (some (0, true)) (G fn_depend_within [t12, t14, (V.int .i64 1), t15])).bind fun t16 =>
 (M.lift (Ax.pick t10 t16 (V.bool false))).bind fun t17 =>
 M.pure (.ret [t17])

theorem eq_depend_diffs (G : Sem') (t0 t1 t2 : V) : execK G ir_depend_diffs.rv ir_depend_diffs.body [] [] (params 0 [t0, t1, t2]) = f_depend_diffs G t0 t1 t2 := by kernel_rfl

theorem tb_depend_diffs : T fn_depend_diffs = some ir_depend_diffs := by kernel_rfl

theorem ok_depend_diffs {t0 t1 t2 : V} {H : Heap} {Q : V → Heap → Prop} (h : Ok (f_depend_diffs (sem T) t0 t1 t2) H fun r H' => ∃ L, r = .ret L ∧ Q (tupled L) H') : Ok (sem T fn_depend_diffs [t0, t1, t2]) H Q :=
  ok_sem tb_depend_diffs (Nat.le_of_ble_eq_true (by kernel_rfl)) (eq_depend_diffs (sem T) t0 t1 t2) h

noncomputable def ir_slices_ContainsFunc_depend_Template_depend_Template : Fn' := irOf fn_slices_ContainsFunc_depend_Template_depend_Template
noncomputable def f_slices_ContainsFunc_depend_Template_depend_Template (G : Sem') (t0 t1 : V) : M Res :=
 (G fn_slices_IndexFunc_depend_Template_depend_Template [t0, t1]).bind fun t7 =>
 (M.lift (Ax.bin .geq t7 (V.int .i64 0))).bind fun t8 =>
 M.pure (.ret [t8])

theorem eq_slices_ContainsFunc_depend_Template_depend_Template (G : Sem') (t0 t1 : V) : execK G ir_slices_ContainsFunc_depend_Template_depend_Template.rv ir_slices_ContainsFunc_depend_Template_depend_Template.body [] [] (params 0 [t0, t1]) = f_slices_ContainsFunc_depend_Template_depend_Template G t0 t1 := by kernel_rfl

theorem tb_slices_ContainsFunc_depend_Template_depend_Template : T fn_slices_ContainsFunc_depend_Template_depend_Template = some ir_slices_ContainsFunc_depend_Template_depend_Template := by kernel_rfl

theorem ok_slices_ContainsFunc_depend_Template_depend_Template {t0 t1 : V} {H : Heap} {Q : V → Heap → Prop} (h : Ok (f_slices_ContainsFunc_depend_Template_depend_Template (sem T) t0 t1) H fun r H' => ∃ L, r = .ret L ∧ Q (tupled L) H') : Ok (sem T fn_slices_ContainsFunc_depend_Template_depend_Template [t0, t1]) H Q :=
  ok_sem tb_slices_ContainsFunc_depend_Template_depend_Template (Nat.le_of_ble_eq_true (by kernel_rfl)) (eq_slices_ContainsFunc_depend_Template_depend_Template (sem T) t0 t1) h

noncomputable def ir_slices_IndexFunc_depend_Template_depend_Template : Fn' := irOf fn_slices_IndexFunc_depend_Template_depend_Template
noncomputable def f_slices_IndexFunc_depend_Template_depend_Template_0 (G : Sem') (t7 t1 t0 : V) (L : List V) : M Res :=
 (M.lift (Ax.bin .lss (L.getD 0 .undef) t7)).bind fun t9 =>
 M.ite t9
 (M.blk 1 (
 (M.lift (Ax.iaddr none 5 t0 (L.getD 0 .undef))).bind fun t14 =>
 (mload (some 5) t14).bind fun t15 =>
 (callv G t1 [t15]).bind fun t16 =>
 M.ite t16
 (M.pure (.ret [(L.getD 0 .undef)]))
 (M.pure (.nrm []))) fun _ =>
 (M.lift (Ax.bin .add (L.getD 0 .undef) (V.int .i64 1))).bind fun t18 =>
 M.pure (.nrm [t18]))
 (M.pure (.ex 0 []))

noncomputable def f_slices_IndexFunc_depend_Template_depend_Template (G : Sem') (t0 t1 : V) : M Res :=
 (M.lift (vlen t0)).bind fun t7 =>
 M.blk 0 (
 M.iter (f_slices_IndexFunc_depend_Template_depend_Template_0 G t7 t1 t0) [(V.int .i64 0)]) fun _ =>
 M.pure (.ret [(V.int .i64 (-1))])

theorem eq_slices_IndexFunc_depend_Template_depend_Template (G : Sem') (t0 t1 : V) : execK G ir_slices_IndexFunc_depend_Template_depend_Template.rv ir_slices_IndexFunc_depend_Template_depend_Template.body [] [] (params 0 [t0, t1]) = f_slices_IndexFunc_depend_Template_depend_Template G t0 t1 := by kernel_rfl

theorem tb_slices_IndexFunc_depend_Template_depend_Template : T fn_slices_IndexFunc_depend_Template_depend_Template = some ir_slices_IndexFunc_depend_Template_depend_Template := by kernel_rfl

theorem ok_slices_IndexFunc_depend_Template_depend_Template {t0 t1 : V} {H : Heap} {Q : V → Heap → Prop} (h : Ok (f_slices_IndexFunc_depend_Template_depend_Template (sem T) t0 t1) H fun r H' => ∃ L, r = .ret L ∧ Q (tupled L) H') : Ok (sem T fn_slices_IndexFunc_depend_Template_depend_Template [t0, t1]) H Q :=
  ok_sem tb_slices_IndexFunc_depend_Template_depend_Template (Nat.le_of_ble_eq_true (by kernel_rfl)) (eq_slices_IndexFunc_depend_Template_depend_Template (sem T) t0 t1) h

noncomputable def ir_palanquinhelp_Structure : Fn' := irOf fn_palanquinhelp_Structure
noncomputable def f_palanquinhelp_Structure_0 (G : Sem') (t1 t3 t2 : V) (L : List V) : M Res :=
 (M.lift (Ax.faddr 2 t1)).bind fun t17 =>
 (mload none t17).bind fun t18 =>
 (M.lift (vlen t18)).bind fun t19 =>
 (M.lift (Ax.bin .lss (L.getD 0 .undef) t19)).bind fun t20 =>
 M.ite t20
 (M.blk 1 (
 (M.lift (Ax.faddr 2 t3)).bind fun t23 =>
 (mload none t23).bind fun t24 =>
 (M.lift (Ax.faddr 2 t1)).bind fun t25 =>
 (mload none t25).bind fun t26 =>
 (M.lift (Ax.iaddr none 5 t26 (L.getD 0 .undef))).bind fun t28 =>
 (mload (some 5) t28).bind fun t29 =>
 (mslit ty_palanquinref9_Template 1 [(V.int .i64 0), (V.int .i64 0), V.nils, V.nils, V.nils] [(0, 5, t29)]).bind fun t30 =>
 (mappend ty_palanquinref9_Template 5 88 t24 t30).bind fun t31 =>
 (M.lift (Ax.faddr 2 t3)).bind fun t32 =>
 (mstore 1 t32 t31).bind fun _ =>
 M.pure (.nrm [])) fun _ =>
 (M.lift (Ax.bin .add (L.getD 0 .undef) (V.int .i64 1))).bind fun t22 =>
 M.pure (.nrm [t22]))
 (M.pure (.ex 0 []))

noncomputable def f_palanquinhelp_Structure (G : Sem') (t0 : V) : M Res :=
 (mbox ty_depend_Structure t0).bind fun t1 =>
 (mbox ty_palanquinref9_Structure (V.agg [(V.int .i64 0), (V.int .i64 0), V.nils, (V.int .i64 0), V.nils, V.nils])).bind fun t2 =>
 (M.lift (Ax.faddr 0 t1)).bind fun t5 =>
 (mload none t5).bind fun t6 =>
 (M.lift (Ax.faddr 1 t1)).bind fun t7 =>
 (mload none t7).bind fun t8 =>
 (M.lift (Ax.faddr 3 t1)).bind fun t9 =>
 (mload none t9).bind fun t10 =>
 (M.lift (Ax.faddr 4 t1)).bind fun t11 =>
 (mload none t11).bind fun t12 =>
 (M.lift (Ax.faddr 5 t1)).bind fun t13 =>
 (mload none t13).bind fun t14 =>
 (M.lift (Ax.build [(V.int .i64 0), (V.int .i64 0), V.nils, (V.int .i64 0), V.nils, V.nils] [(0, 1, t6), (1, 1, t8), (3, 1, t10), (4, 1, t12), (5, 1, t14)])).bind fun t15 =>
 (mbox ty_palanquinref9_Structure (V.agg [(V.int .i64 0), (V.int .i64 0), V.nils, (V.int .i64 0), V.nils, V.nils])).bind fun t3 =>
 (mstore 6 t3 t15).bind fun _ =>
 M.blk 0 (
 M.iter (f_palanquinhelp_Structure_0 G t1 t3 t2) [(V.int .i64 0)]) fun _ =>
 (mload (some 6) t3).bind fun t33 =>
 (mstore 6 t2 t33).bind fun _ =>
 (mload (some 6) t2).bind fun r0 =>
 M.pure (.ret [r0])

theorem eq_palanquinhelp_Structure (G : Sem') (t0 : V) : execK G ir_palanquinhelp_Structure.rv ir_palanquinhelp_Structure.body [] [] (params 0 [t0]) = f_palanquinhelp_Structure G t0 := by kernel_rfl

theorem tb_palanquinhelp_Structure : T fn_palanquinhelp_Structure = some ir_palanquinhelp_Structure := by kernel_rfl

theorem ok_palanquinhelp_Structure {t0 : V} {H : Heap} {Q : V → Heap → Prop} (h : Ok (f_palanquinhelp_Structure (sem T) t0) H fun r H' => ∃ L, r = .ret L ∧ Q (tupled L) H') : Ok (sem T fn_palanquinhelp_Structure [t0]) H Q :=
  ok_sem tb_palanquinhelp_Structure (Nat.le_of_ble_eq_true (by kernel_rfl)) (eq_palanquinhelp_Structure (sem T) t0) h

end Go.Ax
/- FnD2 -/
set_option maxRecDepth 100000
set_option linter.unusedVariables false
namespace Go.Ax
open Go.Proofs
noncomputable def ir_palanquinref9_step : Fn' := irOf fn_palanquinref9_step
noncomputable def f_palanquinref9_step (G : Sem') (t0 t1 : V) : M Res :=
 (mbox ty_palanquinref9_Template t0).bind fun t2 =>
 (mbox ty_palanquinref9_Template t1).bind fun t3 =>
 M.blk 0 (
 (M.lift (Ax.faddr 0 t2)).bind fun t6 =>
 (mload none t6).bind fun t7 =>
 (M.lift (Ax.faddr 0 t3)).bind fun t8 =>
 (mload none t8).bind fun t9 =>
 (M.lift (Ax.bin .eql t7 t9)).bind fun t10 =>
 (guarded [(0, t10)] (some (0, true)) (M.lift (Ax.faddr 1 t2))).bind fun t12 =>
 (guarded [(0, t10)] (some (0, true)) (mload none t12)).bind fun t13 =>
 (guarded [(0, t10)] (some (0, true)) (M.lift (Ax.faddr 1 t3))).bind fun t14 =>
 (guarded [(0, t10)] (some (0, true)) (mload none t14)).bind fun t15 =>
 (guarded [(0, t10)] (some (0, true)) (M.lift (Ax.bin .eql t13 t15))).bind fun t16 =>
 (M.lift (Ax.pick t10 t16 (V.bool false))).bind fun t17 =>
 M.ite t17
 (M.pure (.ret [(V.int .i64 0)]))
 ((M.lift (Ax.faddr 0 t2)).bind fun t19 =>
 (mload none t19).bind fun t20 =>
 (M.lift (Ax.faddr 0 t3)).bind fun t21 =>
 (mload none t21).bind fun t22 =>
 (M.lift (Ax.bin .eql t20 t22)).bind fun t23 =>
 (guarded [(0, t23)] (some (0, true)) (M.lift (Ax.faddr 1 t2))).bind fun t25 =>
 (guarded [(0, t23)] (some (0, true)) (mload none t25)).bind fun t26 =>
 (guarded [(0, t23)] (some (0, true)) (M.lift (Ax.bin .add t26 (V.int .i64 1)))).bind fun t27 =>
 (guarded [(0, t23)] (some (0, true)) (M.lift (Ax.faddr 1 t3))).bind fun t28 =>
 (guarded [(0, t23)] (some (0, true)) (mload none t28)).bind fun t29 =>
 (guarded [(0, t23)] (some (0, true)) (M.lift (Ax.bin .eql t27 t29))).bind fun t30 =>
 (M.lift (Ax.pick t23 t30 (V.bool false))).bind fun t31 =>
 M.ite t31
 (M.pure (.ret [(V.int .i64 1)]))
 ((M.lift (Ax.faddr 0 t2)).bind fun t33 =>
 (mload none t33).bind fun t34 =>
 (M.lift (Ax.bin .add t34 (V.int .i64 1))).bind fun t35 =>
 (M.lift (Ax.faddr 0 t3)).bind fun t36 =>
 (mload none t36).bind fun t37 =>
 (M.lift (Ax.bin .eql t35 t37)).bind fun t38 =>
 (guarded [(0, t38)] (some (0, true)) (M.lift (Ax.faddr 1 t3))).bind fun t40 =>
 (guarded [(0, t38)] (some (0, true)) (mload none t40)).bind fun t41 =>
 (guarded [(0, t38)] (some (0, true)) (M.lift (Ax.bin .eql t41 (V.int .i64 0)))).bind fun t42 =>
 (M.lift (Ax.pick t38 t42 (V.bool false))).bind fun t43 =>
 M.ite t43
 (M.pure (.ret [(V.int .i64 2)]))
 (M.pure (.nrm []))))) fun _ =>
 M.pure (.ret [(V.int .i64 3)])

theorem eq_palanquinref9_step (G : Sem') (t0 t1 : V) : execK G ir_palanquinref9_step.rv ir_palanquinref9_step.body [] [] (params 0 [t0, t1]) = f_palanquinref9_step G t0 t1 := by kernel_rfl

theorem tb_palanquinref9_step : T fn_palanquinref9_step = some ir_palanquinref9_step := by kernel_rfl

theorem ok_palanquinref9_step {t0 t1 : V} {H : Heap} {Q : V → Heap → Prop} (h : Ok (f_palanquinref9_step (sem T) t0 t1) H fun r H' => ∃ L, r = .ret L ∧ Q (tupled L) H') : Ok (sem T fn_palanquinref9_step [t0, t1]) H Q :=
  ok_sem tb_palanquinref9_step (Nat.le_of_ble_eq_true (by kernel_rfl)) (eq_palanquinref9_step (sem T) t0 t1) h

noncomputable def ir_palanquinlaw9_awake : Fn' := irOf fn_palanquinlaw9_awake
noncomputable def f_palanquinlaw9_awake (G : Sem') : M Res :=
 (mslit ty_int 1 [(V.int .i64 0)] [(0, 1, (V.int .i64 2))]).bind fun t4 =>
 (M.lift (Ax.build [(V.bool false), (V.bool false), (V.int .i64 0), (V.int .u16 0), (V.bool false), (V.int .i64 0), (V.int .i64 0), V.nils, (V.int .i64 0), V.nils, V.nils, (V.bool false), (V.int .u32 0), (V.bool false), (V.bool false), (V.bool false), V.nils, V.nils, V.nils] [(0, 1, (V.bool true)), (3, 1, (V.int .u16 5)), (16, 1, t4)])).bind fun t5 =>
 (G fn_palanquinlaw9_plain []).bind fun t6 =>
 (G fn_depend_Bytes [t5, t6]).bind fun t7 =>
 (M.lift (Ax.ext 0 t7)).bind fun t8 =>
 (M.lift (Ax.ext 1 t7)).bind fun t9 =>
 (M.lift (Ax.bin .eql t9 (V.int .i64 0))).bind fun t11 =>
 (guarded [(0, t11)] (some (0, true)) (M.pure t8)).bind fun t13 =>
 (guarded [(0, t11)] (some (0, true)) (M.lift (vlen t13))).bind fun t14 =>
 (guarded [(0, t11)] (some (0, true)) (M.lift (Ax.bin .eql t14 (V.int .i64 3)))).bind fun t15 =>
 (M.lift (Ax.pick t11 t15 (V.bool false))).bind fun t16 =>
 (guarded [(0, t16)] (some (0, true)) (M.pure t8)).bind fun t18 =>
 (guarded [(0, t16)] (some (0, true)) (M.lift (Ax.iaddr none 1 t18 (V.int .i64 0)))).bind fun t19 =>
 (guarded [(0, t16)] (some (0, true)) (mload none t19)).bind fun t20 =>
 (guarded [(0, t16)] (some (0, true)) (M.lift (Ax.bin .eql t20 (V.int .u8 128)))).bind fun t21 =>
 (M.lift (Ax.pick t16 t21 (V.bool false))).bind fun t22 =>
 (guarded [(0, t22)] (some (0, true)) (M.pure t8)).bind fun t24 =>
 (guarded [(0, t22)] (some (0, true)) (M.lift (Ax.iaddr none 1 t24 (V.int .i64 1)))).bind fun t25 =>
 (guarded [(0, t22)] (some (0, true)) (mload none t25)).bind fun t26 =>
 (guarded [(0, t22)] (some (0, true)) (M.lift (Ax.bin .eql t26 (V.int .u8 0)))).bind fun t27 =>
 (M.lift (Ax.pick t22 t27 (V.bool false))).bind fun t28 =>
 (guarded [(0, t28)] (some (0, true)) (M.pure t8)).bind fun t30 =>
 (guarded [(0, t28)] (some (0, true)) (M.lift (Ax.iaddr none 1 t30 (V.int .i64 2)))).bind fun t31 =>
 (guarded [(0, t28)] (some (0, true)) (mload none t31)).bind fun t32 =>
 (guarded [(0, t28)] (some (0, true)) (M.lift (Ax.bin .eql t32 (V.int .u8 5)))).bind fun t33 =>
 (M.lift (Ax.pick t28 t33 (V.bool false))).bind fun t34 =>
 (guarded [(0, t34)] (some (0, true)) (G fn_palanquinlaw9_plain [])).bind fun t36 =>
 (guarded [(0, t34)] (some (0, true)) (G fn_depend_Fine [t36])).bind fun t37 =>
 (M.lift (Ax.pick t34 t37 (V.bool false))).bind fun t38 =>
 M.pure (.ret [t38])

theorem eq_palanquinlaw9_awake (G : Sem') : execK G ir_palanquinlaw9_awake.rv ir_palanquinlaw9_awake.body [] [] (params 0 []) = f_palanquinlaw9_awake G := by kernel_rfl

theorem tb_palanquinlaw9_awake : T fn_palanquinlaw9_awake = some ir_palanquinlaw9_awake := by kernel_rfl

theorem ok_palanquinlaw9_awake {H : Heap} {Q : V → Heap → Prop} (h : Ok (f_palanquinlaw9_awake (sem T)) H fun r H' => ∃ L, r = .ret L ∧ Q (tupled L) H') : Ok (sem T fn_palanquinlaw9_awake []) H Q :=
  ok_sem tb_palanquinlaw9_awake (Nat.le_of_ble_eq_true (by kernel_rfl)) (eq_palanquinlaw9_awake (sem T)) h

noncomputable def ir_palanquinlaw9_plain : Fn' := irOf fn_palanquinlaw9_plain
noncomputable def f_palanquinlaw9_plain (G : Sem') : M Res :=
 (mbox ty_depend_Structure (V.agg [(V.int .i64 0), (V.int .i64 0), V.nils, (V.int .i64 0), V.nils, V.nils])).bind fun t0 =>
 (mslit ty_int 1 [(V.int .i64 0)] [(0, 1, (V.int .i64 2))]).bind fun t1 =>
 (M.lift (Ax.build [(V.int .i64 0), (V.int .i64 0), V.nils, V.nils, V.nils] [(2, 1, t1)])).bind fun t2 =>
 (mslit ty_depend_Template 1 [(V.int .i64 0), (V.int .i64 0), V.nils, V.nils, V.nils] [(0, 5, t2)]).bind fun t3 =>
 (M.lift (Ax.build [(V.int .i64 0), (V.int .i64 0), V.nils, (V.int .i64 0), V.nils, V.nils] [(1, 1, (V.int .i64 1)), (2, 1, t3)])).bind fun t4 =>
 (mstore 6 t0 t4).bind fun _ =>
 (mload (some 6) t0).bind fun r0 =>
 M.pure (.ret [r0])

theorem eq_palanquinlaw9_plain (G : Sem') : execK G ir_palanquinlaw9_plain.rv ir_palanquinlaw9_plain.body [] [] (params 0 []) = f_palanquinlaw9_plain G := by kernel_rfl

theorem tb_palanquinlaw9_plain : T fn_palanquinlaw9_plain = some ir_palanquinlaw9_plain := by kernel_rfl

theorem ok_palanquinlaw9_plain {H : Heap} {Q : V → Heap → Prop} (h : Ok (f_palanquinlaw9_plain (sem T)) H fun r H' => ∃ L, r = .ret L ∧ Q (tupled L) H') : Ok (sem T fn_palanquinlaw9_plain []) H Q :=
  ok_sem tb_palanquinlaw9_plain (Nat.le_of_ble_eq_true (by kernel_rfl)) (eq_palanquinlaw9_plain (sem T)) h

noncomputable def ir_depend_Bytes : Fn' := irOf fn_depend_Bytes
noncomputable def f_depend_Bytes_0 (G : Sem') (t69 t68 t6 t4 t5 : V) (L : List V) : M Res :=
 (M.lift (Ax.bin .lss (L.getD 0 .undef) t69)).bind fun t71 =>
 M.ite t71
 (M.blk 1 (
 (M.lift (Ax.iaddr none 1 t68 (L.getD 0 .undef))).bind fun t72 =>
 (mload none t72).bind fun t73 =>
 (mload (some 1) t6).bind fun t74 =>
 (G fn_depend_writer_bit [t74, t73]).bind fun t76 =>
 M.pure (.nrm [])) fun _ =>
 (M.lift (Ax.bin .add (L.getD 0 .undef) (V.int .i64 1))).bind fun t77 =>
 M.pure (.nrm [t77]))
 (M.pure (.ex 0 []))

noncomputable def f_depend_Bytes (G : Sem') (t0 t1 : V) : M Res :=
 (mbox ty_depend_Frame t0).bind fun t2 =>
 (mbox ty_depend_Structure t1).bind fun t3 =>
 (mload (some 19) t2).bind fun t9 =>
 (mload (some 6) t3).bind fun t10 =>
 (G fn_depend_Good [t9, t10]).bind fun t11 =>
 (M.lift (Ax.un .not t11)).bind fun t12 =>
 M.ite t12
 (M.pure (.ret [V.nils, (V.int .i64 1)]))
 ((G fn_bits_New []).bind fun t13 =>
 (M.lift (Ax.build [V.nilp] [(0, 1, t13)])).bind fun t14 =>
 (mbox ty_depend_writer (V.agg [V.nilp])).bind fun t6 =>
 (mstore 1 t6 t14).bind fun _ =>
 (mload (some 1) t6).bind fun t15 =>
 (M.lift (Ax.faddr 0 t2)).bind fun t16 =>
 (mload none t16).bind fun t17 =>
 (G fn_depend_writer_bit [t15, t17]).bind fun t18 =>
 (mload (some 1) t6).bind fun t19 =>
 (M.lift (Ax.faddr 1 t2)).bind fun t20 =>
 (mload none t20).bind fun t21 =>
 (G fn_depend_writer_bit [t19, t21]).bind fun t22 =>
 (mload (some 1) t6).bind fun t23 =>
 (M.lift (Ax.faddr 2 t2)).bind fun t24 =>
 (mload none t24).bind fun t25 =>
 (G fn_depend_writer_num [t23, t25, (V.int .i64 6)]).bind fun t26 =>
 (mload (some 1) t6).bind fun t27 =>
 (M.lift (Ax.faddr 3 t2)).bind fun t28 =>
 (mload none t28).bind fun t29 =>
 (M.lift (Ax.cint .i64 t29)).bind fun t30 =>
 (G fn_depend_writer_num [t27, t30, (V.int .i64 16)]).bind fun t31 =>
 (M.lift (Ax.faddr 4 t2)).bind fun t32 =>
 (mload none t32).bind fun t33 =>
 (M.lift (Ax.un .not t33)).bind fun t34 =>
 (guarded [(0, t34)] (some (0, true)) (M.lift (Ax.faddr 11 t2))).bind fun t36 =>
 (guarded [(0, t34)] (some (0, true)) (mload none t36)).bind fun t37 =>
 (guarded [(0, t34)] (some (0, true)) (M.lift (Ax.un .not t37))).bind fun t38 =>
 (M.lift (Ax.pick t34 t38 (V.bool false))).bind fun t39 =>
 (guarded [(0, t39)] (some (0, true)) (M.lift (Ax.faddr 13 t2))).bind fun t41 =>
 (guarded [(0, t39)] (some (0, true)) (mload none t41)).bind fun t42 =>
 (guarded [(0, t39)] (some (0, true)) (M.lift (Ax.un .not t42))).bind fun t43 =>
 (M.lift (Ax.pick t39 t43 (V.bool false))).bind fun t44 =>
 (guarded [(0, t44)] (some (0, true)) (M.lift (Ax.faddr 14 t2))).bind fun t46 =>
 (guarded [(0, t44)] (some (0, true)) (mload none t46)).bind fun t47 =>
 (guarded [(0, t44)] (some (0, true)) (M.lift (Ax.un .not t47))).bind fun t48 =>
 (M.lift (Ax.pick t44 t48 (V.bool false))).bind fun t49 =>
 (guarded [(0, t49)] (some (0, true)) (M.lift (Ax.faddr 15 t2))).bind fun t51 =>
 (guarded [(0, t49)] (some (0, true)) (mload none t51)).bind fun t52 =>
 (guarded [(0, t49)] (some (0, true)) (M.lift (Ax.un .not t52))).bind fun t53 =>
 (M.lift (Ax.pick t49 t53 (V.bool false))).bind fun t54 =>
 M.ite t54
 ((M.lift (Ax.faddr 0 t6)).bind fun t55 =>
 (mload none t55).bind fun t56 =>
 (G fn_bits_Writer_Bytes [t56]).bind fun t57 =>
 M.pure (.ret [t57, (V.int .i64 0)]))
 ((M.lift (Ax.faddr 4 t2)).bind fun t58 =>
 (mload none t58).bind fun t59 =>
 (M.lift (Ax.faddr 11 t2)).bind fun t60 =>
 (mload none t60).bind fun t61 =>
 (M.lift (Ax.faddr 13 t2)).bind fun t62 =>
 (mload none t62).bind fun t63 =>
 (M.lift (Ax.faddr 14 t2)).bind fun t64 =>
 (mload none t64).bind fun t65 =>
 (M.lift (Ax.faddr 15 t2)).bind fun t66 =>
 (mload none t66).bind fun t67 =>
 (mslit ty_bool 5 [(V.bool false)] [(0, 1, t59), (1, 1, t61), (2, 1, t63), (3, 1, t65), (4, 1, t67)]).bind fun t68 =>
 (M.lift (vlen t68)).bind fun t69 =>
 M.blk 0 (
 M.iter (f_depend_Bytes_0 G t69 t68 t6 V.nils (V.int .i64 0)) [(V.int .i64 0)]) fun _ =>
 (M.lift (Ax.faddr 4 t2)).bind fun t78 =>
 (mload none t78).bind fun t79 =>
 M.join (M.ite t79
 ((mload (some 1) t6).bind fun t80 =>
 (M.lift (Ax.faddr 5 t2)).bind fun t81 =>
 (mload (some 6) t81).bind fun t82 =>
 (G fn_depend_writer_structure [t80, t82]).bind fun t83 =>
 M.pure (.nrm []))
 (M.pure (.nrm []))) fun _ =>
 (M.lift (Ax.faddr 11 t2)).bind fun t84 =>
 (mload none t84).bind fun t85 =>
 M.join (M.ite t85
 ((mload (some 1) t6).bind fun t86 =>
 (M.lift (Ax.faddr 12 t2)).bind fun t87 =>
 (mload none t87).bind fun t88 =>
 (M.lift (Ax.cint .i64 t88)).bind fun t89 =>
 (mload (some 19) t2).bind fun t90 =>
 (mload (some 6) t3).bind fun t91 =>
 M.getH.bind fun h0 =>
 (G fn_depend_holds [t90, t91]).bind fun t92 =>
 M.getH.bind fun h0' =>
 (M.unch t87 h0 h0').bind fun _ =>
 (M.unch t6 h0 h0').bind fun _ =>
 (M.lift (Ax.field 1 none t92)).bind fun t93 =>
 (G fn_depend_writer_num [t86, t89, t93]).bind fun t94 =>
 M.pure (.nrm []))
 (M.pure (.nrm []))) fun _ =>
 (M.lift (Ax.faddr 13 t2)).bind fun t95 =>
 (mload none t95).bind fun t96 =>
 M.join (M.ite t96
 ((mload (some 1) t6).bind fun t97 =>
 (M.lift (Ax.faddr 16 t2)).bind fun t98 =>
 (mload none t98).bind fun t99 =>
 (G fn_depend_writer_nums [t97, t99, (V.int .i64 2)]).bind fun t100 =>
 M.pure (.nrm []))
 (M.pure (.nrm []))) fun _ =>
 (M.lift (Ax.faddr 14 t2)).bind fun t101 =>
 (mload none t101).bind fun t102 =>
 M.join (M.ite t102
 ((mload (some 1) t6).bind fun t103 =>
 (M.lift (Ax.faddr 17 t2)).bind fun t104 =>
 (mload none t104).bind fun t105 =>
 (G fn_depend_writer_own [t103, t105]).bind fun t106 =>
 M.pure (.nrm []))
 (M.pure (.nrm []))) fun _ =>
 (M.lift (Ax.faddr 15 t2)).bind fun t107 =>
 (mload none t107).bind fun t108 =>
 M.join (M.ite t108
 ((mload (some 1) t6).bind fun t109 =>
 (M.lift (Ax.faddr 18 t2)).bind fun t110 =>
 (mload none t110).bind fun t111 =>
 (G fn_depend_writer_nums [t109, t111, (V.int .i64 8)]).bind fun t112 =>
 M.pure (.nrm []))
 (M.pure (.nrm []))) fun _ =>
 (M.lift (Ax.faddr 0 t6)).bind fun t113 =>
 (mload none t113).bind fun t114 =>
 (G fn_bits_Writer_Bytes [t114]).bind fun t115 =>
 M.pure (.ret [t115, (V.int .i64 0)])))

theorem eq_depend_Bytes (G : Sem') (t0 t1 : V) : execK G ir_depend_Bytes.rv ir_depend_Bytes.body [] [] (params 0 [t0, t1]) = f_depend_Bytes G t0 t1 := by kernel_rfl

theorem tb_depend_Bytes : T fn_depend_Bytes = some ir_depend_Bytes := by kernel_rfl

theorem ok_depend_Bytes {t0 t1 : V} {H : Heap} {Q : V → Heap → Prop} (h : Ok (f_depend_Bytes (sem T) t0 t1) H fun r H' => ∃ L, r = .ret L ∧ Q (tupled L) H') : Ok (sem T fn_depend_Bytes [t0, t1]) H Q :=
  ok_sem tb_depend_Bytes (Nat.le_of_ble_eq_true (by kernel_rfl)) (eq_depend_Bytes (sem T) t0 t1) h

noncomputable def ir_depend_Good : Fn' := irOf fn_depend_Good
noncomputable def f_depend_Good (G : Sem') (t0 t1 : V) : M Res :=
 (mbox ty_depend_Frame t0).bind fun t2 =>
 (mbox ty_depend_Structure t1).bind fun t3 =>
 (mload (some 19) t2).bind fun t9 =>
 (mload (some 6) t3).bind fun t10 =>
 (G fn_depend_Of [t9, t10]).bind fun t11 =>
 (M.lift (Ax.ext 0 t11)).bind fun t12 =>
 (M.lift (Ax.ext 1 t11)).bind fun t13 =>
 (mbox ty_depend_Template (V.agg [(V.int .i64 0), (V.int .i64 0), V.nils, V.nils, V.nils])).bind fun t5 =>
 (mstore 5 t5 t12).bind fun _ =>
 (mload (some 19) t2).bind fun t14 =>
 (mload (some 6) t3).bind fun t15 =>
 (G fn_depend_holds [t14, t15]).bind fun t16 =>
 (mbox ty_depend_Structure (V.agg [(V.int .i64 0), (V.int .i64 0), V.nils, (V.int .i64 0), V.nils, V.nils])).bind fun t7 =>
 (mstore 6 t7 t16).bind fun _ =>
 M.blk 0 (
 (M.lift (Ax.un .not t13)).bind fun t19 =>
 (guarded [(0, t19)] (some (0, false)) (M.lift (Ax.faddr 4 t2))).bind fun t21 =>
 (guarded [(0, t19)] (some (0, false)) (mload none t21)).bind fun t22 =>
 (guarded [(0, t19)] (some (0, false)) (M.lift (Ax.un .not t22))).bind fun t23 =>
 (guarded [(0, t19)] (some (0, false)) (M.pure t23)).bind fun t24 =>
 (guarded [(0, t24)] (some (0, true)) (M.lift (Ax.faddr 5 t2))).bind fun t25 =>
 (guarded [(0, t24)] (some (0, true)) (mload (some 6) t25)).bind fun t26 =>
 (guarded [(0, t24)] (some (0, true)) (G fn_depend_none [t26])).bind fun t27 =>
 (guarded [(0, t24)] (some (0, true)) (M.lift (Ax.un .not t27))).bind fun t28 =>
 (guarded [(0, t19)] (some (0, false)) (M.lift (Ax.pick t24 t28 (V.bool false)))).bind fun t29 =>
 (M.lift (Ax.pick t19 (V.bool true) t29)).bind fun t30 =>
 M.ite t30
 (M.pure (.ret [(V.bool false)]))
 ((M.lift (Ax.faddr 11 t2)).bind fun t32 =>
 (mload none t32).bind fun t33 =>
 (M.lift (Ax.un .not t33)).bind fun t34 =>
 (guarded [(0, t34)] (some (0, true)) (M.lift (Ax.faddr 12 t2))).bind fun t36 =>
 (guarded [(0, t34)] (some (0, true)) (mload none t36)).bind fun t37 =>
 (guarded [(0, t34)] (some (0, true)) (M.lift (Ax.bin .neq t37 (V.int .u32 0)))).bind fun t38 =>
 (M.lift (Ax.pick t34 t38 (V.bool false))).bind fun t39 =>
 (guarded [(0, t39)] (some (0, false)) (M.lift (Ax.faddr 12 t2))).bind fun t41 =>
 (guarded [(0, t39)] (some (0, false)) (mload none t41)).bind fun t42 =>
 (guarded [(0, t39)] (some (0, false)) (M.lift (Ax.cint .u64 t42))).bind fun t43 =>
 (guarded [(0, t39)] (some (0, false)) (M.lift (Ax.faddr 1 t7))).bind fun t44 =>
 (guarded [(0, t39)] (some (0, false)) (mload none t44)).bind fun t45 =>
 (guarded [(0, t39)] (some (0, false)) (M.lift (Ax.bin .shr t43 t45))).bind fun t46 =>
 (guarded [(0, t39)] (some (0, false)) (M.lift (Ax.bin .neq t46 (V.int .u64 0)))).bind fun t47 =>
 (M.lift (Ax.pick t39 (V.bool true) t47)).bind fun t48 =>
 M.ite t48
 (M.pure (.ret [(V.bool false)]))
 ((M.lift (Ax.faddr 13 t2)).bind fun t50 =>
 (mload none t50).bind fun t51 =>
 (guarded [(0, t51)] (some (0, true)) (M.lift (Ax.faddr 16 t2))).bind fun t53 =>
 (guarded [(0, t51)] (some (0, true)) (mload none t53)).bind fun t54 =>
 (guarded [(0, t51)] (some (0, true)) (M.lift (Ax.faddr 1 t7))).bind fun t55 =>
 (guarded [(0, t51)] (some (0, true)) (mload none t55)).bind fun t56 =>
 (guarded [(0, t51)] (some (0, true)) (G fn_depend_within [t54, t56, (V.int .i64 0), (V.int .i64 3)])).bind fun t57 =>
 (guarded [(0, t51)] (some (0, true)) (M.lift (Ax.un .not t57))).bind fun t58 =>
 (M.lift (Ax.pick t51 t58 (V.bool false))).bind fun t59 =>
 (guarded [(0, t59)] (some (0, false)) (M.lift (Ax.faddr 13 t2))).bind fun t61 =>
 (guarded [(0, t59)] (some (0, false)) (mload none t61)).bind fun t62 =>
 (guarded [(0, t59)] (some (0, false)) (M.lift (Ax.un .not t62))).bind fun t63 =>
 (guarded [(0, t59)] (some (0, false)) (M.pure t63)).bind fun t64 =>
 (guarded [(0, t64)] (some (0, true)) (M.lift (Ax.faddr 16 t2))).bind fun t65 =>
 (guarded [(0, t64)] (some (0, true)) (mload none t65)).bind fun t66 =>
 (guarded [(0, t64)] (some (0, true)) (M.lift (Ax.faddr 2 t5))).bind fun t67 =>
 (guarded [(0, t64)] (some (0, true)) (mload none t67)).bind fun t68 =>
 (guarded [(0, t64)] (some (0, true)) (G fn_slices_Equal_int_int [t66, t68])).bind fun t69 =>
 (guarded [(0, t64)] (some (0, true)) (M.lift (Ax.un .not t69))).bind fun t70 =>
 (guarded [(0, t59)] (some (0, false)) (M.lift (Ax.pick t64 t70 (V.bool false)))).bind fun t71 =>
 (M.lift (Ax.pick t59 (V.bool true) t71)).bind fun t72 =>
 M.ite t72
 (M.pure (.ret [(V.bool false)]))
 ((M.lift (Ax.faddr 14 t2)).bind fun t74 =>
 (mload none t74).bind fun t75 =>
 (guarded [(0, t75)] (some (0, true)) (M.lift (Ax.faddr 17 t2))).bind fun t77 =>
 (guarded [(0, t75)] (some (0, true)) (mload none t77)).bind fun t78 =>
 (guarded [(0, t75)] (some (0, true)) (G fn_depend_diffs [t78, (V.int .i64 16), (V.int .i64 4096)])).bind fun t79 =>
 (guarded [(0, t75)] (some (0, true)) (M.lift (Ax.un .not t79))).bind fun t80 =>
 (M.lift (Ax.pick t75 t80 (V.bool false))).bind fun t81 =>
 (guarded [(0, t81)] (some (0, false)) (M.lift (Ax.faddr 14 t2))).bind fun t83 =>
 (guarded [(0, t81)] (some (0, false)) (mload none t83)).bind fun t84 =>
 (guarded [(0, t81)] (some (0, false)) (M.lift (Ax.un .not t84))).bind fun t85 =>
 (guarded [(0, t81)] (some (0, false)) (M.pure t85)).bind fun t86 =>
 (guarded [(0, t86)] (some (0, true)) (M.lift (Ax.faddr 17 t2))).bind fun t87 =>
 (guarded [(0, t86)] (some (0, true)) (mload none t87)).bind fun t88 =>
 (guarded [(0, t86)] (some (0, true)) (M.lift (Ax.faddr 3 t5))).bind fun t89 =>
 (guarded [(0, t86)] (some (0, true)) (mload none t89)).bind fun t90 =>
 (guarded [(0, t86)] (some (0, true)) (G fn_slices_Equal_int_int [t88, t90])).bind fun t91 =>
 (guarded [(0, t86)] (some (0, true)) (M.lift (Ax.un .not t91))).bind fun t92 =>
 (guarded [(0, t81)] (some (0, false)) (M.lift (Ax.pick t86 t92 (V.bool false)))).bind fun t93 =>
 (M.lift (Ax.pick t81 (V.bool true) t93)).bind fun t94 =>
 M.ite t94
 (M.pure (.ret [(V.bool false)]))
 (M.pure (.nrm [])))))) fun _ =>
 (M.lift (Ax.faddr 15 t2)).bind fun t95 =>
 (mload none t95).bind fun t96 =>
 M.ite t96
 ((M.lift (Ax.faddr 18 t2)).bind fun t97 =>
 (mload none t97).bind fun t98 =>
 (M.lift (Ax.faddr 3 t7)).bind fun t99 =>
 (mload none t99).bind fun t100 =>
 (G fn_depend_within [t98, t100, (V.int .i64 0), (V.int .i64 255)]).bind fun t101 =>
 M.pure (.ret [t101]))
 ((M.lift (Ax.faddr 18 t2)).bind fun t102 =>
 (mload none t102).bind fun t103 =>
 (M.lift (Ax.faddr 4 t5)).bind fun t104 =>
 (mload none t104).bind fun t105 =>
 (G fn_slices_Equal_int_int [t103, t105]).bind fun t106 =>
 M.pure (.ret [t106]))

theorem eq_depend_Good (G : Sem') (t0 t1 : V) : execK G ir_depend_Good.rv ir_depend_Good.body [] [] (params 0 [t0, t1]) = f_depend_Good G t0 t1 := by kernel_rfl

theorem tb_depend_Good : T fn_depend_Good = some ir_depend_Good := by kernel_rfl

theorem ok_depend_Good {t0 t1 : V} {H : Heap} {Q : V → Heap → Prop} (h : Ok (f_depend_Good (sem T) t0 t1) H fun r H' => ∃ L, r = .ret L ∧ Q (tupled L) H') : Ok (sem T fn_depend_Good [t0, t1]) H Q :=
  ok_sem tb_depend_Good (Nat.le_of_ble_eq_true (by kernel_rfl)) (eq_depend_Good (sem T) t0 t1) h

noncomputable def ir_depend_Of : Fn' := irOf fn_depend_Of
noncomputable def f_depend_Of (G : Sem') (t0 t1 : V) : M Res :=
 (mbox ty_depend_Frame t0).bind fun t2 =>
 (mbox ty_depend_Structure t1).bind fun t3 =>
 (mbox ty_depend_Template (V.agg [(V.int .i64 0), (V.int .i64 0), V.nils, V.nils, V.nils])).bind fun t4 =>
 (mload (some 19) t2).bind fun t7 =>
 (mload (some 6) t3).bind fun t8 =>
 (G fn_depend_holds [t7, t8]).bind fun t9 =>
 (mbox ty_depend_Structure (V.agg [(V.int .i64 0), (V.int .i64 0), V.nils, (V.int .i64 0), V.nils, V.nils])).bind fun t6 =>
 (mstore 6 t6 t9).bind fun _ =>
 (mload (some 6) t6).bind fun t10 =>
 (G fn_depend_Fine [t10]).bind fun t11 =>
 (M.lift (Ax.un .not t11)).bind fun t12 =>
 M.ite t12
 ((M.lift (Ax.build [(V.int .i64 0), (V.int .i64 0), V.nils, V.nils, V.nils] [])).bind fun t13 =>
 (mstore 5 t4 t13).bind fun _ =>
 (mload (some 5) t4).bind fun r0 =>
 M.pure (.ret [r0, (V.bool false)]))
 ((mload (some 6) t6).bind fun t14 =>
 (M.lift (Ax.faddr 2 t2)).bind fun t15 =>
 (mload none t15).bind fun t16 =>
 (G fn_depend_template [t14, t16]).bind fun t17 =>
 (M.lift (Ax.ext 0 t17)).bind fun t18 =>
 (M.lift (Ax.ext 1 t17)).bind fun t19 =>
 (mstore 5 t4 t18).bind fun _ =>
 (mload (some 5) t4).bind fun r0 =>
 M.pure (.ret [r0, t19]))

theorem eq_depend_Of (G : Sem') (t0 t1 : V) : execK G ir_depend_Of.rv ir_depend_Of.body [] [] (params 0 [t0, t1]) = f_depend_Of G t0 t1 := by kernel_rfl

theorem tb_depend_Of : T fn_depend_Of = some ir_depend_Of := by kernel_rfl

theorem ok_depend_Of {t0 t1 : V} {H : Heap} {Q : V → Heap → Prop} (h : Ok (f_depend_Of (sem T) t0 t1) H fun r H' => ∃ L, r = .ret L ∧ Q (tupled L) H') : Ok (sem T fn_depend_Of [t0, t1]) H Q :=
  ok_sem tb_depend_Of (Nat.le_of_ble_eq_true (by kernel_rfl)) (eq_depend_Of (sem T) t0 t1) h

noncomputable def ir_depend_holds : Fn' := irOf fn_depend_holds
noncomputable def f_depend_holds (G : Sem') (t0 t1 : V) : M Res :=
 (mbox ty_depend_Frame t0).bind fun t2 =>
 (mbox ty_depend_Structure t1).bind fun t3 =>
 (mbox ty_depend_Structure (V.agg [(V.int .i64 0), (V.int .i64 0), V.nils, (V.int .i64 0), V.nils, V.nils])).bind fun t4 =>
 (M.lift (Ax.faddr 4 t2)).bind fun t5 =>
 (mload none t5).bind fun t6 =>
 M.ite t6
 ((M.lift (Ax.faddr 5 t2)).bind fun t7 =>
 (mload (some 6) t7).bind fun t8 =>
 (mstore 6 t4 t8).bind fun _ =>
 (mload (some 6) t4).bind fun r0 =>
 M.pure (.ret [r0]))
 ((mload (some 6) t3).bind fun t9 =>
 (mstore 6 t4 t9).bind fun _ =>
 (mload (some 6) t4).bind fun r0 =>
 M.pure (.ret [r0]))

theorem eq_depend_holds (G : Sem') (t0 t1 : V) : execK G ir_depend_holds.rv ir_depend_holds.body [] [] (params 0 [t0, t1]) = f_depend_holds G t0 t1 := by kernel_rfl

theorem tb_depend_holds : T fn_depend_holds = some ir_depend_holds := by kernel_rfl

theorem ok_depend_holds {t0 t1 : V} {H : Heap} {Q : V → Heap → Prop} (h : Ok (f_depend_holds (sem T) t0 t1) H fun r H' => ∃ L, r = .ret L ∧ Q (tupled L) H') : Ok (sem T fn_depend_holds [t0, t1]) H Q :=
  ok_sem tb_depend_holds (Nat.le_of_ble_eq_true (by kernel_rfl)) (eq_depend_holds (sem T) t0 t1) h

noncomputable def ir_depend_template : Fn' := irOf fn_depend_template
noncomputable def f_depend_template (G : Sem') (t0 t1 : V) : M Res :=
 (mbox ty_depend_Structure t0).bind fun t2 =>
 (mbox ty_depend_Template (V.agg [(V.int .i64 0), (V.int .i64 0), V.nils, V.nils, V.nils])).bind fun t4 =>
 (M.lift (Ax.bin .lss t1 (V.int .i64 0))).bind fun t8 =>
 (guarded [(0, t8)] (some (0, false)) (M.pure t1)).bind fun t10 =>
 (guarded [(0, t8)] (some (0, false)) (M.lift (Ax.bin .geq t10 (V.int .i64 64)))).bind fun t11 =>
 (M.lift (Ax.pick t8 (V.bool true) t11)).bind fun t12 =>
 M.ite t12
 ((M.lift (Ax.build [(V.int .i64 0), (V.int .i64 0), V.nils, V.nils, V.nils] [])).bind fun t13 =>
 (mstore 5 t4 t13).bind fun _ =>
 (mload (some 5) t4).bind fun r0 =>
 M.pure (.ret [r0, (V.bool false)]))
 ((M.lift (Ax.bin .add t1 (V.int .i64 64))).bind fun t15 =>
 (M.lift (Ax.faddr 0 t2)).bind fun t16 =>
 (mload none t16).bind fun t17 =>
 (M.lift (Ax.bin .sub t15 t17)).bind fun t18 =>
 (M.lift (Ax.bin .rem t18 (V.int .i64 64))).bind fun t19 =>
 (M.lift (Ax.faddr 2 t2)).bind fun t21 =>
 (mload none t21).bind fun t22 =>
 (M.lift (vlen t22)).bind fun t23 =>
 (M.lift (Ax.bin .geq t19 t23)).bind fun t24 =>
 M.ite t24
 ((M.lift (Ax.build [(V.int .i64 0), (V.int .i64 0), V.nils, V.nils, V.nils] [])).bind fun t25 =>
 (mstore 5 t4 t25).bind fun _ =>
 (mload (some 5) t4).bind fun r0 =>
 M.pure (.ret [r0, (V.bool false)]))
 ((M.lift (Ax.faddr 2 t2)).bind fun t26 =>
 (mload none t26).bind fun t27 =>
 (M.lift (Ax.iaddr none 5 t27 t19)).bind fun t29 =>
 (mload (some 5) t29).bind fun t30 =>
 (G fn_depend_copied [t30]).bind fun t31 =>
 (mstore 5 t4 t31).bind fun _ =>
 (mload (some 5) t4).bind fun r0 =>
 M.pure (.ret [r0, (V.bool true)])))

theorem eq_depend_template (G : Sem') (t0 t1 : V) : execK G ir_depend_template.rv ir_depend_template.body [] [] (params 0 [t0, t1]) = f_depend_template G t0 t1 := by kernel_rfl

theorem tb_depend_template : T fn_depend_template = some ir_depend_template := by kernel_rfl

theorem ok_depend_template {t0 t1 : V} {H : Heap} {Q : V → Heap → Prop} (h : Ok (f_depend_template (sem T) t0 t1) H fun r H' => ∃ L, r = .ret L ∧ Q (tupled L) H') : Ok (sem T fn_depend_template [t0, t1]) H Q :=
  ok_sem tb_depend_template (Nat.le_of_ble_eq_true (by kernel_rfl)) (eq_depend_template (sem T) t0 t1) h

noncomputable def ir_depend_copied : Fn' := irOf fn_depend_copied
noncomputable def f_depend_copied (G : Sem') (t0 : V) : M Res :=
 (mbox ty_depend_Template t0).bind fun t1 =>
 (mbox ty_depend_Template (V.agg [(V.int .i64 0), (V.int .i64 0), V.nils, V.nils, V.nils])).bind fun t2 =>
 (M.lift (Ax.faddr 2 t1)).bind fun t3 =>
 (mload none t3).bind fun t4 =>
 (M.lift (Ax.faddr 3 t1)).bind fun t6 =>
 (mload none t6).bind fun t7 =>
 (M.lift (Ax.faddr 4 t1)).bind fun t9 =>
 (mload none t9).bind fun t10 =>
 M.getH.bind fun h0 =>
 (G fn_slices_Clone_int_int [t4]).bind fun t5 =>
 M.getH.bind fun h0' =>
 (M.unch t9 h0 h0').bind fun _ =>
 (M.unch t6 h0 h0').bind fun _ =>
 M.getH.bind fun h1 =>
 (G fn_slices_Clone_int_int [t7]).bind fun t8 =>
 M.getH.bind fun h1' =>
 (M.unch t9 h1 h1').bind fun _ =>
 (G fn_slices_Clone_int_int [t10]).bind fun t11 =>
 (M.lift (Ax.faddr 2 t1)).bind fun t12 =>
 (mstore 1 t12 t5).bind fun _ =>
 (M.lift (Ax.faddr 3 t1)).bind fun t13 =>
 (mstore 1 t13 t8).bind fun _ =>
 (M.lift (Ax.faddr 4 t1)).bind fun t14 =>
 (mstore 1 t14 t11).bind fun _ =>
 (mload (some 5) t1).bind fun t15 =>
 (mstore 5 t2 t15).bind fun _ =>
 (mload (some 5) t2).bind fun r0 =>
 M.pure (.ret [r0])

theorem eq_depend_copied (G : Sem') (t0 : V) : execK G ir_depend_copied.rv ir_depend_copied.body [] [] (params 0 [t0]) = f_depend_copied G t0 := by kernel_rfl

theorem tb_depend_copied : T fn_depend_copied = some ir_depend_copied := by kernel_rfl

theorem ok_depend_copied {t0 : V} {H : Heap} {Q : V → Heap → Prop} (h : Ok (f_depend_copied (sem T) t0) H fun r H' => ∃ L, r = .ret L ∧ Q (tupled L) H') : Ok (sem T fn_depend_copied [t0]) H Q :=
  ok_sem tb_depend_copied (Nat.le_of_ble_eq_true (by kernel_rfl)) (eq_depend_copied (sem T) t0) h

noncomputable def ir_slices_Clone_int_int : Fn' := irOf fn_slices_Clone_int_int
noncomputable def f_slices_Clone_int_int (G : Sem') (t0 : V) : M Res :=
 (M.lift (eqr .sl false t0 V.nils)).bind fun t4 =>
 M.ite t4
 (M.pure (.ret [V.nils]))
 ((mslit ty_int 0 [(V.int .i64 0)] []).bind fun t5 =>
 (mappend ty_int 1 8 t5 t0).bind fun t7 =>
 M.pure (.ret [t7]))

theorem eq_slices_Clone_int_int (G : Sem') (t0 : V) : execK G ir_slices_Clone_int_int.rv ir_slices_Clone_int_int.body [] [] (params 0 [t0]) = f_slices_Clone_int_int G t0 := by kernel_rfl

theorem tb_slices_Clone_int_int : T fn_slices_Clone_int_int = some ir_slices_Clone_int_int := by kernel_rfl

theorem ok_slices_Clone_int_int {t0 : V} {H : Heap} {Q : V → Heap → Prop} (h : Ok (f_slices_Clone_int_int (sem T) t0) H fun r H' => ∃ L, r = .ret L ∧ Q (tupled L) H') : Ok (sem T fn_slices_Clone_int_int [t0]) H Q :=
  ok_sem tb_slices_Clone_int_int (Nat.le_of_ble_eq_true (by kernel_rfl)) (eq_slices_Clone_int_int (sem T) t0) h

noncomputable def ir_depend_none : Fn' := irOf fn_depend_none
noncomputable def f_depend_none (G : Sem') (t0 : V) : M Res :=
 (mbox ty_depend_Structure t0).bind fun t1 =>
 (M.lift (Ax.faddr 0 t1)).bind fun t3 =>
 (mload none t3).bind fun t4 =>
 (M.lift (Ax.bin .eql t4 (V.int .i64 0))).bind fun t5 =>
 (guarded [(0, t5)] (some (0, true)) (M.lift (Ax.faddr 1 t1))).bind fun t7 =>
 (guarded [(0, t5)] (some (0, true)) (mload none t7)).bind fun t8 =>
 (guarded [(0, t5)] (some (0, true)) (M.lift (Ax.bin .eql t8 (V.int .i64 0)))).bind fun t9 =>
 (M.lift (Ax.pick t5 t9 (V.bool false))).bind fun t10 =>
 (guarded [(0, t10)] (some (0, true)) (M.lift (Ax.faddr 3 t1))).bind fun t12 =>
 (guarded [(0, t10)] (some (0, true)) (mload none t12)).bind fun t13 =>
 (guarded [(0, t10)] (some (0, true)) (M.lift (Ax.bin .eql t13 (V.int .i64 0)))).bind fun t14 =>
 (M.lift (Ax.pick t10 t14 (V.bool false))).bind fun t15 =>
 (guarded [(0, t15)] (some (0, true)) (M.lift (Ax.faddr 2 t1))).bind fun t17 =>
 (guarded [(0, t15)] (some (0, true)) (mload none t17)).bind fun t18 =>
 (guarded [(0, t15)] (some (0, true)) (M.lift (vlen t18))).bind fun t19 =>
 (guarded [(0, t15)] (some (0, true)) (M.lift (Ax.faddr 4 t1))).bind fun t20 =>
 (guarded [(0, t15)] (some (0, true)) (mload none t20)).bind fun t21 =>
 (guarded [(0, t15)] (some (0, true)) (M.lift (vlen t21))).bind fun t22 =>
 (guarded [(0, t15)] (some (0, true)) (M.lift (Ax.bin .add t19 t22))).bind fun t23 =>
 (guarded [(0, t15)] (some (0, true)) (M.lift (Ax.faddr 5 t1))).bind fun t24 =>
 (guarded [(0, t15)] (some (0, true)) (mload none t24)).bind fun t25 =>
 (guarded [(0, t15)] (some (0, true)) (M.lift (vlen t25))).bind fun t26 =>
 (guarded [(0, t15)] (some (0, true)) (M.lift (Ax.bin .add t23 t26))).bind fun t27 =>
 (guarded [(0, t15)] (some (0, true)) (M.lift (Ax.bin .eql t27 (V.int .i64 0)))).bind fun t28 =>
 (M.lift (Ax.pick t15 t28 (V.bool false))).bind fun t29 =>
 M.pure (.ret [t29])

theorem eq_depend_none (G : Sem') (t0 : V) : execK G ir_depend_none.rv ir_depend_none.body [] [] (params 0 [t0]) = f_depend_none G t0 := by kernel_rfl

theorem tb_depend_none : T fn_depend_none = some ir_depend_none := by kernel_rfl

theorem ok_depend_none {t0 : V} {H : Heap} {Q : V → Heap → Prop} (h : Ok (f_depend_none (sem T) t0) H fun r H' => ∃ L, r = .ret L ∧ Q (tupled L) H') : Ok (sem T fn_depend_none [t0]) H Q :=
  ok_sem tb_depend_none (Nat.le_of_ble_eq_true (by kernel_rfl)) (eq_depend_none (sem T) t0) h

noncomputable def ir_slices_Equal_int_int : Fn' := irOf fn_slices_Equal_int_int
noncomputable def f_slices_Equal_int_int_0 (G : Sem') (t12 t0 t1 : V) (L : List V) : M Res :=
 (M.lift (Ax.bin .lss (L.getD 0 .undef) t12)).bind fun t14 =>
 M.ite t14
 (M.blk 1 (
 (M.lift (Ax.iaddr none 1 t0 (L.getD 0 .undef))).bind fun t18 =>
 (mload none t18).bind fun t19 =>
 (M.lift (Ax.iaddr none 1 t1 (L.getD 0 .undef))).bind fun t22 =>
 (mload none t22).bind fun t23 =>
 (M.lift (Ax.bin .neq t19 t23)).bind fun t24 =>
 M.ite t24
 (M.pure (.ret [(V.bool false)]))
 (M.pure (.nrm []))) fun _ =>
 (M.lift (Ax.bin .add (L.getD 0 .undef) (V.int .i64 1))).bind fun t25 =>
 M.pure (.nrm [t25]))
 (M.pure (.ex 0 []))

noncomputable def f_slices_Equal_int_int (G : Sem') (t0 t1 : V) : M Res :=
 (M.lift (vlen t0)).bind fun t7 =>
 (M.lift (vlen t1)).bind fun t9 =>
 (M.lift (Ax.bin .neq t7 t9)).bind fun t10 =>
 M.ite t10
 (M.pure (.ret [(V.bool false)]))
 ((M.lift (vlen t0)).bind fun t12 =>
 M.blk 0 (
 M.iter (f_slices_Equal_int_int_0 G t12 t0 t1) [(V.int .i64 0)]) fun _ =>
 M.pure (.ret [(V.bool true)]))

theorem eq_slices_Equal_int_int (G : Sem') (t0 t1 : V) : execK G ir_slices_Equal_int_int.rv ir_slices_Equal_int_int.body [] [] (params 0 [t0, t1]) = f_slices_Equal_int_int G t0 t1 := by kernel_rfl

theorem tb_slices_Equal_int_int : T fn_slices_Equal_int_int = some ir_slices_Equal_int_int := by kernel_rfl

theorem ok_slices_Equal_int_int {t0 t1 : V} {H : Heap} {Q : V → Heap → Prop} (h : Ok (f_slices_Equal_int_int (sem T) t0 t1) H fun r H' => ∃ L, r = .ret L ∧ Q (tupled L) H') : Ok (sem T fn_slices_Equal_int_int [t0, t1]) H Q :=
  ok_sem tb_slices_Equal_int_int (Nat.le_of_ble_eq_true (by kernel_rfl)) (eq_slices_Equal_int_int (sem T) t0 t1) h

noncomputable def ir_bits_New : Fn' := irOf fn_bits_New
noncomputable def f_bits_New (G : Sem') : M Res :=
 (M.lift (Ax.build [V.nils, (V.int .i64 0)] [])).bind fun t1 =>
 (mbox ty_bits_Writer t1).bind fun t2 =>
 M.pure (.ret [t2])

theorem eq_bits_New (G : Sem') : execK G ir_bits_New.rv ir_bits_New.body [] [] (params 0 []) = f_bits_New G := by kernel_rfl

theorem tb_bits_New : T fn_bits_New = some ir_bits_New := by kernel_rfl

theorem ok_bits_New {H : Heap} {Q : V → Heap → Prop} (h : Ok (f_bits_New (sem T)) H fun r H' => ∃ L, r = .ret L ∧ Q (tupled L) H') : Ok (sem T fn_bits_New []) H Q :=
  ok_sem tb_bits_New (Nat.le_of_ble_eq_true (by kernel_rfl)) (eq_bits_New (sem T)) h

noncomputable def ir_depend_writer_bit : Fn' := irOf fn_depend_writer_bit
noncomputable def f_depend_writer_bit (G : Sem') (t0 t1 : V) : M Res :=
 (mbox ty_depend_writer t0).bind fun t2 =>
 M.join (M.ite t1
 (M.pure (.nrm [(V.int .i64 1)]))
 (M.pure (.nrm [(V.int .i64 0)]))) fun L0 =>
 (mload (some 1) t2).bind fun t6 =>
 (G fn_depend_writer_num [t6, (L0.getD 0 .undef), (V.int .i64 1)]).bind fun t8 =>
 M.pure (.ret [])

theorem eq_depend_writer_bit (G : Sem') (t0 t1 : V) : execK G ir_depend_writer_bit.rv ir_depend_writer_bit.body [] [] (params 0 [t0, t1]) = f_depend_writer_bit G t0 t1 := by kernel_rfl

theorem tb_depend_writer_bit : T fn_depend_writer_bit = some ir_depend_writer_bit := by kernel_rfl

theorem ok_depend_writer_bit {t0 t1 : V} {H : Heap} {Q : V → Heap → Prop} (h : Ok (f_depend_writer_bit (sem T) t0 t1) H fun r H' => ∃ L, r = .ret L ∧ Q (tupled L) H') : Ok (sem T fn_depend_writer_bit [t0, t1]) H Q :=
  ok_sem tb_depend_writer_bit (Nat.le_of_ble_eq_true (by kernel_rfl)) (eq_depend_writer_bit (sem T) t0 t1) h

noncomputable def ir_depend_writer_num : Fn' := irOf fn_depend_writer_num
noncomputable def f_depend_writer_num (G : Sem') (t0 t1 t2 : V) : M Res :=
 (mbox ty_depend_writer t0).bind fun t3 =>
 (M.lift (Ax.faddr 0 t3)).bind fun t6 =>
 (mload none t6).bind fun t7 =>
 (M.lift (Ax.cint .u64 t1)).bind fun t9 =>
 (G fn_bits_Writer_Add [t7, t9, t2]).bind fun t11 =>
 M.pure (.ret [])

theorem eq_depend_writer_num (G : Sem') (t0 t1 t2 : V) : execK G ir_depend_writer_num.rv ir_depend_writer_num.body [] [] (params 0 [t0, t1, t2]) = f_depend_writer_num G t0 t1 t2 := by kernel_rfl

theorem tb_depend_writer_num : T fn_depend_writer_num = some ir_depend_writer_num := by kernel_rfl

theorem ok_depend_writer_num {t0 t1 t2 : V} {H : Heap} {Q : V → Heap → Prop} (h : Ok (f_depend_writer_num (sem T) t0 t1 t2) H fun r H' => ∃ L, r = .ret L ∧ Q (tupled L) H') : Ok (sem T fn_depend_writer_num [t0, t1, t2]) H Q :=
  ok_sem tb_depend_writer_num (Nat.le_of_ble_eq_true (by kernel_rfl)) (eq_depend_writer_num (sem T) t0 t1 t2) h

noncomputable def ir_bits_Writer_Add : Fn' := irOf fn_bits_Writer_Add
noncomputable def f_bits_Writer_Add_0 (G : Sem') (t1 t0 t6 : V) (L : List V) : M Res :=
 (M.lift (Ax.bin .geq (L.getD 0 .undef) (V.int .i64 0))).bind fun t23 =>
 M.ite t23
 (M.blk 1 (
 (M.lift (Ax.nilck t0)).bind fun t27 =>
 (M.lift (Ax.faddr 1 t27)).bind fun t28 =>
 (mload none t28).bind fun t29 =>
 (M.lift (Ax.bin .rem t29 (V.int .i64 8))).bind fun t30 =>
 (M.lift (Ax.bin .eql t30 (V.int .i64 0))).bind fun t31 =>
 M.join (M.ite t31
 ((M.lift (Ax.nilck t0)).bind fun t34 =>
 (M.lift (Ax.faddr 0 t34)).bind fun t35 =>
 (mload none t35).bind fun t36 =>
 (mslit ty_uint8 1 [(V.int .u8 0)] [(0, 1, (V.int .u8 0))]).bind fun t37 =>
 (mappend ty_uint8 1 1 t36 t37).bind fun t38 =>
 (M.lift (Ax.nilck t0)).bind fun t39 =>
 (M.lift (Ax.faddr 0 t39)).bind fun t40 =>
 (mstore 1 t40 t38).bind fun _ =>
 M.pure (.nrm []))
 (M.pure (.nrm []))) fun _ =>
 (M.lift (Ax.bin .shr t1 (L.getD 0 .undef))).bind fun t43 =>
 (M.lift (Ax.bin .and t43 (V.int .u64 1))).bind fun t44 =>
 (M.lift (Ax.bin .eql t44 (V.int .u64 1))).bind fun t45 =>
 M.join (M.ite t45
 ((M.lift (Ax.nilck t0)).bind fun t47 =>
 (M.lift (Ax.faddr 0 t47)).bind fun t48 =>
 (mload none t48).bind fun t49 =>
 (M.lift (Ax.nilck t0)).bind fun t51 =>
 (M.lift (Ax.faddr 1 t51)).bind fun t52 =>
 (mload none t52).bind fun t53 =>
 (M.lift (Ax.bin .quo t53 (V.int .i64 8))).bind fun t54 =>
 (M.lift (Ax.iaddr none 1 t49 t54)).bind fun t55 =>
 (mload none t55).bind fun t56 =>
 (M.lift (Ax.nilck t0)).bind fun t58 =>
 (M.lift (Ax.faddr 1 t58)).bind fun t59 =>
 (mload none t59).bind fun t60 =>
 (M.lift (Ax.bin .rem t60 (V.int .i64 8))).bind fun t61 =>
 (M.lift (Ax.bin .shr (V.int .u8 128) t61)).bind fun t62 =>
 (M.lift (Ax.bin .or t56 t62)).bind fun t63 =>
 (M.lift (Ax.iaddr none 1 t49 t54)).bind fun t64 =>
 (mstore 1 t64 t63).bind fun _ =>
 M.pure (.nrm []))
 (M.pure (.nrm []))) fun _ =>
 (M.lift (Ax.nilck t0)).bind fun t66 =>
 (M.lift (Ax.faddr 1 t66)).bind fun t67 =>
 (mload none t67).bind fun t68 =>
 (M.lift (Ax.bin .add t68 (V.int .i64 1))).bind fun t69 =>
 (M.lift (Ax.nilck t0)).bind fun t70 =>
 (M.lift (Ax.faddr 1 t70)).bind fun t71 =>
 (mstore 1 t71 t69).bind fun _ =>
 M.pure (.nrm [])) fun _ =>
 (M.lift (Ax.bin .sub (L.getD 0 .undef) (V.int .i64 1))).bind fun t25 =>
 M.pure (.nrm [t25]))
 (M.pure (.ex 0 []))

noncomputable def f_bits_Writer_Add (G : Sem') (t0 t1 t2 : V) : M Res :=
 (M.lift (Ax.bin .lss t2 (V.int .i64 0))).bind fun t9 =>
 (guarded [(0, t9)] (some (0, false)) (M.pure t2)).bind fun t11 =>
 (guarded [(0, t9)] (some (0, false)) (M.lift (Ax.bin .gtr t11 (V.int .i64 64)))).bind fun t12 =>
 (M.lift (Ax.pick t9 (V.bool true) t12)).bind fun t13 =>
 (guarded [(0, t13)] (some (0, false)) (M.pure t1)).bind fun t15 =>
 (guarded [(0, t13)] (some (0, false)) (G fn_math_bits_Len64 [t15])).bind fun t16 =>
 (guarded [(0, t13)] (some (0, false)) (M.pure t2)).bind fun t17 =>
 (guarded [(0, t13)] (some (0, false)) (M.lift (Ax.bin .gtr t16 t17))).bind fun t18 =>
 (M.lift (Ax.pick t13 (V.bool true) t18)).bind fun t19 =>
 M.ite t19
 (M.pure (.ret [(V.int .i64 1)]))
 ((M.lift (Ax.bin .sub t2 (V.int .i64 1))).bind fun t21 =>
 M.blk 0 (
 M.iter (f_bits_Writer_Add_0 G t1 t0 (V.int .i64 0)) [t21]) fun _ =>
 M.pure (.ret [(V.int .i64 0)]))

theorem eq_bits_Writer_Add (G : Sem') (t0 t1 t2 : V) : execK G ir_bits_Writer_Add.rv ir_bits_Writer_Add.body [] [] (params 0 [t0, t1, t2]) = f_bits_Writer_Add G t0 t1 t2 := by kernel_rfl

theorem tb_bits_Writer_Add : T fn_bits_Writer_Add = some ir_bits_Writer_Add := by kernel_rfl

theorem ok_bits_Writer_Add {t0 t1 t2 : V} {H : Heap} {Q : V → Heap → Prop} (h : Ok (f_bits_Writer_Add (sem T) t0 t1 t2) H fun r H' => ∃ L, r = .ret L ∧ Q (tupled L) H') : Ok (sem T fn_bits_Writer_Add [t0, t1, t2]) H Q :=
  ok_sem tb_bits_Writer_Add (Nat.le_of_ble_eq_true (by kernel_rfl)) (eq_bits_Writer_Add (sem T) t0 t1 t2) h

def str_math_bits_Len64_0 : ByteArray := ⟨#[0, 1, 2, 2, 3, 3, 3, 3, 4, 4, 4, 4, 4, 4, 4, 4, 5, 5, 5, 5, 5, 5, 5, 5, 5, 5, 5, 5, 5, 5, 5, 5, 6, 6, 6, 6, 6, 6, 6, 6, 6, 6, 6, 6, 6, 6, 6, 6, 6, 6, 6, 6, 6, 6, 6, 6, 6, 6, 6, 6, 6, 6, 6, 6, 7, 7, 7, 7, 7, 7, 7, 7, 7, 7, 7, 7, 7, 7, 7, 7, 7, 7, 7, 7, 7, 7, 7, 7, 7, 7, 7, 7, 7, 7, 7, 7, 7, 7, 7, 7, 7, 7, 7, 7, 7, 7, 7, 7, 7, 7, 7, 7, 7, 7, 7, 7, 7, 7, 7, 7, 7, 7, 7, 7, 7, 7, 7, 7, 8, 8, 8, 8, 8, 8, 8, 8, 8, 8, 8, 8, 8, 8, 8, 8, 8, 8, 8, 8, 8, 8, 8, 8, 8, 8, 8, 8, 8, 8, 8, 8, 8, 8, 8, 8, 8, 8, 8, 8, 8, 8, 8, 8, 8, 8, 8, 8, 8, 8, 8, 8, 8, 8, 8, 8, 8, 8, 8, 8, 8, 8, 8, 8, 8, 8, 8, 8, 8, 8, 8, 8, 8, 8, 8, 8, 8, 8, 8, 8, 8, 8, 8, 8, 8, 8, 8, 8, 8, 8, 8, 8, 8, 8, 8, 8, 8, 8, 8, 8, 8, 8, 8, 8, 8, 8, 8, 8, 8, 8, 8, 8, 8, 8, 8, 8, 8, 8, 8, 8, 8, 8, 8, 8, 8, 8, 8, 8]⟩

noncomputable def ir_math_bits_Len64 : Fn' := irOf fn_math_bits_Len64
noncomputable def f_math_bits_Len64 (G : Sem') (t0 : V) : M Res :=
 (M.lift (Ax.bin .geq t0 (V.int .u64 4294967296))).bind fun t4 =>
 M.join (M.ite t4
 ((M.lift (Ax.bin .shr t0 (V.int .u64 32))).bind fun t6 =>
 M.pure (.nrm [t6, (V.int .i64 32)]))
 (M.pure (.nrm [t0, (V.int .i64 0)]))) fun L0 =>
 (M.lift (Ax.bin .geq (L0.getD 0 .undef) (V.int .u64 65536))).bind fun t8 =>
 M.join (M.ite t8
 ((M.lift (Ax.bin .shr (L0.getD 0 .undef) (V.int .u64 16))).bind fun t10 =>
 (M.lift (Ax.bin .add (L0.getD 1 .undef) (V.int .i64 16))).bind fun t12 =>
 M.pure (.nrm [t10, t12]))
 (M.pure (.nrm [(L0.getD 0 .undef), (L0.getD 1 .undef)]))) fun L1 =>
 (M.lift (Ax.bin .geq (L1.getD 0 .undef) (V.int .u64 256))).bind fun t14 =>
 M.join (M.ite t14
 ((M.lift (Ax.bin .shr (L1.getD 0 .undef) (V.int .u64 8))).bind fun t16 =>
 (M.lift (Ax.bin .add (L1.getD 1 .undef) (V.int .i64 8))).bind fun t18 =>
 M.pure (.nrm [t16, t18]))
 (M.pure (.nrm [(L1.getD 0 .undef), (L1.getD 1 .undef)]))) fun L2 =>
 (M.lift (Ax.cint .u8 (L2.getD 0 .undef))).bind fun t21 =>
 (M.lift (Ax.sindex (V.str str_math_bits_Len64_0) t21)).bind fun t22 =>
 (M.lift (Ax.cint .i64 t22)).bind fun t23 =>
 (M.lift (Ax.bin .add (L2.getD 1 .undef) t23)).bind fun t24 =>
 M.pure (.ret [t24])

theorem eq_math_bits_Len64 (G : Sem') (t0 : V) : execK G ir_math_bits_Len64.rv ir_math_bits_Len64.body [] [] (params 0 [t0]) = f_math_bits_Len64 G t0 := by kernel_rfl

theorem tb_math_bits_Len64 : T fn_math_bits_Len64 = some ir_math_bits_Len64 := by kernel_rfl

theorem ok_math_bits_Len64 {t0 : V} {H : Heap} {Q : V → Heap → Prop} (h : Ok (f_math_bits_Len64 (sem T) t0) H fun r H' => ∃ L, r = .ret L ∧ Q (tupled L) H') : Ok (sem T fn_math_bits_Len64 [t0]) H Q :=
  ok_sem tb_math_bits_Len64 (Nat.le_of_ble_eq_true (by kernel_rfl)) (eq_math_bits_Len64 (sem T) t0) h

noncomputable def ir_bits_Writer_Bytes : Fn' := irOf fn_bits_Writer_Bytes
noncomputable def f_bits_Writer_Bytes (G : Sem') (t0 : V) : M Res :=
 (M.lift (Ax.nilck t0)).bind fun t4 =>
 (M.lift (Ax.faddr 0 t4)).bind fun t5 =>
 (mload none t5).bind fun t6 =>
 (mappend ty_uint8 1 1 V.nils t6).bind fun t7 =>
 M.pure (.ret [t7])

theorem eq_bits_Writer_Bytes (G : Sem') (t0 : V) : execK G ir_bits_Writer_Bytes.rv ir_bits_Writer_Bytes.body [] [] (params 0 [t0]) = f_bits_Writer_Bytes G t0 := by kernel_rfl

theorem tb_bits_Writer_Bytes : T fn_bits_Writer_Bytes = some ir_bits_Writer_Bytes := by kernel_rfl

theorem ok_bits_Writer_Bytes {t0 : V} {H : Heap} {Q : V → Heap → Prop} (h : Ok (f_bits_Writer_Bytes (sem T) t0) H fun r H' => ∃ L, r = .ret L ∧ Q (tupled L) H') : Ok (sem T fn_bits_Writer_Bytes [t0]) H Q :=
  ok_sem tb_bits_Writer_Bytes (Nat.le_of_ble_eq_true (by kernel_rfl)) (eq_bits_Writer_Bytes (sem T) t0) h

noncomputable def ir_depend_writer_structure : Fn' := irOf fn_depend_writer_structure
noncomputable def f_depend_writer_structure_0 (G : Sem') (t29 t3 t2 : V) (L : List V) : M Res :=
 (M.lift (Ax.bin .lss (L.getD 0 .undef) t29)).bind fun t31 =>
 M.ite t31
 (M.blk 1 (
 (M.lift (Ax.bin .add (L.getD 0 .undef) (V.int .i64 1))).bind fun t34 =>
 (M.lift (Ax.faddr 2 t3)).bind fun t35 =>
 (mload none t35).bind fun t36 =>
 (M.lift (vlen t36)).bind fun t37 =>
 (M.lift (Ax.bin .lss t34 t37)).bind fun t38 =>
 M.join (M.ite t38
 ((M.lift (Ax.faddr 2 t3)).bind fun t40 =>
 (mload none t40).bind fun t41 =>
 (M.lift (Ax.iaddr none 5 t41 (L.getD 0 .undef))).bind fun t43 =>
 (mload (some 5) t43).bind fun t44 =>
 (M.lift (Ax.faddr 2 t3)).bind fun t45 =>
 (mload none t45).bind fun t46 =>
 (M.lift (Ax.bin .add (L.getD 0 .undef) (V.int .i64 1))).bind fun t48 =>
 (M.lift (Ax.iaddr none 5 t46 t48)).bind fun t49 =>
 (mload (some 5) t49).bind fun t50 =>
 (G fn_depend_next [t44, t50]).bind fun t51 =>
 (M.lift (Ax.ext 0 t51)).bind fun t52 =>
 (M.lift (Ax.ext 1 t51)).bind fun t53 =>
 M.pure (.nrm [t52]))
 (M.pure (.nrm [(V.int .i64 3)]))) fun L0 =>
 (mload (some 1) t2).bind fun t54 =>
 (G fn_depend_writer_num [t54, (L0.getD 0 .undef), (V.int .i64 2)]).bind fun t56 =>
 M.pure (.nrm [])) fun _ =>
 (M.lift (Ax.bin .add (L.getD 0 .undef) (V.int .i64 1))).bind fun t57 =>
 M.pure (.nrm [t57]))
 (M.pure (.ex 0 []))

noncomputable def f_depend_writer_structure_1 (G : Sem') (t60 t59 t2 : V) (L : List V) : M Res :=
 (M.lift (Ax.bin .lss (L.getD 0 .undef) t60)).bind fun t62 =>
 M.ite t62
 (M.blk 3 (
 (M.lift (Ax.iaddr none 5 t59 (L.getD 0 .undef))).bind fun t63 =>
 (mload (some 5) t63).bind fun t64 =>
 (mbox ty_depend_Template (V.agg [(V.int .i64 0), (V.int .i64 0), V.nils, V.nils, V.nils])).bind fun t7 =>
 (mstore 5 t7 t64).bind fun _ =>
 (mload (some 1) t2).bind fun t65 =>
 (M.lift (Ax.faddr 2 t7)).bind fun t66 =>
 (mload none t66).bind fun t67 =>
 (G fn_depend_writer_nums [t65, t67, (V.int .i64 2)]).bind fun t68 =>
 M.pure (.nrm [])) fun _ =>
 (M.lift (Ax.bin .add (L.getD 0 .undef) (V.int .i64 1))).bind fun t69 =>
 M.pure (.nrm [t69]))
 (M.pure (.ex 2 []))

noncomputable def f_depend_writer_structure_2 (G : Sem') (t79 t78 t2 : V) (L : List V) : M Res :=
 (M.lift (Ax.bin .lss (L.getD 0 .undef) t79)).bind fun t81 =>
 M.ite t81
 (M.blk 7 (
 (M.lift (Ax.iaddr none 1 t78 (L.getD 0 .undef))).bind fun t82 =>
 (mload none t82).bind fun t83 =>
 (mload (some 1) t2).bind fun t84 =>
 (G fn_depend_writer_bit [t84, (V.bool true)]).bind fun t85 =>
 (mload (some 1) t2).bind fun t86 =>
 (M.lift (Ax.bin .sub t83 (V.int .i64 1))).bind fun t88 =>
 (G fn_depend_writer_num [t86, t88, (V.int .i64 4)]).bind fun t89 =>
 M.pure (.nrm [])) fun _ =>
 (M.lift (Ax.bin .add (L.getD 0 .undef) (V.int .i64 1))).bind fun t90 =>
 M.pure (.nrm [t90]))
 (M.pure (.ex 6 []))

noncomputable def f_depend_writer_structure_3 (G : Sem') (t72 t71 t2 : V) (L : List V) : M Res :=
 (M.lift (Ax.bin .lss (L.getD 0 .undef) t72)).bind fun t74 =>
 M.ite t74
 (M.blk 5 (
 (M.lift (Ax.iaddr none 5 t71 (L.getD 0 .undef))).bind fun t75 =>
 (mload (some 5) t75).bind fun t76 =>
 (mbox ty_depend_Template (V.agg [(V.int .i64 0), (V.int .i64 0), V.nils, V.nils, V.nils])).bind fun t9 =>
 (mstore 5 t9 t76).bind fun _ =>
 (M.lift (Ax.faddr 3 t9)).bind fun t77 =>
 (mload none t77).bind fun t78 =>
 (M.lift (vlen t78)).bind fun t79 =>
 M.blk 6 (
 M.iter (f_depend_writer_structure_2 G t79 t78 t2) [(V.int .i64 0)]) fun _ =>
 (mload (some 1) t2).bind fun t91 =>
 (G fn_depend_writer_bit [t91, (V.bool false)]).bind fun t92 =>
 M.pure (.nrm [])) fun _ =>
 (M.lift (Ax.bin .add (L.getD 0 .undef) (V.int .i64 1))).bind fun t93 =>
 M.pure (.nrm [t93]))
 (M.pure (.ex 4 []))

noncomputable def f_depend_writer_structure_4 (G : Sem') (t109 t108 t2 t3 : V) (L : List V) : M Res :=
 (M.lift (Ax.bin .lss (L.getD 0 .undef) t109)).bind fun t111 =>
 M.ite t111
 (M.blk 9 (
 (M.lift (Ax.iaddr none 1 t108 (L.getD 0 .undef))).bind fun t112 =>
 (mload none t112).bind fun t113 =>
 (M.lift (Ax.faddr 0 t2)).bind fun t114 =>
 (mload none t114).bind fun t115 =>
 (M.lift (Ax.cint .u64 t113)).bind fun t117 =>
 (M.lift (Ax.faddr 3 t3)).bind fun t118 =>
 (mload none t118).bind fun t119 =>
 (M.lift (Ax.cint .u64 t119)).bind fun t120 =>
 (G fn_bits_Writer_AddNS [t115, t117, t120]).bind fun t121 =>
 M.pure (.nrm [])) fun _ =>
 (M.lift (Ax.bin .add (L.getD 0 .undef) (V.int .i64 1))).bind fun t122 =>
 M.pure (.nrm [t122]))
 (M.pure (.ex 8 []))

noncomputable def f_depend_writer_structure_5 (G : Sem') (t125 t124 t2 : V) (L : List V) : M Res :=
 (M.lift (Ax.bin .lss (L.getD 0 .undef) t125)).bind fun t127 =>
 M.ite t127
 (M.blk 11 (
 (M.lift (Ax.iaddr none 5 t124 (L.getD 0 .undef))).bind fun t128 =>
 (mload (some 5) t128).bind fun t129 =>
 (mbox ty_depend_Template (V.agg [(V.int .i64 0), (V.int .i64 0), V.nils, V.nils, V.nils])).bind fun t15 =>
 (mstore 5 t15 t129).bind fun _ =>
 (mload (some 1) t2).bind fun t130 =>
 (M.lift (Ax.faddr 4 t15)).bind fun t131 =>
 (mload none t131).bind fun t132 =>
 (G fn_depend_writer_nums [t130, t132, (V.int .i64 4)]).bind fun t133 =>
 M.pure (.nrm [])) fun _ =>
 (M.lift (Ax.bin .add (L.getD 0 .undef) (V.int .i64 1))).bind fun t134 =>
 M.pure (.nrm [t134]))
 (M.pure (.ex 10 []))

noncomputable def f_depend_writer_structure_6 (G : Sem') (t143 t142 t2 : V) (L : List V) : M Res :=
 (M.lift (Ax.bin .lss (L.getD 0 .undef) t143)).bind fun t145 =>
 M.ite t145
 (M.blk 13 (
 (M.lift (Ax.iaddr none 2 t142 (L.getD 0 .undef))).bind fun t146 =>
 (mload (some 2) t146).bind fun t147 =>
 (mbox ty_2_int (V.agg [(V.int .i64 0), (V.int .i64 0)])).bind fun t17 =>
 (mstore 2 t17 t147).bind fun _ =>
 (mload (some 1) t2).bind fun t148 =>
 (M.lift (Ax.iaddr (some 2) 1 t17 (V.int .i64 0))).bind fun t149 =>
 (mload none t149).bind fun t150 =>
 (M.lift (Ax.bin .sub t150 (V.int .i64 1))).bind fun t151 =>
 (G fn_depend_writer_num [t148, t151, (V.int .i64 16)]).bind fun t152 =>
 (mload (some 1) t2).bind fun t153 =>
 (M.lift (Ax.iaddr (some 2) 1 t17 (V.int .i64 1))).bind fun t154 =>
 (mload none t154).bind fun t155 =>
 (M.lift (Ax.bin .sub t155 (V.int .i64 1))).bind fun t156 =>
 (G fn_depend_writer_num [t153, t156, (V.int .i64 16)]).bind fun t157 =>
 M.pure (.nrm [])) fun _ =>
 (M.lift (Ax.bin .add (L.getD 0 .undef) (V.int .i64 1))).bind fun t158 =>
 M.pure (.nrm [t158]))
 (M.pure (.ex 12 []))

noncomputable def f_depend_writer_structure (G : Sem') (t0 t1 : V) : M Res :=
 (mbox ty_depend_writer t0).bind fun t2 =>
 (mbox ty_depend_Structure t1).bind fun t3 =>
 (mload (some 1) t2).bind fun t18 =>
 (M.lift (Ax.faddr 0 t3)).bind fun t19 =>
 (mload none t19).bind fun t20 =>
 (G fn_depend_writer_num [t18, t20, (V.int .i64 6)]).bind fun t21 =>
 (mload (some 1) t2).bind fun t22 =>
 (M.lift (Ax.faddr 1 t3)).bind fun t23 =>
 (mload none t23).bind fun t24 =>
 (M.lift (Ax.bin .sub t24 (V.int .i64 1))).bind fun t25 =>
 (G fn_depend_writer_num [t22, t25, (V.int .i64 5)]).bind fun t26 =>
 (M.lift (Ax.faddr 2 t3)).bind fun t27 =>
 (mload none t27).bind fun t28 =>
 (M.lift (vlen t28)).bind fun t29 =>
 M.blk 0 (
 M.iter (f_depend_writer_structure_0 G t29 t3 t2) [(V.int .i64 0)]) fun _ =>
 (M.lift (Ax.faddr 2 t3)).bind fun t58 =>
 (mload none t58).bind fun t59 =>
 (M.lift (vlen t59)).bind fun t60 =>
 M.blk 2 (
 M.iter (f_depend_writer_structure_1 G t60 t59 t2) [(V.int .i64 0)]) fun _ =>
 (M.lift (Ax.faddr 2 t3)).bind fun t70 =>
 (mload none t70).bind fun t71 =>
 (M.lift (vlen t71)).bind fun t72 =>
 M.blk 4 (
 M.iter (f_depend_writer_structure_3 G t72 t71 t2) [(V.int .i64 0)]) fun _ =>
 (M.lift (Ax.faddr 0 t2)).bind fun t94 =>
 (mload none t94).bind fun t95 =>
 (M.lift (Ax.faddr 3 t3)).bind fun t96 =>
 (mload none t96).bind fun t97 =>
 (M.lift (Ax.cint .u64 t97)).bind fun t98 =>
 (M.lift (Ax.faddr 1 t3)).bind fun t99 =>
 (mload none t99).bind fun t100 =>
 (M.lift (Ax.cint .u64 t100)).bind fun t101 =>
 (M.lift (Ax.bin .add t101 (V.int .u64 1))).bind fun t102 =>
 (G fn_bits_Writer_AddNS [t95, t98, t102]).bind fun t103 =>
 (M.lift (Ax.faddr 3 t3)).bind fun t104 =>
 (mload none t104).bind fun t105 =>
 (M.lift (Ax.bin .gtr t105 (V.int .i64 0))).bind fun t106 =>
 M.join (M.ite t106
 ((M.lift (Ax.faddr 4 t3)).bind fun t107 =>
 (mload none t107).bind fun t108 =>
 (M.lift (vlen t108)).bind fun t109 =>
 M.blk 8 (
 M.iter (f_depend_writer_structure_4 G t109 t108 t2 t3) [(V.int .i64 0)]) fun _ =>
 (M.lift (Ax.faddr 2 t3)).bind fun t123 =>
 (mload none t123).bind fun t124 =>
 (M.lift (vlen t124)).bind fun t125 =>
 M.blk 10 (
 M.iter (f_depend_writer_structure_5 G t125 t124 t2) [(V.int .i64 0)]) fun _ =>
 M.pure (.nrm []))
 (M.pure (.nrm []))) fun _ =>
 (mload (some 1) t2).bind fun t135 =>
 (M.lift (Ax.faddr 5 t3)).bind fun t136 =>
 (mload none t136).bind fun t137 =>
 (M.lift (vlen t137)).bind fun t138 =>
 (M.lift (Ax.bin .gtr t138 (V.int .i64 0))).bind fun t139 =>
 (G fn_depend_writer_bit [t135, t139]).bind fun t140 =>
 (M.lift (Ax.faddr 5 t3)).bind fun t141 =>
 (mload none t141).bind fun t142 =>
 (M.lift (vlen t142)).bind fun t143 =>
 M.blk 12 (
 M.iter (f_depend_writer_structure_6 G t143 t142 t2) [(V.int .i64 0)]) fun _ =>
 M.pure (.ret [])

theorem eq_depend_writer_structure (G : Sem') (t0 t1 : V) : execK G ir_depend_writer_structure.rv ir_depend_writer_structure.body [] [] (params 0 [t0, t1]) = f_depend_writer_structure G t0 t1 := by kernel_rfl

theorem tb_depend_writer_structure : T fn_depend_writer_structure = some ir_depend_writer_structure := by kernel_rfl

theorem ok_depend_writer_structure {t0 t1 : V} {H : Heap} {Q : V → Heap → Prop} (h : Ok (f_depend_writer_structure (sem T) t0 t1) H fun r H' => ∃ L, r = .ret L ∧ Q (tupled L) H') : Ok (sem T fn_depend_writer_structure [t0, t1]) H Q :=
  ok_sem tb_depend_writer_structure (Nat.le_of_ble_eq_true (by kernel_rfl)) (eq_depend_writer_structure (sem T) t0 t1) h

end Go.Ax
/- FnD3 -/
set_option maxRecDepth 100000
set_option linter.unusedVariables false
namespace Go.Ax
open Go.Proofs
noncomputable def ir_depend_writer_nums : Fn' := irOf fn_depend_writer_nums
noncomputable def f_depend_writer_nums_0 (G : Sem') (t9 t8 t3 t2 : V) (L : List V) : M Res :=
 (M.lift (Ax.bin .lss (L.getD 0 .undef) t9)).bind fun t11 =>
 M.ite t11
 (M.blk 1 (
 (M.lift (Ax.iaddr none 1 t8 (L.getD 0 .undef))).bind fun t12 =>
 (mload none t12).bind fun t13 =>
 (mload (some 1) t3).bind fun t14 =>
 (G fn_depend_writer_num [t14, t13, t2]).bind fun t17 =>
 M.pure (.nrm [])) fun _ =>
 (M.lift (Ax.bin .add (L.getD 0 .undef) (V.int .i64 1))).bind fun t18 =>
 M.pure (.nrm [t18]))
 (M.pure (.ex 0 []))

noncomputable def f_depend_writer_nums (G : Sem') (t0 t1 t2 : V) : M Res :=
 (mbox ty_depend_writer t0).bind fun t3 =>
 (M.lift (vlen t1)).bind fun t9 =>
 M.blk 0 (
 M.iter (f_depend_writer_nums_0 G t9 t1 t3 t2) [(V.int .i64 0)]) fun _ =>
 M.pure (.ret [])

theorem eq_depend_writer_nums (G : Sem') (t0 t1 t2 : V) : execK G ir_depend_writer_nums.rv ir_depend_writer_nums.body [] [] (params 0 [t0, t1, t2]) = f_depend_writer_nums G t0 t1 t2 := by kernel_rfl

theorem tb_depend_writer_nums : T fn_depend_writer_nums = some ir_depend_writer_nums := by kernel_rfl

theorem ok_depend_writer_nums {t0 t1 t2 : V} {H : Heap} {Q : V → Heap → Prop} (h : Ok (f_depend_writer_nums (sem T) t0 t1 t2) H fun r H' => ∃ L, r = .ret L ∧ Q (tupled L) H') : Ok (sem T fn_depend_writer_nums [t0, t1, t2]) H Q :=
  ok_sem tb_depend_writer_nums (Nat.le_of_ble_eq_true (by kernel_rfl)) (eq_depend_writer_nums (sem T) t0 t1 t2) h

noncomputable def ir_bits_Writer_AddNS : Fn' := irOf fn_bits_Writer_AddNS
noncomputable def f_bits_Writer_AddNS (G : Sem') (t0 t1 t2 : V) : M Res :=
 (M.lift (Ax.bin .lss t2 (V.int .u64 1))).bind fun t10 =>
 (guarded [(0, t10)] (some (0, false)) (M.pure t2)).bind fun t12 =>
 (guarded [(0, t10)] (some (0, false)) (M.lift (Ax.bin .gtr t12 (V.int .u64 4294967296)))).bind fun t13 =>
 (M.lift (Ax.pick t10 (V.bool true) t13)).bind fun t14 =>
 (guarded [(0, t14)] (some (0, false)) (M.pure t1)).bind fun t16 =>
 (guarded [(0, t14)] (some (0, false)) (M.pure t2)).bind fun t17 =>
 (guarded [(0, t14)] (some (0, false)) (M.lift (Ax.bin .geq t16 t17))).bind fun t18 =>
 (M.lift (Ax.pick t14 (V.bool true) t18)).bind fun t19 =>
 M.ite t19
 (M.pure (.ret [(V.int .i64 1)]))
 ((G fn_bits_short [t2]).bind fun t22 =>
 (M.lift (Ax.ext 0 t22)).bind fun t23 =>
 (M.lift (Ax.ext 1 t22)).bind fun t24 =>
 (M.lift (Ax.bin .lss t1 t24)).bind fun t27 =>
 M.ite t27
 ((M.lift (Ax.bin .sub t23 (V.int .i64 1))).bind fun t31 =>
 (G fn_bits_Writer_Add [t0, t1, t31]).bind fun t32 =>
 M.pure (.ret [t32]))
 ((M.lift (Ax.bin .add t1 t24)).bind fun t36 =>
 (G fn_bits_Writer_Add [t0, t36, t23]).bind fun t38 =>
 M.pure (.ret [t38])))

theorem eq_bits_Writer_AddNS (G : Sem') (t0 t1 t2 : V) : execK G ir_bits_Writer_AddNS.rv ir_bits_Writer_AddNS.body [] [] (params 0 [t0, t1, t2]) = f_bits_Writer_AddNS G t0 t1 t2 := by kernel_rfl

theorem tb_bits_Writer_AddNS : T fn_bits_Writer_AddNS = some ir_bits_Writer_AddNS := by kernel_rfl

theorem ok_bits_Writer_AddNS {t0 t1 t2 : V} {H : Heap} {Q : V → Heap → Prop} (h : Ok (f_bits_Writer_AddNS (sem T) t0 t1 t2) H fun r H' => ∃ L, r = .ret L ∧ Q (tupled L) H') : Ok (sem T fn_bits_Writer_AddNS [t0, t1, t2]) H Q :=
  ok_sem tb_bits_Writer_AddNS (Nat.le_of_ble_eq_true (by kernel_rfl)) (eq_bits_Writer_AddNS (sem T) t0 t1 t2) h

noncomputable def ir_bits_short : Fn' := irOf fn_bits_short
noncomputable def f_bits_short (G : Sem') (t0 : V) : M Res :=
 (G fn_math_bits_Len64 [t0]).bind fun t6 =>
 (M.lift (Ax.bin .shl (V.int .u64 1) t6)).bind fun t9 =>
 (M.lift (Ax.bin .sub t9 t0)).bind fun t11 =>
 M.pure (.ret [t6, t11])

theorem eq_bits_short (G : Sem') (t0 : V) : execK G ir_bits_short.rv ir_bits_short.body [] [] (params 0 [t0]) = f_bits_short G t0 := by kernel_rfl

theorem tb_bits_short : T fn_bits_short = some ir_bits_short := by kernel_rfl

theorem ok_bits_short {t0 : V} {H : Heap} {Q : V → Heap → Prop} (h : Ok (f_bits_short (sem T) t0) H fun r H' => ∃ L, r = .ret L ∧ Q (tupled L) H') : Ok (sem T fn_bits_short [t0]) H Q :=
  ok_sem tb_bits_short (Nat.le_of_ble_eq_true (by kernel_rfl)) (eq_bits_short (sem T) t0) h

noncomputable def ir_depend_writer_own : Fn' := irOf fn_depend_writer_own
noncomputable def f_depend_writer_own_0 (G : Sem') (t5 : V) (L : List V) : M Res :=
 (M.lift (Ax.bin .sub t5 (V.int .i64 1))).bind fun t14 =>
 (M.lift (Ax.bin .mul (V.int .i64 4) (L.getD 0 .undef))).bind fun t16 =>
 (M.lift (Ax.bin .shr t14 t16)).bind fun t17 =>
 (M.lift (Ax.bin .neq t17 (V.int .i64 0))).bind fun t18 =>
 M.ite t18
 (M.blk 3 (
 (M.lift (Ax.bin .add (L.getD 0 .undef) (V.int .i64 1))).bind fun t20 =>
 M.pure (.nrm [t20])) fun L0 =>
 M.pure (.nrm [(L0.getD 0 .undef)]))
 (M.pure (.ex 2 [(L.getD 0 .undef)]))

noncomputable def f_depend_writer_own_1 (G : Sem') (t8 t7 t2 : V) (L : List V) : M Res :=
 (M.lift (Ax.bin .lss (L.getD 0 .undef) t8)).bind fun t10 =>
 M.ite t10
 (M.blk 1 (
 (M.lift (Ax.iaddr none 1 t7 (L.getD 0 .undef))).bind fun t11 =>
 (mload none t11).bind fun t12 =>
 M.blk 2 (
 M.iter (f_depend_writer_own_0 G t12) [(V.int .i64 1)]) fun L1 =>
 (mload (some 1) t2).bind fun t21 =>
 (G fn_depend_writer_num [t21, (L1.getD 0 .undef), (V.int .i64 2)]).bind fun t23 =>
 (mload (some 1) t2).bind fun t24 =>
 (M.lift (Ax.bin .sub t12 (V.int .i64 1))).bind fun t26 =>
 (M.lift (Ax.bin .mul (V.int .i64 4) (L1.getD 0 .undef))).bind fun t28 =>
 (G fn_depend_writer_num [t24, t26, t28]).bind fun t29 =>
 M.pure (.nrm [])) fun _ =>
 (M.lift (Ax.bin .add (L.getD 0 .undef) (V.int .i64 1))).bind fun t30 =>
 M.pure (.nrm [t30]))
 (M.pure (.ex 0 []))

noncomputable def f_depend_writer_own (G : Sem') (t0 t1 : V) : M Res :=
 (mbox ty_depend_writer t0).bind fun t2 =>
 (M.lift (vlen t1)).bind fun t8 =>
 M.blk 0 (
 M.iter (f_depend_writer_own_1 G t8 t1 t2) [(V.int .i64 0)]) fun _ =>
 (mload (some 1) t2).bind fun t31 =>
 (G fn_depend_writer_num [t31, (V.int .i64 0), (V.int .i64 2)]).bind fun t32 =>
 M.pure (.ret [])

theorem eq_depend_writer_own (G : Sem') (t0 t1 : V) : execK G ir_depend_writer_own.rv ir_depend_writer_own.body [] [] (params 0 [t0, t1]) = f_depend_writer_own G t0 t1 := by kernel_rfl

theorem tb_depend_writer_own : T fn_depend_writer_own = some ir_depend_writer_own := by kernel_rfl

theorem ok_depend_writer_own {t0 t1 : V} {H : Heap} {Q : V → Heap → Prop} (h : Ok (f_depend_writer_own (sem T) t0 t1) H fun r H' => ∃ L, r = .ret L ∧ Q (tupled L) H') : Ok (sem T fn_depend_writer_own [t0, t1]) H Q :=
  ok_sem tb_depend_writer_own (Nat.le_of_ble_eq_true (by kernel_rfl)) (eq_depend_writer_own (sem T) t0 t1) h

noncomputable def ir_palanquinlaw9_long : Fn' := irOf fn_palanquinlaw9_long
noncomputable def f_palanquinlaw9_long (G : Sem') (t0 : V) : M Res :=
 (mbox ty_depend_Frame t0).bind fun t1 =>
 (M.lift (Ax.faddr 5 t1)).bind fun t3 =>
 (mload (some 6) t3).bind fun t4 =>
 (G fn_palanquinlaw9_heavy [t4]).bind fun t5 =>
 (guarded [(0, t5)] (some (0, false)) (M.lift (Ax.faddr 16 t1))).bind fun t7 =>
 (guarded [(0, t5)] (some (0, false)) (mload none t7)).bind fun t8 =>
 (guarded [(0, t5)] (some (0, false)) (M.lift (vlen t8))).bind fun t9 =>
 (guarded [(0, t5)] (some (0, false)) (M.lift (Ax.bin .gtr t9 (V.int .i64 100)))).bind fun t10 =>
 (M.lift (Ax.pick t5 (V.bool true) t10)).bind fun t11 =>
 (guarded [(0, t11)] (some (0, false)) (M.lift (Ax.faddr 17 t1))).bind fun t13 =>
 (guarded [(0, t11)] (some (0, false)) (mload none t13)).bind fun t14 =>
 (guarded [(0, t11)] (some (0, false)) (M.lift (vlen t14))).bind fun t15 =>
 (guarded [(0, t11)] (some (0, false)) (M.lift (Ax.bin .gtr t15 (V.int .i64 100)))).bind fun t16 =>
 (M.lift (Ax.pick t11 (V.bool true) t16)).bind fun t17 =>
 (guarded [(0, t17)] (some (0, false)) (M.lift (Ax.faddr 18 t1))).bind fun t19 =>
 (guarded [(0, t17)] (some (0, false)) (mload none t19)).bind fun t20 =>
 (guarded [(0, t17)] (some (0, false)) (M.lift (vlen t20))).bind fun t21 =>
 (guarded [(0, t17)] (some (0, false)) (M.lift (Ax.bin .gtr t21 (V.int .i64 100)))).bind fun t22 =>
 (M.lift (Ax.pick t17 (V.bool true) t22)).bind fun t23 =>
 M.pure (.ret [t23])

theorem eq_palanquinlaw9_long (G : Sem') (t0 : V) : execK G ir_palanquinlaw9_long.rv ir_palanquinlaw9_long.body [] [] (params 0 [t0]) = f_palanquinlaw9_long G t0 := by kernel_rfl

theorem tb_palanquinlaw9_long : T fn_palanquinlaw9_long = some ir_palanquinlaw9_long := by kernel_rfl

theorem ok_palanquinlaw9_long {t0 : V} {H : Heap} {Q : V → Heap → Prop} (h : Ok (f_palanquinlaw9_long (sem T) t0) H fun r H' => ∃ L, r = .ret L ∧ Q (tupled L) H') : Ok (sem T fn_palanquinlaw9_long [t0]) H Q :=
  ok_sem tb_palanquinlaw9_long (Nat.le_of_ble_eq_true (by kernel_rfl)) (eq_palanquinlaw9_long (sem T) t0) h

noncomputable def ir_palanquinlaw9_heavy : Fn' := irOf fn_palanquinlaw9_heavy
noncomputable def f_palanquinlaw9_heavy_0 (G : Sem') (t1 t2 : V) (L : List V) : M Res :=
 (M.lift (Ax.faddr 2 t1)).bind fun t18 =>
 (mload none t18).bind fun t19 =>
 (M.lift (vlen t19)).bind fun t20 =>
 (M.lift (Ax.bin .lss (L.getD 1 .undef) t20)).bind fun t21 =>
 (guarded [(0, t21)] (some (0, true)) (M.pure (L.getD 1 .undef))).bind fun t23 =>
 (guarded [(0, t21)] (some (0, true)) (M.lift (Ax.bin .lss t23 (V.int .i64 100)))).bind fun t24 =>
 (M.lift (Ax.pick t21 t24 (V.bool false))).bind fun t25 =>
 M.ite t25
 (M.blk 1 (
 (M.lift (Ax.faddr 2 t1)).bind fun t28 =>
 (mload none t28).bind fun t29 =>
 (M.lift (Ax.iaddr none 5 t29 (L.getD 1 .undef))).bind fun t31 =>
 (mload (some 5) t31).bind fun t32 =>
 (mbox ty_depend_Template (V.agg [(V.int .i64 0), (V.int .i64 0), V.nils, V.nils, V.nils])).bind fun t5 =>
 (mstore 5 t5 t32).bind fun _ =>
 (M.lift (Ax.faddr 2 t5)).bind fun t34 =>
 (mload none t34).bind fun t35 =>
 (M.lift (vlen t35)).bind fun t36 =>
 (M.lift (Ax.bin .add (L.getD 0 .undef) t36)).bind fun t37 =>
 (M.lift (Ax.faddr 3 t5)).bind fun t38 =>
 (mload none t38).bind fun t39 =>
 (M.lift (vlen t39)).bind fun t40 =>
 (M.lift (Ax.bin .add t37 t40)).bind fun t41 =>
 (M.lift (Ax.faddr 4 t5)).bind fun t42 =>
 (mload none t42).bind fun t43 =>
 (M.lift (vlen t43)).bind fun t44 =>
 (M.lift (Ax.bin .add t41 t44)).bind fun t45 =>
 M.pure (.nrm [t45])) fun L0 =>
 (M.lift (Ax.bin .add (L.getD 1 .undef) (V.int .i64 1))).bind fun t27 =>
 M.pure (.nrm [(L0.getD 0 .undef), t27]))
 (M.pure (.ex 0 [(L.getD 0 .undef)]))

noncomputable def f_palanquinlaw9_heavy (G : Sem') (t0 : V) : M Res :=
 (mbox ty_depend_Structure t0).bind fun t1 =>
 (M.lift (Ax.faddr 2 t1)).bind fun t6 =>
 (mload none t6).bind fun t7 =>
 (M.lift (vlen t7)).bind fun t8 =>
 (M.lift (Ax.faddr 4 t1)).bind fun t9 =>
 (mload none t9).bind fun t10 =>
 (M.lift (vlen t10)).bind fun t11 =>
 (M.lift (Ax.bin .add t8 t11)).bind fun t12 =>
 (M.lift (Ax.faddr 5 t1)).bind fun t13 =>
 (mload none t13).bind fun t14 =>
 (M.lift (vlen t14)).bind fun t15 =>
 (M.lift (Ax.bin .add t12 t15)).bind fun t16 =>
 M.blk 0 (
 M.iter (f_palanquinlaw9_heavy_0 G t1 (V.bool false)) [t16, (V.int .i64 0)]) fun L1 =>
 (M.lift (Ax.bin .gtr (L1.getD 0 .undef) (V.int .i64 6000))).bind fun t47 =>
 (guarded [(0, t47)] (some (0, false)) (M.lift (Ax.faddr 2 t1))).bind fun t49 =>
 (guarded [(0, t47)] (some (0, false)) (mload none t49)).bind fun t50 =>
 (guarded [(0, t47)] (some (0, false)) (M.lift (vlen t50))).bind fun t51 =>
 (guarded [(0, t47)] (some (0, false)) (M.lift (Ax.bin .gtr t51 (V.int .i64 80)))).bind fun t52 =>
 (M.lift (Ax.pick t47 (V.bool true) t52)).bind fun t53 =>
 M.pure (.ret [t53])

theorem eq_palanquinlaw9_heavy (G : Sem') (t0 : V) : execK G ir_palanquinlaw9_heavy.rv ir_palanquinlaw9_heavy.body [] [] (params 0 [t0]) = f_palanquinlaw9_heavy G t0 := by kernel_rfl

theorem tb_palanquinlaw9_heavy : T fn_palanquinlaw9_heavy = some ir_palanquinlaw9_heavy := by kernel_rfl

theorem ok_palanquinlaw9_heavy {t0 : V} {H : Heap} {Q : V → Heap → Prop} (h : Ok (f_palanquinlaw9_heavy (sem T) t0) H fun r H' => ∃ L, r = .ret L ∧ Q (tupled L) H') : Ok (sem T fn_palanquinlaw9_heavy [t0]) H Q :=
  ok_sem tb_palanquinlaw9_heavy (Nat.le_of_ble_eq_true (by kernel_rfl)) (eq_palanquinlaw9_heavy (sem T) t0) h

noncomputable def ir_palanquinhelp_Frame : Fn' := irOf fn_palanquinhelp_Frame
noncomputable def f_palanquinhelp_Frame (G : Sem') (t0 : V) : M Res :=
 (mbox ty_depend_Frame t0).bind fun t1 =>
 (mbox ty_palanquinref9_Frame (V.agg [(V.bool false), (V.bool false), (V.int .i64 0), (V.int .u16 0), (V.bool false), (V.int .i64 0), (V.int .i64 0), V.nils, (V.int .i64 0), V.nils, V.nils, (V.bool false), (V.int .u32 0), (V.bool false), (V.bool false), (V.bool false), V.nils, V.nils, V.nils])).bind fun t2 =>
 (M.lift (Ax.faddr 0 t1)).bind fun t3 =>
 (mload none t3).bind fun t4 =>
 (M.lift (Ax.faddr 1 t1)).bind fun t5 =>
 (mload none t5).bind fun t6 =>
 (M.lift (Ax.faddr 2 t1)).bind fun t7 =>
 (mload none t7).bind fun t8 =>
 (M.lift (Ax.faddr 3 t1)).bind fun t9 =>
 (mload none t9).bind fun t10 =>
 (M.lift (Ax.faddr 4 t1)).bind fun t11 =>
 (mload none t11).bind fun t12 =>
 (M.lift (Ax.faddr 5 t1)).bind fun t13 =>
 (mload (some 6) t13).bind fun t14 =>
 (M.lift (Ax.faddr 11 t1)).bind fun t16 =>
 (mload none t16).bind fun t17 =>
 (M.lift (Ax.faddr 12 t1)).bind fun t18 =>
 (mload none t18).bind fun t19 =>
 (M.lift (Ax.faddr 13 t1)).bind fun t20 =>
 (mload none t20).bind fun t21 =>
 (M.lift (Ax.faddr 14 t1)).bind fun t22 =>
 (mload none t22).bind fun t23 =>
 (M.lift (Ax.faddr 15 t1)).bind fun t24 =>
 (mload none t24).bind fun t25 =>
 (M.lift (Ax.faddr 16 t1)).bind fun t26 =>
 (mload none t26).bind fun t27 =>
 (M.lift (Ax.faddr 17 t1)).bind fun t28 =>
 (mload none t28).bind fun t29 =>
 (M.lift (Ax.faddr 18 t1)).bind fun t30 =>
 (mload none t30).bind fun t31 =>
 M.getH.bind fun h0 =>
 (G fn_palanquinhelp_Structure [t14]).bind fun t15 =>
 M.getH.bind fun h0' =>
 (M.unch t30 h0 h0').bind fun _ =>
 (M.unch t28 h0 h0').bind fun _ =>
 (M.unch t26 h0 h0').bind fun _ =>
 (M.unch t24 h0 h0').bind fun _ =>
 (M.unch t22 h0 h0').bind fun _ =>
 (M.unch t20 h0 h0').bind fun _ =>
 (M.unch t18 h0 h0').bind fun _ =>
 (M.unch t16 h0 h0').bind fun _ =>
 (M.unch t11 h0 h0').bind fun _ =>
 (M.unch t9 h0 h0').bind fun _ =>
 (M.unch t7 h0 h0').bind fun _ =>
 (M.unch t5 h0 h0').bind fun _ =>
 (M.unch t3 h0 h0').bind fun _ =>
 (M.lift (Ax.build [(V.bool false), (V.bool false), (V.int .i64 0), (V.int .u16 0), (V.bool false), (V.int .i64 0), (V.int .i64 0), V.nils, (V.int .i64 0), V.nils, V.nils, (V.bool false), (V.int .u32 0), (V.bool false), (V.bool false), (V.bool false), V.nils, V.nils, V.nils] [(0, 1, t4), (1, 1, t6), (2, 1, t8), (3, 1, t10), (4, 1, t12), (5, 6, t15), (11, 1, t17), (12, 1, t19), (13, 1, t21), (14, 1, t23), (15, 1, t25), (16, 1, t27), (17, 1, t29), (18, 1, t31)])).bind fun t32 =>
 (mstore 19 t2 t32).bind fun _ =>
 (mload (some 19) t2).bind fun r0 =>
 M.pure (.ret [r0])

theorem eq_palanquinhelp_Frame (G : Sem') (t0 : V) : execK G ir_palanquinhelp_Frame.rv ir_palanquinhelp_Frame.body [] [] (params 0 [t0]) = f_palanquinhelp_Frame G t0 := by kernel_rfl

theorem tb_palanquinhelp_Frame : T fn_palanquinhelp_Frame = some ir_palanquinhelp_Frame := by kernel_rfl

theorem ok_palanquinhelp_Frame {t0 : V} {H : Heap} {Q : V → Heap → Prop} (h : Ok (f_palanquinhelp_Frame (sem T) t0) H fun r H' => ∃ L, r = .ret L ∧ Q (tupled L) H') : Ok (sem T fn_palanquinhelp_Frame [t0]) H Q :=
  ok_sem tb_palanquinhelp_Frame (Nat.le_of_ble_eq_true (by kernel_rfl)) (eq_palanquinhelp_Frame (sem T) t0) h

noncomputable def ir_palanquinref9_SameInts : Fn' := irOf fn_palanquinref9_SameInts
noncomputable def f_palanquinref9_SameInts_0 (G : Sem') (t0 t1 : V) (L : List V) : M Res :=
 (M.lift (vlen t0)).bind fun t13 =>
 (M.lift (Ax.bin .lss (L.getD 0 .undef) t13)).bind fun t14 =>
 M.ite t14
 (M.blk 1 (
 (M.lift (Ax.iaddr none 1 t0 (L.getD 0 .undef))).bind fun t19 =>
 (mload none t19).bind fun t20 =>
 (M.lift (Ax.iaddr none 1 t1 (L.getD 0 .undef))).bind fun t23 =>
 (mload none t23).bind fun t24 =>
 (M.lift (Ax.bin .neq t20 t24)).bind fun t25 =>
 M.ite t25
 (M.pure (.ret [(V.bool false)]))
 (M.pure (.nrm []))) fun _ =>
 (M.lift (Ax.bin .add (L.getD 0 .undef) (V.int .i64 1))).bind fun t16 =>
 M.pure (.nrm [t16]))
 (M.pure (.ex 0 []))

noncomputable def f_palanquinref9_SameInts (G : Sem') (t0 t1 : V) : M Res :=
 (M.lift (vlen t0)).bind fun t7 =>
 (M.lift (vlen t1)).bind fun t9 =>
 (M.lift (Ax.bin .neq t7 t9)).bind fun t10 =>
 M.ite t10
 (M.pure (.ret [(V.bool false)]))
 (M.blk 0 (
 M.iter (f_palanquinref9_SameInts_0 G t0 t1) [(V.int .i64 0)]) fun _ =>
 M.pure (.ret [(V.bool true)]))

theorem eq_palanquinref9_SameInts (G : Sem') (t0 t1 : V) : execK G ir_palanquinref9_SameInts.rv ir_palanquinref9_SameInts.body [] [] (params 0 [t0, t1]) = f_palanquinref9_SameInts G t0 t1 := by kernel_rfl

theorem tb_palanquinref9_SameInts : T fn_palanquinref9_SameInts = some ir_palanquinref9_SameInts := by kernel_rfl

theorem ok_palanquinref9_SameInts {t0 t1 : V} {H : Heap} {Q : V → Heap → Prop} (h : Ok (f_palanquinref9_SameInts (sem T) t0 t1) H fun r H' => ∃ L, r = .ret L ∧ Q (tupled L) H') : Ok (sem T fn_palanquinref9_SameInts [t0, t1]) H Q :=
  ok_sem tb_palanquinref9_SameInts (Nat.le_of_ble_eq_true (by kernel_rfl)) (eq_palanquinref9_SameInts (sem T) t0 t1) h

end Go.Ax
/- FnD4 -/
set_option maxRecDepth 100000
set_option linter.unusedVariables false
namespace Go.Ax
open Go.Proofs
noncomputable def ir_depend_Parse : Fn' := irOf fn_depend_Parse
noncomputable def f_depend_Parse_0 (G : Sem') (t6 t4 : V) (_ : List V) : M Res :=
 (M.lift (Ax.nilck t6)).bind fun t123 =>
 (M.lift (Ax.faddr 1 t123)).bind fun t124 =>
 (mload none t124).bind fun t125 =>
 (M.lift (Ax.bin .eql t125 (V.int .i64 0))).bind fun t126 =>
 (guarded [(0, t126)] (some (0, true)) (M.pure t6)).bind fun t128 =>
 (guarded [(0, t126)] (some (0, true)) (M.lift (Ax.nilck t128))).bind fun t129 =>
 (guarded [(0, t126)] (some (0, true)) (M.lift (Ax.faddr 0 t129))).bind fun t130 =>
 (guarded [(0, t126)] (some (0, true)) (mload none t130)).bind fun t131 =>
 (guarded [(0, t126)] (some (0, true)) (G fn_bits_Reader_Left [t131])).bind fun t132 =>
 (guarded [(0, t126)] (some (0, true)) (M.lift (Ax.bin .gtr t132 (V.int .i64 0)))).bind fun t133 =>
 (M.lift (Ax.pick t126 t133 (V.bool false))).bind fun t134 =>
 M.ite t134
 (M.blk 2 (
 (G fn_depend_reader_bit [t6]).bind fun t136 =>
 M.join (M.ite t136
 ((G fn_depend_reader_fail [t6, (V.int .i64 2)]).bind fun t138 =>
 M.pure (.nrm []))
 (M.pure (.nrm []))) fun _ =>
 M.pure (.nrm [])) fun _ =>
 M.pure (.nrm []))
 (M.pure (.ex 1 []))

noncomputable def f_depend_Parse (G : Sem') (t0 t1 : V) : M Res :=
 (mbox ty_depend_Structure t1).bind fun t3 =>
 (mbox ty_depend_Frame (V.agg [(V.bool false), (V.bool false), (V.int .i64 0), (V.int .u16 0), (V.bool false), (V.int .i64 0), (V.int .i64 0), V.nils, (V.int .i64 0), V.nils, V.nils, (V.bool false), (V.int .u32 0), (V.bool false), (V.bool false), (V.bool false), V.nils, V.nils, V.nils])).bind fun t4 =>
 (G fn_bits_Over [t0]).bind fun t12 =>
 (M.lift (Ax.build [V.nilp, (V.int .i64 0)] [(0, 1, t12)])).bind fun t13 =>
 (mbox ty_depend_reader t13).bind fun t14 =>
 (G fn_depend_reader_bit [t14]).bind fun t16 =>
 (G fn_depend_reader_bit [t14]).bind fun t18 =>
 (G fn_depend_reader_num [t14, (V.int .i64 6)]).bind fun t20 =>
 (G fn_depend_reader_num [t14, (V.int .i64 16)]).bind fun t22 =>
 (M.lift (Ax.cint .u16 t22)).bind fun t23 =>
 (M.lift (Ax.build [(V.bool false), (V.bool false), (V.int .i64 0), (V.int .u16 0), (V.bool false), (V.int .i64 0), (V.int .i64 0), V.nils, (V.int .i64 0), V.nils, V.nils, (V.bool false), (V.int .u32 0), (V.bool false), (V.bool false), (V.bool false), V.nils, V.nils, V.nils] [(0, 1, t16), (1, 1, t18), (2, 1, t20), (3, 1, t23)])).bind fun t24 =>
 (mbox ty_depend_Frame (V.agg [(V.bool false), (V.bool false), (V.int .i64 0), (V.int .u16 0), (V.bool false), (V.int .i64 0), (V.int .i64 0), V.nils, (V.int .i64 0), V.nils, V.nils, (V.bool false), (V.int .u32 0), (V.bool false), (V.bool false), (V.bool false), V.nils, V.nils, V.nils])).bind fun t7 =>
 (mstore 19 t7 t24).bind fun _ =>
 (M.lift (vlen t0)).bind fun t26 =>
 (M.lift (Ax.bin .gtr t26 (V.int .i64 3))).bind fun t27 =>
 M.join (M.ite t27
 ((G fn_depend_reader_bit [t14]).bind fun t29 =>
 (G fn_depend_reader_bit [t14]).bind fun t31 =>
 (M.lift (Ax.faddr 4 t7)).bind fun t32 =>
 (mstore 1 t32 t29).bind fun _ =>
 (M.lift (Ax.faddr 11 t7)).bind fun t33 =>
 (mstore 1 t33 t31).bind fun _ =>
 (G fn_depend_reader_bit [t14]).bind fun t35 =>
 (G fn_depend_reader_bit [t14]).bind fun t37 =>
 (G fn_depend_reader_bit [t14]).bind fun t39 =>
 (M.lift (Ax.faddr 13 t7)).bind fun t40 =>
 (mstore 1 t40 t35).bind fun _ =>
 (M.lift (Ax.faddr 14 t7)).bind fun t41 =>
 (mstore 1 t41 t37).bind fun _ =>
 (M.lift (Ax.faddr 15 t7)).bind fun t42 =>
 (mstore 1 t42 t39).bind fun _ =>
 M.pure (.nrm []))
 (M.pure (.nrm []))) fun _ =>
 M.blk 0 (
 (M.lift (Ax.nilck t14)).bind fun t45 =>
 (M.lift (Ax.faddr 1 t45)).bind fun t46 =>
 (mload none t46).bind fun t47 =>
 (M.lift (Ax.bin .neq t47 (V.int .i64 0))).bind fun t48 =>
 M.ite t48
 ((M.lift (Ax.build [(V.bool false), (V.bool false), (V.int .i64 0), (V.int .u16 0), (V.bool false), (V.int .i64 0), (V.int .i64 0), V.nils, (V.int .i64 0), V.nils, V.nils, (V.bool false), (V.int .u32 0), (V.bool false), (V.bool false), (V.bool false), V.nils, V.nils, V.nils] [])).bind fun t49 =>
 (M.lift (Ax.nilck t14)).bind fun t51 =>
 (M.lift (Ax.faddr 1 t51)).bind fun t52 =>
 (mload none t52).bind fun t53 =>
 M.getH.bind fun h0 =>
 (mstore 19 t4 t49).bind fun _ =>
 M.getH.bind fun h0' =>
 (M.unch t52 h0 h0').bind fun _ =>
 (mload (some 19) t4).bind fun r0 =>
 M.pure (.ret [r0, t53]))
 ((M.lift (Ax.faddr 4 t7)).bind fun t55 =>
 (mload none t55).bind fun t56 =>
 M.join (M.ite t56
 ((G fn_depend_reader_structure [t14]).bind fun t58 =>
 (M.lift (Ax.faddr 5 t7)).bind fun t59 =>
 (mstore 6 t59 t58).bind fun _ =>
 M.pure (.nrm []))
 ((mload (some 6) t3).bind fun t61 =>
 (G fn_depend_Fine [t61]).bind fun t62 =>
 (M.lift (Ax.un .not t62)).bind fun t63 =>
 M.ite t63
 ((M.lift (Ax.build [(V.bool false), (V.bool false), (V.int .i64 0), (V.int .u16 0), (V.bool false), (V.int .i64 0), (V.int .i64 0), V.nils, (V.int .i64 0), V.nils, V.nils, (V.bool false), (V.int .u32 0), (V.bool false), (V.bool false), (V.bool false), V.nils, V.nils, V.nils] [])).bind fun t64 =>
 (mstore 19 t4 t64).bind fun _ =>
 (mload (some 19) t4).bind fun r0 =>
 M.pure (.ret [r0, (V.int .i64 2)]))
 (M.pure (.nrm [])))) fun _ =>
 M.pure (.nrm []))) fun _ =>
 (mload (some 19) t7).bind fun t65 =>
 (mload (some 6) t3).bind fun t66 =>
 (G fn_depend_holds [t65, t66]).bind fun t67 =>
 (mbox ty_depend_Structure (V.agg [(V.int .i64 0), (V.int .i64 0), V.nils, (V.int .i64 0), V.nils, V.nils])).bind fun t8 =>
 (mstore 6 t8 t67).bind fun _ =>
 (M.lift (Ax.faddr 11 t7)).bind fun t68 =>
 (mload none t68).bind fun t69 =>
 (guarded [(0, t69)] (some (0, true)) (M.pure t14)).bind fun t71 =>
 (guarded [(0, t69)] (some (0, true)) (M.lift (Ax.nilck t71))).bind fun t72 =>
 (guarded [(0, t69)] (some (0, true)) (M.lift (Ax.faddr 1 t72))).bind fun t73 =>
 (guarded [(0, t69)] (some (0, true)) (mload none t73)).bind fun t74 =>
 (guarded [(0, t69)] (some (0, true)) (M.lift (Ax.bin .eql t74 (V.int .i64 0)))).bind fun t75 =>
 (M.lift (Ax.pick t69 t75 (V.bool false))).bind fun t76 =>
 M.join (M.ite t76
 ((M.lift (Ax.faddr 1 t8)).bind fun t78 =>
 (mload none t78).bind fun t79 =>
 (G fn_depend_reader_num [t14, t79]).bind fun t80 =>
 (M.lift (Ax.cint .u32 t80)).bind fun t81 =>
 (M.lift (Ax.faddr 12 t7)).bind fun t82 =>
 (mstore 1 t82 t81).bind fun _ =>
 M.pure (.nrm []))
 (M.pure (.nrm []))) fun _ =>
 (mload (some 6) t8).bind fun t84 =>
 (M.lift (Ax.faddr 2 t7)).bind fun t85 =>
 (mload none t85).bind fun t86 =>
 (G fn_depend_template [t84, t86]).bind fun t87 =>
 (M.lift (Ax.ext 0 t87)).bind fun t88 =>
 (M.lift (Ax.ext 1 t87)).bind fun t89 =>
 (mbox ty_depend_Template (V.agg [(V.int .i64 0), (V.int .i64 0), V.nils, V.nils, V.nils])).bind fun t9 =>
 (mstore 5 t9 t88).bind fun _ =>
 (M.lift (Ax.un .not t89)).bind fun t91 =>
 M.join (M.ite t91
 ((G fn_depend_reader_fail [t14, (V.int .i64 2)]).bind fun t93 =>
 M.pure (.nrm []))
 (M.pure (.nrm []))) fun _ =>
 (M.lift (Ax.faddr 2 t9)).bind fun t94 =>
 (mload none t94).bind fun t95 =>
 (M.lift (Ax.faddr 3 t9)).bind fun t96 =>
 (mload none t96).bind fun t97 =>
 (M.lift (Ax.faddr 4 t9)).bind fun t98 =>
 (mload none t98).bind fun t99 =>
 (M.lift (Ax.faddr 16 t7)).bind fun t100 =>
 M.getH.bind fun h1 =>
 (mstore 1 t100 t95).bind fun _ =>
 M.getH.bind fun h1' =>
 (M.unch t98 h1 h1').bind fun _ =>
 (M.unch t96 h1 h1').bind fun _ =>
 (M.lift (Ax.faddr 17 t7)).bind fun t101 =>
 M.getH.bind fun h2 =>
 (mstore 1 t101 t97).bind fun _ =>
 M.getH.bind fun h2' =>
 (M.unch t98 h2 h2').bind fun _ =>
 (M.lift (Ax.faddr 18 t7)).bind fun t102 =>
 (mstore 1 t102 t99).bind fun _ =>
 (M.lift (Ax.faddr 13 t7)).bind fun t103 =>
 (mload none t103).bind fun t104 =>
 M.join (M.ite t104
 ((M.lift (Ax.faddr 1 t8)).bind fun t106 =>
 (mload none t106).bind fun t107 =>
 (G fn_depend_reader_nums [t14, t107, (V.int .i64 2)]).bind fun t108 =>
 (M.lift (Ax.faddr 16 t7)).bind fun t109 =>
 (mstore 1 t109 t108).bind fun _ =>
 M.pure (.nrm []))
 (M.pure (.nrm []))) fun _ =>
 (M.lift (Ax.faddr 14 t7)).bind fun t110 =>
 (mload none t110).bind fun t111 =>
 M.join (M.ite t111
 ((G fn_depend_reader_own [t14]).bind fun t113 =>
 (M.lift (Ax.faddr 17 t7)).bind fun t114 =>
 (mstore 1 t114 t113).bind fun _ =>
 M.pure (.nrm []))
 (M.pure (.nrm []))) fun _ =>
 (M.lift (Ax.faddr 15 t7)).bind fun t115 =>
 (mload none t115).bind fun t116 =>
 M.join (M.ite t116
 ((M.lift (Ax.faddr 3 t8)).bind fun t118 =>
 (mload none t118).bind fun t119 =>
 (G fn_depend_reader_nums [t14, t119, (V.int .i64 8)]).bind fun t120 =>
 (M.lift (Ax.faddr 18 t7)).bind fun t121 =>
 (mstore 1 t121 t120).bind fun _ =>
 M.pure (.nrm []))
 (M.pure (.nrm []))) fun _ =>
 M.blk 1 (
 M.iter (f_depend_Parse_0 G t14 t4) []) fun _ =>
 (M.lift (Ax.nilck t14)).bind fun t140 =>
 (M.lift (Ax.faddr 1 t140)).bind fun t141 =>
 (mload none t141).bind fun t142 =>
 (M.lift (Ax.bin .neq t142 (V.int .i64 0))).bind fun t143 =>
 M.ite t143
 ((M.lift (Ax.build [(V.bool false), (V.bool false), (V.int .i64 0), (V.int .u16 0), (V.bool false), (V.int .i64 0), (V.int .i64 0), V.nils, (V.int .i64 0), V.nils, V.nils, (V.bool false), (V.int .u32 0), (V.bool false), (V.bool false), (V.bool false), V.nils, V.nils, V.nils] [])).bind fun t144 =>
 (M.lift (Ax.nilck t14)).bind fun t146 =>
 (M.lift (Ax.faddr 1 t146)).bind fun t147 =>
 (mload none t147).bind fun t148 =>
 M.getH.bind fun h3 =>
 (mstore 19 t4 t144).bind fun _ =>
 M.getH.bind fun h3' =>
 (M.unch t147 h3 h3').bind fun _ =>
 (mload (some 19) t4).bind fun r0 =>
 M.pure (.ret [r0, t148]))
 ((mload (some 19) t7).bind fun t149 =>
 (mstore 19 t4 t149).bind fun _ =>
 (mload (some 19) t4).bind fun r0 =>
 M.pure (.ret [r0, (V.int .i64 0)]))

theorem eq_depend_Parse (G : Sem') (t0 t1 : V) : execK G ir_depend_Parse.rv ir_depend_Parse.body [] [] (params 0 [t0, t1]) = f_depend_Parse G t0 t1 := by kernel_rfl

theorem tb_depend_Parse : T fn_depend_Parse = some ir_depend_Parse := by kernel_rfl

theorem ok_depend_Parse {t0 t1 : V} {H : Heap} {Q : V → Heap → Prop} (h : Ok (f_depend_Parse (sem T) t0 t1) H fun r H' => ∃ L, r = .ret L ∧ Q (tupled L) H') : Ok (sem T fn_depend_Parse [t0, t1]) H Q :=
  ok_sem tb_depend_Parse (Nat.le_of_ble_eq_true (by kernel_rfl)) (eq_depend_Parse (sem T) t0 t1) h

noncomputable def ir_bits_Over : Fn' := irOf fn_bits_Over
noncomputable def f_bits_Over (G : Sem') (t0 : V) : M Res :=
 (mappend ty_uint8 1 1 V.nils t0).bind fun t4 =>
 (M.lift (Ax.build [V.nils, (V.int .i64 0)] [(0, 1, t4)])).bind fun t5 =>
 (mbox ty_bits_Reader t5).bind fun t6 =>
 M.pure (.ret [t6])

theorem eq_bits_Over (G : Sem') (t0 : V) : execK G ir_bits_Over.rv ir_bits_Over.body [] [] (params 0 [t0]) = f_bits_Over G t0 := by kernel_rfl

theorem tb_bits_Over : T fn_bits_Over = some ir_bits_Over := by kernel_rfl

theorem ok_bits_Over {t0 : V} {H : Heap} {Q : V → Heap → Prop} (h : Ok (f_bits_Over (sem T) t0) H fun r H' => ∃ L, r = .ret L ∧ Q (tupled L) H') : Ok (sem T fn_bits_Over [t0]) H Q :=
  ok_sem tb_bits_Over (Nat.le_of_ble_eq_true (by kernel_rfl)) (eq_bits_Over (sem T) t0) h

noncomputable def ir_depend_reader_bit : Fn' := irOf fn_depend_reader_bit
noncomputable def f_depend_reader_bit (G : Sem') (t0 : V) : M Res :=
 (G fn_depend_reader_num [t0, (V.int .i64 1)]).bind fun t4 =>
 (M.lift (Ax.bin .eql t4 (V.int .i64 1))).bind fun t5 =>
 M.pure (.ret [t5])

theorem eq_depend_reader_bit (G : Sem') (t0 : V) : execK G ir_depend_reader_bit.rv ir_depend_reader_bit.body [] [] (params 0 [t0]) = f_depend_reader_bit G t0 := by kernel_rfl

theorem tb_depend_reader_bit : T fn_depend_reader_bit = some ir_depend_reader_bit := by kernel_rfl

theorem ok_depend_reader_bit {t0 : V} {H : Heap} {Q : V → Heap → Prop} (h : Ok (f_depend_reader_bit (sem T) t0) H fun r H' => ∃ L, r = .ret L ∧ Q (tupled L) H') : Ok (sem T fn_depend_reader_bit [t0]) H Q :=
  ok_sem tb_depend_reader_bit (Nat.le_of_ble_eq_true (by kernel_rfl)) (eq_depend_reader_bit (sem T) t0) h

noncomputable def ir_depend_reader_num : Fn' := irOf fn_depend_reader_num
noncomputable def f_depend_reader_num (G : Sem') (t0 t1 : V) : M Res :=
 (M.lift (Ax.nilck t0)).bind fun t8 =>
 (M.lift (Ax.faddr 1 t8)).bind fun t9 =>
 (mload none t9).bind fun t10 =>
 (M.lift (Ax.bin .neq t10 (V.int .i64 0))).bind fun t11 =>
 M.ite t11
 (M.pure (.ret [(V.int .i64 0)]))
 ((M.lift (Ax.nilck t0)).bind fun t14 =>
 (M.lift (Ax.faddr 0 t14)).bind fun t15 =>
 (mload none t15).bind fun t16 =>
 (G fn_bits_Reader_Take [t16, t1]).bind fun t18 =>
 (M.lift (Ax.ext 0 t18)).bind fun t19 =>
 (M.lift (Ax.ext 1 t18)).bind fun t20 =>
 (M.lift (Ax.nilck t0)).bind fun t23 =>
 (M.lift (Ax.faddr 1 t23)).bind fun t24 =>
 (mstore 1 t24 t20).bind fun _ =>
 (M.lift (Ax.cint .i64 t19)).bind fun t26 =>
 M.pure (.ret [t26]))

theorem eq_depend_reader_num (G : Sem') (t0 t1 : V) : execK G ir_depend_reader_num.rv ir_depend_reader_num.body [] [] (params 0 [t0, t1]) = f_depend_reader_num G t0 t1 := by kernel_rfl

theorem tb_depend_reader_num : T fn_depend_reader_num = some ir_depend_reader_num := by kernel_rfl

theorem ok_depend_reader_num {t0 t1 : V} {H : Heap} {Q : V → Heap → Prop} (h : Ok (f_depend_reader_num (sem T) t0 t1) H fun r H' => ∃ L, r = .ret L ∧ Q (tupled L) H') : Ok (sem T fn_depend_reader_num [t0, t1]) H Q :=
  ok_sem tb_depend_reader_num (Nat.le_of_ble_eq_true (by kernel_rfl)) (eq_depend_reader_num (sem T) t0 t1) h

noncomputable def ir_bits_Reader_Take : Fn' := irOf fn_bits_Reader_Take
noncomputable def f_bits_Reader_Take_0 (G : Sem') (t19 t0 : V) (L : List V) : M Res :=
 (M.lift (Ax.bin .lss (L.getD 1 .undef) t19)).bind fun t21 =>
 M.ite t21
 (M.blk 2 (
 (M.lift (Ax.bin .shl (L.getD 0 .undef) (V.int .u64 1))).bind fun t23 =>
 (M.lift (Ax.nilck t0)).bind fun t25 =>
 (M.lift (Ax.faddr 0 t25)).bind fun t26 =>
 (mload none t26).bind fun t27 =>
 (M.lift (Ax.nilck t0)).bind fun t29 =>
 (M.lift (Ax.faddr 1 t29)).bind fun t30 =>
 (mload none t30).bind fun t31 =>
 (M.lift (Ax.bin .quo t31 (V.int .i64 8))).bind fun t32 =>
 (M.lift (Ax.iaddr none 1 t27 t32)).bind fun t33 =>
 (mload none t33).bind fun t34 =>
 (M.lift (Ax.nilck t0)).bind fun t36 =>
 (M.lift (Ax.faddr 1 t36)).bind fun t37 =>
 (mload none t37).bind fun t38 =>
 (M.lift (Ax.bin .rem t38 (V.int .i64 8))).bind fun t39 =>
 (M.lift (Ax.bin .sub (V.int .i64 7) t39)).bind fun t40 =>
 (M.lift (Ax.bin .shr t34 t40)).bind fun t41 =>
 (M.lift (Ax.bin .and t41 (V.int .u8 1))).bind fun t42 =>
 (M.lift (Ax.cint .u64 t42)).bind fun t43 =>
 (M.lift (Ax.bin .or t23 t43)).bind fun t44 =>
 (M.lift (Ax.nilck t0)).bind fun t46 =>
 (M.lift (Ax.faddr 1 t46)).bind fun t47 =>
 (mload none t47).bind fun t48 =>
 (M.lift (Ax.bin .add t48 (V.int .i64 1))).bind fun t49 =>
 (M.lift (Ax.nilck t0)).bind fun t50 =>
 (M.lift (Ax.faddr 1 t50)).bind fun t51 =>
 (mstore 1 t51 t49).bind fun _ =>
 M.pure (.nrm [t44])) fun L1 =>
 (M.lift (Ax.bin .add (L.getD 1 .undef) (V.int .i64 1))).bind fun t52 =>
 M.pure (.nrm [(L1.getD 0 .undef), t52]))
 (M.pure (.ex 1 [(L.getD 0 .undef)]))

noncomputable def f_bits_Reader_Take (G : Sem') (t0 t1 : V) : M Res :=
 M.blk 0 (
 (M.lift (Ax.bin .lss t1 (V.int .i64 0))).bind fun t9 =>
 (guarded [(0, t9)] (some (0, false)) (M.pure t1)).bind fun t11 =>
 (guarded [(0, t9)] (some (0, false)) (M.lift (Ax.bin .gtr t11 (V.int .i64 64)))).bind fun t12 =>
 (M.lift (Ax.pick t9 (V.bool true) t12)).bind fun t13 =>
 M.ite t13
 (M.pure (.ret [(V.int .u64 0), (V.int .i64 1)]))
 ((G fn_bits_Reader_Left [t0]).bind fun t17 =>
 (M.lift (Ax.bin .gtr t1 t17)).bind fun t18 =>
 M.ite t18
 (M.pure (.ret [(V.int .u64 0), (V.int .i64 3)]))
 (M.pure (.nrm [])))) fun _ =>
 M.blk 1 (
 M.iter (f_bits_Reader_Take_0 G t1 t0) [(V.int .u64 0), (V.int .i64 0)]) fun L2 =>
 M.pure (.ret [(L2.getD 0 .undef), (V.int .i64 0)])

theorem eq_bits_Reader_Take (G : Sem') (t0 t1 : V) : execK G ir_bits_Reader_Take.rv ir_bits_Reader_Take.body [] [] (params 0 [t0, t1]) = f_bits_Reader_Take G t0 t1 := by kernel_rfl

theorem tb_bits_Reader_Take : T fn_bits_Reader_Take = some ir_bits_Reader_Take := by kernel_rfl

theorem ok_bits_Reader_Take {t0 t1 : V} {H : Heap} {Q : V → Heap → Prop} (h : Ok (f_bits_Reader_Take (sem T) t0 t1) H fun r H' => ∃ L, r = .ret L ∧ Q (tupled L) H') : Ok (sem T fn_bits_Reader_Take [t0, t1]) H Q :=
  ok_sem tb_bits_Reader_Take (Nat.le_of_ble_eq_true (by kernel_rfl)) (eq_bits_Reader_Take (sem T) t0 t1) h

noncomputable def ir_bits_Reader_Left : Fn' := irOf fn_bits_Reader_Left
noncomputable def f_bits_Reader_Left (G : Sem') (t0 : V) : M Res :=
 (M.lift (Ax.nilck t0)).bind fun t4 =>
 (M.lift (Ax.faddr 0 t4)).bind fun t5 =>
 (mload none t5).bind fun t6 =>
 (M.lift (vlen t6)).bind fun t7 =>
 (M.lift (Ax.bin .mul (V.int .i64 8) t7)).bind fun t8 =>
 (M.lift (Ax.nilck t0)).bind fun t10 =>
 (M.lift (Ax.faddr 1 t10)).bind fun t11 =>
 (mload none t11).bind fun t12 =>
 (M.lift (Ax.bin .sub t8 t12)).bind fun t13 =>
 M.pure (.ret [t13])

theorem eq_bits_Reader_Left (G : Sem') (t0 : V) : execK G ir_bits_Reader_Left.rv ir_bits_Reader_Left.body [] [] (params 0 [t0]) = f_bits_Reader_Left G t0 := by kernel_rfl

theorem tb_bits_Reader_Left : T fn_bits_Reader_Left = some ir_bits_Reader_Left := by kernel_rfl

theorem ok_bits_Reader_Left {t0 : V} {H : Heap} {Q : V → Heap → Prop} (h : Ok (f_bits_Reader_Left (sem T) t0) H fun r H' => ∃ L, r = .ret L ∧ Q (tupled L) H') : Ok (sem T fn_bits_Reader_Left [t0]) H Q :=
  ok_sem tb_bits_Reader_Left (Nat.le_of_ble_eq_true (by kernel_rfl)) (eq_bits_Reader_Left (sem T) t0) h

noncomputable def ir_depend_reader_structure : Fn' := irOf fn_depend_reader_structure
noncomputable def f_depend_reader_structure_0 (G : Sem') (t18 t0 t3 t2 : V) (L : List V) : M Res :=
 (M.lift (Ax.bin .lss (L.getD 0 .undef) t18)).bind fun t20 =>
 M.ite t20
 (M.blk 1 (
 (M.lift (Ax.faddr 2 t3)).bind fun t22 =>
 (mload none t22).bind fun t23 =>
 (M.lift (Ax.faddr 1 t3)).bind fun t26 =>
 (mload none t26).bind fun t27 =>
 M.getH.bind fun h0 =>
 (G fn_depend_reader_nums [t0, t27, (V.int .i64 2)]).bind fun t28 =>
 M.getH.bind fun h0' =>
 (M.unch t22 h0 h0').bind fun _ =>
 (M.lift (Ax.iaddr none 5 t23 (L.getD 0 .undef))).bind fun t29 =>
 (M.lift (Ax.faddr 2 t29)).bind fun t30 =>
 (mstore 1 t30 t28).bind fun _ =>
 M.pure (.nrm [])) fun _ =>
 (M.lift (Ax.bin .add (L.getD 0 .undef) (V.int .i64 1))).bind fun t31 =>
 M.pure (.nrm [t31]))
 (M.pure (.ex 0 []))

noncomputable def f_depend_reader_structure_1 (G : Sem') (t34 t3 t0 t2 : V) (L : List V) : M Res :=
 (M.lift (Ax.bin .lss (L.getD 0 .undef) t34)).bind fun t36 =>
 M.ite t36
 (M.blk 3 (
 (M.lift (Ax.faddr 2 t3)).bind fun t38 =>
 (mload none t38).bind fun t39 =>
 M.getH.bind fun h1 =>
 (G fn_depend_reader_diffs [t0]).bind fun t42 =>
 M.getH.bind fun h1' =>
 (M.unch t38 h1 h1').bind fun _ =>
 (M.lift (Ax.iaddr none 5 t39 (L.getD 0 .undef))).bind fun t43 =>
 (M.lift (Ax.faddr 3 t43)).bind fun t44 =>
 (mstore 1 t44 t42).bind fun _ =>
 M.pure (.nrm [])) fun _ =>
 (M.lift (Ax.bin .add (L.getD 0 .undef) (V.int .i64 1))).bind fun t45 =>
 M.pure (.nrm [t45]))
 (M.pure (.ex 2 []))

noncomputable def f_depend_reader_structure_2 (G : Sem') (t56 t0 t3 t2 : V) (L : List V) : M Res :=
 (M.lift (Ax.bin .lss (L.getD 0 .undef) t56)).bind fun t58 =>
 M.ite t58
 (M.blk 5 (
 (M.lift (Ax.faddr 4 t3)).bind fun t59 =>
 (mload none t59).bind fun t60 =>
 (M.lift (Ax.faddr 3 t3)).bind fun t62 =>
 (mload none t62).bind fun t63 =>
 M.getH.bind fun h2 =>
 (G fn_depend_reader_ns [t0, t63]).bind fun t64 =>
 M.getH.bind fun h2' =>
 (M.unch t59 h2 h2').bind fun _ =>
 (mslit ty_int 1 [(V.int .i64 0)] [(0, 1, t64)]).bind fun t65 =>
 (mappend ty_int 1 8 t60 t65).bind fun t66 =>
 (M.lift (Ax.faddr 4 t3)).bind fun t67 =>
 (mstore 1 t67 t66).bind fun _ =>
 M.pure (.nrm [])) fun _ =>
 (M.lift (Ax.bin .add (L.getD 0 .undef) (V.int .i64 1))).bind fun t68 =>
 M.pure (.nrm [t68]))
 (M.pure (.ex 4 []))

noncomputable def f_depend_reader_structure_3 (G : Sem') (t71 t0 t3 t2 : V) (L : List V) : M Res :=
 (M.lift (Ax.bin .lss (L.getD 0 .undef) t71)).bind fun t73 =>
 M.ite t73
 (M.blk 7 (
 (M.lift (Ax.faddr 2 t3)).bind fun t75 =>
 (mload none t75).bind fun t76 =>
 (M.lift (Ax.faddr 3 t3)).bind fun t79 =>
 (mload none t79).bind fun t80 =>
 M.getH.bind fun h3 =>
 (G fn_depend_reader_nums [t0, t80, (V.int .i64 4)]).bind fun t81 =>
 M.getH.bind fun h3' =>
 (M.unch t75 h3 h3').bind fun _ =>
 (M.lift (Ax.iaddr none 5 t76 (L.getD 0 .undef))).bind fun t82 =>
 (M.lift (Ax.faddr 4 t82)).bind fun t83 =>
 (mstore 1 t83 t81).bind fun _ =>
 M.pure (.nrm [])) fun _ =>
 (M.lift (Ax.bin .add (L.getD 0 .undef) (V.int .i64 1))).bind fun t84 =>
 M.pure (.nrm [t84]))
 (M.pure (.ex 6 []))

noncomputable def f_depend_reader_structure_4 (G : Sem') (t88 t0 t3 t2 : V) (L : List V) : M Res :=
 (M.lift (Ax.bin .lss (L.getD 0 .undef) t88)).bind fun t90 =>
 M.ite t90
 (M.blk 9 (
 (M.lift (Ax.faddr 5 t3)).bind fun t91 =>
 (mload none t91).bind fun t92 =>
 M.getH.bind fun h4 =>
 (G fn_depend_reader_num [t0, (V.int .i64 16)]).bind fun t94 =>
 M.getH.bind fun h4' =>
 (M.unch t91 h4 h4').bind fun _ =>
 M.getH.bind fun h5 =>
 (G fn_depend_reader_num [t0, (V.int .i64 16)]).bind fun t97 =>
 M.getH.bind fun h5' =>
 (M.unch t91 h5 h5').bind fun _ =>
 (M.lift (Ax.bin .add t94 (V.int .i64 1))).bind fun t95 =>
 (M.lift (Ax.bin .add t97 (V.int .i64 1))).bind fun t98 =>
 (M.lift (Ax.build [(V.int .i64 0), (V.int .i64 0)] [(0, 1, t95), (1, 1, t98)])).bind fun t99 =>
 (mslit ty_2_int 1 [(V.int .i64 0), (V.int .i64 0)] [(0, 2, t99)]).bind fun t100 =>
 (mappend ty_2_int 2 16 t92 t100).bind fun t101 =>
 (M.lift (Ax.faddr 5 t3)).bind fun t102 =>
 (mstore 1 t102 t101).bind fun _ =>
 M.pure (.nrm [])) fun _ =>
 (M.lift (Ax.bin .add (L.getD 0 .undef) (V.int .i64 1))).bind fun t103 =>
 M.pure (.nrm [t103]))
 (M.pure (.ex 8 []))

noncomputable def f_depend_reader_structure (G : Sem') (t0 : V) : M Res :=
 (mbox ty_depend_Structure (V.agg [(V.int .i64 0), (V.int .i64 0), V.nils, (V.int .i64 0), V.nils, V.nils])).bind fun t2 =>
 (G fn_depend_reader_num [t0, (V.int .i64 6)]).bind fun t8 =>
 (G fn_depend_reader_num [t0, (V.int .i64 5)]).bind fun t10 =>
 (M.lift (Ax.bin .add t10 (V.int .i64 1))).bind fun t11 =>
 (M.lift (Ax.build [(V.int .i64 0), (V.int .i64 0), V.nils, (V.int .i64 0), V.nils, V.nils] [(0, 1, t8), (1, 1, t11)])).bind fun t12 =>
 (mbox ty_depend_Structure (V.agg [(V.int .i64 0), (V.int .i64 0), V.nils, (V.int .i64 0), V.nils, V.nils])).bind fun t3 =>
 (mstore 6 t3 t12).bind fun _ =>
 (G fn_depend_reader_templates [t0]).bind fun t14 =>
 (M.lift (Ax.faddr 2 t3)).bind fun t15 =>
 (mstore 1 t15 t14).bind fun _ =>
 (M.lift (Ax.faddr 2 t3)).bind fun t16 =>
 (mload none t16).bind fun t17 =>
 (M.lift (vlen t17)).bind fun t18 =>
 M.blk 0 (
 M.iter (f_depend_reader_structure_0 G t18 t0 t3 t2) [(V.int .i64 0)]) fun _ =>
 (M.lift (Ax.faddr 2 t3)).bind fun t32 =>
 (mload none t32).bind fun t33 =>
 (M.lift (vlen t33)).bind fun t34 =>
 M.blk 2 (
 M.iter (f_depend_reader_structure_1 G t34 t3 t0 t2) [(V.int .i64 0)]) fun _ =>
 (M.lift (Ax.faddr 1 t3)).bind fun t47 =>
 (mload none t47).bind fun t48 =>
 (M.lift (Ax.bin .add t48 (V.int .i64 1))).bind fun t49 =>
 (G fn_depend_reader_ns [t0, t49]).bind fun t50 =>
 (M.lift (Ax.faddr 3 t3)).bind fun t51 =>
 (mstore 1 t51 t50).bind fun _ =>
 (M.lift (Ax.faddr 3 t3)).bind fun t52 =>
 (mload none t52).bind fun t53 =>
 (M.lift (Ax.bin .gtr t53 (V.int .i64 0))).bind fun t54 =>
 M.join (M.ite t54
 ((M.lift (Ax.faddr 1 t3)).bind fun t55 =>
 (mload none t55).bind fun t56 =>
 M.blk 4 (
 M.iter (f_depend_reader_structure_2 G t56 t0 t3 t2) [(V.int .i64 0)]) fun _ =>
 (M.lift (Ax.faddr 2 t3)).bind fun t69 =>
 (mload none t69).bind fun t70 =>
 (M.lift (vlen t70)).bind fun t71 =>
 M.blk 6 (
 M.iter (f_depend_reader_structure_3 G t71 t0 t3 t2) [(V.int .i64 0)]) fun _ =>
 M.pure (.nrm []))
 (M.pure (.nrm []))) fun _ =>
 (G fn_depend_reader_bit [t0]).bind fun t86 =>
 M.join (M.ite t86
 ((mload (some 6) t3).bind fun t87 =>
 (G fn_depend_spatial [t87]).bind fun t88 =>
 M.blk 8 (
 M.iter (f_depend_reader_structure_4 G t88 t0 t3 t2) [(V.int .i64 0)]) fun _ =>
 M.pure (.nrm []))
 (M.pure (.nrm []))) fun _ =>
 (mload (some 6) t3).bind fun t104 =>
 (mstore 6 t2 t104).bind fun _ =>
 (mload (some 6) t2).bind fun r0 =>
 M.pure (.ret [r0])

theorem eq_depend_reader_structure (G : Sem') (t0 : V) : execK G ir_depend_reader_structure.rv ir_depend_reader_structure.body [] [] (params 0 [t0]) = f_depend_reader_structure G t0 := by kernel_rfl

theorem tb_depend_reader_structure : T fn_depend_reader_structure = some ir_depend_reader_structure := by kernel_rfl

theorem ok_depend_reader_structure {t0 : V} {H : Heap} {Q : V → Heap → Prop} (h : Ok (f_depend_reader_structure (sem T) t0) H fun r H' => ∃ L, r = .ret L ∧ Q (tupled L) H') : Ok (sem T fn_depend_reader_structure [t0]) H Q :=
  ok_sem tb_depend_reader_structure (Nat.le_of_ble_eq_true (by kernel_rfl)) (eq_depend_reader_structure (sem T) t0) h

noncomputable def ir_depend_reader_templates : Fn' := irOf fn_depend_reader_templates
noncomputable def f_depend_reader_templates_0 (G : Sem') (t0 : V) (L : List V) : M Res :=
 (M.lift (Ax.nilck t0)).bind fun t8 =>
 (M.lift (Ax.faddr 1 t8)).bind fun t9 =>
 (mload none t9).bind fun t10 =>
 (M.lift (Ax.bin .eql t10 (V.int .i64 0))).bind fun t11 =>
 M.ite t11
 (M.blk 1 (
 (M.lift (vlen (L.getD 0 .undef))).bind fun t14 =>
 (M.lift (Ax.bin .sub t14 (V.int .i64 1))).bind fun t15 =>
 (M.lift (Ax.iaddr none 5 (L.getD 0 .undef) t15)).bind fun t16 =>
 (M.lift (Ax.faddr 0 t16)).bind fun t17 =>
 (mload none t17).bind fun t18 =>
 (M.lift (vlen (L.getD 0 .undef))).bind fun t21 =>
 (M.lift (Ax.bin .sub t21 (V.int .i64 1))).bind fun t22 =>
 (M.lift (Ax.iaddr none 5 (L.getD 0 .undef) t22)).bind fun t23 =>
 (M.lift (Ax.faddr 1 t23)).bind fun t24 =>
 (mload none t24).bind fun t25 =>
 (M.lift (Ax.build [(V.int .i64 0), (V.int .i64 0), V.nils, V.nils, V.nils] [(0, 1, t18), (1, 1, t25)])).bind fun t26 =>
 (mbox ty_depend_Template (V.agg [(V.int .i64 0), (V.int .i64 0), V.nils, V.nils, V.nils])).bind fun t4 =>
 (mstore 5 t4 t26).bind fun _ =>
 (G fn_depend_reader_num [t0, (V.int .i64 2)]).bind fun t28 =>
 M.blk 2 (
 (M.lift (Ax.bin .eql t28 (V.int .i64 3))).bind fun t30 =>
 M.ite t30
 (M.pure (.ret [(L.getD 0 .undef)]))
 ((M.lift (Ax.bin .eql t28 (V.int .i64 1))).bind fun t33 =>
 M.join (M.ite t33
 ((M.lift (Ax.faddr 1 t4)).bind fun t34 =>
 (mload none t34).bind fun t35 =>
 (M.lift (Ax.bin .add t35 (V.int .i64 1))).bind fun t36 =>
 (M.lift (Ax.faddr 1 t4)).bind fun t37 =>
 (mstore 1 t37 t36).bind fun _ =>
 M.pure (.nrm []))
 ((M.lift (Ax.bin .eql t28 (V.int .i64 2))).bind fun t39 =>
 M.join (M.ite t39
 ((M.lift (Ax.faddr 0 t4)).bind fun t40 =>
 (mload none t40).bind fun t41 =>
 (M.lift (Ax.bin .add t41 (V.int .i64 1))).bind fun t42 =>
 (M.lift (Ax.faddr 0 t4)).bind fun t43 =>
 (mstore 1 t43 t42).bind fun _ =>
 (M.lift (Ax.faddr 1 t4)).bind fun t44 =>
 (mstore 1 t44 (V.int .i64 0)).bind fun _ =>
 M.pure (.nrm []))
 (M.pure (.nrm []))) fun _ =>
 M.pure (.nrm []))) fun _ =>
 M.pure (.nrm []))) fun _ =>
 (M.lift (Ax.faddr 0 t4)).bind fun t45 =>
 (mload none t45).bind fun t46 =>
 (M.lift (Ax.bin .gtr t46 (V.int .i64 3))).bind fun t47 =>
 (guarded [(0, t47)] (some (0, false)) (M.lift (Ax.faddr 1 t4))).bind fun t49 =>
 (guarded [(0, t47)] (some (0, false)) (mload none t49)).bind fun t50 =>
 (guarded [(0, t47)] (some (0, false)) (M.lift (Ax.bin .gtr t50 (V.int .i64 7)))).bind fun t51 =>
 (M.lift (Ax.pick t47 (V.bool true) t51)).bind fun t52 =>
 (guarded [(0, t52)] (some (0, false)) (M.pure (L.getD 0 .undef))).bind fun t54 =>
 (guarded [(0, t52)] (some (0, false)) (M.lift (vlen t54))).bind fun t55 =>
 (guarded [(0, t52)] (some (0, false)) (M.lift (Ax.bin .geq t55 (V.int .i64 64)))).bind fun t56 =>
 (M.lift (Ax.pick t52 (V.bool true) t56)).bind fun t57 =>
 M.join (M.ite t57
 ((G fn_depend_reader_fail [t0, (V.int .i64 2)]).bind fun t59 =>
 M.pure (.nrm []))
 (M.pure (.nrm []))) fun _ =>
 (mload (some 5) t4).bind fun t61 =>
 (mslit ty_depend_Template 1 [(V.int .i64 0), (V.int .i64 0), V.nils, V.nils, V.nils] [(0, 5, t61)]).bind fun t62 =>
 (mappend ty_depend_Template 5 88 (L.getD 0 .undef) t62).bind fun t63 =>
 M.pure (.nrm [t63])) fun L4 =>
 M.pure (.nrm [(L4.getD 0 .undef)]))
 (M.pure (.ex 0 [(L.getD 0 .undef)]))

noncomputable def f_depend_reader_templates (G : Sem') (t0 : V) : M Res :=
 (M.lift (Ax.build [(V.int .i64 0), (V.int .i64 0), V.nils, V.nils, V.nils] [])).bind fun t5 =>
 (mslit ty_depend_Template 1 [(V.int .i64 0), (V.int .i64 0), V.nils, V.nils, V.nils] [(0, 5, t5)]).bind fun t6 =>
 M.blk 0 (
 M.iter (f_depend_reader_templates_0 G t0) [t6]) fun L5 =>
 M.pure (.ret [(L5.getD 0 .undef)])

theorem eq_depend_reader_templates (G : Sem') (t0 : V) : execK G ir_depend_reader_templates.rv ir_depend_reader_templates.body [] [] (params 0 [t0]) = f_depend_reader_templates G t0 := by kernel_rfl

theorem tb_depend_reader_templates : T fn_depend_reader_templates = some ir_depend_reader_templates := by kernel_rfl

theorem ok_depend_reader_templates {t0 : V} {H : Heap} {Q : V → Heap → Prop} (h : Ok (f_depend_reader_templates (sem T) t0) H fun r H' => ∃ L, r = .ret L ∧ Q (tupled L) H') : Ok (sem T fn_depend_reader_templates [t0]) H Q :=
  ok_sem tb_depend_reader_templates (Nat.le_of_ble_eq_true (by kernel_rfl)) (eq_depend_reader_templates (sem T) t0) h

noncomputable def ir_depend_reader_fail : Fn' := irOf fn_depend_reader_fail
noncomputable def f_depend_reader_fail (G : Sem') (t0 t1 : V) : M Res :=
 (M.lift (Ax.nilck t0)).bind fun t5 =>
 (M.lift (Ax.faddr 1 t5)).bind fun t6 =>
 (mload none t6).bind fun t7 =>
 (M.lift (Ax.bin .eql t7 (V.int .i64 0))).bind fun t8 =>
 M.join (M.ite t8
 ((M.lift (Ax.nilck t0)).bind fun t11 =>
 (M.lift (Ax.faddr 1 t11)).bind fun t12 =>
 (mstore 1 t12 t1).bind fun _ =>
 M.pure (.nrm []))
 (M.pure (.nrm []))) fun _ =>
 M.pure (.ret [])

theorem eq_depend_reader_fail (G : Sem') (t0 t1 : V) : execK G ir_depend_reader_fail.rv ir_depend_reader_fail.body [] [] (params 0 [t0, t1]) = f_depend_reader_fail G t0 t1 := by kernel_rfl

theorem tb_depend_reader_fail : T fn_depend_reader_fail = some ir_depend_reader_fail := by kernel_rfl

theorem ok_depend_reader_fail {t0 t1 : V} {H : Heap} {Q : V → Heap → Prop} (h : Ok (f_depend_reader_fail (sem T) t0 t1) H fun r H' => ∃ L, r = .ret L ∧ Q (tupled L) H') : Ok (sem T fn_depend_reader_fail [t0, t1]) H Q :=
  ok_sem tb_depend_reader_fail (Nat.le_of_ble_eq_true (by kernel_rfl)) (eq_depend_reader_fail (sem T) t0 t1) h

noncomputable def ir_depend_reader_nums : Fn' := irOf fn_depend_reader_nums
noncomputable def f_depend_reader_nums_0 (G : Sem') (t8 t0 t2 t6 : V) (L : List V) : M Res :=
 (M.lift (Ax.bin .lss (L.getD 1 .undef) t8)).bind fun t10 =>
 M.ite t10
 (M.blk 1 (
 (G fn_depend_reader_num [t0, t2]).bind fun t14 =>
 (mslit ty_int 1 [(V.int .i64 0)] [(0, 1, t14)]).bind fun t15 =>
 (mappend ty_int 1 8 (L.getD 0 .undef) t15).bind fun t16 =>
 M.pure (.nrm [t16])) fun L0 =>
 (M.lift (Ax.bin .add (L.getD 1 .undef) (V.int .i64 1))).bind fun t17 =>
 M.pure (.nrm [(L0.getD 0 .undef), t17]))
 (M.pure (.ex 0 [(L.getD 0 .undef)]))

noncomputable def f_depend_reader_nums (G : Sem') (t0 t1 t2 : V) : M Res :=
 M.blk 0 (
 M.iter (f_depend_reader_nums_0 G t1 t0 t2 V.nils) [V.nils, (V.int .i64 0)]) fun L1 =>
 M.pure (.ret [(L1.getD 0 .undef)])

theorem eq_depend_reader_nums (G : Sem') (t0 t1 t2 : V) : execK G ir_depend_reader_nums.rv ir_depend_reader_nums.body [] [] (params 0 [t0, t1, t2]) = f_depend_reader_nums G t0 t1 t2 := by kernel_rfl

theorem tb_depend_reader_nums : T fn_depend_reader_nums = some ir_depend_reader_nums := by kernel_rfl

theorem ok_depend_reader_nums {t0 t1 t2 : V} {H : Heap} {Q : V → Heap → Prop} (h : Ok (f_depend_reader_nums (sem T) t0 t1 t2) H fun r H' => ∃ L, r = .ret L ∧ Q (tupled L) H') : Ok (sem T fn_depend_reader_nums [t0, t1, t2]) H Q :=
  ok_sem tb_depend_reader_nums (Nat.le_of_ble_eq_true (by kernel_rfl)) (eq_depend_reader_nums (sem T) t0 t1 t2) h

noncomputable def ir_depend_reader_diffs : Fn' := irOf fn_depend_reader_diffs
noncomputable def f_depend_reader_diffs_0 (G : Sem') (t0 : V) (L : List V) : M Res :=
 (G fn_depend_reader_bit [t0]).bind fun t5 =>
 M.ite t5
 (M.blk 1 (
 (M.lift (vlen (L.getD 0 .undef))).bind fun t7 =>
 (M.lift (Ax.bin .geq t7 (V.int .i64 8))).bind fun t8 =>
 M.ite t8
 ((G fn_depend_reader_fail [t0, (V.int .i64 4)]).bind fun t10 =>
 M.pure (.ret [V.nils]))
 ((G fn_depend_reader_num [t0, (V.int .i64 4)]).bind fun t13 =>
 (M.lift (Ax.bin .add t13 (V.int .i64 1))).bind fun t14 =>
 (mslit ty_int 1 [(V.int .i64 0)] [(0, 1, t14)]).bind fun t15 =>
 (mappend ty_int 1 8 (L.getD 0 .undef) t15).bind fun t16 =>
 M.pure (.nrm [t16]))) fun L0 =>
 M.pure (.nrm [(L0.getD 0 .undef)]))
 (M.pure (.ex 0 [(L.getD 0 .undef)]))

noncomputable def f_depend_reader_diffs (G : Sem') (t0 : V) : M Res :=
 M.blk 0 (
 M.iter (f_depend_reader_diffs_0 G t0) [V.nils]) fun L1 =>
 M.pure (.ret [(L1.getD 0 .undef)])

theorem eq_depend_reader_diffs (G : Sem') (t0 : V) : execK G ir_depend_reader_diffs.rv ir_depend_reader_diffs.body [] [] (params 0 [t0]) = f_depend_reader_diffs G t0 := by kernel_rfl

theorem tb_depend_reader_diffs : T fn_depend_reader_diffs = some ir_depend_reader_diffs := by kernel_rfl

theorem ok_depend_reader_diffs {t0 : V} {H : Heap} {Q : V → Heap → Prop} (h : Ok (f_depend_reader_diffs (sem T) t0) H fun r H' => ∃ L, r = .ret L ∧ Q (tupled L) H') : Ok (sem T fn_depend_reader_diffs [t0]) H Q :=
  ok_sem tb_depend_reader_diffs (Nat.le_of_ble_eq_true (by kernel_rfl)) (eq_depend_reader_diffs (sem T) t0) h

noncomputable def ir_depend_reader_ns : Fn' := irOf fn_depend_reader_ns
noncomputable def f_depend_reader_ns (G : Sem') (t0 t1 : V) : M Res :=
 (M.lift (Ax.nilck t0)).bind fun t8 =>
 (M.lift (Ax.faddr 1 t8)).bind fun t9 =>
 (mload none t9).bind fun t10 =>
 (M.lift (Ax.bin .neq t10 (V.int .i64 0))).bind fun t11 =>
 M.ite t11
 (M.pure (.ret [(V.int .i64 0)]))
 ((M.lift (Ax.nilck t0)).bind fun t14 =>
 (M.lift (Ax.faddr 0 t14)).bind fun t15 =>
 (mload none t15).bind fun t16 =>
 (M.lift (Ax.cint .u64 t1)).bind fun t18 =>
 (G fn_bits_Reader_TakeNS [t16, t18]).bind fun t19 =>
 (M.lift (Ax.ext 0 t19)).bind fun t20 =>
 (M.lift (Ax.ext 1 t19)).bind fun t21 =>
 (M.lift (Ax.nilck t0)).bind fun t24 =>
 (M.lift (Ax.faddr 1 t24)).bind fun t25 =>
 (mstore 1 t25 t21).bind fun _ =>
 (M.lift (Ax.cint .i64 t20)).bind fun t27 =>
 M.pure (.ret [t27]))

theorem eq_depend_reader_ns (G : Sem') (t0 t1 : V) : execK G ir_depend_reader_ns.rv ir_depend_reader_ns.body [] [] (params 0 [t0, t1]) = f_depend_reader_ns G t0 t1 := by kernel_rfl

theorem tb_depend_reader_ns : T fn_depend_reader_ns = some ir_depend_reader_ns := by kernel_rfl

theorem ok_depend_reader_ns {t0 t1 : V} {H : Heap} {Q : V → Heap → Prop} (h : Ok (f_depend_reader_ns (sem T) t0 t1) H fun r H' => ∃ L, r = .ret L ∧ Q (tupled L) H') : Ok (sem T fn_depend_reader_ns [t0, t1]) H Q :=
  ok_sem tb_depend_reader_ns (Nat.le_of_ble_eq_true (by kernel_rfl)) (eq_depend_reader_ns (sem T) t0 t1) h

noncomputable def ir_bits_Reader_TakeNS : Fn' := irOf fn_bits_Reader_TakeNS
noncomputable def f_bits_Reader_TakeNS (G : Sem') (t0 t1 : V) : M Res :=
 (M.lift (Ax.bin .lss t1 (V.int .u64 1))).bind fun t13 =>
 (guarded [(0, t13)] (some (0, false)) (M.pure t1)).bind fun t15 =>
 (guarded [(0, t13)] (some (0, false)) (M.lift (Ax.bin .gtr t15 (V.int .u64 4294967296)))).bind fun t16 =>
 (M.lift (Ax.pick t13 (V.bool true) t16)).bind fun t17 =>
 M.ite t17
 (M.pure (.ret [(V.int .u64 0), (V.int .i64 1)]))
 ((M.lift (Ax.nilck t0)).bind fun t19 =>
 (M.lift (Ax.faddr 1 t19)).bind fun t20 =>
 (mload none t20).bind fun t21 =>
 (G fn_bits_short [t1]).bind fun t24 =>
 (M.lift (Ax.ext 0 t24)).bind fun t25 =>
 (M.lift (Ax.ext 1 t24)).bind fun t26 =>
 (M.lift (Ax.bin .sub t25 (V.int .i64 1))).bind fun t30 =>
 (G fn_bits_Reader_Take [t0, t30]).bind fun t31 =>
 (M.lift (Ax.ext 0 t31)).bind fun t32 =>
 (M.lift (Ax.ext 1 t31)).bind fun t33 =>
 (M.lift (Ax.bin .neq t33 (V.int .i64 0))).bind fun t35 =>
 (guarded [(0, t35)] (some (0, false)) (M.pure t32)).bind fun t37 =>
 (guarded [(0, t35)] (some (0, false)) (M.pure t26)).bind fun t38 =>
 (guarded [(0, t35)] (some (0, false)) (M.lift (Ax.bin .lss t37 t38))).bind fun t39 =>
 (M.lift (Ax.pick t35 (V.bool true) t39)).bind fun t40 =>
 M.ite t40
 (M.pure (.ret [t32, t33]))
 ((G fn_bits_Reader_Take [t0, (V.int .i64 1)]).bind fun t45 =>
 (M.lift (Ax.ext 0 t45)).bind fun t46 =>
 (M.lift (Ax.ext 1 t45)).bind fun t47 =>
 (M.lift (Ax.bin .neq t47 (V.int .i64 0))).bind fun t49 =>
 M.ite t49
 ((M.lift (Ax.nilck t0)).bind fun t52 =>
 (M.lift (Ax.faddr 1 t52)).bind fun t53 =>
 (mstore 1 t53 t21).bind fun _ =>
 M.pure (.ret [(V.int .u64 0), t47]))
 ((M.lift (Ax.bin .shl t32 (V.int .u64 1))).bind fun t56 =>
 (M.lift (Ax.bin .add t56 t46)).bind fun t58 =>
 (M.lift (Ax.bin .sub t58 t26)).bind fun t60 =>
 M.pure (.ret [t60, (V.int .i64 0)]))))

theorem eq_bits_Reader_TakeNS (G : Sem') (t0 t1 : V) : execK G ir_bits_Reader_TakeNS.rv ir_bits_Reader_TakeNS.body [] [] (params 0 [t0, t1]) = f_bits_Reader_TakeNS G t0 t1 := by kernel_rfl

theorem tb_bits_Reader_TakeNS : T fn_bits_Reader_TakeNS = some ir_bits_Reader_TakeNS := by kernel_rfl

theorem ok_bits_Reader_TakeNS {t0 t1 : V} {H : Heap} {Q : V → Heap → Prop} (h : Ok (f_bits_Reader_TakeNS (sem T) t0 t1) H fun r H' => ∃ L, r = .ret L ∧ Q (tupled L) H') : Ok (sem T fn_bits_Reader_TakeNS [t0, t1]) H Q :=
  ok_sem tb_bits_Reader_TakeNS (Nat.le_of_ble_eq_true (by kernel_rfl)) (eq_bits_Reader_TakeNS (sem T) t0 t1) h

noncomputable def ir_depend_reader_own : Fn' := irOf fn_depend_reader_own
noncomputable def f_depend_reader_own_0 (G : Sem') (t0 : V) (L : List V) : M Res :=
 (M.lift (Ax.bin .gtr (L.getD 1 .undef) (V.int .i64 0))).bind fun t8 =>
 M.ite t8
 (M.blk 1 (
 (M.lift (vlen (L.getD 0 .undef))).bind fun t12 =>
 (M.lift (Ax.bin .geq t12 (V.int .i64 16))).bind fun t13 =>
 M.ite t13
 ((G fn_depend_reader_fail [t0, (V.int .i64 4)]).bind fun t15 =>
 M.pure (.ret [V.nils]))
 ((M.lift (Ax.bin .mul (V.int .i64 4) (L.getD 1 .undef))).bind fun t19 =>
 (G fn_depend_reader_num [t0, t19]).bind fun t20 =>
 (M.lift (Ax.bin .add t20 (V.int .i64 1))).bind fun t21 =>
 (mslit ty_int 1 [(V.int .i64 0)] [(0, 1, t21)]).bind fun t22 =>
 (mappend ty_int 1 8 (L.getD 0 .undef) t22).bind fun t23 =>
 M.pure (.nrm [t23]))) fun L0 =>
 (G fn_depend_reader_num [t0, (V.int .i64 2)]).bind fun t10 =>
 M.pure (.nrm [(L0.getD 0 .undef), t10]))
 (M.pure (.ex 0 [(L.getD 0 .undef)]))

noncomputable def f_depend_reader_own (G : Sem') (t0 : V) : M Res :=
 (G fn_depend_reader_num [t0, (V.int .i64 2)]).bind fun t6 =>
 M.blk 0 (
 M.iter (f_depend_reader_own_0 G t0) [V.nils, t6]) fun L1 =>
 M.pure (.ret [(L1.getD 0 .undef)])

theorem eq_depend_reader_own (G : Sem') (t0 : V) : execK G ir_depend_reader_own.rv ir_depend_reader_own.body [] [] (params 0 [t0]) = f_depend_reader_own G t0 := by kernel_rfl

theorem tb_depend_reader_own : T fn_depend_reader_own = some ir_depend_reader_own := by kernel_rfl

theorem ok_depend_reader_own {t0 : V} {H : Heap} {Q : V → Heap → Prop} (h : Ok (f_depend_reader_own (sem T) t0) H fun r H' => ∃ L, r = .ret L ∧ Q (tupled L) H') : Ok (sem T fn_depend_reader_own [t0]) H Q :=
  ok_sem tb_depend_reader_own (Nat.le_of_ble_eq_true (by kernel_rfl)) (eq_depend_reader_own (sem T) t0) h

end Go.Ax
/- FnD5 -/
set_option maxRecDepth 100000
set_option linter.unusedVariables false
namespace Go.Ax
open Go.Proofs
noncomputable def ir_palanquinref9_SameFrame : Fn' := irOf fn_palanquinref9_SameFrame
noncomputable def f_palanquinref9_SameFrame (G : Sem') (t0 t1 : V) : M Res :=
 (mbox ty_palanquinref9_Frame t0).bind fun t2 =>
 (mbox ty_palanquinref9_Frame t1).bind fun t3 =>
 (M.lift (Ax.faddr 0 t2)).bind fun t5 =>
 (mload none t5).bind fun t6 =>
 (M.lift (Ax.faddr 0 t3)).bind fun t7 =>
 (mload none t7).bind fun t8 =>
 (M.lift (eqr .bool false t6 t8)).bind fun t9 =>
 (guarded [(0, t9)] (some (0, true)) (M.lift (Ax.faddr 1 t2))).bind fun t11 =>
 (guarded [(0, t9)] (some (0, true)) (mload none t11)).bind fun t12 =>
 (guarded [(0, t9)] (some (0, true)) (M.lift (Ax.faddr 1 t3))).bind fun t13 =>
 (guarded [(0, t9)] (some (0, true)) (mload none t13)).bind fun t14 =>
 (guarded [(0, t9)] (some (0, true)) (M.lift (eqr .bool false t12 t14))).bind fun t15 =>
 (M.lift (Ax.pick t9 t15 (V.bool false))).bind fun t16 =>
 (guarded [(0, t16)] (some (0, true)) (M.lift (Ax.faddr 2 t2))).bind fun t18 =>
 (guarded [(0, t16)] (some (0, true)) (mload none t18)).bind fun t19 =>
 (guarded [(0, t16)] (some (0, true)) (M.lift (Ax.faddr 2 t3))).bind fun t20 =>
 (guarded [(0, t16)] (some (0, true)) (mload none t20)).bind fun t21 =>
 (guarded [(0, t16)] (some (0, true)) (M.lift (Ax.bin .eql t19 t21))).bind fun t22 =>
 (M.lift (Ax.pick t16 t22 (V.bool false))).bind fun t23 =>
 (guarded [(0, t23)] (some (0, true)) (M.lift (Ax.faddr 3 t2))).bind fun t25 =>
 (guarded [(0, t23)] (some (0, true)) (mload none t25)).bind fun t26 =>
 (guarded [(0, t23)] (some (0, true)) (M.lift (Ax.faddr 3 t3))).bind fun t27 =>
 (guarded [(0, t23)] (some (0, true)) (mload none t27)).bind fun t28 =>
 (guarded [(0, t23)] (some (0, true)) (M.lift (Ax.bin .eql t26 t28))).bind fun t29 =>
 (M.lift (Ax.pick t23 t29 (V.bool false))).bind fun t30 =>
 (guarded [(0, t30)] (some (0, true)) (M.lift (Ax.faddr 4 t2))).bind fun t32 =>
 (guarded [(0, t30)] (some (0, true)) (mload none t32)).bind fun t33 =>
 (guarded [(0, t30)] (some (0, true)) (M.lift (Ax.faddr 4 t3))).bind fun t34 =>
 (guarded [(0, t30)] (some (0, true)) (mload none t34)).bind fun t35 =>
 (guarded [(0, t30)] (some (0, true)) (M.lift (eqr .bool false t33 t35))).bind fun t36 =>
 (M.lift (Ax.pick t30 t36 (V.bool false))).bind fun t37 =>
 (guarded [(0, t37)] (some (0, true)) (M.lift (Ax.faddr 5 t2))).bind fun t39 =>
 (guarded [(0, t37)] (some (0, true)) (mload (some 6) t39)).bind fun t40 =>
 (guarded [(0, t37)] (some (0, true)) (M.lift (Ax.faddr 5 t3))).bind fun t41 =>
 (guarded [(0, t37)] (some (0, true)) (mload (some 6) t41)).bind fun t42 =>
 (guarded [(0, t37)] (some (0, true)) (G fn_palanquinref9_SameStructure [t40, t42])).bind fun t43 =>
 (M.lift (Ax.pick t37 t43 (V.bool false))).bind fun t44 =>
 (guarded [(0, t44)] (some (0, true)) (M.lift (Ax.faddr 11 t2))).bind fun t46 =>
 (guarded [(0, t44)] (some (0, true)) (mload none t46)).bind fun t47 =>
 (guarded [(0, t44)] (some (0, true)) (M.lift (Ax.faddr 11 t3))).bind fun t48 =>
 (guarded [(0, t44)] (some (0, true)) (mload none t48)).bind fun t49 =>
 (guarded [(0, t44)] (some (0, true)) (M.lift (eqr .bool false t47 t49))).bind fun t50 =>
 (M.lift (Ax.pick t44 t50 (V.bool false))).bind fun t51 =>
 (guarded [(0, t51)] (some (0, true)) (M.lift (Ax.faddr 12 t2))).bind fun t53 =>
 (guarded [(0, t51)] (some (0, true)) (mload none t53)).bind fun t54 =>
 (guarded [(0, t51)] (some (0, true)) (M.lift (Ax.faddr 12 t3))).bind fun t55 =>
 (guarded [(0, t51)] (some (0, true)) (mload none t55)).bind fun t56 =>
 (guarded [(0, t51)] (some (0, true)) (M.lift (Ax.bin .eql t54 t56))).bind fun t57 =>
 (M.lift (Ax.pick t51 t57 (V.bool false))).bind fun t58 =>
 (guarded [(0, t58)] (some (0, true)) (M.lift (Ax.faddr 13 t2))).bind fun t60 =>
 (guarded [(0, t58)] (some (0, true)) (mload none t60)).bind fun t61 =>
 (guarded [(0, t58)] (some (0, true)) (M.lift (Ax.faddr 13 t3))).bind fun t62 =>
 (guarded [(0, t58)] (some (0, true)) (mload none t62)).bind fun t63 =>
 (guarded [(0, t58)] (some (0, true)) (M.lift (eqr .bool false t61 t63))).bind fun t64 =>
 (M.lift (Ax.pick t58 t64 (V.bool false))).bind fun t65 =>
 (guarded [(0, t65)] (some (0, true)) (M.lift (Ax.faddr 14 t2))).bind fun t67 =>
 (guarded [(0, t65)] (some (0, true)) (mload none t67)).bind fun t68 =>
 (guarded [(0, t65)] (some (0, true)) (M.lift (Ax.faddr 14 t3))).bind fun t69 =>
 (guarded [(0, t65)] (some (0, true)) (mload none t69)).bind fun t70 =>
 (guarded [(0, t65)] (some (0, true)) (M.lift (eqr .bool false t68 t70))).bind fun t71 =>
 (M.lift (Ax.pick t65 t71 (V.bool false))).bind fun t72 =>
 (guarded [(0, t72)] (some (0, true)) (M.lift (Ax.faddr 15 t2))).bind fun t74 =>
 (guarded [(0, t72)] (some (0, true)) (mload none t74)).bind fun t75 =>
 (guarded [(0, t72)] (some (0, true)) (M.lift (Ax.faddr 15 t3))).bind fun t76 =>
 (guarded [(0, t72)] (some (0, true)) (mload none t76)).bind fun t77 =>
 (guarded [(0, t72)] (some (0, true)) (M.lift (eqr .bool false t75 t77))).bind fun t78 =>
 (M.lift (Ax.pick t72 t78 (V.bool false))).bind fun t79 =>
 (guarded [(0, t79)] (some (0, true)) (M.lift (Ax.faddr 16 t2))).bind fun t81 =>
 (guarded [(0, t79)] (some (0, true)) (mload none t81)).bind fun t82 =>
 (guarded [(0, t79)] (some (0, true)) (M.lift (Ax.faddr 16 t3))).bind fun t83 =>
 (guarded [(0, t79)] (some (0, true)) (mload none t83)).bind fun t84 =>
 (guarded [(0, t79)] (some (0, true)) (G fn_palanquinref9_SameInts [t82, t84])).bind fun t85 =>
 (M.lift (Ax.pick t79 t85 (V.bool false))).bind fun t86 =>
 (guarded [(0, t86)] (some (0, true)) (M.lift (Ax.faddr 17 t2))).bind fun t88 =>
 (guarded [(0, t86)] (some (0, true)) (mload none t88)).bind fun t89 =>
 (guarded [(0, t86)] (some (0, true)) (M.lift (Ax.faddr 17 t3))).bind fun t90 =>
 (guarded [(0, t86)] (some (0, true)) (mload none t90)).bind fun t91 =>
 (guarded [(0, t86)] (some (0, true)) (G fn_palanquinref9_SameInts [t89, t91])).bind fun t92 =>
 (M.lift (Ax.pick t86 t92 (V.bool false))).bind fun t93 =>
 (guarded [(0, t93)] (some (0, true)) (M.lift (Ax.faddr 18 t2))).bind fun t95 =>
 (guarded [(0, t93)] (some (0, true)) (mload none t95)).bind fun t96 =>
 (guarded [(0, t93)] (some (0, true)) (M.lift (Ax.faddr 18 t3))).bind fun t97 =>
 (guarded [(0, t93)] (some (0, true)) (mload none t97)).bind fun t98 =>
 (guarded [(0, t93)] (some (0, true)) (G fn_palanquinref9_SameInts [t96, t98])).bind fun t99 =>
 (M.lift (Ax.pick t93 t99 (V.bool false))).bind fun t100 =>
 M.pure (.ret [t100])

theorem eq_palanquinref9_SameFrame (G : Sem') (t0 t1 : V) : execK G ir_palanquinref9_SameFrame.rv ir_palanquinref9_SameFrame.body [] [] (params 0 [t0, t1]) = f_palanquinref9_SameFrame G t0 t1 := by kernel_rfl

theorem tb_palanquinref9_SameFrame : T fn_palanquinref9_SameFrame = some ir_palanquinref9_SameFrame := by kernel_rfl

theorem ok_palanquinref9_SameFrame {t0 t1 : V} {H : Heap} {Q : V → Heap → Prop} (h : Ok (f_palanquinref9_SameFrame (sem T) t0 t1) H fun r H' => ∃ L, r = .ret L ∧ Q (tupled L) H') : Ok (sem T fn_palanquinref9_SameFrame [t0, t1]) H Q :=
  ok_sem tb_palanquinref9_SameFrame (Nat.le_of_ble_eq_true (by kernel_rfl)) (eq_palanquinref9_SameFrame (sem T) t0 t1) h

noncomputable def ir_palanquinref9_SameStructure : Fn' := irOf fn_palanquinref9_SameStructure
noncomputable def f_palanquinref9_SameStructure_0 (G : Sem') (t2 t3 : V) (L : List V) : M Res :=
 (M.lift (Ax.faddr 2 t2)).bind fun t55 =>
 (mload none t55).bind fun t56 =>
 (M.lift (vlen t56)).bind fun t57 =>
 (M.lift (Ax.bin .lss (L.getD 0 .undef) t57)).bind fun t58 =>
 M.ite t58
 (M.blk 1 (
 (M.lift (Ax.faddr 2 t2)).bind fun t61 =>
 (mload none t61).bind fun t62 =>
 (M.lift (Ax.iaddr none 5 t62 (L.getD 0 .undef))).bind fun t64 =>
 (mload (some 5) t64).bind fun t65 =>
 (M.lift (Ax.faddr 2 t3)).bind fun t66 =>
 (mload none t66).bind fun t67 =>
 (M.lift (Ax.iaddr none 5 t67 (L.getD 0 .undef))).bind fun t69 =>
 (mload (some 5) t69).bind fun t70 =>
 (mbox ty_palanquinref9_Template (V.agg [(V.int .i64 0), (V.int .i64 0), V.nils, V.nils, V.nils])).bind fun t6 =>
 (mbox ty_palanquinref9_Template (V.agg [(V.int .i64 0), (V.int .i64 0), V.nils, V.nils, V.nils])).bind fun t7 =>
 M.getH.bind fun h0 =>
 (mstore 5 t6 t65).bind fun _ =>
 M.getH.bind fun h0' =>
 (M.unch t69 h0 h0').bind fun _ =>
 (M.unch t66 h0 h0').bind fun _ =>
 (mstore 5 t7 t70).bind fun _ =>
 (M.lift (Ax.faddr 0 t6)).bind fun t71 =>
 (mload none t71).bind fun t72 =>
 (M.lift (Ax.faddr 0 t7)).bind fun t73 =>
 (mload none t73).bind fun t74 =>
 (M.lift (Ax.bin .neq t72 t74)).bind fun t75 =>
 (guarded [(0, t75)] (some (0, false)) (M.lift (Ax.faddr 1 t6))).bind fun t77 =>
 (guarded [(0, t75)] (some (0, false)) (mload none t77)).bind fun t78 =>
 (guarded [(0, t75)] (some (0, false)) (M.lift (Ax.faddr 1 t7))).bind fun t79 =>
 (guarded [(0, t75)] (some (0, false)) (mload none t79)).bind fun t80 =>
 (guarded [(0, t75)] (some (0, false)) (M.lift (Ax.bin .neq t78 t80))).bind fun t81 =>
 (M.lift (Ax.pick t75 (V.bool true) t81)).bind fun t82 =>
 (guarded [(0, t82)] (some (0, false)) (M.lift (Ax.faddr 2 t6))).bind fun t84 =>
 (guarded [(0, t82)] (some (0, false)) (mload none t84)).bind fun t85 =>
 (guarded [(0, t82)] (some (0, false)) (M.lift (Ax.faddr 2 t7))).bind fun t86 =>
 (guarded [(0, t82)] (some (0, false)) (mload none t86)).bind fun t87 =>
 (guarded [(0, t82)] (some (0, false)) (G fn_palanquinref9_SameInts [t85, t87])).bind fun t88 =>
 (guarded [(0, t82)] (some (0, false)) (M.lift (Ax.un .not t88))).bind fun t89 =>
 (M.lift (Ax.pick t82 (V.bool true) t89)).bind fun t90 =>
 (guarded [(0, t90)] (some (0, false)) (M.lift (Ax.faddr 3 t6))).bind fun t92 =>
 (guarded [(0, t90)] (some (0, false)) (mload none t92)).bind fun t93 =>
 (guarded [(0, t90)] (some (0, false)) (M.lift (Ax.faddr 3 t7))).bind fun t94 =>
 (guarded [(0, t90)] (some (0, false)) (mload none t94)).bind fun t95 =>
 (guarded [(0, t90)] (some (0, false)) (G fn_palanquinref9_SameInts [t93, t95])).bind fun t96 =>
 (guarded [(0, t90)] (some (0, false)) (M.lift (Ax.un .not t96))).bind fun t97 =>
 (M.lift (Ax.pick t90 (V.bool true) t97)).bind fun t98 =>
 (guarded [(0, t98)] (some (0, false)) (M.lift (Ax.faddr 4 t6))).bind fun t100 =>
 (guarded [(0, t98)] (some (0, false)) (mload none t100)).bind fun t101 =>
 (guarded [(0, t98)] (some (0, false)) (M.lift (Ax.faddr 4 t7))).bind fun t102 =>
 (guarded [(0, t98)] (some (0, false)) (mload none t102)).bind fun t103 =>
 (guarded [(0, t98)] (some (0, false)) (G fn_palanquinref9_SameInts [t101, t103])).bind fun t104 =>
 (guarded [(0, t98)] (some (0, false)) (M.lift (Ax.un .not t104))).bind fun t105 =>
 (M.lift (Ax.pick t98 (V.bool true) t105)).bind fun t106 =>
 M.ite t106
 (M.pure (.ret [(V.bool false)]))
 (M.pure (.nrm []))) fun _ =>
 (M.lift (Ax.bin .add (L.getD 0 .undef) (V.int .i64 1))).bind fun t60 =>
 M.pure (.nrm [t60]))
 (M.pure (.ex 0 []))

noncomputable def f_palanquinref9_SameStructure_1 (G : Sem') (t2 t3 : V) (L : List V) : M Res :=
 (M.lift (Ax.faddr 5 t2)).bind fun t108 =>
 (mload none t108).bind fun t109 =>
 (M.lift (vlen t109)).bind fun t110 =>
 (M.lift (Ax.bin .lss (L.getD 0 .undef) t110)).bind fun t111 =>
 M.ite t111
 (M.blk 3 (
 (M.lift (Ax.faddr 5 t2)).bind fun t114 =>
 (mload none t114).bind fun t115 =>
 (M.lift (Ax.iaddr none 2 t115 (L.getD 0 .undef))).bind fun t117 =>
 (mload (some 2) t117).bind fun t118 =>
 (M.lift (Ax.faddr 5 t3)).bind fun t119 =>
 (mload none t119).bind fun t120 =>
 (M.lift (Ax.iaddr none 2 t120 (L.getD 0 .undef))).bind fun t122 =>
 (mload (some 2) t122).bind fun t123 =>
 (M.lift (eqr (.arr 2) true t118 t123)).bind fun t124 =>
 M.ite t124
 (M.pure (.ret [(V.bool false)]))
 (M.pure (.nrm []))) fun _ =>
 (M.lift (Ax.bin .add (L.getD 0 .undef) (V.int .i64 1))).bind fun t113 =>
 M.pure (.nrm [t113]))
 (M.pure (.ex 2 []))

noncomputable def f_palanquinref9_SameStructure (G : Sem') (t0 t1 : V) : M Res :=
 (mbox ty_palanquinref9_Structure t0).bind fun t2 =>
 (mbox ty_palanquinref9_Structure t1).bind fun t3 =>
 (M.lift (Ax.faddr 0 t2)).bind fun t9 =>
 (mload none t9).bind fun t10 =>
 (M.lift (Ax.faddr 0 t3)).bind fun t11 =>
 (mload none t11).bind fun t12 =>
 (M.lift (Ax.bin .neq t10 t12)).bind fun t13 =>
 (guarded [(0, t13)] (some (0, false)) (M.lift (Ax.faddr 1 t2))).bind fun t15 =>
 (guarded [(0, t13)] (some (0, false)) (mload none t15)).bind fun t16 =>
 (guarded [(0, t13)] (some (0, false)) (M.lift (Ax.faddr 1 t3))).bind fun t17 =>
 (guarded [(0, t13)] (some (0, false)) (mload none t17)).bind fun t18 =>
 (guarded [(0, t13)] (some (0, false)) (M.lift (Ax.bin .neq t16 t18))).bind fun t19 =>
 (M.lift (Ax.pick t13 (V.bool true) t19)).bind fun t20 =>
 (guarded [(0, t20)] (some (0, false)) (M.lift (Ax.faddr 2 t2))).bind fun t22 =>
 (guarded [(0, t20)] (some (0, false)) (mload none t22)).bind fun t23 =>
 (guarded [(0, t20)] (some (0, false)) (M.lift (vlen t23))).bind fun t24 =>
 (guarded [(0, t20)] (some (0, false)) (M.lift (Ax.faddr 2 t3))).bind fun t25 =>
 (guarded [(0, t20)] (some (0, false)) (mload none t25)).bind fun t26 =>
 (guarded [(0, t20)] (some (0, false)) (M.lift (vlen t26))).bind fun t27 =>
 (guarded [(0, t20)] (some (0, false)) (M.lift (Ax.bin .neq t24 t27))).bind fun t28 =>
 (M.lift (Ax.pick t20 (V.bool true) t28)).bind fun t29 =>
 (guarded [(0, t29)] (some (0, false)) (M.lift (Ax.faddr 3 t2))).bind fun t31 =>
 (guarded [(0, t29)] (some (0, false)) (mload none t31)).bind fun t32 =>
 (guarded [(0, t29)] (some (0, false)) (M.lift (Ax.faddr 3 t3))).bind fun t33 =>
 (guarded [(0, t29)] (some (0, false)) (mload none t33)).bind fun t34 =>
 (guarded [(0, t29)] (some (0, false)) (M.lift (Ax.bin .neq t32 t34))).bind fun t35 =>
 (M.lift (Ax.pick t29 (V.bool true) t35)).bind fun t36 =>
 (guarded [(0, t36)] (some (0, false)) (M.lift (Ax.faddr 4 t2))).bind fun t38 =>
 (guarded [(0, t36)] (some (0, false)) (mload none t38)).bind fun t39 =>
 (guarded [(0, t36)] (some (0, false)) (M.lift (Ax.faddr 4 t3))).bind fun t40 =>
 (guarded [(0, t36)] (some (0, false)) (mload none t40)).bind fun t41 =>
 (guarded [(0, t36)] (some (0, false)) (G fn_palanquinref9_SameInts [t39, t41])).bind fun t42 =>
 (guarded [(0, t36)] (some (0, false)) (M.lift (Ax.un .not t42))).bind fun t43 =>
 (M.lift (Ax.pick t36 (V.bool true) t43)).bind fun t44 =>
 (guarded [(0, t44)] (some (0, false)) (M.lift (Ax.faddr 5 t2))).bind fun t46 =>
 (guarded [(0, t44)] (some (0, false)) (mload none t46)).bind fun t47 =>
 (guarded [(0, t44)] (some (0, false)) (M.lift (vlen t47))).bind fun t48 =>
 (guarded [(0, t44)] (some (0, false)) (M.lift (Ax.faddr 5 t3))).bind fun t49 =>
 (guarded [(0, t44)] (some (0, false)) (mload none t49)).bind fun t50 =>
 (guarded [(0, t44)] (some (0, false)) (M.lift (vlen t50))).bind fun t51 =>
 (guarded [(0, t44)] (some (0, false)) (M.lift (Ax.bin .neq t48 t51))).bind fun t52 =>
 (M.lift (Ax.pick t44 (V.bool true) t52)).bind fun t53 =>
 M.ite t53
 (M.pure (.ret [(V.bool false)]))
 (M.blk 0 (
 M.iter (f_palanquinref9_SameStructure_0 G t2 t3) [(V.int .i64 0)]) fun _ =>
 M.blk 2 (
 M.iter (f_palanquinref9_SameStructure_1 G t2 t3) [(V.int .i64 0)]) fun _ =>
 M.pure (.ret [(V.bool true)]))

theorem eq_palanquinref9_SameStructure (G : Sem') (t0 t1 : V) : execK G ir_palanquinref9_SameStructure.rv ir_palanquinref9_SameStructure.body [] [] (params 0 [t0, t1]) = f_palanquinref9_SameStructure G t0 t1 := by kernel_rfl

theorem tb_palanquinref9_SameStructure : T fn_palanquinref9_SameStructure = some ir_palanquinref9_SameStructure := by kernel_rfl

theorem ok_palanquinref9_SameStructure {t0 t1 : V} {H : Heap} {Q : V → Heap → Prop} (h : Ok (f_palanquinref9_SameStructure (sem T) t0 t1) H fun r H' => ∃ L, r = .ret L ∧ Q (tupled L) H') : Ok (sem T fn_palanquinref9_SameStructure [t0, t1]) H Q :=
  ok_sem tb_palanquinref9_SameStructure (Nat.le_of_ble_eq_true (by kernel_rfl)) (eq_palanquinref9_SameStructure (sem T) t0 t1) h

noncomputable def ir_palanquinlaw9_DependBack : Fn' := irOf fn_palanquinlaw9_DependBack
noncomputable def f_palanquinlaw9_DependBack (G : Sem') (t0 t1 t2 : V) : M Res :=
 (mbox ty_depend_Frame t0).bind fun t3 =>
 (mbox ty_depend_Structure t1).bind fun t4 =>
 (G fn_palanquinlaw9_awake []).bind fun t17 =>
 (M.lift (Ax.un .not t17)).bind fun t18 =>
 M.ite t18
 (M.pure (.ret [(V.bool false)]))
 ((mload (some 19) t3).bind fun t19 =>
 (G fn_palanquinlaw9_long [t19]).bind fun t20 =>
 (guarded [(0, t20)] (some (0, false)) (mload (some 6) t4)).bind fun t22 =>
 (guarded [(0, t20)] (some (0, false)) (G fn_palanquinlaw9_heavy [t22])).bind fun t23 =>
 (M.lift (Ax.pick t20 (V.bool true) t23)).bind fun t24 =>
 (guarded [(0, t24)] (some (0, false)) (M.pure t2)).bind fun t26 =>
 (guarded [(0, t24)] (some (0, false)) (M.lift (vlen t26))).bind fun t27 =>
 (guarded [(0, t24)] (some (0, false)) (M.lift (Ax.bin .gtr t27 (V.int .i64 2000)))).bind fun t28 =>
 (M.lift (Ax.pick t24 (V.bool true) t28)).bind fun t29 =>
 M.ite t29
 (M.pure (.ret [(V.bool true)]))
 ((mload (some 19) t3).bind fun t31 =>
 (mload (some 6) t4).bind fun t32 =>
 (G fn_depend_Bytes [t31, t32]).bind fun t33 =>
 (M.lift (Ax.ext 0 t33)).bind fun t34 =>
 (M.lift (Ax.ext 1 t33)).bind fun t35 =>
 (M.lift (Ax.bin .eql t35 (V.int .i64 0))).bind fun t37 =>
 M.join (M.ite t37
 ((mload (some 6) t4).bind fun t40 =>
 (G fn_depend_Parse [t34, t40]).bind fun t41 =>
 (M.lift (Ax.ext 0 t41)).bind fun t42 =>
 (M.lift (Ax.ext 1 t41)).bind fun t43 =>
 (mbox ty_depend_Frame (V.agg [(V.bool false), (V.bool false), (V.int .i64 0), (V.int .u16 0), (V.bool false), (V.int .i64 0), (V.int .i64 0), V.nils, (V.int .i64 0), V.nils, V.nils, (V.bool false), (V.int .u32 0), (V.bool false), (V.bool false), (V.bool false), V.nils, V.nils, V.nils])).bind fun t9 =>
 (mstore 19 t9 t42).bind fun _ =>
 (M.lift (Ax.bin .neq t43 (V.int .i64 0))).bind fun t45 =>
 (guarded [(0, t45)] (some (0, false)) (mload (some 19) t3)).bind fun t47 =>
 (guarded [(0, t45)] (some (0, false)) (mload (some 19) t9)).bind fun t49 =>
 M.getH.bind fun h0 =>
 (guarded [(0, t45)] (some (0, false)) (G fn_palanquinhelp_Frame [t47])).bind fun t48 =>
 M.getH.bind fun h0' =>
 (M.unch t9 h0 h0').bind fun _ =>
 (guarded [(0, t45)] (some (0, false)) (G fn_palanquinhelp_Frame [t49])).bind fun t50 =>
 (guarded [(0, t45)] (some (0, false)) (G fn_palanquinref9_SameFrame [t48, t50])).bind fun t51 =>
 (guarded [(0, t45)] (some (0, false)) (M.lift (Ax.un .not t51))).bind fun t52 =>
 (M.lift (Ax.pick t45 (V.bool true) t52)).bind fun t53 =>
 M.ite t53
 (M.pure (.ret [(V.bool false)]))
 (M.pure (.nrm [])))
 (M.pure (.nrm []))) fun _ =>
 (mload (some 6) t4).bind fun t56 =>
 (G fn_depend_Parse [t2, t56]).bind fun t57 =>
 (M.lift (Ax.ext 0 t57)).bind fun t58 =>
 (M.lift (Ax.ext 1 t57)).bind fun t59 =>
 (mbox ty_depend_Frame (V.agg [(V.bool false), (V.bool false), (V.int .i64 0), (V.int .u16 0), (V.bool false), (V.int .i64 0), (V.int .i64 0), V.nils, (V.int .i64 0), V.nils, V.nils, (V.bool false), (V.int .u32 0), (V.bool false), (V.bool false), (V.bool false), V.nils, V.nils, V.nils])).bind fun t11 =>
 (mstore 19 t11 t58).bind fun _ =>
 (M.lift (Ax.bin .neq t59 (V.int .i64 0))).bind fun t61 =>
 M.ite t61
 (M.pure (.ret [(V.bool true)]))
 ((mload (some 19) t11).bind fun t63 =>
 (mload (some 6) t4).bind fun t64 =>
 (G fn_depend_Bytes [t63, t64]).bind fun t65 =>
 (M.lift (Ax.ext 0 t65)).bind fun t66 =>
 (M.lift (Ax.ext 1 t65)).bind fun t67 =>
 (mload (some 6) t4).bind fun t70 =>
 (G fn_depend_Parse [t66, t70]).bind fun t71 =>
 (M.lift (Ax.ext 0 t71)).bind fun t72 =>
 (M.lift (Ax.ext 1 t71)).bind fun t73 =>
 (mbox ty_depend_Frame (V.agg [(V.bool false), (V.bool false), (V.int .i64 0), (V.int .u16 0), (V.bool false), (V.int .i64 0), (V.int .i64 0), V.nils, (V.int .i64 0), V.nils, V.nils, (V.bool false), (V.int .u32 0), (V.bool false), (V.bool false), (V.bool false), V.nils, V.nils, V.nils])).bind fun t15 =>
 (mstore 19 t15 t72).bind fun _ =>
 (mload (some 19) t11).bind fun t74 =>
 (mload (some 6) t4).bind fun t75 =>
 (G fn_depend_Good [t74, t75]).bind fun t76 =>
 (guarded [(0, t76)] (some (0, true)) (M.pure t67)).bind fun t78 =>
 (guarded [(0, t76)] (some (0, true)) (M.lift (Ax.bin .eql t78 (V.int .i64 0)))).bind fun t79 =>
 (M.lift (Ax.pick t76 t79 (V.bool false))).bind fun t80 =>
 (guarded [(0, t80)] (some (0, true)) (M.pure t73)).bind fun t82 =>
 (guarded [(0, t80)] (some (0, true)) (M.lift (Ax.bin .eql t82 (V.int .i64 0)))).bind fun t83 =>
 (M.lift (Ax.pick t80 t83 (V.bool false))).bind fun t84 =>
 (guarded [(0, t84)] (some (0, true)) (mload (some 19) t11)).bind fun t86 =>
 M.getH.bind fun h1 =>
 (guarded [(0, t84)] (some (0, true)) (G fn_palanquinhelp_Frame [t86])).bind fun t87 =>
 M.getH.bind fun h1' =>
 (guarded [(0, t84)] (some (0, true)) (mload (some 19) t15)).bind fun t88 =>
 (M.unch t15 h1 h1').bind fun _ =>
 (guarded [(0, t84)] (some (0, true)) (G fn_palanquinhelp_Frame [t88])).bind fun t89 =>
 (guarded [(0, t84)] (some (0, true)) (G fn_palanquinref9_SameFrame [t87, t89])).bind fun t90 =>
 (M.lift (Ax.pick t84 t90 (V.bool false))).bind fun t91 =>
 M.pure (.ret [t91]))))

theorem eq_palanquinlaw9_DependBack (G : Sem') (t0 t1 t2 : V) : execK G ir_palanquinlaw9_DependBack.rv ir_palanquinlaw9_DependBack.body [] [] (params 0 [t0, t1, t2]) = f_palanquinlaw9_DependBack G t0 t1 t2 := by kernel_rfl

theorem tb_palanquinlaw9_DependBack : T fn_palanquinlaw9_DependBack = some ir_palanquinlaw9_DependBack := by kernel_rfl

theorem ok_palanquinlaw9_DependBack {t0 t1 t2 : V} {H : Heap} {Q : V → Heap → Prop} (h : Ok (f_palanquinlaw9_DependBack (sem T) t0 t1 t2) H fun r H' => ∃ L, r = .ret L ∧ Q (tupled L) H') : Ok (sem T fn_palanquinlaw9_DependBack [t0, t1, t2]) H Q :=
  ok_sem tb_palanquinlaw9_DependBack (Nat.le_of_ble_eq_true (by kernel_rfl)) (eq_palanquinlaw9_DependBack (sem T) t0 t1 t2) h

end Go.Ax
/- Dep3 -/
set_option maxRecDepth 100000
set_option linter.unusedVariables false
set_option linter.unusedSimpArgs false
namespace Go.Ax.D9
open Go.Ax
/-- A place or none. -/
def idxV : Option Nat → V
  | some i => .int .i64 (i : Nat)
  | none => .int .i64 (-1)

theorem IndexFunc_ok {lo : Nat} {H : Heap} {v f : V} {l : List Int} (h : Il lo H v l) (P : Int → Bool) (hn : l.length ≤ 1099511627776)
    (hf : ∀ H', Grow H H' → ∀ (x : Int), Ok (callv (sem T) f [.int .i64 x]) H' fun r H'' => r = .bool (P x) ∧ Grow H' H'') :
    Ok (sem T fn_slices_IndexFunc_int_int [v, f]) H fun r H' => r = idxV (l.findIdx? P) ∧ Grow H H' := by
  refine ok_slices_IndexFunc_int_int ?_
  unfold f_slices_IndexFunc_int_int
  simp (maxSteps := 1000000) (disch := first | omega | (simp only [RY] <;> omega) | decide) only [↓RD, RZ, eq_self, Int.reduceToNat, Int.reduceAdd, Int.reduceSub, Int.reduceMul, Nat.reduceAdd, Nat.reduceSub, Nat.reduceMul, Nat.reduceDiv, Nat.reduceMod, Nat.reduceBEq, Nat.reduceLeDiff, h.vlen]
  refine ok_loop (fun k L H' => L = [.int .i64 (k : Nat)] ∧ Grow H H' ∧ ∀ j (hj : j < l.length), j < k → P l[j] = false) l.length ?_ ?_ ?_
  · exact ⟨rfl, Grow.refl _, fun j hj hk => absurd hk (by omega)⟩
  · rintro k L H1 hk ⟨rfl, s1, hP⟩
    obtain ⟨q, i1, l1, -⟩ := il_at (h.ext s1) (i := (k : Nat)) (by omega) (by omega)
    rw [Int.toNat_natCast, getD_get hk] at l1
    unfold f_slices_IndexFunc_int_int_0
    simp (maxSteps := 1000000) (disch := first | omega | (simp only [RY] <;> omega) | decide) only [↓RD, RZ, eq_self, Int.reduceToNat, Int.reduceAdd, Int.reduceSub, Int.reduceMul, Nat.reduceAdd, Nat.reduceSub, Nat.reduceMul, Nat.reduceDiv, Nat.reduceMod, Nat.reduceBEq, Nat.reduceLeDiff, i1, l1]
    refine ok_bind' (hf H1 s1 _) ?_
    rintro _ H2 ⟨rfl, s2⟩
    cases hp : P l[k] with
    | true =>
      simp (maxSteps := 1000000) (disch := first | omega | (simp only [RY] <;> omega) | decide) only [↓RD, RZ, eq_self, Int.reduceToNat, Int.reduceAdd, Int.reduceSub, Int.reduceMul, Nat.reduceAdd, Nat.reduceSub, Nat.reduceMul, Nat.reduceDiv, Nat.reduceMod, Nat.reduceBEq, Nat.reduceLeDiff]
      refine ⟨?_, s1.trans s2⟩
      have : l.findIdx? P = some k := List.findIdx?_eq_some_iff_getElem.2 ⟨hk, hp, fun j hj => by rw [hP j (by omega) hj]; decide⟩
      rw [this]; rfl
    | false =>
      simp (maxSteps := 1000000) (disch := first | omega | (simp only [RY] <;> omega) | decide) only [↓RD, RZ, eq_self, Int.reduceToNat, Int.reduceAdd, Int.reduceSub, Int.reduceMul, Nat.reduceAdd, Nat.reduceSub, Nat.reduceMul, Nat.reduceDiv, Nat.reduceMod, Nat.reduceBEq, Nat.reduceLeDiff]
      refine ⟨by rfl, s1.trans s2, fun j hj hjk => ?_⟩
      rcases Nat.lt_or_ge j k with h | h
      · exact hP j hj h
      · have : j = k := by omega
        subst this; exact hp
  · rintro L H1 ⟨rfl, s1, hP⟩
    unfold f_slices_IndexFunc_int_int_0
    simp (maxSteps := 1000000) (disch := first | omega | (simp only [RY] <;> omega) | decide) only [↓RD, RZ, eq_self, Int.reduceToNat, Int.reduceAdd, Int.reduceSub, Int.reduceMul, Nat.reduceAdd, Nat.reduceSub, Nat.reduceMul, Nat.reduceDiv, Nat.reduceMod, Nat.reduceBEq, Nat.reduceLeDiff]
    refine ⟨?_, s1⟩
    have : l.findIdx? P = none := List.findIdx?_eq_none_iff.2 fun x hx => by
      obtain ⟨j, hj, rfl⟩ := List.getElem_of_mem hx
      exact hP j hj hj
    rw [this]; rfl

theorem within1_ok {H : Heap} (x a b : Int) (p q : Nat) (hp : H.get p = some ⟨ty_int, [.int .i64 a], none⟩) (hq : H.get q = some ⟨ty_int, [.int .i64 b], none⟩) :
    Ok (sem T fn_depend_within_1 [.int .i64 x, .ptr p 0, .ptr q 0]) H fun r H' => r = .bool (!decide (a ≤ x ∧ x ≤ b)) ∧ H' = H := by
  refine ok_depend_within_1 ?_
  unfold f_depend_within_1
  by_cases h1 : x < a
  · simp (maxSteps := 1000000) (disch := first | omega | (simp only [RY] <;> omega) | decide) only [↓RD, RZ, eq_self, Int.reduceToNat, Int.reduceAdd, Int.reduceSub, Int.reduceMul, Nat.reduceAdd, Nat.reduceSub, Nat.reduceMul, Nat.reduceDiv, Nat.reduceMod, Nat.reduceBEq, Nat.reduceLeDiff, hp, hq]
    rw [decide_eq_false (by omega)]; rfl
  · by_cases h2 : b < x
    · simp (maxSteps := 1000000) (disch := first | omega | (simp only [RY] <;> omega) | decide) only [↓RD, RZ, eq_self, Int.reduceToNat, Int.reduceAdd, Int.reduceSub, Int.reduceMul, Nat.reduceAdd, Nat.reduceSub, Nat.reduceMul, Nat.reduceDiv, Nat.reduceMod, Nat.reduceBEq, Nat.reduceLeDiff, hp, hq]
      rw [decide_eq_false (by omega)]; rfl
    · simp (maxSteps := 1000000) (disch := first | omega | (simp only [RY] <;> omega) | decide) only [↓RD, RZ, eq_self, Int.reduceToNat, Int.reduceAdd, Int.reduceSub, Int.reduceMul, Nat.reduceAdd, Nat.reduceSub, Nat.reduceMul, Nat.reduceDiv, Nat.reduceMod, Nat.reduceBEq, Nat.reduceLeDiff, hp, hq]
      rw [decide_eq_true (by omega)]; rfl

theorem all_idx {α : Type} (P : α → Bool) (xs : List α) : (xs.findIdx? (fun x => !P x)).isNone = xs.all P := by
  cases h : xs.findIdx? (fun x => !P x) with
  | none =>
    have := List.findIdx?_eq_none_iff.1 h
    exact (List.all_eq_true.2 fun x hx => by simpa using this x hx).symm
  | some i =>
    obtain ⟨h1, h2, _⟩ := List.findIdx?_eq_some_iff_getElem.1 h
    refine (Bool.eq_false_iff.2 fun e => ?_).symm
    have := List.all_eq_true.1 e _ (List.getElem_mem h1)
    rw [this] at h2; cases h2

theorem Contains_ok {lo : Nat} {H : Heap} {v f : V} {l : List Int} (h : Il lo H v l) (P : Int → Bool) (hn : l.length ≤ 1099511627776)
    (hf : ∀ H', Grow H H' → ∀ (x : Int), Ok (callv (sem T) f [.int .i64 x]) H' fun r H'' => r = .bool (!P x) ∧ Grow H' H'') :
    Ok (sem T fn_slices_ContainsFunc_int_int [v, f]) H fun r H' => r = .bool (!l.all P) ∧ Grow H H' := by
  refine ok_slices_ContainsFunc_int_int ?_
  unfold f_slices_ContainsFunc_int_int
  refine ok_bind' (IndexFunc_ok h (fun x => !P x) hn hf) ?_
  rintro _ H1 ⟨rfl, s1⟩
  rw [← all_idx]
  cases l.findIdx? (fun x => !P x) with
  | none => unfold idxV; simp (maxSteps := 1000000) (disch := first | omega | (simp only [RY] <;> omega) | decide) only [↓RD, RZ, eq_self, Int.reduceToNat, Int.reduceAdd, Int.reduceSub, Int.reduceMul, Nat.reduceAdd, Nat.reduceSub, Nat.reduceMul, Nat.reduceDiv, Nat.reduceMod, Nat.reduceBEq, Nat.reduceLeDiff]; exact ⟨rfl, s1⟩
  | some i => unfold idxV; simp (maxSteps := 1000000) (disch := first | omega | (simp only [RY] <;> omega) | decide) only [↓RD, RZ, eq_self, Int.reduceToNat, Int.reduceAdd, Int.reduceSub, Int.reduceMul, Nat.reduceAdd, Nat.reduceSub, Nat.reduceMul, Nat.reduceDiv, Nat.reduceMod, Nat.reduceBEq, Nat.reduceLeDiff]; exact ⟨rfl, s1⟩

theorem within_ok {lo : Nat} {H : Heap} {v : V} {l : List Int} (h : Il lo H v l) (n a b : Int) (hl : l.length ≤ 1099511627776) :
    Ok (sem T fn_depend_within [v, .int .i64 n, .int .i64 a, .int .i64 b]) H fun r H' => r = .bool (wi l n a b) ∧ Grow H H' := by
  refine ok_depend_within ?_
  unfold f_depend_within
  simp (maxSteps := 1000000) (disch := first | omega | (simp only [RY] <;> omega) | decide) only [↓RD, RZ, eq_self, Int.reduceToNat, Int.reduceAdd, Int.reduceSub, Int.reduceMul, Nat.reduceAdd, Nat.reduceSub, Nat.reduceMul, Nat.reduceDiv, Nat.reduceMod, Nat.reduceBEq, Nat.reduceLeDiff, h.vlen]
  generalize hH2 : Heap.new (Heap.new H _) _ = H2
  have s2 : Grow H H2 := by rw [← hH2]; exact (Grow.new _ _).trans (Grow.new _ _)
  have n2 : H2.next = H.next + 2 := by rw [← hH2]; rfl
  have g1 : H2.get H.next = some ⟨ty_int, [.int .i64 a], none⟩ := by rw [← hH2, get_new_ne _ _ (by rw [next_new]; omega), get_new_self]
  have g2 : H2.get (H.next + 1) = some ⟨ty_int, [.int .i64 b], none⟩ := by rw [← hH2]; exact get_new_self _ _
  clear hH2
  unfold wi
  by_cases hn : (l.length : Int) = n
  · rw [decide_eq_true hn, Bool.true_and]
    simp (maxSteps := 1000000) (disch := first | omega | (simp only [RY] <;> omega) | decide) only [↓RD, RZ, eq_self, Int.reduceToNat, Int.reduceAdd, Int.reduceSub, Int.reduceMul, Nat.reduceAdd, Nat.reduceSub, Nat.reduceMul, Nat.reduceDiv, Nat.reduceMod, Nat.reduceBEq, Nat.reduceLeDiff, hn]
    refine ok_bind' (Contains_ok (h.ext s2) (fun x => decide (a ≤ x ∧ x ≤ b)) hl fun H3 s3 x => ?_) ?_
    · refine ok_mono (within1_ok x a b _ _ ((s3.same _ (by omega)).trans g1) ((s3.same _ (by omega)).trans g2)) ?_
      rintro _ _ ⟨rfl, rfl⟩
      exact ⟨rfl, Grow.refl _⟩
    · rintro _ H3 ⟨rfl, s3⟩
      simp (maxSteps := 1000000) (disch := first | omega | (simp only [RY] <;> omega) | decide) only [↓RD, RZ, eq_self, Int.reduceToNat, Int.reduceAdd, Int.reduceSub, Int.reduceMul, Nat.reduceAdd, Nat.reduceSub, Nat.reduceMul, Nat.reduceDiv, Nat.reduceMod, Nat.reduceBEq, Nat.reduceLeDiff]
      exact ⟨by unfold inr; simp, s2.trans s3⟩
  · rw [decide_eq_false hn]
    simp (maxSteps := 1000000) (disch := first | omega | (simp only [RY] <;> omega) | decide) only [↓RD, RZ, eq_self, Int.reduceToNat, Int.reduceAdd, Int.reduceSub, Int.reduceMul, Nat.reduceAdd, Nat.reduceSub, Nat.reduceMul, Nat.reduceDiv, Nat.reduceMod, Nat.reduceBEq, Nat.reduceLeDiff]
    exact ⟨rfl, s2⟩

theorem diffs_ok {lo : Nat} {H : Heap} {v : V} {l : List Int} (h : Il lo H v l) (many : Nat) (most : Int) (hl : l.length ≤ 1099511627776) :
    Ok (sem T fn_depend_diffs [v, .int .i64 many, .int .i64 most]) H fun r H' => r = .bool (di l many most) ∧ Grow H H' := by
  refine ok_depend_diffs ?_
  unfold f_depend_diffs
  unfold di
  by_cases hm : l.length ≤ many
  · rw [decide_eq_true hm, Bool.true_and]
    simp (maxSteps := 1000000) (disch := first | omega | (simp only [RY] <;> omega) | decide) only [↓RD, RZ, eq_self, Int.reduceToNat, Int.reduceAdd, Int.reduceSub, Int.reduceMul, Nat.reduceAdd, Nat.reduceSub, Nat.reduceMul, Nat.reduceDiv, Nat.reduceMod, Nat.reduceBEq, Nat.reduceLeDiff, h.vlen]
    refine ok_bind' (within_ok h _ _ _ hl) ?_
    rintro _ H1 ⟨rfl, s1⟩
    simp (maxSteps := 1000000) (disch := first | omega | (simp only [RY] <;> omega) | decide) only [↓RD, RZ, eq_self, Int.reduceToNat, Int.reduceAdd, Int.reduceSub, Int.reduceMul, Nat.reduceAdd, Nat.reduceSub, Nat.reduceMul, Nat.reduceDiv, Nat.reduceMod, Nat.reduceBEq, Nat.reduceLeDiff]
    exact ⟨by simp [wi], s1⟩
  · rw [decide_eq_false hm]
    simp (maxSteps := 1000000) (disch := first | omega | (simp only [RY] <;> omega) | decide) only [↓RD, RZ, eq_self, Int.reduceToNat, Int.reduceAdd, Int.reduceSub, Int.reduceMul, Nat.reduceAdd, Nat.reduceSub, Nat.reduceMul, Nat.reduceDiv, Nat.reduceMod, Nat.reduceBEq, Nat.reduceLeDiff, h.vlen]
    exact ⟨rfl, Grow.refl _⟩

/-- What next tells. -/
def nxV : Option Nat → V
  | some k => .tup [.int .i64 (k : Nat), .bool true]
  | none => .tup [.int .i64 0, .bool false]

theorem next_ok {H : Heap} (s t : Tm) (a b c d e g : V) (hs : 0 ≤ s.sp ∧ s.sp ≤ 3) (ht : 0 ≤ s.te ∧ s.te ≤ 7) (ha : a.cells = [a] ∧ a.okc = true) (hb : b.cells = [b] ∧ b.okc = true) (hc : c.cells = [c] ∧ c.okc = true) (hd : d.cells = [d] ∧ d.okc = true) (he : e.cells = [e] ∧ e.okc = true) (hg : g.cells = [g] ∧ g.okc = true) :
    Ok (sem T fn_depend_next [.agg [.int .i64 s.sp, .int .i64 s.te, a, b, c], .agg [.int .i64 t.sp, .int .i64 t.te, d, e, g]]) H fun r H' => r = nxV (nx s t) ∧ Grow H H' := by
  refine ok_depend_next ?_
  unfold f_depend_next
  have g2 : ∀ (x y : Blk), Grow H ((H.new x).new y) := fun x y => (Grow.new _ _).trans (Grow.new _ _)
  simp (maxSteps := 1000000) (disch := first | omega | (simp only [RY] <;> omega) | decide) only [↓RD, RZ, eq_self, Int.reduceToNat, Int.reduceAdd, Int.reduceSub, Int.reduceMul, Nat.reduceAdd, Nat.reduceSub, Nat.reduceMul, Nat.reduceDiv, Nat.reduceMod, Nat.reduceBEq, Nat.reduceLeDiff, ha.1, ha.2, hb.1, hb.2, hc.1, hc.2, hd.1, hd.2, he.1, he.2, hg.1, hg.2]
  unfold nx
  by_cases h1 : t.sp = s.sp
  · by_cases h2 : t.te = s.te
    · rw [if_pos ⟨h1, h2⟩]
      simp (maxSteps := 1000000) (disch := first | omega | (simp only [RY] <;> omega) | decide) only [↓RD, RZ, eq_self, Int.reduceToNat, Int.reduceAdd, Int.reduceSub, Int.reduceMul, Nat.reduceAdd, Nat.reduceSub, Nat.reduceMul, Nat.reduceDiv, Nat.reduceMod, Nat.reduceBEq, Nat.reduceLeDiff, h1, h2]
      exact ⟨rfl, g2 _ _⟩
    · rw [if_neg (fun h => h2 h.2)]
      by_cases h3 : t.te = s.te + 1
      · rw [if_pos ⟨h1, h3⟩]
        simp (maxSteps := 1000000) (disch := first | omega | (simp only [RY] <;> omega) | decide) only [↓RD, RZ, eq_self, Int.reduceToNat, Int.reduceAdd, Int.reduceSub, Int.reduceMul, Nat.reduceAdd, Nat.reduceSub, Nat.reduceMul, Nat.reduceDiv, Nat.reduceMod, Nat.reduceBEq, Nat.reduceLeDiff, h1, h3]
        exact ⟨rfl, g2 _ _⟩
      · rw [if_neg (fun h => h3 h.2), if_neg (by omega)]
        simp (maxSteps := 1000000) (disch := first | omega | (simp only [RY] <;> omega) | decide) only [↓RD, RZ, eq_self, Int.reduceToNat, Int.reduceAdd, Int.reduceSub, Int.reduceMul, Nat.reduceAdd, Nat.reduceSub, Nat.reduceMul, Nat.reduceDiv, Nat.reduceMod, Nat.reduceBEq, Nat.reduceLeDiff, h1]
        exact ⟨rfl, g2 _ _⟩
  · rw [if_neg (fun h => h1 h.1), if_neg (fun h => h1 h.1)]
    by_cases h2 : t.sp = s.sp + 1
    · by_cases h3 : t.te = 0
      · rw [if_pos ⟨h2, h3⟩]
        simp (maxSteps := 1000000) (disch := first | omega | (simp only [RY] <;> omega) | decide) only [↓RD, RZ, eq_self, Int.reduceToNat, Int.reduceAdd, Int.reduceSub, Int.reduceMul, Nat.reduceAdd, Nat.reduceSub, Nat.reduceMul, Nat.reduceDiv, Nat.reduceMod, Nat.reduceBEq, Nat.reduceLeDiff, h2, h3]
        exact ⟨rfl, g2 _ _⟩
      · rw [if_neg (fun h => h3 h.2)]
        simp (maxSteps := 1000000) (disch := first | omega | (simp only [RY] <;> omega) | decide) only [↓RD, RZ, eq_self, Int.reduceToNat, Int.reduceAdd, Int.reduceSub, Int.reduceMul, Nat.reduceAdd, Nat.reduceSub, Nat.reduceMul, Nat.reduceDiv, Nat.reduceMod, Nat.reduceBEq, Nat.reduceLeDiff, h2]
        exact ⟨rfl, g2 _ _⟩
    · rw [if_neg (fun h => h2 h.1)]
      simp (maxSteps := 1000000) (disch := first | omega | (simp only [RY] <;> omega) | decide) only [↓RD, RZ, eq_self, Int.reduceToNat, Int.reduceAdd, Int.reduceSub, Int.reduceMul, Nat.reduceAdd, Nat.reduceSub, Nat.reduceMul, Nat.reduceDiv, Nat.reduceMod, Nat.reduceBEq, Nat.reduceLeDiff]
      exact ⟨rfl, g2 _ _⟩

end Go.Ax.D9
/- Dep4 -/
set_option maxRecDepth 100000
set_option linter.unusedVariables false
set_option linter.unusedSimpArgs false
namespace Go.Ax.D9
open Go.Ax
theorem pl5 {H : Heap} {p a b c d e : V} {own : Option Nat} (h : Pl H p [a, b, c, d, e] own) : LdR none H (fa p 0) a ∧ LdR none H (fa p 1) b ∧ LdR none H (fa p 2) c ∧ LdR none H (fa p 3) d ∧ LdR none H (fa p 4) e ∧ LdR (some 5) H p (.agg [a, b, c, d, e]) :=
  ⟨fun f Q => by rw [h.ld (by simp)]; exact b_lift, fun f Q => by rw [h.ld (by simp)]; exact b_lift, fun f Q => by rw [h.ld (by simp)]; exact b_lift, fun f Q => by rw [h.ld (by simp)]; exact b_lift, fun f Q => by rw [h.ld (by simp)]; exact b_lift, h.all⟩
theorem pl2 {H : Heap} {p a b : V} {own : Option Nat} (h : Pl H p [a, b] own) : LdR none H (fa p 0) a ∧ LdR none H (fa p 1) b ∧ LdR (some 2) H p (.agg [a, b]) :=
  ⟨fun f Q => by rw [h.ld (by simp)]; exact b_lift, fun f Q => by rw [h.ld (by simp)]; exact b_lift, h.all⟩
theorem mm1 (a b : Int) : Ax.minmax true (.int .i64 a) [.int .i64 b] = some (.int .i64 (max a b)) := by
  simp only [Ax.minmax, Ax.min2, Option.bind_some, if_true]
  congr 2
  split <;> omega

theorem cel_nils : Cel .nils := ⟨rfl, rfl⟩

noncomputable def dec (p : Prop) : Bool := @decide p (Classical.propDecidable _)
theorem dec_yes {p : Prop} (h : p) : dec p = true := by unfold dec; exact @decide_eq_true _ (Classical.propDecidable _) h
theorem dec_no {p : Prop} (h : ¬ p) : dec p = false := by unfold dec; exact @decide_eq_false _ (Classical.propDecidable _) h
theorem dec_iff {p : Prop} : dec p = true ↔ p := by unfold dec; exact @decide_eq_true_iff _ (Classical.propDecidable _)

def Lay (ts : List Tm) : Prop := (1 ≤ ts.length ∧ ts.length ≤ 64) ∧ ∀ i, i < ts.length → LayAt ts i

def prev (ts : List Tm) (k : Nat) : Tm := if k = 0 then Tm0 else ts.getD (k - 1) Tm0

theorem prev_rng {ts : List Tm} {k : Nat} (h : ∀ j, j < k → LayAt ts j) : (0 ≤ (prev ts k).sp ∧ (prev ts k).sp ≤ 3) ∧ 0 ≤ (prev ts k).te ∧ (prev ts k).te ≤ 7 := by
  unfold prev
  split
  · simp [Tm0]
  · have := layAt_rng (h (k - 1) (by omega))
    omega

theorem prev_succ {ts : List Tm} {k : Nat} (h : k < ts.length) : prev ts (k + 1) = ts[k] := by
  unfold prev
  rw [if_neg (by omega), Nat.add_sub_cancel, getD_get h]

theorem layAt_iff {ts : List Tm} {k : Nat} (hk : k < ts.length) (h : ∀ j, j < k → LayAt ts j) : LayAt ts k ↔ ∃ m, nx (prev ts k) ts[k] = some m ∧ (k = 0 → m = 0) ∧ ts[k].sp ≤ 3 ∧ ts[k].te ≤ 7 := by
  have hp := prev_rng h
  unfold LayAt
  dsimp only
  rw [getD_get hk]
  by_cases k0 : k = 0
  · rw [if_pos k0]
    have : prev ts k = Tm0 := by unfold prev; rw [if_pos k0]
    rw [this]
    unfold nx Tm0
    dsimp only
    constructor
    · rintro ⟨h1, h2⟩
      rw [if_pos ⟨h1, h2⟩]
      exact ⟨0, rfl, fun _ => rfl, by omega, by omega⟩
    · rintro ⟨m, h1, h2, h3, h4⟩
      have := h2 k0
      subst this
      split at h1
      · assumption
      · split at h1
        · cases h1
        · split at h1 <;> cases h1
  · rw [if_neg k0]
    have e : prev ts k = ts.getD (k - 1) Tm0 := by unfold prev; rw [if_neg k0]
    rw [← e]
    constructor
    · rintro ⟨h1, h2, h3, h4, h5⟩
      obtain ⟨m, hm⟩ := Option.isSome_iff_exists.1 h1
      exact ⟨m, hm, fun h => absurd h k0, by omega, by omega⟩
    · rintro ⟨m, h1, h2, h3, h4⟩
      refine ⟨by rw [h1]; rfl, ?_⟩
      unfold nx at h1
      split at h1
      · omega
      · split at h1
        · omega
        · split at h1
          · omega
          · cases h1

theorem layers_ok {lo : Nat} {H : Heap} {s : Sr} {a b c : V} (h : SrC lo H s a b c) (hn : s.ts.length ≤ 1099511627776) :
    Ok (sem T fn_depend_layers [.agg (scells s a b c)]) H fun r H' => r = .bool (dec (Lay s.ts)) ∧ Grow H H' := by
  refine ok_depend_layers ?_
  unfold f_depend_layers
  unfold scells
  simp (maxSteps := 1000000) (disch := first | omega | (simp only [RY] <;> omega) | decide) only [↓RD, RZ, eq_self, Int.reduceToNat, Int.reduceAdd, Int.reduceSub, Int.reduceMul, Nat.reduceAdd, Nat.reduceSub, Nat.reduceMul, Nat.reduceDiv, Nat.reduceMod, Nat.reduceBEq, Nat.reduceLeDiff, h.ts.cells1, h.ts.okc, h.pro.cells1, h.pro.okc, h.siz.cells1, h.siz.okc, h.ts.vlen]
  generalize hH1 : Heap.set _ _ _ = H1
  have n1 : H1.next = H.next + 2 := by rw [← hH1]; rfl
  have s1 : Grow H H1 := by rw [← hH1]; exact ((Grow.new H _).trans (Grow.new _ _)).set (by omega) _
  have g1 : H1.get H.next = some ⟨ty_depend_Structure, scells s a b c, none⟩ := by rw [← hH1, get_set_ne _ _ (by omega), get_new_ne _ _ (by rw [next_new]; omega), get_new_self]; rfl
  have b1 : H1.get (H.next + 1) = some ⟨ty_depend_Template, [.int .i64 0, .int .i64 0, .nils, .nils, .nils], none⟩ := by rw [← hH1]; exact get_set_self _ _ _
  clear hH1
  unfold scells at g1
  refine ok_loop (fun k L H' => L = [.int .i64 (k : Nat)] ∧ Grow H H' ∧ H1.next ≤ H'.next ∧ H'.get H.next = some ⟨ty_depend_Structure, [.int .i64 s.off, .int .i64 s.tar, a, .int .i64 s.cha, b, c], none⟩ ∧ (∀ j, j < k → LayAt s.ts j) ∧ ∃ x y z, (Cel x ∧ Cel y ∧ Cel z) ∧ H'.get (H.next + 1) = some ⟨ty_depend_Template, [.int .i64 (prev s.ts k).sp, .int .i64 (prev s.ts k).te, x, y, z], none⟩) s.ts.length ?_ ?_ ?_
  · exact ⟨rfl, s1, Nat.le_refl _, g1, fun j hj => absurd hj (by omega), .nils, .nils, .nils, ⟨cel_nils, cel_nils, cel_nils⟩, b1⟩
  · rintro k L H2 hk ⟨rfl, s2, n2, g2, hP, x, y, z, ⟨cx, cy, cz⟩, b2⟩
    obtain ⟨q, d, e, f, i1, l1, w1⟩ := (h.ts.ext s2).at hk
    obtain ⟨-, -, -, -, -, l2⟩ := pl5 l1
    have hd := w1.dti.cel
    have he := w1.dif.cel
    have hf := w1.cha.cel
    obtain ⟨pr1, pr2⟩ := prev_rng hP
    unfold f_depend_layers_0
    simp (maxSteps := 1000000) (disch := first | omega | (simp only [RY] <;> omega) | decide) only [↓RD, RZ, eq_self, Int.reduceToNat, Int.reduceAdd, Int.reduceSub, Int.reduceMul, Nat.reduceAdd, Nat.reduceSub, Nat.reduceMul, Nat.reduceDiv, Nat.reduceMod, Nat.reduceBEq, Nat.reduceLeDiff, i1, l2, hd.1, hd.2, he.1, he.2, hf.1, hf.2, b2]
    generalize hH3 : Heap.set _ _ _ = H3
    have s3 : Grow H2 H3 := by rw [← hH3]; exact (Grow.new _ _).set (by omega) _
    have n3 : H3.next = H2.next + 1 := by rw [← hH3]; rfl
    have c3 : H3.get H2.next = some ⟨ty_depend_Template, [.int .i64 s.ts[k].sp, .int .i64 s.ts[k].te, d, e, f], none⟩ := by rw [← hH3]; exact get_set_self _ _ _
    clear hH3
    refine ok_bind' (next_ok (prev s.ts k) s.ts[k] x y z d e f pr1 pr2 cx cy cz hd he hf) ?_
    rintro _ H4 ⟨rfl, s4⟩
    have n4 := s4.next
    have c4 : H4.get H2.next = _ := (s4.same _ (by omega)).trans c3
    have g4 : H4.get H.next = _ := ((s3.trans s4).same _ (by omega)).trans g2
    have s24 := s3.trans s4
    have bad : ¬ LayAt s.ts k → dec (Lay s.ts) = false := fun hb => dec_no fun hl => hb (hl.2 k hk)
    rw [layAt_iff hk hP] at bad
    have good : (∃ m, nx (prev s.ts k) s.ts[k] = some m ∧ (k = 0 → m = 0) ∧ s.ts[k].sp ≤ 3 ∧ s.ts[k].te ≤ 7) → ∀ j, j < k + 1 → LayAt s.ts j := fun hm j hj => by
      rcases Nat.lt_or_ge j k with h | h
      · exact hP j h
      · have : j = k := by omega
        subst this
        exact (layAt_iff hk hP).2 hm
    cases hx : nx (prev s.ts k) s.ts[k] with
    | none =>
      unfold nxV
      simp (maxSteps := 1000000) (disch := first | omega | (simp only [RY] <;> omega) | decide) only [↓RD, RZ, eq_self, Int.reduceToNat, Int.reduceAdd, Int.reduceSub, Int.reduceMul, Nat.reduceAdd, Nat.reduceSub, Nat.reduceMul, Nat.reduceDiv, Nat.reduceMod, Nat.reduceBEq, Nat.reduceLeDiff]
      exact ⟨by rw [bad (by rw [hx]; rintro ⟨m, h, _⟩; cases h)], s2.trans s24⟩
    | some m =>
      rw [hx] at bad good
      unfold nxV
      by_cases q1 : k = 0 ∧ m ≠ 0
      · obtain ⟨rfl, hm⟩ := q1
        simp (maxSteps := 1000000) (disch := first | omega | (simp only [RY] <;> omega) | decide) only [↓RD, RZ, eq_self, Int.reduceToNat, Int.reduceAdd, Int.reduceSub, Int.reduceMul, Nat.reduceAdd, Nat.reduceSub, Nat.reduceMul, Nat.reduceDiv, Nat.reduceMod, Nat.reduceBEq, Nat.reduceLeDiff, hm]
        exact ⟨by rw [bad (by rintro ⟨m', h, h2, _⟩; cases h; exact hm (h2 rfl))], s2.trans s24⟩
      · have q2 : k ≠ 0 ∨ (k = 0 ∧ m = 0) := by omega
        have b4 : H4.get (H.next + 1) = _ := (s24.same _ (by omega)).trans b2
        have fin : ∀ Q, Grow H (H4.set (H.next + 1) Q) := fun Q => (s2.trans s24).set (by omega) _
        rcases q2 with q2 | ⟨rfl, rfl⟩
        · by_cases t1 : 3 < s.ts[k].sp
          · simp (maxSteps := 1000000) (disch := first | omega | (simp only [RY] <;> omega) | decide) only [↓RD, RZ, eq_self, Int.reduceToNat, Int.reduceAdd, Int.reduceSub, Int.reduceMul, Nat.reduceAdd, Nat.reduceSub, Nat.reduceMul, Nat.reduceDiv, Nat.reduceMod, Nat.reduceBEq, Nat.reduceLeDiff, c4]
            exact ⟨by rw [bad (by rintro ⟨m', h, h2, h3, _⟩; omega)], s2.trans s24⟩
          by_cases t2 : 7 < s.ts[k].te
          · simp (maxSteps := 1000000) (disch := first | omega | (simp only [RY] <;> omega) | decide) only [↓RD, RZ, eq_self, Int.reduceToNat, Int.reduceAdd, Int.reduceSub, Int.reduceMul, Nat.reduceAdd, Nat.reduceSub, Nat.reduceMul, Nat.reduceDiv, Nat.reduceMod, Nat.reduceBEq, Nat.reduceLeDiff, c4]
            exact ⟨by rw [bad (by rintro ⟨m', h, h2, h3, _⟩; omega)], s2.trans s24⟩
          simp (maxSteps := 1000000) (disch := first | omega | (simp only [RY] <;> omega) | decide) only [↓RD, RZ, eq_self, Int.reduceToNat, Int.reduceAdd, Int.reduceSub, Int.reduceMul, Nat.reduceAdd, Nat.reduceSub, Nat.reduceMul, Nat.reduceDiv, Nat.reduceMod, Nat.reduceBEq, Nat.reduceLeDiff, c4, hd.1, hd.2, he.1, he.2, hf.1, hf.2, b4]
          refine ⟨by rfl, fin _, by omega, g4, good ⟨m, rfl, fun h => by omega, by omega, by omega⟩, d, e, f, ⟨hd, he, hf⟩, ?_⟩
          rw [prev_succ hk]
        · by_cases t1 : 3 < s.ts[0].sp
          · simp (maxSteps := 1000000) (disch := first | omega | (simp only [RY] <;> omega) | decide) only [↓RD, RZ, eq_self, Int.reduceToNat, Int.reduceAdd, Int.reduceSub, Int.reduceMul, Nat.reduceAdd, Nat.reduceSub, Nat.reduceMul, Nat.reduceDiv, Nat.reduceMod, Nat.reduceBEq, Nat.reduceLeDiff, c4]
            exact ⟨by rw [bad (by rintro ⟨m', h, h2, h3, _⟩; omega)], s2.trans s24⟩
          by_cases t2 : 7 < s.ts[0].te
          · simp (maxSteps := 1000000) (disch := first | omega | (simp only [RY] <;> omega) | decide) only [↓RD, RZ, eq_self, Int.reduceToNat, Int.reduceAdd, Int.reduceSub, Int.reduceMul, Nat.reduceAdd, Nat.reduceSub, Nat.reduceMul, Nat.reduceDiv, Nat.reduceMod, Nat.reduceBEq, Nat.reduceLeDiff, c4]
            exact ⟨by rw [bad (by rintro ⟨m', h, h2, h3, _⟩; omega)], s2.trans s24⟩
          simp (maxSteps := 1000000) (disch := first | omega | (simp only [RY] <;> omega) | decide) only [↓RD, RZ, eq_self, Int.reduceToNat, Int.reduceAdd, Int.reduceSub, Int.reduceMul, Nat.reduceAdd, Nat.reduceSub, Nat.reduceMul, Nat.reduceDiv, Nat.reduceMod, Nat.reduceBEq, Nat.reduceLeDiff, c4, hd.1, hd.2, he.1, he.2, hf.1, hf.2, b4]
          refine ⟨by rfl, fin _, by omega, g4, good ⟨0, rfl, fun h => by omega, by omega, by omega⟩, d, e, f, ⟨hd, he, hf⟩, ?_⟩
          rw [prev_succ hk]
  · rintro L H2 ⟨rfl, s2, n2, g2, hP, -⟩
    unfold f_depend_layers_0
    by_cases e1 : 1 ≤ s.ts.length
    · by_cases e2 : s.ts.length ≤ 64
      · simp (maxSteps := 1000000) (disch := first | omega | (simp only [RY] <;> omega) | decide) only [↓RD, RZ, eq_self, Int.reduceToNat, Int.reduceAdd, Int.reduceSub, Int.reduceMul, Nat.reduceAdd, Nat.reduceSub, Nat.reduceMul, Nat.reduceDiv, Nat.reduceMod, Nat.reduceBEq, Nat.reduceLeDiff, g2, h.ts.vlen]
        exact ⟨by rw [dec_yes ⟨⟨e1, e2⟩, hP⟩], s2⟩
      · simp (maxSteps := 1000000) (disch := first | omega | (simp only [RY] <;> omega) | decide) only [↓RD, RZ, eq_self, Int.reduceToNat, Int.reduceAdd, Int.reduceSub, Int.reduceMul, Nat.reduceAdd, Nat.reduceSub, Nat.reduceMul, Nat.reduceDiv, Nat.reduceMod, Nat.reduceBEq, Nat.reduceLeDiff, g2, h.ts.vlen]
        exact ⟨by rw [dec_no fun hl => e2 hl.1.2], s2⟩
    · simp (maxSteps := 1000000) (disch := first | omega | (simp only [RY] <;> omega) | decide) only [↓RD, RZ, eq_self, Int.reduceToNat, Int.reduceAdd, Int.reduceSub, Int.reduceMul, Nat.reduceAdd, Nat.reduceSub, Nat.reduceMul, Nat.reduceDiv, Nat.reduceMod, Nat.reduceBEq, Nat.reduceLeDiff, g2, h.ts.vlen]
      exact ⟨by rw [dec_no fun hl => e1 hl.1.1], s2⟩

end Go.Ax.D9
/- Dep5 -/
set_option maxRecDepth 100000
set_option linter.unusedVariables false
set_option linter.unusedSimpArgs false
namespace Go.Ax.D9
open Go.Ax
theorem spatial_ok {lo : Nat} {H : Heap} {s : Sr} {a b c : V} (h : SrC lo H s a b c) (hn : s.ts.length ≤ 1099511627776) (hr : ∀ t ∈ s.ts, 0 ≤ t.sp ∧ t.sp ≤ 4) :
    Ok (sem T fn_depend_spatial [.agg (scells s a b c)]) H fun r H' => r = .int .i64 (if s.ts.length = 0 then 0 else top s.ts + 1) ∧ Grow H H' := by
  refine ok_depend_spatial ?_
  unfold f_depend_spatial
  unfold scells
  simp (maxSteps := 1000000) (disch := first | omega | (simp only [RY] <;> omega) | decide) only [↓RD, RZ, eq_self, Int.reduceToNat, Int.reduceAdd, Int.reduceSub, Int.reduceMul, Nat.reduceAdd, Nat.reduceSub, Nat.reduceMul, Nat.reduceDiv, Nat.reduceMod, Nat.reduceBEq, Nat.reduceLeDiff, h.ts.cells1, h.ts.okc, h.pro.cells1, h.pro.okc, h.siz.cells1, h.siz.okc, h.ts.vlen]
  generalize hH1 : Heap.new H _ = H1
  have s1 : Grow H H1 := by rw [← hH1]; exact Grow.new _ _
  clear hH1
  have tb : ∀ k, 0 ≤ top (s.ts.take k) ∧ top (s.ts.take k) ≤ 4 := by
    intro k
    induction k with
    | zero => simp [top]
    | succ k ih =>
      by_cases hk : k < s.ts.length
      · rw [top_take hk]
        have := hr _ (List.getElem_mem hk)
        omega
      · rw [List.take_of_length_le (by omega)]
        rw [List.take_of_length_le (by omega)] at ih
        exact ih
  refine ok_loop (fun k L H' => ∃ m : Int, L = [.int .i64 m, .int .i64 (k : Nat)] ∧ m = (if k = 0 then 0 else top (s.ts.take k) + 1) ∧ Grow H H') s.ts.length ?_ ?_ ?_
  · exact ⟨0, rfl, rfl, s1⟩
  · rintro k L H2 hk ⟨m, rfl, hm, s2⟩
    obtain ⟨q, d, e, f, i1, l1, w1⟩ := (h.ts.ext s2).at hk
    obtain ⟨-, -, -, -, -, l2⟩ := pl5 l1
    have hd := w1.dti.cel
    have he := w1.dif.cel
    have hf := w1.cha.cel
    have hb := hr _ (List.getElem_mem hk)
    unfold f_depend_spatial_0
    simp (maxSteps := 1000000) (disch := first | omega | (simp only [RY] <;> omega) | decide) only [↓RD, RZ, eq_self, Int.reduceToNat, Int.reduceAdd, Int.reduceSub, Int.reduceMul, Nat.reduceAdd, Nat.reduceSub, Nat.reduceMul, Nat.reduceDiv, Nat.reduceMod, Nat.reduceBEq, Nat.reduceLeDiff, i1, l2, hd.1, hd.2, he.1, he.2, hf.1, hf.2, mm1]
    refine ⟨_, by rfl, ?_, s2.trans ((Grow.new _ _).set (by omega) _)⟩
    rw [if_neg (by omega), top_take hk]
    have := tb k
    by_cases h0 : k = 0
    · rw [if_pos h0] at hm
      subst h0
      have : top (s.ts.take 0) = 0 := rfl
      omega
    · rw [if_neg h0] at hm
      omega
  · rintro L H2 ⟨m, rfl, hm, s2⟩
    unfold f_depend_spatial_0
    rw [List.take_length] at hm
    rw [← hm]
    simp (maxSteps := 1000000) (disch := first | omega | (simp only [RY] <;> omega) | decide) only [↓RD, RZ, eq_self, Int.reduceToNat, Int.reduceAdd, Int.reduceSub, Int.reduceMul, Nat.reduceAdd, Nat.reduceSub, Nat.reduceMul, Nat.reduceDiv, Nat.reduceMod, Nat.reduceBEq, Nat.reduceLeDiff]
    exact s2

theorem fineT_ok {lo : Nat} {H : Heap} {s : Sr} {t : Tm} {a b c d e f : V} (ha : Cel a) (hb : Cel b) (hc : Cel c) (h : TmR lo H t d e f) (ho : TmO t) :
    Ok (sem T fn_depend_Structure_fine [.agg (scells s a b c), .agg [.int .i64 t.sp, .int .i64 t.te, d, e, f]]) H fun r H' => r = .bool (fineT s.tar s.cha t) ∧ Grow H H' := by
  refine ok_depend_Structure_fine ?_
  unfold f_depend_Structure_fine
  have n1 := ho.dti.2
  have n2 := ho.dif.2
  have n3 := ho.cha.2
  unfold scells
  simp (maxSteps := 1000000) (disch := first | omega | (simp only [RY] <;> omega) | decide) only [↓RD, RZ, eq_self, Int.reduceToNat, Int.reduceAdd, Int.reduceSub, Int.reduceMul, Nat.reduceAdd, Nat.reduceSub, Nat.reduceMul, Nat.reduceDiv, Nat.reduceMod, Nat.reduceBEq, Nat.reduceLeDiff, ha.1, ha.2, hb.1, hb.2, hc.1, hc.2, h.dti.cells1, h.dti.okc, h.dif.cells1, h.dif.okc, h.cha.cells1, h.cha.okc]
  generalize hH2 : Heap.new (Heap.new H _) _ = H2
  have s2 : Grow H H2 := by rw [← hH2]; exact (Grow.new _ _).trans (Grow.new _ _)
  have m2 : H2.next = H.next + 2 := by rw [← hH2]; rfl
  have g1 : H2.get H.next = some ⟨ty_depend_Structure, [.int .i64 s.off, .int .i64 s.tar, a, .int .i64 s.cha, b, c], none⟩ := by rw [← hH2, get_new_ne _ _ (by rw [next_new]; omega), get_new_self]
  have g2 : H2.get (H.next + 1) = some ⟨ty_depend_Template, [.int .i64 t.sp, .int .i64 t.te, d, e, f], none⟩ := by rw [← hH2]; exact get_new_self _ _
  clear hH2
  refine ok_bind' (within_ok (h.dti.ext s2) s.tar 0 3 (by omega)) ?_
  rintro _ H3 ⟨rfl, s3⟩
  have a1 : H3.get H.next = _ := (s3.same _ (by omega)).trans g1
  have a2 : H3.get (H.next + 1) = _ := (s3.same _ (by omega)).trans g2
  have s23 := s2.trans s3
  unfold fineT
  cases w1 : wi t.dti s.tar 0 3 with
  | false =>
    simp (maxSteps := 1000000) (disch := first | omega | (simp only [RY] <;> omega) | decide) only [↓RD, RZ, eq_self, Int.reduceToNat, Int.reduceAdd, Int.reduceSub, Int.reduceMul, Nat.reduceAdd, Nat.reduceSub, Nat.reduceMul, Nat.reduceDiv, Nat.reduceMod, Nat.reduceBEq, Nat.reduceLeDiff]
    exact ⟨rfl, s23⟩
  | true =>
    simp (maxSteps := 1000000) (disch := first | omega | (simp only [RY] <;> omega) | decide) only [↓RD, RZ, eq_self, Int.reduceToNat, Int.reduceAdd, Int.reduceSub, Int.reduceMul, Nat.reduceAdd, Nat.reduceSub, Nat.reduceMul, Nat.reduceDiv, Nat.reduceMod, Nat.reduceBEq, Nat.reduceLeDiff, a2]
    refine ok_bind' (diffs_ok (h.dif.ext s23) 8 16 (by omega)) ?_
    rintro _ H4 ⟨rfl, s4⟩
    have n3 := s3.next
    have a3 : H4.get H.next = _ := (s4.same _ (by omega)).trans a1
    have a4 : H4.get (H.next + 1) = _ := (s4.same _ (by omega)).trans a2
    cases w2 : di t.dif 8 16 with
    | false =>
      simp (maxSteps := 1000000) (disch := first | omega | (simp only [RY] <;> omega) | decide) only [↓RD, RZ, eq_self, Int.reduceToNat, Int.reduceAdd, Int.reduceSub, Int.reduceMul, Nat.reduceAdd, Nat.reduceSub, Nat.reduceMul, Nat.reduceDiv, Nat.reduceMod, Nat.reduceBEq, Nat.reduceLeDiff]
      exact ⟨rfl, s23.trans s4⟩
    | true =>
      simp (maxSteps := 1000000) (disch := first | omega | (simp only [RY] <;> omega) | decide) only [↓RD, RZ, eq_self, Int.reduceToNat, Int.reduceAdd, Int.reduceSub, Int.reduceMul, Nat.reduceAdd, Nat.reduceSub, Nat.reduceMul, Nat.reduceDiv, Nat.reduceMod, Nat.reduceBEq, Nat.reduceLeDiff, a3, a4]
      refine ok_bind' (within_ok (h.cha.ext (s23.trans s4)) s.cha 0 15 (by omega)) ?_
      rintro _ H5 ⟨rfl, s5⟩
      simp (maxSteps := 1000000) (disch := first | omega | (simp only [RY] <;> omega) | decide) only [↓RD, RZ, eq_self, Int.reduceToNat, Int.reduceAdd, Int.reduceSub, Int.reduceMul, Nat.reduceAdd, Nat.reduceSub, Nat.reduceMul, Nat.reduceDiv, Nat.reduceMod, Nat.reduceBEq, Nat.reduceLeDiff]
      exact ⟨by simp, (s23.trans s4).trans s5⟩

theorem IndexFuncT_ok {lo : Nat} {H : Heap} {v f : V} {ts : List Tm} (h : Tms lo H v ts) (P : Tm → Bool) (hn : ts.length ≤ 1099511627776)
    (hf : ∀ H', Grow H H' → ∀ (t : Tm), t ∈ ts → ∀ (a b c : V), TmR lo H' t a b c → Ok (callv (sem T) f [.agg [.int .i64 t.sp, .int .i64 t.te, a, b, c]]) H' fun r H'' => r = .bool (P t) ∧ Grow H' H'') :
    Ok (sem T fn_slices_IndexFunc_depend_Template_depend_Template [v, f]) H fun r H' => r = idxV (ts.findIdx? P) ∧ Grow H H' := by
  refine ok_slices_IndexFunc_depend_Template_depend_Template ?_
  unfold f_slices_IndexFunc_depend_Template_depend_Template
  simp (maxSteps := 1000000) (disch := first | omega | (simp only [RY] <;> omega) | decide) only [↓RD, RZ, eq_self, Int.reduceToNat, Int.reduceAdd, Int.reduceSub, Int.reduceMul, Nat.reduceAdd, Nat.reduceSub, Nat.reduceMul, Nat.reduceDiv, Nat.reduceMod, Nat.reduceBEq, Nat.reduceLeDiff, h.vlen]
  refine ok_loop (fun k L H' => L = [.int .i64 (k : Nat)] ∧ Grow H H' ∧ ∀ j (hj : j < ts.length), j < k → P ts[j] = false) ts.length ?_ ?_ ?_
  · exact ⟨rfl, Grow.refl _, fun j hj hk => absurd hk (by omega)⟩
  · rintro k L H1 hk ⟨rfl, s1, hP⟩
    obtain ⟨q, a, b, c, i1, l1, w1⟩ := (h.ext s1).at hk
    obtain ⟨-, -, -, -, -, l2⟩ := pl5 l1
    unfold f_slices_IndexFunc_depend_Template_depend_Template_0
    simp (maxSteps := 1000000) (disch := first | omega | (simp only [RY] <;> omega) | decide) only [↓RD, RZ, eq_self, Int.reduceToNat, Int.reduceAdd, Int.reduceSub, Int.reduceMul, Nat.reduceAdd, Nat.reduceSub, Nat.reduceMul, Nat.reduceDiv, Nat.reduceMod, Nat.reduceBEq, Nat.reduceLeDiff, i1, l2]
    refine ok_bind' (hf H1 s1 _ (List.getElem_mem hk) a b c w1) ?_
    rintro _ H2 ⟨rfl, s2⟩
    cases hp : P ts[k] with
    | true =>
      simp (maxSteps := 1000000) (disch := first | omega | (simp only [RY] <;> omega) | decide) only [↓RD, RZ, eq_self, Int.reduceToNat, Int.reduceAdd, Int.reduceSub, Int.reduceMul, Nat.reduceAdd, Nat.reduceSub, Nat.reduceMul, Nat.reduceDiv, Nat.reduceMod, Nat.reduceBEq, Nat.reduceLeDiff]
      refine ⟨?_, s1.trans s2⟩
      have : ts.findIdx? P = some k := List.findIdx?_eq_some_iff_getElem.2 ⟨hk, hp, fun j hj => by rw [hP j (by omega) hj]; decide⟩
      rw [this]; rfl
    | false =>
      simp (maxSteps := 1000000) (disch := first | omega | (simp only [RY] <;> omega) | decide) only [↓RD, RZ, eq_self, Int.reduceToNat, Int.reduceAdd, Int.reduceSub, Int.reduceMul, Nat.reduceAdd, Nat.reduceSub, Nat.reduceMul, Nat.reduceDiv, Nat.reduceMod, Nat.reduceBEq, Nat.reduceLeDiff]
      refine ⟨by rfl, s1.trans s2, fun j hj hjk => ?_⟩
      rcases Nat.lt_or_ge j k with h | h
      · exact hP j hj h
      · have : j = k := by omega
        subst this; exact hp
  · rintro L H1 ⟨rfl, s1, hP⟩
    unfold f_slices_IndexFunc_depend_Template_depend_Template_0
    simp (maxSteps := 1000000) (disch := first | omega | (simp only [RY] <;> omega) | decide) only [↓RD, RZ, eq_self, Int.reduceToNat, Int.reduceAdd, Int.reduceSub, Int.reduceMul, Nat.reduceAdd, Nat.reduceSub, Nat.reduceMul, Nat.reduceDiv, Nat.reduceMod, Nat.reduceBEq, Nat.reduceLeDiff]
    refine ⟨?_, s1⟩
    have : ts.findIdx? P = none := List.findIdx?_eq_none_iff.2 fun x hx => by
      obtain ⟨j, hj, rfl⟩ := List.getElem_of_mem hx
      exact hP j hj hj
    rw [this]; rfl

theorem ContainsT_ok {lo : Nat} {H : Heap} {v f : V} {ts : List Tm} (h : Tms lo H v ts) (P : Tm → Bool) (hn : ts.length ≤ 1099511627776)
    (hf : ∀ H', Grow H H' → ∀ (t : Tm), t ∈ ts → ∀ (a b c : V), TmR lo H' t a b c → Ok (callv (sem T) f [.agg [.int .i64 t.sp, .int .i64 t.te, a, b, c]]) H' fun r H'' => r = .bool (!P t) ∧ Grow H' H'') :
    Ok (sem T fn_slices_ContainsFunc_depend_Template_depend_Template [v, f]) H fun r H' => r = .bool (!ts.all P) ∧ Grow H H' := by
  refine ok_slices_ContainsFunc_depend_Template_depend_Template ?_
  unfold f_slices_ContainsFunc_depend_Template_depend_Template
  refine ok_bind' (IndexFuncT_ok h (fun x => !P x) hn hf) ?_
  rintro _ H1 ⟨rfl, s1⟩
  rw [← all_idx]
  cases ts.findIdx? (fun x => !P x) with
  | none => unfold idxV; simp (maxSteps := 1000000) (disch := first | omega | (simp only [RY] <;> omega) | decide) only [↓RD, RZ, eq_self, Int.reduceToNat, Int.reduceAdd, Int.reduceSub, Int.reduceMul, Nat.reduceAdd, Nat.reduceSub, Nat.reduceMul, Nat.reduceDiv, Nat.reduceMod, Nat.reduceBEq, Nat.reduceLeDiff]; exact ⟨rfl, s1⟩
  | some i => unfold idxV; simp (maxSteps := 1000000) (disch := first | omega | (simp only [RY] <;> omega) | decide) only [↓RD, RZ, eq_self, Int.reduceToNat, Int.reduceAdd, Int.reduceSub, Int.reduceMul, Nat.reduceAdd, Nat.reduceSub, Nat.reduceMul, Nat.reduceDiv, Nat.reduceMod, Nat.reduceBEq, Nat.reduceLeDiff]; exact ⟨rfl, s1⟩

theorem box_il {H : Heap} {id : Nat} {ty : TypeId} {x y : Int} (h : H.get id = some ⟨ty, [.int .i64 x, .int .i64 y], none⟩) (hi : id < H.next) : Il 0 H (.sl id 0 2 (.fix 2)) [x, y] := by
  refine ⟨?_, fun i hi' => ?_, Nat.le_refl _⟩
  · simp only [rcells, h, Option.bind_some]
    rw [if_pos (by simp)]; rfl
  · simp only [V.pid, Option.some.injEq] at hi'
    subst hi'; exact ⟨Nat.zero_le _, hi⟩

theorem Fine_ok {lo : Nat} {H : Heap} {v : V} {s : Sr} (h : SrR lo H v s) (ho : SrO s) :
    Ok (sem T fn_depend_Fine [v]) H fun r H' => r = .bool (fine s) ∧ Grow H H' := by
  obtain ⟨a, b, c, rfl, h⟩ := h
  have nt := ho.ts
  have np := ho.pro.2
  have ns := ho.siz.1
  refine ok_depend_Fine ?_
  unfold f_depend_Fine
  unfold scells
  simp (maxSteps := 1000000) (disch := first | omega | (simp only [RY] <;> omega) | decide) only [↓RD, RZ, eq_self, Int.reduceToNat, Int.reduceAdd, Int.reduceSub, Int.reduceMul, Nat.reduceAdd, Nat.reduceSub, Nat.reduceMul, Nat.reduceDiv, Nat.reduceMod, Nat.reduceBEq, Nat.reduceLeDiff, h.ts.cells1, h.ts.okc, h.pro.cells1, h.pro.okc, h.siz.cells1, h.siz.okc]
  generalize hH1 : Heap.new H _ = H1
  have s1 : Grow H H1 := by rw [← hH1]; exact Grow.new _ _
  have n1 : H1.next = H.next + 1 := by rw [← hH1]; rfl
  have g1 : H1.get H.next = some ⟨ty_depend_Structure, [.int .i64 s.off, .int .i64 s.tar, a, .int .i64 s.cha, b, c], none⟩ := by rw [← hH1]; exact get_new_self _ _
  clear hH1
  generalize hpc : (if s.cha = 0 then 0 else s.tar : Int) = pc
  refine ok_mono (Q := fun r H' => r = Res.nrm [.int .i64 pc] ∧ H' = H1) ?_ ?_
  · refine ok_iteb (fun hz => ?_) fun hz => ?_
    · simp (maxSteps := 1000000) (disch := first | omega | (simp only [RY] <;> omega) | decide) only [↓RD, RZ, eq_self, Int.reduceToNat, Int.reduceAdd, Int.reduceSub, Int.reduceMul, Nat.reduceAdd, Nat.reduceSub, Nat.reduceMul, Nat.reduceDiv, Nat.reduceMod, Nat.reduceBEq, Nat.reduceLeDiff]
      rw [← hpc, if_pos hz]
    · simp (maxSteps := 1000000) (disch := first | omega | (simp only [RY] <;> omega) | decide) only [↓RD, RZ, eq_self, Int.reduceToNat, Int.reduceAdd, Int.reduceSub, Int.reduceMul, Nat.reduceAdd, Nat.reduceSub, Nat.reduceMul, Nat.reduceDiv, Nat.reduceMod, Nat.reduceBEq, Nat.reduceLeDiff]
      rw [← hpc, if_neg hz]
  rintro _ H' ⟨rfl, hH'⟩
  have : H' = H1 := hH'
  subst this
  by_cases a1 : s.off < 0
  · simp (maxSteps := 1000000) (disch := first | omega | (simp only [RY] <;> omega) | decide) only [↓RD, RZ, eq_self, Int.reduceToNat, Int.reduceAdd, Int.reduceSub, Int.reduceMul, Nat.reduceAdd, Nat.reduceSub, Nat.reduceMul, Nat.reduceDiv, Nat.reduceMod, Nat.reduceBEq, Nat.reduceLeDiff, g1]
    exact ⟨by rw [fine_no fun h => by have := h.off; omega], s1⟩
  by_cases a2 : 64 ≤ s.off
  · simp (maxSteps := 1000000) (disch := first | omega | (simp only [RY] <;> omega) | decide) only [↓RD, RZ, eq_self, Int.reduceToNat, Int.reduceAdd, Int.reduceSub, Int.reduceMul, Nat.reduceAdd, Nat.reduceSub, Nat.reduceMul, Nat.reduceDiv, Nat.reduceMod, Nat.reduceBEq, Nat.reduceLeDiff, g1]
    exact ⟨by rw [fine_no fun h => by have := h.off; omega], s1⟩
  by_cases a3 : s.tar < 1
  · simp (maxSteps := 1000000) (disch := first | omega | (simp only [RY] <;> omega) | decide) only [↓RD, RZ, eq_self, Int.reduceToNat, Int.reduceAdd, Int.reduceSub, Int.reduceMul, Nat.reduceAdd, Nat.reduceSub, Nat.reduceMul, Nat.reduceDiv, Nat.reduceMod, Nat.reduceBEq, Nat.reduceLeDiff, g1]
    exact ⟨by rw [fine_no fun h => by have := h.tar; omega], s1⟩
  by_cases a4 : 32 < s.tar
  · simp (maxSteps := 1000000) (disch := first | omega | (simp only [RY] <;> omega) | decide) only [↓RD, RZ, eq_self, Int.reduceToNat, Int.reduceAdd, Int.reduceSub, Int.reduceMul, Nat.reduceAdd, Nat.reduceSub, Nat.reduceMul, Nat.reduceDiv, Nat.reduceMod, Nat.reduceBEq, Nat.reduceLeDiff, g1]
    exact ⟨by rw [fine_no fun h => by have := h.tar; omega], s1⟩
  by_cases a5 : s.cha < 0
  · simp (maxSteps := 1000000) (disch := first | omega | (simp only [RY] <;> omega) | decide) only [↓RD, RZ, eq_self, Int.reduceToNat, Int.reduceAdd, Int.reduceSub, Int.reduceMul, Nat.reduceAdd, Nat.reduceSub, Nat.reduceMul, Nat.reduceDiv, Nat.reduceMod, Nat.reduceBEq, Nat.reduceLeDiff, g1]
    exact ⟨by rw [fine_no fun h => by have := h.cha; omega], s1⟩
  by_cases a6 : s.tar < s.cha
  · simp (maxSteps := 1000000) (disch := first | omega | (simp only [RY] <;> omega) | decide) only [↓RD, RZ, eq_self, Int.reduceToNat, Int.reduceAdd, Int.reduceSub, Int.reduceMul, Nat.reduceAdd, Nat.reduceSub, Nat.reduceMul, Nat.reduceDiv, Nat.reduceMod, Nat.reduceBEq, Nat.reduceLeDiff, g1]
    exact ⟨by rw [fine_no fun h => by have := h.cha; omega], s1⟩
  simp (maxSteps := 1000000) (disch := first | omega | (simp only [RY] <;> omega) | decide) only [↓RD, RZ, eq_self, Int.reduceToNat, Int.reduceAdd, Int.reduceSub, Int.reduceMul, Nat.reduceAdd, Nat.reduceSub, Nat.reduceMul, Nat.reduceDiv, Nat.reduceMod, Nat.reduceBEq, Nat.reduceLeDiff, g1]
  refine ok_bind' (within_ok (h.pro.ext s1) pc 0 (s.cha - 1) (by omega)) ?_
  rintro _ H2 ⟨rfl, s2⟩
  have n2 := s2.next
  have g2 : H2.get H.next = _ := (s2.same _ (by omega)).trans g1
  have s12 := s1.trans s2
  cases w1 : wi s.pro pc 0 (s.cha - 1) with
  | false =>
    simp (maxSteps := 1000000) (disch := first | omega | (simp only [RY] <;> omega) | decide) only [↓RD, RZ, eq_self, Int.reduceToNat, Int.reduceAdd, Int.reduceSub, Int.reduceMul, Nat.reduceAdd, Nat.reduceSub, Nat.reduceMul, Nat.reduceDiv, Nat.reduceMod, Nat.reduceBEq, Nat.reduceLeDiff]
    exact ⟨by rw [fine_no fun h => by have := h.pro; rw [hpc, w1] at this; cases this], s12⟩
  | true =>
  simp (maxSteps := 1000000) (disch := first | omega | (simp only [RY] <;> omega) | decide) only [↓RD, RZ, eq_self, Int.reduceToNat, Int.reduceAdd, Int.reduceSub, Int.reduceMul, Nat.reduceAdd, Nat.reduceSub, Nat.reduceMul, Nat.reduceDiv, Nat.reduceMod, Nat.reduceBEq, Nat.reduceLeDiff, g2]
  refine ok_bind' (layers_ok (h.ext s12) (by omega)) ?_
  rintro _ H3 ⟨rfl, s3⟩
  have n3 := s3.next
  have g3 : H3.get H.next = _ := (s3.same _ (by omega)).trans g2
  have s13 := s12.trans s3
  rcases Classical.em (Lay s.ts) with w2 | w2
  rotate_left
  · rw [dec_no w2]
    simp (maxSteps := 1000000) (disch := first | omega | (simp only [RY] <;> omega) | decide) only [↓RD, RZ, eq_self, Int.reduceToNat, Int.reduceAdd, Int.reduceSub, Int.reduceMul, Nat.reduceAdd, Nat.reduceSub, Nat.reduceMul, Nat.reduceDiv, Nat.reduceMod, Nat.reduceBEq, Nat.reduceLeDiff]
    exact ⟨by rw [fine_no fun h => w2 ⟨h.len, h.lay⟩], s13⟩
  rw [dec_yes w2]
  have rng : ∀ t ∈ s.ts, 0 ≤ t.sp ∧ t.sp ≤ 3 ∧ 0 ≤ t.te ∧ t.te ≤ 7 := fun t ht => by
    obtain ⟨j, hj, rfl⟩ := List.getElem_of_mem ht
    have := layAt_rng (w2.2 j hj)
    rwa [getD_get hj] at this
  obtain ⟨⟨w3, w4⟩, w5⟩ := w2
  -- the sizes' number
  have last : ∀ H4, H.next < H4.next → Grow H H4 → H4.get H.next = some ⟨ty_depend_Structure, [.int .i64 s.off, .int .i64 s.tar, a, .int .i64 s.cha, b, c], none⟩ → (s.siz.length = 0 ∨ (s.siz.length : Int) = top s.ts + 1) →
      Ok (M.iter (f_depend_Fine_0 (sem T) (.int .i64 (s.siz.length : Nat)) c) [.int .i64 0]) H4 fun r H' => Grow H H' ∧ (H.next < H'.next ∧ H'.get H.next = some ⟨ty_depend_Structure, [.int .i64 s.off, .int .i64 s.tar, a, .int .i64 s.cha, b, c], none⟩) ∧ ((r = .ex 0 [] ∧ ∀ x ∈ s.siz, (1 ≤ x.1 ∧ x.1 ≤ 65536) ∧ (1 ≤ x.2 ∧ x.2 ≤ 65536)) ∨ (r = .ret [.bool false] ∧ fine s = false)) := by
    intro H4 hlt s4 g4 _
    refine ok_loop (fun k L H' => L = [.int .i64 (k : Nat)] ∧ Grow H4 H' ∧ ∀ j (hj : j < s.siz.length), j < k → (1 ≤ s.siz[j].1 ∧ s.siz[j].1 ≤ 65536) ∧ (1 ≤ s.siz[j].2 ∧ s.siz[j].2 ≤ 65536)) s.siz.length ?_ ?_ ?_
    · exact ⟨rfl, Grow.refl _, fun j hj hk => absurd hk (by omega)⟩
    · rintro k L H5 hk ⟨rfl, s5, hP⟩
      obtain ⟨q, i1, l1⟩ := szs_at ((h.siz.ext s4).ext s5) hk
      obtain ⟨-, -, l2⟩ := pl2 l1
      unfold f_depend_Fine_0
      have ev : vslice (.arr 2) 1 (.ptr H5.next 0) none none none = some (.sl H5.next 0 2 (.fix 2)) := by simp [vslice, optInt]
      simp (maxSteps := 1000000) (disch := first | omega | (simp only [RY] <;> omega) | decide) only [↓RD, RZ, eq_self, Int.reduceToNat, Int.reduceAdd, Int.reduceSub, Int.reduceMul, Nat.reduceAdd, Nat.reduceSub, Nat.reduceMul, Nat.reduceDiv, Nat.reduceMod, Nat.reduceBEq, Nat.reduceLeDiff, i1, l2, ev]
      generalize hH6 : Heap.set _ _ _ = H6
      have s6 : Grow H5 H6 := by rw [← hH6]; exact (Grow.new _ _).set (by omega) _
      have n6 : H6.next = H5.next + 1 := by rw [← hH6]; rfl
      have g6 : H6.get H5.next = some ⟨ty_2_int, [.int .i64 s.siz[k].1, .int .i64 s.siz[k].2], none⟩ := by rw [← hH6]; exact get_set_self _ _ _
      clear hH6
      refine ok_bind' (within_ok (box_il g6 (by omega)) 2 1 65536 (by simp)) ?_
      rintro _ H7 ⟨rfl, s7⟩
      cases w6 : wi [s.siz[k].1, s.siz[k].2] 2 1 65536 with
      | false =>
        simp (maxSteps := 1000000) (disch := first | omega | (simp only [RY] <;> omega) | decide) only [↓RD, RZ, eq_self, Int.reduceToNat, Int.reduceAdd, Int.reduceSub, Int.reduceMul, Nat.reduceAdd, Nat.reduceSub, Nat.reduceMul, Nat.reduceDiv, Nat.reduceMod, Nat.reduceBEq, Nat.reduceLeDiff]
        refine ⟨((s4.trans s5).trans s6).trans s7, ⟨Nat.lt_of_lt_of_le hlt ((s5.trans s6).trans s7).next, (((s5.trans s6).trans s7).same _ hlt).trans g4⟩, .inr (fine_no fun h => ?_)⟩
        have := h.szs _ (List.getElem_mem hk)
        have : wi [s.siz[k].1, s.siz[k].2] 2 1 65536 = true := wi_iff.2 ⟨rfl, fun x hx => by
          simp only [List.mem_cons, List.not_mem_nil, or_false] at hx
          rcases hx with rfl | rfl
          · exact this.1
          · exact this.2⟩
        rw [this] at w6; cases w6
      | true =>
        simp (maxSteps := 1000000) (disch := first | omega | (simp only [RY] <;> omega) | decide) only [↓RD, RZ, eq_self, Int.reduceToNat, Int.reduceAdd, Int.reduceSub, Int.reduceMul, Nat.reduceAdd, Nat.reduceSub, Nat.reduceMul, Nat.reduceDiv, Nat.reduceMod, Nat.reduceBEq, Nat.reduceLeDiff]
        refine ⟨by rfl, (s5.trans s6).trans s7, fun j hj hjk => ?_⟩
        rcases Nat.lt_or_ge j k with h | h
        · exact hP j hj h
        · have : j = k := by omega
          subst this
          have := (wi_iff.1 w6).2
          exact ⟨this _ (by simp), this _ (by simp)⟩
    · rintro L H5 ⟨rfl, s5, hP⟩
      unfold f_depend_Fine_0
      simp (maxSteps := 1000000) (disch := first | omega | (simp only [RY] <;> omega) | decide) only [↓RD, RZ, eq_self, Int.reduceToNat, Int.reduceAdd, Int.reduceSub, Int.reduceMul, Nat.reduceAdd, Nat.reduceSub, Nat.reduceMul, Nat.reduceDiv, Nat.reduceMod, Nat.reduceBEq, Nat.reduceLeDiff]
      refine ⟨s4.trans s5, ⟨Nat.lt_of_lt_of_le hlt s5.next, (s5.same _ hlt).trans g4⟩, .inl fun x hx => ?_⟩
      obtain ⟨j, hj, rfl⟩ := List.getElem_of_mem hx
      exact hP j hj hj
  have fin : ∀ H5, H.next < H5.next → Grow H H5 → H5.get H.next = some ⟨ty_depend_Structure, [.int .i64 s.off, .int .i64 s.tar, a, .int .i64 s.cha, b, c], none⟩ → (s.siz.length = 0 ∨ (s.siz.length : Int) = top s.ts + 1) → (∀ x ∈ s.siz, (1 ≤ x.1 ∧ x.1 ≤ 65536) ∧ (1 ≤ x.2 ∧ x.2 ≤ 65536)) →
      Ok (sem T fn_slices_ContainsFunc_depend_Template_depend_Template [a, .fn fn_depend_Fine_1 [.ptr H.next 0]]) H5 fun r H' => r = .bool (!fine s) ∧ Grow H H' := by
    intro H5 hlt s5 g5 e1 e2
    refine ok_mono (ContainsT_ok (h.ts.ext s5) (fineT s.tar s.cha) (by omega) fun H6 s6 t ht d e f w => ?_) ?_
    · have g6 : H6.get H.next = _ := (s6.same _ hlt).trans g5
      show Ok (sem T fn_depend_Fine_1 [.agg [.int .i64 t.sp, .int .i64 t.te, d, e, f], .ptr H.next 0]) H6 _
      refine ok_depend_Fine_1 ?_
      unfold f_depend_Fine_1
      have := s6.next
      simp (maxSteps := 1000000) (disch := first | omega | (simp only [RY] <;> omega) | decide) only [↓RD, RZ, eq_self, Int.reduceToNat, Int.reduceAdd, Int.reduceSub, Int.reduceMul, Nat.reduceAdd, Nat.reduceSub, Nat.reduceMul, Nat.reduceDiv, Nat.reduceMod, Nat.reduceBEq, Nat.reduceLeDiff, w.dti.cells1, w.dti.okc, w.dif.cells1, w.dif.okc, w.cha.cells1, w.cha.okc, g6]
      refine ok_bind' (fineT_ok (s := s) h.ts.cel h.pro.cel h.siz.cel (w.ext (Grow.new _ _)) (ho.tm t ht)) ?_
      rintro _ H7 ⟨rfl, s7⟩
      simp (maxSteps := 1000000) (disch := first | omega | (simp only [RY] <;> omega) | decide) only [↓RD, RZ, eq_self, Int.reduceToNat, Int.reduceAdd, Int.reduceSub, Int.reduceMul, Nat.reduceAdd, Nat.reduceSub, Nat.reduceMul, Nat.reduceDiv, Nat.reduceMod, Nat.reduceBEq, Nat.reduceLeDiff]
      exact (Grow.new _ _).trans s7
    · rintro _ H6 ⟨rfl, s6⟩
      refine ⟨?_, s5.trans s6⟩
      congr 2
      cases hall : s.ts.all (fineT s.tar s.cha) with
      | true => rw [fine_yes ⟨by omega, by omega, by omega, ⟨w3, w4⟩, by rw [hpc]; exact w1, w5, e1, e2, fun t ht => List.all_eq_true.1 hall t ht⟩]
      | false => rw [fine_no fun h => by rw [List.all_eq_true.2 h.tms] at hall; cases hall]
  by_cases hs0 : s.siz.length = 0
  · simp (maxSteps := 1000000) (disch := first | omega | (simp only [RY] <;> omega) | decide) only [↓RD, RZ, eq_self, Int.reduceToNat, Int.reduceAdd, Int.reduceSub, Int.reduceMul, Nat.reduceAdd, Nat.reduceSub, Nat.reduceMul, Nat.reduceDiv, Nat.reduceMod, Nat.reduceBEq, Nat.reduceLeDiff, g3, h.siz.vlen, hs0]
    have l0 := last H3 (by omega) s13 g3 (.inl hs0)
    rw [hs0] at l0
    refine ok_mono l0 ?_
    rintro r H' ⟨h1, ⟨h0, h2⟩, ⟨rfl, h3⟩ | ⟨rfl, h3⟩⟩
    · simp (maxSteps := 1000000) (disch := first | omega | (simp only [RY] <;> omega) | decide) only [↓RD, RZ, eq_self, Int.reduceToNat, Int.reduceAdd, Int.reduceSub, Int.reduceMul, Nat.reduceAdd, Nat.reduceSub, Nat.reduceMul, Nat.reduceDiv, Nat.reduceMod, Nat.reduceBEq, Nat.reduceLeDiff, h2]
      refine ok_bind' (fin _ h0 h1 h2 (.inl hs0) h3) ?_
      rintro _ H5 ⟨rfl, s5⟩
      simp (maxSteps := 1000000) (disch := first | omega | (simp only [RY] <;> omega) | decide) only [↓RD, RZ, eq_self, Int.reduceToNat, Int.reduceAdd, Int.reduceSub, Int.reduceMul, Nat.reduceAdd, Nat.reduceSub, Nat.reduceMul, Nat.reduceDiv, Nat.reduceMod, Nat.reduceBEq, Nat.reduceLeDiff]
      exact ⟨by simp, s5⟩
    · simp (maxSteps := 1000000) (disch := first | omega | (simp only [RY] <;> omega) | decide) only [↓RD, RZ, eq_self, Int.reduceToNat, Int.reduceAdd, Int.reduceSub, Int.reduceMul, Nat.reduceAdd, Nat.reduceSub, Nat.reduceMul, Nat.reduceDiv, Nat.reduceMod, Nat.reduceBEq, Nat.reduceLeDiff]
      exact ⟨by rw [h3], h1⟩
  · simp (maxSteps := 1000000) (disch := first | omega | (simp only [RY] <;> omega) | decide) only [↓RD, RZ, eq_self, Int.reduceToNat, Int.reduceAdd, Int.reduceSub, Int.reduceMul, Nat.reduceAdd, Nat.reduceSub, Nat.reduceMul, Nat.reduceDiv, Nat.reduceMod, Nat.reduceBEq, Nat.reduceLeDiff, g3, h.siz.vlen]
    refine ok_bind' (spatial_ok (h.ext s13) (by omega) fun t ht => by have := rng t ht; omega) ?_
    rintro _ H4 ⟨rfl, s4⟩
    have n4 := s4.next
    have g4 : H4.get H.next = _ := (s4.same _ (by omega)).trans g3
    rw [if_neg (by omega)]
    by_cases hs1 : (s.siz.length : Int) = top s.ts + 1
    · rw [← hs1]
      simp (maxSteps := 1000000) (disch := first | omega | (simp only [RY] <;> omega) | decide) only [↓RD, RZ, eq_self, Int.reduceToNat, Int.reduceAdd, Int.reduceSub, Int.reduceMul, Nat.reduceAdd, Nat.reduceSub, Nat.reduceMul, Nat.reduceDiv, Nat.reduceMod, Nat.reduceBEq, Nat.reduceLeDiff, g4, h.siz.vlen]
      refine ok_mono (last H4 (by omega) (s13.trans s4) g4 (.inr hs1)) ?_
      rintro r H' ⟨h1, ⟨h0, h2⟩, ⟨rfl, h3⟩ | ⟨rfl, h3⟩⟩
      · simp (maxSteps := 1000000) (disch := first | omega | (simp only [RY] <;> omega) | decide) only [↓RD, RZ, eq_self, Int.reduceToNat, Int.reduceAdd, Int.reduceSub, Int.reduceMul, Nat.reduceAdd, Nat.reduceSub, Nat.reduceMul, Nat.reduceDiv, Nat.reduceMod, Nat.reduceBEq, Nat.reduceLeDiff, h2]
        refine ok_bind' (fin _ h0 h1 h2 (.inr hs1) h3) ?_
        rintro _ H5 ⟨rfl, s5⟩
        simp (maxSteps := 1000000) (disch := first | omega | (simp only [RY] <;> omega) | decide) only [↓RD, RZ, eq_self, Int.reduceToNat, Int.reduceAdd, Int.reduceSub, Int.reduceMul, Nat.reduceAdd, Nat.reduceSub, Nat.reduceMul, Nat.reduceDiv, Nat.reduceMod, Nat.reduceBEq, Nat.reduceLeDiff]
        exact ⟨by simp, s5⟩
      · simp (maxSteps := 1000000) (disch := first | omega | (simp only [RY] <;> omega) | decide) only [↓RD, RZ, eq_self, Int.reduceToNat, Int.reduceAdd, Int.reduceSub, Int.reduceMul, Nat.reduceAdd, Nat.reduceSub, Nat.reduceMul, Nat.reduceDiv, Nat.reduceMod, Nat.reduceBEq, Nat.reduceLeDiff]
        exact ⟨by rw [h3], h1⟩
    · simp (maxSteps := 1000000) (disch := first | omega | (simp only [RY] <;> omega) | decide) only [↓RD, RZ, eq_self, Int.reduceToNat, Int.reduceAdd, Int.reduceSub, Int.reduceMul, Nat.reduceAdd, Nat.reduceSub, Nat.reduceMul, Nat.reduceDiv, Nat.reduceMod, Nat.reduceBEq, Nat.reduceLeDiff, g4]
      exact ⟨by rw [fine_no fun h => by have := h.siz; omega], s13.trans s4⟩

end Go.Ax.D9
/- Dep6 -/
set_option maxRecDepth 100000
set_option linter.unusedVariables false
set_option linter.unusedSimpArgs false
namespace Go.Ax.D9
open Go.Ax
end Go.Ax.D9
/- Dep7 -/
set_option maxRecDepth 100000
set_option linter.unusedVariables false
set_option linter.unusedSimpArgs false
namespace Go.Ax.D9
open Go.Ax
theorem Pl.arr {H : Heap} {p : V} {cs : List V} {own : Option Nat} (h : Pl H p cs own) {n i : Nat} {k : IntKind} (hi : i < n) : Ax.iaddr (some n) 1 p (.int k (i : Nat)) = some (fa p i) := by
  have := @Pl.fa _ _ _ _ h 0
  cases p <;> simp only [Ax.faddr, reduceCtorEq] at this
  · rw [iaddr_ap (by omega) (by omega)]; simp [fa]
  · rw [iaddr_arp (by omega) (by omega)]; simp [fa]

def nxI : Option Nat → Int
  | some k => (k : Nat)
  | none => 3

theorem nx_lt {s t : Tm} {k : Nat} (h : nx s t = some k) : k < 3 := by
  unfold nx at h
  split at h
  · cases h; decide
  · split at h
    · cases h; decide
    · split at h
      · cases h; decide
      · cases h

theorem step_ok {H : Heap} (s t : Tm) (a b c d e g : V) (hs : 0 ≤ s.sp ∧ s.sp ≤ 3) (ht : 0 ≤ s.te ∧ s.te ≤ 7) (ha : Cel a) (hb : Cel b) (hc : Cel c) (hd : Cel d) (he : Cel e) (hg : Cel g) :
    Ok (sem T fn_palanquinref9_step [.agg [.int .i64 s.sp, .int .i64 s.te, a, b, c], .agg [.int .i64 t.sp, .int .i64 t.te, d, e, g]]) H fun r H' => r = .int .i64 (nxI (nx s t)) ∧ Grow H H' := by
  refine ok_palanquinref9_step ?_
  unfold f_palanquinref9_step
  have g2 : ∀ (x y : Blk), Grow H ((H.new x).new y) := fun x y => (Grow.new _ _).trans (Grow.new _ _)
  simp (maxSteps := 1000000) (disch := first | omega | (simp only [RY] <;> omega) | decide) only [↓RD, RZ, eq_self, Int.reduceToNat, Int.reduceAdd, Int.reduceSub, Int.reduceMul, Nat.reduceAdd, Nat.reduceSub, Nat.reduceMul, Nat.reduceDiv, Nat.reduceMod, Nat.reduceBEq, Nat.reduceLeDiff, ha.1, ha.2, hb.1, hb.2, hc.1, hc.2, hd.1, hd.2, he.1, he.2, hg.1, hg.2]
  unfold nx
  by_cases h1 : s.sp = t.sp
  · by_cases h2 : s.te = t.te
    · rw [if_pos ⟨h1.symm, h2.symm⟩]
      simp (maxSteps := 1000000) (disch := first | omega | (simp only [RY] <;> omega) | decide) only [↓RD, RZ, eq_self, Int.reduceToNat, Int.reduceAdd, Int.reduceSub, Int.reduceMul, Nat.reduceAdd, Nat.reduceSub, Nat.reduceMul, Nat.reduceDiv, Nat.reduceMod, Nat.reduceBEq, Nat.reduceLeDiff, h1, h2]
      exact ⟨rfl, g2 _ _⟩
    · rw [if_neg (fun h => h2 h.2.symm)]
      by_cases h3 : s.te + 1 = t.te
      · rw [if_pos ⟨h1.symm, h3.symm⟩]
        simp (maxSteps := 1000000) (disch := first | omega | (simp only [RY] <;> omega) | decide) only [↓RD, RZ, eq_self, Int.reduceToNat, Int.reduceAdd, Int.reduceSub, Int.reduceMul, Nat.reduceAdd, Nat.reduceSub, Nat.reduceMul, Nat.reduceDiv, Nat.reduceMod, Nat.reduceBEq, Nat.reduceLeDiff, h1, h3]
        exact ⟨rfl, g2 _ _⟩
      · rw [if_neg (fun h => h3 h.2.symm), if_neg (by omega)]
        simp (maxSteps := 1000000) (disch := first | omega | (simp only [RY] <;> omega) | decide) only [↓RD, RZ, eq_self, Int.reduceToNat, Int.reduceAdd, Int.reduceSub, Int.reduceMul, Nat.reduceAdd, Nat.reduceSub, Nat.reduceMul, Nat.reduceDiv, Nat.reduceMod, Nat.reduceBEq, Nat.reduceLeDiff, h1]
        exact ⟨rfl, g2 _ _⟩
  · rw [if_neg (fun h => h1 h.1.symm), if_neg (fun h => h1 h.1.symm)]
    by_cases h2 : s.sp + 1 = t.sp
    · by_cases h3 : t.te = 0
      · rw [if_pos ⟨h2.symm, h3⟩]
        simp (maxSteps := 1000000) (disch := first | omega | (simp only [RY] <;> omega) | decide) only [↓RD, RZ, eq_self, Int.reduceToNat, Int.reduceAdd, Int.reduceSub, Int.reduceMul, Nat.reduceAdd, Nat.reduceSub, Nat.reduceMul, Nat.reduceDiv, Nat.reduceMod, Nat.reduceBEq, Nat.reduceLeDiff, h2, h3]
        exact ⟨rfl, g2 _ _⟩
      · rw [if_neg (fun h => h3 h.2)]
        simp (maxSteps := 1000000) (disch := first | omega | (simp only [RY] <;> omega) | decide) only [↓RD, RZ, eq_self, Int.reduceToNat, Int.reduceAdd, Int.reduceSub, Int.reduceMul, Nat.reduceAdd, Nat.reduceSub, Nat.reduceMul, Nat.reduceDiv, Nat.reduceMod, Nat.reduceBEq, Nat.reduceLeDiff, h2]
        exact ⟨rfl, g2 _ _⟩
    · rw [if_neg (fun h => h2 h.1.symm)]
      simp (maxSteps := 1000000) (disch := first | omega | (simp only [RY] <;> omega) | decide) only [↓RD, RZ, eq_self, Int.reduceToNat, Int.reduceAdd, Int.reduceSub, Int.reduceMul, Nat.reduceAdd, Nat.reduceSub, Nat.reduceMul, Nat.reduceDiv, Nat.reduceMod, Nat.reduceBEq, Nat.reduceLeDiff]
      exact ⟨rfl, g2 _ _⟩

end Go.Ax.D9
/- Dep8 -/
set_option maxRecDepth 100000
set_option linter.unusedVariables false
set_option linter.unusedSimpArgs false
namespace Go.Ax.D9
open Go.Ax
theorem shr1 (v i : Nat) : shr v i &&& 1 = (v.testBit i).toNat := by
  rw [shr_def, Nat.toNat_testBit, Nat.and_one_is_mod, Nat.shiftRight_eq_div_pow]

end Go.Ax.D9
/- DepS1 -/
set_option maxRecDepth 100000
set_option linter.unusedVariables false
set_option linter.unusedSimpArgs false
namespace Go.Ax.D9
open Go.Ax
theorem list_ne {a b : List Int} {k : Nat} (h : k < a.length) (h' : k < b.length) (e : a[k] ≠ b[k]) : a ≠ b := fun he => by subst he; exact e rfl
theorem list_eq {a b : List Int} (hl : a.length = b.length) (h : ∀ j (hj : j < a.length), a[j] = b[j]'(by omega)) : a = b := List.ext_getElem hl fun i h1 h2 => h i h1

theorem Equal_ok {lo lo' : Nat} {H : Heap} {v w : V} {a b : List Int} (ha : Il lo H v a) (hb : Il lo' H w b) (hl : a.length ≤ 1099511627776) :
    Ok (sem T fn_slices_Equal_int_int [v, w]) H fun r H' => r = .bool (decide (a = b)) ∧ H' = H := by
  refine ok_slices_Equal_int_int ?_
  unfold f_slices_Equal_int_int
  by_cases e : a.length = b.length
  · simp (maxSteps := 1000000) (disch := first | omega | (simp only [RY] <;> omega) | decide) only [↓RD, RZ, eq_self, Int.reduceToNat, Int.reduceAdd, Int.reduceSub, Int.reduceMul, Nat.reduceAdd, Nat.reduceSub, Nat.reduceMul, Nat.reduceDiv, Nat.reduceMod, Nat.reduceBEq, Nat.reduceLeDiff, ha.vlen, hb.vlen, e]
    rw [← e]
    refine ok_mono (Q := fun r H' => H' = H ∧ ((r = Res.ex 0 [] ∧ a = b) ∨ (r = .ret [.bool false] ∧ a ≠ b))) ?_ ?_
    · refine ok_loop (fun k L H' => L = [.int .i64 (k : Nat)] ∧ H' = H ∧ ∀ j (hj : j < a.length), j < k → a[j] = b[j]'(by omega)) a.length ?_ ?_ ?_
      · exact ⟨rfl, rfl, fun j hj hk => absurd hk (by omega)⟩
      · rintro k L H1 hk ⟨rfl, rfl, hP⟩
        obtain ⟨p, hp, lp, -⟩ := il_at ha (i := (k : Nat)) (by omega) (by omega)
        obtain ⟨q, hq, lq, -⟩ := il_at hb (i := (k : Nat)) (by omega) (by omega)
        rw [Int.toNat_natCast, getD_get hk] at lp
        rw [Int.toNat_natCast, getD_get (by omega)] at lq
        unfold f_slices_Equal_int_int_0
        by_cases e1 : a[k] = b[k]'(by omega)
        · simp (maxSteps := 1000000) (disch := first | omega | (simp only [RY] <;> omega) | decide) only [↓RD, RZ, eq_self, Int.reduceToNat, Int.reduceAdd, Int.reduceSub, Int.reduceMul, Nat.reduceAdd, Nat.reduceSub, Nat.reduceMul, Nat.reduceDiv, Nat.reduceMod, Nat.reduceBEq, Nat.reduceLeDiff, hp, lp, hq, lq, e1]
          refine ⟨by rfl, fun j hj hjk => ?_⟩
          rcases Nat.lt_or_ge j k with h | h
          · exact hP j hj h
          · have : j = k := by omega
            subst this; exact e1
        · simp (maxSteps := 1000000) (disch := first | omega | (simp only [RY] <;> omega) | decide) only [↓RD, RZ, eq_self, Int.reduceToNat, Int.reduceAdd, Int.reduceSub, Int.reduceMul, Nat.reduceAdd, Nat.reduceSub, Nat.reduceMul, Nat.reduceDiv, Nat.reduceMod, Nat.reduceBEq, Nat.reduceLeDiff, hp, lp, hq, lq]
          exact .inr (list_ne hk (by omega) e1)
      · rintro L H1 ⟨rfl, rfl, hP⟩
        unfold f_slices_Equal_int_int_0
        simp (maxSteps := 1000000) (disch := first | omega | (simp only [RY] <;> omega) | decide) only [↓RD, RZ, eq_self, Int.reduceToNat, Int.reduceAdd, Int.reduceSub, Int.reduceMul, Nat.reduceAdd, Nat.reduceSub, Nat.reduceMul, Nat.reduceDiv, Nat.reduceMod, Nat.reduceBEq, Nat.reduceLeDiff]
        exact .inl (list_eq e fun j hj => hP j hj hj)
    · rintro r H' ⟨rfl, ⟨rfl, h⟩ | ⟨rfl, h⟩⟩
      · simp (maxSteps := 1000000) (disch := first | omega | (simp only [RY] <;> omega) | decide) only [↓RD, RZ, eq_self, Int.reduceToNat, Int.reduceAdd, Int.reduceSub, Int.reduceMul, Nat.reduceAdd, Nat.reduceSub, Nat.reduceMul, Nat.reduceDiv, Nat.reduceMod, Nat.reduceBEq, Nat.reduceLeDiff]
        rw [decide_eq_true h]
      · simp (maxSteps := 1000000) (disch := first | omega | (simp only [RY] <;> omega) | decide) only [↓RD, RZ, eq_self, Int.reduceToNat, Int.reduceAdd, Int.reduceSub, Int.reduceMul, Nat.reduceAdd, Nat.reduceSub, Nat.reduceMul, Nat.reduceDiv, Nat.reduceMod, Nat.reduceBEq, Nat.reduceLeDiff]
        rw [decide_eq_false h]
  · simp (maxSteps := 1000000) (disch := first | omega | (simp only [RY] <;> omega) | decide) only [↓RD, RZ, eq_self, Int.reduceToNat, Int.reduceAdd, Int.reduceSub, Int.reduceMul, Nat.reduceAdd, Nat.reduceSub, Nat.reduceMul, Nat.reduceDiv, Nat.reduceMod, Nat.reduceBEq, Nat.reduceLeDiff, ha.vlen, hb.vlen]
    rw [decide_eq_false fun h => e (by rw [h])]

theorem SameInts_ok {lo lo' : Nat} {H : Heap} {v w : V} {a b : List Int} (ha : Il lo H v a) (hb : Il lo' H w b) (hl : a.length ≤ 1099511627776) :
    Ok (sem T fn_palanquinref9_SameInts [v, w]) H fun r H' => r = .bool (decide (a = b)) ∧ H' = H := by
  refine ok_palanquinref9_SameInts ?_
  unfold f_palanquinref9_SameInts
  by_cases e : a.length = b.length
  · have hbv := hb.vlen
    rw [← e] at hbv
    simp (maxSteps := 1000000) (disch := first | omega | (simp only [RY] <;> omega) | decide) only [↓RD, RZ, eq_self, Int.reduceToNat, Int.reduceAdd, Int.reduceSub, Int.reduceMul, Nat.reduceAdd, Nat.reduceSub, Nat.reduceMul, Nat.reduceDiv, Nat.reduceMod, Nat.reduceBEq, Nat.reduceLeDiff, ha.vlen, hbv]
    refine ok_mono (Q := fun r H' => H' = H ∧ ((r = Res.ex 0 [] ∧ a = b) ∨ (r = .ret [.bool false] ∧ a ≠ b))) ?_ ?_
    · refine ok_loop (fun k L H' => L = [.int .i64 (k : Nat)] ∧ H' = H ∧ ∀ j (hj : j < a.length), j < k → a[j] = b[j]'(by omega)) a.length ?_ ?_ ?_
      · exact ⟨rfl, rfl, fun j hj hk => absurd hk (by omega)⟩
      · rintro k L H1 hk ⟨rfl, rfl, hP⟩
        obtain ⟨p, hp, lp, -⟩ := il_at ha (i := (k : Nat)) (by omega) (by omega)
        obtain ⟨q, hq, lq, -⟩ := il_at hb (i := (k : Nat)) (by omega) (by omega)
        rw [Int.toNat_natCast, getD_get hk] at lp
        rw [Int.toNat_natCast, getD_get (by omega)] at lq
        unfold f_palanquinref9_SameInts_0
        by_cases e1 : a[k] = b[k]'(by omega)
        · simp (maxSteps := 1000000) (disch := first | omega | (simp only [RY] <;> omega) | decide) only [↓RD, RZ, eq_self, Int.reduceToNat, Int.reduceAdd, Int.reduceSub, Int.reduceMul, Nat.reduceAdd, Nat.reduceSub, Nat.reduceMul, Nat.reduceDiv, Nat.reduceMod, Nat.reduceBEq, Nat.reduceLeDiff, ha.vlen, hp, lp, hq, lq, e1]
          refine ⟨by rfl, fun j hj hjk => ?_⟩
          rcases Nat.lt_or_ge j k with h | h
          · exact hP j hj h
          · have : j = k := by omega
            subst this; exact e1
        · simp (maxSteps := 1000000) (disch := first | omega | (simp only [RY] <;> omega) | decide) only [↓RD, RZ, eq_self, Int.reduceToNat, Int.reduceAdd, Int.reduceSub, Int.reduceMul, Nat.reduceAdd, Nat.reduceSub, Nat.reduceMul, Nat.reduceDiv, Nat.reduceMod, Nat.reduceBEq, Nat.reduceLeDiff, ha.vlen, hp, lp, hq, lq]
          exact .inr (list_ne hk (by omega) e1)
      · rintro L H1 ⟨rfl, rfl, hP⟩
        unfold f_palanquinref9_SameInts_0
        simp (maxSteps := 1000000) (disch := first | omega | (simp only [RY] <;> omega) | decide) only [↓RD, RZ, eq_self, Int.reduceToNat, Int.reduceAdd, Int.reduceSub, Int.reduceMul, Nat.reduceAdd, Nat.reduceSub, Nat.reduceMul, Nat.reduceDiv, Nat.reduceMod, Nat.reduceBEq, Nat.reduceLeDiff, ha.vlen]
        exact .inl (list_eq e fun j hj => hP j hj hj)
    · rintro r H' ⟨rfl, ⟨rfl, h⟩ | ⟨rfl, h⟩⟩
      · simp (maxSteps := 1000000) (disch := first | omega | (simp only [RY] <;> omega) | decide) only [↓RD, RZ, eq_self, Int.reduceToNat, Int.reduceAdd, Int.reduceSub, Int.reduceMul, Nat.reduceAdd, Nat.reduceSub, Nat.reduceMul, Nat.reduceDiv, Nat.reduceMod, Nat.reduceBEq, Nat.reduceLeDiff]
        rw [decide_eq_true h]
      · simp (maxSteps := 1000000) (disch := first | omega | (simp only [RY] <;> omega) | decide) only [↓RD, RZ, eq_self, Int.reduceToNat, Int.reduceAdd, Int.reduceSub, Int.reduceMul, Nat.reduceAdd, Nat.reduceSub, Nat.reduceMul, Nat.reduceDiv, Nat.reduceMod, Nat.reduceBEq, Nat.reduceLeDiff]
        rw [decide_eq_false h]
  · simp (maxSteps := 1000000) (disch := first | omega | (simp only [RY] <;> omega) | decide) only [↓RD, RZ, eq_self, Int.reduceToNat, Int.reduceAdd, Int.reduceSub, Int.reduceMul, Nat.reduceAdd, Nat.reduceSub, Nat.reduceMul, Nat.reduceDiv, Nat.reduceMod, Nat.reduceBEq, Nat.reduceLeDiff, ha.vlen, hb.vlen]
    rw [decide_eq_false fun h => e (by rw [h])]

/-- append([]byte{}, y..), append([]T{}, y..): a slice of one's own. -/
theorem okb_copy {β : Type} {ty e bytes m : Nat} {H : Heap} {y : V} {q : List V} {f : V → M β} {Q : β → Heap → Prop} (hy : acells e H y = some (q, m)) (hp : ∀ id, y.pid = some id → id < H.next) (hq : q.length = m * e)
    (hb : m * bytes ≤ 140737488355328) (hm : m ≤ 140737488355328)
    (k : ∀ x' H', App ty e H.next H' x' q m → Grow H H' → Ok (f x') H' Q) : Ok ((mappend ty e bytes (.sl H.next 0 0 (.fix 0)) y).bind f) (H.new ⟨ty, [], none⟩) Q := by
  have ha : App ty e H.next (H.new ⟨ty, [], none⟩) (.sl H.next 0 0 (.fix 0)) [] 0 := .lit (get_new_self _ _) (Nat.le_refl _) (by rw [next_new]; omega)
  refine okb_app ha (by rw [next_new]; omega) (by rw [acells_to fun i hi => get_new_ne _ _ (by have := hp i hi; omega)]; exact hy) hq (by simpa using hb) (by omega) fun x' H' h hs => ?_
  refine k x' H' (by simpa using h) ⟨by have := hs.next; rw [next_new] at this; omega, fun i hi => ?_⟩
  rw [hs.same i (by rw [next_new]; omega) (by simp [V.pid]; omega), get_new_ne _ _ (by omega)]

theorem CloneI_ok {lo : Nat} {H : Heap} {v : V} {l : List Int} (h : Il lo H v l) (hl : l.length ≤ 1099511627776) : Ok (sem T fn_slices_Clone_int_int [v]) H fun r H' => Il H.next H' r l ∧ Grow H H' := by
  refine ok_slices_Clone_int_int ?_
  unfold f_slices_Clone_int_int
  rcases h.cases with ⟨rfl, hc, hn⟩ | ⟨id, off, cap, b, rfl, _⟩ | ⟨cs, rfl, _⟩
  · simp (maxSteps := 1000000) (disch := first | omega | (simp only [RY] <;> omega) | decide) only [↓RD, RZ, eq_self, Int.reduceToNat, Int.reduceAdd, Int.reduceSub, Int.reduceMul, Nat.reduceAdd, Nat.reduceSub, Nat.reduceMul, Nat.reduceDiv, Nat.reduceMod, Nat.reduceBEq, Nat.reduceLeDiff]
    have : l = [] := List.eq_nil_of_length_eq_zero hn
    subst this
    exact ⟨Lc.nil, Grow.refl _⟩
  · simp (maxSteps := 1000000) (disch := first | omega | (simp only [RY] <;> omega) | decide) only [↓RD, RZ, eq_self, Int.reduceToNat, Int.reduceAdd, Int.reduceSub, Int.reduceMul, Nat.reduceAdd, Nat.reduceSub, Nat.reduceMul, Nat.reduceDiv, Nat.reduceMod, Nat.reduceBEq, Nat.reduceLeDiff]
    refine okb_copy h.ac (fun i hi => (h.own i hi).2) (by simp) (by omega) (by omega) fun x' H' ha hg => ?_
    simp (maxSteps := 1000000) (disch := first | omega | (simp only [RY] <;> omega) | decide) only [↓RD, RZ, eq_self, Int.reduceToNat, Int.reduceAdd, Int.reduceSub, Int.reduceMul, Nat.reduceAdd, Nat.reduceSub, Nat.reduceMul, Nat.reduceDiv, Nat.reduceMod, Nat.reduceBEq, Nat.reduceLeDiff]
    exact ⟨ha.lc, hg⟩
  · simp (maxSteps := 1000000) (disch := first | omega | (simp only [RY] <;> omega) | decide) only [↓RD, RZ, eq_self, Int.reduceToNat, Int.reduceAdd, Int.reduceSub, Int.reduceMul, Nat.reduceAdd, Nat.reduceSub, Nat.reduceMul, Nat.reduceDiv, Nat.reduceMod, Nat.reduceBEq, Nat.reduceLeDiff]
    refine okb_copy h.ac (fun i hi => (h.own i hi).2) (by simp) (by omega) (by omega) fun x' H' ha hg => ?_
    simp (maxSteps := 1000000) (disch := first | omega | (simp only [RY] <;> omega) | decide) only [↓RD, RZ, eq_self, Int.reduceToNat, Int.reduceAdd, Int.reduceSub, Int.reduceMul, Nat.reduceAdd, Nat.reduceSub, Nat.reduceMul, Nat.reduceDiv, Nat.reduceMod, Nat.reduceBEq, Nat.reduceLeDiff]
    exact ⟨ha.lc, hg⟩

theorem copied_ok {H : Heap} {t : Tm} {a b c : V} (h : TmR 0 H t a b c) (ho : TmO t) : Ok (sem T fn_depend_copied [.agg [.int .i64 t.sp, .int .i64 t.te, a, b, c]]) H fun r H' => (∃ d e f, r = .agg [.int .i64 t.sp, .int .i64 t.te, d, e, f] ∧ TmR H.next H' t d e f) ∧ Grow H H' := by
  have n1 := ho.dti.2
  have n2 := ho.dif.2
  have n3 := ho.cha.2
  refine ok_depend_copied ?_
  unfold f_depend_copied
  simp (maxSteps := 1000000) (disch := first | omega | (simp only [RY] <;> omega) | decide) only [↓RD, RZ, eq_self, Int.reduceToNat, Int.reduceAdd, Int.reduceSub, Int.reduceMul, Nat.reduceAdd, Nat.reduceSub, Nat.reduceMul, Nat.reduceDiv, Nat.reduceMod, Nat.reduceBEq, Nat.reduceLeDiff, h.dti.cells1, h.dti.okc, h.dif.cells1, h.dif.okc, h.cha.cells1, h.cha.okc]
  generalize hH1 : Heap.new (Heap.new H _) _ = H1
  have s1 : Grow H H1 := by rw [← hH1]; exact (Grow.new _ _).trans (Grow.new _ _)
  have m1 : H1.next = H.next + 2 := by rw [← hH1]; rfl
  have g1 : H1.get H.next = some ⟨ty_depend_Template, [.int .i64 t.sp, .int .i64 t.te, a, b, c], none⟩ := by rw [← hH1]; simp (maxSteps := 1000000) (disch := first | omega | (simp only [RY] <;> omega) | decide) only [↓RD, RZ, eq_self, Int.reduceToNat, Int.reduceAdd, Int.reduceSub, Int.reduceMul, Nat.reduceAdd, Nat.reduceSub, Nat.reduceMul, Nat.reduceDiv, Nat.reduceMod, Nat.reduceBEq, Nat.reduceLeDiff]
  have z1 : H1.get (H.next + 1) = some ⟨ty_depend_Template, [.int .i64 0, .int .i64 0, .nils, .nils, .nils], none⟩ := by rw [← hH1]; simp (maxSteps := 1000000) (disch := first | omega | (simp only [RY] <;> omega) | decide) only [↓RD, RZ, eq_self, Int.reduceToNat, Int.reduceAdd, Int.reduceSub, Int.reduceMul, Nat.reduceAdd, Nat.reduceSub, Nat.reduceMul, Nat.reduceDiv, Nat.reduceMod, Nat.reduceBEq, Nat.reduceLeDiff]
  clear hH1
  refine ok_bind' (CloneI_ok (h.dti.ext s1) (by omega)) ?_
  rintro d H2 ⟨hd, s2⟩
  have m2 := s2.next
  have g2 : H2.get H.next = _ := (s2.same _ (by omega)).trans g1
  have z2 : H2.get (H.next + 1) = _ := (s2.same _ (by omega)).trans z1
  simp (maxSteps := 1000000) (disch := first | omega | (simp only [RY] <;> omega) | decide) only [↓RD, RZ, eq_self, Int.reduceToNat, Int.reduceAdd, Int.reduceSub, Int.reduceMul, Nat.reduceAdd, Nat.reduceSub, Nat.reduceMul, Nat.reduceDiv, Nat.reduceMod, Nat.reduceBEq, Nat.reduceLeDiff, g1, g2]
  refine ok_bind' (CloneI_ok (h.dif.ext (s1.trans s2)) (by omega)) ?_
  rintro e H3 ⟨he, s3⟩
  have m3 := s3.next
  have g3 : H3.get H.next = _ := (s3.same _ (by omega)).trans g2
  have z3 : H3.get (H.next + 1) = _ := (s3.same _ (by omega)).trans z2
  simp (maxSteps := 1000000) (disch := first | omega | (simp only [RY] <;> omega) | decide) only [↓RD, RZ, eq_self, Int.reduceToNat, Int.reduceAdd, Int.reduceSub, Int.reduceMul, Nat.reduceAdd, Nat.reduceSub, Nat.reduceMul, Nat.reduceDiv, Nat.reduceMod, Nat.reduceBEq, Nat.reduceLeDiff, g2, g3]
  refine ok_bind' (CloneI_ok (h.cha.ext ((s1.trans s2).trans s3)) (by omega)) ?_
  rintro f H4 ⟨hf, s4⟩
  have m4 := s4.next
  have g4 : H4.get H.next = _ := (s4.same _ (by omega)).trans g3
  have z4 : H4.get (H.next + 1) = _ := (s4.same _ (by omega)).trans z3
  simp (maxSteps := 1000000) (disch := first | omega | (simp only [RY] <;> omega) | decide) only [↓RD, RZ, eq_self, Int.reduceToNat, Int.reduceAdd, Int.reduceSub, Int.reduceMul, Nat.reduceAdd, Nat.reduceSub, Nat.reduceMul, Nat.reduceDiv, Nat.reduceMod, Nat.reduceBEq, Nat.reduceLeDiff, g4, z4, hd.cells1, hd.okc, he.cells1, he.okc, hf.cells1, hf.okc]
  generalize hH5 : Heap.set _ _ _ = H5
  have s5 : Grow H H5 := by
    rw [← hH5]
    have := ((s1.trans s2).trans s3).trans s4
    first
      | exact (this.set (by omega) _).set (by omega) _
      | exact (((this.set (by omega) _).set (by omega) _).set (by omega) _).set (by omega) _
      | exact ((this.set (by omega) _).set (by omega) _).set (by omega) _
  have k5 : Keep H1.next H4 H5 := by
    rw [← hH5]
    have ks := fun (H : Heap) (w : Nat) (b : Option Blk) (hw : w < H1.next) => Keep.set (lo := H1.next) H hw b
    first
      | exact (ks _ _ _ (by omega)).trans (ks _ _ _ (by omega))
      | exact (((ks _ _ _ (by omega)).trans (ks _ _ _ (by omega))).trans (ks _ _ _ (by omega))).trans (ks _ _ _ (by omega))
      | exact ((ks _ _ _ (by omega)).trans (ks _ _ _ (by omega))).trans (ks _ _ _ (by omega))
  clear hH5
  exact ⟨⟨d, e, f, rfl, ⟨((hd.ext (s3.trans s4)).keep k5).low (by omega), (((he.low m2).ext s4).keep k5).low (by omega), ((hf.low (by omega)).keep k5).low (by omega)⟩⟩, s5⟩

/-- What is told of a place's template. -/
def TmQ (lo : Nat) (H : Heap) (o : Option Tm) (r : V) : Prop := match o with
  | none => r = .tup [.agg [.int .i64 0, .int .i64 0, .nils, .nils, .nils], .bool false]
  | some t => ∃ a b c, r = .tup [.agg [.int .i64 t.sp, .int .i64 t.te, a, b, c], .bool true] ∧ TmR lo H t a b c

theorem TmQ.get {lo : Nat} {H : Heap} {o : Option Tm} {r : V} (h : TmQ lo H o r) : ∃ a b c, r = .tup [.agg [.int .i64 (o.getD Tm0).sp, .int .i64 (o.getD Tm0).te, a, b, c], .bool o.isSome] ∧ TmR lo H (o.getD Tm0) a b c := by
  cases o with
  | none => exact ⟨_, _, _, h, Lc.nil, Lc.nil, Lc.nil⟩
  | some t => exact h

theorem rem64 {x : Int} (h0 : 0 ≤ x) (h1 : x < 1000) : Ax.bin .rem (.int .i64 x) (.int .i64 64) = some (.int .i64 (x % 64)) := by
  have e : Int.tmod x 64 = x % 64 := Int.tmod_eq_emod_of_nonneg h0
  simp [Ax.bin, intBin, e, IntKind.wrap, IntKind.signed, IntKind.bits]

theorem template_ok {lo : Nat} {H : Heap} {v : V} {s : Sr} (h : SrR 0 H v s) (ho : SrO s) (hoff : 0 ≤ s.off ∧ s.off ≤ 63) (id : Int) : Ok (sem T fn_depend_template [v, .int .i64 id]) H fun r H' => TmQ H.next H' (tmPl s id) r ∧ Grow H H' := by
  obtain ⟨a, b, c, rfl, h⟩ := h
  have nt := ho.ts
  refine ok_depend_template ?_
  unfold f_depend_template
  unfold scells
  simp (maxSteps := 1000000) (disch := first | omega | (simp only [RY] <;> omega) | decide) only [↓RD, RZ, eq_self, Int.reduceToNat, Int.reduceAdd, Int.reduceSub, Int.reduceMul, Nat.reduceAdd, Nat.reduceSub, Nat.reduceMul, Nat.reduceDiv, Nat.reduceMod, Nat.reduceBEq, Nat.reduceLeDiff, h.ts.cells1, h.ts.okc, h.pro.cells1, h.pro.okc, h.siz.cells1, h.siz.okc]
  generalize hH1 : Heap.new (Heap.new H _) _ = H1
  have s1 : Grow H H1 := by rw [← hH1]; exact (Grow.new _ _).trans (Grow.new _ _)
  have n1 : H1.next = H.next + 2 := by rw [← hH1]; rfl
  have g1 : H1.get H.next = some ⟨ty_depend_Structure, [.int .i64 s.off, .int .i64 s.tar, a, .int .i64 s.cha, b, c], none⟩ := by rw [← hH1]; simp (maxSteps := 1000000) (disch := first | omega | (simp only [RY] <;> omega) | decide) only [↓RD, RZ, eq_self, Int.reduceToNat, Int.reduceAdd, Int.reduceSub, Int.reduceMul, Nat.reduceAdd, Nat.reduceSub, Nat.reduceMul, Nat.reduceDiv, Nat.reduceMod, Nat.reduceBEq, Nat.reduceLeDiff]
  have z1 : H1.get (H.next + 1) = some ⟨ty_depend_Template, [.int .i64 0, .int .i64 0, .nils, .nils, .nils], none⟩ := by rw [← hH1]; simp (maxSteps := 1000000) (disch := first | omega | (simp only [RY] <;> omega) | decide) only [↓RD, RZ, eq_self, Int.reduceToNat, Int.reduceAdd, Int.reduceSub, Int.reduceMul, Nat.reduceAdd, Nat.reduceSub, Nat.reduceMul, Nat.reduceDiv, Nat.reduceMod, Nat.reduceBEq, Nat.reduceLeDiff]
  clear hH1
  have s1' : ∀ b, Grow H (H1.set (H.next + 1) b) := fun b => s1.set (by omega) b
  unfold tmPl
  by_cases a1 : id < 0
  · rw [if_neg (by omega)]
    simp (maxSteps := 1000000) (disch := first | omega | (simp only [RY] <;> omega) | decide) only [↓RD, RZ, eq_self, Int.reduceToNat, Int.reduceAdd, Int.reduceSub, Int.reduceMul, Nat.reduceAdd, Nat.reduceSub, Nat.reduceMul, Nat.reduceDiv, Nat.reduceMod, Nat.reduceBEq, Nat.reduceLeDiff, z1]
    exact ⟨rfl, s1' _⟩
  by_cases a2 : 64 ≤ id
  · rw [if_neg (by omega)]
    simp (maxSteps := 1000000) (disch := first | omega | (simp only [RY] <;> omega) | decide) only [↓RD, RZ, eq_self, Int.reduceToNat, Int.reduceAdd, Int.reduceSub, Int.reduceMul, Nat.reduceAdd, Nat.reduceSub, Nat.reduceMul, Nat.reduceDiv, Nat.reduceMod, Nat.reduceBEq, Nat.reduceLeDiff, z1]
    exact ⟨rfl, s1' _⟩
  rw [if_pos (by omega)]
  have er := rem64 (x := id + 64 - s.off) (by omega) (by omega)
  obtain ⟨m, hm⟩ : ∃ m : Nat, (id + 64 - s.off) % 64 = (m : Int) := ⟨((id + 64 - s.off) % 64).toNat, by omega⟩
  rw [hm] at er ⊢
  rw [Int.toNat_natCast]
  by_cases a3 : s.ts.length ≤ m
  · rw [List.getElem?_eq_none a3]
    simp (maxSteps := 1000000) (disch := first | omega | (simp only [RY] <;> omega) | decide) only [↓RD, RZ, eq_self, Int.reduceToNat, Int.reduceAdd, Int.reduceSub, Int.reduceMul, Nat.reduceAdd, Nat.reduceSub, Nat.reduceMul, Nat.reduceDiv, Nat.reduceMod, Nat.reduceBEq, Nat.reduceLeDiff, g1, er, h.ts.vlen, z1]
    exact ⟨rfl, s1' _⟩
  · have hm' : m < s.ts.length := by omega
    rw [List.getElem?_eq_getElem hm']
    obtain ⟨q, d, e, f, i1, l1, w1⟩ := (h.ts.ext s1).at hm'
    obtain ⟨-, -, -, -, -, l2⟩ := pl5 l1
    simp (maxSteps := 1000000) (disch := first | omega | (simp only [RY] <;> omega) | decide) only [↓RD, RZ, eq_self, Int.reduceToNat, Int.reduceAdd, Int.reduceSub, Int.reduceMul, Nat.reduceAdd, Nat.reduceSub, Nat.reduceMul, Nat.reduceDiv, Nat.reduceMod, Nat.reduceBEq, Nat.reduceLeDiff, g1, er, h.ts.vlen, i1, l2]
    refine ok_bind' (copied_ok w1 (ho.tm _ (List.getElem_mem hm'))) ?_
    rintro _ H2 ⟨⟨d', e', f', rfl, w2⟩, s2⟩
    have z2 : H2.get (H.next + 1) = _ := (s2.same _ (by omega)).trans z1
    simp (maxSteps := 1000000) (disch := first | omega | (simp only [RY] <;> omega) | decide) only [↓RD, RZ, eq_self, Int.reduceToNat, Int.reduceAdd, Int.reduceSub, Int.reduceMul, Nat.reduceAdd, Nat.reduceSub, Nat.reduceMul, Nat.reduceDiv, Nat.reduceMod, Nat.reduceBEq, Nat.reduceLeDiff, z2, w2.dti.cells1, w2.dti.okc, w2.dif.cells1, w2.dif.okc, w2.cha.cells1, w2.cha.okc]
    exact ⟨⟨d', e', f', rfl, (w2.keep (Keep.set (lo := H1.next) H2 (by omega) _)).low (by omega)⟩, (s1.trans s2).set (by omega) _⟩

theorem Tms.at2 {lo : Nat} {H : Heap} {v : V} {ts : List Tm} (h : Tms lo H v ts) {i : Nat} (hi : i < ts.length) : ∃ q a b c, (∀ {k : IntKind}, Ax.iaddr none 5 v (.int k i) = some q) ∧ TmR lo H ts[i] a b c ∧ ∀ H', Grow H H' → Pl H' q [.int .i64 ts[i].sp, .int .i64 ts[i].te, a, b, c] v.pid := by
  obtain ⟨ws, rfl, h2, h3⟩ := h
  rw [List.length_map] at hi
  obtain ⟨p, hp, -⟩ := h2.at (i := (i : Nat)) (by omega) (by omega)
  refine ⟨p, ws[i].2.1, ws[i].2.2.1, ws[i].2.2.2, hp, by simpa using h3 _ (List.getElem_mem hi), fun H' s => ?_⟩
  obtain ⟨p', hp', hl⟩ := (h2.ext s).at (i := (i : Nat)) (by omega) (by omega)
  have : p = p' := by
    have := (hp (k := .i64)).symm.trans (hp' (k := .i64))
    simpa using this
  subst this
  have e : ((ws.map tc).flatten.drop (i * 5)).take 5 = tc ws[i] := by
    rw [flat_piece _ (tc_len ws) i (by rw [List.length_map]; exact hi), List.getElem_map]
  rw [Int.toNat_natCast, e] at hl
  simpa [tc] using hl

/-- The structure that holds, in memory. -/
def HoC (f : Fr) (a b c p q r x y z : V) : Prop := if f.new = true then x = a ∧ y = b ∧ z = c else x = p ∧ y = q ∧ z = r
theorem HoC.src {H : Heap} {f : Fr} {k : Sr} {a b c d e g p q r x y z : V} (h : HoC f a b c p q r x y z) (hf : FrC 0 H f a b c d e g) (hk : SrC 0 H k p q r) : SrC 0 H (hold f k) x y z := by
  unfold HoC at h
  unfold hold
  split at h
  · obtain ⟨rfl, rfl, rfl⟩ := h; rw [if_pos ‹_›]; exact hf.s
  · obtain ⟨rfl, rfl, rfl⟩ := h; rw [if_neg ‹_›]; exact hk

/-- The structure that holds. -/
theorem hold_ok {H : Heap} {f : Fr} {k : Sr} {a b c d e g p q r : V} (hf : FrC 0 H f a b c d e g) (hk : SrC 0 H k p q r) :
    Ok (sem T fn_depend_holds [.agg (fcells f a b c d e g), .agg (scells k p q r)]) H fun v H' => (∃ x y z, v = .agg (scells (hold f k) x y z) ∧ HoC f a b c p q r x y z) ∧ Grow H H' := by
  obtain ⟨ca, cb, cc, cd, ce, cg⟩ := fr_dti hf
  refine ok_depend_holds ?_
  unfold f_depend_holds
  unfold fcells scells hold HoC
  simp (maxSteps := 1000000) (disch := first | omega | (simp only [RY] <;> omega) | decide) only [↓RD, RZ, eq_self, Int.reduceToNat, Int.reduceAdd, Int.reduceSub, Int.reduceMul, Nat.reduceAdd, Nat.reduceSub, Nat.reduceMul, Nat.reduceDiv, Nat.reduceMod, Nat.reduceBEq, Nat.reduceLeDiff, ca.1, ca.2, cb.1, cb.2, cc.1, cc.2, cd.1, cd.2, ce.1, ce.2, cg.1, cg.2, hk.ts.cells1, hk.ts.okc, hk.pro.cells1, hk.pro.okc, hk.siz.cells1, hk.siz.okc]
  cases f.new with
  | true =>
    simp (maxSteps := 1000000) (disch := first | omega | (simp only [RY] <;> omega) | decide) only [↓RD, RZ, eq_self, Int.reduceToNat, Int.reduceAdd, Int.reduceSub, Int.reduceMul, Nat.reduceAdd, Nat.reduceSub, Nat.reduceMul, Nat.reduceDiv, Nat.reduceMod, Nat.reduceBEq, Nat.reduceLeDiff, ca.1, ca.2, cb.1, cb.2, cc.1, cc.2]
    have s1 : ∀ x y z w, Grow H ((((H.new x).new y).new z).set (H.next + 1 + 1) w) := fun x y z w => (((Grow.new _ _).trans (Grow.new _ _)).trans (Grow.new _ _)).set (by omega) _
    exact ⟨⟨a, b, c, rfl, rfl, rfl, rfl⟩, s1 _ _ _ _⟩
  | false =>
    simp (maxSteps := 1000000) (disch := first | omega | (simp only [RY] <;> omega) | decide) only [↓RD, RZ, eq_self, Int.reduceToNat, Int.reduceAdd, Int.reduceSub, Int.reduceMul, Nat.reduceAdd, Nat.reduceSub, Nat.reduceMul, Nat.reduceDiv, Nat.reduceMod, Nat.reduceBEq, Nat.reduceLeDiff, hk.ts.cells1, hk.ts.okc, hk.pro.cells1, hk.pro.okc, hk.siz.cells1, hk.siz.okc]
    have s1 : ∀ x y z w, Grow H ((((H.new x).new y).new z).set (H.next + 1 + 1) w) := fun x y z w => (((Grow.new _ _).trans (Grow.new _ _)).trans (Grow.new _ _)).set (by omega) _
    exact ⟨⟨p, q, r, rfl, rfl, rfl, rfl⟩, s1 _ _ _ _⟩

end Go.Ax.D9
/- DepS2 -/
set_option maxRecDepth 100000
set_option linter.unusedVariables false
set_option linter.unusedSimpArgs false
namespace Go.Ax.D9
open Go.Ax
theorem SrO.hold {f : Fr} {k : Sr} (hf : FrO f) (hk : SrO k) : SrO (hold f k) := by
  unfold D9.hold; split
  · exact hf.s
  · exact hk

theorem tmOf_fine {s : Sr} {id : Int} {t : Tm} (h : tmOf s id = some t) : Fine s := by
  unfold tmOf at h
  split at h
  · exact fine_iff.1 ‹_›
  · cases h

theorem Of_ok {H : Heap} {v w : V} {f : Fr} {k : Sr} (hf : FrR 0 H v f) (hk : SrR 0 H w k) (fo : FrO f) (ko : SrO k) :
    Ok (sem T fn_depend_Of [v, w]) H fun r H' => TmQ 0 H' (tmOf (hold f k) f.id) r ∧ Grow H H' := by
  obtain ⟨a, b, c, d, e, g, rfl, hf⟩ := hf
  obtain ⟨p, q, r, rfl, hk⟩ := hk
  obtain ⟨ca, cb, cc, cd, ce, cg⟩ := fr_dti hf
  refine ok_depend_Of ?_
  unfold f_depend_Of
  unfold fcells scells
  simp (maxSteps := 1000000) (disch := first | omega | (simp only [RY] <;> omega) | decide) only [↓RD, RZ, eq_self, Int.reduceToNat, Int.reduceAdd, Int.reduceSub, Int.reduceMul, Nat.reduceAdd, Nat.reduceSub, Nat.reduceMul, Nat.reduceDiv, Nat.reduceMod, Nat.reduceBEq, Nat.reduceLeDiff, ca.1, ca.2, cb.1, cb.2, cc.1, cc.2, cd.1, cd.2, ce.1, ce.2, cg.1, cg.2, hk.ts.cells1, hk.ts.okc, hk.pro.cells1, hk.pro.okc, hk.siz.cells1, hk.siz.okc]
  generalize hH1 : Heap.new (Heap.new (Heap.new H _) _) _ = H1
  have s1 : Grow H H1 := by rw [← hH1]; exact ((Grow.new _ _).trans (Grow.new _ _)).trans (Grow.new _ _)
  have n1 : H1.next = H.next + 3 := by rw [← hH1]; rfl
  have f1 : H1.get H.next = some ⟨ty_depend_Frame, fcells f a b c d e g, none⟩ := by rw [← hH1]; unfold fcells; simp (maxSteps := 1000000) (disch := first | omega | (simp only [RY] <;> omega) | decide) only [↓RD, RZ, eq_self, Int.reduceToNat, Int.reduceAdd, Int.reduceSub, Int.reduceMul, Nat.reduceAdd, Nat.reduceSub, Nat.reduceMul, Nat.reduceDiv, Nat.reduceMod, Nat.reduceBEq, Nat.reduceLeDiff]
  have z1 : H1.get (H.next + 2) = some ⟨ty_depend_Template, [.int .i64 0, .int .i64 0, .nils, .nils, .nils], none⟩ := by rw [← hH1]; simp (maxSteps := 1000000) (disch := first | omega | (simp only [RY] <;> omega) | decide) only [↓RD, RZ, eq_self, Int.reduceToNat, Int.reduceAdd, Int.reduceSub, Int.reduceMul, Nat.reduceAdd, Nat.reduceSub, Nat.reduceMul, Nat.reduceDiv, Nat.reduceMod, Nat.reduceBEq, Nat.reduceLeDiff]
  clear hH1
  unfold fcells at f1
  refine ok_bind' (hold_ok (hf.ext s1) (hk.ext s1)) ?_
  rintro _ H2 ⟨⟨x, y, z, rfl, hh0⟩, s2⟩
  have hh0 := hh0.src hf hk
  have hh := hh0.ext (s1.trans s2)
  have so := SrO.hold fo ko
  have n2 := s2.next
  have f2 : H2.get H.next = _ := (s2.same _ (by omega)).trans f1
  have z2 : H2.get (H.next + 2) = _ := (s2.same _ (by omega)).trans z1
  generalize hold f k = s at *
  unfold scells
  simp (maxSteps := 1000000) (disch := first | omega | (simp only [RY] <;> omega) | decide) only [↓RD, RZ, eq_self, Int.reduceToNat, Int.reduceAdd, Int.reduceSub, Int.reduceMul, Nat.reduceAdd, Nat.reduceSub, Nat.reduceMul, Nat.reduceDiv, Nat.reduceMod, Nat.reduceBEq, Nat.reduceLeDiff, hh.ts.cells1, hh.ts.okc, hh.pro.cells1, hh.pro.okc, hh.siz.cells1, hh.siz.okc]
  generalize hH3 : Heap.set _ _ _ = H3
  have s3 : Grow H2 H3 := by rw [← hH3]; exact (Grow.new _ _).set (by omega) _
  have n3 : H3.next = H2.next + 1 := by rw [← hH3]; rfl
  have g3 : H3.get H2.next = some ⟨ty_depend_Structure, [.int .i64 s.off, .int .i64 s.tar, x, .int .i64 s.cha, y, z], none⟩ := by rw [← hH3]; simp (maxSteps := 1000000) (disch := first | omega | (simp only [RY] <;> omega) | decide) only [↓RD, RZ, eq_self, Int.reduceToNat, Int.reduceAdd, Int.reduceSub, Int.reduceMul, Nat.reduceAdd, Nat.reduceSub, Nat.reduceMul, Nat.reduceDiv, Nat.reduceMod, Nat.reduceBEq, Nat.reduceLeDiff]
  clear hH3
  have f3 : H3.get H.next = _ := (s3.same _ (by omega)).trans f2
  have z3 : H3.get (H.next + 2) = _ := (s3.same _ (by omega)).trans z2
  refine ok_bind' (Fine_ok (hh.ext s3).val so) ?_
  rintro _ H4 ⟨rfl, s4⟩
  have n4 := s4.next
  have f4 : H4.get H.next = _ := (s4.same _ (by omega)).trans f3
  have z4 : H4.get (H.next + 2) = _ := (s4.same _ (by omega)).trans z3
  have g4 : H4.get H2.next = _ := (s4.same _ (by omega)).trans g3
  have s14 := ((s1.trans s2).trans s3).trans s4
  unfold tmOf
  cases hfi : fine s with
  | false =>
    rw [if_neg (by decide)]
    simp (maxSteps := 1000000) (disch := first | omega | (simp only [RY] <;> omega) | decide) only [↓RD, RZ, eq_self, Int.reduceToNat, Int.reduceAdd, Int.reduceSub, Int.reduceMul, Nat.reduceAdd, Nat.reduceSub, Nat.reduceMul, Nat.reduceDiv, Nat.reduceMod, Nat.reduceBEq, Nat.reduceLeDiff, z4]
    exact ⟨rfl, s14.set (by omega) _⟩
  | true =>
    rw [if_pos rfl]
    have off := (fine_iff.1 hfi).off
    simp (maxSteps := 1000000) (disch := first | omega | (simp only [RY] <;> omega) | decide) only [↓RD, RZ, eq_self, Int.reduceToNat, Int.reduceAdd, Int.reduceSub, Int.reduceMul, Nat.reduceAdd, Nat.reduceSub, Nat.reduceMul, Nat.reduceDiv, Nat.reduceMod, Nat.reduceBEq, Nat.reduceLeDiff, g4, f4]
    refine ok_bind' (template_ok (lo := 0) (hh.ext (s3.trans s4)).val so off f.id) ?_
    rintro _ H5 ⟨hq, s5⟩
    have z5 : H5.get (H.next + 2) = _ := (s5.same _ (by omega)).trans z4
    obtain ⟨a', b', c', rfl, w⟩ := hq.get
    simp (maxSteps := 1000000) (disch := first | omega | (simp only [RY] <;> omega) | decide) only [↓RD, RZ, eq_self, Int.reduceToNat, Int.reduceAdd, Int.reduceSub, Int.reduceMul, Nat.reduceAdd, Nat.reduceSub, Nat.reduceMul, Nat.reduceDiv, Nat.reduceMod, Nat.reduceBEq, Nat.reduceLeDiff, z5, w.dti.cells1, w.dti.okc, w.dif.cells1, w.dif.okc, w.cha.cells1, w.cha.okc]
    have k5 : ∀ b, Keep H4.next H5 (H5.set (H.next + 2) b) := fun b => Keep.set _ (by omega) b
    refine ⟨?_, (s14.trans s5).set (by omega) _⟩
    cases ho : tmPl s f.id with
    | none =>
      rw [ho] at hq
      have hq : V.tup _ = V.tup _ := hq
      simp only [V.tup.injEq, List.cons.injEq, V.agg.injEq] at hq
      obtain ⟨⟨-, -, rfl, rfl, rfl, -⟩, -⟩ := hq
      rfl
    | some t =>
      rw [ho] at w
      exact ⟨a', b', c', rfl, (w.keep (k5 _)).low (by omega)⟩

/-- Nothing in it. -/
def isZ (s : Sr) : Bool := decide (s.off = 0 ∧ s.tar = 0 ∧ s.cha = 0 ∧ s.ts.length = 0 ∧ s.pro.length = 0 ∧ s.siz.length = 0)

theorem none_ok {lo : Nat} {H : Heap} {s : Sr} {a b c : V} (h : SrC lo H s a b c) (ho : SrO s) : Ok (sem T fn_depend_none [.agg (scells s a b c)]) H fun r H' => r = .bool (isZ s) ∧ Grow H H' := by
  have n1 := ho.ts
  have n2 := ho.pro.2
  have n3 := ho.siz.1
  have hv1 := h.ts.vlen
  have hv2 := h.pro.vlen
  have hv3 := h.siz.vlen
  have e1 : (s.ts.length : Int) + (s.pro.length : Nat) = ((s.ts.length + s.pro.length : Nat) : Int) := rfl
  have e2 : ((s.ts.length + s.pro.length : Nat) : Int) + (s.siz.length : Nat) = ((s.ts.length + s.pro.length + s.siz.length : Nat) : Int) := rfl
  refine ok_depend_none ?_
  unfold f_depend_none
  unfold scells isZ
  by_cases a1 : s.off = 0
  · by_cases a2 : s.tar = 0
    · by_cases a3 : s.cha = 0
      · by_cases a4 : s.ts.length + s.pro.length + s.siz.length = 0
        · simp (maxSteps := 1000000) (disch := first | omega | (simp only [RY] <;> omega) | decide) only [↓RD, RZ, eq_self, Int.reduceToNat, Int.reduceAdd, Int.reduceSub, Int.reduceMul, Nat.reduceAdd, Nat.reduceSub, Nat.reduceMul, Nat.reduceDiv, Nat.reduceMod, Nat.reduceBEq, Nat.reduceLeDiff, h.ts.cells1, h.ts.okc, h.pro.cells1, h.pro.okc, h.siz.cells1, h.siz.okc, hv1, hv2, hv3, a1, a2, a3, e1, e2, a4]
          exact ⟨by rw [decide_eq_true (by omega)], Grow.new _ _⟩
        · simp (maxSteps := 1000000) (disch := first | omega | (simp only [RY] <;> omega) | decide) only [↓RD, RZ, eq_self, Int.reduceToNat, Int.reduceAdd, Int.reduceSub, Int.reduceMul, Nat.reduceAdd, Nat.reduceSub, Nat.reduceMul, Nat.reduceDiv, Nat.reduceMod, Nat.reduceBEq, Nat.reduceLeDiff, h.ts.cells1, h.ts.okc, h.pro.cells1, h.pro.okc, h.siz.cells1, h.siz.okc, hv1, hv2, hv3, a1, a2, a3, e1, e2]
          exact ⟨by rw [decide_eq_false (by omega)], Grow.new _ _⟩
      · simp (maxSteps := 1000000) (disch := first | omega | (simp only [RY] <;> omega) | decide) only [↓RD, RZ, eq_self, Int.reduceToNat, Int.reduceAdd, Int.reduceSub, Int.reduceMul, Nat.reduceAdd, Nat.reduceSub, Nat.reduceMul, Nat.reduceDiv, Nat.reduceMod, Nat.reduceBEq, Nat.reduceLeDiff, h.ts.cells1, h.ts.okc, h.pro.cells1, h.pro.okc, h.siz.cells1, h.siz.okc, a1, a2]
        exact ⟨by rw [decide_eq_false (by omega)], Grow.new _ _⟩
    · simp (maxSteps := 1000000) (disch := first | omega | (simp only [RY] <;> omega) | decide) only [↓RD, RZ, eq_self, Int.reduceToNat, Int.reduceAdd, Int.reduceSub, Int.reduceMul, Nat.reduceAdd, Nat.reduceSub, Nat.reduceMul, Nat.reduceDiv, Nat.reduceMod, Nat.reduceBEq, Nat.reduceLeDiff, h.ts.cells1, h.ts.okc, h.pro.cells1, h.pro.okc, h.siz.cells1, h.siz.okc, a1]
      exact ⟨by rw [decide_eq_false (by omega)], Grow.new _ _⟩
  · simp (maxSteps := 1000000) (disch := first | omega | (simp only [RY] <;> omega) | decide) only [↓RD, RZ, eq_self, Int.reduceToNat, Int.reduceAdd, Int.reduceSub, Int.reduceMul, Nat.reduceAdd, Nat.reduceSub, Nat.reduceMul, Nat.reduceDiv, Nat.reduceMod, Nat.reduceBEq, Nat.reduceLeDiff, h.ts.cells1, h.ts.okc, h.pro.cells1, h.pro.okc, h.siz.cells1, h.siz.okc]
    exact ⟨by rw [decide_eq_false (by omega)], Grow.new _ _⟩

end Go.Ax.D9
