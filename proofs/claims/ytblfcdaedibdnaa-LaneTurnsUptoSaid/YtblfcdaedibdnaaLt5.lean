/-
  Texts of mine, put together by program (wip/slim.py), for law_laneTurns: part 5.
-/
import Derived.Test.YtblfcdaedibdnaaLt4
import Derived.Test.YtblfcdaedibdnaaProg
import Derived.KernelRfl
set_option linter.unusedVariables false
set_option linter.unusedSimpArgs false
set_option linter.defProp false
set_option maxRecDepth 100000
/- FnD0 -/
namespace Go.Ax
open Go.Proofs
def zcI : TypeId := 3
def zf2 : TypeId := 4
def zaD : TypeId := 5
def zag : TypeId := 26
def zeL : TypeId := 27
def za9 : TypeId := 28
def zal : TypeId := 30
def zaf : TypeId := 39
def zaw : TypeId := 44
def zak : TypeId := 54
def zaq : TypeId := 57
def zam : TypeId := 78
def zbn : TypeId := 82
def zaB : TypeId := 89
def zaE : TypeId := 105
def za5 : TypeId := 107
def zaj : TypeId := 117
def zaZ : TypeId := 145
def zhf : TypeId := 151
def zbK : TypeId := 160
def zbm : TypeId := 163
def zeA : TypeId := 176
def zei : TypeId := 185
def zcW : TypeId := 187
def zcH : TypeId := 198
def zgf : TypeId := 204
def zcs : TypeId := 211
def zaF : TypeId := 222
def zgg : TypeId := 224
def zdL : FuncId := 7
def zdV : FuncId := 39
def zev : FuncId := 89
def zbF : FuncId := 40
def zaW : FuncId := 41
def zaH : FuncId := 43
def za4 : FuncId := 18
def zbQ : FuncId := 27
def zbN : FuncId := 31
def zbU : FuncId := 36
def zca : FuncId := 29
def za8 : FuncId := 64
def zbV : FuncId := 33
def zbq : FuncId := 82
def zay : FuncId := 83
def zbY : FuncId := 84
def zbp : FuncId := 88
def zaS : FuncId := 34
def zav : FuncId := 73
def zae : FuncId := 72
def zaN : FuncId := 74
def zbE : FuncId := 75
def zaO : FuncId := 125
def zbP : FuncId := 153
def za7 : FuncId := 42
def zdo : FuncId := 91
def zet : FuncId := 129
def zcz : FuncId := 156
def zdj : FuncId := 157
def zaG : FuncId := 155
def zaK : FuncId := 158
def zd0 : FuncId := 131
def zcy : FuncId := 130
def zcY : FuncId := 132
def zeu : FuncId := 92
def zeU : FuncId := 133
def zes : FuncId := 159
def zbf : FuncId := 118
def zdm : FuncId := 35
def zd2 : FuncId := 28
def zct : FuncId := 62
def zcf : FuncId := 32
def zaX : FuncId := 76
def zcl : FuncId := 127
def za6 : FuncId := 126
def zbg : FuncId := 154
def zcN : FuncId := 77
def zdl : FuncId := 123
def zcC : FuncId := 78
def zcd : FuncId := 80
def zbt : FuncId := 81
def zcu : FuncId := 87
def zar : FuncId := 79
def zax : FuncId := 128
def zcm : FuncId := 63
def zcO : FuncId := 121
def za3 : FuncId := 150
def zdk : FuncId := 85
def za1 : FuncId := 86
def zcb : FuncId := 93
def zea : FuncId := 53
def zdp : FuncId := 112
def zcg : FuncId := 113
def zbZ : FuncId := 114
def zck : FuncId := 134
def zcX : FuncId := 54
def zdJ : FuncId := 115
def zcL : FuncId := 94
def zd1 : FuncId := 16
def zcQ : FuncId := 23
def zfc : FuncId := 19
def zew : FuncId := 135
def zdS : FuncId := 136
def zaQ : FuncId := 138
def zbc : FuncId := 160
def zex : FuncId := 95
def zbe : FuncId := 137
def za0 : FuncId := 139
def zdR : FuncId := 55
def zcP : FuncId := 58
def zfb : FuncId := 96
def zdK : FuncId := 140
def zbd : FuncId := 161
def za2 : FuncId := 162
def zcK : FuncId := 97
def zcZ : FuncId := 141
def zcA : FuncId := 164
def zaT : FuncId := 163
def zas : FuncId := 142
def zcB : FuncId := 90
def zbh : FuncId := 44
def zbl : FuncId := 45
def zdT : FuncId := 10
def zcM : FuncId := 49
def zdW : FuncId := 52
def zeV : FuncId := 50
def zeW : FuncId := 51
def zbi : FuncId := 11
def zbO : FuncId := 56
def zaz : FuncId := 116
def zba : FuncId := 117
def zbW : FuncId := 57
def zdU : FuncId := 13
def zfK : FuncId := 59
def zgQ : FuncId := 119
def zf1 : FuncId := 120
def zeX : FuncId := 37
def hintRows : List (Nat × List (List Nat)) := [
 (zdL, [[0, 1, 2, 3, 4, 5, 6, 8, 9, 7, 10], [0, 1, 2, 3, 4, 5, 6, 8, 9, 7, 10], [], [12], [], [0, 1, 2, 3, 4, 5, 6, 8, 9, 7, 10], [0, 1, 2, 3, 4, 5, 6, 8, 9, 7, 10], [0, 1, 2, 3, 4, 5, 6, 8, 9, 7, 10]]),
 (zdV, []),
 (zev, []),
 (zbF, [[0, 1, 2, 3, 4, 5, 6, 8, 9, 7, 10], [0, 1, 2, 3, 4, 5, 6, 8, 9, 7, 10]]),
 (zaW, [[0, 1, 2, 3], [0, 2, 1, 3, 4, 5, 6, 7, 8], [0, 1, 2, 3, 4, 5, 6, 7, 8, 9], []]),
 (zaH, []),
 (za4, [[], [4], [], [0, 1, 2, 3, 4, 5, 6, 7, 8, 9, 10]]),
 (zbQ, [[0, 1, 2, 3, 4, 5, 6, 7, 8, 9, 10, 11, 13, 14, 15, 16, 17, 18, 19, 20, 21, 22, 23, 24, 25, 26, 27, 28, 12, 29, 30]]),
 (zbN, [[], [10], [], [], [], [8], [], [9], [9], [9], [], [7], [], [], [0, 1, 2, 3, 4, 5, 6, 7, 8], []]),
 (zbU, []),
 (zca, []),
 (za8, []),
 (zbV, [[], [7], [], [0, 1, 2, 3, 4, 5, 6, 7, 8, 9, 10, 11, 12, 13, 14], [0, 1, 2, 3, 4, 5, 6, 7, 8, 9, 10, 11, 12, 13, 17, 18, 14, 15, 16, 19, 20, 21, 22], [6], [], [4], [], [0, 1, 2, 3, 4, 5, 6, 7, 8, 9, 10, 11, 12]]),
 (zbq, [[]]),
 (zay, [[], [9], []]),
 (zbY, [[3], [3, 4], [3]]),
 (zbp, []),
 (zaS, [[], [5], [], [0, 1, 2, 3, 4, 5, 6, 7, 8]]),
 (zav, []),
 (zae, [[], [7], []]),
 (zaN, [[], [4], [], []]),
 (zbE, [[], [14], [], [], [], [12], [], [], [13], [], [], [11], [], [0, 1, 2, 3, 4, 5, 6, 7, 8, 9, 10], [], [9], [], [], [10], [], [], [7], [], [], [8], [], [], [5], [], [6], [0, 1, 2, 3, 4, 5, 6, 7, 8, 9, 10, 11, 12]]),
 (zaO, []),
 (zbP, [[4], [4, 5], [4]]),
 (za7, [[0, 1, 2, 3, 4, 5, 6, 7, 8, 9, 10, 11], [0, 1, 2, 3, 4, 5, 6, 8, 7], [0, 1, 2, 3, 4, 5, 6, 7, 8, 9, 10, 11, 15, 16, 12, 13, 14, 17, 18, 19], [], [0, 1, 2, 3, 4, 5, 6, 7, 8, 9, 10]]),
 (zdo, [[4], [4], [4], [4, 27], [4], [0, 1, 2, 4, 5, 3, 6, 7], [0, 2, 3, 4, 1, 5, 6]]),
 (zet, [[]]),
 (zcz, []),
 (zdj, []),
 (zaG, []),
 (zaK, [[], [8], []]),
 (zd0, [[4], [3], [3], [0, 1, 2, 3, 4, 5, 6, 7, 8, 9]]),
 (zcy, [[0], [0, 7], [0]]),
 (zcY, [[3], [3], [3], [3], [3, 9], [3], [3]]),
 (zeu, []),
 (zeU, []),
 (zes, []),
 (zbf, []),
 (zdm, [[]]),
 (zd2, []),
 (zct, []),
 (zcf, [[], [71], [], [3]]),
 (zaX, []),
 (zcl, []),
 (za6, []),
 (zbg, [[], [8], []]),
 (zcN, [[], [12], []]),
 (zdl, [[]]),
 (zcC, [[3], [3, 9], [3]]),
 (zcd, []),
 (zbt, []),
 (zcu, []),
 (zar, []),
 (zax, [[], [8], []]),
 (zcm, []),
 (zcO, [[0, 1, 3, 4, 6, 7, 2, 5, 8, 9, 10, 11, 12, 13, 14]]),
 (za3, []),
 (zdk, []),
 (za1, [[], [13], [], [0, 1, 2, 3, 4, 5, 6, 7, 8]]),
 (zcb, [[], [0, 1, 2, 3, 4, 5, 6, 7, 8, 9, 10, 11, 12, 13], []]),
 (zea, [[0, 1, 2, 3, 4, 5, 6], []]),
 (zdp, []),
 (zcg, []),
 (zbZ, []),
 (zck, []),
 (zcX, [[], [0, 1, 2, 3, 4, 8, 5, 6, 7, 9, 10, 11]]),
 (zdJ, []),
 (zcL, [[], [0, 1, 2, 3, 4, 5, 6, 7, 8, 9, 10, 11, 12, 13], [0, 1, 2, 3, 4, 5, 6, 7, 8, 9, 10, 11, 12, 13, 14], [0, 1, 2, 3, 4, 5, 6, 7, 8, 9, 10, 11, 12, 13, 14, 15]]),
 (zd1, [[10, 13], [10, 11, 12, 13, 23], [10, 11, 12, 13], [10, 11, 12, 13]]),
 (zcQ, [[4, 5, 6], [4, 5, 6, 25], [4, 5, 6], [4, 5, 6], [0, 1, 2, 3, 4, 5, 6, 7, 8, 9, 10]]),
 (zfc, []),
 (zew, [[], [11], []]),
 (zdS, []),
 (zaQ, []),
 (zbc, [[], [8], []]),
 (zex, [[6], [6, 7], [6], [6]]),
 (zbe, []),
 (za0, [[], [2, 3], [], [0, 1, 2, 3, 4, 5, 6, 7, 8, 9, 10, 11, 12, 13, 14, 15]]),
 (zdR, [[], [], [0, 1, 2, 3, 4, 5, 6, 7, 8, 9], [9]]),
 (zcP, [[]]),
 (zfb, [[0, 1, 2, 3, 4, 5, 6, 7]]),
 (zdK, [[], [19], [], [0, 1, 2, 3, 4, 5, 6, 7, 8, 9, 10, 11, 12], [0, 1, 3, 4, 6, 7, 2, 5, 8, 9, 10, 11, 12, 13, 14]]),
 (zbd, []),
 (za2, []),
 (zcK, [[], [0, 1, 2, 3, 4, 5, 6, 7, 8, 9, 10, 11, 12, 13], []]),
 (zcZ, []),
 (zcA, []),
 (zaT, [[], [8], []]),
 (zas, [[0, 1, 2, 3, 4, 5, 6, 7]]),
 (zcB, []),
 (zbh, [[3], [3, 5], [3], [3], [3, 4], [3]]),
 (zbl, [[], [0, 1, 2, 3, 4, 5]]),
 (zdT, [[], [4, 5, 6], [4, 5], [4], [4], [0, 1, 2, 3, 4, 5, 6, 7, 8, 10, 11, 9, 12]]),
 (zcM, []),
 (zdW, []),
 (zeV, [[], [5], []]),
 (zeW, [[], [7], []]),
 (zbi, [[], [6, 7], [6], [], [0, 1, 2, 3, 4, 5, 6, 7, 8, 9, 10, 11, 12, 13, 14, 15, 16, 17, 18, 19, 20, 21, 22, 23, 24, 25, 26, 27, 28, 29, 30, 31, 32], [], [0, 1, 2, 3, 4, 6, 5, 7, 8, 9, 11, 12, 10, 13]]),
 (zbO, [[11], [6], [0, 1, 2, 3, 4, 5, 6, 7, 8, 9, 10, 11, 12, 13, 14], [], [7], [], [0, 1, 2, 3, 4, 5, 6, 7, 8, 9, 10, 11], [0, 1, 2, 3, 4, 5, 6, 7, 8, 9, 12, 15, 10, 13, 16, 11, 14, 17, 18, 19, 20]]),
 (zaz, [[7], [7, 8], [7]]),
 (zba, [[6], [6, 7], [6, 7], [8, 9, 10], [0, 1, 2, 3, 4, 5, 6, 7, 8, 9, 10, 11, 12, 13, 14, 15, 16, 17], [9]]),
 (zbW, [[], [6], []]),
 (zdU, [[], [14], [], [0, 1, 2, 3, 4, 5, 6, 7, 8, 9, 10, 11, 12, 13, 14, 15, 16, 17, 18, 19, 20, 21, 22, 23, 24, 25, 26], [8], [8, 9], [8], [0, 1, 2, 4, 3, 5, 6, 7, 9, 10, 8, 11]]),
 (zfK, [[5], [5, 13], [5], [5]]),
 (zgQ, [[3], [3, 9], [3], [3], [3, 18], [3], [3]]),
 (zf1, []),
 (zeX, [])]
def hintOf : List (Nat × List (List Nat)) → FuncId → List (List Nat)
 | [], _ => []
 | (g, h) :: l, f => if g = f then h else hintOf l f
noncomputable def T : FuncId → Option Fn' := table Try.prog (hintOf hintRows)
noncomputable def irOf (f : FuncId) : Fn' := (T f).getD ⟨0, [], .bad⟩
theorem sound : SemOk Try.prog (sem T) := sem_ok _ _
end Go.Ax
/- FnD1 -/
namespace Go.Ax
open Go.Proofs
abbrev OkT (f : FuncId) (us : List V) (x : M Res) : Prop := ∀ {H : Heap} {Q : V → Heap → Prop}, Ok x H (fun r H' => ∃ L, r = .ret L ∧ Q (zdD L) H') → Ok (sem T f us) H Q
theorem okT {f : FuncId} {us : List V} {x : M Res} (hT : T f = some (irOf f)) (hl : Nat.ble us.length (irOf f).ntmps = true) (hx : zdC (sem T) (irOf f).rv (irOf f).body [] [] (params 0 us) = x) : OkT f us x := fun h => ok_sem hT (Nat.le_of_ble_eq_true hl) hx h
noncomputable def zgv (G : Sem') (t0 : V) : M Res :=
 (G zev []).bind fun t4 =>
 (M.lift (Ax.build [(V.int .u32 0), (V.int .i64 0), (V.int .i64 0), (V.bool false), (V.int .i64 0), (V.int .i64 0), (V.bool false), (V.int .u16 0), (V.int .u32 0), (V.int .u32 0), (V.int .u16 0), (V.int .u16 0), (V.int .i64 0), V.nils, V.nilp, (V.bool false)] [(0, 1, t0), (1, 1, (V.int .i64 3)), (2, 1, (V.int .i64 7)), (14, 1, t4)])).bind fun t5 =>
 (mbox zbK t5).bind fun t6 =>
 M.pure (.ret [t6])
theorem zg6 {t0 : V} : OkT zdV [t0] (zgv (sem T) t0) := okT (by kernel_rfl) (by kernel_rfl) (by kernel_rfl)
noncomputable def zgr (G : Sem') : M Res :=
 (M.lift (Ax.build [V.nils] [])).bind fun t1 =>
 (mbox zcs t1).bind fun t2 =>
 M.pure (.ret [t2])
theorem zg1 : OkT zev [] (zgr (sem T)) := okT (by kernel_rfl) (by kernel_rfl) (by kernel_rfl)
noncomputable def zdd (G : Sem') : M Res :=
 (G zdV [(V.int .u32 9)]).bind fun t8 =>
 (M.lift (eqr .ptr false t8 V.nilp)).bind fun t10 =>
 M.ite t10
 (M.pure (.ret [(V.bool false)]))
 ((M.lift (Ax.build [(V.bool false), (V.bool false), (V.int .i64 0), (V.int .u16 0), (V.bool false), (V.int .i64 0), (V.int .i64 0), V.nils, (V.int .i64 0), V.nils, V.nils, (V.bool false), (V.int .u32 0), (V.bool false), (V.bool false), (V.bool false), V.nils, V.nils, V.nils] [(0, 1, (V.bool true)), (3, 1, (V.int .u16 4))])).bind fun t12 =>
 (mslit zaD 1 [(V.int .u8 0)] [(0, 1, (V.int .u8 120))]).bind fun t13 =>
 (mremark zaD t13).bind fun t14 =>
 (G zaW [t12, (V.int .u16 0), t14]).bind fun t15 =>
 (M.lift (Ax.ext 0 t15)).bind fun t16 =>
 (M.lift (Ax.ext 1 t15)).bind fun t17 =>
 (mbox zam (V.agg [(V.bool false), (V.int .i64 0), (V.int .u16 0), (V.int .u32 0), (V.int .u32 0), V.nils, (V.int .i64 0), V.nils, (V.int .i64 0), V.nils])).bind fun t2 =>
 (mbox zal (V.agg [(V.bool false), (V.bool false), (V.int .i64 0), (V.int .u16 0), (V.bool false), (V.int .i64 0), (V.int .i64 0), V.nils, (V.int .i64 0), V.nils, V.nils, (V.bool false), (V.int .u32 0), (V.bool false), (V.bool false), (V.bool false), V.nils, V.nils, V.nils])).bind fun t3 =>
 (zah 10 t2 t16).bind fun _ =>
 (zah 19 t3 t17).bind fun _ =>
 (zab (some 10) t2).bind fun t20 =>
 (zab (some 19) t3).bind fun t21 =>
 M.getH.bind fun h0 =>
 (G zaH []).bind fun t22 =>
 M.getH.bind fun h0' =>
 (M.unch t3 h0 h0').bind fun _ =>
 (M.unch t2 h0 h0').bind fun _ =>
 (G za7 [t8, (V.int .i64 0), t20, t21, t22, (V.int .u32 3), (V.int .i64 0)]).bind fun t23 =>
 (M.lift (Ax.ext 0 t23)).bind fun t24 =>
 (mbox zbn (V.agg [V.nils, (V.int .i64 0), (V.bool false)])).bind fun t4 =>
 (zah 3 t4 t24).bind fun _ =>
 (M.lift (Ax.ext 1 t23)).bind fun t25 =>
 (M.lift (Ax.build [(V.bool false), (V.bool false), (V.int .i64 0), (V.int .u16 0), (V.bool false), (V.int .i64 0), (V.int .i64 0), V.nils, (V.int .i64 0), V.nils, V.nils, (V.bool false), (V.int .u32 0), (V.bool false), (V.bool false), (V.bool false), V.nils, V.nils, V.nils] [(0, 1, (V.bool true)), (4, 1, (V.bool true)), (3, 1, (V.int .u16 5))])).bind fun t27 =>
 (mslit zaD 1 [(V.int .u8 0)] [(0, 1, (V.int .u8 121))]).bind fun t28 =>
 (mremark zaD t28).bind fun t29 =>
 (G zaW [t27, (V.int .u16 1), t29]).bind fun t30 =>
 (M.lift (Ax.ext 0 t30)).bind fun t31 =>
 (M.lift (Ax.ext 1 t30)).bind fun t32 =>
 (zah 10 t2 t31).bind fun _ =>
 (zah 19 t3 t32).bind fun _ =>
 (zab (some 10) t2).bind fun t35 =>
 (zab (some 19) t3).bind fun t36 =>
 M.getH.bind fun h1 =>
 (G zaH []).bind fun t37 =>
 M.getH.bind fun h1' =>
 (M.unch t3 h1 h1').bind fun _ =>
 (M.unch t2 h1 h1').bind fun _ =>
 (G za7 [t8, (V.int .i64 0), t35, t36, t37, (V.int .u32 3), (V.int .i64 0)]).bind fun t38 =>
 (M.lift (Ax.ext 0 t38)).bind fun t39 =>
 (mbox zbn (V.agg [V.nils, (V.int .i64 0), (V.bool false)])).bind fun t6 =>
 (zah 3 t6 t39).bind fun _ =>
 (M.lift (Ax.ext 1 t38)).bind fun t40 =>
 (M.lift (Ax.bin .eql t25 (V.int .i64 0))).bind fun t42 =>
 (zaa [(0, t42)] (some (0, true)) (M.lift (Ax.faddr 1 t4))).bind fun t44 =>
 (zaa [(0, t42)] (some (0, true)) (zab none t44)).bind fun t45 =>
 (zaa [(0, t42)] (some (0, true)) (M.lift (Ax.bin .eql t45 (V.int .i64 1)))).bind fun t46 =>
 (M.lift (Ax.pick t42 t46 (V.bool false))).bind fun t47 =>
 (zaa [(0, t47)] (some (0, true)) (M.lift (Ax.faddr 0 t4))).bind fun t49 =>
 (zaa [(0, t47)] (some (0, true)) (zab none t49)).bind fun t50 =>
 (zaa [(0, t47)] (some (0, true)) (M.lift (vlen t50))).bind fun t51 =>
 (zaa [(0, t47)] (some (0, true)) (M.lift (Ax.bin .eql t51 (V.int .i64 0)))).bind fun t52 =>
 (M.lift (Ax.pick t47 t52 (V.bool false))).bind fun t53 =>
 (zaa [(0, t53)] (some (0, true)) (M.pure t40)).bind fun t55 =>
 (zaa [(0, t53)] (some (0, true)) (M.lift (Ax.bin .eql t55 (V.int .i64 0)))).bind fun t56 =>
 (M.lift (Ax.pick t53 t56 (V.bool false))).bind fun t57 =>
 (zaa [(0, t57)] (some (0, true)) (M.lift (Ax.faddr 1 t6))).bind fun t59 =>
 (zaa [(0, t57)] (some (0, true)) (zab none t59)).bind fun t60 =>
 (zaa [(0, t57)] (some (0, true)) (M.lift (Ax.bin .eql t60 (V.int .i64 0)))).bind fun t61 =>
 (M.lift (Ax.pick t57 t61 (V.bool false))).bind fun t62 =>
 (zaa [(0, t62)] (some (0, true)) (M.lift (Ax.faddr 0 t6))).bind fun t64 =>
 (zaa [(0, t62)] (some (0, true)) (zab none t64)).bind fun t65 =>
 (zaa [(0, t62)] (some (0, true)) (M.lift (vlen t65))).bind fun t66 =>
 (zaa [(0, t62)] (some (0, true)) (M.lift (Ax.bin .gtr t66 (V.int .i64 12)))).bind fun t67 =>
 (M.lift (Ax.pick t62 t67 (V.bool false))).bind fun t68 =>
 (zaa [(0, t68)] (some (0, true)) (M.pure t8)).bind fun t70 =>
 (zaa [(0, t68)] (some (0, true)) (G zcB [t70])).bind fun t71 =>
 (zaa [(0, t68)] (some (0, true)) (M.lift (Ax.bin .eql t71 (V.int .u32 9)))).bind fun t72 =>
 (M.lift (Ax.pick t68 t72 (V.bool false))).bind fun t73 =>
 M.pure (.ret [t73]))
theorem zeq : OkT zbF [] (zdd (sem T)) := okT (by kernel_rfl) (by kernel_rfl) (by kernel_rfl)
noncomputable def zc2 (G : Sem') (t0 t1 t2 : V) : M Res :=
 (mbox zal t0).bind fun t3 =>
 (mbox zam (V.agg [(V.bool false), (V.int .i64 0), (V.int .u16 0), (V.int .u32 0), (V.int .u32 0), V.nils, (V.int .i64 0), V.nils, (V.int .i64 0), V.nils])).bind fun t6 =>
 (mbox zal (V.agg [(V.bool false), (V.bool false), (V.int .i64 0), (V.int .u16 0), (V.bool false), (V.int .i64 0), (V.int .i64 0), V.nils, (V.int .i64 0), V.nils, V.nils, (V.bool false), (V.int .u32 0), (V.bool false), (V.bool false), (V.bool false), V.nils, V.nils, V.nils])).bind fun t7 =>
 (G zaH []).bind fun t13 =>
 (G za4 [t13]).bind fun t14 =>
 (mbox zaf (V.agg [(V.int .i64 0), (V.int .i64 0), V.nils, (V.int .i64 0), V.nils, V.nils])).bind fun t8 =>
 (zah 6 t8 t14).bind fun _ =>
 (M.lift (Ax.faddr 4 t3)).bind fun t15 =>
 (zab none t15).bind fun t16 =>
 M.join (M.ite t16
 ((G zaH []).bind fun t17 =>
 (M.lift (Ax.faddr 5 t3)).bind fun t18 =>
 (zah 6 t18 t17).bind fun _ =>
 M.pure (.nrm []))
 (M.pure (.nrm []))) fun _ =>
 (M.lift (Ax.faddr 2 t8)).bind fun t19 =>
 (zab none t19).bind fun t20 =>
 (M.lift (Ax.faddr 2 t3)).bind fun t21 =>
 (zab none t21).bind fun t22 =>
 (M.lift (Ax.bin .rem t22 (V.int .i64 3))).bind fun t23 =>
 (M.lift (Ax.iaddr none 5 t20 t23)).bind fun t24 =>
 (zab (some 5) t24).bind fun t25 =>
 (mbox zaq (V.agg [(V.int .i64 0), (V.int .i64 0), V.nils, V.nils, V.nils])).bind fun t9 =>
 (zah 5 t9 t25).bind fun _ =>
 (M.lift (Ax.faddr 2 t9)).bind fun t26 =>
 (zab none t26).bind fun t27 =>
 (M.lift (Ax.faddr 3 t9)).bind fun t28 =>
 (zab none t28).bind fun t29 =>
 (M.lift (Ax.faddr 16 t3)).bind fun t30 =>
 M.getH.bind fun h0 =>
 (zah 1 t30 t27).bind fun _ =>
 M.getH.bind fun h0' =>
 (M.unch t28 h0 h0').bind fun _ =>
 (M.lift (Ax.faddr 17 t3)).bind fun t31 =>
 (zah 1 t31 t29).bind fun _ =>
 (M.lift (Ax.faddr 18 t3)).bind fun t32 =>
 (zah 1 t32 V.nils).bind fun _ =>
 (zab (some 19) t3).bind fun t34 =>
 (zab (some 6) t8).bind fun t36 =>
 M.getH.bind fun h1 =>
 (G zbQ [t34]).bind fun t35 =>
 M.getH.bind fun h1' =>
 (M.unch t8 h1 h1').bind fun _ =>
 (G zbN [t35, t36]).bind fun t37 =>
 (M.lift (Ax.ext 0 t37)).bind fun t38 =>
 (M.lift (Ax.ext 1 t37)).bind fun t39 =>
 (M.lift (Ax.faddr 3 t3)).bind fun t41 =>
 (zab none t41).bind fun t42 =>
 (M.lift (Ax.cint .u32 t42)).bind fun t43 =>
 (M.lift (Ax.bin .mul (V.int .u32 3000) t43)).bind fun t44 =>
 (M.lift (Ax.build [(V.int .i64 0), V.nils] [(0, 1, (V.int .i64 1)), (1, 1, t38)])).bind fun t46 =>
 (mslit zbm 1 [(V.int .i64 0), V.nils] [(0, 2, t46)]).bind fun t47 =>
 (M.lift (Ax.build [(V.bool false), (V.int .i64 0), (V.int .u16 0), (V.int .u32 0), (V.int .u32 0), V.nils, (V.int .i64 0), V.nils, (V.int .i64 0), V.nils] [(1, 1, (V.int .i64 96)), (2, 1, t1), (3, 1, t44), (4, 1, (V.int .u32 7)), (6, 1, (V.int .i64 4096)), (7, 1, t47), (9, 1, t2)])).bind fun t49 =>
 (mbox zam (V.agg [(V.bool false), (V.int .i64 0), (V.int .u16 0), (V.int .u32 0), (V.int .u32 0), V.nils, (V.int .i64 0), V.nils, (V.int .i64 0), V.nils])).bind fun t12 =>
 (zah 10 t12 t49).bind fun _ =>
 (zab (some 10) t12).bind fun t50 =>
 (zab (some 19) t3).bind fun t51 =>
 M.getH.bind fun h2 =>
 (zah 10 t6 t50).bind fun _ =>
 M.getH.bind fun h2' =>
 (M.unch t3 h2 h2').bind fun _ =>
 (zah 19 t7 t51).bind fun _ =>
 (zab (some 10) t6).bind fun r0 =>
 (zab (some 19) t7).bind fun r1 =>
 M.pure (.ret [r0, r1])
theorem zd8 {t0 t1 t2 : V} : OkT zaW [t0, t1, t2] (zc2 (sem T) t0 t1 t2) := okT (by kernel_rfl) (by kernel_rfl) (by kernel_rfl)
noncomputable def zdb (G : Sem') : M Res :=
 (mbox zag (V.agg [(V.int .i64 0), (V.int .i64 0), V.nils, (V.int .i64 0), V.nils, V.nils])).bind fun t0 =>
 (mslit zcI 2 [(V.int .i64 0)] [(0, 1, (V.int .i64 2)), (1, 1, (V.int .i64 2))]).bind fun t1 =>
 (M.lift (Ax.build [(V.int .i64 0), (V.int .i64 0), V.nils, V.nils, V.nils] [(2, 1, t1)])).bind fun t2 =>
 (mslit zcI 2 [(V.int .i64 0)] [(0, 1, (V.int .i64 2)), (1, 1, (V.int .i64 2))]).bind fun t3 =>
 (mslit zcI 1 [(V.int .i64 0)] [(0, 1, (V.int .i64 2))]).bind fun t4 =>
 (M.lift (Ax.build [(V.int .i64 0), (V.int .i64 0), V.nils, V.nils, V.nils] [(2, 1, t3), (3, 1, t4)])).bind fun t5 =>
 (mslit zcI 2 [(V.int .i64 0)] [(0, 1, (V.int .i64 1)), (1, 1, (V.int .i64 0))]).bind fun t6 =>
 (mslit zcI 1 [(V.int .i64 0)] [(0, 1, (V.int .i64 1))]).bind fun t7 =>
 (M.lift (Ax.build [(V.int .i64 0), (V.int .i64 0), V.nils, V.nils, V.nils] [(1, 1, (V.int .i64 1)), (2, 1, t6), (3, 1, t7)])).bind fun t8 =>
 (mslit zak 3 [(V.int .i64 0), (V.int .i64 0), V.nils, V.nils, V.nils] [(0, 5, t2), (5, 5, t5), (10, 5, t8)]).bind fun t9 =>
 (M.lift (Ax.build [(V.int .i64 0), (V.int .i64 0), V.nils, (V.int .i64 0), V.nils, V.nils] [(1, 1, (V.int .i64 2)), (2, 1, t9)])).bind fun t10 =>
 (zah 6 t0 t10).bind fun _ =>
 (zab (some 6) t0).bind fun r0 =>
 M.pure (.ret [r0])
theorem zeo : OkT zaH [] (zdb (sem T)) := okT (by kernel_rfl) (by kernel_rfl) (by kernel_rfl)
noncomputable def zbM (G : Sem') (t1 t3 t2 : V) (L : List V) : M Res :=
 (M.lift (Ax.faddr 2 t1)).bind fun t17 =>
 (zab none t17).bind fun t18 =>
 (M.lift (vlen t18)).bind fun t19 =>
 (M.lift (Ax.bin .lss (L.getD 0 .undef) t19)).bind fun t20 =>
 M.ite t20
 (M.blk 1 (
 (M.lift (Ax.faddr 2 t3)).bind fun t23 =>
 (zab none t23).bind fun t24 =>
 (M.lift (Ax.faddr 2 t1)).bind fun t25 =>
 (zab none t25).bind fun t26 =>
 (M.lift (Ax.iaddr none 5 t26 (L.getD 0 .undef))).bind fun t28 =>
 (zab (some 5) t28).bind fun t29 =>
 (mslit zaq 1 [(V.int .i64 0), (V.int .i64 0), V.nils, V.nils, V.nils] [(0, 5, t29)]).bind fun t30 =>
 (mappend zaq 5 88 t24 t30).bind fun t31 =>
 (M.lift (Ax.faddr 2 t3)).bind fun t32 =>
 (zah 1 t32 t31).bind fun _ =>
 M.pure (.nrm [])) fun _ =>
 (M.lift (Ax.bin .add (L.getD 0 .undef) (V.int .i64 1))).bind fun t22 =>
 M.pure (.nrm [t22]))
 (M.pure (.ex 0 []))
noncomputable def zcJ (G : Sem') (t0 : V) : M Res :=
 (mbox zag t0).bind fun t1 =>
 (mbox zaf (V.agg [(V.int .i64 0), (V.int .i64 0), V.nils, (V.int .i64 0), V.nils, V.nils])).bind fun t2 =>
 (M.lift (Ax.faddr 0 t1)).bind fun t5 =>
 (zab none t5).bind fun t6 =>
 (M.lift (Ax.faddr 1 t1)).bind fun t7 =>
 (zab none t7).bind fun t8 =>
 (M.lift (Ax.faddr 3 t1)).bind fun t9 =>
 (zab none t9).bind fun t10 =>
 (M.lift (Ax.faddr 4 t1)).bind fun t11 =>
 (zab none t11).bind fun t12 =>
 (M.lift (Ax.faddr 5 t1)).bind fun t13 =>
 (zab none t13).bind fun t14 =>
 (M.lift (Ax.build [(V.int .i64 0), (V.int .i64 0), V.nils, (V.int .i64 0), V.nils, V.nils] [(0, 1, t6), (1, 1, t8), (3, 1, t10), (4, 1, t12), (5, 1, t14)])).bind fun t15 =>
 (mbox zaf (V.agg [(V.int .i64 0), (V.int .i64 0), V.nils, (V.int .i64 0), V.nils, V.nils])).bind fun t3 =>
 (zah 6 t3 t15).bind fun _ =>
 M.blk 0 (
 M.iter (zbM G t1 t3 t2) [(V.int .i64 0)]) fun _ =>
 (zab (some 6) t3).bind fun t33 =>
 (zah 6 t2 t33).bind fun _ =>
 (zab (some 6) t2).bind fun r0 =>
 M.pure (.ret [r0])
theorem zdZ {t0 : V} : OkT za4 [t0] (zcJ (sem T) t0) := okT (by kernel_rfl) (by kernel_rfl) (by kernel_rfl)
noncomputable def zdv (G : Sem') (t0 : V) : M Res :=
 (mbox zal t0).bind fun t1 =>
 (mbox zaw (V.agg [(V.bool false), (V.bool false), (V.int .i64 0), (V.int .u16 0), (V.bool false), (V.int .i64 0), (V.int .i64 0), V.nils, (V.int .i64 0), V.nils, V.nils, (V.bool false), (V.int .u32 0), (V.bool false), (V.bool false), (V.bool false), V.nils, V.nils, V.nils])).bind fun t2 =>
 (M.lift (Ax.faddr 0 t1)).bind fun t3 =>
 (zab none t3).bind fun t4 =>
 (M.lift (Ax.faddr 1 t1)).bind fun t5 =>
 (zab none t5).bind fun t6 =>
 (M.lift (Ax.faddr 2 t1)).bind fun t7 =>
 (zab none t7).bind fun t8 =>
 (M.lift (Ax.faddr 3 t1)).bind fun t9 =>
 (zab none t9).bind fun t10 =>
 (M.lift (Ax.faddr 4 t1)).bind fun t11 =>
 (zab none t11).bind fun t12 =>
 (M.lift (Ax.faddr 5 t1)).bind fun t13 =>
 (zab (some 6) t13).bind fun t14 =>
 (M.lift (Ax.faddr 11 t1)).bind fun t16 =>
 (zab none t16).bind fun t17 =>
 (M.lift (Ax.faddr 12 t1)).bind fun t18 =>
 (zab none t18).bind fun t19 =>
 (M.lift (Ax.faddr 13 t1)).bind fun t20 =>
 (zab none t20).bind fun t21 =>
 (M.lift (Ax.faddr 14 t1)).bind fun t22 =>
 (zab none t22).bind fun t23 =>
 (M.lift (Ax.faddr 15 t1)).bind fun t24 =>
 (zab none t24).bind fun t25 =>
 (M.lift (Ax.faddr 16 t1)).bind fun t26 =>
 (zab none t26).bind fun t27 =>
 (M.lift (Ax.faddr 17 t1)).bind fun t28 =>
 (zab none t28).bind fun t29 =>
 (M.lift (Ax.faddr 18 t1)).bind fun t30 =>
 (zab none t30).bind fun t31 =>
 M.getH.bind fun h0 =>
 (G za4 [t14]).bind fun t15 =>
 M.getH.bind fun h0' =>
 (M.unch t30 h0 h0').bind fun _ =>
 (M.unch t28 h0 h0').bind fun _ =>
 (M.unch t26 h0 h0').bind fun _ =>
 (M.unch t24 h0 h0').bind fun _ =>
 (M.unch t22 h0 h0').bind fun _ =>
 (M.unch t20 h0 h0').bind fun _ =>
 (M.unch t18 h0 h0').bind fun _ =>
 (M.unch t16 h0 h0').bind fun _ =>
 (M.unch t11 h0 h0').bind fun _ =>
 (M.unch t9 h0 h0').bind fun _ =>
 (M.unch t7 h0 h0').bind fun _ =>
 (M.unch t5 h0 h0').bind fun _ =>
 (M.unch t3 h0 h0').bind fun _ =>
 (M.lift (Ax.build [(V.bool false), (V.bool false), (V.int .i64 0), (V.int .u16 0), (V.bool false), (V.int .i64 0), (V.int .i64 0), V.nils, (V.int .i64 0), V.nils, V.nils, (V.bool false), (V.int .u32 0), (V.bool false), (V.bool false), (V.bool false), V.nils, V.nils, V.nils] [(0, 1, t4), (1, 1, t6), (2, 1, t8), (3, 1, t10), (4, 1, t12), (5, 6, t15), (11, 1, t17), (12, 1, t19), (13, 1, t21), (14, 1, t23), (15, 1, t25), (16, 1, t27), (17, 1, t29), (18, 1, t31)])).bind fun t32 =>
 (zah 19 t2 t32).bind fun _ =>
 (zab (some 19) t2).bind fun r0 =>
 M.pure (.ret [r0])
theorem zeK {t0 : V} : OkT zbQ [t0] (zdv (sem T) t0) := okT (by kernel_rfl) (by kernel_rfl) (by kernel_rfl)
noncomputable def zbk (G : Sem') (t6 t2 t4 t5 : V) (L : List V) : M Res :=
 (M.lift (Ax.faddr 13 t2)).bind fun t104 =>
 (zab none t104).bind fun t105 =>
 (zaa [(0, t105)] (some (0, true)) (M.pure (L.getD 0 .undef))).bind fun t107 =>
 (zaa [(0, t105)] (some (0, true)) (M.lift (Ax.faddr 16 t2))).bind fun t108 =>
 (zaa [(0, t105)] (some (0, true)) (zab none t108)).bind fun t109 =>
 (zaa [(0, t105)] (some (0, true)) (M.lift (vlen t109))).bind fun t110 =>
 (zaa [(0, t105)] (some (0, true)) (M.lift (Ax.bin .lss t107 t110))).bind fun t111 =>
 (M.lift (Ax.pick t105 t111 (V.bool false))).bind fun t112 =>
 M.ite t112
 (M.blk 1 (
 (M.lift (Ax.faddr 16 t2)).bind fun t116 =>
 (zab none t116).bind fun t117 =>
 (M.lift (Ax.iaddr none 1 t117 (L.getD 0 .undef))).bind fun t119 =>
 (zab none t119).bind fun t120 =>
 (M.lift (Ax.cint .u64 t120)).bind fun t121 =>
 (G zae [t6, t121, (V.int .i64 2)]).bind fun t122 =>
 M.pure (.nrm [])) fun _ =>
 (M.lift (Ax.bin .add (L.getD 0 .undef) (V.int .i64 1))).bind fun t114 =>
 M.pure (.nrm [t114]))
 (M.pure (.ex 0 []))
noncomputable def zc0 (G : Sem') (t2 t8 t4 t5 : V) (L : List V) : M Res :=
 (M.lift (Ax.faddr 17 t2)).bind fun t132 =>
 (zab none t132).bind fun t133 =>
 (M.lift (Ax.iaddr none 1 t133 t8)).bind fun t135 =>
 (zab none t135).bind fun t136 =>
 (M.lift (Ax.bin .mul (V.int .i64 4) (L.getD 0 .undef))).bind fun t138 =>
 (M.lift (Ax.cint .u64 t138)).bind fun t139 =>
 (M.lift (Ax.bin .shl (V.int .i64 1) t139)).bind fun t140 =>
 (M.lift (Ax.bin .gtr t136 t140)).bind fun t141 =>
 M.ite t141
 (M.blk 5 (
 (M.lift (Ax.bin .add (L.getD 0 .undef) (V.int .i64 1))).bind fun t143 =>
 M.pure (.nrm [t143])) fun L4 =>
 M.pure (.nrm [(L4.getD 0 .undef)]))
 (M.pure (.ex 4 [(L.getD 0 .undef)]))
noncomputable def zbH (G : Sem') (t6 t2 t4 t5 : V) (L : List V) : M Res :=
 (M.lift (Ax.faddr 17 t2)).bind fun t126 =>
 (zab none t126).bind fun t127 =>
 (M.lift (vlen t127)).bind fun t128 =>
 (M.lift (Ax.bin .lss (L.getD 0 .undef) t128)).bind fun t129 =>
 M.ite t129
 (M.blk 3 (
 M.blk 4 (
 M.iter (zc0 G t2 (L.getD 0 .undef) t4 t5) [(V.int .i64 1)]) fun L5 =>
 (M.lift (Ax.cint .u64 (L5.getD 0 .undef))).bind fun t146 =>
 (G zae [t6, t146, (V.int .i64 2)]).bind fun t147 =>
 (M.lift (Ax.faddr 17 t2)).bind fun t149 =>
 (zab none t149).bind fun t150 =>
 (M.lift (Ax.iaddr none 1 t150 (L.getD 0 .undef))).bind fun t152 =>
 (zab none t152).bind fun t153 =>
 (M.lift (Ax.bin .sub t153 (V.int .i64 1))).bind fun t154 =>
 (M.lift (Ax.cint .u64 t154)).bind fun t155 =>
 (M.lift (Ax.bin .mul (V.int .i64 4) (L5.getD 0 .undef))).bind fun t157 =>
 (G zae [t6, t155, t157]).bind fun t158 =>
 M.pure (.nrm [])) fun _ =>
 (M.lift (Ax.bin .add (L.getD 0 .undef) (V.int .i64 1))).bind fun t131 =>
 M.pure (.nrm [t131]))
 (M.pure (.ex 2 []))
noncomputable def zbj (G : Sem') (t6 t2 t4 t5 : V) (L : List V) : M Res :=
 (M.lift (Ax.faddr 15 t2)).bind fun t161 =>
 (zab none t161).bind fun t162 =>
 (zaa [(0, t162)] (some (0, true)) (M.pure (L.getD 0 .undef))).bind fun t164 =>
 (zaa [(0, t162)] (some (0, true)) (M.lift (Ax.faddr 18 t2))).bind fun t165 =>
 (zaa [(0, t162)] (some (0, true)) (zab none t165)).bind fun t166 =>
 (zaa [(0, t162)] (some (0, true)) (M.lift (vlen t166))).bind fun t167 =>
 (zaa [(0, t162)] (some (0, true)) (M.lift (Ax.bin .lss t164 t167))).bind fun t168 =>
 (M.lift (Ax.pick t162 t168 (V.bool false))).bind fun t169 =>
 M.ite t169
 (M.blk 7 (
 (M.lift (Ax.faddr 18 t2)).bind fun t173 =>
 (zab none t173).bind fun t174 =>
 (M.lift (Ax.iaddr none 1 t174 (L.getD 0 .undef))).bind fun t176 =>
 (zab none t176).bind fun t177 =>
 (M.lift (Ax.cint .u64 t177)).bind fun t178 =>
 (G zae [t6, t178, (V.int .i64 8)]).bind fun t179 =>
 M.pure (.nrm [])) fun _ =>
 (M.lift (Ax.bin .add (L.getD 0 .undef) (V.int .i64 1))).bind fun t171 =>
 M.pure (.nrm [t171]))
 (M.pure (.ex 6 []))
noncomputable def zdr (G : Sem') (t0 t1 : V) : M Res :=
 (mbox zaw t0).bind fun t2 =>
 (mbox zaf t1).bind fun t3 =>
 (zab (some 19) t2).bind fun t11 =>
 (zab (some 6) t3).bind fun t12 =>
 (G zbU [t11, t12]).bind fun t13 =>
 (M.lift (Ax.un .not t13)).bind fun t14 =>
 M.ite t14
 (M.pure (.ret [V.nils, (V.int .i64 1)]))
 ((M.lift (Ax.build [V.nils] [])).bind fun t15 =>
 (mbox zaZ t15).bind fun t16 =>
 (M.lift (Ax.faddr 0 t2)).bind fun t18 =>
 (zab none t18).bind fun t19 =>
 (G zav [t19]).bind fun t20 =>
 (G zae [t16, t20, (V.int .i64 1)]).bind fun t21 =>
 (M.lift (Ax.faddr 1 t2)).bind fun t23 =>
 (zab none t23).bind fun t24 =>
 (G zav [t24]).bind fun t25 =>
 (G zae [t16, t25, (V.int .i64 1)]).bind fun t26 =>
 (M.lift (Ax.faddr 2 t2)).bind fun t28 =>
 (zab none t28).bind fun t29 =>
 (M.lift (Ax.cint .u64 t29)).bind fun t30 =>
 (G zae [t16, t30, (V.int .i64 6)]).bind fun t31 =>
 (M.lift (Ax.faddr 3 t2)).bind fun t33 =>
 (zab none t33).bind fun t34 =>
 (M.lift (Ax.cint .u64 t34)).bind fun t35 =>
 (G zae [t16, t35, (V.int .i64 16)]).bind fun t36 =>
 (M.lift (Ax.faddr 4 t2)).bind fun t37 =>
 (zab none t37).bind fun t38 =>
 (M.lift (Ax.un .not t38)).bind fun t39 =>
 (zaa [(0, t39)] (some (0, true)) (M.lift (Ax.faddr 11 t2))).bind fun t41 =>
 (zaa [(0, t39)] (some (0, true)) (zab none t41)).bind fun t42 =>
 (zaa [(0, t39)] (some (0, true)) (M.lift (Ax.un .not t42))).bind fun t43 =>
 (M.lift (Ax.pick t39 t43 (V.bool false))).bind fun t44 =>
 (zaa [(0, t44)] (some (0, true)) (M.lift (Ax.faddr 13 t2))).bind fun t46 =>
 (zaa [(0, t44)] (some (0, true)) (zab none t46)).bind fun t47 =>
 (zaa [(0, t44)] (some (0, true)) (M.lift (Ax.un .not t47))).bind fun t48 =>
 (M.lift (Ax.pick t44 t48 (V.bool false))).bind fun t49 =>
 (zaa [(0, t49)] (some (0, true)) (M.lift (Ax.faddr 14 t2))).bind fun t51 =>
 (zaa [(0, t49)] (some (0, true)) (zab none t51)).bind fun t52 =>
 (zaa [(0, t49)] (some (0, true)) (M.lift (Ax.un .not t52))).bind fun t53 =>
 (M.lift (Ax.pick t49 t53 (V.bool false))).bind fun t54 =>
 (zaa [(0, t54)] (some (0, true)) (M.lift (Ax.faddr 15 t2))).bind fun t56 =>
 (zaa [(0, t54)] (some (0, true)) (zab none t56)).bind fun t57 =>
 (zaa [(0, t54)] (some (0, true)) (M.lift (Ax.un .not t57))).bind fun t58 =>
 (M.lift (Ax.pick t54 t58 (V.bool false))).bind fun t59 =>
 M.ite t59
 ((G zaN [t16]).bind fun t61 =>
 M.pure (.ret [t61, (V.int .i64 0)]))
 ((M.lift (Ax.faddr 4 t2)).bind fun t63 =>
 (zab none t63).bind fun t64 =>
 (G zav [t64]).bind fun t65 =>
 (G zae [t16, t65, (V.int .i64 1)]).bind fun t66 =>
 (M.lift (Ax.faddr 11 t2)).bind fun t68 =>
 (zab none t68).bind fun t69 =>
 (G zav [t69]).bind fun t70 =>
 (G zae [t16, t70, (V.int .i64 1)]).bind fun t71 =>
 (M.lift (Ax.faddr 13 t2)).bind fun t73 =>
 (zab none t73).bind fun t74 =>
 (G zav [t74]).bind fun t75 =>
 (G zae [t16, t75, (V.int .i64 1)]).bind fun t76 =>
 (M.lift (Ax.faddr 14 t2)).bind fun t78 =>
 (zab none t78).bind fun t79 =>
 (G zav [t79]).bind fun t80 =>
 (G zae [t16, t80, (V.int .i64 1)]).bind fun t81 =>
 (M.lift (Ax.faddr 15 t2)).bind fun t83 =>
 (zab none t83).bind fun t84 =>
 (G zav [t84]).bind fun t85 =>
 (G zae [t16, t85, (V.int .i64 1)]).bind fun t86 =>
 (M.lift (Ax.faddr 4 t2)).bind fun t87 =>
 (zab none t87).bind fun t88 =>
 M.join (M.ite t88
 ((M.lift (Ax.faddr 5 t2)).bind fun t90 =>
 (zab (some 6) t90).bind fun t91 =>
 (G zbE [t16, t91]).bind fun t92 =>
 M.pure (.nrm []))
 (M.pure (.nrm []))) fun _ =>
 (M.lift (Ax.faddr 11 t2)).bind fun t93 =>
 (zab none t93).bind fun t94 =>
 M.join (M.ite t94
 ((M.lift (Ax.faddr 12 t2)).bind fun t96 =>
 (zab none t96).bind fun t97 =>
 (M.lift (Ax.cint .u64 t97)).bind fun t98 =>
 (zab (some 19) t2).bind fun t99 =>
 (zab (some 6) t3).bind fun t100 =>
 M.getH.bind fun h0 =>
 (G za8 [t99, t100]).bind fun t101 =>
 M.getH.bind fun h0' =>
 (M.unch t96 h0 h0').bind fun _ =>
 (M.lift (Ax.field 1 none t101)).bind fun t102 =>
 (G zae [t16, t98, t102]).bind fun t103 =>
 M.pure (.nrm []))
 (M.pure (.nrm []))) fun _ =>
 M.blk 0 (
 M.iter (zbk G t16 t2 V.nils (V.int .i64 0)) [(V.int .i64 0)]) fun _ =>
 (M.lift (Ax.faddr 14 t2)).bind fun t123 =>
 (zab none t123).bind fun t124 =>
 M.join (M.ite t124
 (M.blk 2 (
 M.iter (zbH G t16 t2 V.nils (V.int .i64 0)) [(V.int .i64 0)]) fun _ =>
 (G zae [t16, (V.int .u64 0), (V.int .i64 2)]).bind fun t160 =>
 M.pure (.nrm []))
 (M.pure (.nrm []))) fun _ =>
 M.blk 6 (
 M.iter (zbj G t16 t2 V.nils (V.int .i64 0)) [(V.int .i64 0)]) fun _ =>
 (G zaN [t16]).bind fun t181 =>
 M.pure (.ret [t181, (V.int .i64 0)])))
theorem zeG {t0 t1 : V} : OkT zbN [t0, t1] (zdr (sem T) t0 t1) := okT (by kernel_rfl) (by kernel_rfl) (by kernel_rfl)
noncomputable def zdG (G : Sem') (t0 t1 : V) : M Res :=
 (mbox zaw t0).bind fun t2 =>
 (mbox zaf t1).bind fun t3 =>
 (zab (some 19) t2).bind fun t9 =>
 (zab (some 6) t3).bind fun t10 =>
 (G zca [t9, t10]).bind fun t11 =>
 (M.lift (Ax.ext 0 t11)).bind fun t12 =>
 (M.lift (Ax.ext 1 t11)).bind fun t13 =>
 (mbox zaq (V.agg [(V.int .i64 0), (V.int .i64 0), V.nils, V.nils, V.nils])).bind fun t5 =>
 (zah 5 t5 t12).bind fun _ =>
 (M.lift (Ax.un .not t13)).bind fun t15 =>
 (zaa [(0, t15)] (some (0, false)) (M.lift (Ax.faddr 4 t2))).bind fun t17 =>
 (zaa [(0, t15)] (some (0, false)) (zab none t17)).bind fun t18 =>
 (zaa [(0, t15)] (some (0, false)) (M.lift (Ax.un .not t18))).bind fun t19 =>
 (zaa [(0, t15)] (some (0, false)) (M.pure t19)).bind fun t20 =>
 (zaa [(0, t20)] (some (0, true)) (M.lift (Ax.faddr 5 t2))).bind fun t21 =>
 (zaa [(0, t20)] (some (0, true)) (zab (some 6) t21)).bind fun t22 =>
 (zaa [(0, t20)] (some (0, true)) (G zbp [t22])).bind fun t23 =>
 (zaa [(0, t20)] (some (0, true)) (M.lift (Ax.un .not t23))).bind fun t24 =>
 (zaa [(0, t15)] (some (0, false)) (M.lift (Ax.pick t20 t24 (V.bool false)))).bind fun t25 =>
 (M.lift (Ax.pick t15 (V.bool true) t25)).bind fun t26 =>
 M.ite t26
 (M.pure (.ret [(V.bool false)]))
 ((zab (some 19) t2).bind fun t27 =>
 (zab (some 6) t3).bind fun t28 =>
 (G za8 [t27, t28]).bind fun t29 =>
 (mbox zaf (V.agg [(V.int .i64 0), (V.int .i64 0), V.nils, (V.int .i64 0), V.nils, V.nils])).bind fun t7 =>
 (zah 6 t7 t29).bind fun _ =>
 (M.lift (Ax.faddr 11 t2)).bind fun t30 =>
 (zab none t30).bind fun t31 =>
 (M.lift (Ax.un .not t31)).bind fun t32 =>
 (zaa [(0, t32)] (some (0, true)) (M.lift (Ax.faddr 12 t2))).bind fun t34 =>
 (zaa [(0, t32)] (some (0, true)) (zab none t34)).bind fun t35 =>
 (zaa [(0, t32)] (some (0, true)) (M.lift (Ax.bin .neq t35 (V.int .u32 0)))).bind fun t36 =>
 (M.lift (Ax.pick t32 t36 (V.bool false))).bind fun t37 =>
 (zaa [(0, t37)] (some (0, false)) (M.lift (Ax.faddr 12 t2))).bind fun t39 =>
 (zaa [(0, t37)] (some (0, false)) (zab none t39)).bind fun t40 =>
 (zaa [(0, t37)] (some (0, false)) (M.lift (Ax.cint .u64 t40))).bind fun t41 =>
 (zaa [(0, t37)] (some (0, false)) (M.lift (Ax.faddr 1 t7))).bind fun t42 =>
 (zaa [(0, t37)] (some (0, false)) (zab none t42)).bind fun t43 =>
 (zaa [(0, t37)] (some (0, false)) (M.lift (Ax.cint .u64 t43))).bind fun t44 =>
 (zaa [(0, t37)] (some (0, false)) (M.lift (Ax.bin .shr t41 t44))).bind fun t45 =>
 (zaa [(0, t37)] (some (0, false)) (M.lift (Ax.bin .neq t45 (V.int .u64 0)))).bind fun t46 =>
 (M.lift (Ax.pick t37 (V.bool true) t46)).bind fun t47 =>
 M.ite t47
 (M.pure (.ret [(V.bool false)]))
 ((M.lift (Ax.faddr 13 t2)).bind fun t48 =>
 (zab none t48).bind fun t49 =>
 (M.lift (Ax.un .not t49)).bind fun t50 =>
 (zaa [(0, t50)] (some (0, true)) (M.lift (Ax.faddr 16 t2))).bind fun t52 =>
 (zaa [(0, t50)] (some (0, true)) (zab none t52)).bind fun t53 =>
 (zaa [(0, t50)] (some (0, true)) (M.lift (Ax.faddr 2 t5))).bind fun t54 =>
 (zaa [(0, t50)] (some (0, true)) (zab none t54)).bind fun t55 =>
 (zaa [(0, t50)] (some (0, true)) (G zaS [t53, t55])).bind fun t56 =>
 (zaa [(0, t50)] (some (0, true)) (M.lift (Ax.un .not t56))).bind fun t57 =>
 (M.lift (Ax.pick t50 t57 (V.bool false))).bind fun t58 =>
 (zaa [(0, t58)] (some (0, false)) (M.lift (Ax.faddr 13 t2))).bind fun t60 =>
 (zaa [(0, t58)] (some (0, false)) (zab none t60)).bind fun t61 =>
 (zaa [(0, t58)] (some (0, false)) (M.pure t61)).bind fun t62 =>
 (zaa [(0, t62)] (some (0, true)) (M.lift (Ax.faddr 16 t2))).bind fun t63 =>
 (zaa [(0, t62)] (some (0, true)) (zab none t63)).bind fun t64 =>
 (zaa [(0, t62)] (some (0, true)) (M.lift (Ax.faddr 1 t7))).bind fun t65 =>
 (zaa [(0, t62)] (some (0, true)) (zab none t65)).bind fun t66 =>
 (zaa [(0, t62)] (some (0, true)) (G zay [t64, t66, (V.int .i64 0), (V.int .i64 3)])).bind fun t67 =>
 (zaa [(0, t62)] (some (0, true)) (M.lift (Ax.un .not t67))).bind fun t68 =>
 (zaa [(0, t58)] (some (0, false)) (M.lift (Ax.pick t62 t68 (V.bool false)))).bind fun t69 =>
 (M.lift (Ax.pick t58 (V.bool true) t69)).bind fun t70 =>
 M.ite t70
 (M.pure (.ret [(V.bool false)]))
 ((M.lift (Ax.faddr 14 t2)).bind fun t71 =>
 (zab none t71).bind fun t72 =>
 (M.lift (Ax.un .not t72)).bind fun t73 =>
 (zaa [(0, t73)] (some (0, true)) (M.lift (Ax.faddr 17 t2))).bind fun t75 =>
 (zaa [(0, t73)] (some (0, true)) (zab none t75)).bind fun t76 =>
 (zaa [(0, t73)] (some (0, true)) (M.lift (Ax.faddr 3 t5))).bind fun t77 =>
 (zaa [(0, t73)] (some (0, true)) (zab none t77)).bind fun t78 =>
 (zaa [(0, t73)] (some (0, true)) (G zaS [t76, t78])).bind fun t79 =>
 (zaa [(0, t73)] (some (0, true)) (M.lift (Ax.un .not t79))).bind fun t80 =>
 (M.lift (Ax.pick t73 t80 (V.bool false))).bind fun t81 =>
 (zaa [(0, t81)] (some (0, false)) (M.lift (Ax.faddr 14 t2))).bind fun t83 =>
 (zaa [(0, t81)] (some (0, false)) (zab none t83)).bind fun t84 =>
 (zaa [(0, t81)] (some (0, false)) (M.pure t84)).bind fun t85 =>
 (zaa [(0, t85)] (some (0, true)) (M.lift (Ax.faddr 17 t2))).bind fun t86 =>
 (zaa [(0, t85)] (some (0, true)) (zab none t86)).bind fun t87 =>
 (zaa [(0, t85)] (some (0, true)) (M.lift (vlen t87))).bind fun t88 =>
 (zaa [(0, t85)] (some (0, true)) (M.lift (Ax.bin .gtr t88 (V.int .i64 16)))).bind fun t89 =>
 (zaa [(0, t85)] (some (0, true)) (M.pure t89)).bind fun t90 =>
 (zaa [(0, t90)] (some (0, false)) (M.lift (Ax.faddr 17 t2))).bind fun t91 =>
 (zaa [(0, t90)] (some (0, false)) (zab none t91)).bind fun t92 =>
 (zaa [(0, t90)] (some (0, false)) (G zay [t92, (V.int .i64 (-1)), (V.int .i64 1), (V.int .i64 4096)])).bind fun t93 =>
 (zaa [(0, t90)] (some (0, false)) (M.lift (Ax.un .not t93))).bind fun t94 =>
 (zaa [(0, t85)] (some (0, true)) (M.lift (Ax.pick t90 (V.bool true) t94))).bind fun t95 =>
 (zaa [(0, t81)] (some (0, false)) (M.lift (Ax.pick t85 t95 (V.bool false)))).bind fun t96 =>
 (M.lift (Ax.pick t81 (V.bool true) t96)).bind fun t97 =>
 M.ite t97
 (M.pure (.ret [(V.bool false)]))
 ((M.lift (Ax.faddr 15 t2)).bind fun t98 =>
 (zab none t98).bind fun t99 =>
 (M.lift (Ax.un .not t99)).bind fun t100 =>
 (zaa [(0, t100)] (some (0, true)) (M.lift (Ax.faddr 18 t2))).bind fun t102 =>
 (zaa [(0, t100)] (some (0, true)) (zab none t102)).bind fun t103 =>
 (zaa [(0, t100)] (some (0, true)) (M.lift (Ax.faddr 4 t5))).bind fun t104 =>
 (zaa [(0, t100)] (some (0, true)) (zab none t104)).bind fun t105 =>
 (zaa [(0, t100)] (some (0, true)) (G zaS [t103, t105])).bind fun t106 =>
 (M.lift (Ax.pick t100 t106 (V.bool false))).bind fun t107 =>
 (zaa [(0, t107)] (some (0, false)) (M.lift (Ax.faddr 15 t2))).bind fun t109 =>
 (zaa [(0, t107)] (some (0, false)) (zab none t109)).bind fun t110 =>
 (zaa [(0, t107)] (some (0, false)) (M.pure t110)).bind fun t111 =>
 (zaa [(0, t111)] (some (0, true)) (M.lift (Ax.faddr 18 t2))).bind fun t112 =>
 (zaa [(0, t111)] (some (0, true)) (zab none t112)).bind fun t113 =>
 (zaa [(0, t111)] (some (0, true)) (M.lift (Ax.faddr 3 t7))).bind fun t114 =>
 (zaa [(0, t111)] (some (0, true)) (zab none t114)).bind fun t115 =>
 (zaa [(0, t111)] (some (0, true)) (G zay [t113, t115, (V.int .i64 0), (V.int .i64 255)])).bind fun t116 =>
 (zaa [(0, t107)] (some (0, false)) (M.lift (Ax.pick t111 t116 (V.bool false)))).bind fun t117 =>
 (M.lift (Ax.pick t107 (V.bool true) t117)).bind fun t118 =>
 M.pure (.ret [t118])))))
theorem zeO {t0 t1 : V} : OkT zbU [t0, t1] (zdG (sem T) t0 t1) := okT (by kernel_rfl) (by kernel_rfl) (by kernel_rfl)
noncomputable def zd3 (G : Sem') (t0 t1 : V) : M Res :=
 (mbox zaw t0).bind fun t2 =>
 (mbox zaf t1).bind fun t3 =>
 (mbox zaq (V.agg [(V.int .i64 0), (V.int .i64 0), V.nils, V.nils, V.nils])).bind fun t4 =>
 (zab (some 19) t2).bind fun t8 =>
 (zab (some 6) t3).bind fun t9 =>
 (G za8 [t8, t9]).bind fun t10 =>
 (mbox zaf (V.agg [(V.int .i64 0), (V.int .i64 0), V.nils, (V.int .i64 0), V.nils, V.nils])).bind fun t6 =>
 (zah 6 t6 t10).bind fun _ =>
 (M.lift (Ax.faddr 2 t2)).bind fun t11 =>
 (zab none t11).bind fun t12 =>
 (M.lift (Ax.bin .lss t12 (V.int .i64 0))).bind fun t13 =>
 (zaa [(0, t13)] (some (0, false)) (M.lift (Ax.faddr 2 t2))).bind fun t15 =>
 (zaa [(0, t13)] (some (0, false)) (zab none t15)).bind fun t16 =>
 (zaa [(0, t13)] (some (0, false)) (M.lift (Ax.bin .gtr t16 (V.int .i64 63)))).bind fun t17 =>
 (M.lift (Ax.pick t13 (V.bool true) t17)).bind fun t18 =>
 (zaa [(0, t18)] (some (0, false)) (zab (some 6) t6)).bind fun t20 =>
 (zaa [(0, t18)] (some (0, false)) (G zbV [t20])).bind fun t21 =>
 (zaa [(0, t18)] (some (0, false)) (M.lift (Ax.un .not t21))).bind fun t22 =>
 (M.lift (Ax.pick t18 (V.bool true) t22)).bind fun t23 =>
 M.ite t23
 ((M.lift (Ax.build [(V.int .i64 0), (V.int .i64 0), V.nils, V.nils, V.nils] [])).bind fun t24 =>
 (zah 5 t4 t24).bind fun _ =>
 (zab (some 5) t4).bind fun r0 =>
 M.pure (.ret [r0, (V.bool false)]))
 ((M.lift (Ax.faddr 2 t2)).bind fun t25 =>
 (zab none t25).bind fun t26 =>
 (M.lift (Ax.bin .add t26 (V.int .i64 64))).bind fun t27 =>
 (M.lift (Ax.faddr 0 t6)).bind fun t28 =>
 (zab none t28).bind fun t29 =>
 (M.lift (Ax.bin .sub t27 t29)).bind fun t30 =>
 (M.lift (Ax.bin .rem t30 (V.int .i64 64))).bind fun t31 =>
 (M.lift (Ax.faddr 2 t6)).bind fun t33 =>
 (zab none t33).bind fun t34 =>
 (M.lift (vlen t34)).bind fun t35 =>
 (M.lift (Ax.bin .geq t31 t35)).bind fun t36 =>
 M.ite t36
 ((M.lift (Ax.build [(V.int .i64 0), (V.int .i64 0), V.nils, V.nils, V.nils] [])).bind fun t37 =>
 (zah 5 t4 t37).bind fun _ =>
 (zab (some 5) t4).bind fun r0 =>
 M.pure (.ret [r0, (V.bool false)]))
 ((M.lift (Ax.faddr 2 t6)).bind fun t38 =>
 (zab none t38).bind fun t39 =>
 (M.lift (Ax.iaddr none 5 t39 t31)).bind fun t41 =>
 (zab (some 5) t41).bind fun t42 =>
 (zah 5 t4 t42).bind fun _ =>
 (zab (some 5) t4).bind fun r0 =>
 M.pure (.ret [r0, (V.bool true)])))
theorem zfn {t0 t1 : V} : OkT zca [t0, t1] (zd3 (sem T) t0 t1) := okT (by kernel_rfl) (by kernel_rfl) (by kernel_rfl)
noncomputable def zdq (G : Sem') (t0 t1 : V) : M Res :=
 (mbox zaw t0).bind fun t2 =>
 (mbox zaf t1).bind fun t3 =>
 (mbox zaf (V.agg [(V.int .i64 0), (V.int .i64 0), V.nils, (V.int .i64 0), V.nils, V.nils])).bind fun t4 =>
 (M.lift (Ax.faddr 4 t2)).bind fun t5 =>
 (zab none t5).bind fun t6 =>
 M.ite t6
 ((M.lift (Ax.faddr 5 t2)).bind fun t7 =>
 (zab (some 6) t7).bind fun t8 =>
 (zah 6 t4 t8).bind fun _ =>
 (zab (some 6) t4).bind fun r0 =>
 M.pure (.ret [r0]))
 ((zab (some 6) t3).bind fun t9 =>
 (zah 6 t4 t9).bind fun _ =>
 (zab (some 6) t4).bind fun r0 =>
 M.pure (.ret [r0]))
theorem zeF {t0 t1 : V} : OkT za8 [t0, t1] (zdq (sem T) t0 t1) := okT (by kernel_rfl) (by kernel_rfl) (by kernel_rfl)
noncomputable def zci (G : Sem') (t3 t1 : V) (L : List V) : M Res :=
 (M.lift (Ax.bin .lss (L.getD 0 .undef) t3)).bind fun t51 =>
 M.ite t51
 (M.blk 1 (
 (M.lift (Ax.faddr 2 t1)).bind fun t54 =>
 (zab none t54).bind fun t55 =>
 (M.lift (Ax.iaddr none 5 t55 (L.getD 0 .undef))).bind fun t57 =>
 (zab (some 5) t57).bind fun t58 =>
 (mbox zaq (V.agg [(V.int .i64 0), (V.int .i64 0), V.nils, V.nils, V.nils])).bind fun t5 =>
 (zah 5 t5 t58).bind fun _ =>
 (M.lift (Ax.faddr 0 t5)).bind fun t59 =>
 (zab none t59).bind fun t60 =>
 (M.lift (Ax.bin .lss t60 (V.int .i64 0))).bind fun t61 =>
 (zaa [(0, t61)] (some (0, false)) (M.lift (Ax.faddr 0 t5))).bind fun t63 =>
 (zaa [(0, t61)] (some (0, false)) (zab none t63)).bind fun t64 =>
 (zaa [(0, t61)] (some (0, false)) (M.lift (Ax.bin .gtr t64 (V.int .i64 3)))).bind fun t65 =>
 (M.lift (Ax.pick t61 (V.bool true) t65)).bind fun t66 =>
 (zaa [(0, t66)] (some (0, false)) (M.lift (Ax.faddr 1 t5))).bind fun t68 =>
 (zaa [(0, t66)] (some (0, false)) (zab none t68)).bind fun t69 =>
 (zaa [(0, t66)] (some (0, false)) (M.lift (Ax.bin .lss t69 (V.int .i64 0)))).bind fun t70 =>
 (M.lift (Ax.pick t66 (V.bool true) t70)).bind fun t71 =>
 (zaa [(0, t71)] (some (0, false)) (M.lift (Ax.faddr 1 t5))).bind fun t73 =>
 (zaa [(0, t71)] (some (0, false)) (zab none t73)).bind fun t74 =>
 (zaa [(0, t71)] (some (0, false)) (M.lift (Ax.bin .gtr t74 (V.int .i64 7)))).bind fun t75 =>
 (M.lift (Ax.pick t71 (V.bool true) t75)).bind fun t76 =>
 (zaa [(0, t76)] (some (0, false)) (M.pure (L.getD 0 .undef))).bind fun t78 =>
 (zaa [(0, t76)] (some (0, false)) (M.lift (Ax.bin .eql t78 (V.int .i64 0)))).bind fun t79 =>
 (zaa [(0, t76)] (some (0, false)) (M.pure t79)).bind fun t80 =>
 (zaa [(0, t80)] (some (0, true)) (M.lift (Ax.faddr 0 t5))).bind fun t81 =>
 (zaa [(0, t80)] (some (0, true)) (zab none t81)).bind fun t82 =>
 (zaa [(0, t80)] (some (0, true)) (M.lift (Ax.bin .neq t82 (V.int .i64 0)))).bind fun t83 =>
 (zaa [(0, t80)] (some (0, true)) (M.pure t83)).bind fun t84 =>
 (zaa [(0, t84)] (some (0, false)) (M.lift (Ax.faddr 1 t5))).bind fun t85 =>
 (zaa [(0, t84)] (some (0, false)) (zab none t85)).bind fun t86 =>
 (zaa [(0, t84)] (some (0, false)) (M.lift (Ax.bin .neq t86 (V.int .i64 0)))).bind fun t87 =>
 (zaa [(0, t80)] (some (0, true)) (M.lift (Ax.pick t84 (V.bool true) t87))).bind fun t88 =>
 (zaa [(0, t76)] (some (0, false)) (M.lift (Ax.pick t80 t88 (V.bool false)))).bind fun t89 =>
 (M.lift (Ax.pick t76 (V.bool true) t89)).bind fun t90 =>
 M.ite t90
 (M.pure (.ret [(V.bool false)]))
 ((M.lift (Ax.bin .gtr (L.getD 0 .undef) (V.int .i64 0))).bind fun t92 =>
 (zaa [(0, t92)] (some (0, true)) (M.lift (Ax.faddr 2 t1))).bind fun t94 =>
 (zaa [(0, t92)] (some (0, true)) (zab none t94)).bind fun t95 =>
 (zaa [(0, t92)] (some (0, true)) (M.pure (L.getD 0 .undef))).bind fun t96 =>
 (zaa [(0, t92)] (some (0, true)) (M.lift (Ax.bin .sub t96 (V.int .i64 1)))).bind fun t97 =>
 (zaa [(0, t92)] (some (0, true)) (M.lift (Ax.iaddr none 5 t95 t97))).bind fun t98 =>
 (zaa [(0, t92)] (some (0, true)) (zab (some 5) t98)).bind fun t99 =>
 (zaa [(0, t92)] (some (0, true)) (zab (some 5) t5)).bind fun t100 =>
 (zaa [(0, t92)] (some (0, true)) (G zbq [t99, t100])).bind fun t101 =>
 (zaa [(0, t92)] (some (0, true)) (M.lift (Ax.bin .eql t101 (V.int .i64 3)))).bind fun t102 =>
 (M.lift (Ax.pick t92 t102 (V.bool false))).bind fun t103 =>
 M.ite t103
 (M.pure (.ret [(V.bool false)]))
 ((M.lift (Ax.faddr 2 t5)).bind fun t104 =>
 (zab none t104).bind fun t105 =>
 (M.lift (Ax.faddr 1 t1)).bind fun t106 =>
 (zab none t106).bind fun t107 =>
 (G zay [t105, t107, (V.int .i64 0), (V.int .i64 3)]).bind fun t108 =>
 (M.lift (Ax.un .not t108)).bind fun t109 =>
 (zaa [(0, t109)] (some (0, false)) (M.lift (Ax.faddr 3 t5))).bind fun t111 =>
 (zaa [(0, t109)] (some (0, false)) (zab none t111)).bind fun t112 =>
 (zaa [(0, t109)] (some (0, false)) (M.lift (vlen t112))).bind fun t113 =>
 (zaa [(0, t109)] (some (0, false)) (M.lift (Ax.bin .gtr t113 (V.int .i64 8)))).bind fun t114 =>
 (M.lift (Ax.pick t109 (V.bool true) t114)).bind fun t115 =>
 (zaa [(0, t115)] (some (0, false)) (M.lift (Ax.faddr 3 t5))).bind fun t117 =>
 (zaa [(0, t115)] (some (0, false)) (zab none t117)).bind fun t118 =>
 (zaa [(0, t115)] (some (0, false)) (G zay [t118, (V.int .i64 (-1)), (V.int .i64 1), (V.int .i64 16)])).bind fun t119 =>
 (zaa [(0, t115)] (some (0, false)) (M.lift (Ax.un .not t119))).bind fun t120 =>
 (M.lift (Ax.pick t115 (V.bool true) t120)).bind fun t121 =>
 (zaa [(0, t121)] (some (0, false)) (M.lift (Ax.faddr 4 t5))).bind fun t123 =>
 (zaa [(0, t121)] (some (0, false)) (zab none t123)).bind fun t124 =>
 (zaa [(0, t121)] (some (0, false)) (M.lift (Ax.faddr 3 t1))).bind fun t125 =>
 (zaa [(0, t121)] (some (0, false)) (zab none t125)).bind fun t126 =>
 (zaa [(0, t121)] (some (0, false)) (G zay [t124, t126, (V.int .i64 0), (V.int .i64 15)])).bind fun t127 =>
 (zaa [(0, t121)] (some (0, false)) (M.lift (Ax.un .not t127))).bind fun t128 =>
 (M.lift (Ax.pick t121 (V.bool true) t128)).bind fun t129 =>
 M.ite t129
 (M.pure (.ret [(V.bool false)]))
 (M.pure (.nrm []))))) fun _ =>
 (M.lift (Ax.bin .add (L.getD 0 .undef) (V.int .i64 1))).bind fun t53 =>
 M.pure (.nrm [t53]))
 (M.pure (.ex 0 []))
noncomputable def zbR (G : Sem') (t1 : V) (L : List V) : M Res :=
 (M.lift (Ax.faddr 5 t1)).bind fun t159 =>
 (zab none t159).bind fun t160 =>
 (M.lift (vlen t160)).bind fun t161 =>
 (M.lift (Ax.bin .lss (L.getD 0 .undef) t161)).bind fun t162 =>
 M.ite t162
 (M.blk 3 (
 (M.lift (Ax.faddr 5 t1)).bind fun t165 =>
 (zab none t165).bind fun t166 =>
 (M.lift (Ax.iaddr none 2 t166 (L.getD 0 .undef))).bind fun t168 =>
 (M.lift (Ax.iaddr (some 2) 1 t168 (V.int .i64 0))).bind fun t169 =>
 (zab none t169).bind fun t170 =>
 (M.lift (Ax.faddr 5 t1)).bind fun t171 =>
 (zab none t171).bind fun t172 =>
 (M.lift (Ax.iaddr none 2 t172 (L.getD 0 .undef))).bind fun t174 =>
 (M.lift (Ax.iaddr (some 2) 1 t174 (V.int .i64 1))).bind fun t175 =>
 (zab none t175).bind fun t176 =>
 (mslit zcI 2 [(V.int .i64 0)] [(0, 1, t170), (1, 1, t176)]).bind fun t177 =>
 (G zay [t177, (V.int .i64 2), (V.int .i64 1), (V.int .i64 65536)]).bind fun t178 =>
 (M.lift (Ax.un .not t178)).bind fun t179 =>
 M.ite t179
 (M.pure (.ret [(V.bool false)]))
 (M.pure (.nrm []))) fun _ =>
 (M.lift (Ax.bin .add (L.getD 0 .undef) (V.int .i64 1))).bind fun t164 =>
 M.pure (.nrm [t164]))
 (M.pure (.ex 2 []))
noncomputable def zdH (G : Sem') (t0 : V) : M Res :=
 (mbox zaf t0).bind fun t1 =>
 (M.lift (Ax.faddr 2 t1)).bind fun t8 =>
 (zab none t8).bind fun t9 =>
 (M.lift (vlen t9)).bind fun t10 =>
 (M.lift (Ax.faddr 0 t1)).bind fun t11 =>
 (zab none t11).bind fun t12 =>
 (M.lift (Ax.bin .lss t12 (V.int .i64 0))).bind fun t13 =>
 (zaa [(0, t13)] (some (0, false)) (M.lift (Ax.faddr 0 t1))).bind fun t15 =>
 (zaa [(0, t13)] (some (0, false)) (zab none t15)).bind fun t16 =>
 (zaa [(0, t13)] (some (0, false)) (M.lift (Ax.bin .gtr t16 (V.int .i64 63)))).bind fun t17 =>
 (M.lift (Ax.pick t13 (V.bool true) t17)).bind fun t18 =>
 (zaa [(0, t18)] (some (0, false)) (M.lift (Ax.faddr 1 t1))).bind fun t20 =>
 (zaa [(0, t18)] (some (0, false)) (zab none t20)).bind fun t21 =>
 (zaa [(0, t18)] (some (0, false)) (M.lift (Ax.bin .lss t21 (V.int .i64 1)))).bind fun t22 =>
 (M.lift (Ax.pick t18 (V.bool true) t22)).bind fun t23 =>
 (zaa [(0, t23)] (some (0, false)) (M.lift (Ax.faddr 1 t1))).bind fun t25 =>
 (zaa [(0, t23)] (some (0, false)) (zab none t25)).bind fun t26 =>
 (zaa [(0, t23)] (some (0, false)) (M.lift (Ax.bin .gtr t26 (V.int .i64 32)))).bind fun t27 =>
 (M.lift (Ax.pick t23 (V.bool true) t27)).bind fun t28 =>
 (zaa [(0, t28)] (some (0, false)) (M.pure t10)).bind fun t30 =>
 (zaa [(0, t28)] (some (0, false)) (M.lift (Ax.bin .lss t30 (V.int .i64 1)))).bind fun t31 =>
 (M.lift (Ax.pick t28 (V.bool true) t31)).bind fun t32 =>
 (zaa [(0, t32)] (some (0, false)) (M.pure t10)).bind fun t34 =>
 (zaa [(0, t32)] (some (0, false)) (M.lift (Ax.bin .gtr t34 (V.int .i64 64)))).bind fun t35 =>
 (M.lift (Ax.pick t32 (V.bool true) t35)).bind fun t36 =>
 (zaa [(0, t36)] (some (0, false)) (M.lift (Ax.faddr 3 t1))).bind fun t38 =>
 (zaa [(0, t36)] (some (0, false)) (zab none t38)).bind fun t39 =>
 (zaa [(0, t36)] (some (0, false)) (M.lift (Ax.bin .lss t39 (V.int .i64 0)))).bind fun t40 =>
 (M.lift (Ax.pick t36 (V.bool true) t40)).bind fun t41 =>
 (zaa [(0, t41)] (some (0, false)) (M.lift (Ax.faddr 3 t1))).bind fun t43 =>
 (zaa [(0, t41)] (some (0, false)) (zab none t43)).bind fun t44 =>
 (zaa [(0, t41)] (some (0, false)) (M.lift (Ax.faddr 1 t1))).bind fun t45 =>
 (zaa [(0, t41)] (some (0, false)) (zab none t45)).bind fun t46 =>
 (zaa [(0, t41)] (some (0, false)) (M.lift (Ax.bin .gtr t44 t46))).bind fun t47 =>
 (M.lift (Ax.pick t41 (V.bool true) t47)).bind fun t48 =>
 M.ite t48
 (M.pure (.ret [(V.bool false)]))
 (M.blk 0 (
 M.iter (zci G t10 t1) [(V.int .i64 0)]) fun _ =>
 (M.lift (Ax.faddr 3 t1)).bind fun t130 =>
 (zab none t130).bind fun t131 =>
 (M.lift (Ax.bin .gtr t131 (V.int .i64 0))).bind fun t132 =>
 M.join (M.ite t132
 ((M.lift (Ax.faddr 1 t1)).bind fun t133 =>
 (zab none t133).bind fun t134 =>
 M.pure (.nrm [t134]))
 (M.pure (.nrm [(V.int .i64 0)]))) fun L2 =>
 (M.lift (Ax.faddr 4 t1)).bind fun t135 =>
 (zab none t135).bind fun t136 =>
 (M.lift (Ax.faddr 3 t1)).bind fun t138 =>
 (zab none t138).bind fun t139 =>
 (M.lift (Ax.bin .sub t139 (V.int .i64 1))).bind fun t140 =>
 (G zay [t136, (L2.getD 0 .undef), (V.int .i64 0), t140]).bind fun t141 =>
 (M.lift (Ax.un .not t141)).bind fun t142 =>
 (zaa [(0, t142)] (some (0, false)) (M.lift (Ax.faddr 5 t1))).bind fun t144 =>
 (zaa [(0, t142)] (some (0, false)) (zab none t144)).bind fun t145 =>
 (zaa [(0, t142)] (some (0, false)) (M.lift (vlen t145))).bind fun t146 =>
 (zaa [(0, t142)] (some (0, false)) (M.lift (Ax.bin .gtr t146 (V.int .i64 0)))).bind fun t147 =>
 (zaa [(0, t142)] (some (0, false)) (M.pure t147)).bind fun t148 =>
 (zaa [(0, t148)] (some (0, true)) (zab (some 6) t1)).bind fun t152 =>
 M.getH.bind fun h0 =>
 (zaa [(0, t148)] (some (0, true)) (G zbY [t152])).bind fun t153 =>
 M.getH.bind fun h0' =>
 (zaa [(0, t148)] (some (0, true)) (M.lift (Ax.faddr 5 t1))).bind fun t149 =>
 (zaa [(0, t148)] (some (0, true)) (zab none t149)).bind fun t150 =>
 (M.unch t149 h0 h0').bind fun _ =>
 (zaa [(0, t148)] (some (0, true)) (M.lift (vlen t150))).bind fun t151 =>
 (zaa [(0, t148)] (some (0, true)) (M.lift (Ax.bin .add t153 (V.int .i64 1)))).bind fun t154 =>
 (zaa [(0, t148)] (some (0, true)) (M.lift (Ax.bin .neq t151 t154))).bind fun t155 =>
 (zaa [(0, t142)] (some (0, false)) (M.lift (Ax.pick t148 t155 (V.bool false)))).bind fun t156 =>
 (M.lift (Ax.pick t142 (V.bool true) t156)).bind fun t157 =>
 M.ite t157
 (M.pure (.ret [(V.bool false)]))
 (M.blk 2 (
 M.iter (zbR G t1) [(V.int .i64 0)]) fun _ =>
 M.pure (.ret [(V.bool true)])))
theorem zeP {t0 : V} : OkT zbV [t0] (zdH (sem T) t0) := okT (by kernel_rfl) (by kernel_rfl) (by kernel_rfl)
noncomputable def zdF (G : Sem') (t0 t1 : V) : M Res :=
 (mbox zaq t0).bind fun t2 =>
 (mbox zaq t1).bind fun t3 =>
 M.blk 0 (
 (M.lift (Ax.faddr 0 t2)).bind fun t6 =>
 (zab none t6).bind fun t7 =>
 (M.lift (Ax.faddr 0 t3)).bind fun t8 =>
 (zab none t8).bind fun t9 =>
 (M.lift (Ax.bin .eql t7 t9)).bind fun t10 =>
 (zaa [(0, t10)] (some (0, true)) (M.lift (Ax.faddr 1 t2))).bind fun t12 =>
 (zaa [(0, t10)] (some (0, true)) (zab none t12)).bind fun t13 =>
 (zaa [(0, t10)] (some (0, true)) (M.lift (Ax.faddr 1 t3))).bind fun t14 =>
 (zaa [(0, t10)] (some (0, true)) (zab none t14)).bind fun t15 =>
 (zaa [(0, t10)] (some (0, true)) (M.lift (Ax.bin .eql t13 t15))).bind fun t16 =>
 (M.lift (Ax.pick t10 t16 (V.bool false))).bind fun t17 =>
 M.ite t17
 (M.pure (.ret [(V.int .i64 0)]))
 ((M.lift (Ax.faddr 0 t2)).bind fun t19 =>
 (zab none t19).bind fun t20 =>
 (M.lift (Ax.faddr 0 t3)).bind fun t21 =>
 (zab none t21).bind fun t22 =>
 (M.lift (Ax.bin .eql t20 t22)).bind fun t23 =>
 (zaa [(0, t23)] (some (0, true)) (M.lift (Ax.faddr 1 t2))).bind fun t25 =>
 (zaa [(0, t23)] (some (0, true)) (zab none t25)).bind fun t26 =>
 (zaa [(0, t23)] (some (0, true)) (M.lift (Ax.bin .add t26 (V.int .i64 1)))).bind fun t27 =>
 (zaa [(0, t23)] (some (0, true)) (M.lift (Ax.faddr 1 t3))).bind fun t28 =>
 (zaa [(0, t23)] (some (0, true)) (zab none t28)).bind fun t29 =>
 (zaa [(0, t23)] (some (0, true)) (M.lift (Ax.bin .eql t27 t29))).bind fun t30 =>
 (M.lift (Ax.pick t23 t30 (V.bool false))).bind fun t31 =>
 M.ite t31
 (M.pure (.ret [(V.int .i64 1)]))
 ((M.lift (Ax.faddr 0 t2)).bind fun t33 =>
 (zab none t33).bind fun t34 =>
 (M.lift (Ax.bin .add t34 (V.int .i64 1))).bind fun t35 =>
 (M.lift (Ax.faddr 0 t3)).bind fun t36 =>
 (zab none t36).bind fun t37 =>
 (M.lift (Ax.bin .eql t35 t37)).bind fun t38 =>
 (zaa [(0, t38)] (some (0, true)) (M.lift (Ax.faddr 1 t3))).bind fun t40 =>
 (zaa [(0, t38)] (some (0, true)) (zab none t40)).bind fun t41 =>
 (zaa [(0, t38)] (some (0, true)) (M.lift (Ax.bin .eql t41 (V.int .i64 0)))).bind fun t42 =>
 (M.lift (Ax.pick t38 t42 (V.bool false))).bind fun t43 =>
 M.ite t43
 (M.pure (.ret [(V.int .i64 2)]))
 (M.pure (.nrm []))))) fun _ =>
 M.pure (.ret [(V.int .i64 3)])
theorem zeN {t0 t1 : V} : OkT zbq [t0, t1] (zdF (sem T) t0 t1) := okT (by kernel_rfl) (by kernel_rfl) (by kernel_rfl)
end Go.Ax
/- FnD2 -/
namespace Go.Ax
open Go.Proofs
noncomputable def zbA (G : Sem') (t2 t0 t3 : V) (L : List V) : M Res :=
 (M.lift (vlen t0)).bind fun t20 =>
 (M.lift (Ax.bin .lss (L.getD 0 .undef) t20)).bind fun t21 =>
 M.ite t21
 (M.blk 1 (
 (M.lift (Ax.iaddr none 1 t0 (L.getD 0 .undef))).bind fun t26 =>
 (zab none t26).bind fun t27 =>
 (M.lift (Ax.bin .lss t27 t2)).bind fun t29 =>
 (zaa [(0, t29)] (some (0, false)) (M.pure t0)).bind fun t31 =>
 (zaa [(0, t29)] (some (0, false)) (M.pure (L.getD 0 .undef))).bind fun t32 =>
 (zaa [(0, t29)] (some (0, false)) (M.lift (Ax.iaddr none 1 t31 t32))).bind fun t33 =>
 (zaa [(0, t29)] (some (0, false)) (zab none t33)).bind fun t34 =>
 (zaa [(0, t29)] (some (0, false)) (M.pure t3)).bind fun t35 =>
 (zaa [(0, t29)] (some (0, false)) (M.lift (Ax.bin .gtr t34 t35))).bind fun t36 =>
 (M.lift (Ax.pick t29 (V.bool true) t36)).bind fun t37 =>
 M.ite t37
 (M.pure (.ret [(V.bool false)]))
 (M.pure (.nrm []))) fun _ =>
 (M.lift (Ax.bin .add (L.getD 0 .undef) (V.int .i64 1))).bind fun t23 =>
 M.pure (.nrm [t23]))
 (M.pure (.ex 0 []))
noncomputable def zda (G : Sem') (t0 t1 t2 t3 : V) : M Res :=
 (M.lift (Ax.bin .geq t1 (V.int .i64 0))).bind fun t11 =>
 (zaa [(0, t11)] (some (0, true)) (M.pure t0)).bind fun t13 =>
 (zaa [(0, t11)] (some (0, true)) (M.lift (vlen t13))).bind fun t14 =>
 (zaa [(0, t11)] (some (0, true)) (M.pure t1)).bind fun t15 =>
 (zaa [(0, t11)] (some (0, true)) (M.lift (Ax.bin .neq t14 t15))).bind fun t16 =>
 (M.lift (Ax.pick t11 t16 (V.bool false))).bind fun t17 =>
 M.ite t17
 (M.pure (.ret [(V.bool false)]))
 (M.blk 0 (
 M.iter (zbA G t2 t0 t3) [(V.int .i64 0)]) fun _ =>
 M.pure (.ret [(V.bool true)]))
theorem zen {t0 t1 t2 t3 : V} : OkT zay [t0, t1, t2, t3] (zda (sem T) t0 t1 t2 t3) := okT (by kernel_rfl) (by kernel_rfl) (by kernel_rfl)
noncomputable def zcv (G : Sem') (t1 t2 : V) (L : List V) : M Res :=
 (M.lift (Ax.faddr 2 t1)).bind fun t6 =>
 (zab none t6).bind fun t7 =>
 (M.lift (vlen t7)).bind fun t8 =>
 (M.lift (Ax.bin .lss (L.getD 1 .undef) t8)).bind fun t9 =>
 M.ite t9
 (M.blk 1 (
 (M.lift (Ax.faddr 2 t1)).bind fun t13 =>
 (zab none t13).bind fun t14 =>
 (M.lift (Ax.iaddr none 5 t14 (L.getD 1 .undef))).bind fun t16 =>
 (M.lift (Ax.faddr 0 t16)).bind fun t17 =>
 (zab none t17).bind fun t18 =>
 (M.lift (Ax.minmax true (L.getD 0 .undef) [t18])).bind fun t19 =>
 M.pure (.nrm [t19])) fun L0 =>
 (M.lift (Ax.bin .add (L.getD 1 .undef) (V.int .i64 1))).bind fun t11 =>
 M.pure (.nrm [(L0.getD 0 .undef), t11]))
 (M.pure (.ex 0 [(L.getD 0 .undef)]))
noncomputable def zdX (G : Sem') (t0 : V) : M Res :=
 (mbox zaf t0).bind fun t1 =>
 M.blk 0 (
 M.iter (zcv G t1 (V.int .i64 0)) [(V.int .i64 0), (V.int .i64 0)]) fun L1 =>
 M.pure (.ret [(L1.getD 0 .undef)])
theorem zfd {t0 : V} : OkT zbY [t0] (zdX (sem T) t0) := okT (by kernel_rfl) (by kernel_rfl) (by kernel_rfl)
noncomputable def zdE (G : Sem') (t0 : V) : M Res :=
 (mbox zaf t0).bind fun t1 =>
 (M.lift (Ax.faddr 0 t1)).bind fun t3 =>
 (zab none t3).bind fun t4 =>
 (M.lift (Ax.bin .eql t4 (V.int .i64 0))).bind fun t5 =>
 (zaa [(0, t5)] (some (0, true)) (M.lift (Ax.faddr 1 t1))).bind fun t7 =>
 (zaa [(0, t5)] (some (0, true)) (zab none t7)).bind fun t8 =>
 (zaa [(0, t5)] (some (0, true)) (M.lift (Ax.bin .eql t8 (V.int .i64 0)))).bind fun t9 =>
 (M.lift (Ax.pick t5 t9 (V.bool false))).bind fun t10 =>
 (zaa [(0, t10)] (some (0, true)) (M.lift (Ax.faddr 2 t1))).bind fun t12 =>
 (zaa [(0, t10)] (some (0, true)) (zab none t12)).bind fun t13 =>
 (zaa [(0, t10)] (some (0, true)) (M.lift (vlen t13))).bind fun t14 =>
 (zaa [(0, t10)] (some (0, true)) (M.lift (Ax.bin .eql t14 (V.int .i64 0)))).bind fun t15 =>
 (M.lift (Ax.pick t10 t15 (V.bool false))).bind fun t16 =>
 (zaa [(0, t16)] (some (0, true)) (M.lift (Ax.faddr 3 t1))).bind fun t18 =>
 (zaa [(0, t16)] (some (0, true)) (zab none t18)).bind fun t19 =>
 (zaa [(0, t16)] (some (0, true)) (M.lift (Ax.bin .eql t19 (V.int .i64 0)))).bind fun t20 =>
 (M.lift (Ax.pick t16 t20 (V.bool false))).bind fun t21 =>
 (zaa [(0, t21)] (some (0, true)) (M.lift (Ax.faddr 4 t1))).bind fun t23 =>
 (zaa [(0, t21)] (some (0, true)) (zab none t23)).bind fun t24 =>
 (zaa [(0, t21)] (some (0, true)) (M.lift (vlen t24))).bind fun t25 =>
 (zaa [(0, t21)] (some (0, true)) (M.lift (Ax.bin .eql t25 (V.int .i64 0)))).bind fun t26 =>
 (M.lift (Ax.pick t21 t26 (V.bool false))).bind fun t27 =>
 (zaa [(0, t27)] (some (0, true)) (M.lift (Ax.faddr 5 t1))).bind fun t29 =>
 (zaa [(0, t27)] (some (0, true)) (zab none t29)).bind fun t30 =>
 (zaa [(0, t27)] (some (0, true)) (M.lift (vlen t30))).bind fun t31 =>
 (zaa [(0, t27)] (some (0, true)) (M.lift (Ax.bin .eql t31 (V.int .i64 0)))).bind fun t32 =>
 (M.lift (Ax.pick t27 t32 (V.bool false))).bind fun t33 =>
 M.pure (.ret [t33])
theorem zeM {t0 : V} : OkT zbp [t0] (zdE (sem T) t0) := okT (by kernel_rfl) (by kernel_rfl) (by kernel_rfl)
noncomputable def zbT (G : Sem') (t0 t1 : V) (L : List V) : M Res :=
 (M.lift (vlen t0)).bind fun t13 =>
 (M.lift (Ax.bin .lss (L.getD 0 .undef) t13)).bind fun t14 =>
 M.ite t14
 (M.blk 1 (
 (M.lift (Ax.iaddr none 1 t0 (L.getD 0 .undef))).bind fun t19 =>
 (zab none t19).bind fun t20 =>
 (M.lift (Ax.iaddr none 1 t1 (L.getD 0 .undef))).bind fun t23 =>
 (zab none t23).bind fun t24 =>
 (M.lift (Ax.bin .neq t20 t24)).bind fun t25 =>
 M.ite t25
 (M.pure (.ret [(V.bool false)]))
 (M.pure (.nrm []))) fun _ =>
 (M.lift (Ax.bin .add (L.getD 0 .undef) (V.int .i64 1))).bind fun t16 =>
 M.pure (.nrm [t16]))
 (M.pure (.ex 0 []))
noncomputable def zcU (G : Sem') (t0 t1 : V) : M Res :=
 (M.lift (vlen t0)).bind fun t7 =>
 (M.lift (vlen t1)).bind fun t9 =>
 (M.lift (Ax.bin .neq t7 t9)).bind fun t10 =>
 M.ite t10
 (M.pure (.ret [(V.bool false)]))
 (M.blk 0 (
 M.iter (zbT G t0 t1) [(V.int .i64 0)]) fun _ =>
 M.pure (.ret [(V.bool true)]))
theorem zd5 {t0 t1 : V} : OkT zaS [t0, t1] (zcU (sem T) t0 t1) := okT (by kernel_rfl) (by kernel_rfl) (by kernel_rfl)
noncomputable def zdY (G : Sem') (t0 : V) : M Res :=
 M.ite t0
 (M.pure (.ret [(V.int .u64 1)]))
 (M.pure (.ret [(V.int .u64 0)]))
theorem zfe {t0 : V} : OkT zav [t0] (zdY (sem T) t0) := okT (by kernel_rfl) (by kernel_rfl) (by kernel_rfl)
noncomputable def zaV (G : Sem') (t0 t1 t6 : V) (L : List V) : M Res :=
 (M.lift (Ax.bin .geq (L.getD 0 .undef) (V.int .i64 0))).bind fun t28 =>
 M.ite t28
 (M.blk 1 (
 (M.lift (Ax.nilck t0)).bind fun t33 =>
 (M.lift (Ax.faddr 0 t33)).bind fun t34 =>
 (zab none t34).bind fun t35 =>
 (M.lift (Ax.cint .u64 (L.getD 0 .undef))).bind fun t38 =>
 (M.lift (Ax.bin .shr t1 t38)).bind fun t39 =>
 (M.lift (Ax.bin .and t39 (V.int .u64 1))).bind fun t40 =>
 (M.lift (Ax.bin .eql t40 (V.int .u64 1))).bind fun t41 =>
 (mslit zf2 1 [(V.bool false)] [(0, 1, t41)]).bind fun t42 =>
 (mappend zf2 1 1 t35 t42).bind fun t43 =>
 (M.lift (Ax.nilck t0)).bind fun t44 =>
 (M.lift (Ax.faddr 0 t44)).bind fun t45 =>
 (zah 1 t45 t43).bind fun _ =>
 M.pure (.nrm [])) fun _ =>
 (M.lift (Ax.bin .sub (L.getD 0 .undef) (V.int .i64 1))).bind fun t30 =>
 M.pure (.nrm [t30]))
 (M.pure (.ex 0 []))
noncomputable def zcF (G : Sem') (t0 t1 t2 : V) : M Res :=
 (M.lift (Ax.bin .lss t2 (V.int .i64 0))).bind fun t9 =>
 (zaa [(0, t9)] (some (0, false)) (M.pure t2)).bind fun t11 =>
 (zaa [(0, t9)] (some (0, false)) (M.lift (Ax.bin .gtr t11 (V.int .i64 64)))).bind fun t12 =>
 (M.lift (Ax.pick t9 (V.bool true) t12)).bind fun t13 =>
 (zaa [(0, t13)] (some (0, false)) (M.pure t2)).bind fun t15 =>
 (zaa [(0, t13)] (some (0, false)) (M.lift (Ax.bin .lss t15 (V.int .i64 64)))).bind fun t16 =>
 (zaa [(0, t13)] (some (0, false)) (M.pure t16)).bind fun t17 =>
 (zaa [(0, t17)] (some (0, true)) (M.pure t1)).bind fun t18 =>
 (zaa [(0, t17)] (some (0, true)) (M.pure t2)).bind fun t19 =>
 (zaa [(0, t17)] (some (0, true)) (M.lift (Ax.cint .u64 t19))).bind fun t20 =>
 (zaa [(0, t17)] (some (0, true)) (M.lift (Ax.bin .shr t18 t20))).bind fun t21 =>
 (zaa [(0, t17)] (some (0, true)) (M.lift (Ax.bin .neq t21 (V.int .u64 0)))).bind fun t22 =>
 (zaa [(0, t13)] (some (0, false)) (M.lift (Ax.pick t17 t22 (V.bool false)))).bind fun t23 =>
 (M.lift (Ax.pick t13 (V.bool true) t23)).bind fun t24 =>
 M.ite t24
 (M.pure (.ret [(V.int .i64 1)]))
 ((M.lift (Ax.bin .sub t2 (V.int .i64 1))).bind fun t26 =>
 M.blk 0 (
 M.iter (zaV G t0 t1 (V.int .i64 0)) [t26]) fun _ =>
 M.pure (.ret [(V.int .i64 0)]))
theorem zdP {t0 t1 t2 : V} : OkT zae [t0, t1, t2] (zcF (sem T) t0 t1 t2) := okT (by kernel_rfl) (by kernel_rfl) (by kernel_rfl)
noncomputable def zbs (G : Sem') (t0 t3 t2 : V) (L : List V) : M Res :=
 (M.lift (Ax.nilck t0)).bind fun t15 =>
 (M.lift (Ax.faddr 0 t15)).bind fun t16 =>
 (zab none t16).bind fun t17 =>
 (M.lift (vlen t17)).bind fun t18 =>
 (M.lift (Ax.bin .lss (L.getD 0 .undef) t18)).bind fun t19 =>
 M.ite t19
 (M.blk 1 (
 (M.lift (Ax.nilck t0)).bind fun t23 =>
 (M.lift (Ax.faddr 0 t23)).bind fun t24 =>
 (zab none t24).bind fun t25 =>
 (M.lift (Ax.iaddr none 1 t25 (L.getD 0 .undef))).bind fun t27 =>
 (zab none t27).bind fun t28 =>
 M.join (M.ite t28
 ((M.lift (Ax.bin .quo (L.getD 0 .undef) (V.int .i64 8))).bind fun t31 =>
 (M.lift (Ax.bin .quo (L.getD 0 .undef) (V.int .i64 8))).bind fun t34 =>
 (M.lift (Ax.iaddr none 1 t3 t34)).bind fun t35 =>
 (zab none t35).bind fun t36 =>
 (M.lift (Ax.bin .rem (L.getD 0 .undef) (V.int .i64 8))).bind fun t38 =>
 (M.lift (Ax.cint .u64 t38)).bind fun t39 =>
 (M.lift (Ax.bin .shr (V.int .u8 128) t39)).bind fun t40 =>
 (M.lift (Ax.bin .or t36 t40)).bind fun t41 =>
 (M.lift (Ax.iaddr none 1 t3 t31)).bind fun t42 =>
 (zah 1 t42 t41).bind fun _ =>
 M.pure (.nrm []))
 (M.pure (.nrm []))) fun _ =>
 M.pure (.nrm [])) fun _ =>
 (M.lift (Ax.bin .add (L.getD 0 .undef) (V.int .i64 1))).bind fun t21 =>
 M.pure (.nrm [t21]))
 (M.pure (.ex 0 []))
noncomputable def zcq (G : Sem') (t0 : V) : M Res :=
 (M.lift (Ax.nilck t0)).bind fun t6 =>
 (M.lift (Ax.faddr 0 t6)).bind fun t7 =>
 (zab none t7).bind fun t8 =>
 (M.lift (vlen t8)).bind fun t9 =>
 (M.lift (Ax.bin .add t9 (V.int .i64 7))).bind fun t10 =>
 (M.lift (Ax.bin .quo t10 (V.int .i64 8))).bind fun t11 =>
 (mmkslice zaD 1 [(V.int .u8 0)] t11 t11).bind fun t12 =>
 M.blk 0 (
 M.iter (zbs G t0 t12 V.nils) [(V.int .i64 0)]) fun _ =>
 M.pure (.ret [t12])
theorem zdz {t0 : V} : OkT zaN [t0] (zcq (sem T) t0) := okT (by kernel_rfl) (by kernel_rfl) (by kernel_rfl)
noncomputable def zbz (G : Sem') (t4 t3 t0 : V) (L : List V) : M Res :=
 (M.lift (Ax.bin .lss (L.getD 0 .undef) t4)).bind fun t31 =>
 M.ite t31
 (M.blk 1 (
 (M.lift (Ax.bin .add (L.getD 0 .undef) (V.int .i64 1))).bind fun t35 =>
 (M.lift (Ax.bin .lss t35 t4)).bind fun t37 =>
 M.join (M.ite t37
 ((M.lift (Ax.faddr 2 t3)).bind fun t38 =>
 (zab none t38).bind fun t39 =>
 (M.lift (Ax.iaddr none 5 t39 (L.getD 0 .undef))).bind fun t41 =>
 (zab (some 5) t41).bind fun t42 =>
 (M.lift (Ax.faddr 2 t3)).bind fun t43 =>
 (zab none t43).bind fun t44 =>
 (M.lift (Ax.bin .add (L.getD 0 .undef) (V.int .i64 1))).bind fun t46 =>
 (M.lift (Ax.iaddr none 5 t44 t46)).bind fun t47 =>
 (zab (some 5) t47).bind fun t48 =>
 (G zbq [t42, t48]).bind fun t49 =>
 M.pure (.nrm [t49]))
 (M.pure (.nrm [(V.int .i64 3)]))) fun L0 =>
 (M.lift (Ax.cint .u64 (L0.getD 0 .undef))).bind fun t52 =>
 (G zae [t0, t52, (V.int .i64 2)]).bind fun t53 =>
 M.pure (.nrm [])) fun _ =>
 (M.lift (Ax.bin .add (L.getD 0 .undef) (V.int .i64 1))).bind fun t33 =>
 M.pure (.nrm [t33]))
 (M.pure (.ex 0 []))
noncomputable def zb4 (G : Sem') (t0 t3 t7 : V) (L : List V) : M Res :=
 (M.lift (Ax.faddr 1 t3)).bind fun t60 =>
 (zab none t60).bind fun t61 =>
 (M.lift (Ax.bin .lss (L.getD 0 .undef) t61)).bind fun t62 =>
 M.ite t62
 (M.blk 5 (
 (M.lift (Ax.faddr 2 t3)).bind fun t66 =>
 (zab none t66).bind fun t67 =>
 (M.lift (Ax.iaddr none 5 t67 t7)).bind fun t69 =>
 (M.lift (Ax.faddr 2 t69)).bind fun t70 =>
 (zab none t70).bind fun t71 =>
 (M.lift (Ax.iaddr none 1 t71 (L.getD 0 .undef))).bind fun t73 =>
 (zab none t73).bind fun t74 =>
 (M.lift (Ax.cint .u64 t74)).bind fun t75 =>
 (G zae [t0, t75, (V.int .i64 2)]).bind fun t76 =>
 M.pure (.nrm [])) fun _ =>
 (M.lift (Ax.bin .add (L.getD 0 .undef) (V.int .i64 1))).bind fun t64 =>
 M.pure (.nrm [t64]))
 (M.pure (.ex 4 []))
noncomputable def zby (G : Sem') (t4 t0 t3 : V) (L : List V) : M Res :=
 (M.lift (Ax.bin .lss (L.getD 0 .undef) t4)).bind fun t56 =>
 M.ite t56
 (M.blk 3 (
 M.blk 4 (
 M.iter (zb4 G t0 t3 (L.getD 0 .undef)) [(V.int .i64 0)]) fun _ =>
 M.pure (.nrm [])) fun _ =>
 (M.lift (Ax.bin .add (L.getD 0 .undef) (V.int .i64 1))).bind fun t58 =>
 M.pure (.nrm [t58]))
 (M.pure (.ex 2 []))
noncomputable def zb3 (G : Sem') (t0 t3 t9 : V) (L : List V) : M Res :=
 (M.lift (Ax.faddr 2 t3)).bind fun t83 =>
 (zab none t83).bind fun t84 =>
 (M.lift (Ax.iaddr none 5 t84 t9)).bind fun t86 =>
 (M.lift (Ax.faddr 3 t86)).bind fun t87 =>
 (zab none t87).bind fun t88 =>
 (M.lift (vlen t88)).bind fun t89 =>
 (M.lift (Ax.bin .lss (L.getD 0 .undef) t89)).bind fun t90 =>
 M.ite t90
 (M.blk 9 (
 (G zae [t0, (V.int .u64 1), (V.int .i64 1)]).bind fun t94 =>
 (M.lift (Ax.faddr 2 t3)).bind fun t96 =>
 (zab none t96).bind fun t97 =>
 (M.lift (Ax.iaddr none 5 t97 t9)).bind fun t99 =>
 (M.lift (Ax.faddr 3 t99)).bind fun t100 =>
 (zab none t100).bind fun t101 =>
 (M.lift (Ax.iaddr none 1 t101 (L.getD 0 .undef))).bind fun t103 =>
 (zab none t103).bind fun t104 =>
 (M.lift (Ax.bin .sub t104 (V.int .i64 1))).bind fun t105 =>
 (M.lift (Ax.cint .u64 t105)).bind fun t106 =>
 (G zae [t0, t106, (V.int .i64 4)]).bind fun t107 =>
 M.pure (.nrm [])) fun _ =>
 (M.lift (Ax.bin .add (L.getD 0 .undef) (V.int .i64 1))).bind fun t92 =>
 M.pure (.nrm [t92]))
 (M.pure (.ex 8 []))
noncomputable def zbx (G : Sem') (t4 t3 t0 : V) (L : List V) : M Res :=
 (M.lift (Ax.bin .lss (L.getD 0 .undef) t4)).bind fun t79 =>
 M.ite t79
 (M.blk 7 (
 M.blk 8 (
 M.iter (zb3 G t0 t3 (L.getD 0 .undef)) [(V.int .i64 0)]) fun _ =>
 (G zae [t0, (V.int .u64 0), (V.int .i64 1)]).bind fun t109 =>
 M.pure (.nrm [])) fun _ =>
 (M.lift (Ax.bin .add (L.getD 0 .undef) (V.int .i64 1))).bind fun t81 =>
 M.pure (.nrm [t81]))
 (M.pure (.ex 6 []))
noncomputable def zbw (G : Sem') (t0 t3 : V) (L : List V) : M Res :=
 (M.lift (Ax.faddr 1 t3)).bind fun t123 =>
 (zab none t123).bind fun t124 =>
 (M.lift (Ax.bin .lss (L.getD 0 .undef) t124)).bind fun t125 =>
 M.ite t125
 (M.blk 11 (
 (M.lift (Ax.faddr 4 t3)).bind fun t129 =>
 (zab none t129).bind fun t130 =>
 (M.lift (Ax.iaddr none 1 t130 (L.getD 0 .undef))).bind fun t132 =>
 (zab none t132).bind fun t133 =>
 (M.lift (Ax.cint .u64 t133)).bind fun t134 =>
 (M.lift (Ax.faddr 3 t3)).bind fun t135 =>
 (zab none t135).bind fun t136 =>
 (M.lift (Ax.cint .u64 t136)).bind fun t137 =>
 (G zaO [t0, t134, t137]).bind fun t138 =>
 M.pure (.nrm [])) fun _ =>
 (M.lift (Ax.bin .add (L.getD 0 .undef) (V.int .i64 1))).bind fun t127 =>
 M.pure (.nrm [t127]))
 (M.pure (.ex 10 []))
noncomputable def zb2 (G : Sem') (t0 t3 t12 : V) (L : List V) : M Res :=
 (M.lift (Ax.faddr 3 t3)).bind fun t145 =>
 (zab none t145).bind fun t146 =>
 (M.lift (Ax.bin .lss (L.getD 0 .undef) t146)).bind fun t147 =>
 M.ite t147
 (M.blk 15 (
 (M.lift (Ax.faddr 2 t3)).bind fun t151 =>
 (zab none t151).bind fun t152 =>
 (M.lift (Ax.iaddr none 5 t152 t12)).bind fun t154 =>
 (M.lift (Ax.faddr 4 t154)).bind fun t155 =>
 (zab none t155).bind fun t156 =>
 (M.lift (Ax.iaddr none 1 t156 (L.getD 0 .undef))).bind fun t158 =>
 (zab none t158).bind fun t159 =>
 (M.lift (Ax.cint .u64 t159)).bind fun t160 =>
 (G zae [t0, t160, (V.int .i64 4)]).bind fun t161 =>
 M.pure (.nrm [])) fun _ =>
 (M.lift (Ax.bin .add (L.getD 0 .undef) (V.int .i64 1))).bind fun t149 =>
 M.pure (.nrm [t149]))
 (M.pure (.ex 14 []))
noncomputable def zbv (G : Sem') (t4 t0 t3 : V) (L : List V) : M Res :=
 (M.lift (Ax.bin .lss (L.getD 0 .undef) t4)).bind fun t141 =>
 M.ite t141
 (M.blk 13 (
 M.blk 14 (
 M.iter (zb2 G t0 t3 (L.getD 0 .undef)) [(V.int .i64 0)]) fun _ =>
 M.pure (.nrm [])) fun _ =>
 (M.lift (Ax.bin .add (L.getD 0 .undef) (V.int .i64 1))).bind fun t143 =>
 M.pure (.nrm [t143]))
 (M.pure (.ex 12 []))
noncomputable def zbu (G : Sem') (t0 t3 : V) (L : List V) : M Res :=
 (M.lift (Ax.faddr 5 t3)).bind fun t170 =>
 (zab none t170).bind fun t171 =>
 (M.lift (vlen t171)).bind fun t172 =>
 (M.lift (Ax.bin .lss (L.getD 0 .undef) t172)).bind fun t173 =>
 M.ite t173
 (M.blk 17 (
 (M.lift (Ax.faddr 5 t3)).bind fun t177 =>
 (zab none t177).bind fun t178 =>
 (M.lift (Ax.iaddr none 2 t178 (L.getD 0 .undef))).bind fun t180 =>
 (M.lift (Ax.iaddr (some 2) 1 t180 (V.int .i64 0))).bind fun t181 =>
 (zab none t181).bind fun t182 =>
 (M.lift (Ax.bin .sub t182 (V.int .i64 1))).bind fun t183 =>
 (M.lift (Ax.cint .u64 t183)).bind fun t184 =>
 (G zae [t0, t184, (V.int .i64 16)]).bind fun t185 =>
 (M.lift (Ax.faddr 5 t3)).bind fun t187 =>
 (zab none t187).bind fun t188 =>
 (M.lift (Ax.iaddr none 2 t188 (L.getD 0 .undef))).bind fun t190 =>
 (M.lift (Ax.iaddr (some 2) 1 t190 (V.int .i64 1))).bind fun t191 =>
 (zab none t191).bind fun t192 =>
 (M.lift (Ax.bin .sub t192 (V.int .i64 1))).bind fun t193 =>
 (M.lift (Ax.cint .u64 t193)).bind fun t194 =>
 (G zae [t0, t194, (V.int .i64 16)]).bind fun t195 =>
 M.pure (.nrm [])) fun _ =>
 (M.lift (Ax.bin .add (L.getD 0 .undef) (V.int .i64 1))).bind fun t175 =>
 M.pure (.nrm [t175]))
 (M.pure (.ex 16 []))
noncomputable def zc9 (G : Sem') (t0 t1 : V) : M Res :=
 (mbox zaf t1).bind fun t3 =>
 (M.lift (Ax.faddr 2 t3)).bind fun t15 =>
 (zab none t15).bind fun t16 =>
 (M.lift (vlen t16)).bind fun t17 =>
 (M.lift (Ax.faddr 0 t3)).bind fun t19 =>
 (zab none t19).bind fun t20 =>
 (M.lift (Ax.cint .u64 t20)).bind fun t21 =>
 (G zae [t0, t21, (V.int .i64 6)]).bind fun t22 =>
 (M.lift (Ax.faddr 1 t3)).bind fun t24 =>
 (zab none t24).bind fun t25 =>
 (M.lift (Ax.bin .sub t25 (V.int .i64 1))).bind fun t26 =>
 (M.lift (Ax.cint .u64 t26)).bind fun t27 =>
 (G zae [t0, t27, (V.int .i64 5)]).bind fun t28 =>
 M.blk 0 (
 M.iter (zbz G t17 t3 t0) [(V.int .i64 0)]) fun _ =>
 M.blk 2 (
 M.iter (zby G t17 t0 t3) [(V.int .i64 0)]) fun _ =>
 M.blk 6 (
 M.iter (zbx G t17 t3 t0) [(V.int .i64 0)]) fun _ =>
 (M.lift (Ax.faddr 3 t3)).bind fun t111 =>
 (zab none t111).bind fun t112 =>
 (M.lift (Ax.cint .u64 t112)).bind fun t113 =>
 (M.lift (Ax.faddr 1 t3)).bind fun t114 =>
 (zab none t114).bind fun t115 =>
 (M.lift (Ax.bin .add t115 (V.int .i64 1))).bind fun t116 =>
 (M.lift (Ax.cint .u64 t116)).bind fun t117 =>
 (G zaO [t0, t113, t117]).bind fun t118 =>
 (M.lift (Ax.faddr 3 t3)).bind fun t119 =>
 (zab none t119).bind fun t120 =>
 (M.lift (Ax.bin .gtr t120 (V.int .i64 0))).bind fun t121 =>
 M.join (M.ite t121
 (M.blk 10 (
 M.iter (zbw G t0 t3) [(V.int .i64 0)]) fun _ =>
 M.blk 12 (
 M.iter (zbv G t17 t0 t3) [(V.int .i64 0)]) fun _ =>
 M.pure (.nrm []))
 (M.pure (.nrm []))) fun _ =>
 (M.lift (Ax.faddr 5 t3)).bind fun t163 =>
 (zab none t163).bind fun t164 =>
 (M.lift (vlen t164)).bind fun t165 =>
 (M.lift (Ax.bin .gtr t165 (V.int .i64 0))).bind fun t166 =>
 (G zav [t166]).bind fun t167 =>
 (G zae [t0, t167, (V.int .i64 1)]).bind fun t168 =>
 M.blk 16 (
 M.iter (zbu G t0 t3) [(V.int .i64 0)]) fun _ =>
 M.pure (.ret [])
theorem zem {t0 t1 : V} : OkT zbE [t0, t1] (zc9 (sem T) t0 t1) := okT (by kernel_rfl) (by kernel_rfl) (by kernel_rfl)
noncomputable def zcr (G : Sem') (t0 t1 t2 : V) : M Res :=
 (M.lift (Ax.bin .lss t2 (V.int .u64 1))).bind fun t10 =>
 (zaa [(0, t10)] (some (0, false)) (M.pure t2)).bind fun t12 =>
 (zaa [(0, t10)] (some (0, false)) (M.lift (Ax.bin .gtr t12 (V.int .u64 4294967296)))).bind fun t13 =>
 (M.lift (Ax.pick t10 (V.bool true) t13)).bind fun t14 =>
 (zaa [(0, t14)] (some (0, false)) (M.pure t1)).bind fun t16 =>
 (zaa [(0, t14)] (some (0, false)) (M.pure t2)).bind fun t17 =>
 (zaa [(0, t14)] (some (0, false)) (M.lift (Ax.bin .geq t16 t17))).bind fun t18 =>
 (M.lift (Ax.pick t14 (V.bool true) t18)).bind fun t19 =>
 M.ite t19
 (M.pure (.ret [(V.int .i64 1)]))
 ((G zbP [t2]).bind fun t22 =>
 (M.lift (Ax.ext 0 t22)).bind fun t23 =>
 (M.lift (Ax.ext 1 t22)).bind fun t24 =>
 (M.lift (Ax.bin .lss t1 t24)).bind fun t27 =>
 M.ite t27
 ((M.lift (Ax.bin .sub t23 (V.int .i64 1))).bind fun t31 =>
 (G zae [t0, t1, t31]).bind fun t32 =>
 M.pure (.ret [t32]))
 ((M.lift (Ax.bin .add t1 t24)).bind fun t36 =>
 (G zae [t0, t36, t23]).bind fun t38 =>
 M.pure (.ret [t38])))
theorem zdA {t0 t1 t2 : V} : OkT zaO [t0, t1, t2] (zcr (sem T) t0 t1 t2) := okT (by kernel_rfl) (by kernel_rfl) (by kernel_rfl)
noncomputable def zc1 (G : Sem') (t2 t3 : V) (L : List V) : M Res :=
 (M.lift (Ax.bin .gtr (L.getD 1 .undef) (V.int .u64 0))).bind fun t8 =>
 M.ite t8
 (M.blk 1 (
 (M.lift (Ax.bin .add (L.getD 0 .undef) (V.int .i64 1))).bind fun t12 =>
 M.pure (.nrm [t12])) fun L0 =>
 (M.lift (Ax.bin .shr (L.getD 1 .undef) (V.int .u64 1))).bind fun t10 =>
 M.pure (.nrm [(L0.getD 0 .undef), t10]))
 (M.pure (.ex 0 [(L.getD 0 .undef)]))
noncomputable def zdt (G : Sem') (t0 : V) : M Res :=
 M.blk 0 (
 M.iter (zc1 G (V.int .i64 0) (V.int .u64 0)) [(V.int .i64 0), t0]) fun L1 =>
 (M.lift (Ax.cint .u64 (L1.getD 0 .undef))).bind fun t15 =>
 (M.lift (Ax.bin .shl (V.int .u64 1) t15)).bind fun t16 =>
 (M.lift (Ax.bin .sub t16 t0)).bind fun t18 =>
 M.pure (.ret [(L1.getD 0 .undef), t18])
theorem zeI {t0 : V} : OkT zbP [t0] (zdt (sem T) t0) := okT (by kernel_rfl) (by kernel_rfl) (by kernel_rfl)
noncomputable def zed (G : Sem') (t0 t1 t2 t3 t4 t5 t6 : V) : M Res :=
 (mbox zam t2).bind fun t9 =>
 (mbox zal t3).bind fun t10 =>
 (mbox zag t4).bind fun t11 =>
 (mbox zbn (V.agg [V.nils, (V.int .i64 0), (V.bool false)])).bind fun t14 =>
 (zab (some 10) t9).bind fun t26 =>
 (G zdo [t26]).bind fun t27 =>
 (M.lift (Ax.ext 0 t27)).bind fun t28 =>
 (M.lift (Ax.ext 1 t27)).bind fun t29 =>
 (zab (some 10) t9).bind fun t31 =>
 (G zeu [t31, (V.int .i64 1)]).bind fun t32 =>
 (M.lift (Ax.ext 0 t32)).bind fun t33 =>
 (M.lift (Ax.ext 1 t32)).bind fun t34 =>
 (M.lift (Ax.bin .lss t1 (V.int .i64 0))).bind fun t36 =>
 (zaa [(0, t36)] (some (0, false)) (M.pure t1)).bind fun t38 =>
 (zaa [(0, t36)] (some (0, false)) (M.lift (Ax.bin .geq t38 (V.int .i64 3)))).bind fun t39 =>
 (M.lift (Ax.pick t36 (V.bool true) t39)).bind fun t40 =>
 (zaa [(0, t40)] (some (0, false)) (M.pure t29)).bind fun t42 =>
 (zaa [(0, t40)] (some (0, false)) (M.lift (Ax.bin .neq t42 (V.int .i64 0)))).bind fun t43 =>
 (M.lift (Ax.pick t40 (V.bool true) t43)).bind fun t44 =>
 (zaa [(0, t44)] (some (0, false)) (M.pure t34)).bind fun t46 =>
 (zaa [(0, t44)] (some (0, false)) (M.lift (Ax.un .not t46))).bind fun t47 =>
 (M.lift (Ax.pick t44 (V.bool true) t47)).bind fun t48 =>
 (zaa [(0, t48)] (some (0, false)) (M.pure t33)).bind fun t50 =>
 (zaa [(0, t48)] (some (0, false)) (M.lift (vlen t50))).bind fun t51 =>
 (zaa [(0, t48)] (some (0, false)) (M.lift (Ax.bin .lss t51 (V.int .i64 3)))).bind fun t52 =>
 (M.lift (Ax.pick t48 (V.bool true) t52)).bind fun t53 =>
 (zaa [(0, t53)] (some (0, false)) (zab (some 19) t10)).bind fun t55 =>
 (zaa [(0, t53)] (some (0, false)) (zab (some 6) t11)).bind fun t56 =>
 (zaa [(0, t53)] (some (0, false)) (G zdm [t55, t56])).bind fun t57 =>
 (zaa [(0, t53)] (some (0, false)) (M.lift (Ax.un .not t57))).bind fun t58 =>
 (M.lift (Ax.pick t53 (V.bool true) t58)).bind fun t59 =>
 M.ite t59
 ((M.lift (Ax.build [V.nils, (V.int .i64 0), (V.bool false)] [])).bind fun t60 =>
 (zah 3 t14 t60).bind fun _ =>
 (zab (some 3) t14).bind fun r0 =>
 M.pure (.ret [r0, (V.int .i64 1)]))
 ((zab (some 10) t9).bind fun t63 =>
 (zab (some 19) t10).bind fun t64 =>
 (G zcb [t0, t1, t63, t64, t6]).bind fun t66 =>
 (M.lift (Ax.un .not t66)).bind fun t67 =>
 M.ite t67
 ((M.lift (Ax.build [V.nils, (V.int .i64 0), (V.bool false)] [(1, 1, (V.int .i64 1))])).bind fun t68 =>
 (zah 3 t14 t68).bind fun _ =>
 (zab (some 3) t14).bind fun r0 =>
 M.pure (.ret [r0, (V.int .i64 0)]))
 ((zab (some 19) t10).bind fun t70 =>
 (zab (some 6) t11).bind fun t71 =>
 (G zcL [t0, t70, t71, t5]).bind fun t73 =>
 (M.lift (Ax.bin .neq t73 (V.int .i64 0))).bind fun t75 =>
 M.ite t75
 ((M.lift (Ax.bin .eql t73 (V.int .i64 5))).bind fun t78 =>
 (M.lift (Ax.build [V.nils, (V.int .i64 0), (V.bool false)] [(1, 1, t73), (2, 1, t78)])).bind fun t79 =>
 (zah 3 t14 t79).bind fun _ =>
 (zab (some 3) t14).bind fun r0 =>
 M.pure (.ret [r0, (V.int .i64 0)]))
 ((M.lift (Ax.faddr 0 t10)).bind fun t80 =>
 (zab none t80).bind fun t81 =>
 M.join (M.ite t81
 ((M.lift (Ax.nilck t0)).bind fun t84 =>
 (M.lift (Ax.faddr 13 t84)).bind fun t85 =>
 (zab none t85).bind fun t86 =>
 (M.lift (Ax.faddr 3 t10)).bind fun t87 =>
 (zab none t87).bind fun t88 =>
 (G zex [t86, t88]).bind fun t89 =>
 (M.lift (Ax.nilck t0)).bind fun t90 =>
 (M.lift (Ax.faddr 13 t90)).bind fun t91 =>
 (zah 1 t91 t89).bind fun _ =>
 M.pure (.nrm []))
 (M.pure (.nrm []))) fun _ =>
 (M.lift (Ax.nilck t0)).bind fun t94 =>
 (M.lift (Ax.faddr 6 t94)).bind fun t95 =>
 (zab (some 7) t95).bind fun t96 =>
 (M.lift (Ax.faddr 3 t9)).bind fun t97 =>
 (zab none t97).bind fun t98 =>
 (M.lift (Ax.faddr 3 t10)).bind fun t99 =>
 (zab none t99).bind fun t100 =>
 (G zdR [t96, t98, t100, t6]).bind fun t102 =>
 (M.lift (Ax.ext 0 t102)).bind fun t103 =>
 (mbox za5 (V.agg [(V.bool false), (V.int .u16 0), (V.int .u32 0), (V.int .u32 0), (V.int .u16 0), (V.int .u16 0), (V.int .i64 0)])).bind fun t21 =>
 (zah 7 t21 t103).bind fun _ =>
 (M.lift (Ax.ext 1 t102)).bind fun t104 =>
 (M.lift (Ax.ext 2 t102)).bind fun t105 =>
 (M.lift (Ax.ext 3 t102)).bind fun t106 =>
 (zab (some 7) t21).bind fun t108 =>
 (M.lift (Ax.nilck t0)).bind fun t109 =>
 (M.lift (Ax.faddr 6 t109)).bind fun t110 =>
 (zah 7 t110 t108).bind fun _ =>
 (zab (some 10) t9).bind fun t112 =>
 M.getH.bind fun h0 =>
 (G zcP [t33, t106]).bind fun t115 =>
 M.getH.bind fun h0' =>
 (M.unch t9 h0 h0').bind fun _ =>
 (G zfb [t112, (V.int .i64 1), t115]).bind fun t116 =>
 (M.lift (Ax.ext 0 t116)).bind fun t117 =>
 (zah 10 t9 t117).bind fun _ =>
 (M.lift (Ax.ext 1 t116)).bind fun t118 =>
 (M.lift (Ax.nilck t0)).bind fun t122 =>
 (M.lift (Ax.faddr 0 t122)).bind fun t123 =>
 (zab none t123).bind fun t124 =>
 (M.lift (Ax.faddr 2 t9)).bind fun t125 =>
 M.getH.bind fun h1 =>
 (zah 1 t125 t104).bind fun _ =>
 M.getH.bind fun h1' =>
 (M.unch t123 h1 h1').bind fun _ =>
 (M.lift (Ax.faddr 3 t9)).bind fun t126 =>
 M.getH.bind fun h2 =>
 (zah 1 t126 t105).bind fun _ =>
 M.getH.bind fun h2' =>
 (M.unch t123 h2 h2').bind fun _ =>
 (M.lift (Ax.faddr 4 t9)).bind fun t127 =>
 (zah 1 t127 t124).bind fun _ =>
 (zab (some 10) t9).bind fun t129 =>
 (G zdo [t129]).bind fun t130 =>
 (M.lift (Ax.ext 0 t130)).bind fun t131 =>
 (M.lift (Ax.ext 1 t130)).bind fun t132 =>
 (M.lift (Ax.nilck t0)).bind fun t134 =>
 (M.lift (Ax.faddr 14 t134)).bind fun t135 =>
 (zab none t135).bind fun t136 =>
 (G zcK [t136, t104, t131]).bind fun t139 =>
 (M.lift (Ax.build [V.nils, (V.int .i64 0), (V.bool false)] [(0, 1, t131)])).bind fun t141 =>
 (zah 3 t14 t141).bind fun _ =>
 (zab (some 3) t14).bind fun r0 =>
 M.pure (.ret [r0, (V.int .i64 0)]))))
theorem zft {t0 t1 t2 t3 t4 t5 t6 : V} : OkT za7 [t0, t1, t2, t3, t4, t5, t6] (zed (sem T) t0 t1 t2 t3 t4 t5 t6) := okT (by kernel_rfl) (by kernel_rfl) (by kernel_rfl)
noncomputable def zey (G : Sem') (t26 t25 t2 t3 : V) (L : List V) : M Res :=
 (M.lift (Ax.bin .lss (L.getD 1 .undef) t26)).bind fun t28 =>
 M.ite t28
 (M.blk 1 (
 (M.lift (Ax.iaddr none 1 t25 (L.getD 1 .undef))).bind fun t29 =>
 (zab none t29).bind fun t30 =>
 (G zcy [(L.getD 0 .undef), t30, (V.int .i64 4)]).bind fun t33 =>
 M.pure (.nrm [t33])) fun L0 =>
 (M.lift (Ax.bin .add (L.getD 1 .undef) (V.int .i64 1))).bind fun t34 =>
 M.pure (.nrm [(L0.getD 0 .undef), t34]))
 (M.pure (.ex 0 [(L.getD 0 .undef)]))
noncomputable def zga (G : Sem') (t0 : V) : M Res :=
 (mbox zam t0).bind fun t1 =>
 (zab (some 10) t1).bind fun t8 =>
 (G zet [t8]).bind fun t9 =>
 (M.lift (Ax.un .not t9)).bind fun t10 =>
 M.ite t10
 (M.pure (.ret [V.nils, (V.int .i64 1)]))
 ((zab (some 10) t1).bind fun t11 =>
 (M.lift (Ax.faddr 2 t1)).bind fun t13 =>
 (zab none t13).bind fun t14 =>
 (M.lift (Ax.cint .u32 t14)).bind fun t15 =>
 M.getH.bind fun h0 =>
 (G zd0 [t11]).bind fun t12 =>
 M.getH.bind fun h0' =>
 (M.unch t13 h0 h0').bind fun _ =>
 (G zcy [t12, t15, (V.int .i64 2)]).bind fun t16 =>
 (M.lift (Ax.faddr 3 t1)).bind fun t18 =>
 (zab none t18).bind fun t19 =>
 (M.lift (Ax.faddr 4 t1)).bind fun t21 =>
 (zab none t21).bind fun t22 =>
 M.getH.bind fun h1 =>
 (G zcy [t16, t19, (V.int .i64 4)]).bind fun t20 =>
 M.getH.bind fun h1' =>
 (M.unch t21 h1 h1').bind fun _ =>
 (G zcy [t20, t22, (V.int .i64 4)]).bind fun t23 =>
 (M.lift (Ax.faddr 5 t1)).bind fun t24 =>
 (zab none t24).bind fun t25 =>
 (M.lift (vlen t25)).bind fun t26 =>
 M.blk 0 (
 M.iter (zey G t26 t25 V.nils (V.int .i64 0)) [t23, (V.int .i64 0)]) fun L1 =>
 (M.lift (Ax.faddr 6 t1)).bind fun t35 =>
 (zab none t35).bind fun t36 =>
 (M.lift (Ax.bin .neq t36 (V.int .i64 0))).bind fun t37 =>
 M.join (M.ite t37
 ((zab (some 10) t1).bind fun t38 =>
 (G zcY [t38]).bind fun t39 =>
 (M.lift (Ax.faddr 6 t1)).bind fun t41 =>
 (zab none t41).bind fun t42 =>
 (M.lift (Ax.cint .u32 t42)).bind fun t43 =>
 (G zcy [(L1.getD 0 .undef), t43, (V.int .i64 2)]).bind fun t44 =>
 (M.lift (vlen t39)).bind fun t46 =>
 (M.lift (Ax.bin .quo t46 (V.int .i64 4))).bind fun t47 =>
 (M.lift (Ax.cint .u32 t47)).bind fun t48 =>
 (G zcy [t44, t48, (V.int .i64 2)]).bind fun t49 =>
 (mappend zaD 1 1 t49 t39).bind fun t52 =>
 M.pure (.nrm [t52]))
 (M.pure (.nrm [(L1.getD 0 .undef)]))) fun L2 =>
 (M.lift (vlen (L2.getD 0 .undef))).bind fun t54 =>
 (M.lift (Ax.faddr 9 t1)).bind fun t55 =>
 (zab none t55).bind fun t56 =>
 (M.lift (vlen t56)).bind fun t57 =>
 (M.lift (Ax.bin .add t54 t57)).bind fun t58 =>
 (M.lift (Ax.faddr 8 t1)).bind fun t59 =>
 (zab none t59).bind fun t60 =>
 (M.lift (Ax.bin .add t58 t60)).bind fun t61 =>
 (M.lift (Ax.bin .gtr t61 (V.int .i64 1200))).bind fun t62 =>
 M.ite t62
 (M.pure (.ret [V.nils, (V.int .i64 4)]))
 ((M.lift (Ax.faddr 9 t1)).bind fun t64 =>
 (zab none t64).bind fun t65 =>
 (mappend zaD 1 1 (L2.getD 0 .undef) t65).bind fun t66 =>
 (M.lift (Ax.faddr 8 t1)).bind fun t67 =>
 (zab none t67).bind fun t68 =>
 (M.lift (Ax.bin .gtr t68 (V.int .i64 0))).bind fun t69 =>
 M.join (M.ite t69
 ((M.lift (Ax.faddr 8 t1)).bind fun t71 =>
 (zab none t71).bind fun t72 =>
 (mappendz zaD 1 [(V.int .u8 0)] t66 t72).bind fun t73 =>
 (M.lift (vlen t73)).bind fun t76 =>
 (M.lift (Ax.bin .sub t76 (V.int .i64 1))).bind fun t77 =>
 (M.lift (Ax.faddr 8 t1)).bind fun t78 =>
 (zab none t78).bind fun t79 =>
 (M.lift (Ax.cint .u8 t79)).bind fun t80 =>
 (M.lift (Ax.iaddr none 1 t73 t77)).bind fun t81 =>
 (zah 1 t81 t80).bind fun _ =>
 M.pure (.nrm [t73]))
 (M.pure (.nrm [t66]))) fun L3 =>
 M.pure (.ret [(L3.getD 0 .undef), (V.int .i64 0)])))
theorem zgH {t0 : V} : OkT zdo [t0] (zga (sem T) t0) := okT (by kernel_rfl) (by kernel_rfl) (by kernel_rfl)
noncomputable def zgp (G : Sem') (t0 : V) : M Res :=
 (mbox zam t0).bind fun t1 =>
 M.blk 0 (
 (M.lift (Ax.faddr 1 t1)).bind fun t4 =>
 (zab none t4).bind fun t5 =>
 (M.lift (Ax.bin .lss t5 (V.int .i64 0))).bind fun t6 =>
 (zaa [(0, t6)] (some (0, false)) (M.lift (Ax.faddr 1 t1))).bind fun t8 =>
 (zaa [(0, t6)] (some (0, false)) (zab none t8)).bind fun t9 =>
 (zaa [(0, t6)] (some (0, false)) (M.lift (Ax.bin .gtr t9 (V.int .i64 127)))).bind fun t10 =>
 (M.lift (Ax.pick t6 (V.bool true) t10)).bind fun t11 =>
 (zaa [(0, t11)] (some (0, false)) (M.lift (Ax.faddr 5 t1))).bind fun t13 =>
 (zaa [(0, t11)] (some (0, false)) (zab none t13)).bind fun t14 =>
 (zaa [(0, t11)] (some (0, false)) (M.lift (vlen t14))).bind fun t15 =>
 (zaa [(0, t11)] (some (0, false)) (M.lift (Ax.bin .gtr t15 (V.int .i64 15)))).bind fun t16 =>
 (M.lift (Ax.pick t11 (V.bool true) t16)).bind fun t17 =>
 (zaa [(0, t17)] (some (0, false)) (M.lift (Ax.faddr 8 t1))).bind fun t19 =>
 (zaa [(0, t17)] (some (0, false)) (zab none t19)).bind fun t20 =>
 (zaa [(0, t17)] (some (0, false)) (M.lift (Ax.bin .lss t20 (V.int .i64 0)))).bind fun t21 =>
 (M.lift (Ax.pick t17 (V.bool true) t21)).bind fun t22 =>
 (zaa [(0, t22)] (some (0, false)) (M.lift (Ax.faddr 8 t1))).bind fun t24 =>
 (zaa [(0, t22)] (some (0, false)) (zab none t24)).bind fun t25 =>
 (zaa [(0, t22)] (some (0, false)) (M.lift (Ax.bin .gtr t25 (V.int .i64 255)))).bind fun t26 =>
 (M.lift (Ax.pick t22 (V.bool true) t26)).bind fun t27 =>
 M.ite t27
 (M.pure (.ret [(V.bool false)]))
 ((M.lift (Ax.faddr 6 t1)).bind fun t29 =>
 (zab none t29).bind fun t30 =>
 (M.lift (Ax.bin .eql t30 (V.int .i64 0))).bind fun t31 =>
 M.ite t31
 ((M.lift (Ax.faddr 7 t1)).bind fun t32 =>
 (zab none t32).bind fun t33 =>
 (M.lift (vlen t33)).bind fun t34 =>
 (M.lift (Ax.bin .eql t34 (V.int .i64 0))).bind fun t35 =>
 M.pure (.ret [t35]))
 ((M.lift (Ax.faddr 6 t1)).bind fun t37 =>
 (zab none t37).bind fun t38 =>
 (M.lift (Ax.bin .neq t38 (V.int .i64 48862))).bind fun t39 =>
 (zaa [(0, t39)] (some (0, true)) (M.lift (Ax.faddr 6 t1))).bind fun t41 =>
 (zaa [(0, t39)] (some (0, true)) (zab none t41)).bind fun t42 =>
 (zaa [(0, t39)] (some (0, true)) (M.lift (Ax.bin .neq t42 (V.int .i64 4096)))).bind fun t43 =>
 (M.lift (Ax.pick t39 t43 (V.bool false))).bind fun t44 =>
 M.ite t44
 (M.pure (.ret [(V.bool false)]))
 (M.pure (.nrm []))))) fun _ =>
 (M.lift (Ax.faddr 7 t1)).bind fun t45 =>
 (zab none t45).bind fun t46 =>
 (M.pure (.fn zcz [t1])).bind fun t47 =>
 (G zaG [t46, t47]).bind fun t48 =>
 (M.lift (Ax.un .not t48)).bind fun t49 =>
 M.pure (.ret [t49])
theorem zgZ {t0 : V} : OkT zet [t0] (zgp (sem T) t0) := okT (by kernel_rfl) (by kernel_rfl) (by kernel_rfl)
noncomputable def zfQ (G : Sem') (t0 t1 : V) : M Res :=
 (mbox zbm t0).bind fun t2 =>
 (M.lift (Ax.faddr 6 t1)).bind fun t4 =>
 (zab none t4).bind fun t5 =>
 (zab (some 2) t2).bind fun t6 =>
 (G zdj [t5, t6]).bind fun t7 =>
 (M.lift (Ax.un .not t7)).bind fun t8 =>
 M.pure (.ret [t8])
theorem zgC {t0 t1 : V} : OkT zcz [t0, t1] (zfQ (sem T) t0 t1) := okT (by kernel_rfl) (by kernel_rfl) (by kernel_rfl)
noncomputable def zfw (G : Sem') (t0 t1 : V) : M Res :=
 (mbox zbm t1).bind fun t3 =>
 (M.lift (Ax.bin .eql t0 (V.int .i64 48862))).bind fun t6 =>
 M.ite t6
 ((M.lift (Ax.faddr 0 t3)).bind fun t7 =>
 (zab none t7).bind fun t8 =>
 (M.lift (Ax.bin .geq t8 (V.int .i64 1))).bind fun t9 =>
 (zaa [(0, t9)] (some (0, true)) (M.lift (Ax.faddr 0 t3))).bind fun t11 =>
 (zaa [(0, t9)] (some (0, true)) (zab none t11)).bind fun t12 =>
 (zaa [(0, t9)] (some (0, true)) (M.lift (Ax.bin .leq t12 (V.int .i64 14)))).bind fun t13 =>
 (M.lift (Ax.pick t9 t13 (V.bool false))).bind fun t14 =>
 (zaa [(0, t14)] (some (0, true)) (M.lift (Ax.faddr 1 t3))).bind fun t16 =>
 (zaa [(0, t14)] (some (0, true)) (zab none t16)).bind fun t17 =>
 (zaa [(0, t14)] (some (0, true)) (M.lift (vlen t17))).bind fun t18 =>
 (zaa [(0, t14)] (some (0, true)) (M.lift (Ax.bin .geq t18 (V.int .i64 1)))).bind fun t19 =>
 (M.lift (Ax.pick t14 t19 (V.bool false))).bind fun t20 =>
 (zaa [(0, t20)] (some (0, true)) (M.lift (Ax.faddr 1 t3))).bind fun t22 =>
 (zaa [(0, t20)] (some (0, true)) (zab none t22)).bind fun t23 =>
 (zaa [(0, t20)] (some (0, true)) (M.lift (vlen t23))).bind fun t24 =>
 (zaa [(0, t20)] (some (0, true)) (M.lift (Ax.bin .leq t24 (V.int .i64 16)))).bind fun t25 =>
 (M.lift (Ax.pick t20 t25 (V.bool false))).bind fun t26 =>
 M.pure (.ret [t26]))
 ((M.lift (Ax.faddr 0 t3)).bind fun t27 =>
 (zab none t27).bind fun t28 =>
 (M.lift (Ax.bin .geq t28 (V.int .i64 1))).bind fun t29 =>
 (zaa [(0, t29)] (some (0, true)) (M.lift (Ax.faddr 0 t3))).bind fun t31 =>
 (zaa [(0, t29)] (some (0, true)) (zab none t31)).bind fun t32 =>
 (zaa [(0, t29)] (some (0, true)) (M.lift (Ax.bin .leq t32 (V.int .i64 255)))).bind fun t33 =>
 (M.lift (Ax.pick t29 t33 (V.bool false))).bind fun t34 =>
 (zaa [(0, t34)] (some (0, true)) (M.lift (Ax.faddr 1 t3))).bind fun t36 =>
 (zaa [(0, t34)] (some (0, true)) (zab none t36)).bind fun t37 =>
 (zaa [(0, t34)] (some (0, true)) (M.lift (vlen t37))).bind fun t38 =>
 (zaa [(0, t34)] (some (0, true)) (M.lift (Ax.bin .leq t38 (V.int .i64 255)))).bind fun t39 =>
 (M.lift (Ax.pick t34 t39 (V.bool false))).bind fun t40 =>
 M.pure (.ret [t40]))
theorem zgh {t0 t1 : V} : OkT zdj [t0, t1] (zfw (sem T) t0 t1) := okT (by kernel_rfl) (by kernel_rfl) (by kernel_rfl)
noncomputable def zbD (G : Sem') (t0 t1 : V) : M Res :=
 (G zaK [t0, t1]).bind fun t7 =>
 (M.lift (Ax.bin .geq t7 (V.int .i64 0))).bind fun t8 =>
 M.pure (.ret [t8])
theorem zcx {t0 t1 : V} : OkT zaG [t0, t1] (zbD (sem T) t0 t1) := okT (by kernel_rfl) (by kernel_rfl) (by kernel_rfl)
noncomputable def zbb (G : Sem') (t7 t1 t0 : V) (L : List V) : M Res :=
 (M.lift (Ax.bin .lss (L.getD 0 .undef) t7)).bind fun t9 =>
 M.ite t9
 (M.blk 1 (
 (M.lift (Ax.iaddr none 2 t0 (L.getD 0 .undef))).bind fun t14 =>
 (zab (some 2) t14).bind fun t15 =>
 (callv G t1 [t15]).bind fun t16 =>
 M.ite t16
 (M.pure (.ret [(L.getD 0 .undef)]))
 (M.pure (.nrm []))) fun _ =>
 (M.lift (Ax.bin .add (L.getD 0 .undef) (V.int .i64 1))).bind fun t18 =>
 M.pure (.nrm [t18]))
 (M.pure (.ex 0 []))
noncomputable def zbS (G : Sem') (t0 t1 : V) : M Res :=
 (M.lift (vlen t0)).bind fun t7 =>
 M.blk 0 (
 M.iter (zbb G t7 t1 t0) [(V.int .i64 0)]) fun _ =>
 M.pure (.ret [(V.int .i64 (-1))])
theorem zcS {t0 t1 : V} : OkT zaK [t0, t1] (zbS (sem T) t0 t1) := okT (by kernel_rfl) (by kernel_rfl) (by kernel_rfl)
noncomputable def zf9 (G : Sem') (t0 : V) : M Res :=
 (mbox zam t0).bind fun t1 =>
 (M.lift (Ax.faddr 5 t1)).bind fun t5 =>
 (zab none t5).bind fun t6 =>
 (M.lift (vlen t6)).bind fun t7 =>
 (M.lift (Ax.bin .or (V.int .i64 128) t7)).bind fun t8 =>
 (M.lift (Ax.cint .u8 t8)).bind fun t9 =>
 (M.lift (Ax.faddr 1 t1)).bind fun t10 =>
 (zab none t10).bind fun t11 =>
 (M.lift (Ax.cint .u8 t11)).bind fun t12 =>
 (M.lift (Ax.faddr 8 t1)).bind fun t13 =>
 (zab none t13).bind fun t14 =>
 (M.lift (Ax.bin .gtr t14 (V.int .i64 0))).bind fun t15 =>
 M.join (M.ite t15
 ((M.lift (Ax.bin .or t9 (V.int .u8 32))).bind fun t17 =>
 M.pure (.nrm [t17]))
 (M.pure (.nrm [t9]))) fun L0 =>
 (M.lift (Ax.faddr 6 t1)).bind fun t18 =>
 (zab none t18).bind fun t19 =>
 (M.lift (Ax.bin .neq t19 (V.int .i64 0))).bind fun t20 =>
 M.join (M.ite t20
 ((M.lift (Ax.bin .or (L0.getD 0 .undef) (V.int .u8 16))).bind fun t22 =>
 M.pure (.nrm [t22]))
 (M.pure (.nrm [(L0.getD 0 .undef)]))) fun L1 =>
 (M.lift (Ax.faddr 0 t1)).bind fun t23 =>
 (zab none t23).bind fun t24 =>
 M.join (M.ite t24
 ((M.lift (Ax.bin .or t12 (V.int .u8 128))).bind fun t26 =>
 M.pure (.nrm [t26]))
 (M.pure (.nrm [t12]))) fun L2 =>
 (mslit zaD 2 [(V.int .u8 0)] [(0, 1, (L1.getD 0 .undef)), (1, 1, (L2.getD 0 .undef))]).bind fun t29 =>
 M.pure (.ret [t29])
theorem zgG {t0 : V} : OkT zd0 [t0] (zf9 (sem T) t0) := okT (by kernel_rfl) (by kernel_rfl) (by kernel_rfl)
noncomputable def zfp (G : Sem') (t1 t6 : V) (L : List V) : M Res :=
 (M.lift (Ax.bin .geq (L.getD 1 .undef) (V.int .i64 0))).bind fun t11 =>
 M.ite t11
 (M.blk 1 (
 (M.lift (Ax.bin .mul (V.int .i64 8) (L.getD 1 .undef))).bind fun t17 =>
 (M.lift (Ax.bin .shr t1 t17)).bind fun t18 =>
 (M.lift (Ax.cint .u8 t18)).bind fun t19 =>
 (mslit zaD 1 [(V.int .u8 0)] [(0, 1, t19)]).bind fun t20 =>
 (mappend zaD 1 1 (L.getD 0 .undef) t20).bind fun t21 =>
 M.pure (.nrm [t21])) fun L0 =>
 (M.lift (Ax.bin .sub (L.getD 1 .undef) (V.int .i64 1))).bind fun t13 =>
 M.pure (.nrm [(L0.getD 0 .undef), t13]))
 (M.pure (.ex 0 [(L.getD 0 .undef)]))
noncomputable def zgR (G : Sem') (t0 t1 t2 : V) : M Res :=
 (M.lift (Ax.bin .sub t2 (V.int .i64 1))).bind fun t9 =>
 M.blk 0 (
 M.iter (zfp G t1 V.nils) [t0, t9]) fun L1 =>
 M.pure (.ret [(L1.getD 0 .undef)])
theorem zhn {t0 t1 t2 : V} : OkT zcy [t0, t1, t2] (zgR (sem T) t0 t1 t2) := okT (by kernel_rfl) (by kernel_rfl) (by kernel_rfl)
noncomputable def zdB (G : Sem') (t8 t7 t1 t2 : V) (L : List V) : M Res :=
 (M.lift (Ax.bin .lss (L.getD 1 .undef) t8)).bind fun t10 =>
 M.ite t10
 (M.blk 1 (
 (M.lift (Ax.iaddr none 2 t7 (L.getD 1 .undef))).bind fun t11 =>
 (zab (some 2) t11).bind fun t12 =>
 (mbox zbm (V.agg [(V.int .i64 0), V.nils])).bind fun t5 =>
 (zah 2 t5 t12).bind fun _ =>
 (M.lift (Ax.faddr 6 t1)).bind fun t13 =>
 (zab none t13).bind fun t14 =>
 (M.lift (Ax.bin .eql t14 (V.int .i64 48862))).bind fun t15 =>
 M.join (M.ite t15
 ((M.lift (Ax.faddr 0 t5)).bind fun t17 =>
 (zab none t17).bind fun t18 =>
 (M.lift (Ax.bin .shl t18 (V.int .u64 4))).bind fun t19 =>
 (M.lift (Ax.faddr 1 t5)).bind fun t20 =>
 (zab none t20).bind fun t21 =>
 (M.lift (vlen t21)).bind fun t22 =>
 (M.lift (Ax.bin .sub t22 (V.int .i64 1))).bind fun t23 =>
 (M.lift (Ax.bin .or t19 t23)).bind fun t24 =>
 (M.lift (Ax.cint .u8 t24)).bind fun t25 =>
 (mslit zaD 1 [(V.int .u8 0)] [(0, 1, t25)]).bind fun t26 =>
 (mappend zaD 1 1 (L.getD 0 .undef) t26).bind fun t27 =>
 M.pure (.nrm [t27]))
 ((M.lift (Ax.faddr 0 t5)).bind fun t29 =>
 (zab none t29).bind fun t30 =>
 (M.lift (Ax.cint .u8 t30)).bind fun t31 =>
 (M.lift (Ax.faddr 1 t5)).bind fun t32 =>
 (zab none t32).bind fun t33 =>
 (M.lift (vlen t33)).bind fun t34 =>
 (M.lift (Ax.cint .u8 t34)).bind fun t35 =>
 (mslit zaD 2 [(V.int .u8 0)] [(0, 1, t31), (1, 1, t35)]).bind fun t36 =>
 (mappend zaD 1 1 (L.getD 0 .undef) t36).bind fun t37 =>
 M.pure (.nrm [t37]))) fun L0 =>
 (M.lift (Ax.faddr 1 t5)).bind fun t39 =>
 (zab none t39).bind fun t40 =>
 (mappend zaD 1 1 (L0.getD 0 .undef) t40).bind fun t41 =>
 M.pure (.nrm [t41])) fun L1 =>
 (M.lift (Ax.bin .add (L.getD 1 .undef) (V.int .i64 1))).bind fun t42 =>
 M.pure (.nrm [(L1.getD 0 .undef), t42]))
 (M.pure (.ex 0 [(L.getD 0 .undef)]))
noncomputable def zcR (G : Sem') (t2 : V) (L : List V) : M Res :=
 (M.lift (vlen (L.getD 0 .undef))).bind fun t44 =>
 (M.lift (Ax.bin .rem t44 (V.int .i64 4))).bind fun t45 =>
 (M.lift (Ax.bin .neq t45 (V.int .i64 0))).bind fun t46 =>
 M.ite t46
 (M.blk 3 (
 (mslit zaD 1 [(V.int .u8 0)] [(0, 1, (V.int .u8 0))]).bind fun t48 =>
 (mappend zaD 1 1 (L.getD 0 .undef) t48).bind fun t49 =>
 M.pure (.nrm [t49])) fun L3 =>
 M.pure (.nrm [(L3.getD 0 .undef)]))
 (M.pure (.ex 2 [(L.getD 0 .undef)]))
noncomputable def zfg (G : Sem') (t0 : V) : M Res :=
 (mbox zam t0).bind fun t1 =>
 (M.lift (Ax.faddr 7 t1)).bind fun t6 =>
 (zab none t6).bind fun t7 =>
 (M.lift (vlen t7)).bind fun t8 =>
 M.blk 0 (
 M.iter (zdB G t8 t7 t1 V.nils) [V.nils, (V.int .i64 0)]) fun L2 =>
 M.blk 2 (
 M.iter (zcR G V.nils) [(L2.getD 0 .undef)]) fun L4 =>
 M.pure (.ret [(L4.getD 0 .undef)])
theorem zf4 {t0 : V} : OkT zcY [t0] (zfg (sem T) t0) := okT (by kernel_rfl) (by kernel_rfl) (by kernel_rfl)
noncomputable def zgq (G : Sem') (t0 t1 : V) : M Res :=
 (mbox zam t0).bind fun t2 =>
 (zab (some 10) t2).bind fun t7 =>
 (G zeU [t7, t1]).bind fun t9 =>
 (M.lift (Ax.bin .lss t9 (V.int .i64 0))).bind fun t11 =>
 M.ite t11
 (M.pure (.ret [V.nils, (V.bool false)]))
 ((M.lift (Ax.faddr 7 t2)).bind fun t12 =>
 (zab none t12).bind fun t13 =>
 (M.lift (Ax.iaddr none 2 t13 t9)).bind fun t15 =>
 (M.lift (Ax.faddr 1 t15)).bind fun t16 =>
 (zab none t16).bind fun t17 =>
 (G zbf [t17]).bind fun t18 =>
 M.pure (.ret [t18, (V.bool true)]))
theorem zg0 {t0 t1 : V} : OkT zeu [t0, t1] (zgq (sem T) t0 t1) := okT (by kernel_rfl) (by kernel_rfl) (by kernel_rfl)
noncomputable def zhh (G : Sem') (t0 t1 : V) : M Res :=
 (mbox zam t0).bind fun t2 =>
 (mbox zcI t1).bind fun t3 =>
 (M.lift (Ax.faddr 7 t2)).bind fun t5 =>
 (zab none t5).bind fun t6 =>
 (M.pure (.fn zes [t3])).bind fun t7 =>
 (G zaK [t6, t7]).bind fun t8 =>
 M.pure (.ret [t8])
theorem zhC {t0 t1 : V} : OkT zeU [t0, t1] (zhh (sem T) t0 t1) := okT (by kernel_rfl) (by kernel_rfl) (by kernel_rfl)
noncomputable def zgo (G : Sem') (t0 t1 : V) : M Res :=
 (mbox zbm t0).bind fun t2 =>
 (M.lift (Ax.faddr 0 t2)).bind fun t4 =>
 (zab none t4).bind fun t5 =>
 (zab none t1).bind fun t6 =>
 (M.lift (Ax.bin .eql t5 t6)).bind fun t7 =>
 M.pure (.ret [t7])
theorem zgY {t0 t1 : V} : OkT zes [t0, t1] (zgo (sem T) t0 t1) := okT (by kernel_rfl) (by kernel_rfl) (by kernel_rfl)
noncomputable def zez (G : Sem') (t0 : V) : M Res :=
 (M.lift (eqr .sl false t0 V.nils)).bind fun t4 =>
 M.ite t4
 (M.pure (.ret [V.nils]))
 ((mslit zaD 0 [(V.int .u8 0)] []).bind fun t5 =>
 (mappend zaD 1 1 t5 t0).bind fun t7 =>
 M.pure (.ret [t7]))
theorem zff {t0 : V} : OkT zbf [t0] (zez (sem T) t0) := okT (by kernel_rfl) (by kernel_rfl) (by kernel_rfl)
noncomputable def zfz (G : Sem') (t0 t1 : V) : M Res :=
 (mbox zal t0).bind fun t2 =>
 (mbox zag t1).bind fun t3 =>
 (zab (some 19) t2).bind fun t9 =>
 (zab (some 6) t3).bind fun t10 =>
 (G zd2 [t9, t10]).bind fun t11 =>
 (M.lift (Ax.ext 0 t11)).bind fun t12 =>
 (M.lift (Ax.ext 1 t11)).bind fun t13 =>
 (mbox zak (V.agg [(V.int .i64 0), (V.int .i64 0), V.nils, V.nils, V.nils])).bind fun t5 =>
 (zah 5 t5 t12).bind fun _ =>
 (zab (some 19) t2).bind fun t14 =>
 (zab (some 6) t3).bind fun t15 =>
 (G zct [t14, t15]).bind fun t16 =>
 (mbox zag (V.agg [(V.int .i64 0), (V.int .i64 0), V.nils, (V.int .i64 0), V.nils, V.nils])).bind fun t7 =>
 (zah 6 t7 t16).bind fun _ =>
 M.blk 0 (
 (M.lift (Ax.un .not t13)).bind fun t19 =>
 (zaa [(0, t19)] (some (0, false)) (M.lift (Ax.faddr 4 t2))).bind fun t21 =>
 (zaa [(0, t19)] (some (0, false)) (zab none t21)).bind fun t22 =>
 (zaa [(0, t19)] (some (0, false)) (M.lift (Ax.un .not t22))).bind fun t23 =>
 (zaa [(0, t19)] (some (0, false)) (M.pure t23)).bind fun t24 =>
 (zaa [(0, t24)] (some (0, true)) (M.lift (Ax.faddr 5 t2))).bind fun t25 =>
 (zaa [(0, t24)] (some (0, true)) (zab (some 6) t25)).bind fun t26 =>
 (zaa [(0, t24)] (some (0, true)) (G zdk [t26])).bind fun t27 =>
 (zaa [(0, t24)] (some (0, true)) (M.lift (Ax.un .not t27))).bind fun t28 =>
 (zaa [(0, t19)] (some (0, false)) (M.lift (Ax.pick t24 t28 (V.bool false)))).bind fun t29 =>
 (M.lift (Ax.pick t19 (V.bool true) t29)).bind fun t30 =>
 M.ite t30
 (M.pure (.ret [(V.bool false)]))
 ((M.lift (Ax.faddr 11 t2)).bind fun t32 =>
 (zab none t32).bind fun t33 =>
 (M.lift (Ax.un .not t33)).bind fun t34 =>
 (zaa [(0, t34)] (some (0, true)) (M.lift (Ax.faddr 12 t2))).bind fun t36 =>
 (zaa [(0, t34)] (some (0, true)) (zab none t36)).bind fun t37 =>
 (zaa [(0, t34)] (some (0, true)) (M.lift (Ax.bin .neq t37 (V.int .u32 0)))).bind fun t38 =>
 (M.lift (Ax.pick t34 t38 (V.bool false))).bind fun t39 =>
 (zaa [(0, t39)] (some (0, false)) (M.lift (Ax.faddr 12 t2))).bind fun t41 =>
 (zaa [(0, t39)] (some (0, false)) (zab none t41)).bind fun t42 =>
 (zaa [(0, t39)] (some (0, false)) (M.lift (Ax.cint .u64 t42))).bind fun t43 =>
 (zaa [(0, t39)] (some (0, false)) (M.lift (Ax.faddr 1 t7))).bind fun t44 =>
 (zaa [(0, t39)] (some (0, false)) (zab none t44)).bind fun t45 =>
 (zaa [(0, t39)] (some (0, false)) (M.lift (Ax.bin .shr t43 t45))).bind fun t46 =>
 (zaa [(0, t39)] (some (0, false)) (M.lift (Ax.bin .neq t46 (V.int .u64 0)))).bind fun t47 =>
 (M.lift (Ax.pick t39 (V.bool true) t47)).bind fun t48 =>
 M.ite t48
 (M.pure (.ret [(V.bool false)]))
 ((M.lift (Ax.faddr 13 t2)).bind fun t50 =>
 (zab none t50).bind fun t51 =>
 (zaa [(0, t51)] (some (0, true)) (M.lift (Ax.faddr 16 t2))).bind fun t53 =>
 (zaa [(0, t51)] (some (0, true)) (zab none t53)).bind fun t54 =>
 (zaa [(0, t51)] (some (0, true)) (M.lift (Ax.faddr 1 t7))).bind fun t55 =>
 (zaa [(0, t51)] (some (0, true)) (zab none t55)).bind fun t56 =>
 (zaa [(0, t51)] (some (0, true)) (G zaX [t54, t56, (V.int .i64 0), (V.int .i64 3)])).bind fun t57 =>
 (zaa [(0, t51)] (some (0, true)) (M.lift (Ax.un .not t57))).bind fun t58 =>
 (M.lift (Ax.pick t51 t58 (V.bool false))).bind fun t59 =>
 (zaa [(0, t59)] (some (0, false)) (M.lift (Ax.faddr 13 t2))).bind fun t61 =>
 (zaa [(0, t59)] (some (0, false)) (zab none t61)).bind fun t62 =>
 (zaa [(0, t59)] (some (0, false)) (M.lift (Ax.un .not t62))).bind fun t63 =>
 (zaa [(0, t59)] (some (0, false)) (M.pure t63)).bind fun t64 =>
 (zaa [(0, t64)] (some (0, true)) (M.lift (Ax.faddr 16 t2))).bind fun t65 =>
 (zaa [(0, t64)] (some (0, true)) (zab none t65)).bind fun t66 =>
 (zaa [(0, t64)] (some (0, true)) (M.lift (Ax.faddr 2 t5))).bind fun t67 =>
 (zaa [(0, t64)] (some (0, true)) (zab none t67)).bind fun t68 =>
 (zaa [(0, t64)] (some (0, true)) (G za1 [t66, t68])).bind fun t69 =>
 (zaa [(0, t64)] (some (0, true)) (M.lift (Ax.un .not t69))).bind fun t70 =>
 (zaa [(0, t59)] (some (0, false)) (M.lift (Ax.pick t64 t70 (V.bool false)))).bind fun t71 =>
 (M.lift (Ax.pick t59 (V.bool true) t71)).bind fun t72 =>
 M.ite t72
 (M.pure (.ret [(V.bool false)]))
 ((M.lift (Ax.faddr 14 t2)).bind fun t74 =>
 (zab none t74).bind fun t75 =>
 (zaa [(0, t75)] (some (0, true)) (M.lift (Ax.faddr 17 t2))).bind fun t77 =>
 (zaa [(0, t75)] (some (0, true)) (zab none t77)).bind fun t78 =>
 (zaa [(0, t75)] (some (0, true)) (G zcu [t78, (V.int .i64 16), (V.int .i64 4096)])).bind fun t79 =>
 (zaa [(0, t75)] (some (0, true)) (M.lift (Ax.un .not t79))).bind fun t80 =>
 (M.lift (Ax.pick t75 t80 (V.bool false))).bind fun t81 =>
 (zaa [(0, t81)] (some (0, false)) (M.lift (Ax.faddr 14 t2))).bind fun t83 =>
 (zaa [(0, t81)] (some (0, false)) (zab none t83)).bind fun t84 =>
 (zaa [(0, t81)] (some (0, false)) (M.lift (Ax.un .not t84))).bind fun t85 =>
 (zaa [(0, t81)] (some (0, false)) (M.pure t85)).bind fun t86 =>
 (zaa [(0, t86)] (some (0, true)) (M.lift (Ax.faddr 17 t2))).bind fun t87 =>
 (zaa [(0, t86)] (some (0, true)) (zab none t87)).bind fun t88 =>
 (zaa [(0, t86)] (some (0, true)) (M.lift (Ax.faddr 3 t5))).bind fun t89 =>
 (zaa [(0, t86)] (some (0, true)) (zab none t89)).bind fun t90 =>
 (zaa [(0, t86)] (some (0, true)) (G za1 [t88, t90])).bind fun t91 =>
 (zaa [(0, t86)] (some (0, true)) (M.lift (Ax.un .not t91))).bind fun t92 =>
 (zaa [(0, t81)] (some (0, false)) (M.lift (Ax.pick t86 t92 (V.bool false)))).bind fun t93 =>
 (M.lift (Ax.pick t81 (V.bool true) t93)).bind fun t94 =>
 M.ite t94
 (M.pure (.ret [(V.bool false)]))
 (M.pure (.nrm [])))))) fun _ =>
 (M.lift (Ax.faddr 15 t2)).bind fun t95 =>
 (zab none t95).bind fun t96 =>
 M.ite t96
 ((M.lift (Ax.faddr 18 t2)).bind fun t97 =>
 (zab none t97).bind fun t98 =>
 (M.lift (Ax.faddr 3 t7)).bind fun t99 =>
 (zab none t99).bind fun t100 =>
 (G zaX [t98, t100, (V.int .i64 0), (V.int .i64 255)]).bind fun t101 =>
 M.pure (.ret [t101]))
 ((M.lift (Ax.faddr 18 t2)).bind fun t102 =>
 (zab none t102).bind fun t103 =>
 (M.lift (Ax.faddr 4 t5)).bind fun t104 =>
 (zab none t104).bind fun t105 =>
 (G za1 [t103, t105]).bind fun t106 =>
 M.pure (.ret [t106]))
theorem zgk {t0 t1 : V} : OkT zdm [t0, t1] (zfz (sem T) t0 t1) := okT (by kernel_rfl) (by kernel_rfl) (by kernel_rfl)
noncomputable def zgc (G : Sem') (t0 t1 : V) : M Res :=
 (mbox zal t0).bind fun t2 =>
 (mbox zag t1).bind fun t3 =>
 (mbox zak (V.agg [(V.int .i64 0), (V.int .i64 0), V.nils, V.nils, V.nils])).bind fun t4 =>
 (zab (some 19) t2).bind fun t7 =>
 (zab (some 6) t3).bind fun t8 =>
 (G zct [t7, t8]).bind fun t9 =>
 (mbox zag (V.agg [(V.int .i64 0), (V.int .i64 0), V.nils, (V.int .i64 0), V.nils, V.nils])).bind fun t6 =>
 (zah 6 t6 t9).bind fun _ =>
 (zab (some 6) t6).bind fun t10 =>
 (G zcf [t10]).bind fun t11 =>
 (M.lift (Ax.un .not t11)).bind fun t12 =>
 M.ite t12
 ((M.lift (Ax.build [(V.int .i64 0), (V.int .i64 0), V.nils, V.nils, V.nils] [])).bind fun t13 =>
 (zah 5 t4 t13).bind fun _ =>
 (zab (some 5) t4).bind fun r0 =>
 M.pure (.ret [r0, (V.bool false)]))
 ((zab (some 6) t6).bind fun t14 =>
 (M.lift (Ax.faddr 2 t2)).bind fun t15 =>
 (zab none t15).bind fun t16 =>
 (G zcm [t14, t16]).bind fun t17 =>
 (M.lift (Ax.ext 0 t17)).bind fun t18 =>
 (M.lift (Ax.ext 1 t17)).bind fun t19 =>
 (zah 5 t4 t18).bind fun _ =>
 (zab (some 5) t4).bind fun r0 =>
 M.pure (.ret [r0, t19]))
theorem zgK {t0 t1 : V} : OkT zd2 [t0, t1] (zgc (sem T) t0 t1) := okT (by kernel_rfl) (by kernel_rfl) (by kernel_rfl)
end Go.Ax
/- FnD3 -/
namespace Go.Ax
open Go.Proofs
noncomputable def zfi (G : Sem') (t0 t1 : V) : M Res :=
 (mbox zal t0).bind fun t2 =>
 (mbox zag t1).bind fun t3 =>
 (mbox zag (V.agg [(V.int .i64 0), (V.int .i64 0), V.nils, (V.int .i64 0), V.nils, V.nils])).bind fun t4 =>
 (M.lift (Ax.faddr 4 t2)).bind fun t5 =>
 (zab none t5).bind fun t6 =>
 M.ite t6
 ((M.lift (Ax.faddr 5 t2)).bind fun t7 =>
 (zab (some 6) t7).bind fun t8 =>
 (zah 6 t4 t8).bind fun _ =>
 (zab (some 6) t4).bind fun r0 =>
 M.pure (.ret [r0]))
 ((zab (some 6) t3).bind fun t9 =>
 (zah 6 t4 t9).bind fun _ =>
 (zab (some 6) t4).bind fun r0 =>
 M.pure (.ret [r0]))
theorem zf6 {t0 t1 : V} : OkT zct [t0, t1] (zfi (sem T) t0 t1) := okT (by kernel_rfl) (by kernel_rfl) (by kernel_rfl)
noncomputable def zc5 (G : Sem') (t70 t69 : V) (L : List V) : M Res :=
 (M.lift (Ax.bin .lss (L.getD 0 .undef) t70)).bind fun t72 =>
 M.ite t72
 (M.blk 1 (
 (M.lift (Ax.iaddr none 2 t69 (L.getD 0 .undef))).bind fun t73 =>
 (zab (some 2) t73).bind fun t74 =>
 (mbox zhf (V.agg [(V.int .i64 0), (V.int .i64 0)])).bind fun t6 =>
 (zah 2 t6 t74).bind fun _ =>
 (M.lift (vslice (.arr 2) 1 t6 none none none)).bind fun t75 =>
 (G zaX [t75, (V.int .i64 2), (V.int .i64 1), (V.int .i64 65536)]).bind fun t76 =>
 (M.lift (Ax.un .not t76)).bind fun t77 =>
 M.ite t77
 (M.pure (.ret [(V.bool false)]))
 (M.pure (.nrm []))) fun _ =>
 (M.lift (Ax.bin .add (L.getD 0 .undef) (V.int .i64 1))).bind fun t78 =>
 M.pure (.nrm [t78]))
 (M.pure (.ex 0 []))
noncomputable def zfA (G : Sem') (t0 : V) : M Res :=
 (mbox zag t0).bind fun t1 =>
 (M.lift (Ax.faddr 1 t1)).bind fun t7 =>
 (zab none t7).bind fun t8 =>
 (M.lift (Ax.faddr 3 t1)).bind fun t9 =>
 (zab none t9).bind fun t10 =>
 (M.lift (Ax.bin .eql t10 (V.int .i64 0))).bind fun t11 =>
 M.join (M.ite t11
 (M.pure (.nrm [(V.int .i64 0)]))
 (M.pure (.nrm [t8]))) fun L0 =>
 (M.lift (Ax.faddr 0 t1)).bind fun t12 =>
 (zab none t12).bind fun t13 =>
 (M.lift (Ax.bin .lss t13 (V.int .i64 0))).bind fun t14 =>
 (zaa [(0, t14)] (some (0, false)) (M.lift (Ax.faddr 0 t1))).bind fun t16 =>
 (zaa [(0, t14)] (some (0, false)) (zab none t16)).bind fun t17 =>
 (zaa [(0, t14)] (some (0, false)) (M.lift (Ax.bin .geq t17 (V.int .i64 64)))).bind fun t18 =>
 (M.lift (Ax.pick t14 (V.bool true) t18)).bind fun t19 =>
 (zaa [(0, t19)] (some (0, false)) (M.lift (Ax.faddr 1 t1))).bind fun t21 =>
 (zaa [(0, t19)] (some (0, false)) (zab none t21)).bind fun t22 =>
 (zaa [(0, t19)] (some (0, false)) (M.lift (Ax.bin .lss t22 (V.int .i64 1)))).bind fun t23 =>
 (M.lift (Ax.pick t19 (V.bool true) t23)).bind fun t24 =>
 (zaa [(0, t24)] (some (0, false)) (M.lift (Ax.faddr 1 t1))).bind fun t26 =>
 (zaa [(0, t24)] (some (0, false)) (zab none t26)).bind fun t27 =>
 (zaa [(0, t24)] (some (0, false)) (M.lift (Ax.bin .gtr t27 (V.int .i64 32)))).bind fun t28 =>
 (M.lift (Ax.pick t24 (V.bool true) t28)).bind fun t29 =>
 (zaa [(0, t29)] (some (0, false)) (M.lift (Ax.faddr 3 t1))).bind fun t31 =>
 (zaa [(0, t29)] (some (0, false)) (zab none t31)).bind fun t32 =>
 (zaa [(0, t29)] (some (0, false)) (M.lift (Ax.bin .lss t32 (V.int .i64 0)))).bind fun t33 =>
 (M.lift (Ax.pick t29 (V.bool true) t33)).bind fun t34 =>
 (zaa [(0, t34)] (some (0, false)) (M.lift (Ax.faddr 3 t1))).bind fun t36 =>
 (zaa [(0, t34)] (some (0, false)) (zab none t36)).bind fun t37 =>
 (zaa [(0, t34)] (some (0, false)) (M.lift (Ax.faddr 1 t1))).bind fun t38 =>
 (zaa [(0, t34)] (some (0, false)) (zab none t38)).bind fun t39 =>
 (zaa [(0, t34)] (some (0, false)) (M.lift (Ax.bin .gtr t37 t39))).bind fun t40 =>
 (M.lift (Ax.pick t34 (V.bool true) t40)).bind fun t41 =>
 (zaa [(0, t41)] (some (0, false)) (M.lift (Ax.faddr 4 t1))).bind fun t43 =>
 (zaa [(0, t41)] (some (0, false)) (zab none t43)).bind fun t44 =>
 (zaa [(0, t41)] (some (0, false)) (M.pure (L0.getD 0 .undef))).bind fun t45 =>
 (zaa [(0, t41)] (some (0, false)) (M.lift (Ax.faddr 3 t1))).bind fun t46 =>
 (zaa [(0, t41)] (some (0, false)) (zab none t46)).bind fun t47 =>
 (zaa [(0, t41)] (some (0, false)) (M.lift (Ax.bin .sub t47 (V.int .i64 1)))).bind fun t48 =>
 (zaa [(0, t41)] (some (0, false)) (G zaX [t44, t45, (V.int .i64 0), t48])).bind fun t49 =>
 (zaa [(0, t41)] (some (0, false)) (M.lift (Ax.un .not t49))).bind fun t50 =>
 (M.lift (Ax.pick t41 (V.bool true) t50)).bind fun t51 =>
 (zaa [(0, t51)] (some (0, false)) (zab (some 6) t1)).bind fun t53 =>
 (zaa [(0, t51)] (some (0, false)) (G zcN [t53])).bind fun t54 =>
 (zaa [(0, t51)] (some (0, false)) (M.lift (Ax.un .not t54))).bind fun t55 =>
 (M.lift (Ax.pick t51 (V.bool true) t55)).bind fun t56 =>
 M.ite t56
 (M.pure (.ret [(V.bool false)]))
 ((M.lift (Ax.faddr 5 t1)).bind fun t57 =>
 (zab none t57).bind fun t58 =>
 (M.lift (vlen t58)).bind fun t59 =>
 (M.lift (Ax.bin .neq t59 (V.int .i64 0))).bind fun t61 =>
 (zaa [(0, t61)] (some (0, true)) (M.pure t59)).bind fun t63 =>
 (zaa [(0, t61)] (some (0, true)) (zab (some 6) t1)).bind fun t64 =>
 (zaa [(0, t61)] (some (0, true)) (G zcC [t64])).bind fun t65 =>
 (zaa [(0, t61)] (some (0, true)) (M.lift (Ax.bin .neq t63 t65))).bind fun t66 =>
 (M.lift (Ax.pick t61 t66 (V.bool false))).bind fun t67 =>
 M.ite t67
 (M.pure (.ret [(V.bool false)]))
 ((M.lift (Ax.faddr 5 t1)).bind fun t68 =>
 (zab none t68).bind fun t69 =>
 (M.lift (vlen t69)).bind fun t70 =>
 M.blk 0 (
 M.iter (zc5 G t70 t69) [(V.int .i64 0)]) fun _ =>
 (M.lift (Ax.faddr 2 t1)).bind fun t79 =>
 (zab none t79).bind fun t80 =>
 (M.pure (.fn zcd [t1])).bind fun t81 =>
 (G zar [t80, t81]).bind fun t82 =>
 (M.lift (Ax.un .not t82)).bind fun t83 =>
 M.pure (.ret [t83])))
theorem zgl {t0 : V} : OkT zcf [t0] (zfA (sem T) t0) := okT (by kernel_rfl) (by kernel_rfl) (by kernel_rfl)
noncomputable def ze3 (G : Sem') (t0 t1 t2 t3 : V) : M Res :=
 (mbox zcI t2).bind fun t6 =>
 (mbox zcI t3).bind fun t7 =>
 (M.lift (vlen t0)).bind fun t10 =>
 (M.lift (Ax.bin .eql t10 t1)).bind fun t12 =>
 (zaa [(0, t12)] (some (0, true)) (M.pure t0)).bind fun t14 =>
 (zaa [(0, t12)] (some (0, true)) (M.pure (.fn zcl [t6, t7]))).bind fun t15 =>
 (zaa [(0, t12)] (some (0, true)) (G za6 [t14, t15])).bind fun t16 =>
 (zaa [(0, t12)] (some (0, true)) (M.lift (Ax.un .not t16))).bind fun t17 =>
 (M.lift (Ax.pick t12 t17 (V.bool false))).bind fun t18 =>
 M.pure (.ret [t18])
theorem zfV {t0 t1 t2 t3 : V} : OkT zaX [t0, t1, t2, t3] (ze3 (sem T) t0 t1 t2 t3) := okT (by kernel_rfl) (by kernel_rfl) (by kernel_rfl)
noncomputable def zee (G : Sem') (t0 t1 t2 : V) : M Res :=
 (zab none t1).bind fun t6 =>
 (M.lift (Ax.bin .lss t0 t6)).bind fun t7 =>
 (zaa [(0, t7)] (some (0, false)) (M.pure t0)).bind fun t9 =>
 (zaa [(0, t7)] (some (0, false)) (zab none t2)).bind fun t10 =>
 (zaa [(0, t7)] (some (0, false)) (M.lift (Ax.bin .gtr t9 t10))).bind fun t11 =>
 (M.lift (Ax.pick t7 (V.bool true) t11)).bind fun t12 =>
 M.pure (.ret [t12])
theorem zfu {t0 t1 t2 : V} : OkT zcl [t0, t1, t2] (zee (sem T) t0 t1 t2) := okT (by kernel_rfl) (by kernel_rfl) (by kernel_rfl)
noncomputable def zce (G : Sem') (t0 t1 : V) : M Res :=
 (G zbg [t0, t1]).bind fun t7 =>
 (M.lift (Ax.bin .geq t7 (V.int .i64 0))).bind fun t8 =>
 M.pure (.ret [t8])
theorem zdn {t0 t1 : V} : OkT za6 [t0, t1] (zce (sem T) t0 t1) := okT (by kernel_rfl) (by kernel_rfl) (by kernel_rfl)
noncomputable def zbG (G : Sem') (t7 t1 t0 : V) (L : List V) : M Res :=
 (M.lift (Ax.bin .lss (L.getD 0 .undef) t7)).bind fun t9 =>
 M.ite t9
 (M.blk 1 (
 (M.lift (Ax.iaddr none 1 t0 (L.getD 0 .undef))).bind fun t14 =>
 (zab none t14).bind fun t15 =>
 (callv G t1 [t15]).bind fun t16 =>
 M.ite t16
 (M.pure (.ret [(L.getD 0 .undef)]))
 (M.pure (.nrm []))) fun _ =>
 (M.lift (Ax.bin .add (L.getD 0 .undef) (V.int .i64 1))).bind fun t18 =>
 M.pure (.nrm [t18]))
 (M.pure (.ex 0 []))
noncomputable def zcD (G : Sem') (t0 t1 : V) : M Res :=
 (M.lift (vlen t0)).bind fun t7 =>
 M.blk 0 (
 M.iter (zbG G t7 t1 t0) [(V.int .i64 0)]) fun _ =>
 M.pure (.ret [(V.int .i64 (-1))])
theorem zdO {t0 t1 : V} : OkT zbg [t0, t1] (zcD (sem T) t0 t1) := okT (by kernel_rfl) (by kernel_rfl) (by kernel_rfl)
noncomputable def zdg (G : Sem') (t11 t10 t3 : V) (L : List V) : M Res :=
 (M.lift (Ax.bin .lss (L.getD 0 .undef) t11)).bind fun t13 =>
 M.ite t13
 (M.blk 1 (
 (M.lift (Ax.iaddr none 5 t10 (L.getD 0 .undef))).bind fun t15 =>
 (zab (some 5) t15).bind fun t16 =>
 (mbox zak (V.agg [(V.int .i64 0), (V.int .i64 0), V.nils, V.nils, V.nils])).bind fun t5 =>
 (zah 5 t5 t16).bind fun _ =>
 (zab (some 5) t3).bind fun t18 =>
 (zab (some 5) t5).bind fun t19 =>
 (G zdl [t18, t19]).bind fun t20 =>
 (M.lift (Ax.ext 0 t20)).bind fun t21 =>
 (M.lift (Ax.ext 1 t20)).bind fun t22 =>
 (M.lift (Ax.un .not t22)).bind fun t24 =>
 (zaa [(0, t24)] (some (0, false)) (M.pure (L.getD 0 .undef))).bind fun t26 =>
 (zaa [(0, t24)] (some (0, false)) (M.lift (Ax.bin .eql t26 (V.int .i64 0)))).bind fun t27 =>
 (zaa [(0, t24)] (some (0, false)) (M.pure t27)).bind fun t28 =>
 (zaa [(0, t28)] (some (0, true)) (M.pure t21)).bind fun t29 =>
 (zaa [(0, t28)] (some (0, true)) (M.lift (Ax.bin .neq t29 (V.int .i64 0)))).bind fun t30 =>
 (zaa [(0, t24)] (some (0, false)) (M.lift (Ax.pick t28 t30 (V.bool false)))).bind fun t31 =>
 (M.lift (Ax.pick t24 (V.bool true) t31)).bind fun t32 =>
 (zaa [(0, t32)] (some (0, false)) (M.lift (Ax.faddr 0 t5))).bind fun t34 =>
 (zaa [(0, t32)] (some (0, false)) (zab none t34)).bind fun t35 =>
 (zaa [(0, t32)] (some (0, false)) (M.lift (Ax.bin .gtr t35 (V.int .i64 3)))).bind fun t36 =>
 (M.lift (Ax.pick t32 (V.bool true) t36)).bind fun t37 =>
 (zaa [(0, t37)] (some (0, false)) (M.lift (Ax.faddr 1 t5))).bind fun t39 =>
 (zaa [(0, t37)] (some (0, false)) (zab none t39)).bind fun t40 =>
 (zaa [(0, t37)] (some (0, false)) (M.lift (Ax.bin .gtr t40 (V.int .i64 7)))).bind fun t41 =>
 (M.lift (Ax.pick t37 (V.bool true) t41)).bind fun t42 =>
 M.ite t42
 (M.pure (.ret [(V.bool false)]))
 ((zab (some 5) t5).bind fun t43 =>
 (zah 5 t3 t43).bind fun _ =>
 M.pure (.nrm []))) fun _ =>
 (M.lift (Ax.bin .add (L.getD 0 .undef) (V.int .i64 1))).bind fun t44 =>
 M.pure (.nrm [t44]))
 (M.pure (.ex 0 []))
noncomputable def ze4 (G : Sem') (t0 : V) : M Res :=
 (mbox zag t0).bind fun t1 =>
 (M.lift (Ax.build [(V.int .i64 0), (V.int .i64 0), V.nils, V.nils, V.nils] [])).bind fun t8 =>
 (mbox zak (V.agg [(V.int .i64 0), (V.int .i64 0), V.nils, V.nils, V.nils])).bind fun t3 =>
 (zah 5 t3 t8).bind fun _ =>
 (M.lift (Ax.faddr 2 t1)).bind fun t9 =>
 (zab none t9).bind fun t10 =>
 (M.lift (vlen t10)).bind fun t11 =>
 M.blk 0 (
 M.iter (zdg G t11 t10 t3) [(V.int .i64 0)]) fun _ =>
 (M.lift (Ax.faddr 2 t1)).bind fun t45 =>
 (zab none t45).bind fun t46 =>
 (M.lift (vlen t46)).bind fun t47 =>
 (M.lift (Ax.bin .geq t47 (V.int .i64 1))).bind fun t48 =>
 (zaa [(0, t48)] (some (0, true)) (M.lift (Ax.faddr 2 t1))).bind fun t50 =>
 (zaa [(0, t48)] (some (0, true)) (zab none t50)).bind fun t51 =>
 (zaa [(0, t48)] (some (0, true)) (M.lift (vlen t51))).bind fun t52 =>
 (zaa [(0, t48)] (some (0, true)) (M.lift (Ax.bin .leq t52 (V.int .i64 64)))).bind fun t53 =>
 (M.lift (Ax.pick t48 t53 (V.bool false))).bind fun t54 =>
 M.pure (.ret [t54])
theorem zfW {t0 : V} : OkT zcN [t0] (ze4 (sem T) t0) := okT (by kernel_rfl) (by kernel_rfl) (by kernel_rfl)
noncomputable def zfy (G : Sem') (t0 t1 : V) : M Res :=
 (mbox zak t0).bind fun t2 =>
 (mbox zak t1).bind fun t3 =>
 M.blk 0 (
 (M.lift (Ax.faddr 0 t3)).bind fun t7 =>
 (zab none t7).bind fun t8 =>
 (M.lift (Ax.faddr 0 t2)).bind fun t9 =>
 (zab none t9).bind fun t10 =>
 (M.lift (Ax.bin .eql t8 t10)).bind fun t11 =>
 (zaa [(0, t11)] (some (0, true)) (M.lift (Ax.faddr 1 t3))).bind fun t13 =>
 (zaa [(0, t11)] (some (0, true)) (zab none t13)).bind fun t14 =>
 (zaa [(0, t11)] (some (0, true)) (M.lift (Ax.faddr 1 t2))).bind fun t15 =>
 (zaa [(0, t11)] (some (0, true)) (zab none t15)).bind fun t16 =>
 (zaa [(0, t11)] (some (0, true)) (M.lift (Ax.bin .eql t14 t16))).bind fun t17 =>
 (M.lift (Ax.pick t11 t17 (V.bool false))).bind fun t18 =>
 M.ite t18
 (M.pure (.ret [(V.int .i64 0), (V.bool true)]))
 ((M.lift (Ax.faddr 0 t3)).bind fun t20 =>
 (zab none t20).bind fun t21 =>
 (M.lift (Ax.faddr 0 t2)).bind fun t22 =>
 (zab none t22).bind fun t23 =>
 (M.lift (Ax.bin .eql t21 t23)).bind fun t24 =>
 (zaa [(0, t24)] (some (0, true)) (M.lift (Ax.faddr 1 t3))).bind fun t26 =>
 (zaa [(0, t24)] (some (0, true)) (zab none t26)).bind fun t27 =>
 (zaa [(0, t24)] (some (0, true)) (M.lift (Ax.faddr 1 t2))).bind fun t28 =>
 (zaa [(0, t24)] (some (0, true)) (zab none t28)).bind fun t29 =>
 (zaa [(0, t24)] (some (0, true)) (M.lift (Ax.bin .add t29 (V.int .i64 1)))).bind fun t30 =>
 (zaa [(0, t24)] (some (0, true)) (M.lift (Ax.bin .eql t27 t30))).bind fun t31 =>
 (M.lift (Ax.pick t24 t31 (V.bool false))).bind fun t32 =>
 M.ite t32
 (M.pure (.ret [(V.int .i64 1), (V.bool true)]))
 ((M.lift (Ax.faddr 0 t3)).bind fun t34 =>
 (zab none t34).bind fun t35 =>
 (M.lift (Ax.faddr 0 t2)).bind fun t36 =>
 (zab none t36).bind fun t37 =>
 (M.lift (Ax.bin .add t37 (V.int .i64 1))).bind fun t38 =>
 (M.lift (Ax.bin .eql t35 t38)).bind fun t39 =>
 (zaa [(0, t39)] (some (0, true)) (M.lift (Ax.faddr 1 t3))).bind fun t41 =>
 (zaa [(0, t39)] (some (0, true)) (zab none t41)).bind fun t42 =>
 (zaa [(0, t39)] (some (0, true)) (M.lift (Ax.bin .eql t42 (V.int .i64 0)))).bind fun t43 =>
 (M.lift (Ax.pick t39 t43 (V.bool false))).bind fun t44 =>
 M.ite t44
 (M.pure (.ret [(V.int .i64 2), (V.bool true)]))
 (M.pure (.nrm []))))) fun _ =>
 M.pure (.ret [(V.int .i64 0), (V.bool false)])
theorem zgj {t0 t1 : V} : OkT zdl [t0, t1] (zfy (sem T) t0 t1) := okT (by kernel_rfl) (by kernel_rfl) (by kernel_rfl)
noncomputable def zc3 (G : Sem') (t8 t7 t2 : V) (L : List V) : M Res :=
 (M.lift (Ax.bin .lss (L.getD 1 .undef) t8)).bind fun t10 =>
 M.ite t10
 (M.blk 1 (
 (M.lift (Ax.iaddr none 5 t7 (L.getD 1 .undef))).bind fun t11 =>
 (zab (some 5) t11).bind fun t12 =>
 (mbox zak (V.agg [(V.int .i64 0), (V.int .i64 0), V.nils, V.nils, V.nils])).bind fun t5 =>
 (zah 5 t5 t12).bind fun _ =>
 (M.lift (Ax.faddr 0 t5)).bind fun t14 =>
 (zab none t14).bind fun t15 =>
 (M.lift (Ax.bin .add t15 (V.int .i64 1))).bind fun t16 =>
 (M.lift (Ax.minmax true (L.getD 0 .undef) [t16])).bind fun t17 =>
 M.pure (.nrm [t17])) fun L0 =>
 (M.lift (Ax.bin .add (L.getD 1 .undef) (V.int .i64 1))).bind fun t18 =>
 M.pure (.nrm [(L0.getD 0 .undef), t18]))
 (M.pure (.ex 0 [(L.getD 0 .undef)]))
noncomputable def zeD (G : Sem') (t0 : V) : M Res :=
 (mbox zag t0).bind fun t1 =>
 (M.lift (Ax.faddr 2 t1)).bind fun t6 =>
 (zab none t6).bind fun t7 =>
 (M.lift (vlen t7)).bind fun t8 =>
 M.blk 0 (
 M.iter (zc3 G t8 t7 (V.int .i64 0)) [(V.int .i64 0), (V.int .i64 0)]) fun L1 =>
 M.pure (.ret [(L1.getD 0 .undef)])
theorem zfI {t0 : V} : OkT zcC [t0] (zeD (sem T) t0) := okT (by kernel_rfl) (by kernel_rfl) (by kernel_rfl)
noncomputable def ze8 (G : Sem') (t0 t1 : V) : M Res :=
 (mbox zak t0).bind fun t2 =>
 (zab (some 6) t1).bind fun t4 =>
 (zab (some 5) t2).bind fun t5 =>
 (G zbt [t4, t5]).bind fun t6 =>
 (M.lift (Ax.un .not t6)).bind fun t7 =>
 M.pure (.ret [t7])
theorem zf0 {t0 t1 : V} : OkT zcd [t0, t1] (ze8 (sem T) t0 t1) := okT (by kernel_rfl) (by kernel_rfl) (by kernel_rfl)
noncomputable def zc4 (G : Sem') (t0 t1 : V) : M Res :=
 (mbox zag t0).bind fun t2 =>
 (mbox zak t1).bind fun t3 =>
 (M.lift (Ax.faddr 2 t3)).bind fun t5 =>
 (zab none t5).bind fun t6 =>
 (M.lift (Ax.faddr 1 t2)).bind fun t7 =>
 (zab none t7).bind fun t8 =>
 (G zaX [t6, t8, (V.int .i64 0), (V.int .i64 3)]).bind fun t9 =>
 (zaa [(0, t9)] (some (0, true)) (M.lift (Ax.faddr 3 t3))).bind fun t11 =>
 (zaa [(0, t9)] (some (0, true)) (zab none t11)).bind fun t12 =>
 (zaa [(0, t9)] (some (0, true)) (G zcu [t12, (V.int .i64 8), (V.int .i64 16)])).bind fun t13 =>
 (M.lift (Ax.pick t9 t13 (V.bool false))).bind fun t14 =>
 (zaa [(0, t14)] (some (0, true)) (M.lift (Ax.faddr 4 t3))).bind fun t16 =>
 (zaa [(0, t14)] (some (0, true)) (zab none t16)).bind fun t17 =>
 (zaa [(0, t14)] (some (0, true)) (M.lift (Ax.faddr 3 t2))).bind fun t18 =>
 (zaa [(0, t14)] (some (0, true)) (zab none t18)).bind fun t19 =>
 (zaa [(0, t14)] (some (0, true)) (G zaX [t17, t19, (V.int .i64 0), (V.int .i64 15)])).bind fun t20 =>
 (M.lift (Ax.pick t14 t20 (V.bool false))).bind fun t21 =>
 M.pure (.ret [t21])
theorem zd9 {t0 t1 : V} : OkT zbt [t0, t1] (zc4 (sem T) t0 t1) := okT (by kernel_rfl) (by kernel_rfl) (by kernel_rfl)
noncomputable def zfj (G : Sem') (t0 t1 t2 : V) : M Res :=
 (M.lift (vlen t0)).bind fun t8 =>
 (M.lift (Ax.bin .leq t8 t1)).bind fun t10 =>
 (zaa [(0, t10)] (some (0, true)) (M.pure t0)).bind fun t12 =>
 (zaa [(0, t10)] (some (0, true)) (M.pure t0)).bind fun t13 =>
 (zaa [(0, t10)] (some (0, true)) (M.lift (vlen t13))).bind fun t14 =>
 (zaa [(0, t10)] (some (0, true)) (M.pure t2)).bind fun t15 =>
 (zaa [(0, t10)] (some (0, true)) (G zaX [t12, t14, (V.int .i64 1), t15])).bind fun t16 =>
 (M.lift (Ax.pick t10 t16 (V.bool false))).bind fun t17 =>
 M.pure (.ret [t17])
theorem zf7 {t0 t1 t2 : V} : OkT zcu [t0, t1, t2] (zfj (sem T) t0 t1 t2) := okT (by kernel_rfl) (by kernel_rfl) (by kernel_rfl)
noncomputable def zaU (G : Sem') (t0 t1 : V) : M Res :=
 (G zax [t0, t1]).bind fun t7 =>
 (M.lift (Ax.bin .geq t7 (V.int .i64 0))).bind fun t8 =>
 M.pure (.ret [t8])
theorem zbB {t0 t1 : V} : OkT zar [t0, t1] (zaU (sem T) t0 t1) := okT (by kernel_rfl) (by kernel_rfl) (by kernel_rfl)
noncomputable def zaJ (G : Sem') (t7 t1 t0 : V) (L : List V) : M Res :=
 (M.lift (Ax.bin .lss (L.getD 0 .undef) t7)).bind fun t9 =>
 M.ite t9
 (M.blk 1 (
 (M.lift (Ax.iaddr none 5 t0 (L.getD 0 .undef))).bind fun t14 =>
 (zab (some 5) t14).bind fun t15 =>
 (callv G t1 [t15]).bind fun t16 =>
 M.ite t16
 (M.pure (.ret [(L.getD 0 .undef)]))
 (M.pure (.nrm []))) fun _ =>
 (M.lift (Ax.bin .add (L.getD 0 .undef) (V.int .i64 1))).bind fun t18 =>
 M.pure (.nrm [t18]))
 (M.pure (.ex 0 []))
noncomputable def zaY (G : Sem') (t0 t1 : V) : M Res :=
 (M.lift (vlen t0)).bind fun t7 =>
 M.blk 0 (
 M.iter (zaJ G t7 t1 t0) [(V.int .i64 0)]) fun _ =>
 M.pure (.ret [(V.int .i64 (-1))])
theorem zbL {t0 t1 : V} : OkT zax [t0, t1] (zaY (sem T) t0 t1) := okT (by kernel_rfl) (by kernel_rfl) (by kernel_rfl)
noncomputable def zef (G : Sem') (t0 t1 : V) : M Res :=
 (mbox zag t0).bind fun t2 =>
 (mbox zak (V.agg [(V.int .i64 0), (V.int .i64 0), V.nils, V.nils, V.nils])).bind fun t4 =>
 (M.lift (Ax.bin .lss t1 (V.int .i64 0))).bind fun t8 =>
 (zaa [(0, t8)] (some (0, false)) (M.pure t1)).bind fun t10 =>
 (zaa [(0, t8)] (some (0, false)) (M.lift (Ax.bin .geq t10 (V.int .i64 64)))).bind fun t11 =>
 (M.lift (Ax.pick t8 (V.bool true) t11)).bind fun t12 =>
 M.ite t12
 ((M.lift (Ax.build [(V.int .i64 0), (V.int .i64 0), V.nils, V.nils, V.nils] [])).bind fun t13 =>
 (zah 5 t4 t13).bind fun _ =>
 (zab (some 5) t4).bind fun r0 =>
 M.pure (.ret [r0, (V.bool false)]))
 ((M.lift (Ax.bin .add t1 (V.int .i64 64))).bind fun t15 =>
 (M.lift (Ax.faddr 0 t2)).bind fun t16 =>
 (zab none t16).bind fun t17 =>
 (M.lift (Ax.bin .sub t15 t17)).bind fun t18 =>
 (M.lift (Ax.bin .rem t18 (V.int .i64 64))).bind fun t19 =>
 (M.lift (Ax.faddr 2 t2)).bind fun t21 =>
 (zab none t21).bind fun t22 =>
 (M.lift (vlen t22)).bind fun t23 =>
 (M.lift (Ax.bin .geq t19 t23)).bind fun t24 =>
 M.ite t24
 ((M.lift (Ax.build [(V.int .i64 0), (V.int .i64 0), V.nils, V.nils, V.nils] [])).bind fun t25 =>
 (zah 5 t4 t25).bind fun _ =>
 (zab (some 5) t4).bind fun r0 =>
 M.pure (.ret [r0, (V.bool false)]))
 ((M.lift (Ax.faddr 2 t2)).bind fun t26 =>
 (zab none t26).bind fun t27 =>
 (M.lift (Ax.iaddr none 5 t27 t19)).bind fun t29 =>
 (zab (some 5) t29).bind fun t30 =>
 (G zcO [t30]).bind fun t31 =>
 (zah 5 t4 t31).bind fun _ =>
 (zab (some 5) t4).bind fun r0 =>
 M.pure (.ret [r0, (V.bool true)])))
theorem zfv {t0 t1 : V} : OkT zcm [t0, t1] (zef (sem T) t0 t1) := okT (by kernel_rfl) (by kernel_rfl) (by kernel_rfl)
noncomputable def ze5 (G : Sem') (t0 : V) : M Res :=
 (mbox zak t0).bind fun t1 =>
 (mbox zak (V.agg [(V.int .i64 0), (V.int .i64 0), V.nils, V.nils, V.nils])).bind fun t2 =>
 (M.lift (Ax.faddr 2 t1)).bind fun t3 =>
 (zab none t3).bind fun t4 =>
 (M.lift (Ax.faddr 3 t1)).bind fun t6 =>
 (zab none t6).bind fun t7 =>
 (M.lift (Ax.faddr 4 t1)).bind fun t9 =>
 (zab none t9).bind fun t10 =>
 M.getH.bind fun h0 =>
 (G za3 [t4]).bind fun t5 =>
 M.getH.bind fun h0' =>
 (M.unch t9 h0 h0').bind fun _ =>
 (M.unch t6 h0 h0').bind fun _ =>
 M.getH.bind fun h1 =>
 (G za3 [t7]).bind fun t8 =>
 M.getH.bind fun h1' =>
 (M.unch t9 h1 h1').bind fun _ =>
 (G za3 [t10]).bind fun t11 =>
 (M.lift (Ax.faddr 2 t1)).bind fun t12 =>
 (zah 1 t12 t5).bind fun _ =>
 (M.lift (Ax.faddr 3 t1)).bind fun t13 =>
 (zah 1 t13 t8).bind fun _ =>
 (M.lift (Ax.faddr 4 t1)).bind fun t14 =>
 (zah 1 t14 t11).bind fun _ =>
 (zab (some 5) t1).bind fun t15 =>
 (zah 5 t2 t15).bind fun _ =>
 (zab (some 5) t2).bind fun r0 =>
 M.pure (.ret [r0])
theorem zfX {t0 : V} : OkT zcO [t0] (ze5 (sem T) t0) := okT (by kernel_rfl) (by kernel_rfl) (by kernel_rfl)
noncomputable def zc8 (G : Sem') (t0 : V) : M Res :=
 (M.lift (eqr .sl false t0 V.nils)).bind fun t4 =>
 M.ite t4
 (M.pure (.ret [V.nils]))
 ((mslit zcI 0 [(V.int .i64 0)] []).bind fun t5 =>
 (mappend zcI 1 8 t5 t0).bind fun t7 =>
 M.pure (.ret [t7]))
theorem zel {t0 : V} : OkT za3 [t0] (zc8 (sem T) t0) := okT (by kernel_rfl) (by kernel_rfl) (by kernel_rfl)
noncomputable def zfx (G : Sem') (t0 : V) : M Res :=
 (mbox zag t0).bind fun t1 =>
 (M.lift (Ax.faddr 0 t1)).bind fun t3 =>
 (zab none t3).bind fun t4 =>
 (M.lift (Ax.bin .eql t4 (V.int .i64 0))).bind fun t5 =>
 (zaa [(0, t5)] (some (0, true)) (M.lift (Ax.faddr 1 t1))).bind fun t7 =>
 (zaa [(0, t5)] (some (0, true)) (zab none t7)).bind fun t8 =>
 (zaa [(0, t5)] (some (0, true)) (M.lift (Ax.bin .eql t8 (V.int .i64 0)))).bind fun t9 =>
 (M.lift (Ax.pick t5 t9 (V.bool false))).bind fun t10 =>
 (zaa [(0, t10)] (some (0, true)) (M.lift (Ax.faddr 3 t1))).bind fun t12 =>
 (zaa [(0, t10)] (some (0, true)) (zab none t12)).bind fun t13 =>
 (zaa [(0, t10)] (some (0, true)) (M.lift (Ax.bin .eql t13 (V.int .i64 0)))).bind fun t14 =>
 (M.lift (Ax.pick t10 t14 (V.bool false))).bind fun t15 =>
 (zaa [(0, t15)] (some (0, true)) (M.lift (Ax.faddr 2 t1))).bind fun t17 =>
 (zaa [(0, t15)] (some (0, true)) (zab none t17)).bind fun t18 =>
 (zaa [(0, t15)] (some (0, true)) (M.lift (vlen t18))).bind fun t19 =>
 (zaa [(0, t15)] (some (0, true)) (M.lift (Ax.faddr 4 t1))).bind fun t20 =>
 (zaa [(0, t15)] (some (0, true)) (zab none t20)).bind fun t21 =>
 (zaa [(0, t15)] (some (0, true)) (M.lift (vlen t21))).bind fun t22 =>
 (zaa [(0, t15)] (some (0, true)) (M.lift (Ax.bin .add t19 t22))).bind fun t23 =>
 (zaa [(0, t15)] (some (0, true)) (M.lift (Ax.faddr 5 t1))).bind fun t24 =>
 (zaa [(0, t15)] (some (0, true)) (zab none t24)).bind fun t25 =>
 (zaa [(0, t15)] (some (0, true)) (M.lift (vlen t25))).bind fun t26 =>
 (zaa [(0, t15)] (some (0, true)) (M.lift (Ax.bin .add t23 t26))).bind fun t27 =>
 (zaa [(0, t15)] (some (0, true)) (M.lift (Ax.bin .eql t27 (V.int .i64 0)))).bind fun t28 =>
 (M.lift (Ax.pick t15 t28 (V.bool false))).bind fun t29 =>
 M.pure (.ret [t29])
theorem zgi {t0 : V} : OkT zdk [t0] (zfx (sem T) t0) := okT (by kernel_rfl) (by kernel_rfl) (by kernel_rfl)
noncomputable def zb0 (G : Sem') (t12 t0 t1 : V) (L : List V) : M Res :=
 (M.lift (Ax.bin .lss (L.getD 0 .undef) t12)).bind fun t14 =>
 M.ite t14
 (M.blk 1 (
 (M.lift (Ax.iaddr none 1 t0 (L.getD 0 .undef))).bind fun t18 =>
 (zab none t18).bind fun t19 =>
 (M.lift (Ax.iaddr none 1 t1 (L.getD 0 .undef))).bind fun t22 =>
 (zab none t22).bind fun t23 =>
 (M.lift (Ax.bin .neq t19 t23)).bind fun t24 =>
 M.ite t24
 (M.pure (.ret [(V.bool false)]))
 (M.pure (.nrm []))) fun _ =>
 (M.lift (Ax.bin .add (L.getD 0 .undef) (V.int .i64 1))).bind fun t25 =>
 M.pure (.nrm [t25]))
 (M.pure (.ex 0 []))
noncomputable def zc7 (G : Sem') (t0 t1 : V) : M Res :=
 (M.lift (vlen t0)).bind fun t7 =>
 (M.lift (vlen t1)).bind fun t9 =>
 (M.lift (Ax.bin .neq t7 t9)).bind fun t10 =>
 M.ite t10
 (M.pure (.ret [(V.bool false)]))
 ((M.lift (vlen t0)).bind fun t12 =>
 M.blk 0 (
 M.iter (zb0 G t12 t0 t1) [(V.int .i64 0)]) fun _ =>
 M.pure (.ret [(V.bool true)]))
theorem zek {t0 t1 : V} : OkT za1 [t0, t1] (zc7 (sem T) t0 t1) := okT (by kernel_rfl) (by kernel_rfl) (by kernel_rfl)
noncomputable def zd4 (G : Sem') (t0 t1 t2 t3 t4 : V) : M Res :=
 (mbox zam t2).bind fun t7 =>
 (mbox zal t3).bind fun t8 =>
 (M.lift (Ax.faddr 4 t8)).bind fun t15 =>
 (zab none t15).bind fun t16 =>
 (zaa [(0, t16)] (some (0, true)) (M.lift (Ax.faddr 0 t8))).bind fun t18 =>
 (zaa [(0, t16)] (some (0, true)) (zab none t18)).bind fun t19 =>
 (M.lift (Ax.pick t16 t19 (V.bool false))).bind fun t20 =>
 (M.lift (Ax.nilck t0)).bind fun t23 =>
 (M.lift (Ax.faddr 3 t23)).bind fun t24 =>
 (zab (some 3) t24).bind fun t25 =>
 (G zea [t25, t1, t20]).bind fun t28 =>
 (M.lift (Ax.ext 0 t28)).bind fun t29 =>
 (M.lift (Ax.ext 1 t28)).bind fun t30 =>
 (M.lift (Ax.ext 2 t28)).bind fun t31 =>
 (mbox zaE (V.agg [(V.bool false), (V.int .i64 0), (V.int .i64 0)])).bind fun t12 =>
 (zah 3 t12 t29).bind fun _ =>
 (zab (some 3) t12).bind fun t33 =>
 (M.lift (Ax.nilck t0)).bind fun t34 =>
 (M.lift (Ax.faddr 3 t34)).bind fun t35 =>
 (zah 3 t35 t33).bind fun _ =>
 (zaa [(0, t30)] (some (0, true)) (M.pure t20)).bind fun t38 =>
 (M.lift (Ax.pick t30 t38 (V.bool false))).bind fun t39 =>
 M.join (M.ite t39
 ((G zck [t0]).bind fun t41 =>
 M.pure (.nrm []))
 (M.pure (.nrm []))) fun _ =>
 M.join (M.ite t31
 ((M.lift (Ax.nilck t0)).bind fun t45 =>
 (M.lift (Ax.faddr 6 t45)).bind fun t46 =>
 (zab (some 7) t46).bind fun t47 =>
 (M.lift (Ax.faddr 3 t7)).bind fun t48 =>
 (zab none t48).bind fun t49 =>
 (M.lift (Ax.faddr 3 t8)).bind fun t50 =>
 (zab none t50).bind fun t51 =>
 (G zcX [t47, t49, t51, t4]).bind fun t53 =>
 (M.lift (Ax.nilck t0)).bind fun t54 =>
 (M.lift (Ax.faddr 6 t54)).bind fun t55 =>
 (zah 7 t55 t53).bind fun _ =>
 M.pure (.nrm []))
 (M.pure (.nrm []))) fun _ =>
 M.pure (.ret [t30])
theorem zfo {t0 t1 t2 t3 t4 : V} : OkT zcb [t0, t1, t2, t3, t4] (zd4 (sem T) t0 t1 t2 t3 t4) := okT (by kernel_rfl) (by kernel_rfl) (by kernel_rfl)
noncomputable def zgU (G : Sem') (t0 t1 t2 : V) : M Res :=
 (mbox zaE t0).bind fun t3 =>
 (mbox zaE (V.agg [(V.bool false), (V.int .i64 0), (V.int .i64 0)])).bind fun t6 =>
 M.blk 0 (
 (zab (some 3) t3).bind fun t10 =>
 (G zdp [t10]).bind fun t11 =>
 (M.lift (Ax.un .not t11)).bind fun t12 =>
 M.ite t12
 ((zab (some 3) t3).bind fun t13 =>
 (zah 3 t6 t13).bind fun _ =>
 (zab (some 3) t6).bind fun r0 =>
 M.pure (.ret [r0, (V.bool false), (V.bool false)]))
 ((M.lift (Ax.faddr 2 t3)).bind fun t16 =>
 (zab none t16).bind fun t17 =>
 (M.lift (Ax.bin .eql t1 t17)).bind fun t18 =>
 (zaa [(0, t18)] (some (0, true)) (M.pure t2)).bind fun t20 =>
 (M.lift (Ax.pick t18 t20 (V.bool false))).bind fun t21 =>
 (zaa [(0, t21)] (some (0, true)) (zab (some 3) t3)).bind fun t23 =>
 (zaa [(0, t21)] (some (0, true)) (M.pure t1)).bind fun t24 =>
 (zaa [(0, t21)] (some (0, true)) (G zbZ [t23, t24])).bind fun t25 =>
 (zaa [(0, t21)] (some (0, true)) (M.lift (Ax.un .not t25))).bind fun t26 =>
 (M.lift (Ax.pick t21 t26 (V.bool false))).bind fun t27 =>
 M.ite t27
 ((M.lift (Ax.faddr 0 t3)).bind fun t29 =>
 (zah 1 t29 (V.bool true)).bind fun _ =>
 (M.lift (Ax.faddr 1 t3)).bind fun t30 =>
 (zah 1 t30 t1).bind fun _ =>
 (zab (some 3) t3).bind fun t31 =>
 (zah 3 t6 t31).bind fun _ =>
 (zab (some 3) t6).bind fun r0 =>
 M.pure (.ret [r0, (V.bool true), (V.bool true)]))
 (M.pure (.nrm [])))) fun _ =>
 (zab (some 3) t3).bind fun t32 =>
 (zab (some 3) t3).bind fun t33 =>
 M.getH.bind fun h0 =>
 (G zbZ [t33, t1]).bind fun t35 =>
 M.getH.bind fun h0' =>
 (M.unch t3 h0 h0').bind fun _ =>
 (zah 3 t6 t32).bind fun _ =>
 (zab (some 3) t6).bind fun r0 =>
 M.pure (.ret [r0, t35, (V.bool false)])
theorem zhq {t0 t1 t2 : V} : OkT zea [t0, t1, t2] (zgU (sem T) t0 t1 t2) := okT (by kernel_rfl) (by kernel_rfl) (by kernel_rfl)
noncomputable def zgd (G : Sem') (t0 : V) : M Res :=
 (mbox zaE t0).bind fun t1 =>
 (M.lift (Ax.faddr 1 t1)).bind fun t3 =>
 (zab none t3).bind fun t4 =>
 (G zcg [t4]).bind fun t5 =>
 (zaa [(0, t5)] (some (0, true)) (M.lift (Ax.faddr 2 t1))).bind fun t7 =>
 (zaa [(0, t5)] (some (0, true)) (zab none t7)).bind fun t8 =>
 (zaa [(0, t5)] (some (0, true)) (G zcg [t8])).bind fun t9 =>
 (M.lift (Ax.pick t5 t9 (V.bool false))).bind fun t10 =>
 (zaa [(0, t10)] (some (0, true)) (M.lift (Ax.faddr 0 t1))).bind fun t12 =>
 (zaa [(0, t10)] (some (0, true)) (zab none t12)).bind fun t13 =>
 (zaa [(0, t10)] (some (0, true)) (M.pure t13)).bind fun t14 =>
 (zaa [(0, t14)] (some (0, false)) (M.lift (Ax.faddr 1 t1))).bind fun t15 =>
 (zaa [(0, t14)] (some (0, false)) (zab none t15)).bind fun t16 =>
 (zaa [(0, t14)] (some (0, false)) (M.lift (Ax.bin .eql t16 (V.int .i64 0)))).bind fun t17 =>
 (zaa [(0, t10)] (some (0, true)) (M.lift (Ax.pick t14 (V.bool true) t17))).bind fun t18 =>
 (M.lift (Ax.pick t10 t18 (V.bool false))).bind fun t19 =>
 M.pure (.ret [t19])
theorem zgL {t0 : V} : OkT zdp [t0] (zgd (sem T) t0) := okT (by kernel_rfl) (by kernel_rfl) (by kernel_rfl)
noncomputable def zfB (G : Sem') (t0 : V) : M Res :=
 (M.lift (Ax.bin .geq t0 (V.int .i64 0))).bind fun t4 =>
 (zaa [(0, t4)] (some (0, true)) (M.pure t0)).bind fun t6 =>
 (zaa [(0, t4)] (some (0, true)) (M.lift (Ax.bin .lss t6 (V.int .i64 3)))).bind fun t7 =>
 (M.lift (Ax.pick t4 t7 (V.bool false))).bind fun t8 =>
 M.pure (.ret [t8])
theorem zgm {t0 : V} : OkT zcg [t0] (zfB (sem T) t0) := okT (by kernel_rfl) (by kernel_rfl) (by kernel_rfl)
noncomputable def zeE (G : Sem') (t0 t1 : V) : M Res :=
 (mbox zaE t0).bind fun t2 =>
 (M.lift (Ax.faddr 0 t2)).bind fun t5 =>
 (zab none t5).bind fun t6 =>
 (zaa [(0, t6)] (some (0, true)) (M.lift (Ax.faddr 1 t2))).bind fun t8 =>
 (zaa [(0, t6)] (some (0, true)) (zab none t8)).bind fun t9 =>
 (zaa [(0, t6)] (some (0, true)) (M.pure t1)).bind fun t10 =>
 (zaa [(0, t6)] (some (0, true)) (M.lift (Ax.bin .eql t9 t10))).bind fun t11 =>
 (M.lift (Ax.pick t6 t11 (V.bool false))).bind fun t12 =>
 M.pure (.ret [t12])
theorem zfJ {t0 t1 : V} : OkT zbZ [t0, t1] (zeE (sem T) t0 t1) := okT (by kernel_rfl) (by kernel_rfl) (by kernel_rfl)
noncomputable def zec (G : Sem') (t0 : V) : M Res :=
 (M.lift (Ax.nilck t0)).bind fun t4 =>
 (M.lift (Ax.faddr 13 t4)).bind fun t5 =>
 (zah 1 t5 V.nils).bind fun _ =>
 (M.lift (Ax.nilck t0)).bind fun t6 =>
 (M.lift (Ax.faddr 15 t6)).bind fun t7 =>
 (zah 1 t7 (V.bool false)).bind fun _ =>
 M.pure (.ret [])
theorem zfs {t0 : V} : OkT zck [t0] (zec (sem T) t0) := okT (by kernel_rfl) (by kernel_rfl) (by kernel_rfl)
noncomputable def zfO (G : Sem') (t0 t1 t2 t3 : V) : M Res :=
 (mbox za5 t0).bind fun t4 =>
 (mbox za5 (V.agg [(V.bool false), (V.int .u16 0), (V.int .u32 0), (V.int .u32 0), (V.int .u16 0), (V.int .u16 0), (V.int .i64 0)])).bind fun t8 =>
 (M.lift (Ax.faddr 3 t4)).bind fun t9 =>
 (zah 1 t9 (V.int .u32 0)).bind fun _ =>
 (M.lift (Ax.faddr 5 t4)).bind fun t10 =>
 (zah 1 t10 (V.int .u16 0)).bind fun _ =>
 (M.lift (Ax.faddr 0 t4)).bind fun t11 =>
 (zab none t11).bind fun t12 =>
 M.join (M.ite t12
 ((M.lift (Ax.faddr 2 t4)).bind fun t13 =>
 (zab none t13).bind fun t14 =>
 (M.lift (Ax.faddr 6 t4)).bind fun t15 =>
 (zab none t15).bind fun t16 =>
 M.getH.bind fun h0 =>
 (G zdJ [t16, t3]).bind fun t18 =>
 M.getH.bind fun h0' =>
 (M.unch t13 h0 h0').bind fun _ =>
 (M.lift (Ax.bin .mul (V.int .u32 90) t18)).bind fun t19 =>
 (M.lift (Ax.bin .add t14 t19)).bind fun t20 =>
 (M.lift (Ax.bin .sub t20 t1)).bind fun t22 =>
 (M.lift (Ax.faddr 3 t4)).bind fun t23 =>
 (zah 1 t23 t22).bind fun _ =>
 (M.lift (Ax.faddr 4 t4)).bind fun t24 =>
 (zab none t24).bind fun t25 =>
 (M.lift (Ax.bin .add t25 (V.int .u16 1))).bind fun t26 =>
 (M.lift (Ax.bin .sub t26 t2)).bind fun t28 =>
 (M.lift (Ax.faddr 5 t4)).bind fun t29 =>
 (zah 1 t29 t28).bind fun _ =>
 M.pure (.nrm []))
 (M.pure (.nrm []))) fun _ =>
 (zab (some 7) t4).bind fun t30 =>
 (zah 7 t8 t30).bind fun _ =>
 (zab (some 7) t8).bind fun r0 =>
 M.pure (.ret [r0])
theorem zgA {t0 t1 t2 t3 : V} : OkT zcX [t0, t1, t2, t3] (zfO (sem T) t0 t1 t2 t3) := okT (by kernel_rfl) (by kernel_rfl) (by kernel_rfl)
noncomputable def zfN (G : Sem') (t0 t1 : V) : M Res :=
 (M.lift (Ax.bin .leq t1 t0)).bind fun t7 =>
 M.ite t7
 (M.pure (.ret [(V.int .u32 1)]))
 ((M.lift (Ax.cint .u64 t1)).bind fun t9 =>
 (M.lift (Ax.cint .u64 t0)).bind fun t11 =>
 (M.lift (Ax.bin .sub t9 t11)).bind fun t12 =>
 (M.lift (Ax.minmax false t12 [(V.int .u64 100000)])).bind fun t13 =>
 (M.lift (Ax.cint .u32 t13)).bind fun t14 =>
 M.pure (.ret [t14]))
theorem zgz {t0 t1 : V} : OkT zdJ [t0, t1] (zfN (sem T) t0 t1) := okT (by kernel_rfl) (by kernel_rfl) (by kernel_rfl)
noncomputable def ze1 (G : Sem') (t0 t1 t2 t3 : V) : M Res :=
 (mbox zal t1).bind fun t5 =>
 (mbox zag t2).bind fun t6 =>
 (M.lift (Ax.nilck t0)).bind fun t12 =>
 (M.lift (Ax.faddr 15 t12)).bind fun t13 =>
 (zab none t13).bind fun t14 =>
 M.ite t14
 (M.pure (.ret [(V.int .i64 2)]))
 ((zab (some 6) t6).bind fun t16 =>
 (M.lift (Ax.nilck t0)).bind fun t19 =>
 (M.lift (Ax.faddr 1 t19)).bind fun t20 =>
 (zab none t20).bind fun t21 =>
 (M.lift (Ax.nilck t0)).bind fun t23 =>
 (M.lift (Ax.faddr 2 t23)).bind fun t24 =>
 (zab none t24).bind fun t25 =>
 (G zd1 [t16, t3, t21, t25]).bind fun t26 =>
 (M.lift (Ax.ext 0 t26)).bind fun t27 =>
 (M.lift (Ax.ext 1 t26)).bind fun t28 =>
 M.blk 0 (
 (M.lift (Ax.un .not t28)).bind fun t31 =>
 M.ite t31
 (M.pure (.ret [(V.int .i64 3)]))
 ((zab (some 19) t5).bind fun t33 =>
 (G zfc [t33, t27]).bind fun t35 =>
 (M.lift (Ax.un .not t35)).bind fun t36 =>
 M.ite t36
 (M.pure (.ret [(V.int .i64 4)]))
 ((M.lift (Ax.faddr 0 t5)).bind fun t38 =>
 (zab none t38).bind fun t39 =>
 (zaa [(0, t39)] (some (0, true)) (M.pure t0)).bind fun t41 =>
 (zaa [(0, t39)] (some (0, true)) (M.lift (Ax.nilck t41))).bind fun t42 =>
 (zaa [(0, t39)] (some (0, true)) (M.lift (Ax.faddr 13 t42))).bind fun t43 =>
 (zaa [(0, t39)] (some (0, true)) (zab none t43)).bind fun t44 =>
 (zaa [(0, t39)] (some (0, true)) (M.lift (Ax.faddr 3 t5))).bind fun t45 =>
 (zaa [(0, t39)] (some (0, true)) (zab none t45)).bind fun t46 =>
 (zaa [(0, t39)] (some (0, true)) (M.lift (Ax.faddr 17 t5))).bind fun t47 =>
 (zaa [(0, t39)] (some (0, true)) (zab none t47)).bind fun t48 =>
 (zaa [(0, t39)] (some (0, true)) (G zew [t44, t46, t48])).bind fun t49 =>
 (zaa [(0, t39)] (some (0, true)) (M.lift (Ax.un .not t49))).bind fun t50 =>
 (M.lift (Ax.pick t39 t50 (V.bool false))).bind fun t51 =>
 M.ite t51
 ((M.lift (Ax.nilck t0)).bind fun t53 =>
 (M.lift (Ax.faddr 15 t53)).bind fun t54 =>
 (zah 1 t54 (V.bool true)).bind fun _ =>
 M.pure (.ret [(V.int .i64 5)]))
 ((M.lift (Ax.faddr 0 t5)).bind fun t56 =>
 (zab none t56).bind fun t57 =>
 (M.lift (Ax.un .not t57)).bind fun t58 =>
 (zaa [(0, t58)] (some (0, true)) (M.pure t0)).bind fun t60 =>
 (zaa [(0, t58)] (some (0, true)) (M.lift (Ax.nilck t60))).bind fun t61 =>
 (zaa [(0, t58)] (some (0, true)) (M.lift (Ax.faddr 13 t61))).bind fun t62 =>
 (zaa [(0, t58)] (some (0, true)) (zab none t62)).bind fun t63 =>
 (zaa [(0, t58)] (some (0, true)) (M.lift (Ax.faddr 3 t5))).bind fun t64 =>
 (zaa [(0, t58)] (some (0, true)) (zab none t64)).bind fun t65 =>
 (zaa [(0, t58)] (some (0, true)) (G zdS [t63, t65])).bind fun t66 =>
 (zaa [(0, t58)] (some (0, true)) (M.lift (Ax.un .not t66))).bind fun t67 =>
 (M.lift (Ax.pick t58 t67 (V.bool false))).bind fun t68 =>
 M.ite t68
 (M.pure (.ret [(V.int .i64 6)]))
 (M.pure (.nrm [])))))) fun _ =>
 M.pure (.ret [(V.int .i64 0)]))
theorem zfT {t0 t1 t2 t3 : V} : OkT zcL [t0, t1, t2, t3] (ze1 (sem T) t0 t1 t2 t3) := okT (by kernel_rfl) (by kernel_rfl) (by kernel_rfl)
noncomputable def zdM (G : Sem') (t22 t4 t1 t2 t3 t8 t9 : V) (L : List V) : M Res :=
 (M.lift (Ax.bin .lss (L.getD 4 .undef) t22)).bind fun t24 =>
 M.ite t24
 (M.blk 1 (
 (zab (some 6) t4).bind fun t27 =>
 (G zcQ [t27, (L.getD 4 .undef)]).bind fun t29 =>
 (M.lift (Ax.ext 0 t29)).bind fun t30 =>
 (M.lift (Ax.ext 1 t29)).bind fun t31 =>
 (M.lift (Ax.ext 2 t29)).bind fun t32 =>
 (M.lift (Ax.un .not t32)).bind fun t34 =>
 (zaa [(0, t34)] (some (0, false)) (M.pure t1)).bind fun t36 =>
 (zaa [(0, t34)] (some (0, false)) (M.pure (L.getD 4 .undef))).bind fun t37 =>
 (zaa [(0, t34)] (some (0, false)) (M.lift (Ax.bin .shr t36 t37))).bind fun t38 =>
 (zaa [(0, t34)] (some (0, false)) (M.lift (Ax.bin .and t38 (V.int .u32 1)))).bind fun t39 =>
 (zaa [(0, t34)] (some (0, false)) (M.lift (Ax.bin .eql t39 (V.int .u32 0)))).bind fun t40 =>
 (M.lift (Ax.pick t34 (V.bool true) t40)).bind fun t41 =>
 (zaa [(0, t41)] (some (0, false)) (M.pure t30)).bind fun t43 =>
 (zaa [(0, t41)] (some (0, false)) (M.pure t2)).bind fun t44 =>
 (zaa [(0, t41)] (some (0, false)) (M.lift (Ax.bin .gtr t43 t44))).bind fun t45 =>
 (M.lift (Ax.pick t41 (V.bool true) t45)).bind fun t46 =>
 (zaa [(0, t46)] (some (0, false)) (M.pure t31)).bind fun t48 =>
 (zaa [(0, t46)] (some (0, false)) (M.pure t3)).bind fun t49 =>
 (zaa [(0, t46)] (some (0, false)) (M.lift (Ax.bin .gtr t48 t49))).bind fun t50 =>
 (M.lift (Ax.pick t46 (V.bool true) t50)).bind fun t51 =>
 M.ite t51
 (M.pure (.ex 1 [(L.getD 0 .undef), (L.getD 1 .undef), (L.getD 2 .undef), (L.getD 3 .undef)]))
 ((M.lift (Ax.un .not (L.getD 3 .undef))).bind fun t53 =>
 (zaa [(0, t53)] (some (0, false)) (M.pure t30)).bind fun t55 =>
 (zaa [(0, t53)] (some (0, false)) (M.pure (L.getD 1 .undef))).bind fun t56 =>
 (zaa [(0, t53)] (some (0, false)) (M.lift (Ax.bin .gtr t55 t56))).bind fun t57 =>
 (M.lift (Ax.pick t53 (V.bool true) t57)).bind fun t58 =>
 (zaa [(0, t58)] (some (0, false)) (M.pure t30)).bind fun t60 =>
 (zaa [(0, t58)] (some (0, false)) (M.pure (L.getD 1 .undef))).bind fun t61 =>
 (zaa [(0, t58)] (some (0, false)) (M.lift (Ax.bin .eql t60 t61))).bind fun t62 =>
 (zaa [(0, t58)] (some (0, false)) (M.pure t62)).bind fun t63 =>
 (zaa [(0, t63)] (some (0, true)) (M.pure t31)).bind fun t64 =>
 (zaa [(0, t63)] (some (0, true)) (M.pure (L.getD 2 .undef))).bind fun t65 =>
 (zaa [(0, t63)] (some (0, true)) (M.lift (Ax.bin .gtr t64 t65))).bind fun t66 =>
 (zaa [(0, t58)] (some (0, false)) (M.lift (Ax.pick t63 t66 (V.bool false)))).bind fun t67 =>
 (M.lift (Ax.pick t58 (V.bool true) t67)).bind fun t68 =>
 M.join (M.ite t68
 (M.pure (.nrm [(L.getD 4 .undef), t30, t31, (V.bool true)]))
 (M.pure (.nrm [(L.getD 0 .undef), (L.getD 1 .undef), (L.getD 2 .undef), (L.getD 3 .undef)]))) fun L0 =>
 M.pure (.nrm [(L0.getD 0 .undef), (L0.getD 1 .undef), (L0.getD 2 .undef), (L0.getD 3 .undef)]))) fun L1 =>
 (M.lift (Ax.bin .add (L.getD 4 .undef) (V.int .i64 1))).bind fun t72 =>
 M.pure (.nrm [(L1.getD 0 .undef), (L1.getD 1 .undef), (L1.getD 2 .undef), (L1.getD 3 .undef), t72]))
 (M.pure (.ex 0 [(L.getD 0 .undef), (L.getD 3 .undef)]))
noncomputable def zgb (G : Sem') (t0 t1 t2 t3 : V) : M Res :=
 (mbox zag t0).bind fun t4 =>
 (zab (some 6) t4).bind fun t18 =>
 (G zcf [t18]).bind fun t19 =>
 (M.lift (Ax.un .not t19)).bind fun t20 =>
 M.ite t20
 (M.pure (.ret [(V.int .i64 0), (V.bool false)]))
 ((M.lift (Ax.faddr 1 t4)).bind fun t21 =>
 (zab none t21).bind fun t22 =>
 M.blk 0 (
 M.iter (zdM G t22 t4 t1 t2 t3 (V.int .i64 0) (V.bool false)) [(V.int .i64 0), (V.int .i64 0), (V.int .i64 0), (V.bool false), (V.int .i64 0)]) fun L2 =>
 M.pure (.ret [(L2.getD 0 .undef), (L2.getD 1 .undef)]))
theorem zgI {t0 t1 t2 t3 : V} : OkT zd1 [t0, t1, t2, t3] (zgb (sem T) t0 t1 t2 t3) := okT (by kernel_rfl) (by kernel_rfl) (by kernel_rfl)
noncomputable def zdh (G : Sem') (t24 t23 t1 : V) (L : List V) : M Res :=
 (M.lift (Ax.bin .lss (L.getD 3 .undef) t24)).bind fun t26 =>
 M.ite t26
 (M.blk 1 (
 (M.lift (Ax.iaddr none 5 t23 (L.getD 3 .undef))).bind fun t27 =>
 (zab (some 5) t27).bind fun t28 =>
 (mbox zak (V.agg [(V.int .i64 0), (V.int .i64 0), V.nils, V.nils, V.nils])).bind fun t8 =>
 (zah 5 t8 t28).bind fun _ =>
 (M.lift (Ax.faddr 2 t8)).bind fun t29 =>
 (zab none t29).bind fun t30 =>
 (M.lift (Ax.iaddr none 1 t30 t1)).bind fun t32 =>
 (zab none t32).bind fun t33 =>
 (M.lift (Ax.bin .neq t33 (V.int .i64 0))).bind fun t34 =>
 M.join (M.ite t34
 ((M.lift (Ax.faddr 0 t8)).bind fun t36 =>
 (zab none t36).bind fun t37 =>
 (M.lift (Ax.minmax true (L.getD 0 .undef) [t37])).bind fun t38 =>
 (M.lift (Ax.faddr 1 t8)).bind fun t40 =>
 (zab none t40).bind fun t41 =>
 (M.lift (Ax.minmax true (L.getD 1 .undef) [t41])).bind fun t42 =>
 M.pure (.nrm [t38, t42, (V.bool true)]))
 (M.pure (.nrm [(L.getD 0 .undef), (L.getD 1 .undef), (L.getD 2 .undef)]))) fun L0 =>
 M.pure (.nrm [(L0.getD 0 .undef), (L0.getD 1 .undef), (L0.getD 2 .undef)])) fun L1 =>
 (M.lift (Ax.bin .add (L.getD 3 .undef) (V.int .i64 1))).bind fun t43 =>
 M.pure (.nrm [(L1.getD 0 .undef), (L1.getD 1 .undef), (L1.getD 2 .undef), t43]))
 (M.pure (.ex 0 [(L.getD 0 .undef), (L.getD 1 .undef), (L.getD 2 .undef)]))
noncomputable def ze7 (G : Sem') (t0 t1 : V) : M Res :=
 (mbox zag t0).bind fun t2 =>
 (zab (some 6) t2).bind fun t9 =>
 (G zcf [t9]).bind fun t10 =>
 (M.lift (Ax.un .not t10)).bind fun t11 =>
 (zaa [(0, t11)] (some (0, false)) (M.pure t1)).bind fun t13 =>
 (zaa [(0, t11)] (some (0, false)) (M.lift (Ax.bin .lss t13 (V.int .i64 0)))).bind fun t14 =>
 (M.lift (Ax.pick t11 (V.bool true) t14)).bind fun t15 =>
 (zaa [(0, t15)] (some (0, false)) (M.pure t1)).bind fun t17 =>
 (zaa [(0, t15)] (some (0, false)) (M.lift (Ax.faddr 1 t2))).bind fun t18 =>
 (zaa [(0, t15)] (some (0, false)) (zab none t18)).bind fun t19 =>
 (zaa [(0, t15)] (some (0, false)) (M.lift (Ax.bin .geq t17 t19))).bind fun t20 =>
 (M.lift (Ax.pick t15 (V.bool true) t20)).bind fun t21 =>
 M.ite t21
 (M.pure (.ret [(V.int .i64 0), (V.int .i64 0), (V.bool false)]))
 ((M.lift (Ax.faddr 2 t2)).bind fun t22 =>
 (zab none t22).bind fun t23 =>
 (M.lift (vlen t23)).bind fun t24 =>
 M.blk 0 (
 M.iter (zdh G t24 t23 t1) [(V.int .i64 0), (V.int .i64 0), (V.bool false), (V.int .i64 0)]) fun L2 =>
 M.pure (.ret [(L2.getD 0 .undef), (L2.getD 1 .undef), (L2.getD 2 .undef)]))
theorem zfZ {t0 t1 : V} : OkT zcQ [t0, t1] (ze7 (sem T) t0 t1) := okT (by kernel_rfl) (by kernel_rfl) (by kernel_rfl)
noncomputable def zgT (G : Sem') (t0 t1 : V) : M Res :=
 (mbox zal t0).bind fun t2 =>
 (M.lift (Ax.bin .geq t1 (V.int .i64 0))).bind fun t6 =>
 (zaa [(0, t6)] (some (0, true)) (M.pure t1)).bind fun t8 =>
 (zaa [(0, t6)] (some (0, true)) (M.lift (Ax.faddr 16 t2))).bind fun t9 =>
 (zaa [(0, t6)] (some (0, true)) (zab none t9)).bind fun t10 =>
 (zaa [(0, t6)] (some (0, true)) (M.lift (vlen t10))).bind fun t11 =>
 (zaa [(0, t6)] (some (0, true)) (M.lift (Ax.bin .lss t8 t11))).bind fun t12 =>
 (M.lift (Ax.pick t6 t12 (V.bool false))).bind fun t13 =>
 (zaa [(0, t13)] (some (0, true)) (M.lift (Ax.faddr 16 t2))).bind fun t15 =>
 (zaa [(0, t13)] (some (0, true)) (zab none t15)).bind fun t16 =>
 (zaa [(0, t13)] (some (0, true)) (M.pure t1)).bind fun t17 =>
 (zaa [(0, t13)] (some (0, true)) (M.lift (Ax.iaddr none 1 t16 t17))).bind fun t18 =>
 (zaa [(0, t13)] (some (0, true)) (zab none t18)).bind fun t19 =>
 (zaa [(0, t13)] (some (0, true)) (M.lift (Ax.bin .neq t19 (V.int .i64 0)))).bind fun t20 =>
 (M.lift (Ax.pick t13 t20 (V.bool false))).bind fun t21 =>
 M.pure (.ret [t21])
theorem zhp {t0 t1 : V} : OkT zfc [t0, t1] (zgT (sem T) t0 t1) := okT (by kernel_rfl) (by kernel_rfl) (by kernel_rfl)
noncomputable def zeZ (G : Sem') (t10 t9 t0 t1 : V) (L : List V) : M Res :=
 (M.lift (Ax.bin .lss (L.getD 0 .undef) t10)).bind fun t12 =>
 M.ite t12
 (M.blk 1 (
 (M.lift (Ax.iaddr none 1 t9 (L.getD 0 .undef))).bind fun t13 =>
 (zab none t13).bind fun t14 =>
 (M.lift (Ax.bin .lss t14 (V.int .i64 1))).bind fun t16 =>
 (zaa [(0, t16)] (some (0, false)) (M.pure t14)).bind fun t18 =>
 (zaa [(0, t16)] (some (0, false)) (M.lift (Ax.bin .gtr t18 (V.int .i64 4096)))).bind fun t19 =>
 (M.lift (Ax.pick t16 (V.bool true) t19)).bind fun t20 =>
 (zaa [(0, t20)] (some (0, false)) (M.pure t0)).bind fun t22 =>
 (zaa [(0, t20)] (some (0, false)) (M.pure t1)).bind fun t23 =>
 (zaa [(0, t20)] (some (0, false)) (M.pure t14)).bind fun t24 =>
 (zaa [(0, t20)] (some (0, false)) (M.lift (Ax.cint .u16 t24))).bind fun t25 =>
 (zaa [(0, t20)] (some (0, false)) (M.lift (Ax.bin .sub t23 t25))).bind fun t26 =>
 (zaa [(0, t20)] (some (0, false)) (G zdS [t22, t26])).bind fun t27 =>
 (zaa [(0, t20)] (some (0, false)) (M.lift (Ax.un .not t27))).bind fun t28 =>
 (M.lift (Ax.pick t20 (V.bool true) t28)).bind fun t29 =>
 M.ite t29
 (M.pure (.ret [(V.bool false)]))
 (M.pure (.nrm []))) fun _ =>
 (M.lift (Ax.bin .add (L.getD 0 .undef) (V.int .i64 1))).bind fun t30 =>
 M.pure (.nrm [t30]))
 (M.pure (.ex 0 []))
noncomputable def zgt (G : Sem') (t0 t1 t2 : V) : M Res :=
 (M.lift (vlen t2)).bind fun t10 =>
 M.blk 0 (
 M.iter (zeZ G t10 t2 t0 t1) [(V.int .i64 0)]) fun _ =>
 M.pure (.ret [(V.bool true)])
theorem zg3 {t0 t1 t2 : V} : OkT zew [t0, t1, t2] (zgt (sem T) t0 t1 t2) := okT (by kernel_rfl) (by kernel_rfl) (by kernel_rfl)
noncomputable def zgs (G : Sem') (t0 t1 : V) : M Res :=
 (G zaQ [t0, t1]).bind fun t7 =>
 M.pure (.ret [t7])
theorem zg2 {t0 t1 : V} : OkT zdS [t0, t1] (zgs (sem T) t0 t1) := okT (by kernel_rfl) (by kernel_rfl) (by kernel_rfl)
noncomputable def zb1 (G : Sem') (t0 t1 : V) : M Res :=
 (G zbc [t0, t1]).bind fun t7 =>
 (M.lift (Ax.bin .geq t7 (V.int .i64 0))).bind fun t8 =>
 M.pure (.ret [t8])
theorem zc6 {t0 t1 : V} : OkT zaQ [t0, t1] (zb1 (sem T) t0 t1) := okT (by kernel_rfl) (by kernel_rfl) (by kernel_rfl)
noncomputable def zbr (G : Sem') (t7 t1 t0 : V) (L : List V) : M Res :=
 (M.lift (Ax.bin .lss (L.getD 0 .undef) t7)).bind fun t9 =>
 M.ite t9
 (M.blk 1 (
 (M.lift (Ax.iaddr none 1 t0 (L.getD 0 .undef))).bind fun t14 =>
 (zab none t14).bind fun t15 =>
 (M.lift (Ax.bin .eql t1 t15)).bind fun t16 =>
 M.ite t16
 (M.pure (.ret [(L.getD 0 .undef)]))
 (M.pure (.nrm []))) fun _ =>
 (M.lift (Ax.bin .add (L.getD 0 .undef) (V.int .i64 1))).bind fun t18 =>
 M.pure (.nrm [t18]))
 (M.pure (.ex 0 []))
noncomputable def zcn (G : Sem') (t0 t1 : V) : M Res :=
 (M.lift (vlen t0)).bind fun t7 =>
 M.blk 0 (
 M.iter (zbr G t7 t1 t0) [(V.int .i64 0)]) fun _ =>
 M.pure (.ret [(V.int .i64 (-1))])
theorem zdw {t0 t1 : V} : OkT zbc [t0, t1] (zcn (sem T) t0 t1) := okT (by kernel_rfl) (by kernel_rfl) (by kernel_rfl)
noncomputable def ze0 (G : Sem') (t5 t4 : V) (L : List V) : M Res :=
 (M.lift (Ax.bin .geq (L.getD 1 .undef) (V.int .i64 0))).bind fun t17 =>
 (zaa [(0, t17)] (some (0, true)) (M.pure (L.getD 0 .undef))).bind fun t19 =>
 (zaa [(0, t17)] (some (0, true)) (M.lift (vlen t19))).bind fun t20 =>
 (zaa [(0, t17)] (some (0, true)) (M.lift (Ax.bin .lss t20 (V.int .i64 256)))).bind fun t21 =>
 (M.lift (Ax.pick t17 t21 (V.bool false))).bind fun t22 =>
 M.ite t22
 (M.blk 1 (
 (M.lift (Ax.iaddr none 1 t5 (L.getD 1 .undef))).bind fun t28 =>
 (zab none t28).bind fun t29 =>
 (G zaQ [(L.getD 0 .undef), t29]).bind fun t30 =>
 (M.lift (Ax.un .not t30)).bind fun t31 =>
 M.join (M.ite t31
 ((M.lift (Ax.iaddr none 1 t5 (L.getD 1 .undef))).bind fun t35 =>
 (zab none t35).bind fun t36 =>
 (mslit za9 1 [(V.int .u16 0)] [(0, 1, t36)]).bind fun t37 =>
 (mappend za9 1 2 (L.getD 0 .undef) t37).bind fun t38 =>
 M.pure (.nrm [t38]))
 (M.pure (.nrm [(L.getD 0 .undef)]))) fun L0 =>
 M.pure (.nrm [(L0.getD 0 .undef)])) fun L1 =>
 (M.lift (Ax.bin .sub (L.getD 1 .undef) (V.int .i64 1))).bind fun t24 =>
 M.pure (.nrm [(L1.getD 0 .undef), t24]))
 (M.pure (.ex 0 [(L.getD 0 .undef)]))
noncomputable def zgu (G : Sem') (t0 t1 : V) : M Res :=
 (G zbe [t0]).bind fun t9 =>
 (mslit za9 1 [(V.int .u16 0)] [(0, 1, t1)]).bind fun t11 =>
 (mappend za9 1 2 t9 t11).bind fun t12 =>
 (M.lift (vlen t12)).bind fun t14 =>
 (M.lift (Ax.bin .sub t14 (V.int .i64 1))).bind fun t15 =>
 M.blk 0 (
 M.iter (ze0 G t12 V.nils) [V.nils, t15]) fun L2 =>
 (G za0 [(L2.getD 0 .undef)]).bind fun t40 =>
 M.pure (.ret [(L2.getD 0 .undef)])
theorem zg4 {t0 t1 : V} : OkT zex [t0, t1] (zgu (sem T) t0 t1) := okT (by kernel_rfl) (by kernel_rfl) (by kernel_rfl)
noncomputable def zcp (G : Sem') (t0 : V) : M Res :=
 (M.lift (eqr .sl false t0 V.nils)).bind fun t4 =>
 M.ite t4
 (M.pure (.ret [V.nils]))
 ((mslit za9 0 [(V.int .u16 0)] []).bind fun t5 =>
 (mappend za9 1 2 t5 t0).bind fun t7 =>
 M.pure (.ret [t7]))
theorem zdy {t0 : V} : OkT zbe [t0] (zcp (sem T) t0) := okT (by kernel_rfl) (by kernel_rfl) (by kernel_rfl)
noncomputable def zbX (G : Sem') (t0 : V) (L : List V) : M Res :=
 (M.lift (Ax.bin .lss (L.getD 0 .undef) (L.getD 1 .undef))).bind fun t9 =>
 M.ite t9
 (M.blk 1 (
 (M.lift (Ax.iaddr none 1 t0 (L.getD 1 .undef))).bind fun t20 =>
 (zab none t20).bind fun t21 =>
 (M.lift (Ax.iaddr none 1 t0 (L.getD 0 .undef))).bind fun t24 =>
 (zab none t24).bind fun t25 =>
 (M.lift (Ax.iaddr none 1 t0 (L.getD 0 .undef))).bind fun t26 =>
 (zah 1 t26 t21).bind fun _ =>
 (M.lift (Ax.iaddr none 1 t0 (L.getD 1 .undef))).bind fun t27 =>
 (zah 1 t27 t25).bind fun _ =>
 M.pure (.nrm [])) fun _ =>
 (M.lift (Ax.bin .add (L.getD 0 .undef) (V.int .i64 1))).bind fun t11 =>
 (M.lift (Ax.bin .sub (L.getD 1 .undef) (V.int .i64 1))).bind fun t13 =>
 M.pure (.nrm [t11, t13]))
 (M.pure (.ex 0 []))
noncomputable def zb7 (G : Sem') (t0 : V) : M Res :=
 (M.lift (vlen t0)).bind fun t5 =>
 (M.lift (Ax.bin .sub t5 (V.int .i64 1))).bind fun t6 =>
 M.blk 0 (
 M.iter (zbX G t0) [(V.int .i64 0), t6]) fun _ =>
 M.pure (.ret [])
theorem zde {t0 : V} : OkT za0 [t0] (zb7 (sem T) t0) := okT (by kernel_rfl) (by kernel_rfl) (by kernel_rfl)
noncomputable def zgn (G : Sem') (t0 t1 t2 t3 : V) : M Res :=
 (mbox za5 t0).bind fun t4 =>
 (mbox za5 (V.agg [(V.bool false), (V.int .u16 0), (V.int .u32 0), (V.int .u32 0), (V.int .u16 0), (V.int .u16 0), (V.int .i64 0)])).bind fun t8 =>
 (M.lift (Ax.faddr 0 t4)).bind fun t14 =>
 (zab none t14).bind fun t15 =>
 M.join (M.ite t15
 ((M.lift (Ax.faddr 1 t4)).bind fun t16 =>
 (zab none t16).bind fun t17 =>
 (M.lift (Ax.bin .add t17 (V.int .u16 1))).bind fun t18 =>
 M.pure (.nrm [t18]))
 (M.pure (.nrm [(V.int .u16 0)]))) fun L0 =>
 (M.lift (Ax.faddr 3 t4)).bind fun t20 =>
 (zab none t20).bind fun t21 =>
 (M.lift (Ax.bin .add t1 t21)).bind fun t22 =>
 (M.lift (Ax.faddr 5 t4)).bind fun t24 =>
 (zab none t24).bind fun t25 =>
 (M.lift (Ax.bin .add t2 t25)).bind fun t26 =>
 (M.lift (Ax.faddr 2 t4)).bind fun t28 =>
 (zab none t28).bind fun t29 =>
 (M.lift (Ax.bin .sub t22 t29)).bind fun t30 =>
 (M.lift (Ax.faddr 0 t4)).bind fun t31 =>
 (zab none t31).bind fun t32 =>
 (M.lift (Ax.un .not t32)).bind fun t33 =>
 (zaa [(0, t33)] (some (0, false)) (M.pure t30)).bind fun t35 =>
 (zaa [(0, t33)] (some (0, false)) (M.lift (Ax.bin .geq t35 (V.int .u32 1)))).bind fun t36 =>
 (zaa [(0, t33)] (some (0, false)) (M.pure t36)).bind fun t37 =>
 (zaa [(0, t37)] (some (0, true)) (M.pure t30)).bind fun t38 =>
 (zaa [(0, t37)] (some (0, true)) (M.lift (Ax.bin .lss t38 (V.int .u32 2147483648)))).bind fun t39 =>
 (zaa [(0, t33)] (some (0, false)) (M.lift (Ax.pick t37 t39 (V.bool false)))).bind fun t40 =>
 (M.lift (Ax.pick t33 (V.bool true) t40)).bind fun t41 =>
 M.join (M.ite t41
 ((M.lift (Ax.faddr 2 t4)).bind fun t43 =>
 (zah 1 t43 t22).bind fun _ =>
 M.pure (.nrm []))
 (M.pure (.nrm []))) fun _ =>
 (M.lift (Ax.faddr 4 t4)).bind fun t45 =>
 (zab none t45).bind fun t46 =>
 (M.lift (Ax.bin .sub t26 t46)).bind fun t47 =>
 (M.lift (Ax.faddr 0 t4)).bind fun t48 =>
 (zab none t48).bind fun t49 =>
 (M.lift (Ax.un .not t49)).bind fun t50 =>
 (zaa [(0, t50)] (some (0, false)) (M.pure t47)).bind fun t52 =>
 (zaa [(0, t50)] (some (0, false)) (M.lift (Ax.bin .geq t52 (V.int .u16 1)))).bind fun t53 =>
 (zaa [(0, t50)] (some (0, false)) (M.pure t53)).bind fun t54 =>
 (zaa [(0, t54)] (some (0, true)) (M.pure t47)).bind fun t55 =>
 (zaa [(0, t54)] (some (0, true)) (M.lift (Ax.bin .lss t55 (V.int .u16 32768)))).bind fun t56 =>
 (zaa [(0, t50)] (some (0, false)) (M.lift (Ax.pick t54 t56 (V.bool false)))).bind fun t57 =>
 (M.lift (Ax.pick t50 (V.bool true) t57)).bind fun t58 =>
 M.join (M.ite t58
 ((M.lift (Ax.faddr 4 t4)).bind fun t60 =>
 (zah 1 t60 t26).bind fun _ =>
 M.pure (.nrm []))
 (M.pure (.nrm []))) fun _ =>
 (M.lift (Ax.faddr 0 t4)).bind fun t63 =>
 (zah 1 t63 (V.bool true)).bind fun _ =>
 (M.lift (Ax.faddr 1 t4)).bind fun t64 =>
 (zah 1 t64 (L0.getD 0 .undef)).bind fun _ =>
 (M.lift (Ax.faddr 6 t4)).bind fun t65 =>
 (zah 1 t65 t3).bind fun _ =>
 (zab (some 7) t4).bind fun t66 =>
 (zah 7 t8 t66).bind fun _ =>
 (zab (some 7) t8).bind fun r0 =>
 M.pure (.ret [r0, (L0.getD 0 .undef), t22, t26])
theorem zgX {t0 t1 t2 t3 : V} : OkT zdR [t0, t1, t2, t3] (zgn (sem T) t0 t1 t2 t3) := okT (by kernel_rfl) (by kernel_rfl) (by kernel_rfl)
end Go.Ax
/- FnD4 -/
namespace Go.Ax
open Go.Proofs
noncomputable def ze6 (G : Sem') (t0 t1 : V) : M Res :=
 (G zbf [t0]).bind fun t7 =>
 (M.lift (vlen t7)).bind fun t9 =>
 (M.lift (Ax.bin .geq t9 (V.int .i64 3))).bind fun t10 =>
 M.join (M.ite t10
 ((M.lift (Ax.bin .shr t1 (V.int .u64 8))).bind fun t14 =>
 (M.lift (Ax.cint .u8 t14)).bind fun t15 =>
 (M.lift (Ax.cint .u8 t1)).bind fun t17 =>
 (M.lift (Ax.iaddr none 1 t7 (V.int .i64 1))).bind fun t18 =>
 (zah 1 t18 t15).bind fun _ =>
 (M.lift (Ax.iaddr none 1 t7 (V.int .i64 2))).bind fun t19 =>
 (zah 1 t19 t17).bind fun _ =>
 M.pure (.nrm []))
 (M.pure (.nrm []))) fun _ =>
 M.pure (.ret [t7])
theorem zfY {t0 t1 : V} : OkT zcP [t0, t1] (ze6 (sem T) t0 t1) := okT (by kernel_rfl) (by kernel_rfl) (by kernel_rfl)
noncomputable def zgS (G : Sem') (t0 t1 t2 : V) : M Res :=
 (mbox zam t0).bind fun t3 =>
 (mbox zam (V.agg [(V.bool false), (V.int .i64 0), (V.int .u16 0), (V.int .u32 0), (V.int .u32 0), V.nils, (V.int .i64 0), V.nils, (V.int .i64 0), V.nils])).bind fun t6 =>
 (zab (some 10) t3).bind fun t9 =>
 (G zdK [t9]).bind fun t10 =>
 (zah 10 t3 t10).bind fun _ =>
 (zab (some 10) t3).bind fun t11 =>
 (G zeU [t11, t1]).bind fun t13 =>
 (M.lift (Ax.bin .lss t13 (V.int .i64 0))).bind fun t15 =>
 M.ite t15
 ((zab (some 10) t3).bind fun t16 =>
 (zah 10 t6 t16).bind fun _ =>
 (zab (some 10) t6).bind fun r0 =>
 M.pure (.ret [r0, (V.bool false)]))
 ((M.lift (Ax.faddr 7 t3)).bind fun t17 =>
 (zab none t17).bind fun t18 =>
 M.getH.bind fun h0 =>
 (G zbf [t2]).bind fun t21 =>
 M.getH.bind fun h0' =>
 (M.unch t17 h0 h0').bind fun _ =>
 (M.lift (Ax.iaddr none 2 t18 t13)).bind fun t22 =>
 (M.lift (Ax.faddr 1 t22)).bind fun t23 =>
 (zah 1 t23 t21).bind fun _ =>
 (zab (some 10) t3).bind fun t24 =>
 (zah 10 t6 t24).bind fun _ =>
 (zab (some 10) t6).bind fun r0 =>
 M.pure (.ret [r0, (V.bool true)]))
theorem zho {t0 t1 t2 : V} : OkT zfb [t0, t1, t2] (zgS (sem T) t0 t1 t2) := okT (by kernel_rfl) (by kernel_rfl) (by kernel_rfl)
noncomputable def zd7 (G : Sem') (t18 t1 t2 : V) (L : List V) : M Res :=
 (M.lift (Ax.bin .lss (L.getD 0 .undef) t18)).bind fun t20 =>
 M.ite t20
 (M.blk 1 (
 (M.lift (Ax.faddr 7 t1)).bind fun t22 =>
 (zab none t22).bind fun t23 =>
 (M.lift (Ax.faddr 7 t1)).bind fun t25 =>
 (zab none t25).bind fun t26 =>
 (M.lift (Ax.iaddr none 2 t26 (L.getD 0 .undef))).bind fun t28 =>
 (M.lift (Ax.faddr 1 t28)).bind fun t29 =>
 (zab none t29).bind fun t30 =>
 M.getH.bind fun h2 =>
 (G zbf [t30]).bind fun t31 =>
 M.getH.bind fun h2' =>
 (M.unch t22 h2 h2').bind fun _ =>
 (M.lift (Ax.iaddr none 2 t23 (L.getD 0 .undef))).bind fun t32 =>
 (M.lift (Ax.faddr 1 t32)).bind fun t33 =>
 (zah 1 t33 t31).bind fun _ =>
 M.pure (.nrm [])) fun _ =>
 (M.lift (Ax.bin .add (L.getD 0 .undef) (V.int .i64 1))).bind fun t34 =>
 M.pure (.nrm [t34]))
 (M.pure (.ex 0 []))
noncomputable def zfP (G : Sem') (t0 : V) : M Res :=
 (mbox zam t0).bind fun t1 =>
 (mbox zam (V.agg [(V.bool false), (V.int .i64 0), (V.int .u16 0), (V.int .u32 0), (V.int .u32 0), V.nils, (V.int .i64 0), V.nils, (V.int .i64 0), V.nils])).bind fun t2 =>
 (M.lift (Ax.faddr 5 t1)).bind fun t4 =>
 (zab none t4).bind fun t5 =>
 (M.lift (Ax.faddr 9 t1)).bind fun t7 =>
 (zab none t7).bind fun t8 =>
 (M.lift (Ax.faddr 7 t1)).bind fun t10 =>
 (zab none t10).bind fun t11 =>
 M.getH.bind fun h0 =>
 (G zbd [t5]).bind fun t6 =>
 M.getH.bind fun h0' =>
 (M.unch t10 h0 h0').bind fun _ =>
 (M.unch t7 h0 h0').bind fun _ =>
 M.getH.bind fun h1 =>
 (G zbf [t8]).bind fun t9 =>
 M.getH.bind fun h1' =>
 (M.unch t10 h1 h1').bind fun _ =>
 (G za2 [t11]).bind fun t12 =>
 (M.lift (Ax.faddr 5 t1)).bind fun t13 =>
 (zah 1 t13 t6).bind fun _ =>
 (M.lift (Ax.faddr 9 t1)).bind fun t14 =>
 (zah 1 t14 t9).bind fun _ =>
 (M.lift (Ax.faddr 7 t1)).bind fun t15 =>
 (zah 1 t15 t12).bind fun _ =>
 (M.lift (Ax.faddr 7 t1)).bind fun t16 =>
 (zab none t16).bind fun t17 =>
 (M.lift (vlen t17)).bind fun t18 =>
 M.blk 0 (
 M.iter (zd7 G t18 t1 t2) [(V.int .i64 0)]) fun _ =>
 (zab (some 10) t1).bind fun t35 =>
 (zah 10 t2 t35).bind fun _ =>
 (zab (some 10) t2).bind fun r0 =>
 M.pure (.ret [r0])
theorem zgB {t0 : V} : OkT zdK [t0] (zfP (sem T) t0) := okT (by kernel_rfl) (by kernel_rfl) (by kernel_rfl)
noncomputable def zco (G : Sem') (t0 : V) : M Res :=
 (M.lift (eqr .sl false t0 V.nils)).bind fun t4 =>
 M.ite t4
 (M.pure (.ret [V.nils]))
 ((mslit zeL 0 [(V.int .u32 0)] []).bind fun t5 =>
 (mappend zeL 1 4 t5 t0).bind fun t7 =>
 M.pure (.ret [t7]))
theorem zdx {t0 : V} : OkT zbd [t0] (zco (sem T) t0) := okT (by kernel_rfl) (by kernel_rfl) (by kernel_rfl)
noncomputable def zb8 (G : Sem') (t0 : V) : M Res :=
 (M.lift (eqr .sl false t0 V.nils)).bind fun t4 =>
 M.ite t4
 (M.pure (.ret [V.nils]))
 ((mslit zbm 0 [(V.int .i64 0), V.nils] []).bind fun t5 =>
 (mappend zbm 2 32 t5 t0).bind fun t7 =>
 M.pure (.ret [t7]))
theorem zdf {t0 : V} : OkT za2 [t0] (zb8 (sem T) t0) := okT (by kernel_rfl) (by kernel_rfl) (by kernel_rfl)
noncomputable def zeY (G : Sem') (t0 t1 t2 : V) : M Res :=
 (G zcZ [t0, t1]).bind fun t9 =>
 (M.lift (Ax.bin .geq t9 (V.int .i64 0))).bind fun t11 =>
 M.join (M.ite t11
 ((M.lift (Ax.nilck t0)).bind fun t14 =>
 (M.lift (Ax.faddr 0 t14)).bind fun t15 =>
 (zab none t15).bind fun t16 =>
 (M.lift (Ax.bin .add t9 (V.int .i64 1))).bind fun t19 =>
 (G zas [t16, t9, t19]).bind fun t20 =>
 (M.lift (Ax.nilck t0)).bind fun t21 =>
 (M.lift (Ax.faddr 0 t21)).bind fun t22 =>
 (zah 1 t22 t20).bind fun _ =>
 M.pure (.nrm []))
 (M.pure (.nrm []))) fun _ =>
 (M.lift (Ax.nilck t0)).bind fun t25 =>
 (M.lift (Ax.faddr 0 t25)).bind fun t26 =>
 (zab none t26).bind fun t27 =>
 M.getH.bind fun h0 =>
 (G zbf [t2]).bind fun t30 =>
 M.getH.bind fun h0' =>
 (M.unch t26 h0 h0').bind fun _ =>
 (M.lift (Ax.build [(V.int .u16 0), V.nils] [(0, 1, t1), (1, 1, t30)])).bind fun t31 =>
 (mslit zaF 1 [(V.int .u16 0), V.nils] [(0, 2, t31)]).bind fun t32 =>
 (mappend zaF 2 32 t27 t32).bind fun t33 =>
 (M.lift (Ax.nilck t0)).bind fun t34 =>
 (M.lift (Ax.faddr 0 t34)).bind fun t35 =>
 (zah 1 t35 t33).bind fun _ =>
 (M.lift (Ax.nilck t0)).bind fun t37 =>
 (M.lift (Ax.faddr 0 t37)).bind fun t38 =>
 (zab none t38).bind fun t39 =>
 (M.lift (vlen t39)).bind fun t40 =>
 (M.lift (Ax.bin .gtr t40 (V.int .i64 64))).bind fun t41 =>
 M.join (M.ite t41
 ((M.lift (Ax.nilck t0)).bind fun t44 =>
 (M.lift (Ax.faddr 0 t44)).bind fun t45 =>
 (zab none t45).bind fun t46 =>
 (G zas [t46, (V.int .i64 0), (V.int .i64 1)]).bind fun t47 =>
 (M.lift (Ax.nilck t0)).bind fun t48 =>
 (M.lift (Ax.faddr 0 t48)).bind fun t49 =>
 (zah 1 t49 t47).bind fun _ =>
 M.pure (.nrm []))
 (M.pure (.nrm []))) fun _ =>
 M.pure (.ret [])
theorem zfS {t0 t1 t2 : V} : OkT zcK [t0, t1, t2] (zeY (sem T) t0 t1 t2) := okT (by kernel_rfl) (by kernel_rfl) (by kernel_rfl)
noncomputable def zfh (G : Sem') (t0 t1 : V) : M Res :=
 (mbox za9 t1).bind fun t3 =>
 (M.lift (Ax.nilck t0)).bind fun t6 =>
 (M.lift (Ax.faddr 0 t6)).bind fun t7 =>
 (zab none t7).bind fun t8 =>
 (M.pure (.fn zcA [t3])).bind fun t9 =>
 (G zaT [t8, t9]).bind fun t10 =>
 M.pure (.ret [t10])
theorem zf5 {t0 t1 : V} : OkT zcZ [t0, t1] (zfh (sem T) t0 t1) := okT (by kernel_rfl) (by kernel_rfl) (by kernel_rfl)
noncomputable def zeB (G : Sem') (t0 t1 : V) : M Res :=
 (mbox zaF t0).bind fun t2 =>
 (M.lift (Ax.faddr 0 t2)).bind fun t4 =>
 (zab none t4).bind fun t5 =>
 (zab none t1).bind fun t6 =>
 (M.lift (Ax.bin .eql t5 t6)).bind fun t7 =>
 M.pure (.ret [t7])
theorem zfG {t0 t1 : V} : OkT zcA [t0, t1] (zeB (sem T) t0 t1) := okT (by kernel_rfl) (by kernel_rfl) (by kernel_rfl)
noncomputable def zaR (G : Sem') (t7 t1 t0 : V) (L : List V) : M Res :=
 (M.lift (Ax.bin .lss (L.getD 0 .undef) t7)).bind fun t9 =>
 M.ite t9
 (M.blk 1 (
 (M.lift (Ax.iaddr none 2 t0 (L.getD 0 .undef))).bind fun t14 =>
 (zab (some 2) t14).bind fun t15 =>
 (callv G t1 [t15]).bind fun t16 =>
 M.ite t16
 (M.pure (.ret [(L.getD 0 .undef)]))
 (M.pure (.nrm []))) fun _ =>
 (M.lift (Ax.bin .add (L.getD 0 .undef) (V.int .i64 1))).bind fun t18 =>
 M.pure (.nrm [t18]))
 (M.pure (.ex 0 []))
noncomputable def zbo (G : Sem') (t0 t1 : V) : M Res :=
 (M.lift (vlen t0)).bind fun t7 =>
 M.blk 0 (
 M.iter (zaR G t7 t1 t0) [(V.int .i64 0)]) fun _ =>
 M.pure (.ret [(V.int .i64 (-1))])
theorem zch {t0 t1 : V} : OkT zaT [t0, t1] (zbo (sem T) t0 t1) := okT (by kernel_rfl) (by kernel_rfl) (by kernel_rfl)
noncomputable def zbC (G : Sem') (t0 t1 t2 : V) : M Res :=
 (M.lift (vlen t0)).bind fun t12 =>
 (M.lift (vslice .sl 2 t0 (some t1) (some t2) (some t12))).bind fun t13 =>
 (M.lift (Ax.bin .eql t1 t2)).bind fun t16 =>
 M.ite t16
 (M.pure (.ret [t0]))
 ((M.lift (vlen t0)).bind fun t19 =>
 (M.lift (vslice .sl 2 t0 none (some t1) none)).bind fun t22 =>
 (M.lift (vslice .sl 2 t0 (some t2) none none)).bind fun t25 =>
 (mappend zaF 2 32 t22 t25).bind fun t26 =>
 (M.lift (vlen t26)).bind fun t29 =>
 (mslice2 2 t26 t29 t19).bind fun t31 =>
 (mclear [(V.int .u16 0), V.nils] t31).bind fun _ =>
 M.pure (.ret [t26]))
theorem zcw {t0 t1 t2 : V} : OkT zas [t0, t1, t2] (zbC (sem T) t0 t1 t2) := okT (by kernel_rfl) (by kernel_rfl) (by kernel_rfl)
noncomputable def zeC (G : Sem') (t0 : V) : M Res :=
 (M.lift (Ax.nilck t0)).bind fun t4 =>
 (M.lift (Ax.faddr 0 t4)).bind fun t5 =>
 (zab none t5).bind fun t6 =>
 M.pure (.ret [t6])
theorem zfH {t0 : V} : OkT zcB [t0] (zeC (sem T) t0) := okT (by kernel_rfl) (by kernel_rfl) (by kernel_rfl)
noncomputable def zb6 (G : Sem') (t1 t2 : V) (L : List V) : M Res :=
 (M.lift (Ax.faddr 5 t1)).bind fun t59 =>
 (M.lift (Ax.faddr 7 t59)).bind fun t60 =>
 (zab none t60).bind fun t61 =>
 (M.lift (vlen t61)).bind fun t62 =>
 (M.lift (Ax.bin .lss (L.getD 1 .undef) t62)).bind fun t63 =>
 (zaa [(0, t63)] (some (0, true)) (M.pure (L.getD 1 .undef))).bind fun t65 =>
 (zaa [(0, t63)] (some (0, true)) (M.lift (Ax.bin .lss t65 (V.int .i64 500)))).bind fun t66 =>
 (M.lift (Ax.pick t63 t66 (V.bool false))).bind fun t67 =>
 M.ite t67
 (M.blk 1 (
 (M.lift (Ax.faddr 5 t1)).bind fun t71 =>
 (M.lift (Ax.faddr 7 t71)).bind fun t72 =>
 (zab none t72).bind fun t73 =>
 (M.lift (Ax.iaddr none 2 t73 (L.getD 1 .undef))).bind fun t75 =>
 (M.lift (Ax.faddr 1 t75)).bind fun t76 =>
 (zab none t76).bind fun t77 =>
 (M.lift (vlen t77)).bind fun t78 =>
 (M.lift (Ax.bin .add (L.getD 0 .undef) t78)).bind fun t79 =>
 (M.lift (Ax.bin .add t79 (V.int .i64 1))).bind fun t80 =>
 M.pure (.nrm [t80])) fun L0 =>
 (M.lift (Ax.bin .add (L.getD 1 .undef) (V.int .i64 1))).bind fun t69 =>
 M.pure (.nrm [(L0.getD 0 .undef), t69]))
 (M.pure (.ex 0 [(L.getD 0 .undef)]))
noncomputable def zb5 (G : Sem') (t1 t2 : V) (L : List V) : M Res :=
 (M.lift (Ax.faddr 15 t1)).bind fun t82 =>
 (M.lift (Ax.faddr 5 t82)).bind fun t83 =>
 (M.lift (Ax.faddr 2 t83)).bind fun t84 =>
 (zab none t84).bind fun t85 =>
 (M.lift (vlen t85)).bind fun t86 =>
 (M.lift (Ax.bin .lss (L.getD 1 .undef) t86)).bind fun t87 =>
 (zaa [(0, t87)] (some (0, true)) (M.pure (L.getD 1 .undef))).bind fun t89 =>
 (zaa [(0, t87)] (some (0, true)) (M.lift (Ax.bin .lss t89 (V.int .i64 100)))).bind fun t90 =>
 (M.lift (Ax.pick t87 t90 (V.bool false))).bind fun t91 =>
 M.ite t91
 (M.blk 3 (
 (M.lift (Ax.faddr 15 t1)).bind fun t94 =>
 (M.lift (Ax.faddr 5 t94)).bind fun t95 =>
 (M.lift (Ax.faddr 2 t95)).bind fun t96 =>
 (zab none t96).bind fun t97 =>
 (M.lift (Ax.iaddr none 5 t97 (L.getD 1 .undef))).bind fun t99 =>
 (zab (some 5) t99).bind fun t100 =>
 (mbox zak (V.agg [(V.int .i64 0), (V.int .i64 0), V.nils, V.nils, V.nils])).bind fun t6 =>
 (zah 5 t6 t100).bind fun _ =>
 (M.lift (Ax.faddr 2 t6)).bind fun t102 =>
 (zab none t102).bind fun t103 =>
 (M.lift (vlen t103)).bind fun t104 =>
 (M.lift (Ax.bin .add (L.getD 0 .undef) t104)).bind fun t105 =>
 (M.lift (Ax.faddr 3 t6)).bind fun t106 =>
 (zab none t106).bind fun t107 =>
 (M.lift (vlen t107)).bind fun t108 =>
 (M.lift (Ax.bin .add t105 t108)).bind fun t109 =>
 (M.lift (Ax.faddr 4 t6)).bind fun t110 =>
 (zab none t110).bind fun t111 =>
 (M.lift (vlen t111)).bind fun t112 =>
 (M.lift (Ax.bin .add t109 t112)).bind fun t113 =>
 M.pure (.nrm [t113])) fun L2 =>
 (M.lift (Ax.bin .add (L.getD 1 .undef) (V.int .i64 1))).bind fun t93 =>
 M.pure (.nrm [(L2.getD 0 .undef), t93]))
 (M.pure (.ex 2 [(L.getD 0 .undef)]))
noncomputable def zdc (G : Sem') (t0 : V) : M Res :=
 (mbox zaB t0).bind fun t1 =>
 (M.lift (Ax.faddr 35 t1)).bind fun t7 =>
 (zab none t7).bind fun t8 =>
 (M.lift (vlen t8)).bind fun t9 =>
 (M.lift (Ax.faddr 5 t1)).bind fun t10 =>
 (M.lift (Ax.faddr 9 t10)).bind fun t11 =>
 (zab none t11).bind fun t12 =>
 (M.lift (vlen t12)).bind fun t13 =>
 (M.lift (Ax.bin .add t9 t13)).bind fun t14 =>
 (M.lift (Ax.faddr 5 t1)).bind fun t15 =>
 (M.lift (Ax.faddr 5 t15)).bind fun t16 =>
 (zab none t16).bind fun t17 =>
 (M.lift (vlen t17)).bind fun t18 =>
 (M.lift (Ax.bin .mul (V.int .i64 4) t18)).bind fun t19 =>
 (M.lift (Ax.bin .add t14 t19)).bind fun t20 =>
 (M.lift (Ax.faddr 38 t1)).bind fun t21 =>
 (zab none t21).bind fun t22 =>
 (M.lift (vlen t22)).bind fun t23 =>
 (M.lift (Ax.bin .add t20 t23)).bind fun t24 =>
 (M.lift (Ax.faddr 15 t1)).bind fun t25 =>
 (M.lift (Ax.faddr 16 t25)).bind fun t26 =>
 (zab none t26).bind fun t27 =>
 (M.lift (vlen t27)).bind fun t28 =>
 (M.lift (Ax.bin .add t24 t28)).bind fun t29 =>
 (M.lift (Ax.faddr 15 t1)).bind fun t30 =>
 (M.lift (Ax.faddr 17 t30)).bind fun t31 =>
 (zab none t31).bind fun t32 =>
 (M.lift (vlen t32)).bind fun t33 =>
 (M.lift (Ax.bin .add t29 t33)).bind fun t34 =>
 (M.lift (Ax.faddr 15 t1)).bind fun t35 =>
 (M.lift (Ax.faddr 18 t35)).bind fun t36 =>
 (zab none t36).bind fun t37 =>
 (M.lift (vlen t37)).bind fun t38 =>
 (M.lift (Ax.bin .add t34 t38)).bind fun t39 =>
 (M.lift (Ax.faddr 15 t1)).bind fun t40 =>
 (M.lift (Ax.faddr 5 t40)).bind fun t41 =>
 (M.lift (Ax.faddr 2 t41)).bind fun t42 =>
 (zab none t42).bind fun t43 =>
 (M.lift (vlen t43)).bind fun t44 =>
 (M.lift (Ax.bin .add t39 t44)).bind fun t45 =>
 (M.lift (Ax.faddr 15 t1)).bind fun t46 =>
 (M.lift (Ax.faddr 5 t46)).bind fun t47 =>
 (M.lift (Ax.faddr 5 t47)).bind fun t48 =>
 (zab none t48).bind fun t49 =>
 (M.lift (vlen t49)).bind fun t50 =>
 (M.lift (Ax.bin .add t45 t50)).bind fun t51 =>
 (M.lift (Ax.faddr 15 t1)).bind fun t52 =>
 (M.lift (Ax.faddr 5 t52)).bind fun t53 =>
 (M.lift (Ax.faddr 4 t53)).bind fun t54 =>
 (zab none t54).bind fun t55 =>
 (M.lift (vlen t55)).bind fun t56 =>
 (M.lift (Ax.bin .add t51 t56)).bind fun t57 =>
 M.blk 0 (
 M.iter (zb6 G t1 (V.bool false)) [t57, (V.int .i64 0)]) fun L1 =>
 M.blk 2 (
 M.iter (zb5 G t1 (V.bool false)) [(L1.getD 0 .undef), (V.int .i64 0)]) fun L3 =>
 (M.lift (Ax.bin .gtr (L3.getD 0 .undef) (V.int .i64 3000))).bind fun t115 =>
 (zaa [(0, t115)] (some (0, false)) (M.lift (Ax.faddr 5 t1))).bind fun t117 =>
 (zaa [(0, t115)] (some (0, false)) (M.lift (Ax.faddr 7 t117))).bind fun t118 =>
 (zaa [(0, t115)] (some (0, false)) (zab none t118)).bind fun t119 =>
 (zaa [(0, t115)] (some (0, false)) (M.lift (vlen t119))).bind fun t120 =>
 (zaa [(0, t115)] (some (0, false)) (M.lift (Ax.bin .gtr t120 (V.int .i64 400)))).bind fun t121 =>
 (M.lift (Ax.pick t115 (V.bool true) t121)).bind fun t122 =>
 (zaa [(0, t122)] (some (0, false)) (M.lift (Ax.faddr 15 t1))).bind fun t124 =>
 (zaa [(0, t122)] (some (0, false)) (M.lift (Ax.faddr 5 t124))).bind fun t125 =>
 (zaa [(0, t122)] (some (0, false)) (M.lift (Ax.faddr 2 t125))).bind fun t126 =>
 (zaa [(0, t122)] (some (0, false)) (zab none t126)).bind fun t127 =>
 (zaa [(0, t122)] (some (0, false)) (M.lift (vlen t127))).bind fun t128 =>
 (zaa [(0, t122)] (some (0, false)) (M.lift (Ax.bin .gtr t128 (V.int .i64 90)))).bind fun t129 =>
 (M.lift (Ax.pick t122 (V.bool true) t129)).bind fun t130 =>
 M.pure (.ret [t130])
theorem zep {t0 : V} : OkT zbh [t0] (zdc (sem T) t0) := okT (by kernel_rfl) (by kernel_rfl) (by kernel_rfl)
noncomputable def zdu (G : Sem') (t0 : V) : M Res :=
 (mbox zaB t0).bind fun t1 =>
 (mbox zam (V.agg [(V.bool false), (V.int .i64 0), (V.int .u16 0), (V.int .u32 0), (V.int .u32 0), V.nils, (V.int .i64 0), V.nils, (V.int .i64 0), V.nils])).bind fun t2 =>
 (mbox zal (V.agg [(V.bool false), (V.bool false), (V.int .i64 0), (V.int .u16 0), (V.bool false), (V.int .i64 0), (V.int .i64 0), V.nils, (V.int .i64 0), V.nils, V.nils, (V.bool false), (V.int .u32 0), (V.bool false), (V.bool false), (V.bool false), V.nils, V.nils, V.nils])).bind fun t3 =>
 (M.lift (Ax.faddr 4 t1)).bind fun t5 =>
 (zab none t5).bind fun t6 =>
 M.ite t6
 ((M.lift (Ax.faddr 5 t1)).bind fun t7 =>
 (zab (some 10) t7).bind fun t8 =>
 (M.lift (Ax.faddr 15 t1)).bind fun t9 =>
 (zab (some 19) t9).bind fun t10 =>
 M.getH.bind fun h0 =>
 (zah 10 t2 t8).bind fun _ =>
 M.getH.bind fun h0' =>
 (M.unch t9 h0 h0').bind fun _ =>
 (zah 19 t3 t10).bind fun _ =>
 (zab (some 10) t2).bind fun r0 =>
 (zab (some 19) t3).bind fun r1 =>
 M.pure (.ret [r0, r1]))
 ((M.lift (Ax.faddr 15 t1)).bind fun t11 =>
 (zab (some 19) t11).bind fun t12 =>
 (mbox zal (V.agg [(V.bool false), (V.bool false), (V.int .i64 0), (V.int .u16 0), (V.bool false), (V.int .i64 0), (V.int .i64 0), V.nils, (V.int .i64 0), V.nils, V.nils, (V.bool false), (V.int .u32 0), (V.bool false), (V.bool false), (V.bool false), V.nils, V.nils, V.nils])).bind fun t4 =>
 (zah 19 t4 t12).bind fun _ =>
 (M.lift (Ax.faddr 2 t4)).bind fun t13 =>
 (zab none t13).bind fun t14 =>
 (M.lift (Ax.bin .lss t14 (V.int .i64 0))).bind fun t15 =>
 M.join (M.ite t15
 ((M.lift (Ax.faddr 2 t4)).bind fun t16 =>
 (zah 1 t16 (V.int .i64 0)).bind fun _ =>
 M.pure (.nrm []))
 (M.pure (.nrm []))) fun _ =>
 (M.lift (Ax.faddr 2 t4)).bind fun t17 =>
 (zab none t17).bind fun t18 =>
 (M.lift (Ax.bin .rem t18 (V.int .i64 3))).bind fun t19 =>
 (M.lift (Ax.faddr 2 t4)).bind fun t20 =>
 (zah 1 t20 t19).bind fun _ =>
 (M.lift (Ax.faddr 0 t4)).bind fun t21 =>
 (zab none t21).bind fun t22 =>
 (M.lift (Ax.faddr 1 t4)).bind fun t23 =>
 (zab none t23).bind fun t24 =>
 (M.lift (Ax.faddr 2 t4)).bind fun t25 =>
 (zab none t25).bind fun t26 =>
 (M.lift (Ax.faddr 3 t4)).bind fun t27 =>
 (zab none t27).bind fun t28 =>
 (M.lift (Ax.bin .rem t28 (V.int .u16 64))).bind fun t29 =>
 (M.lift (Ax.faddr 4 t4)).bind fun t30 =>
 (zab none t30).bind fun t31 =>
 (zaa [(0, t31)] (some (0, true)) (M.lift (Ax.faddr 2 t4))).bind fun t33 =>
 (zaa [(0, t31)] (some (0, true)) (zab none t33)).bind fun t34 =>
 (zaa [(0, t31)] (some (0, true)) (M.lift (Ax.bin .eql t34 (V.int .i64 0)))).bind fun t35 =>
 (M.lift (Ax.pick t31 t35 (V.bool false))).bind fun t36 =>
 (M.lift (Ax.build [(V.bool false), (V.bool false), (V.int .i64 0), (V.int .u16 0), (V.bool false), (V.int .i64 0), (V.int .i64 0), V.nils, (V.int .i64 0), V.nils, V.nils, (V.bool false), (V.int .u32 0), (V.bool false), (V.bool false), (V.bool false), V.nils, V.nils, V.nils] [(0, 1, t22), (1, 1, t24), (2, 1, t26), (3, 1, t29), (4, 1, t36)])).bind fun t37 =>
 (M.lift (Ax.faddr 34 t1)).bind fun t38 =>
 (zab none t38).bind fun t39 =>
 (M.lift (Ax.faddr 35 t1)).bind fun t40 =>
 (zab none t40).bind fun t41 =>
 (G zaW [t37, t39, t41]).bind fun t42 =>
 (M.lift (Ax.ext 0 t42)).bind fun t43 =>
 (M.lift (Ax.ext 1 t42)).bind fun t44 =>
 (zah 10 t2 t43).bind fun _ =>
 (zah 19 t3 t44).bind fun _ =>
 (zab (some 10) t2).bind fun r0 =>
 (zab (some 19) t3).bind fun r1 =>
 M.pure (.ret [r0, r1]))
theorem zeJ {t0 : V} : OkT zbl [t0] (zdu (sem T) t0) := okT (by kernel_rfl) (by kernel_rfl) (by kernel_rfl)
noncomputable def ze2 (G : Sem') (t0 t1 : V) : M Res :=
 (M.lift (Ax.nilck t0)).bind fun t9 =>
 (M.lift (Ax.faddr 3 t9)).bind fun t10 =>
 (zab (some 3) t10).bind fun t11 =>
 (G zdW [t11, t1]).bind fun t13 =>
 (M.lift (Ax.ext 0 t13)).bind fun t14 =>
 (M.lift (Ax.ext 1 t13)).bind fun t15 =>
 (mbox zaE (V.agg [(V.bool false), (V.int .i64 0), (V.int .i64 0)])).bind fun t5 =>
 (zah 3 t5 t14).bind fun _ =>
 (zab (some 3) t5).bind fun t17 =>
 (M.lift (Ax.nilck t0)).bind fun t18 =>
 (M.lift (Ax.faddr 3 t18)).bind fun t19 =>
 (zah 3 t19 t17).bind fun _ =>
 M.pure (.ret [t15])
theorem zfU {t0 t1 : V} : OkT zcM [t0, t1] (ze2 (sem T) t0 t1) := okT (by kernel_rfl) (by kernel_rfl) (by kernel_rfl)
noncomputable def zgw (G : Sem') (t0 t1 : V) : M Res :=
 (mbox zaE t0).bind fun t2 =>
 (mbox zaE (V.agg [(V.bool false), (V.int .i64 0), (V.int .i64 0)])).bind fun t4 =>
 (zab (some 3) t2).bind fun t6 =>
 (G zdp [t6]).bind fun t7 =>
 (M.lift (Ax.un .not t7)).bind fun t8 =>
 (zaa [(0, t8)] (some (0, false)) (M.pure t1)).bind fun t10 =>
 (zaa [(0, t8)] (some (0, false)) (G zcg [t10])).bind fun t11 =>
 (zaa [(0, t8)] (some (0, false)) (M.lift (Ax.un .not t11))).bind fun t12 =>
 (M.lift (Ax.pick t8 (V.bool true) t12)).bind fun t13 =>
 M.ite t13
 ((zab (some 3) t2).bind fun t14 =>
 (zah 3 t4 t14).bind fun _ =>
 (zab (some 3) t4).bind fun r0 =>
 M.pure (.ret [r0, (V.int .i64 1)]))
 ((M.lift (Ax.faddr 2 t2)).bind fun t16 =>
 (zah 1 t16 t1).bind fun _ =>
 (zab (some 3) t2).bind fun t17 =>
 (zah 3 t4 t17).bind fun _ =>
 (zab (some 3) t4).bind fun r0 =>
 M.pure (.ret [r0, (V.int .i64 0)]))
theorem zha {t0 t1 : V} : OkT zdW [t0, t1] (zgw (sem T) t0 t1) := okT (by kernel_rfl) (by kernel_rfl) (by kernel_rfl)
noncomputable def zbJ (G : Sem') (t0 t3 t4 t5 : V) (L : List V) : M Res :=
 (M.lift (vlen t0)).bind fun t37 =>
 (M.lift (Ax.bin .lss (L.getD 1 .undef) t37)).bind fun t38 =>
 (zaa [(0, t38)] (some (0, true)) (M.pure (L.getD 1 .undef))).bind fun t40 =>
 (zaa [(0, t38)] (some (0, true)) (M.lift (Ax.bin .lss t40 (V.int .i64 60)))).bind fun t41 =>
 (M.lift (Ax.pick t38 t41 (V.bool false))).bind fun t42 =>
 M.ite t42
 (M.blk 1 (
 (M.lift (Ax.iaddr none 39 t0 (L.getD 1 .undef))).bind fun t47 =>
 (zab (some 39) t47).bind fun t48 =>
 (mbox zaB (V.agg [(V.int .i64 0), (V.int .i64 0), (V.int .i64 0), (V.int .i64 0), (V.bool false), (V.bool false), (V.int .i64 0), (V.int .u16 0), (V.int .u32 0), (V.int .u32 0), V.nils, (V.int .i64 0), V.nils, (V.int .i64 0), V.nils, (V.bool false), (V.bool false), (V.int .i64 0), (V.int .u16 0), (V.bool false), (V.int .i64 0), (V.int .i64 0), V.nils, (V.int .i64 0), V.nils, V.nils, (V.bool false), (V.int .u32 0), (V.bool false), (V.bool false), (V.bool false), V.nils, V.nils, V.nils, (V.int .u16 0), V.nils, (V.int .u32 0), (V.int .u16 0), V.nils])).bind fun t8 =>
 (zah 39 t8 t48).bind fun _ =>
 (zab (some 39) t8).bind fun t49 =>
 (G zbh [t49]).bind fun t50 =>
 (zaa [(0, t50)] (some (0, false)) (M.lift (Ax.faddr 4 t8))).bind fun t52 =>
 (zaa [(0, t50)] (some (0, false)) (zab none t52)).bind fun t53 =>
 (M.lift (Ax.pick t50 (V.bool true) t53)).bind fun t54 =>
 (zaa [(0, t54)] (some (0, false)) (M.lift (Ax.faddr 35 t8))).bind fun t56 =>
 (zaa [(0, t54)] (some (0, false)) (zab none t56)).bind fun t57 =>
 (zaa [(0, t54)] (some (0, false)) (M.lift (vlen t57))).bind fun t58 =>
 (zaa [(0, t54)] (some (0, false)) (M.lift (Ax.bin .gtr t58 (V.int .i64 1000)))).bind fun t59 =>
 (M.lift (Ax.pick t54 (V.bool true) t59)).bind fun t60 =>
 M.ite t60
 (M.pure (.ret [(V.bool true)]))
 ((M.lift (Ax.faddr 37 t8)).bind fun t62 =>
 (zab none t62).bind fun t63 =>
 (M.lift (Ax.cint .i64 t63)).bind fun t64 =>
 (M.lift (Ax.bin .add (L.getD 0 .undef) t64)).bind fun t65 =>
 (M.lift (Ax.faddr 0 t8)).bind fun t66 =>
 (zab none t66).bind fun t67 =>
 (M.lift (Ax.bin .eql t67 (V.int .i64 1))).bind fun t68 =>
 M.ite t68
 ((zab (some 3) t4).bind fun t70 =>
 (M.lift (Ax.faddr 1 t8)).bind fun t71 =>
 (zab none t71).bind fun t72 =>
 (G zdW [t70, t72]).bind fun t73 =>
 (M.lift (Ax.ext 0 t73)).bind fun t74 =>
 (M.lift (Ax.ext 1 t73)).bind fun t75 =>
 (mbox zaE (V.agg [(V.bool false), (V.int .i64 0), (V.int .i64 0)])).bind fun t9 =>
 (zah 3 t9 t74).bind fun _ =>
 (M.lift (Ax.faddr 1 t8)).bind fun t77 =>
 (zab none t77).bind fun t78 =>
 (G zcM [t3, t78]).bind fun t79 =>
 (M.lift (Ax.bin .neq t79 t75)).bind fun t81 =>
 M.ite t81
 (M.pure (.ret [(V.bool false)]))
 ((zab (some 3) t9).bind fun t82 =>
 (zah 3 t4 t82).bind fun _ =>
 M.pure (.ex 1 [t65])))
 ((zab (some 39) t8).bind fun t84 =>
 (G zbl [t84]).bind fun t85 =>
 (M.lift (Ax.ext 0 t85)).bind fun t86 =>
 (M.lift (Ax.ext 1 t85)).bind fun t87 =>
 (mbox zam (V.agg [(V.bool false), (V.int .i64 0), (V.int .u16 0), (V.int .u32 0), (V.int .u32 0), V.nils, (V.int .i64 0), V.nils, (V.int .i64 0), V.nils])).bind fun t11 =>
 (mbox zal (V.agg [(V.bool false), (V.bool false), (V.int .i64 0), (V.int .u16 0), (V.bool false), (V.int .i64 0), (V.int .i64 0), V.nils, (V.int .i64 0), V.nils, V.nils, (V.bool false), (V.int .u32 0), (V.bool false), (V.bool false), (V.bool false), V.nils, V.nils, V.nils])).bind fun t12 =>
 (zah 10 t11 t86).bind fun _ =>
 (zah 19 t12 t87).bind fun _ =>
 (M.lift (Ax.faddr 1 t8)).bind fun t90 =>
 (zab none t90).bind fun t91 =>
 (zab (some 10) t11).bind fun t92 =>
 (zab (some 19) t12).bind fun t93 =>
 M.getH.bind fun h0 =>
 (G zaH []).bind fun t94 =>
 M.getH.bind fun h0' =>
 (M.unch t12 h0 h0').bind fun _ =>
 (M.unch t11 h0 h0').bind fun _ =>
 (M.unch t90 h0 h0').bind fun _ =>
 (G za7 [t3, t91, t92, t93, t94, (V.int .u32 3), t65]).bind fun t96 =>
 (M.lift (Ax.ext 0 t96)).bind fun t97 =>
 (mbox zbn (V.agg [V.nils, (V.int .i64 0), (V.bool false)])).bind fun t13 =>
 (zah 3 t13 t97).bind fun _ =>
 (M.lift (Ax.ext 1 t96)).bind fun t98 =>
 (M.lift (Ax.bin .neq t98 (V.int .i64 0))).bind fun t100 =>
 M.ite t100
 (M.pure (.ex 1 [t65]))
 ((zab (some 3) t4).bind fun t102 =>
 (M.lift (Ax.faddr 1 t8)).bind fun t103 =>
 (zab none t103).bind fun t104 =>
 (M.lift (Ax.faddr 4 t12)).bind fun t105 =>
 (zab none t105).bind fun t106 =>
 (zaa [(0, t106)] (some (0, true)) (M.lift (Ax.faddr 0 t12))).bind fun t108 =>
 (zaa [(0, t106)] (some (0, true)) (zab none t108)).bind fun t109 =>
 (M.lift (Ax.pick t106 t109 (V.bool false))).bind fun t110 =>
 (G zea [t102, t104, t110]).bind fun t111 =>
 (M.lift (Ax.ext 0 t111)).bind fun t112 =>
 (M.lift (Ax.ext 1 t111)).bind fun t113 =>
 (M.lift (Ax.ext 2 t111)).bind fun t114 =>
 (mbox zaE (V.agg [(V.bool false), (V.int .i64 0), (V.int .i64 0)])).bind fun t15 =>
 (zah 3 t15 t112).bind fun _ =>
 (zab (some 3) t15).bind fun t115 =>
 (zah 3 t4 t115).bind fun _ =>
 (M.lift (Ax.faddr 1 t13)).bind fun t117 =>
 (zab none t117).bind fun t118 =>
 (M.lift (Ax.bin .eql t118 (V.int .i64 1))).bind fun t119 =>
 (M.lift (eqr .bool false t113 t119)).bind fun t120 =>
 M.ite t120
 (M.pure (.ret [(V.bool false)]))
 (M.join (M.ite t114
 ((zab (some 7) t5).bind fun t122 =>
 (M.lift (Ax.faddr 3 t11)).bind fun t123 =>
 (zab none t123).bind fun t124 =>
 (M.lift (Ax.faddr 3 t12)).bind fun t125 =>
 (zab none t125).bind fun t126 =>
 (G zcX [t122, t124, t126, t65]).bind fun t128 =>
 (zah 7 t5 t128).bind fun _ =>
 M.pure (.nrm []))
 (M.pure (.nrm []))) fun _ =>
 (M.lift (Ax.faddr 1 t13)).bind fun t129 =>
 (zab none t129).bind fun t130 =>
 (M.lift (Ax.bin .eql t130 (V.int .i64 0))).bind fun t131 =>
 M.join (M.ite t131
 ((zab (some 7) t5).bind fun t133 =>
 (M.lift (Ax.faddr 3 t11)).bind fun t134 =>
 (zab none t134).bind fun t135 =>
 (M.lift (Ax.faddr 3 t12)).bind fun t136 =>
 (zab none t136).bind fun t137 =>
 (G zdR [t133, t135, t137, t65]).bind fun t139 =>
 (M.lift (Ax.ext 0 t139)).bind fun t140 =>
 (M.lift (Ax.ext 1 t139)).bind fun t141 =>
 (M.lift (Ax.ext 2 t139)).bind fun t142 =>
 (M.lift (Ax.ext 3 t139)).bind fun t143 =>
 (mbox za5 (V.agg [(V.bool false), (V.int .u16 0), (V.int .u32 0), (V.int .u32 0), (V.int .u16 0), (V.int .u16 0), (V.int .i64 0)])).bind fun t18 =>
 (zah 7 t18 t140).bind fun _ =>
 (M.lift (Ax.faddr 0 t13)).bind fun t145 =>
 (zab none t145).bind fun t146 =>
 (G zbO [t146]).bind fun t147 =>
 (M.lift (Ax.ext 0 t147)).bind fun t148 =>
 (M.lift (Ax.ext 1 t147)).bind fun t149 =>
 (mbox zaj (V.agg [(V.bool false), (V.int .i64 0), (V.int .u16 0), (V.int .u32 0), (V.int .u32 0), V.nils, (V.int .i64 0), V.nils, (V.int .i64 0), V.nils])).bind fun t22 =>
 (zah 10 t22 t148).bind fun _ =>
 (zab (some 10) t22).bind fun t151 =>
 (G zbW [t151, (V.int .i64 1)]).bind fun t152 =>
 (M.lift (Ax.ext 0 t152)).bind fun t153 =>
 (M.lift (Ax.ext 1 t152)).bind fun t154 =>
 (M.lift (Ax.bin .neq t149 (V.int .i64 0))).bind fun t156 =>
 (zaa [(0, t156)] (some (0, false)) (M.lift (Ax.faddr 2 t22))).bind fun t158 =>
 (zaa [(0, t156)] (some (0, false)) (zab none t158)).bind fun t159 =>
 (zaa [(0, t156)] (some (0, false)) (M.pure t141)).bind fun t160 =>
 (zaa [(0, t156)] (some (0, false)) (M.lift (Ax.bin .neq t159 t160))).bind fun t161 =>
 (M.lift (Ax.pick t156 (V.bool true) t161)).bind fun t162 =>
 (zaa [(0, t162)] (some (0, false)) (M.lift (Ax.faddr 3 t22))).bind fun t164 =>
 (zaa [(0, t162)] (some (0, false)) (zab none t164)).bind fun t165 =>
 (zaa [(0, t162)] (some (0, false)) (M.pure t142)).bind fun t166 =>
 (zaa [(0, t162)] (some (0, false)) (M.lift (Ax.bin .neq t165 t166))).bind fun t167 =>
 (M.lift (Ax.pick t162 (V.bool true) t167)).bind fun t168 =>
 (zaa [(0, t168)] (some (0, false)) (M.pure t153)).bind fun t170 =>
 (zaa [(0, t168)] (some (0, false)) (M.lift (vlen t170))).bind fun t171 =>
 (zaa [(0, t168)] (some (0, false)) (M.lift (Ax.bin .lss t171 (V.int .i64 3)))).bind fun t172 =>
 (M.lift (Ax.pick t168 (V.bool true) t172)).bind fun t173 =>
 (zaa [(0, t173)] (some (0, false)) (M.pure t153)).bind fun t175 =>
 (zaa [(0, t173)] (some (0, false)) (M.lift (Ax.iaddr none 1 t175 (V.int .i64 1)))).bind fun t176 =>
 (zaa [(0, t173)] (some (0, false)) (zab none t176)).bind fun t177 =>
 (zaa [(0, t173)] (some (0, false)) (M.lift (Ax.cint .u16 t177))).bind fun t178 =>
 (zaa [(0, t173)] (some (0, false)) (M.lift (Ax.bin .shl t178 (V.int .u64 8)))).bind fun t179 =>
 (zaa [(0, t173)] (some (0, false)) (M.pure t153)).bind fun t180 =>
 (zaa [(0, t173)] (some (0, false)) (M.lift (Ax.iaddr none 1 t180 (V.int .i64 2)))).bind fun t181 =>
 (zaa [(0, t173)] (some (0, false)) (zab none t181)).bind fun t182 =>
 (zaa [(0, t173)] (some (0, false)) (M.lift (Ax.cint .u16 t182))).bind fun t183 =>
 (zaa [(0, t173)] (some (0, false)) (M.lift (Ax.bin .or t179 t183))).bind fun t184 =>
 (zaa [(0, t173)] (some (0, false)) (M.pure t143)).bind fun t185 =>
 (zaa [(0, t173)] (some (0, false)) (M.lift (Ax.bin .neq t184 t185))).bind fun t186 =>
 (M.lift (Ax.pick t173 (V.bool true) t186)).bind fun t187 =>
 M.ite t187
 (M.pure (.ret [(V.bool false)]))
 ((zab (some 7) t18).bind fun t188 =>
 (zah 7 t5 t188).bind fun _ =>
 M.pure (.nrm [])))
 (M.pure (.nrm []))) fun _ =>
 M.pure (.nrm [t65])))))) fun L2 =>
 (M.lift (Ax.bin .add (L.getD 1 .undef) (V.int .i64 1))).bind fun t44 =>
 M.pure (.nrm [(L2.getD 0 .undef), t44]))
 (M.pure (.ex 0 []))
noncomputable def zcG (G : Sem') (t0 : V) : M Res :=
 (G zdV [(V.int .u32 3)]).bind fun t26 =>
 (G zbF []).bind fun t27 =>
 (M.lift (Ax.un .not t27)).bind fun t28 =>
 (zaa [(0, t28)] (some (0, false)) (M.pure t26)).bind fun t30 =>
 (zaa [(0, t28)] (some (0, false)) (M.lift (eqr .ptr false t30 V.nilp))).bind fun t31 =>
 (M.lift (Ax.pick t28 (V.bool true) t31)).bind fun t32 =>
 M.ite t32
 (M.pure (.ret [(V.bool false)]))
 ((M.lift (Ax.build [(V.bool false), (V.int .i64 0), (V.int .i64 0)] [])).bind fun t33 =>
 (M.lift (Ax.build [(V.bool false), (V.int .u16 0), (V.int .u32 0), (V.int .u32 0), (V.int .u16 0), (V.int .u16 0), (V.int .i64 0)] [])).bind fun t34 =>
 (mbox zaE (V.agg [(V.bool false), (V.int .i64 0), (V.int .i64 0)])).bind fun t4 =>
 (mbox za5 (V.agg [(V.bool false), (V.int .u16 0), (V.int .u32 0), (V.int .u32 0), (V.int .u16 0), (V.int .u16 0), (V.int .i64 0)])).bind fun t5 =>
 (zah 3 t4 t33).bind fun _ =>
 (zah 7 t5 t34).bind fun _ =>
 M.blk 0 (
 M.iter (zbJ G t0 t26 t4 t5) [(V.int .i64 0), (V.int .i64 0)]) fun _ =>
 M.pure (.ret [(V.bool true)]))
theorem zdQ {t0 : V} : OkT zbi [t0] (zcG (sem T) t0) := okT (by kernel_rfl) (by kernel_rfl) (by kernel_rfl)
noncomputable def zbI (G : Sem') (t5 t0 t4 t2 t3 : V) (L : List V) : M Res :=
 (M.lift (Ax.bin .lss (L.getD 0 .undef) t5)).bind fun t60 =>
 M.ite t60
 (M.blk 1 (
 (M.lift (Ax.faddr 5 t4)).bind fun t63 =>
 (zab none t63).bind fun t64 =>
 (M.lift (Ax.bin .mul (V.int .i64 4) (L.getD 0 .undef))).bind fun t67 =>
 (M.lift (Ax.bin .add (V.int .i64 12) t67)).bind fun t68 =>
 M.getH.bind fun h3 =>
 (G zaz [t0, t68, (V.int .i64 4)]).bind fun t69 =>
 M.getH.bind fun h3' =>
 (M.unch t63 h3 h3').bind fun _ =>
 (M.lift (Ax.cint .u32 t69)).bind fun t70 =>
 (mslit zeL 1 [(V.int .u32 0)] [(0, 1, t70)]).bind fun t71 =>
 (mappend zeL 1 4 t64 t71).bind fun t72 =>
 (M.lift (Ax.faddr 5 t4)).bind fun t73 =>
 (zah 1 t73 t72).bind fun _ =>
 M.pure (.nrm [])) fun _ =>
 (M.lift (Ax.bin .add (L.getD 0 .undef) (V.int .i64 1))).bind fun t62 =>
 M.pure (.nrm [t62]))
 (M.pure (.ex 0 []))
noncomputable def zds (G : Sem') (t0 : V) : M Res :=
 (mbox zaj (V.agg [(V.bool false), (V.int .i64 0), (V.int .u16 0), (V.int .u32 0), (V.int .u32 0), V.nils, (V.int .i64 0), V.nils, (V.int .i64 0), V.nils])).bind fun t2 =>
 (M.lift (vlen t0)).bind fun t13 =>
 (M.lift (Ax.bin .gtr t13 (V.int .i64 1200))).bind fun t14 =>
 M.ite t14
 ((M.lift (Ax.build [(V.bool false), (V.int .i64 0), (V.int .u16 0), (V.int .u32 0), (V.int .u32 0), V.nils, (V.int .i64 0), V.nils, (V.int .i64 0), V.nils] [])).bind fun t15 =>
 (zah 10 t2 t15).bind fun _ =>
 (zab (some 10) t2).bind fun r0 =>
 M.pure (.ret [r0, (V.int .i64 4)]))
 ((M.lift (vlen t0)).bind fun t17 =>
 (M.lift (Ax.bin .lss t17 (V.int .i64 12))).bind fun t18 =>
 M.ite t18
 ((M.lift (Ax.build [(V.bool false), (V.int .i64 0), (V.int .u16 0), (V.int .u32 0), (V.int .u32 0), V.nils, (V.int .i64 0), V.nils, (V.int .i64 0), V.nils] [])).bind fun t19 =>
 (zah 10 t2 t19).bind fun _ =>
 (zab (some 10) t2).bind fun r0 =>
 M.pure (.ret [r0, (V.int .i64 3)]))
 ((M.lift (Ax.iaddr none 1 t0 (V.int .i64 0))).bind fun t21 =>
 (zab none t21).bind fun t22 =>
 (M.lift (Ax.bin .shr t22 (V.int .u64 6))).bind fun t23 =>
 (M.lift (Ax.bin .neq t23 (V.int .u8 2))).bind fun t24 =>
 M.ite t24
 ((M.lift (Ax.build [(V.bool false), (V.int .i64 0), (V.int .u16 0), (V.int .u32 0), (V.int .u32 0), V.nils, (V.int .i64 0), V.nils, (V.int .i64 0), V.nils] [])).bind fun t25 =>
 (zah 10 t2 t25).bind fun _ =>
 (zab (some 10) t2).bind fun r0 =>
 M.pure (.ret [r0, (V.int .i64 2)]))
 ((M.lift (Ax.iaddr none 1 t0 (V.int .i64 1))).bind fun t27 =>
 (zab none t27).bind fun t28 =>
 (M.lift (Ax.bin .gtr t28 (V.int .u8 127))).bind fun t29 =>
 (M.lift (Ax.iaddr none 1 t0 (V.int .i64 1))).bind fun t31 =>
 (zab none t31).bind fun t32 =>
 (M.lift (Ax.bin .and t32 (V.int .u8 127))).bind fun t33 =>
 (M.lift (Ax.cint .i64 t33)).bind fun t34 =>
 M.getH.bind fun h0 =>
 (G zaz [t0, (V.int .i64 2), (V.int .i64 2)]).bind fun t36 =>
 M.getH.bind fun h0' =>
 (M.unch t31 h0 h0').bind fun _ =>
 (M.unch t27 h0 h0').bind fun _ =>
 M.getH.bind fun h1 =>
 (G zaz [t0, (V.int .i64 4), (V.int .i64 4)]).bind fun t39 =>
 M.getH.bind fun h1' =>
 (M.unch t31 h1 h1').bind fun _ =>
 (M.unch t27 h1 h1').bind fun _ =>
 M.getH.bind fun h2 =>
 (G zaz [t0, (V.int .i64 8), (V.int .i64 4)]).bind fun t42 =>
 M.getH.bind fun h2' =>
 (M.unch t31 h2 h2').bind fun _ =>
 (M.unch t27 h2 h2').bind fun _ =>
 (M.lift (Ax.cint .u16 t36)).bind fun t37 =>
 (M.lift (Ax.cint .u32 t39)).bind fun t40 =>
 (M.lift (Ax.cint .u32 t42)).bind fun t43 =>
 (M.lift (Ax.build [(V.bool false), (V.int .i64 0), (V.int .u16 0), (V.int .u32 0), (V.int .u32 0), V.nils, (V.int .i64 0), V.nils, (V.int .i64 0), V.nils] [(0, 1, t29), (1, 1, t34), (2, 1, t37), (3, 1, t40), (4, 1, t43)])).bind fun t44 =>
 (mbox zaj (V.agg [(V.bool false), (V.int .i64 0), (V.int .u16 0), (V.int .u32 0), (V.int .u32 0), V.nils, (V.int .i64 0), V.nils, (V.int .i64 0), V.nils])).bind fun t4 =>
 (zah 10 t4 t44).bind fun _ =>
 (M.lift (Ax.iaddr none 1 t0 (V.int .i64 0))).bind fun t46 =>
 (zab none t46).bind fun t47 =>
 (M.lift (Ax.bin .and t47 (V.int .u8 15))).bind fun t48 =>
 (M.lift (Ax.cint .i64 t48)).bind fun t49 =>
 (M.lift (Ax.bin .mul (V.int .i64 4) t49)).bind fun t51 =>
 (M.lift (Ax.bin .add (V.int .i64 12) t51)).bind fun t52 =>
 (M.lift (vlen t0)).bind fun t55 =>
 (M.lift (Ax.bin .gtr t52 t55)).bind fun t56 =>
 M.ite t56
 ((M.lift (Ax.build [(V.bool false), (V.int .i64 0), (V.int .u16 0), (V.int .u32 0), (V.int .u32 0), V.nils, (V.int .i64 0), V.nils, (V.int .i64 0), V.nils] [])).bind fun t57 =>
 (zah 10 t2 t57).bind fun _ =>
 (zab (some 10) t2).bind fun r0 =>
 M.pure (.ret [r0, (V.int .i64 3)]))
 (M.blk 0 (
 M.iter (zbI G t49 t0 t4 t2 (V.int .i64 0)) [(V.int .i64 0)]) fun _ =>
 (M.lift (Ax.iaddr none 1 t0 (V.int .i64 0))).bind fun t75 =>
 (zab none t75).bind fun t76 =>
 (M.lift (Ax.bin .shr t76 (V.int .u64 4))).bind fun t77 =>
 (M.lift (Ax.bin .and t77 (V.int .u8 1))).bind fun t78 =>
 (M.lift (Ax.bin .eql t78 (V.int .u8 1))).bind fun t79 =>
 M.join (M.ite t79
 ((M.lift (Ax.bin .add t52 (V.int .i64 4))).bind fun t81 =>
 (M.lift (vlen t0)).bind fun t83 =>
 (M.lift (Ax.bin .gtr t81 t83)).bind fun t84 =>
 M.ite t84
 ((M.lift (Ax.build [(V.bool false), (V.int .i64 0), (V.int .u16 0), (V.int .u32 0), (V.int .u32 0), V.nils, (V.int .i64 0), V.nils, (V.int .i64 0), V.nils] [])).bind fun t85 =>
 (zah 10 t2 t85).bind fun _ =>
 (zab (some 10) t2).bind fun r0 =>
 M.pure (.ret [r0, (V.int .i64 3)]))
 ((G zaz [t0, t52, (V.int .i64 2)]).bind fun t88 =>
 (M.lift (Ax.cint .i64 t88)).bind fun t89 =>
 (M.lift (Ax.faddr 6 t4)).bind fun t90 =>
 (zah 1 t90 t89).bind fun _ =>
 (M.lift (Ax.bin .add t52 (V.int .i64 2))).bind fun t93 =>
 (G zaz [t0, t93, (V.int .i64 2)]).bind fun t94 =>
 (M.lift (Ax.cint .i64 t94)).bind fun t95 =>
 (M.lift (Ax.bin .add t52 (V.int .i64 4))).bind fun t97 =>
 (M.lift (Ax.bin .mul (V.int .i64 4) t95)).bind fun t100 =>
 (M.lift (Ax.bin .add t97 t100)).bind fun t101 =>
 (M.lift (vlen t0)).bind fun t103 =>
 (M.lift (Ax.bin .gtr t101 t103)).bind fun t104 =>
 M.ite t104
 ((M.lift (Ax.build [(V.bool false), (V.int .i64 0), (V.int .u16 0), (V.int .u32 0), (V.int .u32 0), V.nils, (V.int .i64 0), V.nils, (V.int .i64 0), V.nils] [])).bind fun t105 =>
 (zah 10 t2 t105).bind fun _ =>
 (zab (some 10) t2).bind fun r0 =>
 M.pure (.ret [r0, (V.int .i64 3)]))
 ((M.lift (Ax.faddr 6 t4)).bind fun t106 =>
 (zab none t106).bind fun t107 =>
 (M.lift (Ax.bin .neq t107 (V.int .i64 48862))).bind fun t108 =>
 (zaa [(0, t108)] (some (0, true)) (M.lift (Ax.faddr 6 t4))).bind fun t110 =>
 (zaa [(0, t108)] (some (0, true)) (zab none t110)).bind fun t111 =>
 (zaa [(0, t108)] (some (0, true)) (M.lift (Ax.bin .neq t111 (V.int .i64 4096)))).bind fun t112 =>
 (M.lift (Ax.pick t108 t112 (V.bool false))).bind fun t113 =>
 M.ite t113
 ((M.lift (Ax.build [(V.bool false), (V.int .i64 0), (V.int .u16 0), (V.int .u32 0), (V.int .u32 0), V.nils, (V.int .i64 0), V.nils, (V.int .i64 0), V.nils] [])).bind fun t114 =>
 (zah 10 t2 t114).bind fun _ =>
 (zab (some 10) t2).bind fun r0 =>
 M.pure (.ret [r0, (V.int .i64 2)]))
 ((M.lift (Ax.bin .mul (V.int .i64 4) t95)).bind fun t120 =>
 (M.lift (Ax.bin .add t97 t120)).bind fun t121 =>
 (M.lift (vslice .sl 1 t0 (some t97) (some t121) none)).bind fun t122 =>
 (M.lift (Ax.faddr 6 t4)).bind fun t123 =>
 (zab none t123).bind fun t124 =>
 (G zba [t122, t124]).bind fun t125 =>
 (M.lift (Ax.ext 0 t125)).bind fun t126 =>
 (M.lift (Ax.ext 1 t125)).bind fun t127 =>
 (M.lift (Ax.un .not t127)).bind fun t129 =>
 M.ite t129
 ((M.lift (Ax.build [(V.bool false), (V.int .i64 0), (V.int .u16 0), (V.int .u32 0), (V.int .u32 0), V.nils, (V.int .i64 0), V.nils, (V.int .i64 0), V.nils] [])).bind fun t130 =>
 (zah 10 t2 t130).bind fun _ =>
 (zab (some 10) t2).bind fun r0 =>
 M.pure (.ret [r0, (V.int .i64 2)]))
 ((M.lift (Ax.faddr 7 t4)).bind fun t132 =>
 (zah 1 t132 t126).bind fun _ =>
 (M.lift (Ax.bin .mul (V.int .i64 4) t95)).bind fun t135 =>
 (M.lift (Ax.bin .add t97 t135)).bind fun t136 =>
 M.pure (.nrm [t136]))))))
 (M.pure (.nrm [t52]))) fun L2 =>
 (M.lift (vlen t0)).bind fun t138 =>
 (M.lift (Ax.iaddr none 1 t0 (V.int .i64 0))).bind fun t140 =>
 (zab none t140).bind fun t141 =>
 (M.lift (Ax.bin .shr t141 (V.int .u64 5))).bind fun t142 =>
 (M.lift (Ax.bin .and t142 (V.int .u8 1))).bind fun t143 =>
 (M.lift (Ax.bin .eql t143 (V.int .u8 1))).bind fun t144 =>
 M.join (M.ite t144
 ((M.lift (vlen t0)).bind fun t147 =>
 (M.lift (Ax.bin .sub t147 (V.int .i64 1))).bind fun t148 =>
 (M.lift (Ax.iaddr none 1 t0 t148)).bind fun t149 =>
 (zab none t149).bind fun t150 =>
 (M.lift (Ax.cint .i64 t150)).bind fun t151 =>
 (M.lift (Ax.faddr 8 t4)).bind fun t152 =>
 (zah 1 t152 t151).bind fun _ =>
 (M.lift (Ax.faddr 8 t4)).bind fun t153 =>
 (zab none t153).bind fun t154 =>
 (M.lift (Ax.bin .eql t154 (V.int .i64 0))).bind fun t155 =>
 (zaa [(0, t155)] (some (0, false)) (M.lift (Ax.faddr 8 t4))).bind fun t157 =>
 (zaa [(0, t155)] (some (0, false)) (zab none t157)).bind fun t158 =>
 (zaa [(0, t155)] (some (0, false)) (M.pure t0)).bind fun t159 =>
 (zaa [(0, t155)] (some (0, false)) (M.lift (vlen t159))).bind fun t160 =>
 (zaa [(0, t155)] (some (0, false)) (M.pure (L2.getD 0 .undef))).bind fun t161 =>
 (zaa [(0, t155)] (some (0, false)) (M.lift (Ax.bin .sub t160 t161))).bind fun t162 =>
 (zaa [(0, t155)] (some (0, false)) (M.lift (Ax.bin .gtr t158 t162))).bind fun t163 =>
 (M.lift (Ax.pick t155 (V.bool true) t163)).bind fun t164 =>
 M.ite t164
 ((M.lift (Ax.build [(V.bool false), (V.int .i64 0), (V.int .u16 0), (V.int .u32 0), (V.int .u32 0), V.nils, (V.int .i64 0), V.nils, (V.int .i64 0), V.nils] [])).bind fun t165 =>
 (zah 10 t2 t165).bind fun _ =>
 (zab (some 10) t2).bind fun r0 =>
 M.pure (.ret [r0, (V.int .i64 2)]))
 ((M.lift (vlen t0)).bind fun t167 =>
 (M.lift (Ax.faddr 8 t4)).bind fun t168 =>
 (zab none t168).bind fun t169 =>
 (M.lift (Ax.bin .sub t167 t169)).bind fun t170 =>
 M.pure (.nrm [t170])))
 (M.pure (.nrm [t138]))) fun L3 =>
 (mslit zaD 0 [(V.int .u8 0)] []).bind fun t171 =>
 (M.lift (vslice .sl 1 t0 (some (L2.getD 0 .undef)) (some (L3.getD 0 .undef)) none)).bind fun t175 =>
 (mappend zaD 1 1 t171 t175).bind fun t176 =>
 (M.lift (Ax.faddr 9 t4)).bind fun t177 =>
 (zah 1 t177 t176).bind fun _ =>
 (zab (some 10) t4).bind fun t178 =>
 (zah 10 t2 t178).bind fun _ =>
 (zab (some 10) t2).bind fun r0 =>
 M.pure (.ret [r0, (V.int .i64 0)])))))
theorem zeH {t0 : V} : OkT zbO [t0] (zds (sem T) t0) := okT (by kernel_rfl) (by kernel_rfl) (by kernel_rfl)
end Go.Ax
/- FnD5 -/
namespace Go.Ax
open Go.Proofs
noncomputable def zcT (G : Sem') (t2 t0 t1 t6 : V) (L : List V) : M Res :=
 (M.lift (Ax.bin .lss (L.getD 1 .undef) t2)).bind fun t11 =>
 M.ite t11
 (M.blk 1 (
 (M.lift (Ax.bin .shl (L.getD 0 .undef) (V.int .u64 8))).bind fun t15 =>
 (M.lift (Ax.bin .add t1 (L.getD 1 .undef))).bind fun t19 =>
 (M.lift (Ax.iaddr none 1 t0 t19)).bind fun t20 =>
 (zab none t20).bind fun t21 =>
 (M.lift (Ax.cint .u64 t21)).bind fun t22 =>
 (M.lift (Ax.bin .or t15 t22)).bind fun t23 =>
 M.pure (.nrm [t23])) fun L0 =>
 (M.lift (Ax.bin .add (L.getD 1 .undef) (V.int .i64 1))).bind fun t13 =>
 M.pure (.nrm [(L0.getD 0 .undef), t13]))
 (M.pure (.ex 0 [(L.getD 0 .undef)]))
noncomputable def zeb (G : Sem') (t0 t1 t2 : V) : M Res :=
 M.blk 0 (
 M.iter (zcT G t2 t0 t1 (V.int .u64 0)) [(V.int .u64 0), (V.int .i64 0)]) fun L1 =>
 M.pure (.ret [(L1.getD 0 .undef)])
theorem zfr {t0 t1 t2 : V} : OkT zaz [t0, t1, t2] (zeb (sem T) t0 t1 t2) := okT (by kernel_rfl) (by kernel_rfl) (by kernel_rfl)
noncomputable def zcE (G : Sem') (t1 t0 : V) (L : List V) : M Res :=
 (M.lift (vlen t0)).bind fun t13 =>
 (M.lift (Ax.bin .lss (L.getD 1 .undef) t13)).bind fun t14 =>
 M.ite t14
 (M.blk 1 (
 (M.lift (Ax.iaddr none 1 t0 (L.getD 1 .undef))).bind fun t17 =>
 (zab none t17).bind fun t18 =>
 (M.lift (Ax.bin .eql t18 (V.int .u8 0))).bind fun t19 =>
 M.ite t19
 ((M.lift (Ax.bin .add (L.getD 1 .undef) (V.int .i64 1))).bind fun t21 =>
 M.pure (.ex 1 [(L.getD 0 .undef), t21]))
 ((M.lift (Ax.iaddr none 1 t0 (L.getD 1 .undef))).bind fun t24 =>
 (zab none t24).bind fun t25 =>
 (M.lift (Ax.cint .i64 t25)).bind fun t26 =>
 (M.lift (Ax.bin .add (L.getD 1 .undef) (V.int .i64 2))).bind fun t28 =>
 (M.lift (Ax.bin .eql t1 (V.int .i64 48862))).bind fun t30 =>
 M.join (M.ite t30
 ((M.lift (Ax.iaddr none 1 t0 (L.getD 1 .undef))).bind fun t33 =>
 (zab none t33).bind fun t34 =>
 (M.lift (Ax.bin .shr t34 (V.int .u64 4))).bind fun t35 =>
 (M.lift (Ax.cint .i64 t35)).bind fun t36 =>
 (M.lift (Ax.iaddr none 1 t0 (L.getD 1 .undef))).bind fun t39 =>
 (zab none t39).bind fun t40 =>
 (M.lift (Ax.bin .and t40 (V.int .u8 15))).bind fun t41 =>
 (M.lift (Ax.cint .i64 t41)).bind fun t42 =>
 (M.lift (Ax.bin .add t42 (V.int .i64 1))).bind fun t43 =>
 (M.lift (Ax.bin .add (L.getD 1 .undef) (V.int .i64 1))).bind fun t45 =>
 (M.lift (Ax.bin .eql t36 (V.int .i64 15))).bind fun t47 =>
 M.ite t47
 (M.pure (.ret [(L.getD 0 .undef), (V.bool true)]))
 ((M.lift (Ax.bin .eql t36 (V.int .i64 0))).bind fun t50 =>
 M.ite t50
 (M.pure (.ret [V.nils, (V.bool false)]))
 (M.pure (.nrm [t36, t43, t45]))))
 ((M.lift (Ax.bin .add (L.getD 1 .undef) (V.int .i64 1))).bind fun t52 =>
 (M.lift (vlen t0)).bind fun t54 =>
 (M.lift (Ax.bin .lss t52 t54)).bind fun t55 =>
 M.join (M.ite t55
 ((M.lift (Ax.bin .add (L.getD 1 .undef) (V.int .i64 1))).bind fun t58 =>
 (M.lift (Ax.iaddr none 1 t0 t58)).bind fun t59 =>
 (zab none t59).bind fun t60 =>
 (M.lift (Ax.cint .i64 t60)).bind fun t61 =>
 M.pure (.nrm [t61]))
 (M.pure (.nrm [(V.int .i64 0)]))) fun L0 =>
 M.pure (.nrm [t26, (L0.getD 0 .undef), t28]))) fun L1 =>
 (M.lift (vlen t0)).bind fun t64 =>
 (M.lift (Ax.bin .gtr (L1.getD 2 .undef) t64)).bind fun t65 =>
 (zaa [(0, t65)] (some (0, false)) (M.pure (L1.getD 1 .undef))).bind fun t67 =>
 (zaa [(0, t65)] (some (0, false)) (M.pure t0)).bind fun t68 =>
 (zaa [(0, t65)] (some (0, false)) (M.lift (vlen t68))).bind fun t69 =>
 (zaa [(0, t65)] (some (0, false)) (M.pure (L1.getD 2 .undef))).bind fun t70 =>
 (zaa [(0, t65)] (some (0, false)) (M.lift (Ax.bin .sub t69 t70))).bind fun t71 =>
 (zaa [(0, t65)] (some (0, false)) (M.lift (Ax.bin .gtr t67 t71))).bind fun t72 =>
 (M.lift (Ax.pick t65 (V.bool true) t72)).bind fun t73 =>
 M.ite t73
 (M.pure (.ret [V.nils, (V.bool false)]))
 ((mslit zaD 0 [(V.int .u8 0)] []).bind fun t76 =>
 (M.lift (Ax.bin .add (L1.getD 2 .undef) (L1.getD 1 .undef))).bind fun t81 =>
 (M.lift (vslice .sl 1 t0 (some (L1.getD 2 .undef)) (some t81) none)).bind fun t82 =>
 (mappend zaD 1 1 t76 t82).bind fun t83 =>
 (M.lift (Ax.build [(V.int .i64 0), V.nils] [(0, 1, (L1.getD 0 .undef)), (1, 1, t83)])).bind fun t84 =>
 (mslit zcH 1 [(V.int .i64 0), V.nils] [(0, 2, t84)]).bind fun t85 =>
 (mappend zcH 2 32 (L.getD 0 .undef) t85).bind fun t86 =>
 (M.lift (Ax.bin .add (L1.getD 2 .undef) (L1.getD 1 .undef))).bind fun t89 =>
 M.pure (.nrm [t86, t89])))) fun L2 =>
 M.pure (.nrm [(L2.getD 0 .undef), (L2.getD 1 .undef)]))
 (M.pure (.ex 0 [(L.getD 0 .undef)]))
noncomputable def zcV (G : Sem') (t0 t1 : V) : M Res :=
 M.blk 0 (
 M.iter (zcE G t1 t0) [V.nils, (V.int .i64 0)]) fun L3 =>
 M.pure (.ret [(L3.getD 0 .undef), (V.bool true)])
theorem zd6 {t0 t1 : V} : OkT zba [t0, t1] (zcV (sem T) t0 t1) := okT (by kernel_rfl) (by kernel_rfl) (by kernel_rfl)
noncomputable def zcj (G : Sem') (t1 t2 : V) (L : List V) : M Res :=
 (M.lift (Ax.faddr 7 t2)).bind fun t8 =>
 (zab none t8).bind fun t9 =>
 (M.lift (vlen t9)).bind fun t10 =>
 (M.lift (Ax.bin .lss (L.getD 0 .undef) t10)).bind fun t11 =>
 M.ite t11
 (M.blk 1 (
 (M.lift (Ax.faddr 7 t2)).bind fun t14 =>
 (zab none t14).bind fun t15 =>
 (M.lift (Ax.iaddr none 2 t15 (L.getD 0 .undef))).bind fun t17 =>
 (M.lift (Ax.faddr 0 t17)).bind fun t18 =>
 (zab none t18).bind fun t19 =>
 (M.lift (Ax.bin .eql t19 t1)).bind fun t21 =>
 M.ite t21
 ((M.lift (Ax.faddr 7 t2)).bind fun t22 =>
 (zab none t22).bind fun t23 =>
 (M.lift (Ax.iaddr none 2 t23 (L.getD 0 .undef))).bind fun t25 =>
 (M.lift (Ax.faddr 1 t25)).bind fun t26 =>
 (zab none t26).bind fun t27 =>
 M.pure (.ret [t27, (V.bool true)]))
 (M.pure (.nrm []))) fun _ =>
 (M.lift (Ax.bin .add (L.getD 0 .undef) (V.int .i64 1))).bind fun t13 =>
 M.pure (.nrm [t13]))
 (M.pure (.ex 0 []))
noncomputable def zdI (G : Sem') (t0 t1 : V) : M Res :=
 (mbox zaj t0).bind fun t2 =>
 M.blk 0 (
 M.iter (zcj G t1 t2) [(V.int .i64 0)]) fun _ =>
 M.pure (.ret [V.nils, (V.bool false)])
theorem zeQ {t0 t1 : V} : OkT zbW [t0, t1] (zdI (sem T) t0 t1) := okT (by kernel_rfl) (by kernel_rfl) (by kernel_rfl)
end Go.Ax
/- Dep3 -/
namespace Go.Ax.D9
open Go.Ax
def idxV : Option Nat → V
 | some i => .int .i64 (i : Nat)
 | none => .int .i64 (-1)
theorem IndexFunc_ok {lo : Nat} {H : Heap} {v f : V} {l : List Int} (h : Il lo H v l) (P : Int → Bool) (hn : l.length ≤ 1099511627776)
  (hf : ∀ H', Grow H H' → ∀ (x : Int), Ok (callv (sem T) f [.int .i64 x]) H' fun r H'' => r = .bool (P x) ∧ Grow H' H'') :
  Ok (sem T zbg [v, f]) H fun r H' => r = idxV (l.findIdx? P) ∧ Grow H H' := by
 refine zdO ?_
 unfold zcD
 simp (disch := omega) only [↓RD, RZ, h.vlen]
 refine zaP (fun k L H' => L = [.int .i64 (k : Nat)] ∧ Grow H H' ∧ ∀ j (hj : j < l.length), j < k → P l[j] = false) l.length ?_ ?_ ?_
 ·exact ⟨rfl, Grow.refl _, fun j hj hk => absurd hk (by omega)⟩
 ·rintro k L H1 hk ⟨rfl, s1, hP⟩
  obtain ⟨q, i1, l1, -⟩ := il_at (h.ext s1) (i := (k : Nat)) (by omega) (by omega)
  rw [Int.toNat_natCast, getD_get hk] at l1
  unfold zbG
  simp (disch := omega) only [↓RD, RZ, i1, l1]
  refine zac (hf H1 s1 _) ?_
  rintro _ H2 ⟨rfl, s2⟩
  cases hp : P l[k] with
  | true =>
   simp (disch := omega) only [↓RD, RZ]
   refine ⟨?_, s1.trans s2⟩
   have : l.findIdx? P = some k := List.findIdx?_eq_some_iff_getElem.2 ⟨hk, hp, fun j hj => by rw [hP j (by omega) hj]; decide⟩
   rw [this]; rfl
  | false =>
   simp (disch := omega) only [↓RD, RZ]
   refine ⟨by rfl, s1.trans s2, fun j hj hjk => ?_⟩
   rcases Nat.lt_or_ge j k with h | h
   ·exact hP j hj h
   ·have : j = k := by omega
    subst this; exact hp
 ·rintro L H1 ⟨rfl, s1, hP⟩
  unfold zbG
  simp (disch := omega) only [↓RD, RZ]
  refine ⟨?_, s1⟩
  have : l.findIdx? P = none := List.findIdx?_eq_none_iff.2 fun x hx => by
   obtain ⟨j, hj, rfl⟩ := List.getElem_of_mem hx
   exact hP j hj hj
  rw [this]; rfl
theorem within1_ok {H : Heap} (x a b : Int) (p q : Nat) (hp : H.get p = some ⟨zcI, [.int .i64 a], none⟩) (hq : H.get q = some ⟨zcI, [.int .i64 b], none⟩) :
  Ok (sem T zcl [.int .i64 x, .ptr p 0, .ptr q 0]) H fun r H' => r = .bool (!decide (a ≤ x ∧ x ≤ b)) ∧ H' = H := by
 refine zfu ?_
 unfold zee
 by_cases h1 : x < a
 ·simp (disch := omega) only [↓RD, RZ, hp, hq]
  rw [decide_eq_false (by omega)]; rfl
 ·by_cases h2 : b < x
  ·simp (disch := omega) only [↓RD, RZ, hp, hq]
   rw [decide_eq_false (by omega)]; rfl
  ·simp (disch := omega) only [↓RD, RZ, hp, hq]
   rw [decide_eq_true (by omega)]; rfl
theorem all_idx {α : Type} (P : α → Bool) (xs : List α) : (xs.findIdx? (fun x => !P x)).isNone = xs.all P := by
 cases h : xs.findIdx? (fun x => !P x) with
 | none =>
  have := List.findIdx?_eq_none_iff.1 h
  exact (List.all_eq_true.2 fun x hx => by simpa using this x hx).symm
 | some i =>
  obtain ⟨h1, h2, _⟩ := List.findIdx?_eq_some_iff_getElem.1 h
  refine (Bool.eq_false_iff.2 fun e => ?_).symm
  have := List.all_eq_true.1 e _ (List.getElem_mem h1)
  rw [this] at h2; cases h2
theorem Contains_ok {lo : Nat} {H : Heap} {v f : V} {l : List Int} (h : Il lo H v l) (P : Int → Bool) (hn : l.length ≤ 1099511627776)
  (hf : ∀ H', Grow H H' → ∀ (x : Int), Ok (callv (sem T) f [.int .i64 x]) H' fun r H'' => r = .bool (!P x) ∧ Grow H' H'') :
  Ok (sem T za6 [v, f]) H fun r H' => r = .bool (!l.all P) ∧ Grow H H' := by
 refine zdn ?_
 unfold zce
 refine zac (IndexFunc_ok h (fun x => !P x) hn hf) ?_
 rintro _ H1 ⟨rfl, s1⟩
 rw [← all_idx]
 cases l.findIdx? (fun x => !P x) with
 | none => unfold idxV; simp (disch := omega) only [↓RD, RZ]; exact ⟨rfl, s1⟩
 | some i => unfold idxV; simp (disch := omega) only [↓RD, RZ]; exact ⟨rfl, s1⟩
theorem within_ok {lo : Nat} {H : Heap} {v : V} {l : List Int} (h : Il lo H v l) (n a b : Int) (hl : l.length ≤ 1099511627776) :
  Ok (sem T zaX [v, .int .i64 n, .int .i64 a, .int .i64 b]) H fun r H' => r = .bool (wi l n a b) ∧ Grow H H' := by
 refine zfV ?_
 unfold ze3
 simp (disch := omega) only [↓RD, RZ, h.vlen]
 generalize hH2 : Heap.new (Heap.new H _) _ = H2
 have s2 : Grow H H2 := by rw [← hH2]; exact (Grow.new _ _).trans (Grow.new _ _)
 have n2 : H2.next = H.next + 2 := by rw [← hH2]; rfl
 have g1 : H2.get H.next = some ⟨zcI, [.int .i64 a], none⟩ := by rw [← hH2, zat _ _ (by rw [zap]; omega), zao]
 have g2 : H2.get (H.next + 1) = some ⟨zcI, [.int .i64 b], none⟩ := by rw [← hH2]; exact zao _ _
 clear hH2
 unfold wi
 by_cases hn : (l.length : Int) = n
 ·rw [decide_eq_true hn, Bool.true_and]
  simp (disch := omega) only [↓RD, RZ, hn]
  refine zac (Contains_ok (h.ext s2) (fun x => decide (a ≤ x ∧ x ≤ b)) hl fun H3 s3 x => ?_) ?_
  ·refine zaM (within1_ok x a b _ _ ((s3.same _ (by omega)).trans g1) ((s3.same _ (by omega)).trans g2)) ?_
   rintro _ _ ⟨rfl, rfl⟩
   exact ⟨rfl, Grow.refl _⟩
  ·rintro _ H3 ⟨rfl, s3⟩
   simp (disch := omega) only [↓RD, RZ]
   exact ⟨by unfold inr; simp, s2.trans s3⟩
 ·rw [decide_eq_false hn]
  simp (disch := omega) only [↓RD, RZ]
  exact ⟨rfl, s2⟩
theorem diffs_ok {lo : Nat} {H : Heap} {v : V} {l : List Int} (h : Il lo H v l) (many : Nat) (most : Int) (hl : l.length ≤ 1099511627776) :
  Ok (sem T zcu [v, .int .i64 many, .int .i64 most]) H fun r H' => r = .bool (di l many most) ∧ Grow H H' := by
 refine zf7 ?_
 unfold zfj
 unfold di
 by_cases hm : l.length ≤ many
 ·rw [decide_eq_true hm, Bool.true_and]
  simp (disch := omega) only [↓RD, RZ, h.vlen]
  refine zac (within_ok h _ _ _ hl) ?_
  rintro _ H1 ⟨rfl, s1⟩
  simp (disch := omega) only [↓RD, RZ]
  exact ⟨by simp [wi], s1⟩
 ·rw [decide_eq_false hm]
  simp (disch := omega) only [↓RD, RZ, h.vlen]
  exact ⟨rfl, Grow.refl _⟩
def nxV : Option Nat → V
 | some k => .tup [.int .i64 (k : Nat), .bool true]
 | none => .tup [.int .i64 0, .bool false]
theorem next_ok {H : Heap} (s t : Tm) (a b c d e g : V) (hs : 0 ≤ s.sp ∧ s.sp ≤ 3) (ht : 0 ≤ s.te ∧ s.te ≤ 7) (ha : a.cells = [a] ∧ a.okc = true) (hb : b.cells = [b] ∧ b.okc = true) (hc : c.cells = [c] ∧ c.okc = true) (hd : d.cells = [d] ∧ d.okc = true) (he : e.cells = [e] ∧ e.okc = true) (hg : g.cells = [g] ∧ g.okc = true) :
  Ok (sem T zdl [.agg [.int .i64 s.sp, .int .i64 s.te, a, b, c], .agg [.int .i64 t.sp, .int .i64 t.te, d, e, g]]) H fun r H' => r = nxV (nx s t) ∧ Grow H H' := by
 refine zgj ?_
 unfold zfy
 have g2 : ∀ (x y : Blk), Grow H ((H.new x).new y) := fun x y => (Grow.new _ _).trans (Grow.new _ _)
 simp (disch := first | omega | (simp only [RY] <;> omega) | decide) only [↓RD, RZ, Nat.reduceAdd, ha.1, ha.2, hb.1, hb.2, hc.1, hc.2, hd.1, hd.2, he.1, he.2, hg.1, hg.2]
 unfold nx
 by_cases h1 : t.sp = s.sp
 ·by_cases h2 : t.te = s.te
  ·rw [if_pos ⟨h1, h2⟩]
   simp (disch := first | omega | (simp only [RY] <;> omega) | decide) only [↓RD, RZ, Nat.reduceAdd, h1, h2]
   exact ⟨rfl, g2 _ _⟩
  ·rw [if_neg (fun h => h2 h.2)]
   by_cases h3 : t.te = s.te + 1
   ·rw [if_pos ⟨h1, h3⟩]
    simp (disch := first | omega | (simp only [RY] <;> omega) | decide) only [↓RD, RZ, Nat.reduceAdd, h1, h3]
    exact ⟨rfl, g2 _ _⟩
   ·rw [if_neg (fun h => h3 h.2), if_neg (by omega)]
    simp (disch := first | omega | (simp only [RY] <;> omega) | decide) only [↓RD, RZ, Nat.reduceAdd, h1]
    exact ⟨rfl, g2 _ _⟩
 ·rw [if_neg (fun h => h1 h.1), if_neg (fun h => h1 h.1)]
  by_cases h2 : t.sp = s.sp + 1
  ·by_cases h3 : t.te = 0
   ·rw [if_pos ⟨h2, h3⟩]
    simp (disch := first | omega | (simp only [RY] <;> omega) | decide) only [↓RD, RZ, Nat.reduceAdd, h2, h3]
    exact ⟨rfl, g2 _ _⟩
   ·rw [if_neg (fun h => h3 h.2)]
    simp (disch := first | omega | (simp only [RY] <;> omega) | decide) only [↓RD, RZ, Nat.reduceAdd, h2]
    exact ⟨rfl, g2 _ _⟩
  ·rw [if_neg (fun h => h2 h.1)]
   simp (disch := first | omega | (simp only [RY] <;> omega) | decide) only [↓RD, RZ, Nat.reduceAdd]
   exact ⟨rfl, g2 _ _⟩
end Go.Ax.D9
/- Dep4 -/
namespace Go.Ax.D9
open Go.Ax
theorem pl5 {H : Heap} {p a b c d e : V} {own : Option Nat} (h : Pl H p [a, b, c, d, e] own) : LdR none H (fa p 0) a ∧ LdR none H (fa p 1) b ∧ LdR none H (fa p 2) c ∧ LdR none H (fa p 3) d ∧ LdR none H (fa p 4) e ∧ LdR (some 5) H p (.agg [a, b, c, d, e]) :=
 ⟨fun f Q => by rw [h.ld (by simp)]; exact b_lift, fun f Q => by rw [h.ld (by simp)]; exact b_lift, fun f Q => by rw [h.ld (by simp)]; exact b_lift, fun f Q => by rw [h.ld (by simp)]; exact b_lift, fun f Q => by rw [h.ld (by simp)]; exact b_lift, h.all⟩
theorem pl2 {H : Heap} {p a b : V} {own : Option Nat} (h : Pl H p [a, b] own) : LdR none H (fa p 0) a ∧ LdR none H (fa p 1) b ∧ LdR (some 2) H p (.agg [a, b]) :=
 ⟨fun f Q => by rw [h.ld (by simp)]; exact b_lift, fun f Q => by rw [h.ld (by simp)]; exact b_lift, h.all⟩
theorem mm1 (a b : Int) : Ax.minmax true (.int .i64 a) [.int .i64 b] = some (.int .i64 (max a b)) := by
 simp only [Ax.minmax, Ax.min2, Option.bind_some, if_true]
 congr 2
 split <;> omega
theorem cel_nils : Cel .nils := ⟨rfl, rfl⟩
noncomputable def dec (p : Prop) : Bool := @decide p (Classical.propDecidable _)
theorem dec_yes {p : Prop} (h : p) : dec p = true := by unfold dec; exact @decide_eq_true _ (Classical.propDecidable _) h
theorem dec_no {p : Prop} (h : ¬ p) : dec p = false := by unfold dec; exact @decide_eq_false _ (Classical.propDecidable _) h
theorem dec_iff {p : Prop} : dec p = true ↔ p := by unfold dec; exact @decide_eq_true_iff _ (Classical.propDecidable _)
def Lay (ts : List Tm) : Prop := (1 ≤ ts.length ∧ ts.length ≤ 64) ∧ ∀ i, i < ts.length → LayAt ts i
def prev (ts : List Tm) (k : Nat) : Tm := if k = 0 then Tm0 else ts.getD (k - 1) Tm0
theorem prev_rng {ts : List Tm} {k : Nat} (h : ∀ j, j < k → LayAt ts j) : (0 ≤ (prev ts k).sp ∧ (prev ts k).sp ≤ 3) ∧ 0 ≤ (prev ts k).te ∧ (prev ts k).te ≤ 7 := by
 unfold prev
 split
 ·simp [Tm0]
 ·have := layAt_rng (h (k - 1) (by omega))
  omega
theorem prev_succ {ts : List Tm} {k : Nat} (h : k < ts.length) : prev ts (k + 1) = ts[k] := by
 unfold prev
 rw [if_neg (by omega), Nat.add_sub_cancel, getD_get h]
theorem layAt_iff {ts : List Tm} {k : Nat} (hk : k < ts.length) (h : ∀ j, j < k → LayAt ts j) : LayAt ts k ↔ ∃ m, nx (prev ts k) ts[k] = some m ∧ (k = 0 → m = 0) ∧ ts[k].sp ≤ 3 ∧ ts[k].te ≤ 7 := by
 have hp := prev_rng h
 unfold LayAt
 dsimp only
 rw [getD_get hk]
 by_cases k0 : k = 0
 ·rw [if_pos k0]
  have : prev ts k = Tm0 := by unfold prev; rw [if_pos k0]
  rw [this]
  unfold nx Tm0
  dsimp only
  constructor
  ·rintro ⟨h1, h2⟩
   rw [if_pos ⟨h1, h2⟩]
   exact ⟨0, rfl, fun _ => rfl, by omega, by omega⟩
  ·rintro ⟨m, h1, h2, h3, h4⟩
   have := h2 k0
   subst this
   split at h1
   ·assumption
   ·split at h1
    ·cases h1
    ·split at h1 <;> cases h1
 ·rw [if_neg k0]
  have e : prev ts k = ts.getD (k - 1) Tm0 := by unfold prev; rw [if_neg k0]
  rw [← e]
  constructor
  ·rintro ⟨h1, h2, h3, h4, h5⟩
   obtain ⟨m, hm⟩ := Option.isSome_iff_exists.1 h1
   exact ⟨m, hm, fun h => absurd h k0, by omega, by omega⟩
  ·rintro ⟨m, h1, h2, h3, h4⟩
   refine ⟨by rw [h1]; rfl, ?_⟩
   unfold nx at h1
   split at h1
   ·omega
   ·split at h1
    ·omega
    ·split at h1
     ·omega
     ·cases h1
theorem layers_ok {lo : Nat} {H : Heap} {s : Sr} {a b c : V} (h : SrC lo H s a b c) (hn : s.ts.length ≤ 1099511627776) :
  Ok (sem T zcN [.agg (scells s a b c)]) H fun r H' => r = .bool (dec (Lay s.ts)) ∧ Grow H H' := by
 refine zfW ?_
 unfold ze4
 unfold scells
 simp (disch := first | omega | (simp only [RY] <;> omega) | decide) only [↓RD, RZ, eq_self, Int.reduceToNat, Int.reduceAdd, Nat.reduceAdd, Nat.reduceSub, Nat.reduceMul, Nat.reduceLeDiff, h.ts.cells1, h.ts.okc, h.pro.cells1, h.pro.okc, h.siz.cells1, h.siz.okc, h.ts.vlen]
 generalize hH1 : Heap.set _ _ _ = H1
 have n1 : H1.next = H.next + 2 := by rw [← hH1]; rfl
 have s1 : Grow H H1 := by rw [← hH1]; exact ((Grow.new H _).trans (Grow.new _ _)).set (by omega) _
 have g1 : H1.get H.next = some ⟨zag, scells s a b c, none⟩ := by rw [← hH1, zai _ _ (by omega), zat _ _ (by rw [zap]; omega), zao]; rfl
 have b1 : H1.get (H.next + 1) = some ⟨zak, [.int .i64 0, .int .i64 0, .nils, .nils, .nils], none⟩ := by rw [← hH1]; exact zan _ _ _
 clear hH1
 unfold scells at g1
 refine zaP (fun k L H' => L = [.int .i64 (k : Nat)] ∧ Grow H H' ∧ H1.next ≤ H'.next ∧ H'.get H.next = some ⟨zag, [.int .i64 s.off, .int .i64 s.tar, a, .int .i64 s.cha, b, c], none⟩ ∧ (∀ j, j < k → LayAt s.ts j) ∧ ∃ x y z, (Cel x ∧ Cel y ∧ Cel z) ∧ H'.get (H.next + 1) = some ⟨zak, [.int .i64 (prev s.ts k).sp, .int .i64 (prev s.ts k).te, x, y, z], none⟩) s.ts.length ?_ ?_ ?_
 ·exact ⟨rfl, s1, Nat.le_refl _, g1, fun j hj => absurd hj (by omega), .nils, .nils, .nils, ⟨cel_nils, cel_nils, cel_nils⟩, b1⟩
 ·rintro k L H2 hk ⟨rfl, s2, n2, g2, hP, x, y, z, ⟨cx, cy, cz⟩, b2⟩
  obtain ⟨q, d, e, f, i1, l1, w1⟩ := (h.ts.ext s2).at hk
  obtain ⟨-, -, -, -, -, l2⟩ := pl5 l1
  have hd := w1.dti.cel
  have he := w1.dif.cel
  have hf := w1.cha.cel
  obtain ⟨pr1, pr2⟩ := prev_rng hP
  unfold zdg
  simp (disch := first | omega | (simp only [RY] <;> omega) | decide) only [↓RD, RZ, eq_self, Int.reduceToNat, Int.reduceAdd, Nat.reduceAdd, Nat.reduceSub, Nat.reduceMul, Nat.reduceLeDiff, i1, l2, hd.1, hd.2, he.1, he.2, hf.1, hf.2, b2]
  generalize hH3 : Heap.set _ _ _ = H3
  have s3 : Grow H2 H3 := by rw [← hH3]; exact (Grow.new _ _).set (by omega) _
  have n3 : H3.next = H2.next + 1 := by rw [← hH3]; rfl
  have c3 : H3.get H2.next = some ⟨zak, [.int .i64 s.ts[k].sp, .int .i64 s.ts[k].te, d, e, f], none⟩ := by rw [← hH3]; exact zan _ _ _
  clear hH3
  refine zac (next_ok (prev s.ts k) s.ts[k] x y z d e f pr1 pr2 cx cy cz hd he hf) ?_
  rintro _ H4 ⟨rfl, s4⟩
  have n4 := s4.next
  have c4 : H4.get H2.next = _ := (s4.same _ (by omega)).trans c3
  have g4 : H4.get H.next = _ := ((s3.trans s4).same _ (by omega)).trans g2
  have s24 := s3.trans s4
  have bad : ¬ LayAt s.ts k → dec (Lay s.ts) = false := fun hb => dec_no fun hl => hb (hl.2 k hk)
  rw [layAt_iff hk hP] at bad
  have good : (∃ m, nx (prev s.ts k) s.ts[k] = some m ∧ (k = 0 → m = 0) ∧ s.ts[k].sp ≤ 3 ∧ s.ts[k].te ≤ 7) → ∀ j, j < k + 1 → LayAt s.ts j := fun hm j hj => by
   rcases Nat.lt_or_ge j k with h | h
   ·exact hP j h
   ·have : j = k := by omega
    subst this
    exact (layAt_iff hk hP).2 hm
  cases hx : nx (prev s.ts k) s.ts[k] with
  | none =>
   unfold nxV
   simp (disch := first | omega | (simp only [RY] <;> omega) | decide) only [↓RD, RZ, eq_self, Int.reduceToNat, Int.reduceAdd, Nat.reduceAdd, Nat.reduceSub, Nat.reduceMul, Nat.reduceLeDiff]
   exact ⟨by rw [bad (by rw [hx]; rintro ⟨m, h, _⟩; cases h)], s2.trans s24⟩
  | some m =>
   rw [hx] at bad good
   unfold nxV
   by_cases q1 : k = 0 ∧ m ≠ 0
   ·obtain ⟨rfl, hm⟩ := q1
    simp (disch := first | omega | (simp only [RY] <;> omega) | decide) only [↓RD, RZ, eq_self, Int.reduceToNat, Int.reduceAdd, Nat.reduceAdd, Nat.reduceSub, Nat.reduceMul, Nat.reduceLeDiff, hm]
    exact ⟨by rw [bad (by rintro ⟨m', h, h2, _⟩; cases h; exact hm (h2 rfl))], s2.trans s24⟩
   ·have q2 : k ≠ 0 ∨ (k = 0 ∧ m = 0) := by omega
    have b4 : H4.get (H.next + 1) = _ := (s24.same _ (by omega)).trans b2
    have fin : ∀ Q, Grow H (H4.set (H.next + 1) Q) := fun Q => (s2.trans s24).set (by omega) _
    rcases q2 with q2 | ⟨rfl, rfl⟩
    ·by_cases t1 : 3 < s.ts[k].sp
     ·simp (disch := first | omega | (simp only [RY] <;> omega) | decide) only [↓RD, RZ, eq_self, Int.reduceToNat, Int.reduceAdd, Nat.reduceAdd, Nat.reduceSub, Nat.reduceMul, Nat.reduceLeDiff, c4]
      exact ⟨by rw [bad (by rintro ⟨m', h, h2, h3, _⟩; omega)], s2.trans s24⟩
     by_cases t2 : 7 < s.ts[k].te
     ·simp (disch := first | omega | (simp only [RY] <;> omega) | decide) only [↓RD, RZ, eq_self, Int.reduceToNat, Int.reduceAdd, Nat.reduceAdd, Nat.reduceSub, Nat.reduceMul, Nat.reduceLeDiff, c4]
      exact ⟨by rw [bad (by rintro ⟨m', h, h2, h3, _⟩; omega)], s2.trans s24⟩
     simp (disch := first | omega | (simp only [RY] <;> omega) | decide) only [↓RD, RZ, eq_self, Int.reduceToNat, Int.reduceAdd, Nat.reduceAdd, Nat.reduceSub, Nat.reduceMul, Nat.reduceLeDiff, c4, hd.1, hd.2, he.1, he.2, hf.1, hf.2, b4]
     refine ⟨by rfl, fin _, by omega, g4, good ⟨m, rfl, fun h => by omega, by omega, by omega⟩, d, e, f, ⟨hd, he, hf⟩, ?_⟩
     rw [prev_succ hk]
    ·by_cases t1 : 3 < s.ts[0].sp
     ·simp (disch := first | omega | (simp only [RY] <;> omega) | decide) only [↓RD, RZ, eq_self, Int.reduceToNat, Int.reduceAdd, Nat.reduceAdd, Nat.reduceSub, Nat.reduceMul, Nat.reduceLeDiff, c4]
      exact ⟨by rw [bad (by rintro ⟨m', h, h2, h3, _⟩; omega)], s2.trans s24⟩
     by_cases t2 : 7 < s.ts[0].te
     ·simp (disch := first | omega | (simp only [RY] <;> omega) | decide) only [↓RD, RZ, eq_self, Int.reduceToNat, Int.reduceAdd, Nat.reduceAdd, Nat.reduceSub, Nat.reduceMul, Nat.reduceLeDiff, c4]
      exact ⟨by rw [bad (by rintro ⟨m', h, h2, h3, _⟩; omega)], s2.trans s24⟩
     simp (disch := first | omega | (simp only [RY] <;> omega) | decide) only [↓RD, RZ, eq_self, Int.reduceToNat, Int.reduceAdd, Nat.reduceAdd, Nat.reduceSub, Nat.reduceMul, Nat.reduceLeDiff, c4, hd.1, hd.2, he.1, he.2, hf.1, hf.2, b4]
     refine ⟨by rfl, fin _, by omega, g4, good ⟨0, rfl, fun h => by omega, by omega, by omega⟩, d, e, f, ⟨hd, he, hf⟩, ?_⟩
     rw [prev_succ hk]
 ·rintro L H2 ⟨rfl, s2, n2, g2, hP, -⟩
  unfold zdg
  by_cases e1 : 1 ≤ s.ts.length
  ·by_cases e2 : s.ts.length ≤ 64
   ·simp (disch := first | omega | (simp only [RY] <;> omega) | decide) only [↓RD, RZ, eq_self, Int.reduceToNat, Int.reduceAdd, Nat.reduceAdd, Nat.reduceSub, Nat.reduceMul, Nat.reduceLeDiff, g2, h.ts.vlen]
    exact ⟨by rw [dec_yes ⟨⟨e1, e2⟩, hP⟩], s2⟩
   ·simp (disch := first | omega | (simp only [RY] <;> omega) | decide) only [↓RD, RZ, eq_self, Int.reduceToNat, Int.reduceAdd, Nat.reduceAdd, Nat.reduceSub, Nat.reduceMul, Nat.reduceLeDiff, g2, h.ts.vlen]
    exact ⟨by rw [dec_no fun hl => e2 hl.1.2], s2⟩
  ·simp (disch := first | omega | (simp only [RY] <;> omega) | decide) only [↓RD, RZ, eq_self, Int.reduceToNat, Int.reduceAdd, Nat.reduceAdd, Nat.reduceSub, Nat.reduceMul, Nat.reduceLeDiff, g2, h.ts.vlen]
   exact ⟨by rw [dec_no fun hl => e1 hl.1.1], s2⟩
end Go.Ax.D9
/- Dep5 -/
namespace Go.Ax.D9
open Go.Ax
theorem spatial_ok {lo : Nat} {H : Heap} {s : Sr} {a b c : V} (h : SrC lo H s a b c) (hn : s.ts.length ≤ 1099511627776) (hr : ∀ t ∈ s.ts, 0 ≤ t.sp ∧ t.sp ≤ 4) :
  Ok (sem T zcC [.agg (scells s a b c)]) H fun r H' => r = .int .i64 (if s.ts.length = 0 then 0 else top s.ts + 1) ∧ Grow H H' := by
 refine zfI ?_
 unfold zeD
 unfold scells
 simp (disch := first | omega | (simp only [RY] <;> omega) | decide) only [↓RD, RZ, eq_self, Int.reduceToNat, Int.reduceAdd, Nat.reduceAdd, Nat.reduceSub, Nat.reduceMul, Nat.reduceLeDiff, h.ts.cells1, h.ts.okc, h.pro.cells1, h.pro.okc, h.siz.cells1, h.siz.okc, h.ts.vlen]
 generalize hH1 : Heap.new H _ = H1
 have s1 : Grow H H1 := by rw [← hH1]; exact Grow.new _ _
 clear hH1
 have tb : ∀ k, 0 ≤ top (s.ts.take k) ∧ top (s.ts.take k) ≤ 4 := by
  intro k
  induction k with
  | zero => simp [top]
  | succ k ih =>
   by_cases hk : k < s.ts.length
   ·rw [top_take hk]
    have := hr _ (List.getElem_mem hk)
    omega
   ·rw [List.take_of_length_le (by omega)]
    rw [List.take_of_length_le (by omega)] at ih
    exact ih
 refine zaP (fun k L H' => ∃ m : Int, L = [.int .i64 m, .int .i64 (k : Nat)] ∧ m = (if k = 0 then 0 else top (s.ts.take k) + 1) ∧ Grow H H') s.ts.length ?_ ?_ ?_
 ·exact ⟨0, rfl, rfl, s1⟩
 ·rintro k L H2 hk ⟨m, rfl, hm, s2⟩
  obtain ⟨q, d, e, f, i1, l1, w1⟩ := (h.ts.ext s2).at hk
  obtain ⟨-, -, -, -, -, l2⟩ := pl5 l1
  have hd := w1.dti.cel
  have he := w1.dif.cel
  have hf := w1.cha.cel
  have hb := hr _ (List.getElem_mem hk)
  unfold zc3
  simp (disch := first | omega | (simp only [RY] <;> omega) | decide) only [↓RD, RZ, eq_self, Int.reduceToNat, Int.reduceAdd, Nat.reduceAdd, Nat.reduceSub, Nat.reduceMul, Nat.reduceLeDiff, i1, l2, hd.1, hd.2, he.1, he.2, hf.1, hf.2, mm1]
  refine ⟨_, by rfl, ?_, s2.trans ((Grow.new _ _).set (by omega) _)⟩
  rw [if_neg (by omega), top_take hk]
  have := tb k
  by_cases h0 : k = 0
  ·rw [if_pos h0] at hm
   subst h0
   have : top (s.ts.take 0) = 0 := rfl
   omega
  ·rw [if_neg h0] at hm
   omega
 ·rintro L H2 ⟨m, rfl, hm, s2⟩
  unfold zc3
  rw [List.take_length] at hm
  rw [← hm]
  simp (disch := first | omega | (simp only [RY] <;> omega) | decide) only [↓RD, RZ, eq_self, Int.reduceToNat, Int.reduceAdd, Nat.reduceAdd, Nat.reduceSub, Nat.reduceMul, Nat.reduceLeDiff]
  exact s2
theorem fineT_ok {lo : Nat} {H : Heap} {s : Sr} {t : Tm} {a b c d e f : V} (ha : Cel a) (hb : Cel b) (hc : Cel c) (h : TmR lo H t d e f) (ho : TmO t) :
  Ok (sem T zbt [.agg (scells s a b c), .agg [.int .i64 t.sp, .int .i64 t.te, d, e, f]]) H fun r H' => r = .bool (fineT s.tar s.cha t) ∧ Grow H H' := by
 refine zd9 ?_
 unfold zc4
 have n1 := ho.dti.2
 have n2 := ho.dif.2
 have n3 := ho.cha.2
 unfold scells
 simp (disch := first | omega | (simp only [RY] <;> omega) | decide) only [↓RD, RZ, Nat.reduceAdd, ha.1, ha.2, hb.1, hb.2, hc.1, hc.2, h.dti.cells1, h.dti.okc, h.dif.cells1, h.dif.okc, h.cha.cells1, h.cha.okc]
 generalize hH2 : Heap.new (Heap.new H _) _ = H2
 have s2 : Grow H H2 := by rw [← hH2]; exact (Grow.new _ _).trans (Grow.new _ _)
 have m2 : H2.next = H.next + 2 := by rw [← hH2]; rfl
 have g1 : H2.get H.next = some ⟨zag, [.int .i64 s.off, .int .i64 s.tar, a, .int .i64 s.cha, b, c], none⟩ := by rw [← hH2, zat _ _ (by rw [zap]; omega), zao]
 have g2 : H2.get (H.next + 1) = some ⟨zak, [.int .i64 t.sp, .int .i64 t.te, d, e, f], none⟩ := by rw [← hH2]; exact zao _ _
 clear hH2
 refine zac (within_ok (h.dti.ext s2) s.tar 0 3 (by omega)) ?_
 rintro _ H3 ⟨rfl, s3⟩
 have a1 : H3.get H.next = _ := (s3.same _ (by omega)).trans g1
 have a2 : H3.get (H.next + 1) = _ := (s3.same _ (by omega)).trans g2
 have s23 := s2.trans s3
 unfold fineT
 cases w1 : wi t.dti s.tar 0 3 with
 | false =>
  simp (disch := first | omega | (simp only [RY] <;> omega) | decide) only [↓RD, RZ, Nat.reduceAdd]
  exact ⟨rfl, s23⟩
 | true =>
  simp (disch := first | omega | (simp only [RY] <;> omega) | decide) only [↓RD, RZ, Nat.reduceAdd, a2]
  refine zac (diffs_ok (h.dif.ext s23) 8 16 (by omega)) ?_
  rintro _ H4 ⟨rfl, s4⟩
  have n3 := s3.next
  have a3 : H4.get H.next = _ := (s4.same _ (by omega)).trans a1
  have a4 : H4.get (H.next + 1) = _ := (s4.same _ (by omega)).trans a2
  cases w2 : di t.dif 8 16 with
  | false =>
   simp (disch := first | omega | (simp only [RY] <;> omega) | decide) only [↓RD, RZ, Nat.reduceAdd]
   exact ⟨rfl, s23.trans s4⟩
  | true =>
   simp (disch := first | omega | (simp only [RY] <;> omega) | decide) only [↓RD, RZ, Nat.reduceAdd, a3, a4]
   refine zac (within_ok (h.cha.ext (s23.trans s4)) s.cha 0 15 (by omega)) ?_
   rintro _ H5 ⟨rfl, s5⟩
   simp (disch := first | omega | (simp only [RY] <;> omega) | decide) only [↓RD, RZ, Nat.reduceAdd]
   exact ⟨by simp, (s23.trans s4).trans s5⟩
theorem IndexFuncT_ok {lo : Nat} {H : Heap} {v f : V} {ts : List Tm} (h : Tms lo H v ts) (P : Tm → Bool) (hn : ts.length ≤ 1099511627776)
  (hf : ∀ H', Grow H H' → ∀ (t : Tm), t ∈ ts → ∀ (a b c : V), TmR lo H' t a b c → Ok (callv (sem T) f [.agg [.int .i64 t.sp, .int .i64 t.te, a, b, c]]) H' fun r H'' => r = .bool (P t) ∧ Grow H' H'') :
  Ok (sem T zax [v, f]) H fun r H' => r = idxV (ts.findIdx? P) ∧ Grow H H' := by
 refine zbL ?_
 unfold zaY
 simp (disch := omega) only [↓RD, RZ, h.vlen]
 refine zaP (fun k L H' => L = [.int .i64 (k : Nat)] ∧ Grow H H' ∧ ∀ j (hj : j < ts.length), j < k → P ts[j] = false) ts.length ?_ ?_ ?_
 ·exact ⟨rfl, Grow.refl _, fun j hj hk => absurd hk (by omega)⟩
 ·rintro k L H1 hk ⟨rfl, s1, hP⟩
  obtain ⟨q, a, b, c, i1, l1, w1⟩ := (h.ext s1).at hk
  obtain ⟨-, -, -, -, -, l2⟩ := pl5 l1
  unfold zaJ
  simp (disch := omega) only [↓RD, RZ, i1, l2]
  refine zac (hf H1 s1 _ (List.getElem_mem hk) a b c w1) ?_
  rintro _ H2 ⟨rfl, s2⟩
  cases hp : P ts[k] with
  | true =>
   simp (disch := omega) only [↓RD, RZ]
   refine ⟨?_, s1.trans s2⟩
   have : ts.findIdx? P = some k := List.findIdx?_eq_some_iff_getElem.2 ⟨hk, hp, fun j hj => by rw [hP j (by omega) hj]; decide⟩
   rw [this]; rfl
  | false =>
   simp (disch := omega) only [↓RD, RZ]
   refine ⟨by rfl, s1.trans s2, fun j hj hjk => ?_⟩
   rcases Nat.lt_or_ge j k with h | h
   ·exact hP j hj h
   ·have : j = k := by omega
    subst this; exact hp
 ·rintro L H1 ⟨rfl, s1, hP⟩
  unfold zaJ
  simp (disch := omega) only [↓RD, RZ]
  refine ⟨?_, s1⟩
  have : ts.findIdx? P = none := List.findIdx?_eq_none_iff.2 fun x hx => by
   obtain ⟨j, hj, rfl⟩ := List.getElem_of_mem hx
   exact hP j hj hj
  rw [this]; rfl
theorem ContainsT_ok {lo : Nat} {H : Heap} {v f : V} {ts : List Tm} (h : Tms lo H v ts) (P : Tm → Bool) (hn : ts.length ≤ 1099511627776)
  (hf : ∀ H', Grow H H' → ∀ (t : Tm), t ∈ ts → ∀ (a b c : V), TmR lo H' t a b c → Ok (callv (sem T) f [.agg [.int .i64 t.sp, .int .i64 t.te, a, b, c]]) H' fun r H'' => r = .bool (!P t) ∧ Grow H' H'') :
  Ok (sem T zar [v, f]) H fun r H' => r = .bool (!ts.all P) ∧ Grow H H' := by
 refine zbB ?_
 unfold zaU
 refine zac (IndexFuncT_ok h (fun x => !P x) hn hf) ?_
 rintro _ H1 ⟨rfl, s1⟩
 rw [← all_idx]
 cases ts.findIdx? (fun x => !P x) with
 | none => unfold idxV; simp (disch := omega) only [↓RD, RZ]; exact ⟨rfl, s1⟩
 | some i => unfold idxV; simp (disch := omega) only [↓RD, RZ]; exact ⟨rfl, s1⟩
theorem box_il {H : Heap} {id : Nat} {ty : TypeId} {x y : Int} (h : H.get id = some ⟨ty, [.int .i64 x, .int .i64 y], none⟩) (hi : id < H.next) : Il 0 H (.sl id 0 2 (.fix 2)) [x, y] := by
 refine ⟨?_, fun i hi' => ?_, Nat.le_refl _⟩
 ·simp only [rcells, h, Option.bind_some]
  rw [if_pos (by simp)]; rfl
 ·simp only [V.pid, Option.some.injEq] at hi'
  subst hi'; exact ⟨Nat.zero_le _, hi⟩
theorem Fine_ok {lo : Nat} {H : Heap} {v : V} {s : Sr} (h : SrR lo H v s) (ho : SrO s) :
  Ok (sem T zcf [v]) H fun r H' => r = .bool (fine s) ∧ Grow H H' := by
 obtain ⟨a, b, c, rfl, h⟩ := h
 have nt := ho.ts
 have np := ho.pro.2
 have ns := ho.siz.1
 refine zgl ?_
 unfold zfA
 unfold scells
 simp (disch := first | omega | (simp only [RY] <;> omega) | decide) only [↓RD, RZ, eq_self, Int.reduceToNat, Int.reduceAdd, Nat.reduceAdd, Nat.reduceSub, Nat.reduceMul, Nat.reduceLeDiff, h.ts.cells1, h.ts.okc, h.pro.cells1, h.pro.okc, h.siz.cells1, h.siz.okc]
 generalize hH1 : Heap.new H _ = H1
 have s1 : Grow H H1 := by rw [← hH1]; exact Grow.new _ _
 have n1 : H1.next = H.next + 1 := by rw [← hH1]; rfl
 have g1 : H1.get H.next = some ⟨zag, [.int .i64 s.off, .int .i64 s.tar, a, .int .i64 s.cha, b, c], none⟩ := by rw [← hH1]; exact zao _ _
 clear hH1
 generalize hpc : (if s.cha = 0 then 0 else s.tar : Int) = pc
 refine zaM (Q := fun r H' => r = Res.nrm [.int .i64 pc] ∧ H' = H1) ?_ ?_
 ·refine zg9 (fun hz => ?_) fun hz => ?_
  ·simp (disch := first | omega | (simp only [RY] <;> omega) | decide) only [↓RD, RZ, eq_self, Int.reduceToNat, Int.reduceAdd, Nat.reduceAdd, Nat.reduceSub, Nat.reduceMul, Nat.reduceLeDiff]
   rw [← hpc, if_pos hz]
  ·simp (disch := first | omega | (simp only [RY] <;> omega) | decide) only [↓RD, RZ, eq_self, Int.reduceToNat, Int.reduceAdd, Nat.reduceAdd, Nat.reduceSub, Nat.reduceMul, Nat.reduceLeDiff]
   rw [← hpc, if_neg hz]
 rintro _ H' ⟨rfl, hH'⟩
 have : H' = H1 := hH'
 subst this
 by_cases a1 : s.off < 0
 ·simp (disch := first | omega | (simp only [RY] <;> omega) | decide) only [↓RD, RZ, eq_self, Int.reduceToNat, Int.reduceAdd, Nat.reduceAdd, Nat.reduceSub, Nat.reduceMul, Nat.reduceLeDiff, g1]
  exact ⟨by rw [fine_no fun h => by have := h.off; omega], s1⟩
 by_cases a2 : 64 ≤ s.off
 ·simp (disch := first | omega | (simp only [RY] <;> omega) | decide) only [↓RD, RZ, eq_self, Int.reduceToNat, Int.reduceAdd, Nat.reduceAdd, Nat.reduceSub, Nat.reduceMul, Nat.reduceLeDiff, g1]
  exact ⟨by rw [fine_no fun h => by have := h.off; omega], s1⟩
 by_cases a3 : s.tar < 1
 ·simp (disch := first | omega | (simp only [RY] <;> omega) | decide) only [↓RD, RZ, eq_self, Int.reduceToNat, Int.reduceAdd, Nat.reduceAdd, Nat.reduceSub, Nat.reduceMul, Nat.reduceLeDiff, g1]
  exact ⟨by rw [fine_no fun h => by have := h.tar; omega], s1⟩
 by_cases a4 : 32 < s.tar
 ·simp (disch := first | omega | (simp only [RY] <;> omega) | decide) only [↓RD, RZ, eq_self, Int.reduceToNat, Int.reduceAdd, Nat.reduceAdd, Nat.reduceSub, Nat.reduceMul, Nat.reduceLeDiff, g1]
  exact ⟨by rw [fine_no fun h => by have := h.tar; omega], s1⟩
 by_cases a5 : s.cha < 0
 ·simp (disch := first | omega | (simp only [RY] <;> omega) | decide) only [↓RD, RZ, eq_self, Int.reduceToNat, Int.reduceAdd, Nat.reduceAdd, Nat.reduceSub, Nat.reduceMul, Nat.reduceLeDiff, g1]
  exact ⟨by rw [fine_no fun h => by have := h.cha; omega], s1⟩
 by_cases a6 : s.tar < s.cha
 ·simp (disch := first | omega | (simp only [RY] <;> omega) | decide) only [↓RD, RZ, eq_self, Int.reduceToNat, Int.reduceAdd, Nat.reduceAdd, Nat.reduceSub, Nat.reduceMul, Nat.reduceLeDiff, g1]
  exact ⟨by rw [fine_no fun h => by have := h.cha; omega], s1⟩
 simp (disch := first | omega | (simp only [RY] <;> omega) | decide) only [↓RD, RZ, eq_self, Int.reduceToNat, Int.reduceAdd, Nat.reduceAdd, Nat.reduceSub, Nat.reduceMul, Nat.reduceLeDiff, g1]
 refine zac (within_ok (h.pro.ext s1) pc 0 (s.cha - 1) (by omega)) ?_
 rintro _ H2 ⟨rfl, s2⟩
 have n2 := s2.next
 have g2 : H2.get H.next = _ := (s2.same _ (by omega)).trans g1
 have s12 := s1.trans s2
 cases w1 : wi s.pro pc 0 (s.cha - 1) with
 | false =>
  simp (disch := first | omega | (simp only [RY] <;> omega) | decide) only [↓RD, RZ, eq_self, Int.reduceToNat, Int.reduceAdd, Nat.reduceAdd, Nat.reduceSub, Nat.reduceMul, Nat.reduceLeDiff]
  exact ⟨by rw [fine_no fun h => by have := h.pro; rw [hpc, w1] at this; cases this], s12⟩
 | true =>
 simp (disch := first | omega | (simp only [RY] <;> omega) | decide) only [↓RD, RZ, eq_self, Int.reduceToNat, Int.reduceAdd, Nat.reduceAdd, Nat.reduceSub, Nat.reduceMul, Nat.reduceLeDiff, g2]
 refine zac (layers_ok (h.ext s12) (by omega)) ?_
 rintro _ H3 ⟨rfl, s3⟩
 have n3 := s3.next
 have g3 : H3.get H.next = _ := (s3.same _ (by omega)).trans g2
 have s13 := s12.trans s3
 rcases Classical.em (Lay s.ts) with w2 | w2
 rotate_left
 ·rw [dec_no w2]
  simp (disch := first | omega | (simp only [RY] <;> omega) | decide) only [↓RD, RZ, eq_self, Int.reduceToNat, Int.reduceAdd, Nat.reduceAdd, Nat.reduceSub, Nat.reduceMul, Nat.reduceLeDiff]
  exact ⟨by rw [fine_no fun h => w2 ⟨h.len, h.lay⟩], s13⟩
 rw [dec_yes w2]
 have rng : ∀ t ∈ s.ts, 0 ≤ t.sp ∧ t.sp ≤ 3 ∧ 0 ≤ t.te ∧ t.te ≤ 7 := fun t ht => by
  obtain ⟨j, hj, rfl⟩ := List.getElem_of_mem ht
  have := layAt_rng (w2.2 j hj)
  rwa [getD_get hj] at this
 obtain ⟨⟨w3, w4⟩, w5⟩ := w2
 -- the sizes' number
 have last : ∀ H4, H.next < H4.next → Grow H H4 → H4.get H.next = some ⟨zag, [.int .i64 s.off, .int .i64 s.tar, a, .int .i64 s.cha, b, c], none⟩ → (s.siz.length = 0 ∨ (s.siz.length : Int) = top s.ts + 1) →
   Ok (M.iter (zc5 (sem T) (.int .i64 (s.siz.length : Nat)) c) [.int .i64 0]) H4 fun r H' => Grow H H' ∧ (H.next < H'.next ∧ H'.get H.next = some ⟨zag, [.int .i64 s.off, .int .i64 s.tar, a, .int .i64 s.cha, b, c], none⟩) ∧ ((r = .ex 0 [] ∧ ∀ x ∈ s.siz, (1 ≤ x.1 ∧ x.1 ≤ 65536) ∧ (1 ≤ x.2 ∧ x.2 ≤ 65536)) ∨ (r = .ret [.bool false] ∧ fine s = false)) := by
  intro H4 hlt s4 g4 _
  refine zaP (fun k L H' => L = [.int .i64 (k : Nat)] ∧ Grow H4 H' ∧ ∀ j (hj : j < s.siz.length), j < k → (1 ≤ s.siz[j].1 ∧ s.siz[j].1 ≤ 65536) ∧ (1 ≤ s.siz[j].2 ∧ s.siz[j].2 ≤ 65536)) s.siz.length ?_ ?_ ?_
  ·exact ⟨rfl, Grow.refl _, fun j hj hk => absurd hk (by omega)⟩
  ·rintro k L H5 hk ⟨rfl, s5, hP⟩
   obtain ⟨q, i1, l1⟩ := szs_at ((h.siz.ext s4).ext s5) hk
   obtain ⟨-, -, l2⟩ := pl2 l1
   unfold zc5
   have ev : vslice (.arr 2) 1 (.ptr H5.next 0) none none none = some (.sl H5.next 0 2 (.fix 2)) := by simp [vslice, optInt]
   simp (disch := first | omega | (simp only [RY] <;> omega) | decide) only [↓RD, RZ, eq_self, Int.reduceToNat, Int.reduceAdd, Nat.reduceAdd, Nat.reduceSub, Nat.reduceMul, Nat.reduceLeDiff, i1, l2, ev]
   generalize hH6 : Heap.set _ _ _ = H6
   have s6 : Grow H5 H6 := by rw [← hH6]; exact (Grow.new _ _).set (by omega) _
   have n6 : H6.next = H5.next + 1 := by rw [← hH6]; rfl
   have g6 : H6.get H5.next = some ⟨zhf, [.int .i64 s.siz[k].1, .int .i64 s.siz[k].2], none⟩ := by rw [← hH6]; exact zan _ _ _
   clear hH6
   refine zac (within_ok (box_il g6 (by omega)) 2 1 65536 (by simp)) ?_
   rintro _ H7 ⟨rfl, s7⟩
   cases w6 : wi [s.siz[k].1, s.siz[k].2] 2 1 65536 with
   | false =>
    simp (disch := first | omega | (simp only [RY] <;> omega) | decide) only [↓RD, RZ, eq_self, Int.reduceToNat, Int.reduceAdd, Nat.reduceAdd, Nat.reduceSub, Nat.reduceMul, Nat.reduceLeDiff]
    refine ⟨((s4.trans s5).trans s6).trans s7, ⟨Nat.lt_of_lt_of_le hlt ((s5.trans s6).trans s7).next, (((s5.trans s6).trans s7).same _ hlt).trans g4⟩, .inr (fine_no fun h => ?_)⟩
    have := h.szs _ (List.getElem_mem hk)
    have : wi [s.siz[k].1, s.siz[k].2] 2 1 65536 = true := wi_iff.2 ⟨rfl, fun x hx => by
     simp only [List.mem_cons, List.not_mem_nil, or_false] at hx
     rcases hx with rfl | rfl
     ·exact this.1
     ·exact this.2⟩
    rw [this] at w6; cases w6
   | true =>
    simp (disch := first | omega | (simp only [RY] <;> omega) | decide) only [↓RD, RZ, eq_self, Int.reduceToNat, Int.reduceAdd, Nat.reduceAdd, Nat.reduceSub, Nat.reduceMul, Nat.reduceLeDiff]
    refine ⟨by rfl, (s5.trans s6).trans s7, fun j hj hjk => ?_⟩
    rcases Nat.lt_or_ge j k with h | h
    ·exact hP j hj h
    ·have : j = k := by omega
     subst this
     have := (wi_iff.1 w6).2
     exact ⟨this _ (by simp), this _ (by simp)⟩
  ·rintro L H5 ⟨rfl, s5, hP⟩
   unfold zc5
   simp (disch := first | omega | (simp only [RY] <;> omega) | decide) only [↓RD, RZ, eq_self, Int.reduceToNat, Int.reduceAdd, Nat.reduceAdd, Nat.reduceSub, Nat.reduceMul, Nat.reduceLeDiff]
   refine ⟨s4.trans s5, ⟨Nat.lt_of_lt_of_le hlt s5.next, (s5.same _ hlt).trans g4⟩, .inl fun x hx => ?_⟩
   obtain ⟨j, hj, rfl⟩ := List.getElem_of_mem hx
   exact hP j hj hj
 have fin : ∀ H5, H.next < H5.next → Grow H H5 → H5.get H.next = some ⟨zag, [.int .i64 s.off, .int .i64 s.tar, a, .int .i64 s.cha, b, c], none⟩ → (s.siz.length = 0 ∨ (s.siz.length : Int) = top s.ts + 1) → (∀ x ∈ s.siz, (1 ≤ x.1 ∧ x.1 ≤ 65536) ∧ (1 ≤ x.2 ∧ x.2 ≤ 65536)) →
   Ok (sem T zar [a, .fn zcd [.ptr H.next 0]]) H5 fun r H' => r = .bool (!fine s) ∧ Grow H H' := by
  intro H5 hlt s5 g5 e1 e2
  refine zaM (ContainsT_ok (h.ts.ext s5) (fineT s.tar s.cha) (by omega) fun H6 s6 t ht d e f w => ?_) ?_
  ·have g6 : H6.get H.next = _ := (s6.same _ hlt).trans g5
   show Ok (sem T zcd [.agg [.int .i64 t.sp, .int .i64 t.te, d, e, f], .ptr H.next 0]) H6 _
   refine zf0 ?_
   unfold ze8
   have := s6.next
   simp (disch := first | omega | (simp only [RY] <;> omega) | decide) only [↓RD, RZ, eq_self, Int.reduceToNat, Int.reduceAdd, Nat.reduceAdd, Nat.reduceSub, Nat.reduceMul, Nat.reduceLeDiff, w.dti.cells1, w.dti.okc, w.dif.cells1, w.dif.okc, w.cha.cells1, w.cha.okc, g6]
   refine zac (fineT_ok (s := s) h.ts.cel h.pro.cel h.siz.cel (w.ext (Grow.new _ _)) (ho.tm t ht)) ?_
   rintro _ H7 ⟨rfl, s7⟩
   simp (disch := first | omega | (simp only [RY] <;> omega) | decide) only [↓RD, RZ, eq_self, Int.reduceToNat, Int.reduceAdd, Nat.reduceAdd, Nat.reduceSub, Nat.reduceMul, Nat.reduceLeDiff]
   exact (Grow.new _ _).trans s7
  ·rintro _ H6 ⟨rfl, s6⟩
   refine ⟨?_, s5.trans s6⟩
   congr 2
   cases hall : s.ts.all (fineT s.tar s.cha) with
   | true => rw [fine_yes ⟨by omega, by omega, by omega, ⟨w3, w4⟩, by rw [hpc]; exact w1, w5, e1, e2, fun t ht => List.all_eq_true.1 hall t ht⟩]
   | false => rw [fine_no fun h => by rw [List.all_eq_true.2 h.tms] at hall; cases hall]
 by_cases hs0 : s.siz.length = 0
 ·simp (disch := first | omega | (simp only [RY] <;> omega) | decide) only [↓RD, RZ, eq_self, Int.reduceToNat, Int.reduceAdd, Nat.reduceAdd, Nat.reduceSub, Nat.reduceMul, Nat.reduceLeDiff, g3, h.siz.vlen, hs0]
  have l0 := last H3 (by omega) s13 g3 (.inl hs0)
  rw [hs0] at l0
  refine zaM l0 ?_
  rintro r H' ⟨h1, ⟨h0, h2⟩, ⟨rfl, h3⟩ | ⟨rfl, h3⟩⟩
  ·simp (disch := first | omega | (simp only [RY] <;> omega) | decide) only [↓RD, RZ, eq_self, Int.reduceToNat, Int.reduceAdd, Nat.reduceAdd, Nat.reduceSub, Nat.reduceMul, Nat.reduceLeDiff, h2]
   refine zac (fin _ h0 h1 h2 (.inl hs0) h3) ?_
   rintro _ H5 ⟨rfl, s5⟩
   simp (disch := first | omega | (simp only [RY] <;> omega) | decide) only [↓RD, RZ, eq_self, Int.reduceToNat, Int.reduceAdd, Nat.reduceAdd, Nat.reduceSub, Nat.reduceMul, Nat.reduceLeDiff]
   exact ⟨by simp, s5⟩
  ·simp (disch := first | omega | (simp only [RY] <;> omega) | decide) only [↓RD, RZ, eq_self, Int.reduceToNat, Int.reduceAdd, Nat.reduceAdd, Nat.reduceSub, Nat.reduceMul, Nat.reduceLeDiff]
   exact ⟨by rw [h3], h1⟩
 ·simp (disch := first | omega | (simp only [RY] <;> omega) | decide) only [↓RD, RZ, eq_self, Int.reduceToNat, Int.reduceAdd, Nat.reduceAdd, Nat.reduceSub, Nat.reduceMul, Nat.reduceLeDiff, g3, h.siz.vlen]
  refine zac (spatial_ok (h.ext s13) (by omega) fun t ht => by have := rng t ht; omega) ?_
  rintro _ H4 ⟨rfl, s4⟩
  have n4 := s4.next
  have g4 : H4.get H.next = _ := (s4.same _ (by omega)).trans g3
  rw [if_neg (by omega)]
  by_cases hs1 : (s.siz.length : Int) = top s.ts + 1
  ·rw [← hs1]
   simp (disch := first | omega | (simp only [RY] <;> omega) | decide) only [↓RD, RZ, eq_self, Int.reduceToNat, Int.reduceAdd, Nat.reduceAdd, Nat.reduceSub, Nat.reduceMul, Nat.reduceLeDiff, g4, h.siz.vlen]
   refine zaM (last H4 (by omega) (s13.trans s4) g4 (.inr hs1)) ?_
   rintro r H' ⟨h1, ⟨h0, h2⟩, ⟨rfl, h3⟩ | ⟨rfl, h3⟩⟩
   ·simp (disch := first | omega | (simp only [RY] <;> omega) | decide) only [↓RD, RZ, eq_self, Int.reduceToNat, Int.reduceAdd, Nat.reduceAdd, Nat.reduceSub, Nat.reduceMul, Nat.reduceLeDiff, h2]
    refine zac (fin _ h0 h1 h2 (.inr hs1) h3) ?_
    rintro _ H5 ⟨rfl, s5⟩
    simp (disch := first | omega | (simp only [RY] <;> omega) | decide) only [↓RD, RZ, eq_self, Int.reduceToNat, Int.reduceAdd, Nat.reduceAdd, Nat.reduceSub, Nat.reduceMul, Nat.reduceLeDiff]
    exact ⟨by simp, s5⟩
   ·simp (disch := first | omega | (simp only [RY] <;> omega) | decide) only [↓RD, RZ, eq_self, Int.reduceToNat, Int.reduceAdd, Nat.reduceAdd, Nat.reduceSub, Nat.reduceMul, Nat.reduceLeDiff]
    exact ⟨by rw [h3], h1⟩
  ·simp (disch := first | omega | (simp only [RY] <;> omega) | decide) only [↓RD, RZ, eq_self, Int.reduceToNat, Int.reduceAdd, Nat.reduceAdd, Nat.reduceSub, Nat.reduceMul, Nat.reduceLeDiff, g4]
   exact ⟨by rw [fine_no fun h => by have := h.siz; omega], s13.trans s4⟩
end Go.Ax.D9
/- Dep6 -/
namespace Go.Ax.D9
open Go.Ax
def lyV (x : Int × Int × Bool) : V := .tup [.int .i64 x.1, .int .i64 x.2.1, .bool x.2.2]
theorem dti_len {s : Sr} (h : Fine s) {t : Tm} (ht : t ∈ s.ts) : (t.dti.length : Int) = s.tar := by
 have := h.tms t ht
 unfold fineT at this
 rw [Bool.and_eq_true] at this
 exact (wi_iff.1 this.1).1
theorem Layers_ok {lo : Nat} {H : Heap} {v : V} {s : Sr} (h : SrR lo H v s) (ho : SrO s) (target : Int) :
  Ok (sem T zcQ [v, .int .i64 target]) H fun r H' => r = lyV (ly s target) ∧ Grow H H' := by
 obtain ⟨a, b, c, rfl, h⟩ := h
 have nt := ho.ts
 refine zfZ ?_
 unfold ze7
 unfold scells
 simp (disch := first | omega | (simp only [RY] <;> omega) | decide) only [↓RD, RZ, eq_self, Int.reduceToNat, Int.reduceAdd, Nat.reduceAdd, Nat.reduceSub, Nat.reduceMul, Nat.reduceLeDiff, h.ts.cells1, h.ts.okc, h.pro.cells1, h.pro.okc, h.siz.cells1, h.siz.okc]
 generalize hH1 : Heap.new H _ = H1
 have s1 : Grow H H1 := by rw [← hH1]; exact Grow.new _ _
 have n1 : H1.next = H.next + 1 := by rw [← hH1]; rfl
 have g1 : H1.get H.next = some ⟨zag, [.int .i64 s.off, .int .i64 s.tar, a, .int .i64 s.cha, b, c], none⟩ := by rw [← hH1]; exact zao _ _
 clear hH1
 refine zac (Fine_ok (h.ext s1).val ho) ?_
 rintro _ H2 ⟨rfl, s2⟩
 have g2 : H2.get H.next = _ := (s2.same _ (by omega)).trans g1
 have s12 := s1.trans s2
 cases hf : fine s with
 | false =>
  simp (disch := first | omega | (simp only [RY] <;> omega) | decide) only [↓RD, RZ, eq_self, Int.reduceToNat, Int.reduceAdd, Nat.reduceAdd, Nat.reduceSub, Nat.reduceMul, Nat.reduceLeDiff]
  exact ⟨by rw [ly_out (by rw [hf]; rintro ⟨h, _⟩; cases h)]; rfl, s12⟩
 | true =>
 by_cases a1 : target < 0
 ·simp (disch := first | omega | (simp only [RY] <;> omega) | decide) only [↓RD, RZ, eq_self, Int.reduceToNat, Int.reduceAdd, Nat.reduceAdd, Nat.reduceSub, Nat.reduceMul, Nat.reduceLeDiff]
  exact ⟨by rw [ly_out (by omega)]; rfl, s12⟩
 by_cases a2 : s.tar ≤ target
 ·simp (disch := first | omega | (simp only [RY] <;> omega) | decide) only [↓RD, RZ, eq_self, Int.reduceToNat, Int.reduceAdd, Nat.reduceAdd, Nat.reduceSub, Nat.reduceMul, Nat.reduceLeDiff, g2]
  exact ⟨by rw [ly_out (by omega)]; rfl, s12⟩
 simp (disch := first | omega | (simp only [RY] <;> omega) | decide) only [↓RD, RZ, eq_self, Int.reduceToNat, Int.reduceAdd, Nat.reduceAdd, Nat.reduceSub, Nat.reduceMul, Nat.reduceLeDiff, g2, h.ts.vlen]
 rw [ly_in hf (by omega) (by omega)]
 have hF := fine_iff.1 hf
 refine zaP (fun k L H' => L = [.int .i64 (lyT (s.ts.take k) target.toNat).1, .int .i64 (lyT (s.ts.take k) target.toNat).2.1, .bool (lyT (s.ts.take k) target.toNat).2.2, .int .i64 (k : Nat)] ∧ Grow H H') s.ts.length ?_ ?_ ?_
 ·exact ⟨rfl, s12⟩
 ·rintro k L H3 hk ⟨rfl, s3⟩
  obtain ⟨q, d, e, f, i1, l1, w1⟩ := (h.ts.ext s3).at hk
  obtain ⟨-, -, -, -, -, l2⟩ := pl5 l1
  have hd := w1.dti.cel
  have he := w1.dif.cel
  have hf := w1.cha.cel
  have hl := dti_len hF (List.getElem_mem hk)
  have s34 : ∀ x y, Grow H3 ((H3.new x).set H3.next y) := fun x y => (Grow.new _ _).set (by omega) _
  obtain ⟨q2, i2, l3, -⟩ := il_at' w1.dti (i := target) (by omega) (by omega)
  unfold zdh
  rw [lyT_take hk]
  generalize lyT (s.ts.take k) target.toNat = x
  have l4 := l3 _ (w1.dti.ext (s34 ⟨zak, [.int .i64 0, .int .i64 0, .nils, .nils, .nils], none⟩ (some ⟨zak, [.int .i64 s.ts[k].sp, .int .i64 s.ts[k].te, d, e, f], none⟩)))
  unfold lyF
  by_cases hz : s.ts[k].dti.getD target.toNat 0 = 0
  ·rw [if_pos hz]
   simp (disch := first | omega | (simp only [RY] <;> omega) | decide) only [↓RD, RZ, eq_self, Int.reduceToNat, Int.reduceAdd, Nat.reduceAdd, Nat.reduceSub, Nat.reduceMul, Nat.reduceLeDiff, i1, l2, hd.1, hd.2, he.1, he.2, hf.1, hf.2, i2, l4, hz]
   exact ⟨by rfl, s3.trans (s34 _ _)⟩
  ·rw [if_neg hz]
   simp (disch := first | omega | (simp only [RY] <;> omega) | decide) only [↓RD, RZ, eq_self, Int.reduceToNat, Int.reduceAdd, Nat.reduceAdd, Nat.reduceSub, Nat.reduceMul, Nat.reduceLeDiff, i1, l2, hd.1, hd.2, he.1, he.2, hf.1, hf.2, i2, l4, mm1]
   exact ⟨by rfl, s3.trans (s34 _ _)⟩
 ·rintro L H3 ⟨rfl, s3⟩
  unfold zdh
  rw [List.take_length]
  simp (disch := first | omega | (simp only [RY] <;> omega) | decide) only [↓RD, RZ, eq_self, Int.reduceToNat, Int.reduceAdd, Nat.reduceAdd, Nat.reduceSub, Nat.reduceMul, Nat.reduceLeDiff]
  exact ⟨rfl, s3⟩
end Go.Ax.D9
