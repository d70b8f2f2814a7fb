/-
  Texts of mine, put together by program (wip/slim.py), for law_laneAgain: part 5.
-/
import Derived.Test.YtblfcdaedibdnaaLa4
import Derived.Test.YtblfcdaedibdnaaProg
import Derived.KernelRfl
set_option linter.unusedVariables false
set_option linter.unusedSimpArgs false
set_option linter.defProp false
set_option maxRecDepth 100000
/- FnD0 -/
namespace Go.Ax
open Go.Proofs
def zcy : TypeId := 3
def zfQ : TypeId := 4
def zaz : TypeId := 5
def zag : TypeId := 26
def zgt : TypeId := 27
def zaR : TypeId := 28
def zal : TypeId := 30
def zaf : TypeId := 39
def zau : TypeId := 44
def zah : TypeId := 54
def zao : TypeId := 57
def zc2 : TypeId := 60
def zai : TypeId := 78
def zbE : TypeId := 82
def zbD : TypeId := 105
def zcg : TypeId := 107
def zcJ : TypeId := 127
def zaY : TypeId := 145
def zg5 : TypeId := 151
def zbN : TypeId := 160
def zbf : TypeId := 163
def zep : TypeId := 176
def zd6 : TypeId := 185
def zcL : TypeId := 187
def zf5 : TypeId := 204
def zch : TypeId := 211
def zaC : TypeId := 222
def zf6 : TypeId := 224
def zdx : FuncId := 7
def zdH : FuncId := 39
def zei : FuncId := 89
def zbz : FuncId := 40
def zaN : FuncId := 41
def zaB : FuncId := 43
def za3 : FuncId := 18
def zbJ : FuncId := 27
def zbH : FuncId := 31
def zbO : FuncId := 36
def zb0 : FuncId := 29
def za5 : FuncId := 64
def zbP : FuncId := 33
def zbj : FuncId := 82
def zaw : FuncId := 83
def zbR : FuncId := 84
def zbi : FuncId := 88
def zaP : FuncId := 34
def zat : FuncId := 73
def zae : FuncId := 72
def zaI : FuncId := 74
def zby : FuncId := 75
def zaJ : FuncId := 125
def zbI : FuncId := 153
def zaS : FuncId := 42
def zde : FuncId := 91
def zeg : FuncId := 129
def zcp : FuncId := 156
def zc8 : FuncId := 157
def zaD : FuncId := 155
def zaG : FuncId := 158
def zdM : FuncId := 131
def zco : FuncId := 130
def zcN : FuncId := 132
def zeh : FuncId := 92
def zeI : FuncId := 133
def zef : FuncId := 159
def zaW : FuncId := 118
def zdb : FuncId := 35
def zdP : FuncId := 28
def zcj : FuncId := 62
def zb5 : FuncId := 32
def zaV : FuncId := 76
def zb9 : FuncId := 127
def za4 : FuncId := 126
def zbb : FuncId := 154
def zcE : FuncId := 77
def zda : FuncId := 123
def zct : FuncId := 78
def zb3 : FuncId := 80
def zbn : FuncId := 81
def zck : FuncId := 87
def zap : FuncId := 79
def zav : FuncId := 128
def zca : FuncId := 63
def zcF : FuncId := 121
def za2 : FuncId := 150
def zc9 : FuncId := 85
def za0 : FuncId := 86
def zb1 : FuncId := 93
def ze0 : FuncId := 53
def zdQ : FuncId := 112
def zcz : FuncId := 113
def zbS : FuncId := 114
def zb8 : FuncId := 134
def zdv : FuncId := 54
def zdu : FuncId := 115
def zcD : FuncId := 94
def zdO : FuncId := 16
def zcG : FuncId := 23
def zeZ : FuncId := 19
def zej : FuncId := 135
def zdE : FuncId := 136
def zaL : FuncId := 138
def za7 : FuncId := 160
def zek : FuncId := 95
def za9 : FuncId := 137
def zaZ : FuncId := 139
def zee : FuncId := 55
def zb2 : FuncId := 58
def zeY : FuncId := 96
def zdw : FuncId := 140
def za8 : FuncId := 161
def za1 : FuncId := 162
def zcC : FuncId := 97
def zci : FuncId := 141
def zcq : FuncId := 164
def zaQ : FuncId := 163
def zar : FuncId := 142
def zcr : FuncId := 90
def zel : FuncId := 44
def zeB : FuncId := 45
def zdF : FuncId := 10
def zfN : FuncId := 49
def zg0 : FuncId := 52
def zeK : FuncId := 50
def zeL : FuncId := 51
def zdG : FuncId := 11
def zeA : FuncId := 56
def zfi : FuncId := 116
def zdV : FuncId := 117
def zeJ : FuncId := 57
def zbc : FuncId := 13
def zcs : FuncId := 59
def zdN : FuncId := 119
def zcB : FuncId := 120
def zbk : FuncId := 37
def hintRows : List (Nat × List (List Nat)) := [
 (zdx, [[0, 1, 2, 3, 4, 5, 6, 8, 9, 7, 10], [0, 1, 2, 3, 4, 5, 6, 8, 9, 7, 10], [], [12], [], [0, 1, 2, 3, 4, 5, 6, 8, 9, 7, 10], [0, 1, 2, 3, 4, 5, 6, 8, 9, 7, 10], [0, 1, 2, 3, 4, 5, 6, 8, 9, 7, 10]]),
 (zdH, []),
 (zei, []),
 (zbz, [[0, 1, 2, 3, 4, 5, 6, 8, 9, 7, 10], [0, 1, 2, 3, 4, 5, 6, 8, 9, 7, 10]]),
 (zaN, [[0, 1, 2, 3], [0, 2, 1, 3, 4, 5, 6, 7, 8], [0, 1, 2, 3, 4, 5, 6, 7, 8, 9], []]),
 (zaB, []),
 (za3, [[], [4], [], [0, 1, 2, 3, 4, 5, 6, 7, 8, 9, 10]]),
 (zbJ, [[0, 1, 2, 3, 4, 5, 6, 7, 8, 9, 10, 11, 13, 14, 15, 16, 17, 18, 19, 20, 21, 22, 23, 24, 25, 26, 27, 28, 12, 29, 30]]),
 (zbH, [[], [10], [], [], [], [8], [], [9], [9], [9], [], [7], [], [], [0, 1, 2, 3, 4, 5, 6, 7, 8], []]),
 (zbO, []),
 (zb0, []),
 (za5, []),
 (zbP, [[], [7], [], [0, 1, 2, 3, 4, 5, 6, 7, 8, 9, 10, 11, 12, 13, 14], [0, 1, 2, 3, 4, 5, 6, 7, 8, 9, 10, 11, 12, 13, 17, 18, 14, 15, 16, 19, 20, 21, 22], [6], [], [4], [], [0, 1, 2, 3, 4, 5, 6, 7, 8, 9, 10, 11, 12]]),
 (zbj, [[]]),
 (zaw, [[], [9], []]),
 (zbR, [[3], [3, 4], [3]]),
 (zbi, []),
 (zaP, [[], [5], [], [0, 1, 2, 3, 4, 5, 6, 7, 8]]),
 (zat, []),
 (zae, [[], [7], []]),
 (zaI, [[], [4], [], []]),
 (zby, [[], [14], [], [], [], [12], [], [], [13], [], [], [11], [], [0, 1, 2, 3, 4, 5, 6, 7, 8, 9, 10], [], [9], [], [], [10], [], [], [7], [], [], [8], [], [], [5], [], [6], [0, 1, 2, 3, 4, 5, 6, 7, 8, 9, 10, 11, 12]]),
 (zaJ, []),
 (zbI, [[4], [4, 5], [4]]),
 (zaS, [[0, 1, 2, 3, 4, 5, 6, 7, 8, 9, 10, 11], [0, 1, 2, 3, 4, 5, 6, 8, 7], [0, 1, 2, 3, 4, 5, 6, 7, 8, 9, 10, 11, 15, 16, 12, 13, 14, 17, 18, 19], [], [0, 1, 2, 3, 4, 5, 6, 7, 8, 9, 10]]),
 (zde, [[4], [4], [4], [4, 27], [4], [0, 1, 2, 4, 5, 3, 6, 7], [0, 2, 3, 4, 1, 5, 6]]),
 (zeg, [[]]),
 (zcp, []),
 (zc8, []),
 (zaD, []),
 (zaG, [[], [8], []]),
 (zdM, [[4], [3], [3], [0, 1, 2, 3, 4, 5, 6, 7, 8, 9]]),
 (zco, [[0], [0, 7], [0]]),
 (zcN, [[3], [3], [3], [3], [3, 9], [3], [3]]),
 (zeh, []),
 (zeI, []),
 (zef, []),
 (zaW, []),
 (zdb, [[]]),
 (zdP, []),
 (zcj, []),
 (zb5, [[], [71], [], [3]]),
 (zaV, []),
 (zb9, []),
 (za4, []),
 (zbb, [[], [8], []]),
 (zcE, [[], [12], []]),
 (zda, [[]]),
 (zct, [[3], [3, 9], [3]]),
 (zb3, []),
 (zbn, []),
 (zck, []),
 (zap, []),
 (zav, [[], [8], []]),
 (zca, []),
 (zcF, [[0, 1, 3, 4, 6, 7, 2, 5, 8, 9, 10, 11, 12, 13, 14]]),
 (za2, []),
 (zc9, []),
 (za0, [[], [13], [], [0, 1, 2, 3, 4, 5, 6, 7, 8]]),
 (zb1, [[], [0, 1, 2, 3, 4, 5, 6, 7, 8, 9, 10, 11, 12, 13], []]),
 (ze0, [[0, 1, 2, 3, 4, 5, 6], []]),
 (zdQ, []),
 (zcz, []),
 (zbS, []),
 (zb8, []),
 (zdv, [[], [0, 1, 2, 3, 4, 8, 5, 6, 7, 9, 10, 11]]),
 (zdu, []),
 (zcD, [[], [0, 1, 2, 3, 4, 5, 6, 7, 8, 9, 10, 11, 12, 13], [0, 1, 2, 3, 4, 5, 6, 7, 8, 9, 10, 11, 12, 13, 14], [0, 1, 2, 3, 4, 5, 6, 7, 8, 9, 10, 11, 12, 13, 14, 15]]),
 (zdO, [[10, 13], [10, 11, 12, 13, 23], [10, 11, 12, 13], [10, 11, 12, 13]]),
 (zcG, [[4, 5, 6], [4, 5, 6, 25], [4, 5, 6], [4, 5, 6], [0, 1, 2, 3, 4, 5, 6, 7, 8, 9, 10]]),
 (zeZ, []),
 (zej, [[], [11], []]),
 (zdE, []),
 (zaL, []),
 (za7, [[], [8], []]),
 (zek, [[6], [6, 7], [6], [6]]),
 (za9, []),
 (zaZ, [[], [2, 3], [], [0, 1, 2, 3, 4, 5, 6, 7, 8, 9, 10, 11, 12, 13, 14, 15]]),
 (zee, [[], [], [0, 1, 2, 3, 4, 5, 6, 7, 8, 9], [9]]),
 (zb2, [[]]),
 (zeY, [[0, 1, 2, 3, 4, 5, 6, 7]]),
 (zdw, [[], [19], [], [0, 1, 2, 3, 4, 5, 6, 7, 8, 9, 10, 11, 12], [0, 1, 3, 4, 6, 7, 2, 5, 8, 9, 10, 11, 12, 13, 14]]),
 (za8, []),
 (za1, []),
 (zcC, [[], [0, 1, 2, 3, 4, 5, 6, 7, 8, 9, 10, 11, 12, 13], []]),
 (zci, []),
 (zcq, []),
 (zaQ, [[], [8], []]),
 (zar, [[0, 1, 2, 3, 4, 5, 6, 7]]),
 (zcr, []),
 (zel, [[3], [3, 5], [3], [3], [3, 4], [3]]),
 (zeB, [[], [0, 1, 2, 3, 4, 5]]),
 (zdF, [[], [4, 5, 6], [4, 5], [4], [4], [0, 1, 2, 3, 4, 5, 6, 7, 8, 10, 11, 9, 12]]),
 (zfN, []),
 (zg0, []),
 (zeK, [[], [5], []]),
 (zeL, [[], [7], []]),
 (zdG, [[], [6, 7], [6], [], [0, 1, 2, 3, 4, 5, 6, 7, 8, 9, 10, 11, 12, 13, 14, 15, 16, 17, 18, 19, 20, 21, 22, 23, 24, 25, 26, 27, 28, 29, 30, 31, 32], [], [0, 1, 2, 3, 4, 6, 5, 7, 8, 9, 11, 12, 10, 13]]),
 (zeA, [[11], [6], [0, 1, 2, 3, 4, 5, 6, 7, 8, 9, 10, 11, 12, 13, 14], [], [7], [], [0, 1, 2, 3, 4, 5, 6, 7, 8, 9, 10, 11], [0, 1, 2, 3, 4, 5, 6, 7, 8, 9, 12, 15, 10, 13, 16, 11, 14, 17, 18, 19, 20]]),
 (zfi, [[7], [7, 8], [7]]),
 (zdV, [[6], [6, 7], [6, 7], [8, 9, 10], [0, 1, 2, 3, 4, 5, 6, 7, 8, 9, 10, 11, 12, 13, 14, 15, 16, 17], [9]]),
 (zeJ, [[], [6], []]),
 (zbc, [[], [14], [], [0, 1, 2, 3, 4, 5, 6, 7, 8, 9, 10, 11, 12, 13, 14, 15, 16, 17, 18, 19, 20, 21, 22, 23, 24, 25, 26], [8], [8, 9], [8], [0, 1, 2, 4, 3, 5, 6, 7, 9, 10, 8, 11]]),
 (zcs, [[5], [5, 13], [5], [5]]),
 (zdN, [[3], [3, 9], [3], [3], [3, 18], [3], [3]]),
 (zcB, []),
 (zbk, [])]
def hintOf : List (Nat × List (List Nat)) → FuncId → List (List Nat)
 | [], _ => []
 | (g, h) :: l, f => if g = f then h else hintOf l f
noncomputable def T : FuncId → Option Fn' := table Try.prog (hintOf hintRows)
noncomputable def irOf (f : FuncId) : Fn' := (T f).getD ⟨0, [], .bad⟩
theorem sound : SemOk Try.prog (sem T) := sem_ok _ _
end Go.Ax
/- FnD1 -/
namespace Go.Ax
open Go.Proofs
abbrev OkT (f : FuncId) (us : List V) (x : M Res) : Prop := ∀ {H : Heap} {Q : V → Heap → Prop}, Ok x H (fun r H' => ∃ L, r = .ret L ∧ Q (zdX L) H') → Ok (sem T f us) H Q
theorem okT {f : FuncId} {us : List V} {x : M Res} (hT : T f = some (irOf f)) (hl : Nat.ble us.length (irOf f).ntmps = true) (hx : zdp (sem T) (irOf f).rv (irOf f).body [] [] (params 0 us) = x) : OkT f us x := fun h => ok_sem hT (Nat.le_of_ble_eq_true hl) hx h
noncomputable def zgl (G : Sem') (t0 : V) : M Res :=
 (G zei []).bind fun t4 =>
 (M.lift (Ax.build [(V.int .u32 0), (V.int .i64 0), (V.int .i64 0), (V.bool false), (V.int .i64 0), (V.int .i64 0), (V.bool false), (V.int .u16 0), (V.int .u32 0), (V.int .u32 0), (V.int .u16 0), (V.int .u16 0), (V.int .i64 0), V.nils, V.nilp, (V.bool false)] [(0, 1, t0), (1, 1, (V.int .i64 3)), (2, 1, (V.int .i64 7)), (14, 1, t4)])).bind fun t5 =>
 (mbox zbN t5).bind fun t6 =>
 M.pure (.ret [t6])
theorem zgX {t0 : V} : OkT zdH [t0] (zgl (sem T) t0) := okT (by kernel_rfl) (by kernel_rfl) (by kernel_rfl)
noncomputable def zgh (G : Sem') : M Res :=
 (M.lift (Ax.build [V.nils] [])).bind fun t1 =>
 (mbox zch t1).bind fun t2 =>
 M.pure (.ret [t2])
theorem zgS : OkT zei [] (zgh (sem T)) := okT (by kernel_rfl) (by kernel_rfl) (by kernel_rfl)
noncomputable def zc1 (G : Sem') : M Res :=
 (G zdH [(V.int .u32 9)]).bind fun t8 =>
 (M.lift (eqr .ptr false t8 V.nilp)).bind fun t10 =>
 M.ite t10
 (M.pure (.ret [(V.bool false)]))
 ((M.lift (Ax.build [(V.bool false), (V.bool false), (V.int .i64 0), (V.int .u16 0), (V.bool false), (V.int .i64 0), (V.int .i64 0), V.nils, (V.int .i64 0), V.nils, V.nils, (V.bool false), (V.int .u32 0), (V.bool false), (V.bool false), (V.bool false), V.nils, V.nils, V.nils] [(0, 1, (V.bool true)), (3, 1, (V.int .u16 4))])).bind fun t12 =>
 (mslit zaz 1 [(V.int .u8 0)] [(0, 1, (V.int .u8 120))]).bind fun t13 =>
 (mremark zaz t13).bind fun t14 =>
 (G zaN [t12, (V.int .u16 0), t14]).bind fun t15 =>
 (M.lift (Ax.ext 0 t15)).bind fun t16 =>
 (M.lift (Ax.ext 1 t15)).bind fun t17 =>
 (mbox zai (V.agg [(V.bool false), (V.int .i64 0), (V.int .u16 0), (V.int .u32 0), (V.int .u32 0), V.nils, (V.int .i64 0), V.nils, (V.int .i64 0), V.nils])).bind fun t2 =>
 (mbox zal (V.agg [(V.bool false), (V.bool false), (V.int .i64 0), (V.int .u16 0), (V.bool false), (V.int .i64 0), (V.int .i64 0), V.nils, (V.int .i64 0), V.nils, V.nils, (V.bool false), (V.int .u32 0), (V.bool false), (V.bool false), (V.bool false), V.nils, V.nils, V.nils])).bind fun t3 =>
 (zam 10 t2 t16).bind fun _ =>
 (zam 19 t3 t17).bind fun _ =>
 (zab (some 10) t2).bind fun t20 =>
 (zab (some 19) t3).bind fun t21 =>
 M.getH.bind fun h0 =>
 (G zaB []).bind fun t22 =>
 M.getH.bind fun h0' =>
 (M.unch t3 h0 h0').bind fun _ =>
 (M.unch t2 h0 h0').bind fun _ =>
 (G zaS [t8, (V.int .i64 0), t20, t21, t22, (V.int .u32 3), (V.int .i64 0)]).bind fun t23 =>
 (M.lift (Ax.ext 0 t23)).bind fun t24 =>
 (mbox zbE (V.agg [V.nils, (V.int .i64 0), (V.bool false)])).bind fun t4 =>
 (zam 3 t4 t24).bind fun _ =>
 (M.lift (Ax.ext 1 t23)).bind fun t25 =>
 (M.lift (Ax.build [(V.bool false), (V.bool false), (V.int .i64 0), (V.int .u16 0), (V.bool false), (V.int .i64 0), (V.int .i64 0), V.nils, (V.int .i64 0), V.nils, V.nils, (V.bool false), (V.int .u32 0), (V.bool false), (V.bool false), (V.bool false), V.nils, V.nils, V.nils] [(0, 1, (V.bool true)), (4, 1, (V.bool true)), (3, 1, (V.int .u16 5))])).bind fun t27 =>
 (mslit zaz 1 [(V.int .u8 0)] [(0, 1, (V.int .u8 121))]).bind fun t28 =>
 (mremark zaz t28).bind fun t29 =>
 (G zaN [t27, (V.int .u16 1), t29]).bind fun t30 =>
 (M.lift (Ax.ext 0 t30)).bind fun t31 =>
 (M.lift (Ax.ext 1 t30)).bind fun t32 =>
 (zam 10 t2 t31).bind fun _ =>
 (zam 19 t3 t32).bind fun _ =>
 (zab (some 10) t2).bind fun t35 =>
 (zab (some 19) t3).bind fun t36 =>
 M.getH.bind fun h1 =>
 (G zaB []).bind fun t37 =>
 M.getH.bind fun h1' =>
 (M.unch t3 h1 h1').bind fun _ =>
 (M.unch t2 h1 h1').bind fun _ =>
 (G zaS [t8, (V.int .i64 0), t35, t36, t37, (V.int .u32 3), (V.int .i64 0)]).bind fun t38 =>
 (M.lift (Ax.ext 0 t38)).bind fun t39 =>
 (mbox zbE (V.agg [V.nils, (V.int .i64 0), (V.bool false)])).bind fun t6 =>
 (zam 3 t6 t39).bind fun _ =>
 (M.lift (Ax.ext 1 t38)).bind fun t40 =>
 (M.lift (Ax.bin .eql t25 (V.int .i64 0))).bind fun t42 =>
 (zaa [(0, t42)] (some (0, true)) (M.lift (Ax.faddr 1 t4))).bind fun t44 =>
 (zaa [(0, t42)] (some (0, true)) (zab none t44)).bind fun t45 =>
 (zaa [(0, t42)] (some (0, true)) (M.lift (Ax.bin .eql t45 (V.int .i64 1)))).bind fun t46 =>
 (M.lift (Ax.pick t42 t46 (V.bool false))).bind fun t47 =>
 (zaa [(0, t47)] (some (0, true)) (M.lift (Ax.faddr 0 t4))).bind fun t49 =>
 (zaa [(0, t47)] (some (0, true)) (zab none t49)).bind fun t50 =>
 (zaa [(0, t47)] (some (0, true)) (M.lift (vlen t50))).bind fun t51 =>
 (zaa [(0, t47)] (some (0, true)) (M.lift (Ax.bin .eql t51 (V.int .i64 0)))).bind fun t52 =>
 (M.lift (Ax.pick t47 t52 (V.bool false))).bind fun t53 =>
 (zaa [(0, t53)] (some (0, true)) (M.pure t40)).bind fun t55 =>
 (zaa [(0, t53)] (some (0, true)) (M.lift (Ax.bin .eql t55 (V.int .i64 0)))).bind fun t56 =>
 (M.lift (Ax.pick t53 t56 (V.bool false))).bind fun t57 =>
 (zaa [(0, t57)] (some (0, true)) (M.lift (Ax.faddr 1 t6))).bind fun t59 =>
 (zaa [(0, t57)] (some (0, true)) (zab none t59)).bind fun t60 =>
 (zaa [(0, t57)] (some (0, true)) (M.lift (Ax.bin .eql t60 (V.int .i64 0)))).bind fun t61 =>
 (M.lift (Ax.pick t57 t61 (V.bool false))).bind fun t62 =>
 (zaa [(0, t62)] (some (0, true)) (M.lift (Ax.faddr 0 t6))).bind fun t64 =>
 (zaa [(0, t62)] (some (0, true)) (zab none t64)).bind fun t65 =>
 (zaa [(0, t62)] (some (0, true)) (M.lift (vlen t65))).bind fun t66 =>
 (zaa [(0, t62)] (some (0, true)) (M.lift (Ax.bin .gtr t66 (V.int .i64 12)))).bind fun t67 =>
 (M.lift (Ax.pick t62 t67 (V.bool false))).bind fun t68 =>
 (zaa [(0, t68)] (some (0, true)) (M.pure t8)).bind fun t70 =>
 (zaa [(0, t68)] (some (0, true)) (G zcr [t70])).bind fun t71 =>
 (zaa [(0, t68)] (some (0, true)) (M.lift (Ax.bin .eql t71 (V.int .u32 9)))).bind fun t72 =>
 (M.lift (Ax.pick t68 t72 (V.bool false))).bind fun t73 =>
 M.pure (.ret [t73]))
theorem zec : OkT zbz [] (zc1 (sem T)) := okT (by kernel_rfl) (by kernel_rfl) (by kernel_rfl)
noncomputable def zcQ (G : Sem') (t0 t1 t2 : V) : M Res :=
 (mbox zal t0).bind fun t3 =>
 (mbox zai (V.agg [(V.bool false), (V.int .i64 0), (V.int .u16 0), (V.int .u32 0), (V.int .u32 0), V.nils, (V.int .i64 0), V.nils, (V.int .i64 0), V.nils])).bind fun t6 =>
 (mbox zal (V.agg [(V.bool false), (V.bool false), (V.int .i64 0), (V.int .u16 0), (V.bool false), (V.int .i64 0), (V.int .i64 0), V.nils, (V.int .i64 0), V.nils, V.nils, (V.bool false), (V.int .u32 0), (V.bool false), (V.bool false), (V.bool false), V.nils, V.nils, V.nils])).bind fun t7 =>
 (G zaB []).bind fun t13 =>
 (G za3 [t13]).bind fun t14 =>
 (mbox zaf (V.agg [(V.int .i64 0), (V.int .i64 0), V.nils, (V.int .i64 0), V.nils, V.nils])).bind fun t8 =>
 (zam 6 t8 t14).bind fun _ =>
 (M.lift (Ax.faddr 4 t3)).bind fun t15 =>
 (zab none t15).bind fun t16 =>
 M.join (M.ite t16
 ((G zaB []).bind fun t17 =>
 (M.lift (Ax.faddr 5 t3)).bind fun t18 =>
 (zam 6 t18 t17).bind fun _ =>
 M.pure (.nrm []))
 (M.pure (.nrm []))) fun _ =>
 (M.lift (Ax.faddr 2 t8)).bind fun t19 =>
 (zab none t19).bind fun t20 =>
 (M.lift (Ax.faddr 2 t3)).bind fun t21 =>
 (zab none t21).bind fun t22 =>
 (M.lift (Ax.bin .rem t22 (V.int .i64 3))).bind fun t23 =>
 (M.lift (Ax.iaddr none 5 t20 t23)).bind fun t24 =>
 (zab (some 5) t24).bind fun t25 =>
 (mbox zao (V.agg [(V.int .i64 0), (V.int .i64 0), V.nils, V.nils, V.nils])).bind fun t9 =>
 (zam 5 t9 t25).bind fun _ =>
 (M.lift (Ax.faddr 2 t9)).bind fun t26 =>
 (zab none t26).bind fun t27 =>
 (M.lift (Ax.faddr 3 t9)).bind fun t28 =>
 (zab none t28).bind fun t29 =>
 (M.lift (Ax.faddr 16 t3)).bind fun t30 =>
 M.getH.bind fun h0 =>
 (zam 1 t30 t27).bind fun _ =>
 M.getH.bind fun h0' =>
 (M.unch t28 h0 h0').bind fun _ =>
 (M.lift (Ax.faddr 17 t3)).bind fun t31 =>
 (zam 1 t31 t29).bind fun _ =>
 (M.lift (Ax.faddr 18 t3)).bind fun t32 =>
 (zam 1 t32 V.nils).bind fun _ =>
 (zab (some 19) t3).bind fun t34 =>
 (zab (some 6) t8).bind fun t36 =>
 M.getH.bind fun h1 =>
 (G zbJ [t34]).bind fun t35 =>
 M.getH.bind fun h1' =>
 (M.unch t8 h1 h1').bind fun _ =>
 (G zbH [t35, t36]).bind fun t37 =>
 (M.lift (Ax.ext 0 t37)).bind fun t38 =>
 (M.lift (Ax.ext 1 t37)).bind fun t39 =>
 (M.lift (Ax.faddr 3 t3)).bind fun t41 =>
 (zab none t41).bind fun t42 =>
 (M.lift (Ax.cint .u32 t42)).bind fun t43 =>
 (M.lift (Ax.bin .mul (V.int .u32 3000) t43)).bind fun t44 =>
 (M.lift (Ax.build [(V.int .i64 0), V.nils] [(0, 1, (V.int .i64 1)), (1, 1, t38)])).bind fun t46 =>
 (mslit zbf 1 [(V.int .i64 0), V.nils] [(0, 2, t46)]).bind fun t47 =>
 (M.lift (Ax.build [(V.bool false), (V.int .i64 0), (V.int .u16 0), (V.int .u32 0), (V.int .u32 0), V.nils, (V.int .i64 0), V.nils, (V.int .i64 0), V.nils] [(1, 1, (V.int .i64 96)), (2, 1, t1), (3, 1, t44), (4, 1, (V.int .u32 7)), (6, 1, (V.int .i64 4096)), (7, 1, t47), (9, 1, t2)])).bind fun t49 =>
 (mbox zai (V.agg [(V.bool false), (V.int .i64 0), (V.int .u16 0), (V.int .u32 0), (V.int .u32 0), V.nils, (V.int .i64 0), V.nils, (V.int .i64 0), V.nils])).bind fun t12 =>
 (zam 10 t12 t49).bind fun _ =>
 (zab (some 10) t12).bind fun t50 =>
 (zab (some 19) t3).bind fun t51 =>
 M.getH.bind fun h2 =>
 (zam 10 t6 t50).bind fun _ =>
 M.getH.bind fun h2' =>
 (M.unch t3 h2 h2').bind fun _ =>
 (zam 19 t7 t51).bind fun _ =>
 (zab (some 10) t6).bind fun r0 =>
 (zab (some 19) t7).bind fun r1 =>
 M.pure (.ret [r0, r1])
theorem zdY {t0 t1 t2 : V} : OkT zaN [t0, t1, t2] (zcQ (sem T) t0 t1 t2) := okT (by kernel_rfl) (by kernel_rfl) (by kernel_rfl)
noncomputable def zc0 (G : Sem') : M Res :=
 (mbox zag (V.agg [(V.int .i64 0), (V.int .i64 0), V.nils, (V.int .i64 0), V.nils, V.nils])).bind fun t0 =>
 (mslit zcy 2 [(V.int .i64 0)] [(0, 1, (V.int .i64 2)), (1, 1, (V.int .i64 2))]).bind fun t1 =>
 (M.lift (Ax.build [(V.int .i64 0), (V.int .i64 0), V.nils, V.nils, V.nils] [(2, 1, t1)])).bind fun t2 =>
 (mslit zcy 2 [(V.int .i64 0)] [(0, 1, (V.int .i64 2)), (1, 1, (V.int .i64 2))]).bind fun t3 =>
 (mslit zcy 1 [(V.int .i64 0)] [(0, 1, (V.int .i64 2))]).bind fun t4 =>
 (M.lift (Ax.build [(V.int .i64 0), (V.int .i64 0), V.nils, V.nils, V.nils] [(2, 1, t3), (3, 1, t4)])).bind fun t5 =>
 (mslit zcy 2 [(V.int .i64 0)] [(0, 1, (V.int .i64 1)), (1, 1, (V.int .i64 0))]).bind fun t6 =>
 (mslit zcy 1 [(V.int .i64 0)] [(0, 1, (V.int .i64 1))]).bind fun t7 =>
 (M.lift (Ax.build [(V.int .i64 0), (V.int .i64 0), V.nils, V.nils, V.nils] [(1, 1, (V.int .i64 1)), (2, 1, t6), (3, 1, t7)])).bind fun t8 =>
 (mslit zah 3 [(V.int .i64 0), (V.int .i64 0), V.nils, V.nils, V.nils] [(0, 5, t2), (5, 5, t5), (10, 5, t8)]).bind fun t9 =>
 (M.lift (Ax.build [(V.int .i64 0), (V.int .i64 0), V.nils, (V.int .i64 0), V.nils, V.nils] [(1, 1, (V.int .i64 2)), (2, 1, t9)])).bind fun t10 =>
 (zam 6 t0 t10).bind fun _ =>
 (zab (some 6) t0).bind fun r0 =>
 M.pure (.ret [r0])
theorem zeb : OkT zaB [] (zc0 (sem T)) := okT (by kernel_rfl) (by kernel_rfl) (by kernel_rfl)
noncomputable def zbG (G : Sem') (t1 t3 t2 : V) (L : List V) : M Res :=
 (M.lift (Ax.faddr 2 t1)).bind fun t17 =>
 (zab none t17).bind fun t18 =>
 (M.lift (vlen t18)).bind fun t19 =>
 (M.lift (Ax.bin .lss (L.getD 0 .undef) t19)).bind fun t20 =>
 M.ite t20
 (M.blk 1 (
 (M.lift (Ax.faddr 2 t3)).bind fun t23 =>
 (zab none t23).bind fun t24 =>
 (M.lift (Ax.faddr 2 t1)).bind fun t25 =>
 (zab none t25).bind fun t26 =>
 (M.lift (Ax.iaddr none 5 t26 (L.getD 0 .undef))).bind fun t28 =>
 (zab (some 5) t28).bind fun t29 =>
 (mslit zao 1 [(V.int .i64 0), (V.int .i64 0), V.nils, V.nils, V.nils] [(0, 5, t29)]).bind fun t30 =>
 (mappend zao 5 88 t24 t30).bind fun t31 =>
 (M.lift (Ax.faddr 2 t3)).bind fun t32 =>
 (zam 1 t32 t31).bind fun _ =>
 M.pure (.nrm [])) fun _ =>
 (M.lift (Ax.bin .add (L.getD 0 .undef) (V.int .i64 1))).bind fun t22 =>
 M.pure (.nrm [t22]))
 (M.pure (.ex 0 []))
noncomputable def zcA (G : Sem') (t0 : V) : M Res :=
 (mbox zag t0).bind fun t1 =>
 (mbox zaf (V.agg [(V.int .i64 0), (V.int .i64 0), V.nils, (V.int .i64 0), V.nils, V.nils])).bind fun t2 =>
 (M.lift (Ax.faddr 0 t1)).bind fun t5 =>
 (zab none t5).bind fun t6 =>
 (M.lift (Ax.faddr 1 t1)).bind fun t7 =>
 (zab none t7).bind fun t8 =>
 (M.lift (Ax.faddr 3 t1)).bind fun t9 =>
 (zab none t9).bind fun t10 =>
 (M.lift (Ax.faddr 4 t1)).bind fun t11 =>
 (zab none t11).bind fun t12 =>
 (M.lift (Ax.faddr 5 t1)).bind fun t13 =>
 (zab none t13).bind fun t14 =>
 (M.lift (Ax.build [(V.int .i64 0), (V.int .i64 0), V.nils, (V.int .i64 0), V.nils, V.nils] [(0, 1, t6), (1, 1, t8), (3, 1, t10), (4, 1, t12), (5, 1, t14)])).bind fun t15 =>
 (mbox zaf (V.agg [(V.int .i64 0), (V.int .i64 0), V.nils, (V.int .i64 0), V.nils, V.nils])).bind fun t3 =>
 (zam 6 t3 t15).bind fun _ =>
 M.blk 0 (
 M.iter (zbG G t1 t3 t2) [(V.int .i64 0)]) fun _ =>
 (zab (some 6) t3).bind fun t33 =>
 (zam 6 t2 t33).bind fun _ =>
 (zab (some 6) t2).bind fun r0 =>
 M.pure (.ret [r0])
theorem zdL {t0 : V} : OkT za3 [t0] (zcA (sem T) t0) := okT (by kernel_rfl) (by kernel_rfl) (by kernel_rfl)
noncomputable def zdi (G : Sem') (t0 : V) : M Res :=
 (mbox zal t0).bind fun t1 =>
 (mbox zau (V.agg [(V.bool false), (V.bool false), (V.int .i64 0), (V.int .u16 0), (V.bool false), (V.int .i64 0), (V.int .i64 0), V.nils, (V.int .i64 0), V.nils, V.nils, (V.bool false), (V.int .u32 0), (V.bool false), (V.bool false), (V.bool false), V.nils, V.nils, V.nils])).bind fun t2 =>
 (M.lift (Ax.faddr 0 t1)).bind fun t3 =>
 (zab none t3).bind fun t4 =>
 (M.lift (Ax.faddr 1 t1)).bind fun t5 =>
 (zab none t5).bind fun t6 =>
 (M.lift (Ax.faddr 2 t1)).bind fun t7 =>
 (zab none t7).bind fun t8 =>
 (M.lift (Ax.faddr 3 t1)).bind fun t9 =>
 (zab none t9).bind fun t10 =>
 (M.lift (Ax.faddr 4 t1)).bind fun t11 =>
 (zab none t11).bind fun t12 =>
 (M.lift (Ax.faddr 5 t1)).bind fun t13 =>
 (zab (some 6) t13).bind fun t14 =>
 (M.lift (Ax.faddr 11 t1)).bind fun t16 =>
 (zab none t16).bind fun t17 =>
 (M.lift (Ax.faddr 12 t1)).bind fun t18 =>
 (zab none t18).bind fun t19 =>
 (M.lift (Ax.faddr 13 t1)).bind fun t20 =>
 (zab none t20).bind fun t21 =>
 (M.lift (Ax.faddr 14 t1)).bind fun t22 =>
 (zab none t22).bind fun t23 =>
 (M.lift (Ax.faddr 15 t1)).bind fun t24 =>
 (zab none t24).bind fun t25 =>
 (M.lift (Ax.faddr 16 t1)).bind fun t26 =>
 (zab none t26).bind fun t27 =>
 (M.lift (Ax.faddr 17 t1)).bind fun t28 =>
 (zab none t28).bind fun t29 =>
 (M.lift (Ax.faddr 18 t1)).bind fun t30 =>
 (zab none t30).bind fun t31 =>
 M.getH.bind fun h0 =>
 (G za3 [t14]).bind fun t15 =>
 M.getH.bind fun h0' =>
 (M.unch t30 h0 h0').bind fun _ =>
 (M.unch t28 h0 h0').bind fun _ =>
 (M.unch t26 h0 h0').bind fun _ =>
 (M.unch t24 h0 h0').bind fun _ =>
 (M.unch t22 h0 h0').bind fun _ =>
 (M.unch t20 h0 h0').bind fun _ =>
 (M.unch t18 h0 h0').bind fun _ =>
 (M.unch t16 h0 h0').bind fun _ =>
 (M.unch t11 h0 h0').bind fun _ =>
 (M.unch t9 h0 h0').bind fun _ =>
 (M.unch t7 h0 h0').bind fun _ =>
 (M.unch t5 h0 h0').bind fun _ =>
 (M.unch t3 h0 h0').bind fun _ =>
 (M.lift (Ax.build [(V.bool false), (V.bool false), (V.int .i64 0), (V.int .u16 0), (V.bool false), (V.int .i64 0), (V.int .i64 0), V.nils, (V.int .i64 0), V.nils, V.nils, (V.bool false), (V.int .u32 0), (V.bool false), (V.bool false), (V.bool false), V.nils, V.nils, V.nils] [(0, 1, t4), (1, 1, t6), (2, 1, t8), (3, 1, t10), (4, 1, t12), (5, 6, t15), (11, 1, t17), (12, 1, t19), (13, 1, t21), (14, 1, t23), (15, 1, t25), (16, 1, t27), (17, 1, t29), (18, 1, t31)])).bind fun t32 =>
 (zam 19 t2 t32).bind fun _ =>
 (zab (some 19) t2).bind fun r0 =>
 M.pure (.ret [r0])
theorem zez {t0 : V} : OkT zbJ [t0] (zdi (sem T) t0) := okT (by kernel_rfl) (by kernel_rfl) (by kernel_rfl)
noncomputable def zbe (G : Sem') (t6 t2 t4 t5 : V) (L : List V) : M Res :=
 (M.lift (Ax.faddr 13 t2)).bind fun t104 =>
 (zab none t104).bind fun t105 =>
 (zaa [(0, t105)] (some (0, true)) (M.pure (L.getD 0 .undef))).bind fun t107 =>
 (zaa [(0, t105)] (some (0, true)) (M.lift (Ax.faddr 16 t2))).bind fun t108 =>
 (zaa [(0, t105)] (some (0, true)) (zab none t108)).bind fun t109 =>
 (zaa [(0, t105)] (some (0, true)) (M.lift (vlen t109))).bind fun t110 =>
 (zaa [(0, t105)] (some (0, true)) (M.lift (Ax.bin .lss t107 t110))).bind fun t111 =>
 (M.lift (Ax.pick t105 t111 (V.bool false))).bind fun t112 =>
 M.ite t112
 (M.blk 1 (
 (M.lift (Ax.faddr 16 t2)).bind fun t116 =>
 (zab none t116).bind fun t117 =>
 (M.lift (Ax.iaddr none 1 t117 (L.getD 0 .undef))).bind fun t119 =>
 (zab none t119).bind fun t120 =>
 (M.lift (Ax.cint .u64 t120)).bind fun t121 =>
 (G zae [t6, t121, (V.int .i64 2)]).bind fun t122 =>
 M.pure (.nrm [])) fun _ =>
 (M.lift (Ax.bin .add (L.getD 0 .undef) (V.int .i64 1))).bind fun t114 =>
 M.pure (.nrm [t114]))
 (M.pure (.ex 0 []))
noncomputable def zcO (G : Sem') (t2 t8 t4 t5 : V) (L : List V) : M Res :=
 (M.lift (Ax.faddr 17 t2)).bind fun t132 =>
 (zab none t132).bind fun t133 =>
 (M.lift (Ax.iaddr none 1 t133 t8)).bind fun t135 =>
 (zab none t135).bind fun t136 =>
 (M.lift (Ax.bin .mul (V.int .i64 4) (L.getD 0 .undef))).bind fun t138 =>
 (M.lift (Ax.cint .u64 t138)).bind fun t139 =>
 (M.lift (Ax.bin .shl (V.int .i64 1) t139)).bind fun t140 =>
 (M.lift (Ax.bin .gtr t136 t140)).bind fun t141 =>
 M.ite t141
 (M.blk 5 (
 (M.lift (Ax.bin .add (L.getD 0 .undef) (V.int .i64 1))).bind fun t143 =>
 M.pure (.nrm [t143])) fun L4 =>
 M.pure (.nrm [(L4.getD 0 .undef)]))
 (M.pure (.ex 4 [(L.getD 0 .undef)]))
noncomputable def zbB (G : Sem') (t6 t2 t4 t5 : V) (L : List V) : M Res :=
 (M.lift (Ax.faddr 17 t2)).bind fun t126 =>
 (zab none t126).bind fun t127 =>
 (M.lift (vlen t127)).bind fun t128 =>
 (M.lift (Ax.bin .lss (L.getD 0 .undef) t128)).bind fun t129 =>
 M.ite t129
 (M.blk 3 (
 M.blk 4 (
 M.iter (zcO G t2 (L.getD 0 .undef) t4 t5) [(V.int .i64 1)]) fun L5 =>
 (M.lift (Ax.cint .u64 (L5.getD 0 .undef))).bind fun t146 =>
 (G zae [t6, t146, (V.int .i64 2)]).bind fun t147 =>
 (M.lift (Ax.faddr 17 t2)).bind fun t149 =>
 (zab none t149).bind fun t150 =>
 (M.lift (Ax.iaddr none 1 t150 (L.getD 0 .undef))).bind fun t152 =>
 (zab none t152).bind fun t153 =>
 (M.lift (Ax.bin .sub t153 (V.int .i64 1))).bind fun t154 =>
 (M.lift (Ax.cint .u64 t154)).bind fun t155 =>
 (M.lift (Ax.bin .mul (V.int .i64 4) (L5.getD 0 .undef))).bind fun t157 =>
 (G zae [t6, t155, t157]).bind fun t158 =>
 M.pure (.nrm [])) fun _ =>
 (M.lift (Ax.bin .add (L.getD 0 .undef) (V.int .i64 1))).bind fun t131 =>
 M.pure (.nrm [t131]))
 (M.pure (.ex 2 []))
noncomputable def zbd (G : Sem') (t6 t2 t4 t5 : V) (L : List V) : M Res :=
 (M.lift (Ax.faddr 15 t2)).bind fun t161 =>
 (zab none t161).bind fun t162 =>
 (zaa [(0, t162)] (some (0, true)) (M.pure (L.getD 0 .undef))).bind fun t164 =>
 (zaa [(0, t162)] (some (0, true)) (M.lift (Ax.faddr 18 t2))).bind fun t165 =>
 (zaa [(0, t162)] (some (0, true)) (zab none t165)).bind fun t166 =>
 (zaa [(0, t162)] (some (0, true)) (M.lift (vlen t166))).bind fun t167 =>
 (zaa [(0, t162)] (some (0, true)) (M.lift (Ax.bin .lss t164 t167))).bind fun t168 =>
 (M.lift (Ax.pick t162 t168 (V.bool false))).bind fun t169 =>
 M.ite t169
 (M.blk 7 (
 (M.lift (Ax.faddr 18 t2)).bind fun t173 =>
 (zab none t173).bind fun t174 =>
 (M.lift (Ax.iaddr none 1 t174 (L.getD 0 .undef))).bind fun t176 =>
 (zab none t176).bind fun t177 =>
 (M.lift (Ax.cint .u64 t177)).bind fun t178 =>
 (G zae [t6, t178, (V.int .i64 8)]).bind fun t179 =>
 M.pure (.nrm [])) fun _ =>
 (M.lift (Ax.bin .add (L.getD 0 .undef) (V.int .i64 1))).bind fun t171 =>
 M.pure (.nrm [t171]))
 (M.pure (.ex 6 []))
noncomputable def zdg (G : Sem') (t0 t1 : V) : M Res :=
 (mbox zau t0).bind fun t2 =>
 (mbox zaf t1).bind fun t3 =>
 (zab (some 19) t2).bind fun t11 =>
 (zab (some 6) t3).bind fun t12 =>
 (G zbO [t11, t12]).bind fun t13 =>
 (M.lift (Ax.un .not t13)).bind fun t14 =>
 M.ite t14
 (M.pure (.ret [V.nils, (V.int .i64 1)]))
 ((M.lift (Ax.build [V.nils] [])).bind fun t15 =>
 (mbox zaY t15).bind fun t16 =>
 (M.lift (Ax.faddr 0 t2)).bind fun t18 =>
 (zab none t18).bind fun t19 =>
 (G zat [t19]).bind fun t20 =>
 (G zae [t16, t20, (V.int .i64 1)]).bind fun t21 =>
 (M.lift (Ax.faddr 1 t2)).bind fun t23 =>
 (zab none t23).bind fun t24 =>
 (G zat [t24]).bind fun t25 =>
 (G zae [t16, t25, (V.int .i64 1)]).bind fun t26 =>
 (M.lift (Ax.faddr 2 t2)).bind fun t28 =>
 (zab none t28).bind fun t29 =>
 (M.lift (Ax.cint .u64 t29)).bind fun t30 =>
 (G zae [t16, t30, (V.int .i64 6)]).bind fun t31 =>
 (M.lift (Ax.faddr 3 t2)).bind fun t33 =>
 (zab none t33).bind fun t34 =>
 (M.lift (Ax.cint .u64 t34)).bind fun t35 =>
 (G zae [t16, t35, (V.int .i64 16)]).bind fun t36 =>
 (M.lift (Ax.faddr 4 t2)).bind fun t37 =>
 (zab none t37).bind fun t38 =>
 (M.lift (Ax.un .not t38)).bind fun t39 =>
 (zaa [(0, t39)] (some (0, true)) (M.lift (Ax.faddr 11 t2))).bind fun t41 =>
 (zaa [(0, t39)] (some (0, true)) (zab none t41)).bind fun t42 =>
 (zaa [(0, t39)] (some (0, true)) (M.lift (Ax.un .not t42))).bind fun t43 =>
 (M.lift (Ax.pick t39 t43 (V.bool false))).bind fun t44 =>
 (zaa [(0, t44)] (some (0, true)) (M.lift (Ax.faddr 13 t2))).bind fun t46 =>
 (zaa [(0, t44)] (some (0, true)) (zab none t46)).bind fun t47 =>
 (zaa [(0, t44)] (some (0, true)) (M.lift (Ax.un .not t47))).bind fun t48 =>
 (M.lift (Ax.pick t44 t48 (V.bool false))).bind fun t49 =>
 (zaa [(0, t49)] (some (0, true)) (M.lift (Ax.faddr 14 t2))).bind fun t51 =>
 (zaa [(0, t49)] (some (0, true)) (zab none t51)).bind fun t52 =>
 (zaa [(0, t49)] (some (0, true)) (M.lift (Ax.un .not t52))).bind fun t53 =>
 (M.lift (Ax.pick t49 t53 (V.bool false))).bind fun t54 =>
 (zaa [(0, t54)] (some (0, true)) (M.lift (Ax.faddr 15 t2))).bind fun t56 =>
 (zaa [(0, t54)] (some (0, true)) (zab none t56)).bind fun t57 =>
 (zaa [(0, t54)] (some (0, true)) (M.lift (Ax.un .not t57))).bind fun t58 =>
 (M.lift (Ax.pick t54 t58 (V.bool false))).bind fun t59 =>
 M.ite t59
 ((G zaI [t16]).bind fun t61 =>
 M.pure (.ret [t61, (V.int .i64 0)]))
 ((M.lift (Ax.faddr 4 t2)).bind fun t63 =>
 (zab none t63).bind fun t64 =>
 (G zat [t64]).bind fun t65 =>
 (G zae [t16, t65, (V.int .i64 1)]).bind fun t66 =>
 (M.lift (Ax.faddr 11 t2)).bind fun t68 =>
 (zab none t68).bind fun t69 =>
 (G zat [t69]).bind fun t70 =>
 (G zae [t16, t70, (V.int .i64 1)]).bind fun t71 =>
 (M.lift (Ax.faddr 13 t2)).bind fun t73 =>
 (zab none t73).bind fun t74 =>
 (G zat [t74]).bind fun t75 =>
 (G zae [t16, t75, (V.int .i64 1)]).bind fun t76 =>
 (M.lift (Ax.faddr 14 t2)).bind fun t78 =>
 (zab none t78).bind fun t79 =>
 (G zat [t79]).bind fun t80 =>
 (G zae [t16, t80, (V.int .i64 1)]).bind fun t81 =>
 (M.lift (Ax.faddr 15 t2)).bind fun t83 =>
 (zab none t83).bind fun t84 =>
 (G zat [t84]).bind fun t85 =>
 (G zae [t16, t85, (V.int .i64 1)]).bind fun t86 =>
 (M.lift (Ax.faddr 4 t2)).bind fun t87 =>
 (zab none t87).bind fun t88 =>
 M.join (M.ite t88
 ((M.lift (Ax.faddr 5 t2)).bind fun t90 =>
 (zab (some 6) t90).bind fun t91 =>
 (G zby [t16, t91]).bind fun t92 =>
 M.pure (.nrm []))
 (M.pure (.nrm []))) fun _ =>
 (M.lift (Ax.faddr 11 t2)).bind fun t93 =>
 (zab none t93).bind fun t94 =>
 M.join (M.ite t94
 ((M.lift (Ax.faddr 12 t2)).bind fun t96 =>
 (zab none t96).bind fun t97 =>
 (M.lift (Ax.cint .u64 t97)).bind fun t98 =>
 (zab (some 19) t2).bind fun t99 =>
 (zab (some 6) t3).bind fun t100 =>
 M.getH.bind fun h0 =>
 (G za5 [t99, t100]).bind fun t101 =>
 M.getH.bind fun h0' =>
 (M.unch t96 h0 h0').bind fun _ =>
 (M.lift (Ax.field 1 none t101)).bind fun t102 =>
 (G zae [t16, t98, t102]).bind fun t103 =>
 M.pure (.nrm []))
 (M.pure (.nrm []))) fun _ =>
 M.blk 0 (
 M.iter (zbe G t16 t2 V.nils (V.int .i64 0)) [(V.int .i64 0)]) fun _ =>
 (M.lift (Ax.faddr 14 t2)).bind fun t123 =>
 (zab none t123).bind fun t124 =>
 M.join (M.ite t124
 (M.blk 2 (
 M.iter (zbB G t16 t2 V.nils (V.int .i64 0)) [(V.int .i64 0)]) fun _ =>
 (G zae [t16, (V.int .u64 0), (V.int .i64 2)]).bind fun t160 =>
 M.pure (.nrm []))
 (M.pure (.nrm []))) fun _ =>
 M.blk 6 (
 M.iter (zbd G t16 t2 V.nils (V.int .i64 0)) [(V.int .i64 0)]) fun _ =>
 (G zaI [t16]).bind fun t181 =>
 M.pure (.ret [t181, (V.int .i64 0)])))
theorem zex {t0 t1 : V} : OkT zbH [t0, t1] (zdg (sem T) t0 t1) := okT (by kernel_rfl) (by kernel_rfl) (by kernel_rfl)
noncomputable def zds (G : Sem') (t0 t1 : V) : M Res :=
 (mbox zau t0).bind fun t2 =>
 (mbox zaf t1).bind fun t3 =>
 (zab (some 19) t2).bind fun t9 =>
 (zab (some 6) t3).bind fun t10 =>
 (G zb0 [t9, t10]).bind fun t11 =>
 (M.lift (Ax.ext 0 t11)).bind fun t12 =>
 (M.lift (Ax.ext 1 t11)).bind fun t13 =>
 (mbox zao (V.agg [(V.int .i64 0), (V.int .i64 0), V.nils, V.nils, V.nils])).bind fun t5 =>
 (zam 5 t5 t12).bind fun _ =>
 (M.lift (Ax.un .not t13)).bind fun t15 =>
 (zaa [(0, t15)] (some (0, false)) (M.lift (Ax.faddr 4 t2))).bind fun t17 =>
 (zaa [(0, t15)] (some (0, false)) (zab none t17)).bind fun t18 =>
 (zaa [(0, t15)] (some (0, false)) (M.lift (Ax.un .not t18))).bind fun t19 =>
 (zaa [(0, t15)] (some (0, false)) (M.pure t19)).bind fun t20 =>
 (zaa [(0, t20)] (some (0, true)) (M.lift (Ax.faddr 5 t2))).bind fun t21 =>
 (zaa [(0, t20)] (some (0, true)) (zab (some 6) t21)).bind fun t22 =>
 (zaa [(0, t20)] (some (0, true)) (G zbi [t22])).bind fun t23 =>
 (zaa [(0, t20)] (some (0, true)) (M.lift (Ax.un .not t23))).bind fun t24 =>
 (zaa [(0, t15)] (some (0, false)) (M.lift (Ax.pick t20 t24 (V.bool false)))).bind fun t25 =>
 (M.lift (Ax.pick t15 (V.bool true) t25)).bind fun t26 =>
 M.ite t26
 (M.pure (.ret [(V.bool false)]))
 ((zab (some 19) t2).bind fun t27 =>
 (zab (some 6) t3).bind fun t28 =>
 (G za5 [t27, t28]).bind fun t29 =>
 (mbox zaf (V.agg [(V.int .i64 0), (V.int .i64 0), V.nils, (V.int .i64 0), V.nils, V.nils])).bind fun t7 =>
 (zam 6 t7 t29).bind fun _ =>
 (M.lift (Ax.faddr 11 t2)).bind fun t30 =>
 (zab none t30).bind fun t31 =>
 (M.lift (Ax.un .not t31)).bind fun t32 =>
 (zaa [(0, t32)] (some (0, true)) (M.lift (Ax.faddr 12 t2))).bind fun t34 =>
 (zaa [(0, t32)] (some (0, true)) (zab none t34)).bind fun t35 =>
 (zaa [(0, t32)] (some (0, true)) (M.lift (Ax.bin .neq t35 (V.int .u32 0)))).bind fun t36 =>
 (M.lift (Ax.pick t32 t36 (V.bool false))).bind fun t37 =>
 (zaa [(0, t37)] (some (0, false)) (M.lift (Ax.faddr 12 t2))).bind fun t39 =>
 (zaa [(0, t37)] (some (0, false)) (zab none t39)).bind fun t40 =>
 (zaa [(0, t37)] (some (0, false)) (M.lift (Ax.cint .u64 t40))).bind fun t41 =>
 (zaa [(0, t37)] (some (0, false)) (M.lift (Ax.faddr 1 t7))).bind fun t42 =>
 (zaa [(0, t37)] (some (0, false)) (zab none t42)).bind fun t43 =>
 (zaa [(0, t37)] (some (0, false)) (M.lift (Ax.cint .u64 t43))).bind fun t44 =>
 (zaa [(0, t37)] (some (0, false)) (M.lift (Ax.bin .shr t41 t44))).bind fun t45 =>
 (zaa [(0, t37)] (some (0, false)) (M.lift (Ax.bin .neq t45 (V.int .u64 0)))).bind fun t46 =>
 (M.lift (Ax.pick t37 (V.bool true) t46)).bind fun t47 =>
 M.ite t47
 (M.pure (.ret [(V.bool false)]))
 ((M.lift (Ax.faddr 13 t2)).bind fun t48 =>
 (zab none t48).bind fun t49 =>
 (M.lift (Ax.un .not t49)).bind fun t50 =>
 (zaa [(0, t50)] (some (0, true)) (M.lift (Ax.faddr 16 t2))).bind fun t52 =>
 (zaa [(0, t50)] (some (0, true)) (zab none t52)).bind fun t53 =>
 (zaa [(0, t50)] (some (0, true)) (M.lift (Ax.faddr 2 t5))).bind fun t54 =>
 (zaa [(0, t50)] (some (0, true)) (zab none t54)).bind fun t55 =>
 (zaa [(0, t50)] (some (0, true)) (G zaP [t53, t55])).bind fun t56 =>
 (zaa [(0, t50)] (some (0, true)) (M.lift (Ax.un .not t56))).bind fun t57 =>
 (M.lift (Ax.pick t50 t57 (V.bool false))).bind fun t58 =>
 (zaa [(0, t58)] (some (0, false)) (M.lift (Ax.faddr 13 t2))).bind fun t60 =>
 (zaa [(0, t58)] (some (0, false)) (zab none t60)).bind fun t61 =>
 (zaa [(0, t58)] (some (0, false)) (M.pure t61)).bind fun t62 =>
 (zaa [(0, t62)] (some (0, true)) (M.lift (Ax.faddr 16 t2))).bind fun t63 =>
 (zaa [(0, t62)] (some (0, true)) (zab none t63)).bind fun t64 =>
 (zaa [(0, t62)] (some (0, true)) (M.lift (Ax.faddr 1 t7))).bind fun t65 =>
 (zaa [(0, t62)] (some (0, true)) (zab none t65)).bind fun t66 =>
 (zaa [(0, t62)] (some (0, true)) (G zaw [t64, t66, (V.int .i64 0), (V.int .i64 3)])).bind fun t67 =>
 (zaa [(0, t62)] (some (0, true)) (M.lift (Ax.un .not t67))).bind fun t68 =>
 (zaa [(0, t58)] (some (0, false)) (M.lift (Ax.pick t62 t68 (V.bool false)))).bind fun t69 =>
 (M.lift (Ax.pick t58 (V.bool true) t69)).bind fun t70 =>
 M.ite t70
 (M.pure (.ret [(V.bool false)]))
 ((M.lift (Ax.faddr 14 t2)).bind fun t71 =>
 (zab none t71).bind fun t72 =>
 (M.lift (Ax.un .not t72)).bind fun t73 =>
 (zaa [(0, t73)] (some (0, true)) (M.lift (Ax.faddr 17 t2))).bind fun t75 =>
 (zaa [(0, t73)] (some (0, true)) (zab none t75)).bind fun t76 =>
 (zaa [(0, t73)] (some (0, true)) (M.lift (Ax.faddr 3 t5))).bind fun t77 =>
 (zaa [(0, t73)] (some (0, true)) (zab none t77)).bind fun t78 =>
 (zaa [(0, t73)] (some (0, true)) (G zaP [t76, t78])).bind fun t79 =>
 (zaa [(0, t73)] (some (0, true)) (M.lift (Ax.un .not t79))).bind fun t80 =>
 (M.lift (Ax.pick t73 t80 (V.bool false))).bind fun t81 =>
 (zaa [(0, t81)] (some (0, false)) (M.lift (Ax.faddr 14 t2))).bind fun t83 =>
 (zaa [(0, t81)] (some (0, false)) (zab none t83)).bind fun t84 =>
 (zaa [(0, t81)] (some (0, false)) (M.pure t84)).bind fun t85 =>
 (zaa [(0, t85)] (some (0, true)) (M.lift (Ax.faddr 17 t2))).bind fun t86 =>
 (zaa [(0, t85)] (some (0, true)) (zab none t86)).bind fun t87 =>
 (zaa [(0, t85)] (some (0, true)) (M.lift (vlen t87))).bind fun t88 =>
 (zaa [(0, t85)] (some (0, true)) (M.lift (Ax.bin .gtr t88 (V.int .i64 16)))).bind fun t89 =>
 (zaa [(0, t85)] (some (0, true)) (M.pure t89)).bind fun t90 =>
 (zaa [(0, t90)] (some (0, false)) (M.lift (Ax.faddr 17 t2))).bind fun t91 =>
 (zaa [(0, t90)] (some (0, false)) (zab none t91)).bind fun t92 =>
 (zaa [(0, t90)] (some (0, false)) (G zaw [t92, (V.int .i64 (-1)), (V.int .i64 1), (V.int .i64 4096)])).bind fun t93 =>
 (zaa [(0, t90)] (some (0, false)) (M.lift (Ax.un .not t93))).bind fun t94 =>
 (zaa [(0, t85)] (some (0, true)) (M.lift (Ax.pick t90 (V.bool true) t94))).bind fun t95 =>
 (zaa [(0, t81)] (some (0, false)) (M.lift (Ax.pick t85 t95 (V.bool false)))).bind fun t96 =>
 (M.lift (Ax.pick t81 (V.bool true) t96)).bind fun t97 =>
 M.ite t97
 (M.pure (.ret [(V.bool false)]))
 ((M.lift (Ax.faddr 15 t2)).bind fun t98 =>
 (zab none t98).bind fun t99 =>
 (M.lift (Ax.un .not t99)).bind fun t100 =>
 (zaa [(0, t100)] (some (0, true)) (M.lift (Ax.faddr 18 t2))).bind fun t102 =>
 (zaa [(0, t100)] (some (0, true)) (zab none t102)).bind fun t103 =>
 (zaa [(0, t100)] (some (0, true)) (M.lift (Ax.faddr 4 t5))).bind fun t104 =>
 (zaa [(0, t100)] (some (0, true)) (zab none t104)).bind fun t105 =>
 (zaa [(0, t100)] (some (0, true)) (G zaP [t103, t105])).bind fun t106 =>
 (M.lift (Ax.pick t100 t106 (V.bool false))).bind fun t107 =>
 (zaa [(0, t107)] (some (0, false)) (M.lift (Ax.faddr 15 t2))).bind fun t109 =>
 (zaa [(0, t107)] (some (0, false)) (zab none t109)).bind fun t110 =>
 (zaa [(0, t107)] (some (0, false)) (M.pure t110)).bind fun t111 =>
 (zaa [(0, t111)] (some (0, true)) (M.lift (Ax.faddr 18 t2))).bind fun t112 =>
 (zaa [(0, t111)] (some (0, true)) (zab none t112)).bind fun t113 =>
 (zaa [(0, t111)] (some (0, true)) (M.lift (Ax.faddr 3 t7))).bind fun t114 =>
 (zaa [(0, t111)] (some (0, true)) (zab none t114)).bind fun t115 =>
 (zaa [(0, t111)] (some (0, true)) (G zaw [t113, t115, (V.int .i64 0), (V.int .i64 255)])).bind fun t116 =>
 (zaa [(0, t107)] (some (0, false)) (M.lift (Ax.pick t111 t116 (V.bool false)))).bind fun t117 =>
 (M.lift (Ax.pick t107 (V.bool true) t117)).bind fun t118 =>
 M.pure (.ret [t118])))))
theorem zeE {t0 t1 : V} : OkT zbO [t0, t1] (zds (sem T) t0 t1) := okT (by kernel_rfl) (by kernel_rfl) (by kernel_rfl)
noncomputable def zdR (G : Sem') (t0 t1 : V) : M Res :=
 (mbox zau t0).bind fun t2 =>
 (mbox zaf t1).bind fun t3 =>
 (mbox zao (V.agg [(V.int .i64 0), (V.int .i64 0), V.nils, V.nils, V.nils])).bind fun t4 =>
 (zab (some 19) t2).bind fun t8 =>
 (zab (some 6) t3).bind fun t9 =>
 (G za5 [t8, t9]).bind fun t10 =>
 (mbox zaf (V.agg [(V.int .i64 0), (V.int .i64 0), V.nils, (V.int .i64 0), V.nils, V.nils])).bind fun t6 =>
 (zam 6 t6 t10).bind fun _ =>
 (M.lift (Ax.faddr 2 t2)).bind fun t11 =>
 (zab none t11).bind fun t12 =>
 (M.lift (Ax.bin .lss t12 (V.int .i64 0))).bind fun t13 =>
 (zaa [(0, t13)] (some (0, false)) (M.lift (Ax.faddr 2 t2))).bind fun t15 =>
 (zaa [(0, t13)] (some (0, false)) (zab none t15)).bind fun t16 =>
 (zaa [(0, t13)] (some (0, false)) (M.lift (Ax.bin .gtr t16 (V.int .i64 63)))).bind fun t17 =>
 (M.lift (Ax.pick t13 (V.bool true) t17)).bind fun t18 =>
 (zaa [(0, t18)] (some (0, false)) (zab (some 6) t6)).bind fun t20 =>
 (zaa [(0, t18)] (some (0, false)) (G zbP [t20])).bind fun t21 =>
 (zaa [(0, t18)] (some (0, false)) (M.lift (Ax.un .not t21))).bind fun t22 =>
 (M.lift (Ax.pick t18 (V.bool true) t22)).bind fun t23 =>
 M.ite t23
 ((M.lift (Ax.build [(V.int .i64 0), (V.int .i64 0), V.nils, V.nils, V.nils] [])).bind fun t24 =>
 (zam 5 t4 t24).bind fun _ =>
 (zab (some 5) t4).bind fun r0 =>
 M.pure (.ret [r0, (V.bool false)]))
 ((M.lift (Ax.faddr 2 t2)).bind fun t25 =>
 (zab none t25).bind fun t26 =>
 (M.lift (Ax.bin .add t26 (V.int .i64 64))).bind fun t27 =>
 (M.lift (Ax.faddr 0 t6)).bind fun t28 =>
 (zab none t28).bind fun t29 =>
 (M.lift (Ax.bin .sub t27 t29)).bind fun t30 =>
 (M.lift (Ax.bin .rem t30 (V.int .i64 64))).bind fun t31 =>
 (M.lift (Ax.faddr 2 t6)).bind fun t33 =>
 (zab none t33).bind fun t34 =>
 (M.lift (vlen t34)).bind fun t35 =>
 (M.lift (Ax.bin .geq t31 t35)).bind fun t36 =>
 M.ite t36
 ((M.lift (Ax.build [(V.int .i64 0), (V.int .i64 0), V.nils, V.nils, V.nils] [])).bind fun t37 =>
 (zam 5 t4 t37).bind fun _ =>
 (zab (some 5) t4).bind fun r0 =>
 M.pure (.ret [r0, (V.bool false)]))
 ((M.lift (Ax.faddr 2 t6)).bind fun t38 =>
 (zab none t38).bind fun t39 =>
 (M.lift (Ax.iaddr none 5 t39 t31)).bind fun t41 =>
 (zab (some 5) t41).bind fun t42 =>
 (zam 5 t4 t42).bind fun _ =>
 (zab (some 5) t4).bind fun r0 =>
 M.pure (.ret [r0, (V.bool true)])))
theorem zfa {t0 t1 : V} : OkT zb0 [t0, t1] (zdR (sem T) t0 t1) := okT (by kernel_rfl) (by kernel_rfl) (by kernel_rfl)
noncomputable def zdf (G : Sem') (t0 t1 : V) : M Res :=
 (mbox zau t0).bind fun t2 =>
 (mbox zaf t1).bind fun t3 =>
 (mbox zaf (V.agg [(V.int .i64 0), (V.int .i64 0), V.nils, (V.int .i64 0), V.nils, V.nils])).bind fun t4 =>
 (M.lift (Ax.faddr 4 t2)).bind fun t5 =>
 (zab none t5).bind fun t6 =>
 M.ite t6
 ((M.lift (Ax.faddr 5 t2)).bind fun t7 =>
 (zab (some 6) t7).bind fun t8 =>
 (zam 6 t4 t8).bind fun _ =>
 (zab (some 6) t4).bind fun r0 =>
 M.pure (.ret [r0]))
 ((zab (some 6) t3).bind fun t9 =>
 (zam 6 t4 t9).bind fun _ =>
 (zab (some 6) t4).bind fun r0 =>
 M.pure (.ret [r0]))
theorem zew {t0 t1 : V} : OkT za5 [t0, t1] (zdf (sem T) t0 t1) := okT (by kernel_rfl) (by kernel_rfl) (by kernel_rfl)
noncomputable def zb7 (G : Sem') (t3 t1 : V) (L : List V) : M Res :=
 (M.lift (Ax.bin .lss (L.getD 0 .undef) t3)).bind fun t51 =>
 M.ite t51
 (M.blk 1 (
 (M.lift (Ax.faddr 2 t1)).bind fun t54 =>
 (zab none t54).bind fun t55 =>
 (M.lift (Ax.iaddr none 5 t55 (L.getD 0 .undef))).bind fun t57 =>
 (zab (some 5) t57).bind fun t58 =>
 (mbox zao (V.agg [(V.int .i64 0), (V.int .i64 0), V.nils, V.nils, V.nils])).bind fun t5 =>
 (zam 5 t5 t58).bind fun _ =>
 (M.lift (Ax.faddr 0 t5)).bind fun t59 =>
 (zab none t59).bind fun t60 =>
 (M.lift (Ax.bin .lss t60 (V.int .i64 0))).bind fun t61 =>
 (zaa [(0, t61)] (some (0, false)) (M.lift (Ax.faddr 0 t5))).bind fun t63 =>
 (zaa [(0, t61)] (some (0, false)) (zab none t63)).bind fun t64 =>
 (zaa [(0, t61)] (some (0, false)) (M.lift (Ax.bin .gtr t64 (V.int .i64 3)))).bind fun t65 =>
 (M.lift (Ax.pick t61 (V.bool true) t65)).bind fun t66 =>
 (zaa [(0, t66)] (some (0, false)) (M.lift (Ax.faddr 1 t5))).bind fun t68 =>
 (zaa [(0, t66)] (some (0, false)) (zab none t68)).bind fun t69 =>
 (zaa [(0, t66)] (some (0, false)) (M.lift (Ax.bin .lss t69 (V.int .i64 0)))).bind fun t70 =>
 (M.lift (Ax.pick t66 (V.bool true) t70)).bind fun t71 =>
 (zaa [(0, t71)] (some (0, false)) (M.lift (Ax.faddr 1 t5))).bind fun t73 =>
 (zaa [(0, t71)] (some (0, false)) (zab none t73)).bind fun t74 =>
 (zaa [(0, t71)] (some (0, false)) (M.lift (Ax.bin .gtr t74 (V.int .i64 7)))).bind fun t75 =>
 (M.lift (Ax.pick t71 (V.bool true) t75)).bind fun t76 =>
 (zaa [(0, t76)] (some (0, false)) (M.pure (L.getD 0 .undef))).bind fun t78 =>
 (zaa [(0, t76)] (some (0, false)) (M.lift (Ax.bin .eql t78 (V.int .i64 0)))).bind fun t79 =>
 (zaa [(0, t76)] (some (0, false)) (M.pure t79)).bind fun t80 =>
 (zaa [(0, t80)] (some (0, true)) (M.lift (Ax.faddr 0 t5))).bind fun t81 =>
 (zaa [(0, t80)] (some (0, true)) (zab none t81)).bind fun t82 =>
 (zaa [(0, t80)] (some (0, true)) (M.lift (Ax.bin .neq t82 (V.int .i64 0)))).bind fun t83 =>
 (zaa [(0, t80)] (some (0, true)) (M.pure t83)).bind fun t84 =>
 (zaa [(0, t84)] (some (0, false)) (M.lift (Ax.faddr 1 t5))).bind fun t85 =>
 (zaa [(0, t84)] (some (0, false)) (zab none t85)).bind fun t86 =>
 (zaa [(0, t84)] (some (0, false)) (M.lift (Ax.bin .neq t86 (V.int .i64 0)))).bind fun t87 =>
 (zaa [(0, t80)] (some (0, true)) (M.lift (Ax.pick t84 (V.bool true) t87))).bind fun t88 =>
 (zaa [(0, t76)] (some (0, false)) (M.lift (Ax.pick t80 t88 (V.bool false)))).bind fun t89 =>
 (M.lift (Ax.pick t76 (V.bool true) t89)).bind fun t90 =>
 M.ite t90
 (M.pure (.ret [(V.bool false)]))
 ((M.lift (Ax.bin .gtr (L.getD 0 .undef) (V.int .i64 0))).bind fun t92 =>
 (zaa [(0, t92)] (some (0, true)) (M.lift (Ax.faddr 2 t1))).bind fun t94 =>
 (zaa [(0, t92)] (some (0, true)) (zab none t94)).bind fun t95 =>
 (zaa [(0, t92)] (some (0, true)) (M.pure (L.getD 0 .undef))).bind fun t96 =>
 (zaa [(0, t92)] (some (0, true)) (M.lift (Ax.bin .sub t96 (V.int .i64 1)))).bind fun t97 =>
 (zaa [(0, t92)] (some (0, true)) (M.lift (Ax.iaddr none 5 t95 t97))).bind fun t98 =>
 (zaa [(0, t92)] (some (0, true)) (zab (some 5) t98)).bind fun t99 =>
 (zaa [(0, t92)] (some (0, true)) (zab (some 5) t5)).bind fun t100 =>
 (zaa [(0, t92)] (some (0, true)) (G zbj [t99, t100])).bind fun t101 =>
 (zaa [(0, t92)] (some (0, true)) (M.lift (Ax.bin .eql t101 (V.int .i64 3)))).bind fun t102 =>
 (M.lift (Ax.pick t92 t102 (V.bool false))).bind fun t103 =>
 M.ite t103
 (M.pure (.ret [(V.bool false)]))
 ((M.lift (Ax.faddr 2 t5)).bind fun t104 =>
 (zab none t104).bind fun t105 =>
 (M.lift (Ax.faddr 1 t1)).bind fun t106 =>
 (zab none t106).bind fun t107 =>
 (G zaw [t105, t107, (V.int .i64 0), (V.int .i64 3)]).bind fun t108 =>
 (M.lift (Ax.un .not t108)).bind fun t109 =>
 (zaa [(0, t109)] (some (0, false)) (M.lift (Ax.faddr 3 t5))).bind fun t111 =>
 (zaa [(0, t109)] (some (0, false)) (zab none t111)).bind fun t112 =>
 (zaa [(0, t109)] (some (0, false)) (M.lift (vlen t112))).bind fun t113 =>
 (zaa [(0, t109)] (some (0, false)) (M.lift (Ax.bin .gtr t113 (V.int .i64 8)))).bind fun t114 =>
 (M.lift (Ax.pick t109 (V.bool true) t114)).bind fun t115 =>
 (zaa [(0, t115)] (some (0, false)) (M.lift (Ax.faddr 3 t5))).bind fun t117 =>
 (zaa [(0, t115)] (some (0, false)) (zab none t117)).bind fun t118 =>
 (zaa [(0, t115)] (some (0, false)) (G zaw [t118, (V.int .i64 (-1)), (V.int .i64 1), (V.int .i64 16)])).bind fun t119 =>
 (zaa [(0, t115)] (some (0, false)) (M.lift (Ax.un .not t119))).bind fun t120 =>
 (M.lift (Ax.pick t115 (V.bool true) t120)).bind fun t121 =>
 (zaa [(0, t121)] (some (0, false)) (M.lift (Ax.faddr 4 t5))).bind fun t123 =>
 (zaa [(0, t121)] (some (0, false)) (zab none t123)).bind fun t124 =>
 (zaa [(0, t121)] (some (0, false)) (M.lift (Ax.faddr 3 t1))).bind fun t125 =>
 (zaa [(0, t121)] (some (0, false)) (zab none t125)).bind fun t126 =>
 (zaa [(0, t121)] (some (0, false)) (G zaw [t124, t126, (V.int .i64 0), (V.int .i64 15)])).bind fun t127 =>
 (zaa [(0, t121)] (some (0, false)) (M.lift (Ax.un .not t127))).bind fun t128 =>
 (M.lift (Ax.pick t121 (V.bool true) t128)).bind fun t129 =>
 M.ite t129
 (M.pure (.ret [(V.bool false)]))
 (M.pure (.nrm []))))) fun _ =>
 (M.lift (Ax.bin .add (L.getD 0 .undef) (V.int .i64 1))).bind fun t53 =>
 M.pure (.nrm [t53]))
 (M.pure (.ex 0 []))
noncomputable def zbK (G : Sem') (t1 : V) (L : List V) : M Res :=
 (M.lift (Ax.faddr 5 t1)).bind fun t159 =>
 (zab none t159).bind fun t160 =>
 (M.lift (vlen t160)).bind fun t161 =>
 (M.lift (Ax.bin .lss (L.getD 0 .undef) t161)).bind fun t162 =>
 M.ite t162
 (M.blk 3 (
 (M.lift (Ax.faddr 5 t1)).bind fun t165 =>
 (zab none t165).bind fun t166 =>
 (M.lift (Ax.iaddr none 2 t166 (L.getD 0 .undef))).bind fun t168 =>
 (M.lift (Ax.iaddr (some 2) 1 t168 (V.int .i64 0))).bind fun t169 =>
 (zab none t169).bind fun t170 =>
 (M.lift (Ax.faddr 5 t1)).bind fun t171 =>
 (zab none t171).bind fun t172 =>
 (M.lift (Ax.iaddr none 2 t172 (L.getD 0 .undef))).bind fun t174 =>
 (M.lift (Ax.iaddr (some 2) 1 t174 (V.int .i64 1))).bind fun t175 =>
 (zab none t175).bind fun t176 =>
 (mslit zcy 2 [(V.int .i64 0)] [(0, 1, t170), (1, 1, t176)]).bind fun t177 =>
 (G zaw [t177, (V.int .i64 2), (V.int .i64 1), (V.int .i64 65536)]).bind fun t178 =>
 (M.lift (Ax.un .not t178)).bind fun t179 =>
 M.ite t179
 (M.pure (.ret [(V.bool false)]))
 (M.pure (.nrm []))) fun _ =>
 (M.lift (Ax.bin .add (L.getD 0 .undef) (V.int .i64 1))).bind fun t164 =>
 M.pure (.nrm [t164]))
 (M.pure (.ex 2 []))
noncomputable def zdt (G : Sem') (t0 : V) : M Res :=
 (mbox zaf t0).bind fun t1 =>
 (M.lift (Ax.faddr 2 t1)).bind fun t8 =>
 (zab none t8).bind fun t9 =>
 (M.lift (vlen t9)).bind fun t10 =>
 (M.lift (Ax.faddr 0 t1)).bind fun t11 =>
 (zab none t11).bind fun t12 =>
 (M.lift (Ax.bin .lss t12 (V.int .i64 0))).bind fun t13 =>
 (zaa [(0, t13)] (some (0, false)) (M.lift (Ax.faddr 0 t1))).bind fun t15 =>
 (zaa [(0, t13)] (some (0, false)) (zab none t15)).bind fun t16 =>
 (zaa [(0, t13)] (some (0, false)) (M.lift (Ax.bin .gtr t16 (V.int .i64 63)))).bind fun t17 =>
 (M.lift (Ax.pick t13 (V.bool true) t17)).bind fun t18 =>
 (zaa [(0, t18)] (some (0, false)) (M.lift (Ax.faddr 1 t1))).bind fun t20 =>
 (zaa [(0, t18)] (some (0, false)) (zab none t20)).bind fun t21 =>
 (zaa [(0, t18)] (some (0, false)) (M.lift (Ax.bin .lss t21 (V.int .i64 1)))).bind fun t22 =>
 (M.lift (Ax.pick t18 (V.bool true) t22)).bind fun t23 =>
 (zaa [(0, t23)] (some (0, false)) (M.lift (Ax.faddr 1 t1))).bind fun t25 =>
 (zaa [(0, t23)] (some (0, false)) (zab none t25)).bind fun t26 =>
 (zaa [(0, t23)] (some (0, false)) (M.lift (Ax.bin .gtr t26 (V.int .i64 32)))).bind fun t27 =>
 (M.lift (Ax.pick t23 (V.bool true) t27)).bind fun t28 =>
 (zaa [(0, t28)] (some (0, false)) (M.pure t10)).bind fun t30 =>
 (zaa [(0, t28)] (some (0, false)) (M.lift (Ax.bin .lss t30 (V.int .i64 1)))).bind fun t31 =>
 (M.lift (Ax.pick t28 (V.bool true) t31)).bind fun t32 =>
 (zaa [(0, t32)] (some (0, false)) (M.pure t10)).bind fun t34 =>
 (zaa [(0, t32)] (some (0, false)) (M.lift (Ax.bin .gtr t34 (V.int .i64 64)))).bind fun t35 =>
 (M.lift (Ax.pick t32 (V.bool true) t35)).bind fun t36 =>
 (zaa [(0, t36)] (some (0, false)) (M.lift (Ax.faddr 3 t1))).bind fun t38 =>
 (zaa [(0, t36)] (some (0, false)) (zab none t38)).bind fun t39 =>
 (zaa [(0, t36)] (some (0, false)) (M.lift (Ax.bin .lss t39 (V.int .i64 0)))).bind fun t40 =>
 (M.lift (Ax.pick t36 (V.bool true) t40)).bind fun t41 =>
 (zaa [(0, t41)] (some (0, false)) (M.lift (Ax.faddr 3 t1))).bind fun t43 =>
 (zaa [(0, t41)] (some (0, false)) (zab none t43)).bind fun t44 =>
 (zaa [(0, t41)] (some (0, false)) (M.lift (Ax.faddr 1 t1))).bind fun t45 =>
 (zaa [(0, t41)] (some (0, false)) (zab none t45)).bind fun t46 =>
 (zaa [(0, t41)] (some (0, false)) (M.lift (Ax.bin .gtr t44 t46))).bind fun t47 =>
 (M.lift (Ax.pick t41 (V.bool true) t47)).bind fun t48 =>
 M.ite t48
 (M.pure (.ret [(V.bool false)]))
 (M.blk 0 (
 M.iter (zb7 G t10 t1) [(V.int .i64 0)]) fun _ =>
 (M.lift (Ax.faddr 3 t1)).bind fun t130 =>
 (zab none t130).bind fun t131 =>
 (M.lift (Ax.bin .gtr t131 (V.int .i64 0))).bind fun t132 =>
 M.join (M.ite t132
 ((M.lift (Ax.faddr 1 t1)).bind fun t133 =>
 (zab none t133).bind fun t134 =>
 M.pure (.nrm [t134]))
 (M.pure (.nrm [(V.int .i64 0)]))) fun L2 =>
 (M.lift (Ax.faddr 4 t1)).bind fun t135 =>
 (zab none t135).bind fun t136 =>
 (M.lift (Ax.faddr 3 t1)).bind fun t138 =>
 (zab none t138).bind fun t139 =>
 (M.lift (Ax.bin .sub t139 (V.int .i64 1))).bind fun t140 =>
 (G zaw [t136, (L2.getD 0 .undef), (V.int .i64 0), t140]).bind fun t141 =>
 (M.lift (Ax.un .not t141)).bind fun t142 =>
 (zaa [(0, t142)] (some (0, false)) (M.lift (Ax.faddr 5 t1))).bind fun t144 =>
 (zaa [(0, t142)] (some (0, false)) (zab none t144)).bind fun t145 =>
 (zaa [(0, t142)] (some (0, false)) (M.lift (vlen t145))).bind fun t146 =>
 (zaa [(0, t142)] (some (0, false)) (M.lift (Ax.bin .gtr t146 (V.int .i64 0)))).bind fun t147 =>
 (zaa [(0, t142)] (some (0, false)) (M.pure t147)).bind fun t148 =>
 (zaa [(0, t148)] (some (0, true)) (zab (some 6) t1)).bind fun t152 =>
 M.getH.bind fun h0 =>
 (zaa [(0, t148)] (some (0, true)) (G zbR [t152])).bind fun t153 =>
 M.getH.bind fun h0' =>
 (zaa [(0, t148)] (some (0, true)) (M.lift (Ax.faddr 5 t1))).bind fun t149 =>
 (zaa [(0, t148)] (some (0, true)) (zab none t149)).bind fun t150 =>
 (M.unch t149 h0 h0').bind fun _ =>
 (zaa [(0, t148)] (some (0, true)) (M.lift (vlen t150))).bind fun t151 =>
 (zaa [(0, t148)] (some (0, true)) (M.lift (Ax.bin .add t153 (V.int .i64 1)))).bind fun t154 =>
 (zaa [(0, t148)] (some (0, true)) (M.lift (Ax.bin .neq t151 t154))).bind fun t155 =>
 (zaa [(0, t142)] (some (0, false)) (M.lift (Ax.pick t148 t155 (V.bool false)))).bind fun t156 =>
 (M.lift (Ax.pick t142 (V.bool true) t156)).bind fun t157 =>
 M.ite t157
 (M.pure (.ret [(V.bool false)]))
 (M.blk 2 (
 M.iter (zbK G t1) [(V.int .i64 0)]) fun _ =>
 M.pure (.ret [(V.bool true)])))
theorem zeF {t0 : V} : OkT zbP [t0] (zdt (sem T) t0) := okT (by kernel_rfl) (by kernel_rfl) (by kernel_rfl)
noncomputable def zdr (G : Sem') (t0 t1 : V) : M Res :=
 (mbox zao t0).bind fun t2 =>
 (mbox zao t1).bind fun t3 =>
 M.blk 0 (
 (M.lift (Ax.faddr 0 t2)).bind fun t6 =>
 (zab none t6).bind fun t7 =>
 (M.lift (Ax.faddr 0 t3)).bind fun t8 =>
 (zab none t8).bind fun t9 =>
 (M.lift (Ax.bin .eql t7 t9)).bind fun t10 =>
 (zaa [(0, t10)] (some (0, true)) (M.lift (Ax.faddr 1 t2))).bind fun t12 =>
 (zaa [(0, t10)] (some (0, true)) (zab none t12)).bind fun t13 =>
 (zaa [(0, t10)] (some (0, true)) (M.lift (Ax.faddr 1 t3))).bind fun t14 =>
 (zaa [(0, t10)] (some (0, true)) (zab none t14)).bind fun t15 =>
 (zaa [(0, t10)] (some (0, true)) (M.lift (Ax.bin .eql t13 t15))).bind fun t16 =>
 (M.lift (Ax.pick t10 t16 (V.bool false))).bind fun t17 =>
 M.ite t17
 (M.pure (.ret [(V.int .i64 0)]))
 ((M.lift (Ax.faddr 0 t2)).bind fun t19 =>
 (zab none t19).bind fun t20 =>
 (M.lift (Ax.faddr 0 t3)).bind fun t21 =>
 (zab none t21).bind fun t22 =>
 (M.lift (Ax.bin .eql t20 t22)).bind fun t23 =>
 (zaa [(0, t23)] (some (0, true)) (M.lift (Ax.faddr 1 t2))).bind fun t25 =>
 (zaa [(0, t23)] (some (0, true)) (zab none t25)).bind fun t26 =>
 (zaa [(0, t23)] (some (0, true)) (M.lift (Ax.bin .add t26 (V.int .i64 1)))).bind fun t27 =>
 (zaa [(0, t23)] (some (0, true)) (M.lift (Ax.faddr 1 t3))).bind fun t28 =>
 (zaa [(0, t23)] (some (0, true)) (zab none t28)).bind fun t29 =>
 (zaa [(0, t23)] (some (0, true)) (M.lift (Ax.bin .eql t27 t29))).bind fun t30 =>
 (M.lift (Ax.pick t23 t30 (V.bool false))).bind fun t31 =>
 M.ite t31
 (M.pure (.ret [(V.int .i64 1)]))
 ((M.lift (Ax.faddr 0 t2)).bind fun t33 =>
 (zab none t33).bind fun t34 =>
 (M.lift (Ax.bin .add t34 (V.int .i64 1))).bind fun t35 =>
 (M.lift (Ax.faddr 0 t3)).bind fun t36 =>
 (zab none t36).bind fun t37 =>
 (M.lift (Ax.bin .eql t35 t37)).bind fun t38 =>
 (zaa [(0, t38)] (some (0, true)) (M.lift (Ax.faddr 1 t3))).bind fun t40 =>
 (zaa [(0, t38)] (some (0, true)) (zab none t40)).bind fun t41 =>
 (zaa [(0, t38)] (some (0, true)) (M.lift (Ax.bin .eql t41 (V.int .i64 0)))).bind fun t42 =>
 (M.lift (Ax.pick t38 t42 (V.bool false))).bind fun t43 =>
 M.ite t43
 (M.pure (.ret [(V.int .i64 2)]))
 (M.pure (.nrm []))))) fun _ =>
 M.pure (.ret [(V.int .i64 3)])
theorem zeD {t0 t1 : V} : OkT zbj [t0, t1] (zdr (sem T) t0 t1) := okT (by kernel_rfl) (by kernel_rfl) (by kernel_rfl)
end Go.Ax
/- FnD2 -/
namespace Go.Ax
open Go.Proofs
noncomputable def zbu (G : Sem') (t2 t0 t3 : V) (L : List V) : M Res :=
 (M.lift (vlen t0)).bind fun t20 =>
 (M.lift (Ax.bin .lss (L.getD 0 .undef) t20)).bind fun t21 =>
 M.ite t21
 (M.blk 1 (
 (M.lift (Ax.iaddr none 1 t0 (L.getD 0 .undef))).bind fun t26 =>
 (zab none t26).bind fun t27 =>
 (M.lift (Ax.bin .lss t27 t2)).bind fun t29 =>
 (zaa [(0, t29)] (some (0, false)) (M.pure t0)).bind fun t31 =>
 (zaa [(0, t29)] (some (0, false)) (M.pure (L.getD 0 .undef))).bind fun t32 =>
 (zaa [(0, t29)] (some (0, false)) (M.lift (Ax.iaddr none 1 t31 t32))).bind fun t33 =>
 (zaa [(0, t29)] (some (0, false)) (zab none t33)).bind fun t34 =>
 (zaa [(0, t29)] (some (0, false)) (M.pure t3)).bind fun t35 =>
 (zaa [(0, t29)] (some (0, false)) (M.lift (Ax.bin .gtr t34 t35))).bind fun t36 =>
 (M.lift (Ax.pick t29 (V.bool true) t36)).bind fun t37 =>
 M.ite t37
 (M.pure (.ret [(V.bool false)]))
 (M.pure (.nrm []))) fun _ =>
 (M.lift (Ax.bin .add (L.getD 0 .undef) (V.int .i64 1))).bind fun t23 =>
 M.pure (.nrm [t23]))
 (M.pure (.ex 0 []))
noncomputable def zcZ (G : Sem') (t0 t1 t2 t3 : V) : M Res :=
 (M.lift (Ax.bin .geq t1 (V.int .i64 0))).bind fun t11 =>
 (zaa [(0, t11)] (some (0, true)) (M.pure t0)).bind fun t13 =>
 (zaa [(0, t11)] (some (0, true)) (M.lift (vlen t13))).bind fun t14 =>
 (zaa [(0, t11)] (some (0, true)) (M.pure t1)).bind fun t15 =>
 (zaa [(0, t11)] (some (0, true)) (M.lift (Ax.bin .neq t14 t15))).bind fun t16 =>
 (M.lift (Ax.pick t11 t16 (V.bool false))).bind fun t17 =>
 M.ite t17
 (M.pure (.ret [(V.bool false)]))
 (M.blk 0 (
 M.iter (zbu G t2 t0 t3) [(V.int .i64 0)]) fun _ =>
 M.pure (.ret [(V.bool true)]))
theorem zea {t0 t1 t2 t3 : V} : OkT zaw [t0, t1, t2, t3] (zcZ (sem T) t0 t1 t2 t3) := okT (by kernel_rfl) (by kernel_rfl) (by kernel_rfl)
noncomputable def zcl (G : Sem') (t1 t2 : V) (L : List V) : M Res :=
 (M.lift (Ax.faddr 2 t1)).bind fun t6 =>
 (zab none t6).bind fun t7 =>
 (M.lift (vlen t7)).bind fun t8 =>
 (M.lift (Ax.bin .lss (L.getD 1 .undef) t8)).bind fun t9 =>
 M.ite t9
 (M.blk 1 (
 (M.lift (Ax.faddr 2 t1)).bind fun t13 =>
 (zab none t13).bind fun t14 =>
 (M.lift (Ax.iaddr none 5 t14 (L.getD 1 .undef))).bind fun t16 =>
 (M.lift (Ax.faddr 0 t16)).bind fun t17 =>
 (zab none t17).bind fun t18 =>
 (M.lift (Ax.minmax true (L.getD 0 .undef) [t18])).bind fun t19 =>
 M.pure (.nrm [t19])) fun L0 =>
 (M.lift (Ax.bin .add (L.getD 1 .undef) (V.int .i64 1))).bind fun t11 =>
 M.pure (.nrm [(L0.getD 0 .undef), t11]))
 (M.pure (.ex 0 [(L.getD 0 .undef)]))
noncomputable def zdI (G : Sem') (t0 : V) : M Res :=
 (mbox zaf t0).bind fun t1 =>
 M.blk 0 (
 M.iter (zcl G t1 (V.int .i64 0)) [(V.int .i64 0), (V.int .i64 0)]) fun L1 =>
 M.pure (.ret [(L1.getD 0 .undef)])
theorem ze1 {t0 : V} : OkT zbR [t0] (zdI (sem T) t0) := okT (by kernel_rfl) (by kernel_rfl) (by kernel_rfl)
noncomputable def zdq (G : Sem') (t0 : V) : M Res :=
 (mbox zaf t0).bind fun t1 =>
 (M.lift (Ax.faddr 0 t1)).bind fun t3 =>
 (zab none t3).bind fun t4 =>
 (M.lift (Ax.bin .eql t4 (V.int .i64 0))).bind fun t5 =>
 (zaa [(0, t5)] (some (0, true)) (M.lift (Ax.faddr 1 t1))).bind fun t7 =>
 (zaa [(0, t5)] (some (0, true)) (zab none t7)).bind fun t8 =>
 (zaa [(0, t5)] (some (0, true)) (M.lift (Ax.bin .eql t8 (V.int .i64 0)))).bind fun t9 =>
 (M.lift (Ax.pick t5 t9 (V.bool false))).bind fun t10 =>
 (zaa [(0, t10)] (some (0, true)) (M.lift (Ax.faddr 2 t1))).bind fun t12 =>
 (zaa [(0, t10)] (some (0, true)) (zab none t12)).bind fun t13 =>
 (zaa [(0, t10)] (some (0, true)) (M.lift (vlen t13))).bind fun t14 =>
 (zaa [(0, t10)] (some (0, true)) (M.lift (Ax.bin .eql t14 (V.int .i64 0)))).bind fun t15 =>
 (M.lift (Ax.pick t10 t15 (V.bool false))).bind fun t16 =>
 (zaa [(0, t16)] (some (0, true)) (M.lift (Ax.faddr 3 t1))).bind fun t18 =>
 (zaa [(0, t16)] (some (0, true)) (zab none t18)).bind fun t19 =>
 (zaa [(0, t16)] (some (0, true)) (M.lift (Ax.bin .eql t19 (V.int .i64 0)))).bind fun t20 =>
 (M.lift (Ax.pick t16 t20 (V.bool false))).bind fun t21 =>
 (zaa [(0, t21)] (some (0, true)) (M.lift (Ax.faddr 4 t1))).bind fun t23 =>
 (zaa [(0, t21)] (some (0, true)) (zab none t23)).bind fun t24 =>
 (zaa [(0, t21)] (some (0, true)) (M.lift (vlen t24))).bind fun t25 =>
 (zaa [(0, t21)] (some (0, true)) (M.lift (Ax.bin .eql t25 (V.int .i64 0)))).bind fun t26 =>
 (M.lift (Ax.pick t21 t26 (V.bool false))).bind fun t27 =>
 (zaa [(0, t27)] (some (0, true)) (M.lift (Ax.faddr 5 t1))).bind fun t29 =>
 (zaa [(0, t27)] (some (0, true)) (zab none t29)).bind fun t30 =>
 (zaa [(0, t27)] (some (0, true)) (M.lift (vlen t30))).bind fun t31 =>
 (zaa [(0, t27)] (some (0, true)) (M.lift (Ax.bin .eql t31 (V.int .i64 0)))).bind fun t32 =>
 (M.lift (Ax.pick t27 t32 (V.bool false))).bind fun t33 =>
 M.pure (.ret [t33])
theorem zeC {t0 : V} : OkT zbi [t0] (zdq (sem T) t0) := okT (by kernel_rfl) (by kernel_rfl) (by kernel_rfl)
noncomputable def zbM (G : Sem') (t0 t1 : V) (L : List V) : M Res :=
 (M.lift (vlen t0)).bind fun t13 =>
 (M.lift (Ax.bin .lss (L.getD 0 .undef) t13)).bind fun t14 =>
 M.ite t14
 (M.blk 1 (
 (M.lift (Ax.iaddr none 1 t0 (L.getD 0 .undef))).bind fun t19 =>
 (zab none t19).bind fun t20 =>
 (M.lift (Ax.iaddr none 1 t1 (L.getD 0 .undef))).bind fun t23 =>
 (zab none t23).bind fun t24 =>
 (M.lift (Ax.bin .neq t20 t24)).bind fun t25 =>
 M.ite t25
 (M.pure (.ret [(V.bool false)]))
 (M.pure (.nrm []))) fun _ =>
 (M.lift (Ax.bin .add (L.getD 0 .undef) (V.int .i64 1))).bind fun t16 =>
 M.pure (.nrm [t16]))
 (M.pure (.ex 0 []))
noncomputable def zcK (G : Sem') (t0 t1 : V) : M Res :=
 (M.lift (vlen t0)).bind fun t7 =>
 (M.lift (vlen t1)).bind fun t9 =>
 (M.lift (Ax.bin .neq t7 t9)).bind fun t10 =>
 M.ite t10
 (M.pure (.ret [(V.bool false)]))
 (M.blk 0 (
 M.iter (zbM G t0 t1) [(V.int .i64 0)]) fun _ =>
 M.pure (.ret [(V.bool true)]))
theorem zdT {t0 t1 : V} : OkT zaP [t0, t1] (zcK (sem T) t0 t1) := okT (by kernel_rfl) (by kernel_rfl) (by kernel_rfl)
noncomputable def zdJ (G : Sem') (t0 : V) : M Res :=
 M.ite t0
 (M.pure (.ret [(V.int .u64 1)]))
 (M.pure (.ret [(V.int .u64 0)]))
theorem ze2 {t0 : V} : OkT zat [t0] (zdJ (sem T) t0) := okT (by kernel_rfl) (by kernel_rfl) (by kernel_rfl)
noncomputable def zaU (G : Sem') (t0 t1 t6 : V) (L : List V) : M Res :=
 (M.lift (Ax.bin .geq (L.getD 0 .undef) (V.int .i64 0))).bind fun t28 =>
 M.ite t28
 (M.blk 1 (
 (M.lift (Ax.nilck t0)).bind fun t33 =>
 (M.lift (Ax.faddr 0 t33)).bind fun t34 =>
 (zab none t34).bind fun t35 =>
 (M.lift (Ax.cint .u64 (L.getD 0 .undef))).bind fun t38 =>
 (M.lift (Ax.bin .shr t1 t38)).bind fun t39 =>
 (M.lift (Ax.bin .and t39 (V.int .u64 1))).bind fun t40 =>
 (M.lift (Ax.bin .eql t40 (V.int .u64 1))).bind fun t41 =>
 (mslit zfQ 1 [(V.bool false)] [(0, 1, t41)]).bind fun t42 =>
 (mappend zfQ 1 1 t35 t42).bind fun t43 =>
 (M.lift (Ax.nilck t0)).bind fun t44 =>
 (M.lift (Ax.faddr 0 t44)).bind fun t45 =>
 (zam 1 t45 t43).bind fun _ =>
 M.pure (.nrm [])) fun _ =>
 (M.lift (Ax.bin .sub (L.getD 0 .undef) (V.int .i64 1))).bind fun t30 =>
 M.pure (.nrm [t30]))
 (M.pure (.ex 0 []))
noncomputable def zcv (G : Sem') (t0 t1 t2 : V) : M Res :=
 (M.lift (Ax.bin .lss t2 (V.int .i64 0))).bind fun t9 =>
 (zaa [(0, t9)] (some (0, false)) (M.pure t2)).bind fun t11 =>
 (zaa [(0, t9)] (some (0, false)) (M.lift (Ax.bin .gtr t11 (V.int .i64 64)))).bind fun t12 =>
 (M.lift (Ax.pick t9 (V.bool true) t12)).bind fun t13 =>
 (zaa [(0, t13)] (some (0, false)) (M.pure t2)).bind fun t15 =>
 (zaa [(0, t13)] (some (0, false)) (M.lift (Ax.bin .lss t15 (V.int .i64 64)))).bind fun t16 =>
 (zaa [(0, t13)] (some (0, false)) (M.pure t16)).bind fun t17 =>
 (zaa [(0, t17)] (some (0, true)) (M.pure t1)).bind fun t18 =>
 (zaa [(0, t17)] (some (0, true)) (M.pure t2)).bind fun t19 =>
 (zaa [(0, t17)] (some (0, true)) (M.lift (Ax.cint .u64 t19))).bind fun t20 =>
 (zaa [(0, t17)] (some (0, true)) (M.lift (Ax.bin .shr t18 t20))).bind fun t21 =>
 (zaa [(0, t17)] (some (0, true)) (M.lift (Ax.bin .neq t21 (V.int .u64 0)))).bind fun t22 =>
 (zaa [(0, t13)] (some (0, false)) (M.lift (Ax.pick t17 t22 (V.bool false)))).bind fun t23 =>
 (M.lift (Ax.pick t13 (V.bool true) t23)).bind fun t24 =>
 M.ite t24
 (M.pure (.ret [(V.int .i64 1)]))
 ((M.lift (Ax.bin .sub t2 (V.int .i64 1))).bind fun t26 =>
 M.blk 0 (
 M.iter (zaU G t0 t1 (V.int .i64 0)) [t26]) fun _ =>
 M.pure (.ret [(V.int .i64 0)]))
theorem zdC {t0 t1 t2 : V} : OkT zae [t0, t1, t2] (zcv (sem T) t0 t1 t2) := okT (by kernel_rfl) (by kernel_rfl) (by kernel_rfl)
noncomputable def zbm (G : Sem') (t0 t3 t2 : V) (L : List V) : M Res :=
 (M.lift (Ax.nilck t0)).bind fun t15 =>
 (M.lift (Ax.faddr 0 t15)).bind fun t16 =>
 (zab none t16).bind fun t17 =>
 (M.lift (vlen t17)).bind fun t18 =>
 (M.lift (Ax.bin .lss (L.getD 0 .undef) t18)).bind fun t19 =>
 M.ite t19
 (M.blk 1 (
 (M.lift (Ax.nilck t0)).bind fun t23 =>
 (M.lift (Ax.faddr 0 t23)).bind fun t24 =>
 (zab none t24).bind fun t25 =>
 (M.lift (Ax.iaddr none 1 t25 (L.getD 0 .undef))).bind fun t27 =>
 (zab none t27).bind fun t28 =>
 M.join (M.ite t28
 ((M.lift (Ax.bin .quo (L.getD 0 .undef) (V.int .i64 8))).bind fun t31 =>
 (M.lift (Ax.bin .quo (L.getD 0 .undef) (V.int .i64 8))).bind fun t34 =>
 (M.lift (Ax.iaddr none 1 t3 t34)).bind fun t35 =>
 (zab none t35).bind fun t36 =>
 (M.lift (Ax.bin .rem (L.getD 0 .undef) (V.int .i64 8))).bind fun t38 =>
 (M.lift (Ax.cint .u64 t38)).bind fun t39 =>
 (M.lift (Ax.bin .shr (V.int .u8 128) t39)).bind fun t40 =>
 (M.lift (Ax.bin .or t36 t40)).bind fun t41 =>
 (M.lift (Ax.iaddr none 1 t3 t31)).bind fun t42 =>
 (zam 1 t42 t41).bind fun _ =>
 M.pure (.nrm []))
 (M.pure (.nrm []))) fun _ =>
 M.pure (.nrm [])) fun _ =>
 (M.lift (Ax.bin .add (L.getD 0 .undef) (V.int .i64 1))).bind fun t21 =>
 M.pure (.nrm [t21]))
 (M.pure (.ex 0 []))
noncomputable def zce (G : Sem') (t0 : V) : M Res :=
 (M.lift (Ax.nilck t0)).bind fun t6 =>
 (M.lift (Ax.faddr 0 t6)).bind fun t7 =>
 (zab none t7).bind fun t8 =>
 (M.lift (vlen t8)).bind fun t9 =>
 (M.lift (Ax.bin .add t9 (V.int .i64 7))).bind fun t10 =>
 (M.lift (Ax.bin .quo t10 (V.int .i64 8))).bind fun t11 =>
 (mmkslice zaz 1 [(V.int .u8 0)] t11 t11).bind fun t12 =>
 M.blk 0 (
 M.iter (zbm G t0 t12 V.nils) [(V.int .i64 0)]) fun _ =>
 M.pure (.ret [t12])
theorem zdm {t0 : V} : OkT zaI [t0] (zce (sem T) t0) := okT (by kernel_rfl) (by kernel_rfl) (by kernel_rfl)
noncomputable def zbt (G : Sem') (t4 t3 t0 : V) (L : List V) : M Res :=
 (M.lift (Ax.bin .lss (L.getD 0 .undef) t4)).bind fun t31 =>
 M.ite t31
 (M.blk 1 (
 (M.lift (Ax.bin .add (L.getD 0 .undef) (V.int .i64 1))).bind fun t35 =>
 (M.lift (Ax.bin .lss t35 t4)).bind fun t37 =>
 M.join (M.ite t37
 ((M.lift (Ax.faddr 2 t3)).bind fun t38 =>
 (zab none t38).bind fun t39 =>
 (M.lift (Ax.iaddr none 5 t39 (L.getD 0 .undef))).bind fun t41 =>
 (zab (some 5) t41).bind fun t42 =>
 (M.lift (Ax.faddr 2 t3)).bind fun t43 =>
 (zab none t43).bind fun t44 =>
 (M.lift (Ax.bin .add (L.getD 0 .undef) (V.int .i64 1))).bind fun t46 =>
 (M.lift (Ax.iaddr none 5 t44 t46)).bind fun t47 =>
 (zab (some 5) t47).bind fun t48 =>
 (G zbj [t42, t48]).bind fun t49 =>
 M.pure (.nrm [t49]))
 (M.pure (.nrm [(V.int .i64 3)]))) fun L0 =>
 (M.lift (Ax.cint .u64 (L0.getD 0 .undef))).bind fun t52 =>
 (G zae [t0, t52, (V.int .i64 2)]).bind fun t53 =>
 M.pure (.nrm [])) fun _ =>
 (M.lift (Ax.bin .add (L.getD 0 .undef) (V.int .i64 1))).bind fun t33 =>
 M.pure (.nrm [t33]))
 (M.pure (.ex 0 []))
noncomputable def zbX (G : Sem') (t0 t3 t7 : V) (L : List V) : M Res :=
 (M.lift (Ax.faddr 1 t3)).bind fun t60 =>
 (zab none t60).bind fun t61 =>
 (M.lift (Ax.bin .lss (L.getD 0 .undef) t61)).bind fun t62 =>
 M.ite t62
 (M.blk 5 (
 (M.lift (Ax.faddr 2 t3)).bind fun t66 =>
 (zab none t66).bind fun t67 =>
 (M.lift (Ax.iaddr none 5 t67 t7)).bind fun t69 =>
 (M.lift (Ax.faddr 2 t69)).bind fun t70 =>
 (zab none t70).bind fun t71 =>
 (M.lift (Ax.iaddr none 1 t71 (L.getD 0 .undef))).bind fun t73 =>
 (zab none t73).bind fun t74 =>
 (M.lift (Ax.cint .u64 t74)).bind fun t75 =>
 (G zae [t0, t75, (V.int .i64 2)]).bind fun t76 =>
 M.pure (.nrm [])) fun _ =>
 (M.lift (Ax.bin .add (L.getD 0 .undef) (V.int .i64 1))).bind fun t64 =>
 M.pure (.nrm [t64]))
 (M.pure (.ex 4 []))
noncomputable def zbs (G : Sem') (t4 t0 t3 : V) (L : List V) : M Res :=
 (M.lift (Ax.bin .lss (L.getD 0 .undef) t4)).bind fun t56 =>
 M.ite t56
 (M.blk 3 (
 M.blk 4 (
 M.iter (zbX G t0 t3 (L.getD 0 .undef)) [(V.int .i64 0)]) fun _ =>
 M.pure (.nrm [])) fun _ =>
 (M.lift (Ax.bin .add (L.getD 0 .undef) (V.int .i64 1))).bind fun t58 =>
 M.pure (.nrm [t58]))
 (M.pure (.ex 2 []))
noncomputable def zbW (G : Sem') (t0 t3 t9 : V) (L : List V) : M Res :=
 (M.lift (Ax.faddr 2 t3)).bind fun t83 =>
 (zab none t83).bind fun t84 =>
 (M.lift (Ax.iaddr none 5 t84 t9)).bind fun t86 =>
 (M.lift (Ax.faddr 3 t86)).bind fun t87 =>
 (zab none t87).bind fun t88 =>
 (M.lift (vlen t88)).bind fun t89 =>
 (M.lift (Ax.bin .lss (L.getD 0 .undef) t89)).bind fun t90 =>
 M.ite t90
 (M.blk 9 (
 (G zae [t0, (V.int .u64 1), (V.int .i64 1)]).bind fun t94 =>
 (M.lift (Ax.faddr 2 t3)).bind fun t96 =>
 (zab none t96).bind fun t97 =>
 (M.lift (Ax.iaddr none 5 t97 t9)).bind fun t99 =>
 (M.lift (Ax.faddr 3 t99)).bind fun t100 =>
 (zab none t100).bind fun t101 =>
 (M.lift (Ax.iaddr none 1 t101 (L.getD 0 .undef))).bind fun t103 =>
 (zab none t103).bind fun t104 =>
 (M.lift (Ax.bin .sub t104 (V.int .i64 1))).bind fun t105 =>
 (M.lift (Ax.cint .u64 t105)).bind fun t106 =>
 (G zae [t0, t106, (V.int .i64 4)]).bind fun t107 =>
 M.pure (.nrm [])) fun _ =>
 (M.lift (Ax.bin .add (L.getD 0 .undef) (V.int .i64 1))).bind fun t92 =>
 M.pure (.nrm [t92]))
 (M.pure (.ex 8 []))
noncomputable def zbr (G : Sem') (t4 t3 t0 : V) (L : List V) : M Res :=
 (M.lift (Ax.bin .lss (L.getD 0 .undef) t4)).bind fun t79 =>
 M.ite t79
 (M.blk 7 (
 M.blk 8 (
 M.iter (zbW G t0 t3 (L.getD 0 .undef)) [(V.int .i64 0)]) fun _ =>
 (G zae [t0, (V.int .u64 0), (V.int .i64 1)]).bind fun t109 =>
 M.pure (.nrm [])) fun _ =>
 (M.lift (Ax.bin .add (L.getD 0 .undef) (V.int .i64 1))).bind fun t81 =>
 M.pure (.nrm [t81]))
 (M.pure (.ex 6 []))
noncomputable def zbq (G : Sem') (t0 t3 : V) (L : List V) : M Res :=
 (M.lift (Ax.faddr 1 t3)).bind fun t123 =>
 (zab none t123).bind fun t124 =>
 (M.lift (Ax.bin .lss (L.getD 0 .undef) t124)).bind fun t125 =>
 M.ite t125
 (M.blk 11 (
 (M.lift (Ax.faddr 4 t3)).bind fun t129 =>
 (zab none t129).bind fun t130 =>
 (M.lift (Ax.iaddr none 1 t130 (L.getD 0 .undef))).bind fun t132 =>
 (zab none t132).bind fun t133 =>
 (M.lift (Ax.cint .u64 t133)).bind fun t134 =>
 (M.lift (Ax.faddr 3 t3)).bind fun t135 =>
 (zab none t135).bind fun t136 =>
 (M.lift (Ax.cint .u64 t136)).bind fun t137 =>
 (G zaJ [t0, t134, t137]).bind fun t138 =>
 M.pure (.nrm [])) fun _ =>
 (M.lift (Ax.bin .add (L.getD 0 .undef) (V.int .i64 1))).bind fun t127 =>
 M.pure (.nrm [t127]))
 (M.pure (.ex 10 []))
noncomputable def zbV (G : Sem') (t0 t3 t12 : V) (L : List V) : M Res :=
 (M.lift (Ax.faddr 3 t3)).bind fun t145 =>
 (zab none t145).bind fun t146 =>
 (M.lift (Ax.bin .lss (L.getD 0 .undef) t146)).bind fun t147 =>
 M.ite t147
 (M.blk 15 (
 (M.lift (Ax.faddr 2 t3)).bind fun t151 =>
 (zab none t151).bind fun t152 =>
 (M.lift (Ax.iaddr none 5 t152 t12)).bind fun t154 =>
 (M.lift (Ax.faddr 4 t154)).bind fun t155 =>
 (zab none t155).bind fun t156 =>
 (M.lift (Ax.iaddr none 1 t156 (L.getD 0 .undef))).bind fun t158 =>
 (zab none t158).bind fun t159 =>
 (M.lift (Ax.cint .u64 t159)).bind fun t160 =>
 (G zae [t0, t160, (V.int .i64 4)]).bind fun t161 =>
 M.pure (.nrm [])) fun _ =>
 (M.lift (Ax.bin .add (L.getD 0 .undef) (V.int .i64 1))).bind fun t149 =>
 M.pure (.nrm [t149]))
 (M.pure (.ex 14 []))
noncomputable def zbp (G : Sem') (t4 t0 t3 : V) (L : List V) : M Res :=
 (M.lift (Ax.bin .lss (L.getD 0 .undef) t4)).bind fun t141 =>
 M.ite t141
 (M.blk 13 (
 M.blk 14 (
 M.iter (zbV G t0 t3 (L.getD 0 .undef)) [(V.int .i64 0)]) fun _ =>
 M.pure (.nrm [])) fun _ =>
 (M.lift (Ax.bin .add (L.getD 0 .undef) (V.int .i64 1))).bind fun t143 =>
 M.pure (.nrm [t143]))
 (M.pure (.ex 12 []))
noncomputable def zbo (G : Sem') (t0 t3 : V) (L : List V) : M Res :=
 (M.lift (Ax.faddr 5 t3)).bind fun t170 =>
 (zab none t170).bind fun t171 =>
 (M.lift (vlen t171)).bind fun t172 =>
 (M.lift (Ax.bin .lss (L.getD 0 .undef) t172)).bind fun t173 =>
 M.ite t173
 (M.blk 17 (
 (M.lift (Ax.faddr 5 t3)).bind fun t177 =>
 (zab none t177).bind fun t178 =>
 (M.lift (Ax.iaddr none 2 t178 (L.getD 0 .undef))).bind fun t180 =>
 (M.lift (Ax.iaddr (some 2) 1 t180 (V.int .i64 0))).bind fun t181 =>
 (zab none t181).bind fun t182 =>
 (M.lift (Ax.bin .sub t182 (V.int .i64 1))).bind fun t183 =>
 (M.lift (Ax.cint .u64 t183)).bind fun t184 =>
 (G zae [t0, t184, (V.int .i64 16)]).bind fun t185 =>
 (M.lift (Ax.faddr 5 t3)).bind fun t187 =>
 (zab none t187).bind fun t188 =>
 (M.lift (Ax.iaddr none 2 t188 (L.getD 0 .undef))).bind fun t190 =>
 (M.lift (Ax.iaddr (some 2) 1 t190 (V.int .i64 1))).bind fun t191 =>
 (zab none t191).bind fun t192 =>
 (M.lift (Ax.bin .sub t192 (V.int .i64 1))).bind fun t193 =>
 (M.lift (Ax.cint .u64 t193)).bind fun t194 =>
 (G zae [t0, t194, (V.int .i64 16)]).bind fun t195 =>
 M.pure (.nrm [])) fun _ =>
 (M.lift (Ax.bin .add (L.getD 0 .undef) (V.int .i64 1))).bind fun t175 =>
 M.pure (.nrm [t175]))
 (M.pure (.ex 16 []))
noncomputable def zcY (G : Sem') (t0 t1 : V) : M Res :=
 (mbox zaf t1).bind fun t3 =>
 (M.lift (Ax.faddr 2 t3)).bind fun t15 =>
 (zab none t15).bind fun t16 =>
 (M.lift (vlen t16)).bind fun t17 =>
 (M.lift (Ax.faddr 0 t3)).bind fun t19 =>
 (zab none t19).bind fun t20 =>
 (M.lift (Ax.cint .u64 t20)).bind fun t21 =>
 (G zae [t0, t21, (V.int .i64 6)]).bind fun t22 =>
 (M.lift (Ax.faddr 1 t3)).bind fun t24 =>
 (zab none t24).bind fun t25 =>
 (M.lift (Ax.bin .sub t25 (V.int .i64 1))).bind fun t26 =>
 (M.lift (Ax.cint .u64 t26)).bind fun t27 =>
 (G zae [t0, t27, (V.int .i64 5)]).bind fun t28 =>
 M.blk 0 (
 M.iter (zbt G t17 t3 t0) [(V.int .i64 0)]) fun _ =>
 M.blk 2 (
 M.iter (zbs G t17 t0 t3) [(V.int .i64 0)]) fun _ =>
 M.blk 6 (
 M.iter (zbr G t17 t3 t0) [(V.int .i64 0)]) fun _ =>
 (M.lift (Ax.faddr 3 t3)).bind fun t111 =>
 (zab none t111).bind fun t112 =>
 (M.lift (Ax.cint .u64 t112)).bind fun t113 =>
 (M.lift (Ax.faddr 1 t3)).bind fun t114 =>
 (zab none t114).bind fun t115 =>
 (M.lift (Ax.bin .add t115 (V.int .i64 1))).bind fun t116 =>
 (M.lift (Ax.cint .u64 t116)).bind fun t117 =>
 (G zaJ [t0, t113, t117]).bind fun t118 =>
 (M.lift (Ax.faddr 3 t3)).bind fun t119 =>
 (zab none t119).bind fun t120 =>
 (M.lift (Ax.bin .gtr t120 (V.int .i64 0))).bind fun t121 =>
 M.join (M.ite t121
 (M.blk 10 (
 M.iter (zbq G t0 t3) [(V.int .i64 0)]) fun _ =>
 M.blk 12 (
 M.iter (zbp G t17 t0 t3) [(V.int .i64 0)]) fun _ =>
 M.pure (.nrm []))
 (M.pure (.nrm []))) fun _ =>
 (M.lift (Ax.faddr 5 t3)).bind fun t163 =>
 (zab none t163).bind fun t164 =>
 (M.lift (vlen t164)).bind fun t165 =>
 (M.lift (Ax.bin .gtr t165 (V.int .i64 0))).bind fun t166 =>
 (G zat [t166]).bind fun t167 =>
 (G zae [t0, t167, (V.int .i64 1)]).bind fun t168 =>
 M.blk 16 (
 M.iter (zbo G t0 t3) [(V.int .i64 0)]) fun _ =>
 M.pure (.ret [])
theorem zd9 {t0 t1 : V} : OkT zby [t0, t1] (zcY (sem T) t0 t1) := okT (by kernel_rfl) (by kernel_rfl) (by kernel_rfl)
noncomputable def zcf (G : Sem') (t0 t1 t2 : V) : M Res :=
 (M.lift (Ax.bin .lss t2 (V.int .u64 1))).bind fun t10 =>
 (zaa [(0, t10)] (some (0, false)) (M.pure t2)).bind fun t12 =>
 (zaa [(0, t10)] (some (0, false)) (M.lift (Ax.bin .gtr t12 (V.int .u64 4294967296)))).bind fun t13 =>
 (M.lift (Ax.pick t10 (V.bool true) t13)).bind fun t14 =>
 (zaa [(0, t14)] (some (0, false)) (M.pure t1)).bind fun t16 =>
 (zaa [(0, t14)] (some (0, false)) (M.pure t2)).bind fun t17 =>
 (zaa [(0, t14)] (some (0, false)) (M.lift (Ax.bin .geq t16 t17))).bind fun t18 =>
 (M.lift (Ax.pick t14 (V.bool true) t18)).bind fun t19 =>
 M.ite t19
 (M.pure (.ret [(V.int .i64 1)]))
 ((G zbI [t2]).bind fun t22 =>
 (M.lift (Ax.ext 0 t22)).bind fun t23 =>
 (M.lift (Ax.ext 1 t22)).bind fun t24 =>
 (M.lift (Ax.bin .lss t1 t24)).bind fun t27 =>
 M.ite t27
 ((M.lift (Ax.bin .sub t23 (V.int .i64 1))).bind fun t31 =>
 (G zae [t0, t1, t31]).bind fun t32 =>
 M.pure (.ret [t32]))
 ((M.lift (Ax.bin .add t1 t24)).bind fun t36 =>
 (G zae [t0, t36, t23]).bind fun t38 =>
 M.pure (.ret [t38])))
theorem zdn {t0 t1 t2 : V} : OkT zaJ [t0, t1, t2] (zcf (sem T) t0 t1 t2) := okT (by kernel_rfl) (by kernel_rfl) (by kernel_rfl)
noncomputable def zcP (G : Sem') (t2 t3 : V) (L : List V) : M Res :=
 (M.lift (Ax.bin .gtr (L.getD 1 .undef) (V.int .u64 0))).bind fun t8 =>
 M.ite t8
 (M.blk 1 (
 (M.lift (Ax.bin .add (L.getD 0 .undef) (V.int .i64 1))).bind fun t12 =>
 M.pure (.nrm [t12])) fun L0 =>
 (M.lift (Ax.bin .shr (L.getD 1 .undef) (V.int .u64 1))).bind fun t10 =>
 M.pure (.nrm [(L0.getD 0 .undef), t10]))
 (M.pure (.ex 0 [(L.getD 0 .undef)]))
noncomputable def zdh (G : Sem') (t0 : V) : M Res :=
 M.blk 0 (
 M.iter (zcP G (V.int .i64 0) (V.int .u64 0)) [(V.int .i64 0), t0]) fun L1 =>
 (M.lift (Ax.cint .u64 (L1.getD 0 .undef))).bind fun t15 =>
 (M.lift (Ax.bin .shl (V.int .u64 1) t15)).bind fun t16 =>
 (M.lift (Ax.bin .sub t16 t0)).bind fun t18 =>
 M.pure (.ret [(L1.getD 0 .undef), t18])
theorem zey {t0 : V} : OkT zbI [t0] (zdh (sem T) t0) := okT (by kernel_rfl) (by kernel_rfl) (by kernel_rfl)
noncomputable def zd1 (G : Sem') (t0 t1 t2 t3 t4 t5 t6 : V) : M Res :=
 (mbox zai t2).bind fun t9 =>
 (mbox zal t3).bind fun t10 =>
 (mbox zag t4).bind fun t11 =>
 (mbox zbE (V.agg [V.nils, (V.int .i64 0), (V.bool false)])).bind fun t14 =>
 (zab (some 10) t9).bind fun t26 =>
 (G zde [t26]).bind fun t27 =>
 (M.lift (Ax.ext 0 t27)).bind fun t28 =>
 (M.lift (Ax.ext 1 t27)).bind fun t29 =>
 (zab (some 10) t9).bind fun t31 =>
 (G zeh [t31, (V.int .i64 1)]).bind fun t32 =>
 (M.lift (Ax.ext 0 t32)).bind fun t33 =>
 (M.lift (Ax.ext 1 t32)).bind fun t34 =>
 (M.lift (Ax.bin .lss t1 (V.int .i64 0))).bind fun t36 =>
 (zaa [(0, t36)] (some (0, false)) (M.pure t1)).bind fun t38 =>
 (zaa [(0, t36)] (some (0, false)) (M.lift (Ax.bin .geq t38 (V.int .i64 3)))).bind fun t39 =>
 (M.lift (Ax.pick t36 (V.bool true) t39)).bind fun t40 =>
 (zaa [(0, t40)] (some (0, false)) (M.pure t29)).bind fun t42 =>
 (zaa [(0, t40)] (some (0, false)) (M.lift (Ax.bin .neq t42 (V.int .i64 0)))).bind fun t43 =>
 (M.lift (Ax.pick t40 (V.bool true) t43)).bind fun t44 =>
 (zaa [(0, t44)] (some (0, false)) (M.pure t34)).bind fun t46 =>
 (zaa [(0, t44)] (some (0, false)) (M.lift (Ax.un .not t46))).bind fun t47 =>
 (M.lift (Ax.pick t44 (V.bool true) t47)).bind fun t48 =>
 (zaa [(0, t48)] (some (0, false)) (M.pure t33)).bind fun t50 =>
 (zaa [(0, t48)] (some (0, false)) (M.lift (vlen t50))).bind fun t51 =>
 (zaa [(0, t48)] (some (0, false)) (M.lift (Ax.bin .lss t51 (V.int .i64 3)))).bind fun t52 =>
 (M.lift (Ax.pick t48 (V.bool true) t52)).bind fun t53 =>
 (zaa [(0, t53)] (some (0, false)) (zab (some 19) t10)).bind fun t55 =>
 (zaa [(0, t53)] (some (0, false)) (zab (some 6) t11)).bind fun t56 =>
 (zaa [(0, t53)] (some (0, false)) (G zdb [t55, t56])).bind fun t57 =>
 (zaa [(0, t53)] (some (0, false)) (M.lift (Ax.un .not t57))).bind fun t58 =>
 (M.lift (Ax.pick t53 (V.bool true) t58)).bind fun t59 =>
 M.ite t59
 ((M.lift (Ax.build [V.nils, (V.int .i64 0), (V.bool false)] [])).bind fun t60 =>
 (zam 3 t14 t60).bind fun _ =>
 (zab (some 3) t14).bind fun r0 =>
 M.pure (.ret [r0, (V.int .i64 1)]))
 ((zab (some 10) t9).bind fun t63 =>
 (zab (some 19) t10).bind fun t64 =>
 (G zb1 [t0, t1, t63, t64, t6]).bind fun t66 =>
 (M.lift (Ax.un .not t66)).bind fun t67 =>
 M.ite t67
 ((M.lift (Ax.build [V.nils, (V.int .i64 0), (V.bool false)] [(1, 1, (V.int .i64 1))])).bind fun t68 =>
 (zam 3 t14 t68).bind fun _ =>
 (zab (some 3) t14).bind fun r0 =>
 M.pure (.ret [r0, (V.int .i64 0)]))
 ((zab (some 19) t10).bind fun t70 =>
 (zab (some 6) t11).bind fun t71 =>
 (G zcD [t0, t70, t71, t5]).bind fun t73 =>
 (M.lift (Ax.bin .neq t73 (V.int .i64 0))).bind fun t75 =>
 M.ite t75
 ((M.lift (Ax.bin .eql t73 (V.int .i64 5))).bind fun t78 =>
 (M.lift (Ax.build [V.nils, (V.int .i64 0), (V.bool false)] [(1, 1, t73), (2, 1, t78)])).bind fun t79 =>
 (zam 3 t14 t79).bind fun _ =>
 (zab (some 3) t14).bind fun r0 =>
 M.pure (.ret [r0, (V.int .i64 0)]))
 ((M.lift (Ax.faddr 0 t10)).bind fun t80 =>
 (zab none t80).bind fun t81 =>
 M.join (M.ite t81
 ((M.lift (Ax.nilck t0)).bind fun t84 =>
 (M.lift (Ax.faddr 13 t84)).bind fun t85 =>
 (zab none t85).bind fun t86 =>
 (M.lift (Ax.faddr 3 t10)).bind fun t87 =>
 (zab none t87).bind fun t88 =>
 (G zek [t86, t88]).bind fun t89 =>
 (M.lift (Ax.nilck t0)).bind fun t90 =>
 (M.lift (Ax.faddr 13 t90)).bind fun t91 =>
 (zam 1 t91 t89).bind fun _ =>
 M.pure (.nrm []))
 (M.pure (.nrm []))) fun _ =>
 (M.lift (Ax.nilck t0)).bind fun t94 =>
 (M.lift (Ax.faddr 6 t94)).bind fun t95 =>
 (zab (some 7) t95).bind fun t96 =>
 (M.lift (Ax.faddr 3 t9)).bind fun t97 =>
 (zab none t97).bind fun t98 =>
 (M.lift (Ax.faddr 3 t10)).bind fun t99 =>
 (zab none t99).bind fun t100 =>
 (G zee [t96, t98, t100, t6]).bind fun t102 =>
 (M.lift (Ax.ext 0 t102)).bind fun t103 =>
 (mbox zcg (V.agg [(V.bool false), (V.int .u16 0), (V.int .u32 0), (V.int .u32 0), (V.int .u16 0), (V.int .u16 0), (V.int .i64 0)])).bind fun t21 =>
 (zam 7 t21 t103).bind fun _ =>
 (M.lift (Ax.ext 1 t102)).bind fun t104 =>
 (M.lift (Ax.ext 2 t102)).bind fun t105 =>
 (M.lift (Ax.ext 3 t102)).bind fun t106 =>
 (zab (some 7) t21).bind fun t108 =>
 (M.lift (Ax.nilck t0)).bind fun t109 =>
 (M.lift (Ax.faddr 6 t109)).bind fun t110 =>
 (zam 7 t110 t108).bind fun _ =>
 (zab (some 10) t9).bind fun t112 =>
 M.getH.bind fun h0 =>
 (G zb2 [t33, t106]).bind fun t115 =>
 M.getH.bind fun h0' =>
 (M.unch t9 h0 h0').bind fun _ =>
 (G zeY [t112, (V.int .i64 1), t115]).bind fun t116 =>
 (M.lift (Ax.ext 0 t116)).bind fun t117 =>
 (zam 10 t9 t117).bind fun _ =>
 (M.lift (Ax.ext 1 t116)).bind fun t118 =>
 (M.lift (Ax.nilck t0)).bind fun t122 =>
 (M.lift (Ax.faddr 0 t122)).bind fun t123 =>
 (zab none t123).bind fun t124 =>
 (M.lift (Ax.faddr 2 t9)).bind fun t125 =>
 M.getH.bind fun h1 =>
 (zam 1 t125 t104).bind fun _ =>
 M.getH.bind fun h1' =>
 (M.unch t123 h1 h1').bind fun _ =>
 (M.lift (Ax.faddr 3 t9)).bind fun t126 =>
 M.getH.bind fun h2 =>
 (zam 1 t126 t105).bind fun _ =>
 M.getH.bind fun h2' =>
 (M.unch t123 h2 h2').bind fun _ =>
 (M.lift (Ax.faddr 4 t9)).bind fun t127 =>
 (zam 1 t127 t124).bind fun _ =>
 (zab (some 10) t9).bind fun t129 =>
 (G zde [t129]).bind fun t130 =>
 (M.lift (Ax.ext 0 t130)).bind fun t131 =>
 (M.lift (Ax.ext 1 t130)).bind fun t132 =>
 (M.lift (Ax.nilck t0)).bind fun t134 =>
 (M.lift (Ax.faddr 14 t134)).bind fun t135 =>
 (zab none t135).bind fun t136 =>
 (G zcC [t136, t104, t131]).bind fun t139 =>
 (M.lift (Ax.build [V.nils, (V.int .i64 0), (V.bool false)] [(0, 1, t131)])).bind fun t141 =>
 (zam 3 t14 t141).bind fun _ =>
 (zab (some 3) t14).bind fun r0 =>
 M.pure (.ret [r0, (V.int .i64 0)]))))
theorem zff {t0 t1 t2 t3 t4 t5 t6 : V} : OkT zaS [t0, t1, t2, t3, t4, t5, t6] (zd1 (sem T) t0 t1 t2 t3 t4 t5 t6) := okT (by kernel_rfl) (by kernel_rfl) (by kernel_rfl)
noncomputable def zem (G : Sem') (t26 t25 t2 t3 : V) (L : List V) : M Res :=
 (M.lift (Ax.bin .lss (L.getD 1 .undef) t26)).bind fun t28 =>
 M.ite t28
 (M.blk 1 (
 (M.lift (Ax.iaddr none 1 t25 (L.getD 1 .undef))).bind fun t29 =>
 (zab none t29).bind fun t30 =>
 (G zco [(L.getD 0 .undef), t30, (V.int .i64 4)]).bind fun t33 =>
 M.pure (.nrm [t33])) fun L0 =>
 (M.lift (Ax.bin .add (L.getD 1 .undef) (V.int .i64 1))).bind fun t34 =>
 M.pure (.nrm [(L0.getD 0 .undef), t34]))
 (M.pure (.ex 0 [(L.getD 0 .undef)]))
noncomputable def zfZ (G : Sem') (t0 : V) : M Res :=
 (mbox zai t0).bind fun t1 =>
 (zab (some 10) t1).bind fun t8 =>
 (G zeg [t8]).bind fun t9 =>
 (M.lift (Ax.un .not t9)).bind fun t10 =>
 M.ite t10
 (M.pure (.ret [V.nils, (V.int .i64 1)]))
 ((zab (some 10) t1).bind fun t11 =>
 (M.lift (Ax.faddr 2 t1)).bind fun t13 =>
 (zab none t13).bind fun t14 =>
 (M.lift (Ax.cint .u32 t14)).bind fun t15 =>
 M.getH.bind fun h0 =>
 (G zdM [t11]).bind fun t12 =>
 M.getH.bind fun h0' =>
 (M.unch t13 h0 h0').bind fun _ =>
 (G zco [t12, t15, (V.int .i64 2)]).bind fun t16 =>
 (M.lift (Ax.faddr 3 t1)).bind fun t18 =>
 (zab none t18).bind fun t19 =>
 (M.lift (Ax.faddr 4 t1)).bind fun t21 =>
 (zab none t21).bind fun t22 =>
 M.getH.bind fun h1 =>
 (G zco [t16, t19, (V.int .i64 4)]).bind fun t20 =>
 M.getH.bind fun h1' =>
 (M.unch t21 h1 h1').bind fun _ =>
 (G zco [t20, t22, (V.int .i64 4)]).bind fun t23 =>
 (M.lift (Ax.faddr 5 t1)).bind fun t24 =>
 (zab none t24).bind fun t25 =>
 (M.lift (vlen t25)).bind fun t26 =>
 M.blk 0 (
 M.iter (zem G t26 t25 V.nils (V.int .i64 0)) [t23, (V.int .i64 0)]) fun L1 =>
 (M.lift (Ax.faddr 6 t1)).bind fun t35 =>
 (zab none t35).bind fun t36 =>
 (M.lift (Ax.bin .neq t36 (V.int .i64 0))).bind fun t37 =>
 M.join (M.ite t37
 ((zab (some 10) t1).bind fun t38 =>
 (G zcN [t38]).bind fun t39 =>
 (M.lift (Ax.faddr 6 t1)).bind fun t41 =>
 (zab none t41).bind fun t42 =>
 (M.lift (Ax.cint .u32 t42)).bind fun t43 =>
 (G zco [(L1.getD 0 .undef), t43, (V.int .i64 2)]).bind fun t44 =>
 (M.lift (vlen t39)).bind fun t46 =>
 (M.lift (Ax.bin .quo t46 (V.int .i64 4))).bind fun t47 =>
 (M.lift (Ax.cint .u32 t47)).bind fun t48 =>
 (G zco [t44, t48, (V.int .i64 2)]).bind fun t49 =>
 (mappend zaz 1 1 t49 t39).bind fun t52 =>
 M.pure (.nrm [t52]))
 (M.pure (.nrm [(L1.getD 0 .undef)]))) fun L2 =>
 (M.lift (vlen (L2.getD 0 .undef))).bind fun t54 =>
 (M.lift (Ax.faddr 9 t1)).bind fun t55 =>
 (zab none t55).bind fun t56 =>
 (M.lift (vlen t56)).bind fun t57 =>
 (M.lift (Ax.bin .add t54 t57)).bind fun t58 =>
 (M.lift (Ax.faddr 8 t1)).bind fun t59 =>
 (zab none t59).bind fun t60 =>
 (M.lift (Ax.bin .add t58 t60)).bind fun t61 =>
 (M.lift (Ax.bin .gtr t61 (V.int .i64 1200))).bind fun t62 =>
 M.ite t62
 (M.pure (.ret [V.nils, (V.int .i64 4)]))
 ((M.lift (Ax.faddr 9 t1)).bind fun t64 =>
 (zab none t64).bind fun t65 =>
 (mappend zaz 1 1 (L2.getD 0 .undef) t65).bind fun t66 =>
 (M.lift (Ax.faddr 8 t1)).bind fun t67 =>
 (zab none t67).bind fun t68 =>
 (M.lift (Ax.bin .gtr t68 (V.int .i64 0))).bind fun t69 =>
 M.join (M.ite t69
 ((M.lift (Ax.faddr 8 t1)).bind fun t71 =>
 (zab none t71).bind fun t72 =>
 (mappendz zaz 1 [(V.int .u8 0)] t66 t72).bind fun t73 =>
 (M.lift (vlen t73)).bind fun t76 =>
 (M.lift (Ax.bin .sub t76 (V.int .i64 1))).bind fun t77 =>
 (M.lift (Ax.faddr 8 t1)).bind fun t78 =>
 (zab none t78).bind fun t79 =>
 (M.lift (Ax.cint .u8 t79)).bind fun t80 =>
 (M.lift (Ax.iaddr none 1 t73 t77)).bind fun t81 =>
 (zam 1 t81 t80).bind fun _ =>
 M.pure (.nrm [t73]))
 (M.pure (.nrm [t66]))) fun L3 =>
 M.pure (.ret [(L3.getD 0 .undef), (V.int .i64 0)])))
theorem zgy {t0 : V} : OkT zde [t0] (zfZ (sem T) t0) := okT (by kernel_rfl) (by kernel_rfl) (by kernel_rfl)
noncomputable def zgf (G : Sem') (t0 : V) : M Res :=
 (mbox zai t0).bind fun t1 =>
 M.blk 0 (
 (M.lift (Ax.faddr 1 t1)).bind fun t4 =>
 (zab none t4).bind fun t5 =>
 (M.lift (Ax.bin .lss t5 (V.int .i64 0))).bind fun t6 =>
 (zaa [(0, t6)] (some (0, false)) (M.lift (Ax.faddr 1 t1))).bind fun t8 =>
 (zaa [(0, t6)] (some (0, false)) (zab none t8)).bind fun t9 =>
 (zaa [(0, t6)] (some (0, false)) (M.lift (Ax.bin .gtr t9 (V.int .i64 127)))).bind fun t10 =>
 (M.lift (Ax.pick t6 (V.bool true) t10)).bind fun t11 =>
 (zaa [(0, t11)] (some (0, false)) (M.lift (Ax.faddr 5 t1))).bind fun t13 =>
 (zaa [(0, t11)] (some (0, false)) (zab none t13)).bind fun t14 =>
 (zaa [(0, t11)] (some (0, false)) (M.lift (vlen t14))).bind fun t15 =>
 (zaa [(0, t11)] (some (0, false)) (M.lift (Ax.bin .gtr t15 (V.int .i64 15)))).bind fun t16 =>
 (M.lift (Ax.pick t11 (V.bool true) t16)).bind fun t17 =>
 (zaa [(0, t17)] (some (0, false)) (M.lift (Ax.faddr 8 t1))).bind fun t19 =>
 (zaa [(0, t17)] (some (0, false)) (zab none t19)).bind fun t20 =>
 (zaa [(0, t17)] (some (0, false)) (M.lift (Ax.bin .lss t20 (V.int .i64 0)))).bind fun t21 =>
 (M.lift (Ax.pick t17 (V.bool true) t21)).bind fun t22 =>
 (zaa [(0, t22)] (some (0, false)) (M.lift (Ax.faddr 8 t1))).bind fun t24 =>
 (zaa [(0, t22)] (some (0, false)) (zab none t24)).bind fun t25 =>
 (zaa [(0, t22)] (some (0, false)) (M.lift (Ax.bin .gtr t25 (V.int .i64 255)))).bind fun t26 =>
 (M.lift (Ax.pick t22 (V.bool true) t26)).bind fun t27 =>
 M.ite t27
 (M.pure (.ret [(V.bool false)]))
 ((M.lift (Ax.faddr 6 t1)).bind fun t29 =>
 (zab none t29).bind fun t30 =>
 (M.lift (Ax.bin .eql t30 (V.int .i64 0))).bind fun t31 =>
 M.ite t31
 ((M.lift (Ax.faddr 7 t1)).bind fun t32 =>
 (zab none t32).bind fun t33 =>
 (M.lift (vlen t33)).bind fun t34 =>
 (M.lift (Ax.bin .eql t34 (V.int .i64 0))).bind fun t35 =>
 M.pure (.ret [t35]))
 ((M.lift (Ax.faddr 6 t1)).bind fun t37 =>
 (zab none t37).bind fun t38 =>
 (M.lift (Ax.bin .neq t38 (V.int .i64 48862))).bind fun t39 =>
 (zaa [(0, t39)] (some (0, true)) (M.lift (Ax.faddr 6 t1))).bind fun t41 =>
 (zaa [(0, t39)] (some (0, true)) (zab none t41)).bind fun t42 =>
 (zaa [(0, t39)] (some (0, true)) (M.lift (Ax.bin .neq t42 (V.int .i64 4096)))).bind fun t43 =>
 (M.lift (Ax.pick t39 t43 (V.bool false))).bind fun t44 =>
 M.ite t44
 (M.pure (.ret [(V.bool false)]))
 (M.pure (.nrm []))))) fun _ =>
 (M.lift (Ax.faddr 7 t1)).bind fun t45 =>
 (zab none t45).bind fun t46 =>
 (M.pure (.fn zcp [t1])).bind fun t47 =>
 (G zaD [t46, t47]).bind fun t48 =>
 (M.lift (Ax.un .not t48)).bind fun t49 =>
 M.pure (.ret [t49])
theorem zgQ {t0 : V} : OkT zeg [t0] (zgf (sem T) t0) := okT (by kernel_rfl) (by kernel_rfl) (by kernel_rfl)
noncomputable def zfD (G : Sem') (t0 t1 : V) : M Res :=
 (mbox zbf t0).bind fun t2 =>
 (M.lift (Ax.faddr 6 t1)).bind fun t4 =>
 (zab none t4).bind fun t5 =>
 (zab (some 2) t2).bind fun t6 =>
 (G zc8 [t5, t6]).bind fun t7 =>
 (M.lift (Ax.un .not t7)).bind fun t8 =>
 M.pure (.ret [t8])
theorem zgr {t0 t1 : V} : OkT zcp [t0, t1] (zfD (sem T) t0 t1) := okT (by kernel_rfl) (by kernel_rfl) (by kernel_rfl)
noncomputable def zfj (G : Sem') (t0 t1 : V) : M Res :=
 (mbox zbf t1).bind fun t3 =>
 (M.lift (Ax.bin .eql t0 (V.int .i64 48862))).bind fun t6 =>
 M.ite t6
 ((M.lift (Ax.faddr 0 t3)).bind fun t7 =>
 (zab none t7).bind fun t8 =>
 (M.lift (Ax.bin .geq t8 (V.int .i64 1))).bind fun t9 =>
 (zaa [(0, t9)] (some (0, true)) (M.lift (Ax.faddr 0 t3))).bind fun t11 =>
 (zaa [(0, t9)] (some (0, true)) (zab none t11)).bind fun t12 =>
 (zaa [(0, t9)] (some (0, true)) (M.lift (Ax.bin .leq t12 (V.int .i64 14)))).bind fun t13 =>
 (M.lift (Ax.pick t9 t13 (V.bool false))).bind fun t14 =>
 (zaa [(0, t14)] (some (0, true)) (M.lift (Ax.faddr 1 t3))).bind fun t16 =>
 (zaa [(0, t14)] (some (0, true)) (zab none t16)).bind fun t17 =>
 (zaa [(0, t14)] (some (0, true)) (M.lift (vlen t17))).bind fun t18 =>
 (zaa [(0, t14)] (some (0, true)) (M.lift (Ax.bin .geq t18 (V.int .i64 1)))).bind fun t19 =>
 (M.lift (Ax.pick t14 t19 (V.bool false))).bind fun t20 =>
 (zaa [(0, t20)] (some (0, true)) (M.lift (Ax.faddr 1 t3))).bind fun t22 =>
 (zaa [(0, t20)] (some (0, true)) (zab none t22)).bind fun t23 =>
 (zaa [(0, t20)] (some (0, true)) (M.lift (vlen t23))).bind fun t24 =>
 (zaa [(0, t20)] (some (0, true)) (M.lift (Ax.bin .leq t24 (V.int .i64 16)))).bind fun t25 =>
 (M.lift (Ax.pick t20 t25 (V.bool false))).bind fun t26 =>
 M.pure (.ret [t26]))
 ((M.lift (Ax.faddr 0 t3)).bind fun t27 =>
 (zab none t27).bind fun t28 =>
 (M.lift (Ax.bin .geq t28 (V.int .i64 1))).bind fun t29 =>
 (zaa [(0, t29)] (some (0, true)) (M.lift (Ax.faddr 0 t3))).bind fun t31 =>
 (zaa [(0, t29)] (some (0, true)) (zab none t31)).bind fun t32 =>
 (zaa [(0, t29)] (some (0, true)) (M.lift (Ax.bin .leq t32 (V.int .i64 255)))).bind fun t33 =>
 (M.lift (Ax.pick t29 t33 (V.bool false))).bind fun t34 =>
 (zaa [(0, t34)] (some (0, true)) (M.lift (Ax.faddr 1 t3))).bind fun t36 =>
 (zaa [(0, t34)] (some (0, true)) (zab none t36)).bind fun t37 =>
 (zaa [(0, t34)] (some (0, true)) (M.lift (vlen t37))).bind fun t38 =>
 (zaa [(0, t34)] (some (0, true)) (M.lift (Ax.bin .leq t38 (V.int .i64 255)))).bind fun t39 =>
 (M.lift (Ax.pick t34 t39 (V.bool false))).bind fun t40 =>
 M.pure (.ret [t40]))
theorem zf7 {t0 t1 : V} : OkT zc8 [t0, t1] (zfj (sem T) t0 t1) := okT (by kernel_rfl) (by kernel_rfl) (by kernel_rfl)
noncomputable def zbx (G : Sem') (t0 t1 : V) : M Res :=
 (G zaG [t0, t1]).bind fun t7 =>
 (M.lift (Ax.bin .geq t7 (V.int .i64 0))).bind fun t8 =>
 M.pure (.ret [t8])
theorem zcn {t0 t1 : V} : OkT zaD [t0, t1] (zbx (sem T) t0 t1) := okT (by kernel_rfl) (by kernel_rfl) (by kernel_rfl)
noncomputable def za6 (G : Sem') (t7 t1 t0 : V) (L : List V) : M Res :=
 (M.lift (Ax.bin .lss (L.getD 0 .undef) t7)).bind fun t9 =>
 M.ite t9
 (M.blk 1 (
 (M.lift (Ax.iaddr none 2 t0 (L.getD 0 .undef))).bind fun t14 =>
 (zab (some 2) t14).bind fun t15 =>
 (callv G t1 [t15]).bind fun t16 =>
 M.ite t16
 (M.pure (.ret [(L.getD 0 .undef)]))
 (M.pure (.nrm []))) fun _ =>
 (M.lift (Ax.bin .add (L.getD 0 .undef) (V.int .i64 1))).bind fun t18 =>
 M.pure (.nrm [t18]))
 (M.pure (.ex 0 []))
noncomputable def zbL (G : Sem') (t0 t1 : V) : M Res :=
 (M.lift (vlen t0)).bind fun t7 =>
 M.blk 0 (
 M.iter (za6 G t7 t1 t0) [(V.int .i64 0)]) fun _ =>
 M.pure (.ret [(V.int .i64 (-1))])
theorem zcI {t0 t1 : V} : OkT zaG [t0, t1] (zbL (sem T) t0 t1) := okT (by kernel_rfl) (by kernel_rfl) (by kernel_rfl)
noncomputable def zfY (G : Sem') (t0 : V) : M Res :=
 (mbox zai t0).bind fun t1 =>
 (M.lift (Ax.faddr 5 t1)).bind fun t5 =>
 (zab none t5).bind fun t6 =>
 (M.lift (vlen t6)).bind fun t7 =>
 (M.lift (Ax.bin .or (V.int .i64 128) t7)).bind fun t8 =>
 (M.lift (Ax.cint .u8 t8)).bind fun t9 =>
 (M.lift (Ax.faddr 1 t1)).bind fun t10 =>
 (zab none t10).bind fun t11 =>
 (M.lift (Ax.cint .u8 t11)).bind fun t12 =>
 (M.lift (Ax.faddr 8 t1)).bind fun t13 =>
 (zab none t13).bind fun t14 =>
 (M.lift (Ax.bin .gtr t14 (V.int .i64 0))).bind fun t15 =>
 M.join (M.ite t15
 ((M.lift (Ax.bin .or t9 (V.int .u8 32))).bind fun t17 =>
 M.pure (.nrm [t17]))
 (M.pure (.nrm [t9]))) fun L0 =>
 (M.lift (Ax.faddr 6 t1)).bind fun t18 =>
 (zab none t18).bind fun t19 =>
 (M.lift (Ax.bin .neq t19 (V.int .i64 0))).bind fun t20 =>
 M.join (M.ite t20
 ((M.lift (Ax.bin .or (L0.getD 0 .undef) (V.int .u8 16))).bind fun t22 =>
 M.pure (.nrm [t22]))
 (M.pure (.nrm [(L0.getD 0 .undef)]))) fun L1 =>
 (M.lift (Ax.faddr 0 t1)).bind fun t23 =>
 (zab none t23).bind fun t24 =>
 M.join (M.ite t24
 ((M.lift (Ax.bin .or t12 (V.int .u8 128))).bind fun t26 =>
 M.pure (.nrm [t26]))
 (M.pure (.nrm [t12]))) fun L2 =>
 (mslit zaz 2 [(V.int .u8 0)] [(0, 1, (L1.getD 0 .undef)), (1, 1, (L2.getD 0 .undef))]).bind fun t29 =>
 M.pure (.ret [t29])
theorem zgx {t0 : V} : OkT zdM [t0] (zfY (sem T) t0) := okT (by kernel_rfl) (by kernel_rfl) (by kernel_rfl)
noncomputable def zfc (G : Sem') (t1 t6 : V) (L : List V) : M Res :=
 (M.lift (Ax.bin .geq (L.getD 1 .undef) (V.int .i64 0))).bind fun t11 =>
 M.ite t11
 (M.blk 1 (
 (M.lift (Ax.bin .mul (V.int .i64 8) (L.getD 1 .undef))).bind fun t17 =>
 (M.lift (Ax.bin .shr t1 t17)).bind fun t18 =>
 (M.lift (Ax.cint .u8 t18)).bind fun t19 =>
 (mslit zaz 1 [(V.int .u8 0)] [(0, 1, t19)]).bind fun t20 =>
 (mappend zaz 1 1 (L.getD 0 .undef) t20).bind fun t21 =>
 M.pure (.nrm [t21])) fun L0 =>
 (M.lift (Ax.bin .sub (L.getD 1 .undef) (V.int .i64 1))).bind fun t13 =>
 M.pure (.nrm [(L0.getD 0 .undef), t13]))
 (M.pure (.ex 0 [(L.getD 0 .undef)]))
noncomputable def zgI (G : Sem') (t0 t1 t2 : V) : M Res :=
 (M.lift (Ax.bin .sub t2 (V.int .i64 1))).bind fun t9 =>
 M.blk 0 (
 M.iter (zfc G t1 V.nils) [t0, t9]) fun L1 =>
 M.pure (.ret [(L1.getD 0 .undef)])
theorem zhd {t0 t1 t2 : V} : OkT zco [t0, t1, t2] (zgI (sem T) t0 t1 t2) := okT (by kernel_rfl) (by kernel_rfl) (by kernel_rfl)
noncomputable def zdo (G : Sem') (t8 t7 t1 t2 : V) (L : List V) : M Res :=
 (M.lift (Ax.bin .lss (L.getD 1 .undef) t8)).bind fun t10 =>
 M.ite t10
 (M.blk 1 (
 (M.lift (Ax.iaddr none 2 t7 (L.getD 1 .undef))).bind fun t11 =>
 (zab (some 2) t11).bind fun t12 =>
 (mbox zbf (V.agg [(V.int .i64 0), V.nils])).bind fun t5 =>
 (zam 2 t5 t12).bind fun _ =>
 (M.lift (Ax.faddr 6 t1)).bind fun t13 =>
 (zab none t13).bind fun t14 =>
 (M.lift (Ax.bin .eql t14 (V.int .i64 48862))).bind fun t15 =>
 M.join (M.ite t15
 ((M.lift (Ax.faddr 0 t5)).bind fun t17 =>
 (zab none t17).bind fun t18 =>
 (M.lift (Ax.bin .shl t18 (V.int .u64 4))).bind fun t19 =>
 (M.lift (Ax.faddr 1 t5)).bind fun t20 =>
 (zab none t20).bind fun t21 =>
 (M.lift (vlen t21)).bind fun t22 =>
 (M.lift (Ax.bin .sub t22 (V.int .i64 1))).bind fun t23 =>
 (M.lift (Ax.bin .or t19 t23)).bind fun t24 =>
 (M.lift (Ax.cint .u8 t24)).bind fun t25 =>
 (mslit zaz 1 [(V.int .u8 0)] [(0, 1, t25)]).bind fun t26 =>
 (mappend zaz 1 1 (L.getD 0 .undef) t26).bind fun t27 =>
 M.pure (.nrm [t27]))
 ((M.lift (Ax.faddr 0 t5)).bind fun t29 =>
 (zab none t29).bind fun t30 =>
 (M.lift (Ax.cint .u8 t30)).bind fun t31 =>
 (M.lift (Ax.faddr 1 t5)).bind fun t32 =>
 (zab none t32).bind fun t33 =>
 (M.lift (vlen t33)).bind fun t34 =>
 (M.lift (Ax.cint .u8 t34)).bind fun t35 =>
 (mslit zaz 2 [(V.int .u8 0)] [(0, 1, t31), (1, 1, t35)]).bind fun t36 =>
 (mappend zaz 1 1 (L.getD 0 .undef) t36).bind fun t37 =>
 M.pure (.nrm [t37]))) fun L0 =>
 (M.lift (Ax.faddr 1 t5)).bind fun t39 =>
 (zab none t39).bind fun t40 =>
 (mappend zaz 1 1 (L0.getD 0 .undef) t40).bind fun t41 =>
 M.pure (.nrm [t41])) fun L1 =>
 (M.lift (Ax.bin .add (L.getD 1 .undef) (V.int .i64 1))).bind fun t42 =>
 M.pure (.nrm [(L1.getD 0 .undef), t42]))
 (M.pure (.ex 0 [(L.getD 0 .undef)]))
noncomputable def zcH (G : Sem') (t2 : V) (L : List V) : M Res :=
 (M.lift (vlen (L.getD 0 .undef))).bind fun t44 =>
 (M.lift (Ax.bin .rem t44 (V.int .i64 4))).bind fun t45 =>
 (M.lift (Ax.bin .neq t45 (V.int .i64 0))).bind fun t46 =>
 M.ite t46
 (M.blk 3 (
 (mslit zaz 1 [(V.int .u8 0)] [(0, 1, (V.int .u8 0))]).bind fun t48 =>
 (mappend zaz 1 1 (L.getD 0 .undef) t48).bind fun t49 =>
 M.pure (.nrm [t49])) fun L3 =>
 M.pure (.nrm [(L3.getD 0 .undef)]))
 (M.pure (.ex 2 [(L.getD 0 .undef)]))
noncomputable def ze4 (G : Sem') (t0 : V) : M Res :=
 (mbox zai t0).bind fun t1 =>
 (M.lift (Ax.faddr 7 t1)).bind fun t6 =>
 (zab none t6).bind fun t7 =>
 (M.lift (vlen t7)).bind fun t8 =>
 M.blk 0 (
 M.iter (zdo G t8 t7 t1 V.nils) [V.nils, (V.int .i64 0)]) fun L2 =>
 M.blk 2 (
 M.iter (zcH G V.nils) [(L2.getD 0 .undef)]) fun L4 =>
 M.pure (.ret [(L4.getD 0 .undef)])
theorem zfT {t0 : V} : OkT zcN [t0] (ze4 (sem T) t0) := okT (by kernel_rfl) (by kernel_rfl) (by kernel_rfl)
noncomputable def zgg (G : Sem') (t0 t1 : V) : M Res :=
 (mbox zai t0).bind fun t2 =>
 (zab (some 10) t2).bind fun t7 =>
 (G zeI [t7, t1]).bind fun t9 =>
 (M.lift (Ax.bin .lss t9 (V.int .i64 0))).bind fun t11 =>
 M.ite t11
 (M.pure (.ret [V.nils, (V.bool false)]))
 ((M.lift (Ax.faddr 7 t2)).bind fun t12 =>
 (zab none t12).bind fun t13 =>
 (M.lift (Ax.iaddr none 2 t13 t9)).bind fun t15 =>
 (M.lift (Ax.faddr 1 t15)).bind fun t16 =>
 (zab none t16).bind fun t17 =>
 (G zaW [t17]).bind fun t18 =>
 M.pure (.ret [t18, (V.bool true)]))
theorem zgR {t0 t1 : V} : OkT zeh [t0, t1] (zgg (sem T) t0 t1) := okT (by kernel_rfl) (by kernel_rfl) (by kernel_rfl)
noncomputable def zg7 (G : Sem') (t0 t1 : V) : M Res :=
 (mbox zai t0).bind fun t2 =>
 (mbox zcy t1).bind fun t3 =>
 (M.lift (Ax.faddr 7 t2)).bind fun t5 =>
 (zab none t5).bind fun t6 =>
 (M.pure (.fn zef [t3])).bind fun t7 =>
 (G zaG [t6, t7]).bind fun t8 =>
 M.pure (.ret [t8])
theorem zhs {t0 t1 : V} : OkT zeI [t0, t1] (zg7 (sem T) t0 t1) := okT (by kernel_rfl) (by kernel_rfl) (by kernel_rfl)
noncomputable def zge (G : Sem') (t0 t1 : V) : M Res :=
 (mbox zbf t0).bind fun t2 =>
 (M.lift (Ax.faddr 0 t2)).bind fun t4 =>
 (zab none t4).bind fun t5 =>
 (zab none t1).bind fun t6 =>
 (M.lift (Ax.bin .eql t5 t6)).bind fun t7 =>
 M.pure (.ret [t7])
theorem zgP {t0 t1 : V} : OkT zef [t0, t1] (zge (sem T) t0 t1) := okT (by kernel_rfl) (by kernel_rfl) (by kernel_rfl)
noncomputable def zdz (G : Sem') (t0 : V) : M Res :=
 (M.lift (eqr .sl false t0 V.nils)).bind fun t4 =>
 M.ite t4
 (M.pure (.ret [V.nils]))
 ((mslit zaz 0 [(V.int .u8 0)] []).bind fun t5 =>
 (mappend zaz 1 1 t5 t0).bind fun t7 =>
 M.pure (.ret [t7]))
theorem zdU {t0 : V} : OkT zaW [t0] (zdz (sem T) t0) := okT (by kernel_rfl) (by kernel_rfl) (by kernel_rfl)
noncomputable def zfm (G : Sem') (t0 t1 : V) : M Res :=
 (mbox zal t0).bind fun t2 =>
 (mbox zag t1).bind fun t3 =>
 (zab (some 19) t2).bind fun t9 =>
 (zab (some 6) t3).bind fun t10 =>
 (G zdP [t9, t10]).bind fun t11 =>
 (M.lift (Ax.ext 0 t11)).bind fun t12 =>
 (M.lift (Ax.ext 1 t11)).bind fun t13 =>
 (mbox zah (V.agg [(V.int .i64 0), (V.int .i64 0), V.nils, V.nils, V.nils])).bind fun t5 =>
 (zam 5 t5 t12).bind fun _ =>
 (zab (some 19) t2).bind fun t14 =>
 (zab (some 6) t3).bind fun t15 =>
 (G zcj [t14, t15]).bind fun t16 =>
 (mbox zag (V.agg [(V.int .i64 0), (V.int .i64 0), V.nils, (V.int .i64 0), V.nils, V.nils])).bind fun t7 =>
 (zam 6 t7 t16).bind fun _ =>
 M.blk 0 (
 (M.lift (Ax.un .not t13)).bind fun t19 =>
 (zaa [(0, t19)] (some (0, false)) (M.lift (Ax.faddr 4 t2))).bind fun t21 =>
 (zaa [(0, t19)] (some (0, false)) (zab none t21)).bind fun t22 =>
 (zaa [(0, t19)] (some (0, false)) (M.lift (Ax.un .not t22))).bind fun t23 =>
 (zaa [(0, t19)] (some (0, false)) (M.pure t23)).bind fun t24 =>
 (zaa [(0, t24)] (some (0, true)) (M.lift (Ax.faddr 5 t2))).bind fun t25 =>
 (zaa [(0, t24)] (some (0, true)) (zab (some 6) t25)).bind fun t26 =>
 (zaa [(0, t24)] (some (0, true)) (G zc9 [t26])).bind fun t27 =>
 (zaa [(0, t24)] (some (0, true)) (M.lift (Ax.un .not t27))).bind fun t28 =>
 (zaa [(0, t19)] (some (0, false)) (M.lift (Ax.pick t24 t28 (V.bool false)))).bind fun t29 =>
 (M.lift (Ax.pick t19 (V.bool true) t29)).bind fun t30 =>
 M.ite t30
 (M.pure (.ret [(V.bool false)]))
 ((M.lift (Ax.faddr 11 t2)).bind fun t32 =>
 (zab none t32).bind fun t33 =>
 (M.lift (Ax.un .not t33)).bind fun t34 =>
 (zaa [(0, t34)] (some (0, true)) (M.lift (Ax.faddr 12 t2))).bind fun t36 =>
 (zaa [(0, t34)] (some (0, true)) (zab none t36)).bind fun t37 =>
 (zaa [(0, t34)] (some (0, true)) (M.lift (Ax.bin .neq t37 (V.int .u32 0)))).bind fun t38 =>
 (M.lift (Ax.pick t34 t38 (V.bool false))).bind fun t39 =>
 (zaa [(0, t39)] (some (0, false)) (M.lift (Ax.faddr 12 t2))).bind fun t41 =>
 (zaa [(0, t39)] (some (0, false)) (zab none t41)).bind fun t42 =>
 (zaa [(0, t39)] (some (0, false)) (M.lift (Ax.cint .u64 t42))).bind fun t43 =>
 (zaa [(0, t39)] (some (0, false)) (M.lift (Ax.faddr 1 t7))).bind fun t44 =>
 (zaa [(0, t39)] (some (0, false)) (zab none t44)).bind fun t45 =>
 (zaa [(0, t39)] (some (0, false)) (M.lift (Ax.bin .shr t43 t45))).bind fun t46 =>
 (zaa [(0, t39)] (some (0, false)) (M.lift (Ax.bin .neq t46 (V.int .u64 0)))).bind fun t47 =>
 (M.lift (Ax.pick t39 (V.bool true) t47)).bind fun t48 =>
 M.ite t48
 (M.pure (.ret [(V.bool false)]))
 ((M.lift (Ax.faddr 13 t2)).bind fun t50 =>
 (zab none t50).bind fun t51 =>
 (zaa [(0, t51)] (some (0, true)) (M.lift (Ax.faddr 16 t2))).bind fun t53 =>
 (zaa [(0, t51)] (some (0, true)) (zab none t53)).bind fun t54 =>
 (zaa [(0, t51)] (some (0, true)) (M.lift (Ax.faddr 1 t7))).bind fun t55 =>
 (zaa [(0, t51)] (some (0, true)) (zab none t55)).bind fun t56 =>
 (zaa [(0, t51)] (some (0, true)) (G zaV [t54, t56, (V.int .i64 0), (V.int .i64 3)])).bind fun t57 =>
 (zaa [(0, t51)] (some (0, true)) (M.lift (Ax.un .not t57))).bind fun t58 =>
 (M.lift (Ax.pick t51 t58 (V.bool false))).bind fun t59 =>
 (zaa [(0, t59)] (some (0, false)) (M.lift (Ax.faddr 13 t2))).bind fun t61 =>
 (zaa [(0, t59)] (some (0, false)) (zab none t61)).bind fun t62 =>
 (zaa [(0, t59)] (some (0, false)) (M.lift (Ax.un .not t62))).bind fun t63 =>
 (zaa [(0, t59)] (some (0, false)) (M.pure t63)).bind fun t64 =>
 (zaa [(0, t64)] (some (0, true)) (M.lift (Ax.faddr 16 t2))).bind fun t65 =>
 (zaa [(0, t64)] (some (0, true)) (zab none t65)).bind fun t66 =>
 (zaa [(0, t64)] (some (0, true)) (M.lift (Ax.faddr 2 t5))).bind fun t67 =>
 (zaa [(0, t64)] (some (0, true)) (zab none t67)).bind fun t68 =>
 (zaa [(0, t64)] (some (0, true)) (G za0 [t66, t68])).bind fun t69 =>
 (zaa [(0, t64)] (some (0, true)) (M.lift (Ax.un .not t69))).bind fun t70 =>
 (zaa [(0, t59)] (some (0, false)) (M.lift (Ax.pick t64 t70 (V.bool false)))).bind fun t71 =>
 (M.lift (Ax.pick t59 (V.bool true) t71)).bind fun t72 =>
 M.ite t72
 (M.pure (.ret [(V.bool false)]))
 ((M.lift (Ax.faddr 14 t2)).bind fun t74 =>
 (zab none t74).bind fun t75 =>
 (zaa [(0, t75)] (some (0, true)) (M.lift (Ax.faddr 17 t2))).bind fun t77 =>
 (zaa [(0, t75)] (some (0, true)) (zab none t77)).bind fun t78 =>
 (zaa [(0, t75)] (some (0, true)) (G zck [t78, (V.int .i64 16), (V.int .i64 4096)])).bind fun t79 =>
 (zaa [(0, t75)] (some (0, true)) (M.lift (Ax.un .not t79))).bind fun t80 =>
 (M.lift (Ax.pick t75 t80 (V.bool false))).bind fun t81 =>
 (zaa [(0, t81)] (some (0, false)) (M.lift (Ax.faddr 14 t2))).bind fun t83 =>
 (zaa [(0, t81)] (some (0, false)) (zab none t83)).bind fun t84 =>
 (zaa [(0, t81)] (some (0, false)) (M.lift (Ax.un .not t84))).bind fun t85 =>
 (zaa [(0, t81)] (some (0, false)) (M.pure t85)).bind fun t86 =>
 (zaa [(0, t86)] (some (0, true)) (M.lift (Ax.faddr 17 t2))).bind fun t87 =>
 (zaa [(0, t86)] (some (0, true)) (zab none t87)).bind fun t88 =>
 (zaa [(0, t86)] (some (0, true)) (M.lift (Ax.faddr 3 t5))).bind fun t89 =>
 (zaa [(0, t86)] (some (0, true)) (zab none t89)).bind fun t90 =>
 (zaa [(0, t86)] (some (0, true)) (G za0 [t88, t90])).bind fun t91 =>
 (zaa [(0, t86)] (some (0, true)) (M.lift (Ax.un .not t91))).bind fun t92 =>
 (zaa [(0, t81)] (some (0, false)) (M.lift (Ax.pick t86 t92 (V.bool false)))).bind fun t93 =>
 (M.lift (Ax.pick t81 (V.bool true) t93)).bind fun t94 =>
 M.ite t94
 (M.pure (.ret [(V.bool false)]))
 (M.pure (.nrm [])))))) fun _ =>
 (M.lift (Ax.faddr 15 t2)).bind fun t95 =>
 (zab none t95).bind fun t96 =>
 M.ite t96
 ((M.lift (Ax.faddr 18 t2)).bind fun t97 =>
 (zab none t97).bind fun t98 =>
 (M.lift (Ax.faddr 3 t7)).bind fun t99 =>
 (zab none t99).bind fun t100 =>
 (G zaV [t98, t100, (V.int .i64 0), (V.int .i64 255)]).bind fun t101 =>
 M.pure (.ret [t101]))
 ((M.lift (Ax.faddr 18 t2)).bind fun t102 =>
 (zab none t102).bind fun t103 =>
 (M.lift (Ax.faddr 4 t5)).bind fun t104 =>
 (zab none t104).bind fun t105 =>
 (G za0 [t103, t105]).bind fun t106 =>
 M.pure (.ret [t106]))
theorem zga {t0 t1 : V} : OkT zdb [t0, t1] (zfm (sem T) t0 t1) := okT (by kernel_rfl) (by kernel_rfl) (by kernel_rfl)
noncomputable def zf2 (G : Sem') (t0 t1 : V) : M Res :=
 (mbox zal t0).bind fun t2 =>
 (mbox zag t1).bind fun t3 =>
 (mbox zah (V.agg [(V.int .i64 0), (V.int .i64 0), V.nils, V.nils, V.nils])).bind fun t4 =>
 (zab (some 19) t2).bind fun t7 =>
 (zab (some 6) t3).bind fun t8 =>
 (G zcj [t7, t8]).bind fun t9 =>
 (mbox zag (V.agg [(V.int .i64 0), (V.int .i64 0), V.nils, (V.int .i64 0), V.nils, V.nils])).bind fun t6 =>
 (zam 6 t6 t9).bind fun _ =>
 (zab (some 6) t6).bind fun t10 =>
 (G zb5 [t10]).bind fun t11 =>
 (M.lift (Ax.un .not t11)).bind fun t12 =>
 M.ite t12
 ((M.lift (Ax.build [(V.int .i64 0), (V.int .i64 0), V.nils, V.nils, V.nils] [])).bind fun t13 =>
 (zam 5 t4 t13).bind fun _ =>
 (zab (some 5) t4).bind fun r0 =>
 M.pure (.ret [r0, (V.bool false)]))
 ((zab (some 6) t6).bind fun t14 =>
 (M.lift (Ax.faddr 2 t2)).bind fun t15 =>
 (zab none t15).bind fun t16 =>
 (G zca [t14, t16]).bind fun t17 =>
 (M.lift (Ax.ext 0 t17)).bind fun t18 =>
 (M.lift (Ax.ext 1 t17)).bind fun t19 =>
 (zam 5 t4 t18).bind fun _ =>
 (zab (some 5) t4).bind fun r0 =>
 M.pure (.ret [r0, t19]))
theorem zgC {t0 t1 : V} : OkT zdP [t0, t1] (zf2 (sem T) t0 t1) := okT (by kernel_rfl) (by kernel_rfl) (by kernel_rfl)
end Go.Ax
/- FnD3 -/
namespace Go.Ax
open Go.Proofs
noncomputable def ze6 (G : Sem') (t0 t1 : V) : M Res :=
 (mbox zal t0).bind fun t2 =>
 (mbox zag t1).bind fun t3 =>
 (mbox zag (V.agg [(V.int .i64 0), (V.int .i64 0), V.nils, (V.int .i64 0), V.nils, V.nils])).bind fun t4 =>
 (M.lift (Ax.faddr 4 t2)).bind fun t5 =>
 (zab none t5).bind fun t6 =>
 M.ite t6
 ((M.lift (Ax.faddr 5 t2)).bind fun t7 =>
 (zab (some 6) t7).bind fun t8 =>
 (zam 6 t4 t8).bind fun _ =>
 (zab (some 6) t4).bind fun r0 =>
 M.pure (.ret [r0]))
 ((zab (some 6) t3).bind fun t9 =>
 (zam 6 t4 t9).bind fun _ =>
 (zab (some 6) t4).bind fun r0 =>
 M.pure (.ret [r0]))
theorem zfV {t0 t1 : V} : OkT zcj [t0, t1] (ze6 (sem T) t0 t1) := okT (by kernel_rfl) (by kernel_rfl) (by kernel_rfl)
noncomputable def zcU (G : Sem') (t70 t69 : V) (L : List V) : M Res :=
 (M.lift (Ax.bin .lss (L.getD 0 .undef) t70)).bind fun t72 =>
 M.ite t72
 (M.blk 1 (
 (M.lift (Ax.iaddr none 2 t69 (L.getD 0 .undef))).bind fun t73 =>
 (zab (some 2) t73).bind fun t74 =>
 (mbox zg5 (V.agg [(V.int .i64 0), (V.int .i64 0)])).bind fun t6 =>
 (zam 2 t6 t74).bind fun _ =>
 (M.lift (vslice (.arr 2) 1 t6 none none none)).bind fun t75 =>
 (G zaV [t75, (V.int .i64 2), (V.int .i64 1), (V.int .i64 65536)]).bind fun t76 =>
 (M.lift (Ax.un .not t76)).bind fun t77 =>
 M.ite t77
 (M.pure (.ret [(V.bool false)]))
 (M.pure (.nrm []))) fun _ =>
 (M.lift (Ax.bin .add (L.getD 0 .undef) (V.int .i64 1))).bind fun t78 =>
 M.pure (.nrm [t78]))
 (M.pure (.ex 0 []))
noncomputable def zfn (G : Sem') (t0 : V) : M Res :=
 (mbox zag t0).bind fun t1 =>
 (M.lift (Ax.faddr 1 t1)).bind fun t7 =>
 (zab none t7).bind fun t8 =>
 (M.lift (Ax.faddr 3 t1)).bind fun t9 =>
 (zab none t9).bind fun t10 =>
 (M.lift (Ax.bin .eql t10 (V.int .i64 0))).bind fun t11 =>
 M.join (M.ite t11
 (M.pure (.nrm [(V.int .i64 0)]))
 (M.pure (.nrm [t8]))) fun L0 =>
 (M.lift (Ax.faddr 0 t1)).bind fun t12 =>
 (zab none t12).bind fun t13 =>
 (M.lift (Ax.bin .lss t13 (V.int .i64 0))).bind fun t14 =>
 (zaa [(0, t14)] (some (0, false)) (M.lift (Ax.faddr 0 t1))).bind fun t16 =>
 (zaa [(0, t14)] (some (0, false)) (zab none t16)).bind fun t17 =>
 (zaa [(0, t14)] (some (0, false)) (M.lift (Ax.bin .geq t17 (V.int .i64 64)))).bind fun t18 =>
 (M.lift (Ax.pick t14 (V.bool true) t18)).bind fun t19 =>
 (zaa [(0, t19)] (some (0, false)) (M.lift (Ax.faddr 1 t1))).bind fun t21 =>
 (zaa [(0, t19)] (some (0, false)) (zab none t21)).bind fun t22 =>
 (zaa [(0, t19)] (some (0, false)) (M.lift (Ax.bin .lss t22 (V.int .i64 1)))).bind fun t23 =>
 (M.lift (Ax.pick t19 (V.bool true) t23)).bind fun t24 =>
 (zaa [(0, t24)] (some (0, false)) (M.lift (Ax.faddr 1 t1))).bind fun t26 =>
 (zaa [(0, t24)] (some (0, false)) (zab none t26)).bind fun t27 =>
 (zaa [(0, t24)] (some (0, false)) (M.lift (Ax.bin .gtr t27 (V.int .i64 32)))).bind fun t28 =>
 (M.lift (Ax.pick t24 (V.bool true) t28)).bind fun t29 =>
 (zaa [(0, t29)] (some (0, false)) (M.lift (Ax.faddr 3 t1))).bind fun t31 =>
 (zaa [(0, t29)] (some (0, false)) (zab none t31)).bind fun t32 =>
 (zaa [(0, t29)] (some (0, false)) (M.lift (Ax.bin .lss t32 (V.int .i64 0)))).bind fun t33 =>
 (M.lift (Ax.pick t29 (V.bool true) t33)).bind fun t34 =>
 (zaa [(0, t34)] (some (0, false)) (M.lift (Ax.faddr 3 t1))).bind fun t36 =>
 (zaa [(0, t34)] (some (0, false)) (zab none t36)).bind fun t37 =>
 (zaa [(0, t34)] (some (0, false)) (M.lift (Ax.faddr 1 t1))).bind fun t38 =>
 (zaa [(0, t34)] (some (0, false)) (zab none t38)).bind fun t39 =>
 (zaa [(0, t34)] (some (0, false)) (M.lift (Ax.bin .gtr t37 t39))).bind fun t40 =>
 (M.lift (Ax.pick t34 (V.bool true) t40)).bind fun t41 =>
 (zaa [(0, t41)] (some (0, false)) (M.lift (Ax.faddr 4 t1))).bind fun t43 =>
 (zaa [(0, t41)] (some (0, false)) (zab none t43)).bind fun t44 =>
 (zaa [(0, t41)] (some (0, false)) (M.pure (L0.getD 0 .undef))).bind fun t45 =>
 (zaa [(0, t41)] (some (0, false)) (M.lift (Ax.faddr 3 t1))).bind fun t46 =>
 (zaa [(0, t41)] (some (0, false)) (zab none t46)).bind fun t47 =>
 (zaa [(0, t41)] (some (0, false)) (M.lift (Ax.bin .sub t47 (V.int .i64 1)))).bind fun t48 =>
 (zaa [(0, t41)] (some (0, false)) (G zaV [t44, t45, (V.int .i64 0), t48])).bind fun t49 =>
 (zaa [(0, t41)] (some (0, false)) (M.lift (Ax.un .not t49))).bind fun t50 =>
 (M.lift (Ax.pick t41 (V.bool true) t50)).bind fun t51 =>
 (zaa [(0, t51)] (some (0, false)) (zab (some 6) t1)).bind fun t53 =>
 (zaa [(0, t51)] (some (0, false)) (G zcE [t53])).bind fun t54 =>
 (zaa [(0, t51)] (some (0, false)) (M.lift (Ax.un .not t54))).bind fun t55 =>
 (M.lift (Ax.pick t51 (V.bool true) t55)).bind fun t56 =>
 M.ite t56
 (M.pure (.ret [(V.bool false)]))
 ((M.lift (Ax.faddr 5 t1)).bind fun t57 =>
 (zab none t57).bind fun t58 =>
 (M.lift (vlen t58)).bind fun t59 =>
 (M.lift (Ax.bin .neq t59 (V.int .i64 0))).bind fun t61 =>
 (zaa [(0, t61)] (some (0, true)) (M.pure t59)).bind fun t63 =>
 (zaa [(0, t61)] (some (0, true)) (zab (some 6) t1)).bind fun t64 =>
 (zaa [(0, t61)] (some (0, true)) (G zct [t64])).bind fun t65 =>
 (zaa [(0, t61)] (some (0, true)) (M.lift (Ax.bin .neq t63 t65))).bind fun t66 =>
 (M.lift (Ax.pick t61 t66 (V.bool false))).bind fun t67 =>
 M.ite t67
 (M.pure (.ret [(V.bool false)]))
 ((M.lift (Ax.faddr 5 t1)).bind fun t68 =>
 (zab none t68).bind fun t69 =>
 (M.lift (vlen t69)).bind fun t70 =>
 M.blk 0 (
 M.iter (zcU G t70 t69) [(V.int .i64 0)]) fun _ =>
 (M.lift (Ax.faddr 2 t1)).bind fun t79 =>
 (zab none t79).bind fun t80 =>
 (M.pure (.fn zb3 [t1])).bind fun t81 =>
 (G zap [t80, t81]).bind fun t82 =>
 (M.lift (Ax.un .not t82)).bind fun t83 =>
 M.pure (.ret [t83])))
theorem zgb {t0 : V} : OkT zb5 [t0] (zfn (sem T) t0) := okT (by kernel_rfl) (by kernel_rfl) (by kernel_rfl)
noncomputable def zeR (G : Sem') (t0 t1 t2 t3 : V) : M Res :=
 (mbox zcy t2).bind fun t6 =>
 (mbox zcy t3).bind fun t7 =>
 (M.lift (vlen t0)).bind fun t10 =>
 (M.lift (Ax.bin .eql t10 t1)).bind fun t12 =>
 (zaa [(0, t12)] (some (0, true)) (M.pure t0)).bind fun t14 =>
 (zaa [(0, t12)] (some (0, true)) (M.pure (.fn zb9 [t6, t7]))).bind fun t15 =>
 (zaa [(0, t12)] (some (0, true)) (G za4 [t14, t15])).bind fun t16 =>
 (zaa [(0, t12)] (some (0, true)) (M.lift (Ax.un .not t16))).bind fun t17 =>
 (M.lift (Ax.pick t12 t17 (V.bool false))).bind fun t18 =>
 M.pure (.ret [t18])
theorem zfI {t0 t1 t2 t3 : V} : OkT zaV [t0, t1, t2, t3] (zeR (sem T) t0 t1 t2 t3) := okT (by kernel_rfl) (by kernel_rfl) (by kernel_rfl)
noncomputable def zd2 (G : Sem') (t0 t1 t2 : V) : M Res :=
 (zab none t1).bind fun t6 =>
 (M.lift (Ax.bin .lss t0 t6)).bind fun t7 =>
 (zaa [(0, t7)] (some (0, false)) (M.pure t0)).bind fun t9 =>
 (zaa [(0, t7)] (some (0, false)) (zab none t2)).bind fun t10 =>
 (zaa [(0, t7)] (some (0, false)) (M.lift (Ax.bin .gtr t9 t10))).bind fun t11 =>
 (M.lift (Ax.pick t7 (V.bool true) t11)).bind fun t12 =>
 M.pure (.ret [t12])
theorem zfg {t0 t1 t2 : V} : OkT zb9 [t0, t1, t2] (zd2 (sem T) t0 t1 t2) := okT (by kernel_rfl) (by kernel_rfl) (by kernel_rfl)
noncomputable def zb4 (G : Sem') (t0 t1 : V) : M Res :=
 (G zbb [t0, t1]).bind fun t7 =>
 (M.lift (Ax.bin .geq t7 (V.int .i64 0))).bind fun t8 =>
 M.pure (.ret [t8])
theorem zdc {t0 t1 : V} : OkT za4 [t0, t1] (zb4 (sem T) t0 t1) := okT (by kernel_rfl) (by kernel_rfl) (by kernel_rfl)
noncomputable def zbA (G : Sem') (t7 t1 t0 : V) (L : List V) : M Res :=
 (M.lift (Ax.bin .lss (L.getD 0 .undef) t7)).bind fun t9 =>
 M.ite t9
 (M.blk 1 (
 (M.lift (Ax.iaddr none 1 t0 (L.getD 0 .undef))).bind fun t14 =>
 (zab none t14).bind fun t15 =>
 (callv G t1 [t15]).bind fun t16 =>
 M.ite t16
 (M.pure (.ret [(L.getD 0 .undef)]))
 (M.pure (.nrm []))) fun _ =>
 (M.lift (Ax.bin .add (L.getD 0 .undef) (V.int .i64 1))).bind fun t18 =>
 M.pure (.nrm [t18]))
 (M.pure (.ex 0 []))
noncomputable def zcu (G : Sem') (t0 t1 : V) : M Res :=
 (M.lift (vlen t0)).bind fun t7 =>
 M.blk 0 (
 M.iter (zbA G t7 t1 t0) [(V.int .i64 0)]) fun _ =>
 M.pure (.ret [(V.int .i64 (-1))])
theorem zdB {t0 t1 : V} : OkT zbb [t0, t1] (zcu (sem T) t0 t1) := okT (by kernel_rfl) (by kernel_rfl) (by kernel_rfl)
noncomputable def zc5 (G : Sem') (t11 t10 t3 : V) (L : List V) : M Res :=
 (M.lift (Ax.bin .lss (L.getD 0 .undef) t11)).bind fun t13 =>
 M.ite t13
 (M.blk 1 (
 (M.lift (Ax.iaddr none 5 t10 (L.getD 0 .undef))).bind fun t15 =>
 (zab (some 5) t15).bind fun t16 =>
 (mbox zah (V.agg [(V.int .i64 0), (V.int .i64 0), V.nils, V.nils, V.nils])).bind fun t5 =>
 (zam 5 t5 t16).bind fun _ =>
 (zab (some 5) t3).bind fun t18 =>
 (zab (some 5) t5).bind fun t19 =>
 (G zda [t18, t19]).bind fun t20 =>
 (M.lift (Ax.ext 0 t20)).bind fun t21 =>
 (M.lift (Ax.ext 1 t20)).bind fun t22 =>
 (M.lift (Ax.un .not t22)).bind fun t24 =>
 (zaa [(0, t24)] (some (0, false)) (M.pure (L.getD 0 .undef))).bind fun t26 =>
 (zaa [(0, t24)] (some (0, false)) (M.lift (Ax.bin .eql t26 (V.int .i64 0)))).bind fun t27 =>
 (zaa [(0, t24)] (some (0, false)) (M.pure t27)).bind fun t28 =>
 (zaa [(0, t28)] (some (0, true)) (M.pure t21)).bind fun t29 =>
 (zaa [(0, t28)] (some (0, true)) (M.lift (Ax.bin .neq t29 (V.int .i64 0)))).bind fun t30 =>
 (zaa [(0, t24)] (some (0, false)) (M.lift (Ax.pick t28 t30 (V.bool false)))).bind fun t31 =>
 (M.lift (Ax.pick t24 (V.bool true) t31)).bind fun t32 =>
 (zaa [(0, t32)] (some (0, false)) (M.lift (Ax.faddr 0 t5))).bind fun t34 =>
 (zaa [(0, t32)] (some (0, false)) (zab none t34)).bind fun t35 =>
 (zaa [(0, t32)] (some (0, false)) (M.lift (Ax.bin .gtr t35 (V.int .i64 3)))).bind fun t36 =>
 (M.lift (Ax.pick t32 (V.bool true) t36)).bind fun t37 =>
 (zaa [(0, t37)] (some (0, false)) (M.lift (Ax.faddr 1 t5))).bind fun t39 =>
 (zaa [(0, t37)] (some (0, false)) (zab none t39)).bind fun t40 =>
 (zaa [(0, t37)] (some (0, false)) (M.lift (Ax.bin .gtr t40 (V.int .i64 7)))).bind fun t41 =>
 (M.lift (Ax.pick t37 (V.bool true) t41)).bind fun t42 =>
 M.ite t42
 (M.pure (.ret [(V.bool false)]))
 ((zab (some 5) t5).bind fun t43 =>
 (zam 5 t3 t43).bind fun _ =>
 M.pure (.nrm []))) fun _ =>
 (M.lift (Ax.bin .add (L.getD 0 .undef) (V.int .i64 1))).bind fun t44 =>
 M.pure (.nrm [t44]))
 (M.pure (.ex 0 []))
noncomputable def zeS (G : Sem') (t0 : V) : M Res :=
 (mbox zag t0).bind fun t1 =>
 (M.lift (Ax.build [(V.int .i64 0), (V.int .i64 0), V.nils, V.nils, V.nils] [])).bind fun t8 =>
 (mbox zah (V.agg [(V.int .i64 0), (V.int .i64 0), V.nils, V.nils, V.nils])).bind fun t3 =>
 (zam 5 t3 t8).bind fun _ =>
 (M.lift (Ax.faddr 2 t1)).bind fun t9 =>
 (zab none t9).bind fun t10 =>
 (M.lift (vlen t10)).bind fun t11 =>
 M.blk 0 (
 M.iter (zc5 G t11 t10 t3) [(V.int .i64 0)]) fun _ =>
 (M.lift (Ax.faddr 2 t1)).bind fun t45 =>
 (zab none t45).bind fun t46 =>
 (M.lift (vlen t46)).bind fun t47 =>
 (M.lift (Ax.bin .geq t47 (V.int .i64 1))).bind fun t48 =>
 (zaa [(0, t48)] (some (0, true)) (M.lift (Ax.faddr 2 t1))).bind fun t50 =>
 (zaa [(0, t48)] (some (0, true)) (zab none t50)).bind fun t51 =>
 (zaa [(0, t48)] (some (0, true)) (M.lift (vlen t51))).bind fun t52 =>
 (zaa [(0, t48)] (some (0, true)) (M.lift (Ax.bin .leq t52 (V.int .i64 64)))).bind fun t53 =>
 (M.lift (Ax.pick t48 t53 (V.bool false))).bind fun t54 =>
 M.pure (.ret [t54])
theorem zfJ {t0 : V} : OkT zcE [t0] (zeS (sem T) t0) := okT (by kernel_rfl) (by kernel_rfl) (by kernel_rfl)
noncomputable def zfl (G : Sem') (t0 t1 : V) : M Res :=
 (mbox zah t0).bind fun t2 =>
 (mbox zah t1).bind fun t3 =>
 M.blk 0 (
 (M.lift (Ax.faddr 0 t3)).bind fun t7 =>
 (zab none t7).bind fun t8 =>
 (M.lift (Ax.faddr 0 t2)).bind fun t9 =>
 (zab none t9).bind fun t10 =>
 (M.lift (Ax.bin .eql t8 t10)).bind fun t11 =>
 (zaa [(0, t11)] (some (0, true)) (M.lift (Ax.faddr 1 t3))).bind fun t13 =>
 (zaa [(0, t11)] (some (0, true)) (zab none t13)).bind fun t14 =>
 (zaa [(0, t11)] (some (0, true)) (M.lift (Ax.faddr 1 t2))).bind fun t15 =>
 (zaa [(0, t11)] (some (0, true)) (zab none t15)).bind fun t16 =>
 (zaa [(0, t11)] (some (0, true)) (M.lift (Ax.bin .eql t14 t16))).bind fun t17 =>
 (M.lift (Ax.pick t11 t17 (V.bool false))).bind fun t18 =>
 M.ite t18
 (M.pure (.ret [(V.int .i64 0), (V.bool true)]))
 ((M.lift (Ax.faddr 0 t3)).bind fun t20 =>
 (zab none t20).bind fun t21 =>
 (M.lift (Ax.faddr 0 t2)).bind fun t22 =>
 (zab none t22).bind fun t23 =>
 (M.lift (Ax.bin .eql t21 t23)).bind fun t24 =>
 (zaa [(0, t24)] (some (0, true)) (M.lift (Ax.faddr 1 t3))).bind fun t26 =>
 (zaa [(0, t24)] (some (0, true)) (zab none t26)).bind fun t27 =>
 (zaa [(0, t24)] (some (0, true)) (M.lift (Ax.faddr 1 t2))).bind fun t28 =>
 (zaa [(0, t24)] (some (0, true)) (zab none t28)).bind fun t29 =>
 (zaa [(0, t24)] (some (0, true)) (M.lift (Ax.bin .add t29 (V.int .i64 1)))).bind fun t30 =>
 (zaa [(0, t24)] (some (0, true)) (M.lift (Ax.bin .eql t27 t30))).bind fun t31 =>
 (M.lift (Ax.pick t24 t31 (V.bool false))).bind fun t32 =>
 M.ite t32
 (M.pure (.ret [(V.int .i64 1), (V.bool true)]))
 ((M.lift (Ax.faddr 0 t3)).bind fun t34 =>
 (zab none t34).bind fun t35 =>
 (M.lift (Ax.faddr 0 t2)).bind fun t36 =>
 (zab none t36).bind fun t37 =>
 (M.lift (Ax.bin .add t37 (V.int .i64 1))).bind fun t38 =>
 (M.lift (Ax.bin .eql t35 t38)).bind fun t39 =>
 (zaa [(0, t39)] (some (0, true)) (M.lift (Ax.faddr 1 t3))).bind fun t41 =>
 (zaa [(0, t39)] (some (0, true)) (zab none t41)).bind fun t42 =>
 (zaa [(0, t39)] (some (0, true)) (M.lift (Ax.bin .eql t42 (V.int .i64 0)))).bind fun t43 =>
 (M.lift (Ax.pick t39 t43 (V.bool false))).bind fun t44 =>
 M.ite t44
 (M.pure (.ret [(V.int .i64 2), (V.bool true)]))
 (M.pure (.nrm []))))) fun _ =>
 M.pure (.ret [(V.int .i64 0), (V.bool false)])
theorem zf9 {t0 t1 : V} : OkT zda [t0, t1] (zfl (sem T) t0 t1) := okT (by kernel_rfl) (by kernel_rfl) (by kernel_rfl)
noncomputable def zcS (G : Sem') (t8 t7 t2 : V) (L : List V) : M Res :=
 (M.lift (Ax.bin .lss (L.getD 1 .undef) t8)).bind fun t10 =>
 M.ite t10
 (M.blk 1 (
 (M.lift (Ax.iaddr none 5 t7 (L.getD 1 .undef))).bind fun t11 =>
 (zab (some 5) t11).bind fun t12 =>
 (mbox zah (V.agg [(V.int .i64 0), (V.int .i64 0), V.nils, V.nils, V.nils])).bind fun t5 =>
 (zam 5 t5 t12).bind fun _ =>
 (M.lift (Ax.faddr 0 t5)).bind fun t14 =>
 (zab none t14).bind fun t15 =>
 (M.lift (Ax.bin .add t15 (V.int .i64 1))).bind fun t16 =>
 (M.lift (Ax.minmax true (L.getD 0 .undef) [t16])).bind fun t17 =>
 M.pure (.nrm [t17])) fun L0 =>
 (M.lift (Ax.bin .add (L.getD 1 .undef) (V.int .i64 1))).bind fun t18 =>
 M.pure (.nrm [(L0.getD 0 .undef), t18]))
 (M.pure (.ex 0 [(L.getD 0 .undef)]))
noncomputable def zeu (G : Sem') (t0 : V) : M Res :=
 (mbox zag t0).bind fun t1 =>
 (M.lift (Ax.faddr 2 t1)).bind fun t6 =>
 (zab none t6).bind fun t7 =>
 (M.lift (vlen t7)).bind fun t8 =>
 M.blk 0 (
 M.iter (zcS G t8 t7 (V.int .i64 0)) [(V.int .i64 0), (V.int .i64 0)]) fun L1 =>
 M.pure (.ret [(L1.getD 0 .undef)])
theorem zfw {t0 : V} : OkT zct [t0] (zeu (sem T) t0) := okT (by kernel_rfl) (by kernel_rfl) (by kernel_rfl)
noncomputable def zeV (G : Sem') (t0 t1 : V) : M Res :=
 (mbox zah t0).bind fun t2 =>
 (zab (some 6) t1).bind fun t4 =>
 (zab (some 5) t2).bind fun t5 =>
 (G zbn [t4, t5]).bind fun t6 =>
 (M.lift (Ax.un .not t6)).bind fun t7 =>
 M.pure (.ret [t7])
theorem zfM {t0 t1 : V} : OkT zb3 [t0, t1] (zeV (sem T) t0 t1) := okT (by kernel_rfl) (by kernel_rfl) (by kernel_rfl)
noncomputable def zcT (G : Sem') (t0 t1 : V) : M Res :=
 (mbox zag t0).bind fun t2 =>
 (mbox zah t1).bind fun t3 =>
 (M.lift (Ax.faddr 2 t3)).bind fun t5 =>
 (zab none t5).bind fun t6 =>
 (M.lift (Ax.faddr 1 t2)).bind fun t7 =>
 (zab none t7).bind fun t8 =>
 (G zaV [t6, t8, (V.int .i64 0), (V.int .i64 3)]).bind fun t9 =>
 (zaa [(0, t9)] (some (0, true)) (M.lift (Ax.faddr 3 t3))).bind fun t11 =>
 (zaa [(0, t9)] (some (0, true)) (zab none t11)).bind fun t12 =>
 (zaa [(0, t9)] (some (0, true)) (G zck [t12, (V.int .i64 8), (V.int .i64 16)])).bind fun t13 =>
 (M.lift (Ax.pick t9 t13 (V.bool false))).bind fun t14 =>
 (zaa [(0, t14)] (some (0, true)) (M.lift (Ax.faddr 4 t3))).bind fun t16 =>
 (zaa [(0, t14)] (some (0, true)) (zab none t16)).bind fun t17 =>
 (zaa [(0, t14)] (some (0, true)) (M.lift (Ax.faddr 3 t2))).bind fun t18 =>
 (zaa [(0, t14)] (some (0, true)) (zab none t18)).bind fun t19 =>
 (zaa [(0, t14)] (some (0, true)) (G zaV [t17, t19, (V.int .i64 0), (V.int .i64 15)])).bind fun t20 =>
 (M.lift (Ax.pick t14 t20 (V.bool false))).bind fun t21 =>
 M.pure (.ret [t21])
theorem zdZ {t0 t1 : V} : OkT zbn [t0, t1] (zcT (sem T) t0 t1) := okT (by kernel_rfl) (by kernel_rfl) (by kernel_rfl)
noncomputable def ze7 (G : Sem') (t0 t1 t2 : V) : M Res :=
 (M.lift (vlen t0)).bind fun t8 =>
 (M.lift (Ax.bin .leq t8 t1)).bind fun t10 =>
 (zaa [(0, t10)] (some (0, true)) (M.pure t0)).bind fun t12 =>
 (zaa [(0, t10)] (some (0, true)) (M.pure t0)).bind fun t13 =>
 (zaa [(0, t10)] (some (0, true)) (M.lift (vlen t13))).bind fun t14 =>
 (zaa [(0, t10)] (some (0, true)) (M.pure t2)).bind fun t15 =>
 (zaa [(0, t10)] (some (0, true)) (G zaV [t12, t14, (V.int .i64 1), t15])).bind fun t16 =>
 (M.lift (Ax.pick t10 t16 (V.bool false))).bind fun t17 =>
 M.pure (.ret [t17])
theorem zfW {t0 t1 t2 : V} : OkT zck [t0, t1, t2] (ze7 (sem T) t0 t1 t2) := okT (by kernel_rfl) (by kernel_rfl) (by kernel_rfl)
noncomputable def zaT (G : Sem') (t0 t1 : V) : M Res :=
 (G zav [t0, t1]).bind fun t7 =>
 (M.lift (Ax.bin .geq t7 (V.int .i64 0))).bind fun t8 =>
 M.pure (.ret [t8])
theorem zbv {t0 t1 : V} : OkT zap [t0, t1] (zaT (sem T) t0 t1) := okT (by kernel_rfl) (by kernel_rfl) (by kernel_rfl)
noncomputable def zaF (G : Sem') (t7 t1 t0 : V) (L : List V) : M Res :=
 (M.lift (Ax.bin .lss (L.getD 0 .undef) t7)).bind fun t9 =>
 M.ite t9
 (M.blk 1 (
 (M.lift (Ax.iaddr none 5 t0 (L.getD 0 .undef))).bind fun t14 =>
 (zab (some 5) t14).bind fun t15 =>
 (callv G t1 [t15]).bind fun t16 =>
 M.ite t16
 (M.pure (.ret [(L.getD 0 .undef)]))
 (M.pure (.nrm []))) fun _ =>
 (M.lift (Ax.bin .add (L.getD 0 .undef) (V.int .i64 1))).bind fun t18 =>
 M.pure (.nrm [t18]))
 (M.pure (.ex 0 []))
noncomputable def zaX (G : Sem') (t0 t1 : V) : M Res :=
 (M.lift (vlen t0)).bind fun t7 =>
 M.blk 0 (
 M.iter (zaF G t7 t1 t0) [(V.int .i64 0)]) fun _ =>
 M.pure (.ret [(V.int .i64 (-1))])
theorem zbF {t0 t1 : V} : OkT zav [t0, t1] (zaX (sem T) t0 t1) := okT (by kernel_rfl) (by kernel_rfl) (by kernel_rfl)
noncomputable def zd3 (G : Sem') (t0 t1 : V) : M Res :=
 (mbox zag t0).bind fun t2 =>
 (mbox zah (V.agg [(V.int .i64 0), (V.int .i64 0), V.nils, V.nils, V.nils])).bind fun t4 =>
 (M.lift (Ax.bin .lss t1 (V.int .i64 0))).bind fun t8 =>
 (zaa [(0, t8)] (some (0, false)) (M.pure t1)).bind fun t10 =>
 (zaa [(0, t8)] (some (0, false)) (M.lift (Ax.bin .geq t10 (V.int .i64 64)))).bind fun t11 =>
 (M.lift (Ax.pick t8 (V.bool true) t11)).bind fun t12 =>
 M.ite t12
 ((M.lift (Ax.build [(V.int .i64 0), (V.int .i64 0), V.nils, V.nils, V.nils] [])).bind fun t13 =>
 (zam 5 t4 t13).bind fun _ =>
 (zab (some 5) t4).bind fun r0 =>
 M.pure (.ret [r0, (V.bool false)]))
 ((M.lift (Ax.bin .add t1 (V.int .i64 64))).bind fun t15 =>
 (M.lift (Ax.faddr 0 t2)).bind fun t16 =>
 (zab none t16).bind fun t17 =>
 (M.lift (Ax.bin .sub t15 t17)).bind fun t18 =>
 (M.lift (Ax.bin .rem t18 (V.int .i64 64))).bind fun t19 =>
 (M.lift (Ax.faddr 2 t2)).bind fun t21 =>
 (zab none t21).bind fun t22 =>
 (M.lift (vlen t22)).bind fun t23 =>
 (M.lift (Ax.bin .geq t19 t23)).bind fun t24 =>
 M.ite t24
 ((M.lift (Ax.build [(V.int .i64 0), (V.int .i64 0), V.nils, V.nils, V.nils] [])).bind fun t25 =>
 (zam 5 t4 t25).bind fun _ =>
 (zab (some 5) t4).bind fun r0 =>
 M.pure (.ret [r0, (V.bool false)]))
 ((M.lift (Ax.faddr 2 t2)).bind fun t26 =>
 (zab none t26).bind fun t27 =>
 (M.lift (Ax.iaddr none 5 t27 t19)).bind fun t29 =>
 (zab (some 5) t29).bind fun t30 =>
 (G zcF [t30]).bind fun t31 =>
 (zam 5 t4 t31).bind fun _ =>
 (zab (some 5) t4).bind fun r0 =>
 M.pure (.ret [r0, (V.bool true)])))
theorem zfh {t0 t1 : V} : OkT zca [t0, t1] (zd3 (sem T) t0 t1) := okT (by kernel_rfl) (by kernel_rfl) (by kernel_rfl)
noncomputable def zeT (G : Sem') (t0 : V) : M Res :=
 (mbox zah t0).bind fun t1 =>
 (mbox zah (V.agg [(V.int .i64 0), (V.int .i64 0), V.nils, V.nils, V.nils])).bind fun t2 =>
 (M.lift (Ax.faddr 2 t1)).bind fun t3 =>
 (zab none t3).bind fun t4 =>
 (M.lift (Ax.faddr 3 t1)).bind fun t6 =>
 (zab none t6).bind fun t7 =>
 (M.lift (Ax.faddr 4 t1)).bind fun t9 =>
 (zab none t9).bind fun t10 =>
 M.getH.bind fun h0 =>
 (G za2 [t4]).bind fun t5 =>
 M.getH.bind fun h0' =>
 (M.unch t9 h0 h0').bind fun _ =>
 (M.unch t6 h0 h0').bind fun _ =>
 M.getH.bind fun h1 =>
 (G za2 [t7]).bind fun t8 =>
 M.getH.bind fun h1' =>
 (M.unch t9 h1 h1').bind fun _ =>
 (G za2 [t10]).bind fun t11 =>
 (M.lift (Ax.faddr 2 t1)).bind fun t12 =>
 (zam 1 t12 t5).bind fun _ =>
 (M.lift (Ax.faddr 3 t1)).bind fun t13 =>
 (zam 1 t13 t8).bind fun _ =>
 (M.lift (Ax.faddr 4 t1)).bind fun t14 =>
 (zam 1 t14 t11).bind fun _ =>
 (zab (some 5) t1).bind fun t15 =>
 (zam 5 t2 t15).bind fun _ =>
 (zab (some 5) t2).bind fun r0 =>
 M.pure (.ret [r0])
theorem zfK {t0 : V} : OkT zcF [t0] (zeT (sem T) t0) := okT (by kernel_rfl) (by kernel_rfl) (by kernel_rfl)
noncomputable def zcX (G : Sem') (t0 : V) : M Res :=
 (M.lift (eqr .sl false t0 V.nils)).bind fun t4 =>
 M.ite t4
 (M.pure (.ret [V.nils]))
 ((mslit zcy 0 [(V.int .i64 0)] []).bind fun t5 =>
 (mappend zcy 1 8 t5 t0).bind fun t7 =>
 M.pure (.ret [t7]))
theorem zd8 {t0 : V} : OkT za2 [t0] (zcX (sem T) t0) := okT (by kernel_rfl) (by kernel_rfl) (by kernel_rfl)
noncomputable def zfk (G : Sem') (t0 : V) : M Res :=
 (mbox zag t0).bind fun t1 =>
 (M.lift (Ax.faddr 0 t1)).bind fun t3 =>
 (zab none t3).bind fun t4 =>
 (M.lift (Ax.bin .eql t4 (V.int .i64 0))).bind fun t5 =>
 (zaa [(0, t5)] (some (0, true)) (M.lift (Ax.faddr 1 t1))).bind fun t7 =>
 (zaa [(0, t5)] (some (0, true)) (zab none t7)).bind fun t8 =>
 (zaa [(0, t5)] (some (0, true)) (M.lift (Ax.bin .eql t8 (V.int .i64 0)))).bind fun t9 =>
 (M.lift (Ax.pick t5 t9 (V.bool false))).bind fun t10 =>
 (zaa [(0, t10)] (some (0, true)) (M.lift (Ax.faddr 3 t1))).bind fun t12 =>
 (zaa [(0, t10)] (some (0, true)) (zab none t12)).bind fun t13 =>
 (zaa [(0, t10)] (some (0, true)) (M.lift (Ax.bin .eql t13 (V.int .i64 0)))).bind fun t14 =>
 (M.lift (Ax.pick t10 t14 (V.bool false))).bind fun t15 =>
 (zaa [(0, t15)] (some (0, true)) (M.lift (Ax.faddr 2 t1))).bind fun t17 =>
 (zaa [(0, t15)] (some (0, true)) (zab none t17)).bind fun t18 =>
 (zaa [(0, t15)] (some (0, true)) (M.lift (vlen t18))).bind fun t19 =>
 (zaa [(0, t15)] (some (0, true)) (M.lift (Ax.faddr 4 t1))).bind fun t20 =>
 (zaa [(0, t15)] (some (0, true)) (zab none t20)).bind fun t21 =>
 (zaa [(0, t15)] (some (0, true)) (M.lift (vlen t21))).bind fun t22 =>
 (zaa [(0, t15)] (some (0, true)) (M.lift (Ax.bin .add t19 t22))).bind fun t23 =>
 (zaa [(0, t15)] (some (0, true)) (M.lift (Ax.faddr 5 t1))).bind fun t24 =>
 (zaa [(0, t15)] (some (0, true)) (zab none t24)).bind fun t25 =>
 (zaa [(0, t15)] (some (0, true)) (M.lift (vlen t25))).bind fun t26 =>
 (zaa [(0, t15)] (some (0, true)) (M.lift (Ax.bin .add t23 t26))).bind fun t27 =>
 (zaa [(0, t15)] (some (0, true)) (M.lift (Ax.bin .eql t27 (V.int .i64 0)))).bind fun t28 =>
 (M.lift (Ax.pick t15 t28 (V.bool false))).bind fun t29 =>
 M.pure (.ret [t29])
theorem zf8 {t0 : V} : OkT zc9 [t0] (zfk (sem T) t0) := okT (by kernel_rfl) (by kernel_rfl) (by kernel_rfl)
noncomputable def zbT (G : Sem') (t12 t0 t1 : V) (L : List V) : M Res :=
 (M.lift (Ax.bin .lss (L.getD 0 .undef) t12)).bind fun t14 =>
 M.ite t14
 (M.blk 1 (
 (M.lift (Ax.iaddr none 1 t0 (L.getD 0 .undef))).bind fun t18 =>
 (zab none t18).bind fun t19 =>
 (M.lift (Ax.iaddr none 1 t1 (L.getD 0 .undef))).bind fun t22 =>
 (zab none t22).bind fun t23 =>
 (M.lift (Ax.bin .neq t19 t23)).bind fun t24 =>
 M.ite t24
 (M.pure (.ret [(V.bool false)]))
 (M.pure (.nrm []))) fun _ =>
 (M.lift (Ax.bin .add (L.getD 0 .undef) (V.int .i64 1))).bind fun t25 =>
 M.pure (.nrm [t25]))
 (M.pure (.ex 0 []))
noncomputable def zcW (G : Sem') (t0 t1 : V) : M Res :=
 (M.lift (vlen t0)).bind fun t7 =>
 (M.lift (vlen t1)).bind fun t9 =>
 (M.lift (Ax.bin .neq t7 t9)).bind fun t10 =>
 M.ite t10
 (M.pure (.ret [(V.bool false)]))
 ((M.lift (vlen t0)).bind fun t12 =>
 M.blk 0 (
 M.iter (zbT G t12 t0 t1) [(V.int .i64 0)]) fun _ =>
 M.pure (.ret [(V.bool true)]))
theorem zd7 {t0 t1 : V} : OkT za0 [t0, t1] (zcW (sem T) t0 t1) := okT (by kernel_rfl) (by kernel_rfl) (by kernel_rfl)
noncomputable def zdS (G : Sem') (t0 t1 t2 t3 t4 : V) : M Res :=
 (mbox zai t2).bind fun t7 =>
 (mbox zal t3).bind fun t8 =>
 (M.lift (Ax.faddr 4 t8)).bind fun t15 =>
 (zab none t15).bind fun t16 =>
 (zaa [(0, t16)] (some (0, true)) (M.lift (Ax.faddr 0 t8))).bind fun t18 =>
 (zaa [(0, t16)] (some (0, true)) (zab none t18)).bind fun t19 =>
 (M.lift (Ax.pick t16 t19 (V.bool false))).bind fun t20 =>
 (M.lift (Ax.nilck t0)).bind fun t23 =>
 (M.lift (Ax.faddr 3 t23)).bind fun t24 =>
 (zab (some 3) t24).bind fun t25 =>
 (G ze0 [t25, t1, t20]).bind fun t28 =>
 (M.lift (Ax.ext 0 t28)).bind fun t29 =>
 (M.lift (Ax.ext 1 t28)).bind fun t30 =>
 (M.lift (Ax.ext 2 t28)).bind fun t31 =>
 (mbox zbD (V.agg [(V.bool false), (V.int .i64 0), (V.int .i64 0)])).bind fun t12 =>
 (zam 3 t12 t29).bind fun _ =>
 (zab (some 3) t12).bind fun t33 =>
 (M.lift (Ax.nilck t0)).bind fun t34 =>
 (M.lift (Ax.faddr 3 t34)).bind fun t35 =>
 (zam 3 t35 t33).bind fun _ =>
 (zaa [(0, t30)] (some (0, true)) (M.pure t20)).bind fun t38 =>
 (M.lift (Ax.pick t30 t38 (V.bool false))).bind fun t39 =>
 M.join (M.ite t39
 ((G zb8 [t0]).bind fun t41 =>
 M.pure (.nrm []))
 (M.pure (.nrm []))) fun _ =>
 M.join (M.ite t31
 ((M.lift (Ax.nilck t0)).bind fun t45 =>
 (M.lift (Ax.faddr 6 t45)).bind fun t46 =>
 (zab (some 7) t46).bind fun t47 =>
 (M.lift (Ax.faddr 3 t7)).bind fun t48 =>
 (zab none t48).bind fun t49 =>
 (M.lift (Ax.faddr 3 t8)).bind fun t50 =>
 (zab none t50).bind fun t51 =>
 (G zdv [t47, t49, t51, t4]).bind fun t53 =>
 (M.lift (Ax.nilck t0)).bind fun t54 =>
 (M.lift (Ax.faddr 6 t54)).bind fun t55 =>
 (zam 7 t55 t53).bind fun _ =>
 M.pure (.nrm []))
 (M.pure (.nrm []))) fun _ =>
 M.pure (.ret [t30])
theorem zfb {t0 t1 t2 t3 t4 : V} : OkT zb1 [t0, t1, t2, t3, t4] (zdS (sem T) t0 t1 t2 t3 t4) := okT (by kernel_rfl) (by kernel_rfl) (by kernel_rfl)
noncomputable def zgL (G : Sem') (t0 t1 t2 : V) : M Res :=
 (mbox zbD t0).bind fun t3 =>
 (mbox zbD (V.agg [(V.bool false), (V.int .i64 0), (V.int .i64 0)])).bind fun t6 =>
 M.blk 0 (
 (zab (some 3) t3).bind fun t10 =>
 (G zdQ [t10]).bind fun t11 =>
 (M.lift (Ax.un .not t11)).bind fun t12 =>
 M.ite t12
 ((zab (some 3) t3).bind fun t13 =>
 (zam 3 t6 t13).bind fun _ =>
 (zab (some 3) t6).bind fun r0 =>
 M.pure (.ret [r0, (V.bool false), (V.bool false)]))
 ((M.lift (Ax.faddr 2 t3)).bind fun t16 =>
 (zab none t16).bind fun t17 =>
 (M.lift (Ax.bin .eql t1 t17)).bind fun t18 =>
 (zaa [(0, t18)] (some (0, true)) (M.pure t2)).bind fun t20 =>
 (M.lift (Ax.pick t18 t20 (V.bool false))).bind fun t21 =>
 (zaa [(0, t21)] (some (0, true)) (zab (some 3) t3)).bind fun t23 =>
 (zaa [(0, t21)] (some (0, true)) (M.pure t1)).bind fun t24 =>
 (zaa [(0, t21)] (some (0, true)) (G zbS [t23, t24])).bind fun t25 =>
 (zaa [(0, t21)] (some (0, true)) (M.lift (Ax.un .not t25))).bind fun t26 =>
 (M.lift (Ax.pick t21 t26 (V.bool false))).bind fun t27 =>
 M.ite t27
 ((M.lift (Ax.faddr 0 t3)).bind fun t29 =>
 (zam 1 t29 (V.bool true)).bind fun _ =>
 (M.lift (Ax.faddr 1 t3)).bind fun t30 =>
 (zam 1 t30 t1).bind fun _ =>
 (zab (some 3) t3).bind fun t31 =>
 (zam 3 t6 t31).bind fun _ =>
 (zab (some 3) t6).bind fun r0 =>
 M.pure (.ret [r0, (V.bool true), (V.bool true)]))
 (M.pure (.nrm [])))) fun _ =>
 (zab (some 3) t3).bind fun t32 =>
 (zab (some 3) t3).bind fun t33 =>
 M.getH.bind fun h0 =>
 (G zbS [t33, t1]).bind fun t35 =>
 M.getH.bind fun h0' =>
 (M.unch t3 h0 h0').bind fun _ =>
 (zam 3 t6 t32).bind fun _ =>
 (zab (some 3) t6).bind fun r0 =>
 M.pure (.ret [r0, t35, (V.bool false)])
theorem zhg {t0 t1 t2 : V} : OkT ze0 [t0, t1, t2] (zgL (sem T) t0 t1 t2) := okT (by kernel_rfl) (by kernel_rfl) (by kernel_rfl)
noncomputable def zf3 (G : Sem') (t0 : V) : M Res :=
 (mbox zbD t0).bind fun t1 =>
 (M.lift (Ax.faddr 1 t1)).bind fun t3 =>
 (zab none t3).bind fun t4 =>
 (G zcz [t4]).bind fun t5 =>
 (zaa [(0, t5)] (some (0, true)) (M.lift (Ax.faddr 2 t1))).bind fun t7 =>
 (zaa [(0, t5)] (some (0, true)) (zab none t7)).bind fun t8 =>
 (zaa [(0, t5)] (some (0, true)) (G zcz [t8])).bind fun t9 =>
 (M.lift (Ax.pick t5 t9 (V.bool false))).bind fun t10 =>
 (zaa [(0, t10)] (some (0, true)) (M.lift (Ax.faddr 0 t1))).bind fun t12 =>
 (zaa [(0, t10)] (some (0, true)) (zab none t12)).bind fun t13 =>
 (zaa [(0, t10)] (some (0, true)) (M.pure t13)).bind fun t14 =>
 (zaa [(0, t14)] (some (0, false)) (M.lift (Ax.faddr 1 t1))).bind fun t15 =>
 (zaa [(0, t14)] (some (0, false)) (zab none t15)).bind fun t16 =>
 (zaa [(0, t14)] (some (0, false)) (M.lift (Ax.bin .eql t16 (V.int .i64 0)))).bind fun t17 =>
 (zaa [(0, t10)] (some (0, true)) (M.lift (Ax.pick t14 (V.bool true) t17))).bind fun t18 =>
 (M.lift (Ax.pick t10 t18 (V.bool false))).bind fun t19 =>
 M.pure (.ret [t19])
theorem zgD {t0 : V} : OkT zdQ [t0] (zf3 (sem T) t0) := okT (by kernel_rfl) (by kernel_rfl) (by kernel_rfl)
noncomputable def zfo (G : Sem') (t0 : V) : M Res :=
 (M.lift (Ax.bin .geq t0 (V.int .i64 0))).bind fun t4 =>
 (zaa [(0, t4)] (some (0, true)) (M.pure t0)).bind fun t6 =>
 (zaa [(0, t4)] (some (0, true)) (M.lift (Ax.bin .lss t6 (V.int .i64 3)))).bind fun t7 =>
 (M.lift (Ax.pick t4 t7 (V.bool false))).bind fun t8 =>
 M.pure (.ret [t8])
theorem zgc {t0 : V} : OkT zcz [t0] (zfo (sem T) t0) := okT (by kernel_rfl) (by kernel_rfl) (by kernel_rfl)
noncomputable def zev (G : Sem') (t0 t1 : V) : M Res :=
 (mbox zbD t0).bind fun t2 =>
 (M.lift (Ax.faddr 0 t2)).bind fun t5 =>
 (zab none t5).bind fun t6 =>
 (zaa [(0, t6)] (some (0, true)) (M.lift (Ax.faddr 1 t2))).bind fun t8 =>
 (zaa [(0, t6)] (some (0, true)) (zab none t8)).bind fun t9 =>
 (zaa [(0, t6)] (some (0, true)) (M.pure t1)).bind fun t10 =>
 (zaa [(0, t6)] (some (0, true)) (M.lift (Ax.bin .eql t9 t10))).bind fun t11 =>
 (M.lift (Ax.pick t6 t11 (V.bool false))).bind fun t12 =>
 M.pure (.ret [t12])
theorem zfx {t0 t1 : V} : OkT zbS [t0, t1] (zev (sem T) t0 t1) := okT (by kernel_rfl) (by kernel_rfl) (by kernel_rfl)
noncomputable def zd0 (G : Sem') (t0 : V) : M Res :=
 (M.lift (Ax.nilck t0)).bind fun t4 =>
 (M.lift (Ax.faddr 13 t4)).bind fun t5 =>
 (zam 1 t5 V.nils).bind fun _ =>
 (M.lift (Ax.nilck t0)).bind fun t6 =>
 (M.lift (Ax.faddr 15 t6)).bind fun t7 =>
 (zam 1 t7 (V.bool false)).bind fun _ =>
 M.pure (.ret [])
theorem zfe {t0 : V} : OkT zb8 [t0] (zd0 (sem T) t0) := okT (by kernel_rfl) (by kernel_rfl) (by kernel_rfl)
noncomputable def zfB (G : Sem') (t0 t1 t2 t3 : V) : M Res :=
 (mbox zcg t0).bind fun t4 =>
 (mbox zcg (V.agg [(V.bool false), (V.int .u16 0), (V.int .u32 0), (V.int .u32 0), (V.int .u16 0), (V.int .u16 0), (V.int .i64 0)])).bind fun t8 =>
 (M.lift (Ax.faddr 3 t4)).bind fun t9 =>
 (zam 1 t9 (V.int .u32 0)).bind fun _ =>
 (M.lift (Ax.faddr 5 t4)).bind fun t10 =>
 (zam 1 t10 (V.int .u16 0)).bind fun _ =>
 (M.lift (Ax.faddr 0 t4)).bind fun t11 =>
 (zab none t11).bind fun t12 =>
 M.join (M.ite t12
 ((M.lift (Ax.faddr 2 t4)).bind fun t13 =>
 (zab none t13).bind fun t14 =>
 (M.lift (Ax.faddr 6 t4)).bind fun t15 =>
 (zab none t15).bind fun t16 =>
 M.getH.bind fun h0 =>
 (G zdu [t16, t3]).bind fun t18 =>
 M.getH.bind fun h0' =>
 (M.unch t13 h0 h0').bind fun _ =>
 (M.lift (Ax.bin .mul (V.int .u32 90) t18)).bind fun t19 =>
 (M.lift (Ax.bin .add t14 t19)).bind fun t20 =>
 (M.lift (Ax.bin .sub t20 t1)).bind fun t22 =>
 (M.lift (Ax.faddr 3 t4)).bind fun t23 =>
 (zam 1 t23 t22).bind fun _ =>
 (M.lift (Ax.faddr 4 t4)).bind fun t24 =>
 (zab none t24).bind fun t25 =>
 (M.lift (Ax.bin .add t25 (V.int .u16 1))).bind fun t26 =>
 (M.lift (Ax.bin .sub t26 t2)).bind fun t28 =>
 (M.lift (Ax.faddr 5 t4)).bind fun t29 =>
 (zam 1 t29 t28).bind fun _ =>
 M.pure (.nrm []))
 (M.pure (.nrm []))) fun _ =>
 (zab (some 7) t4).bind fun t30 =>
 (zam 7 t8 t30).bind fun _ =>
 (zab (some 7) t8).bind fun r0 =>
 M.pure (.ret [r0])
theorem zgo {t0 t1 t2 t3 : V} : OkT zdv [t0, t1, t2, t3] (zfB (sem T) t0 t1 t2 t3) := okT (by kernel_rfl) (by kernel_rfl) (by kernel_rfl)
noncomputable def zfA (G : Sem') (t0 t1 : V) : M Res :=
 (M.lift (Ax.bin .leq t1 t0)).bind fun t7 =>
 M.ite t7
 (M.pure (.ret [(V.int .u32 1)]))
 ((M.lift (Ax.cint .u64 t1)).bind fun t9 =>
 (M.lift (Ax.cint .u64 t0)).bind fun t11 =>
 (M.lift (Ax.bin .sub t9 t11)).bind fun t12 =>
 (M.lift (Ax.minmax false t12 [(V.int .u64 100000)])).bind fun t13 =>
 (M.lift (Ax.cint .u32 t13)).bind fun t14 =>
 M.pure (.ret [t14]))
theorem zgn {t0 t1 : V} : OkT zdu [t0, t1] (zfA (sem T) t0 t1) := okT (by kernel_rfl) (by kernel_rfl) (by kernel_rfl)
noncomputable def zeQ (G : Sem') (t0 t1 t2 t3 : V) : M Res :=
 (mbox zal t1).bind fun t5 =>
 (mbox zag t2).bind fun t6 =>
 (M.lift (Ax.nilck t0)).bind fun t12 =>
 (M.lift (Ax.faddr 15 t12)).bind fun t13 =>
 (zab none t13).bind fun t14 =>
 M.ite t14
 (M.pure (.ret [(V.int .i64 2)]))
 ((zab (some 6) t6).bind fun t16 =>
 (M.lift (Ax.nilck t0)).bind fun t19 =>
 (M.lift (Ax.faddr 1 t19)).bind fun t20 =>
 (zab none t20).bind fun t21 =>
 (M.lift (Ax.nilck t0)).bind fun t23 =>
 (M.lift (Ax.faddr 2 t23)).bind fun t24 =>
 (zab none t24).bind fun t25 =>
 (G zdO [t16, t3, t21, t25]).bind fun t26 =>
 (M.lift (Ax.ext 0 t26)).bind fun t27 =>
 (M.lift (Ax.ext 1 t26)).bind fun t28 =>
 M.blk 0 (
 (M.lift (Ax.un .not t28)).bind fun t31 =>
 M.ite t31
 (M.pure (.ret [(V.int .i64 3)]))
 ((zab (some 19) t5).bind fun t33 =>
 (G zeZ [t33, t27]).bind fun t35 =>
 (M.lift (Ax.un .not t35)).bind fun t36 =>
 M.ite t36
 (M.pure (.ret [(V.int .i64 4)]))
 ((M.lift (Ax.faddr 0 t5)).bind fun t38 =>
 (zab none t38).bind fun t39 =>
 (zaa [(0, t39)] (some (0, true)) (M.pure t0)).bind fun t41 =>
 (zaa [(0, t39)] (some (0, true)) (M.lift (Ax.nilck t41))).bind fun t42 =>
 (zaa [(0, t39)] (some (0, true)) (M.lift (Ax.faddr 13 t42))).bind fun t43 =>
 (zaa [(0, t39)] (some (0, true)) (zab none t43)).bind fun t44 =>
 (zaa [(0, t39)] (some (0, true)) (M.lift (Ax.faddr 3 t5))).bind fun t45 =>
 (zaa [(0, t39)] (some (0, true)) (zab none t45)).bind fun t46 =>
 (zaa [(0, t39)] (some (0, true)) (M.lift (Ax.faddr 17 t5))).bind fun t47 =>
 (zaa [(0, t39)] (some (0, true)) (zab none t47)).bind fun t48 =>
 (zaa [(0, t39)] (some (0, true)) (G zej [t44, t46, t48])).bind fun t49 =>
 (zaa [(0, t39)] (some (0, true)) (M.lift (Ax.un .not t49))).bind fun t50 =>
 (M.lift (Ax.pick t39 t50 (V.bool false))).bind fun t51 =>
 M.ite t51
 ((M.lift (Ax.nilck t0)).bind fun t53 =>
 (M.lift (Ax.faddr 15 t53)).bind fun t54 =>
 (zam 1 t54 (V.bool true)).bind fun _ =>
 M.pure (.ret [(V.int .i64 5)]))
 ((M.lift (Ax.faddr 0 t5)).bind fun t56 =>
 (zab none t56).bind fun t57 =>
 (M.lift (Ax.un .not t57)).bind fun t58 =>
 (zaa [(0, t58)] (some (0, true)) (M.pure t0)).bind fun t60 =>
 (zaa [(0, t58)] (some (0, true)) (M.lift (Ax.nilck t60))).bind fun t61 =>
 (zaa [(0, t58)] (some (0, true)) (M.lift (Ax.faddr 13 t61))).bind fun t62 =>
 (zaa [(0, t58)] (some (0, true)) (zab none t62)).bind fun t63 =>
 (zaa [(0, t58)] (some (0, true)) (M.lift (Ax.faddr 3 t5))).bind fun t64 =>
 (zaa [(0, t58)] (some (0, true)) (zab none t64)).bind fun t65 =>
 (zaa [(0, t58)] (some (0, true)) (G zdE [t63, t65])).bind fun t66 =>
 (zaa [(0, t58)] (some (0, true)) (M.lift (Ax.un .not t66))).bind fun t67 =>
 (M.lift (Ax.pick t58 t67 (V.bool false))).bind fun t68 =>
 M.ite t68
 (M.pure (.ret [(V.int .i64 6)]))
 (M.pure (.nrm [])))))) fun _ =>
 M.pure (.ret [(V.int .i64 0)]))
theorem zfH {t0 t1 t2 t3 : V} : OkT zcD [t0, t1, t2, t3] (zeQ (sem T) t0 t1 t2 t3) := okT (by kernel_rfl) (by kernel_rfl) (by kernel_rfl)
noncomputable def zdy (G : Sem') (t22 t4 t1 t2 t3 t8 t9 : V) (L : List V) : M Res :=
 (M.lift (Ax.bin .lss (L.getD 4 .undef) t22)).bind fun t24 =>
 M.ite t24
 (M.blk 1 (
 (zab (some 6) t4).bind fun t27 =>
 (G zcG [t27, (L.getD 4 .undef)]).bind fun t29 =>
 (M.lift (Ax.ext 0 t29)).bind fun t30 =>
 (M.lift (Ax.ext 1 t29)).bind fun t31 =>
 (M.lift (Ax.ext 2 t29)).bind fun t32 =>
 (M.lift (Ax.un .not t32)).bind fun t34 =>
 (zaa [(0, t34)] (some (0, false)) (M.pure t1)).bind fun t36 =>
 (zaa [(0, t34)] (some (0, false)) (M.pure (L.getD 4 .undef))).bind fun t37 =>
 (zaa [(0, t34)] (some (0, false)) (M.lift (Ax.bin .shr t36 t37))).bind fun t38 =>
 (zaa [(0, t34)] (some (0, false)) (M.lift (Ax.bin .and t38 (V.int .u32 1)))).bind fun t39 =>
 (zaa [(0, t34)] (some (0, false)) (M.lift (Ax.bin .eql t39 (V.int .u32 0)))).bind fun t40 =>
 (M.lift (Ax.pick t34 (V.bool true) t40)).bind fun t41 =>
 (zaa [(0, t41)] (some (0, false)) (M.pure t30)).bind fun t43 =>
 (zaa [(0, t41)] (some (0, false)) (M.pure t2)).bind fun t44 =>
 (zaa [(0, t41)] (some (0, false)) (M.lift (Ax.bin .gtr t43 t44))).bind fun t45 =>
 (M.lift (Ax.pick t41 (V.bool true) t45)).bind fun t46 =>
 (zaa [(0, t46)] (some (0, false)) (M.pure t31)).bind fun t48 =>
 (zaa [(0, t46)] (some (0, false)) (M.pure t3)).bind fun t49 =>
 (zaa [(0, t46)] (some (0, false)) (M.lift (Ax.bin .gtr t48 t49))).bind fun t50 =>
 (M.lift (Ax.pick t46 (V.bool true) t50)).bind fun t51 =>
 M.ite t51
 (M.pure (.ex 1 [(L.getD 0 .undef), (L.getD 1 .undef), (L.getD 2 .undef), (L.getD 3 .undef)]))
 ((M.lift (Ax.un .not (L.getD 3 .undef))).bind fun t53 =>
 (zaa [(0, t53)] (some (0, false)) (M.pure t30)).bind fun t55 =>
 (zaa [(0, t53)] (some (0, false)) (M.pure (L.getD 1 .undef))).bind fun t56 =>
 (zaa [(0, t53)] (some (0, false)) (M.lift (Ax.bin .gtr t55 t56))).bind fun t57 =>
 (M.lift (Ax.pick t53 (V.bool true) t57)).bind fun t58 =>
 (zaa [(0, t58)] (some (0, false)) (M.pure t30)).bind fun t60 =>
 (zaa [(0, t58)] (some (0, false)) (M.pure (L.getD 1 .undef))).bind fun t61 =>
 (zaa [(0, t58)] (some (0, false)) (M.lift (Ax.bin .eql t60 t61))).bind fun t62 =>
 (zaa [(0, t58)] (some (0, false)) (M.pure t62)).bind fun t63 =>
 (zaa [(0, t63)] (some (0, true)) (M.pure t31)).bind fun t64 =>
 (zaa [(0, t63)] (some (0, true)) (M.pure (L.getD 2 .undef))).bind fun t65 =>
 (zaa [(0, t63)] (some (0, true)) (M.lift (Ax.bin .gtr t64 t65))).bind fun t66 =>
 (zaa [(0, t58)] (some (0, false)) (M.lift (Ax.pick t63 t66 (V.bool false)))).bind fun t67 =>
 (M.lift (Ax.pick t58 (V.bool true) t67)).bind fun t68 =>
 M.join (M.ite t68
 (M.pure (.nrm [(L.getD 4 .undef), t30, t31, (V.bool true)]))
 (M.pure (.nrm [(L.getD 0 .undef), (L.getD 1 .undef), (L.getD 2 .undef), (L.getD 3 .undef)]))) fun L0 =>
 M.pure (.nrm [(L0.getD 0 .undef), (L0.getD 1 .undef), (L0.getD 2 .undef), (L0.getD 3 .undef)]))) fun L1 =>
 (M.lift (Ax.bin .add (L.getD 4 .undef) (V.int .i64 1))).bind fun t72 =>
 M.pure (.nrm [(L1.getD 0 .undef), (L1.getD 1 .undef), (L1.getD 2 .undef), (L1.getD 3 .undef), t72]))
 (M.pure (.ex 0 [(L.getD 0 .undef), (L.getD 3 .undef)]))
noncomputable def zf1 (G : Sem') (t0 t1 t2 t3 : V) : M Res :=
 (mbox zag t0).bind fun t4 =>
 (zab (some 6) t4).bind fun t18 =>
 (G zb5 [t18]).bind fun t19 =>
 (M.lift (Ax.un .not t19)).bind fun t20 =>
 M.ite t20
 (M.pure (.ret [(V.int .i64 0), (V.bool false)]))
 ((M.lift (Ax.faddr 1 t4)).bind fun t21 =>
 (zab none t21).bind fun t22 =>
 M.blk 0 (
 M.iter (zdy G t22 t4 t1 t2 t3 (V.int .i64 0) (V.bool false)) [(V.int .i64 0), (V.int .i64 0), (V.int .i64 0), (V.bool false), (V.int .i64 0)]) fun L2 =>
 M.pure (.ret [(L2.getD 0 .undef), (L2.getD 1 .undef)]))
theorem zgA {t0 t1 t2 t3 : V} : OkT zdO [t0, t1, t2, t3] (zf1 (sem T) t0 t1 t2 t3) := okT (by kernel_rfl) (by kernel_rfl) (by kernel_rfl)
noncomputable def zc6 (G : Sem') (t24 t23 t1 : V) (L : List V) : M Res :=
 (M.lift (Ax.bin .lss (L.getD 3 .undef) t24)).bind fun t26 =>
 M.ite t26
 (M.blk 1 (
 (M.lift (Ax.iaddr none 5 t23 (L.getD 3 .undef))).bind fun t27 =>
 (zab (some 5) t27).bind fun t28 =>
 (mbox zah (V.agg [(V.int .i64 0), (V.int .i64 0), V.nils, V.nils, V.nils])).bind fun t8 =>
 (zam 5 t8 t28).bind fun _ =>
 (M.lift (Ax.faddr 2 t8)).bind fun t29 =>
 (zab none t29).bind fun t30 =>
 (M.lift (Ax.iaddr none 1 t30 t1)).bind fun t32 =>
 (zab none t32).bind fun t33 =>
 (M.lift (Ax.bin .neq t33 (V.int .i64 0))).bind fun t34 =>
 M.join (M.ite t34
 ((M.lift (Ax.faddr 0 t8)).bind fun t36 =>
 (zab none t36).bind fun t37 =>
 (M.lift (Ax.minmax true (L.getD 0 .undef) [t37])).bind fun t38 =>
 (M.lift (Ax.faddr 1 t8)).bind fun t40 =>
 (zab none t40).bind fun t41 =>
 (M.lift (Ax.minmax true (L.getD 1 .undef) [t41])).bind fun t42 =>
 M.pure (.nrm [t38, t42, (V.bool true)]))
 (M.pure (.nrm [(L.getD 0 .undef), (L.getD 1 .undef), (L.getD 2 .undef)]))) fun L0 =>
 M.pure (.nrm [(L0.getD 0 .undef), (L0.getD 1 .undef), (L0.getD 2 .undef)])) fun L1 =>
 (M.lift (Ax.bin .add (L.getD 3 .undef) (V.int .i64 1))).bind fun t43 =>
 M.pure (.nrm [(L1.getD 0 .undef), (L1.getD 1 .undef), (L1.getD 2 .undef), t43]))
 (M.pure (.ex 0 [(L.getD 0 .undef), (L.getD 1 .undef), (L.getD 2 .undef)]))
noncomputable def zeU (G : Sem') (t0 t1 : V) : M Res :=
 (mbox zag t0).bind fun t2 =>
 (zab (some 6) t2).bind fun t9 =>
 (G zb5 [t9]).bind fun t10 =>
 (M.lift (Ax.un .not t10)).bind fun t11 =>
 (zaa [(0, t11)] (some (0, false)) (M.pure t1)).bind fun t13 =>
 (zaa [(0, t11)] (some (0, false)) (M.lift (Ax.bin .lss t13 (V.int .i64 0)))).bind fun t14 =>
 (M.lift (Ax.pick t11 (V.bool true) t14)).bind fun t15 =>
 (zaa [(0, t15)] (some (0, false)) (M.pure t1)).bind fun t17 =>
 (zaa [(0, t15)] (some (0, false)) (M.lift (Ax.faddr 1 t2))).bind fun t18 =>
 (zaa [(0, t15)] (some (0, false)) (zab none t18)).bind fun t19 =>
 (zaa [(0, t15)] (some (0, false)) (M.lift (Ax.bin .geq t17 t19))).bind fun t20 =>
 (M.lift (Ax.pick t15 (V.bool true) t20)).bind fun t21 =>
 M.ite t21
 (M.pure (.ret [(V.int .i64 0), (V.int .i64 0), (V.bool false)]))
 ((M.lift (Ax.faddr 2 t2)).bind fun t22 =>
 (zab none t22).bind fun t23 =>
 (M.lift (vlen t23)).bind fun t24 =>
 M.blk 0 (
 M.iter (zc6 G t24 t23 t1) [(V.int .i64 0), (V.int .i64 0), (V.bool false), (V.int .i64 0)]) fun L2 =>
 M.pure (.ret [(L2.getD 0 .undef), (L2.getD 1 .undef), (L2.getD 2 .undef)]))
theorem zfL {t0 t1 : V} : OkT zcG [t0, t1] (zeU (sem T) t0 t1) := okT (by kernel_rfl) (by kernel_rfl) (by kernel_rfl)
noncomputable def zgK (G : Sem') (t0 t1 : V) : M Res :=
 (mbox zal t0).bind fun t2 =>
 (M.lift (Ax.bin .geq t1 (V.int .i64 0))).bind fun t6 =>
 (zaa [(0, t6)] (some (0, true)) (M.pure t1)).bind fun t8 =>
 (zaa [(0, t6)] (some (0, true)) (M.lift (Ax.faddr 16 t2))).bind fun t9 =>
 (zaa [(0, t6)] (some (0, true)) (zab none t9)).bind fun t10 =>
 (zaa [(0, t6)] (some (0, true)) (M.lift (vlen t10))).bind fun t11 =>
 (zaa [(0, t6)] (some (0, true)) (M.lift (Ax.bin .lss t8 t11))).bind fun t12 =>
 (M.lift (Ax.pick t6 t12 (V.bool false))).bind fun t13 =>
 (zaa [(0, t13)] (some (0, true)) (M.lift (Ax.faddr 16 t2))).bind fun t15 =>
 (zaa [(0, t13)] (some (0, true)) (zab none t15)).bind fun t16 =>
 (zaa [(0, t13)] (some (0, true)) (M.pure t1)).bind fun t17 =>
 (zaa [(0, t13)] (some (0, true)) (M.lift (Ax.iaddr none 1 t16 t17))).bind fun t18 =>
 (zaa [(0, t13)] (some (0, true)) (zab none t18)).bind fun t19 =>
 (zaa [(0, t13)] (some (0, true)) (M.lift (Ax.bin .neq t19 (V.int .i64 0)))).bind fun t20 =>
 (M.lift (Ax.pick t13 t20 (V.bool false))).bind fun t21 =>
 M.pure (.ret [t21])
theorem zhf {t0 t1 : V} : OkT zeZ [t0, t1] (zgK (sem T) t0 t1) := okT (by kernel_rfl) (by kernel_rfl) (by kernel_rfl)
noncomputable def zeO (G : Sem') (t10 t9 t0 t1 : V) (L : List V) : M Res :=
 (M.lift (Ax.bin .lss (L.getD 0 .undef) t10)).bind fun t12 =>
 M.ite t12
 (M.blk 1 (
 (M.lift (Ax.iaddr none 1 t9 (L.getD 0 .undef))).bind fun t13 =>
 (zab none t13).bind fun t14 =>
 (M.lift (Ax.bin .lss t14 (V.int .i64 1))).bind fun t16 =>
 (zaa [(0, t16)] (some (0, false)) (M.pure t14)).bind fun t18 =>
 (zaa [(0, t16)] (some (0, false)) (M.lift (Ax.bin .gtr t18 (V.int .i64 4096)))).bind fun t19 =>
 (M.lift (Ax.pick t16 (V.bool true) t19)).bind fun t20 =>
 (zaa [(0, t20)] (some (0, false)) (M.pure t0)).bind fun t22 =>
 (zaa [(0, t20)] (some (0, false)) (M.pure t1)).bind fun t23 =>
 (zaa [(0, t20)] (some (0, false)) (M.pure t14)).bind fun t24 =>
 (zaa [(0, t20)] (some (0, false)) (M.lift (Ax.cint .u16 t24))).bind fun t25 =>
 (zaa [(0, t20)] (some (0, false)) (M.lift (Ax.bin .sub t23 t25))).bind fun t26 =>
 (zaa [(0, t20)] (some (0, false)) (G zdE [t22, t26])).bind fun t27 =>
 (zaa [(0, t20)] (some (0, false)) (M.lift (Ax.un .not t27))).bind fun t28 =>
 (M.lift (Ax.pick t20 (V.bool true) t28)).bind fun t29 =>
 M.ite t29
 (M.pure (.ret [(V.bool false)]))
 (M.pure (.nrm []))) fun _ =>
 (M.lift (Ax.bin .add (L.getD 0 .undef) (V.int .i64 1))).bind fun t30 =>
 M.pure (.nrm [t30]))
 (M.pure (.ex 0 []))
noncomputable def zgj (G : Sem') (t0 t1 t2 : V) : M Res :=
 (M.lift (vlen t2)).bind fun t10 =>
 M.blk 0 (
 M.iter (zeO G t10 t2 t0 t1) [(V.int .i64 0)]) fun _ =>
 M.pure (.ret [(V.bool true)])
theorem zgU {t0 t1 t2 : V} : OkT zej [t0, t1, t2] (zgj (sem T) t0 t1 t2) := okT (by kernel_rfl) (by kernel_rfl) (by kernel_rfl)
noncomputable def zgi (G : Sem') (t0 t1 : V) : M Res :=
 (G zaL [t0, t1]).bind fun t7 =>
 M.pure (.ret [t7])
theorem zgT {t0 t1 : V} : OkT zdE [t0, t1] (zgi (sem T) t0 t1) := okT (by kernel_rfl) (by kernel_rfl) (by kernel_rfl)
noncomputable def zbU (G : Sem') (t0 t1 : V) : M Res :=
 (G za7 [t0, t1]).bind fun t7 =>
 (M.lift (Ax.bin .geq t7 (V.int .i64 0))).bind fun t8 =>
 M.pure (.ret [t8])
theorem zcV {t0 t1 : V} : OkT zaL [t0, t1] (zbU (sem T) t0 t1) := okT (by kernel_rfl) (by kernel_rfl) (by kernel_rfl)
noncomputable def zbl (G : Sem') (t7 t1 t0 : V) (L : List V) : M Res :=
 (M.lift (Ax.bin .lss (L.getD 0 .undef) t7)).bind fun t9 =>
 M.ite t9
 (M.blk 1 (
 (M.lift (Ax.iaddr none 1 t0 (L.getD 0 .undef))).bind fun t14 =>
 (zab none t14).bind fun t15 =>
 (M.lift (Ax.bin .eql t1 t15)).bind fun t16 =>
 M.ite t16
 (M.pure (.ret [(L.getD 0 .undef)]))
 (M.pure (.nrm []))) fun _ =>
 (M.lift (Ax.bin .add (L.getD 0 .undef) (V.int .i64 1))).bind fun t18 =>
 M.pure (.nrm [t18]))
 (M.pure (.ex 0 []))
noncomputable def zcb (G : Sem') (t0 t1 : V) : M Res :=
 (M.lift (vlen t0)).bind fun t7 =>
 M.blk 0 (
 M.iter (zbl G t7 t1 t0) [(V.int .i64 0)]) fun _ =>
 M.pure (.ret [(V.int .i64 (-1))])
theorem zdj {t0 t1 : V} : OkT za7 [t0, t1] (zcb (sem T) t0 t1) := okT (by kernel_rfl) (by kernel_rfl) (by kernel_rfl)
noncomputable def zeP (G : Sem') (t5 t4 : V) (L : List V) : M Res :=
 (M.lift (Ax.bin .geq (L.getD 1 .undef) (V.int .i64 0))).bind fun t17 =>
 (zaa [(0, t17)] (some (0, true)) (M.pure (L.getD 0 .undef))).bind fun t19 =>
 (zaa [(0, t17)] (some (0, true)) (M.lift (vlen t19))).bind fun t20 =>
 (zaa [(0, t17)] (some (0, true)) (M.lift (Ax.bin .lss t20 (V.int .i64 256)))).bind fun t21 =>
 (M.lift (Ax.pick t17 t21 (V.bool false))).bind fun t22 =>
 M.ite t22
 (M.blk 1 (
 (M.lift (Ax.iaddr none 1 t5 (L.getD 1 .undef))).bind fun t28 =>
 (zab none t28).bind fun t29 =>
 (G zaL [(L.getD 0 .undef), t29]).bind fun t30 =>
 (M.lift (Ax.un .not t30)).bind fun t31 =>
 M.join (M.ite t31
 ((M.lift (Ax.iaddr none 1 t5 (L.getD 1 .undef))).bind fun t35 =>
 (zab none t35).bind fun t36 =>
 (mslit zaR 1 [(V.int .u16 0)] [(0, 1, t36)]).bind fun t37 =>
 (mappend zaR 1 2 (L.getD 0 .undef) t37).bind fun t38 =>
 M.pure (.nrm [t38]))
 (M.pure (.nrm [(L.getD 0 .undef)]))) fun L0 =>
 M.pure (.nrm [(L0.getD 0 .undef)])) fun L1 =>
 (M.lift (Ax.bin .sub (L.getD 1 .undef) (V.int .i64 1))).bind fun t24 =>
 M.pure (.nrm [(L1.getD 0 .undef), t24]))
 (M.pure (.ex 0 [(L.getD 0 .undef)]))
noncomputable def zgk (G : Sem') (t0 t1 : V) : M Res :=
 (G za9 [t0]).bind fun t9 =>
 (mslit zaR 1 [(V.int .u16 0)] [(0, 1, t1)]).bind fun t11 =>
 (mappend zaR 1 2 t9 t11).bind fun t12 =>
 (M.lift (vlen t12)).bind fun t14 =>
 (M.lift (Ax.bin .sub t14 (V.int .i64 1))).bind fun t15 =>
 M.blk 0 (
 M.iter (zeP G t12 V.nils) [V.nils, t15]) fun L2 =>
 (G zaZ [(L2.getD 0 .undef)]).bind fun t40 =>
 M.pure (.ret [(L2.getD 0 .undef)])
theorem zgV {t0 t1 : V} : OkT zek [t0, t1] (zgk (sem T) t0 t1) := okT (by kernel_rfl) (by kernel_rfl) (by kernel_rfl)
noncomputable def zcd (G : Sem') (t0 : V) : M Res :=
 (M.lift (eqr .sl false t0 V.nils)).bind fun t4 =>
 M.ite t4
 (M.pure (.ret [V.nils]))
 ((mslit zaR 0 [(V.int .u16 0)] []).bind fun t5 =>
 (mappend zaR 1 2 t5 t0).bind fun t7 =>
 M.pure (.ret [t7]))
theorem zdl {t0 : V} : OkT za9 [t0] (zcd (sem T) t0) := okT (by kernel_rfl) (by kernel_rfl) (by kernel_rfl)
noncomputable def zbQ (G : Sem') (t0 : V) (L : List V) : M Res :=
 (M.lift (Ax.bin .lss (L.getD 0 .undef) (L.getD 1 .undef))).bind fun t9 =>
 M.ite t9
 (M.blk 1 (
 (M.lift (Ax.iaddr none 1 t0 (L.getD 1 .undef))).bind fun t20 =>
 (zab none t20).bind fun t21 =>
 (M.lift (Ax.iaddr none 1 t0 (L.getD 0 .undef))).bind fun t24 =>
 (zab none t24).bind fun t25 =>
 (M.lift (Ax.iaddr none 1 t0 (L.getD 0 .undef))).bind fun t26 =>
 (zam 1 t26 t21).bind fun _ =>
 (M.lift (Ax.iaddr none 1 t0 (L.getD 1 .undef))).bind fun t27 =>
 (zam 1 t27 t25).bind fun _ =>
 M.pure (.nrm [])) fun _ =>
 (M.lift (Ax.bin .add (L.getD 0 .undef) (V.int .i64 1))).bind fun t11 =>
 (M.lift (Ax.bin .sub (L.getD 1 .undef) (V.int .i64 1))).bind fun t13 =>
 M.pure (.nrm [t11, t13]))
 (M.pure (.ex 0 []))
noncomputable def zbY (G : Sem') (t0 : V) : M Res :=
 (M.lift (vlen t0)).bind fun t5 =>
 (M.lift (Ax.bin .sub t5 (V.int .i64 1))).bind fun t6 =>
 M.blk 0 (
 M.iter (zbQ G t0) [(V.int .i64 0), t6]) fun _ =>
 M.pure (.ret [])
theorem zc3 {t0 : V} : OkT zaZ [t0] (zbY (sem T) t0) := okT (by kernel_rfl) (by kernel_rfl) (by kernel_rfl)
noncomputable def zgd (G : Sem') (t0 t1 t2 t3 : V) : M Res :=
 (mbox zcg t0).bind fun t4 =>
 (mbox zcg (V.agg [(V.bool false), (V.int .u16 0), (V.int .u32 0), (V.int .u32 0), (V.int .u16 0), (V.int .u16 0), (V.int .i64 0)])).bind fun t8 =>
 (M.lift (Ax.faddr 0 t4)).bind fun t14 =>
 (zab none t14).bind fun t15 =>
 M.join (M.ite t15
 ((M.lift (Ax.faddr 1 t4)).bind fun t16 =>
 (zab none t16).bind fun t17 =>
 (M.lift (Ax.bin .add t17 (V.int .u16 1))).bind fun t18 =>
 M.pure (.nrm [t18]))
 (M.pure (.nrm [(V.int .u16 0)]))) fun L0 =>
 (M.lift (Ax.faddr 3 t4)).bind fun t20 =>
 (zab none t20).bind fun t21 =>
 (M.lift (Ax.bin .add t1 t21)).bind fun t22 =>
 (M.lift (Ax.faddr 5 t4)).bind fun t24 =>
 (zab none t24).bind fun t25 =>
 (M.lift (Ax.bin .add t2 t25)).bind fun t26 =>
 (M.lift (Ax.faddr 2 t4)).bind fun t28 =>
 (zab none t28).bind fun t29 =>
 (M.lift (Ax.bin .sub t22 t29)).bind fun t30 =>
 (M.lift (Ax.faddr 0 t4)).bind fun t31 =>
 (zab none t31).bind fun t32 =>
 (M.lift (Ax.un .not t32)).bind fun t33 =>
 (zaa [(0, t33)] (some (0, false)) (M.pure t30)).bind fun t35 =>
 (zaa [(0, t33)] (some (0, false)) (M.lift (Ax.bin .geq t35 (V.int .u32 1)))).bind fun t36 =>
 (zaa [(0, t33)] (some (0, false)) (M.pure t36)).bind fun t37 =>
 (zaa [(0, t37)] (some (0, true)) (M.pure t30)).bind fun t38 =>
 (zaa [(0, t37)] (some (0, true)) (M.lift (Ax.bin .lss t38 (V.int .u32 2147483648)))).bind fun t39 =>
 (zaa [(0, t33)] (some (0, false)) (M.lift (Ax.pick t37 t39 (V.bool false)))).bind fun t40 =>
 (M.lift (Ax.pick t33 (V.bool true) t40)).bind fun t41 =>
 M.join (M.ite t41
 ((M.lift (Ax.faddr 2 t4)).bind fun t43 =>
 (zam 1 t43 t22).bind fun _ =>
 M.pure (.nrm []))
 (M.pure (.nrm []))) fun _ =>
 (M.lift (Ax.faddr 4 t4)).bind fun t45 =>
 (zab none t45).bind fun t46 =>
 (M.lift (Ax.bin .sub t26 t46)).bind fun t47 =>
 (M.lift (Ax.faddr 0 t4)).bind fun t48 =>
 (zab none t48).bind fun t49 =>
 (M.lift (Ax.un .not t49)).bind fun t50 =>
 (zaa [(0, t50)] (some (0, false)) (M.pure t47)).bind fun t52 =>
 (zaa [(0, t50)] (some (0, false)) (M.lift (Ax.bin .geq t52 (V.int .u16 1)))).bind fun t53 =>
 (zaa [(0, t50)] (some (0, false)) (M.pure t53)).bind fun t54 =>
 (zaa [(0, t54)] (some (0, true)) (M.pure t47)).bind fun t55 =>
 (zaa [(0, t54)] (some (0, true)) (M.lift (Ax.bin .lss t55 (V.int .u16 32768)))).bind fun t56 =>
 (zaa [(0, t50)] (some (0, false)) (M.lift (Ax.pick t54 t56 (V.bool false)))).bind fun t57 =>
 (M.lift (Ax.pick t50 (V.bool true) t57)).bind fun t58 =>
 M.join (M.ite t58
 ((M.lift (Ax.faddr 4 t4)).bind fun t60 =>
 (zam 1 t60 t26).bind fun _ =>
 M.pure (.nrm []))
 (M.pure (.nrm []))) fun _ =>
 (M.lift (Ax.faddr 0 t4)).bind fun t63 =>
 (zam 1 t63 (V.bool true)).bind fun _ =>
 (M.lift (Ax.faddr 1 t4)).bind fun t64 =>
 (zam 1 t64 (L0.getD 0 .undef)).bind fun _ =>
 (M.lift (Ax.faddr 6 t4)).bind fun t65 =>
 (zam 1 t65 t3).bind fun _ =>
 (zab (some 7) t4).bind fun t66 =>
 (zam 7 t8 t66).bind fun _ =>
 (zab (some 7) t8).bind fun r0 =>
 M.pure (.ret [r0, (L0.getD 0 .undef), t22, t26])
theorem zgO {t0 t1 t2 t3 : V} : OkT zee [t0, t1, t2, t3] (zgd (sem T) t0 t1 t2 t3) := okT (by kernel_rfl) (by kernel_rfl) (by kernel_rfl)
end Go.Ax
/- FnD4 -/
namespace Go.Ax
open Go.Proofs
noncomputable def zdK (G : Sem') (t0 t1 : V) : M Res :=
 (G zaW [t0]).bind fun t7 =>
 (M.lift (vlen t7)).bind fun t9 =>
 (M.lift (Ax.bin .geq t9 (V.int .i64 3))).bind fun t10 =>
 M.join (M.ite t10
 ((M.lift (Ax.bin .shr t1 (V.int .u64 8))).bind fun t14 =>
 (M.lift (Ax.cint .u8 t14)).bind fun t15 =>
 (M.lift (Ax.cint .u8 t1)).bind fun t17 =>
 (M.lift (Ax.iaddr none 1 t7 (V.int .i64 1))).bind fun t18 =>
 (zam 1 t18 t15).bind fun _ =>
 (M.lift (Ax.iaddr none 1 t7 (V.int .i64 2))).bind fun t19 =>
 (zam 1 t19 t17).bind fun _ =>
 M.pure (.nrm []))
 (M.pure (.nrm []))) fun _ =>
 M.pure (.ret [t7])
theorem zeq {t0 t1 : V} : OkT zb2 [t0, t1] (zdK (sem T) t0 t1) := okT (by kernel_rfl) (by kernel_rfl) (by kernel_rfl)
noncomputable def zgJ (G : Sem') (t0 t1 t2 : V) : M Res :=
 (mbox zai t0).bind fun t3 =>
 (mbox zai (V.agg [(V.bool false), (V.int .i64 0), (V.int .u16 0), (V.int .u32 0), (V.int .u32 0), V.nils, (V.int .i64 0), V.nils, (V.int .i64 0), V.nils])).bind fun t6 =>
 (zab (some 10) t3).bind fun t9 =>
 (G zdw [t9]).bind fun t10 =>
 (zam 10 t3 t10).bind fun _ =>
 (zab (some 10) t3).bind fun t11 =>
 (G zeI [t11, t1]).bind fun t13 =>
 (M.lift (Ax.bin .lss t13 (V.int .i64 0))).bind fun t15 =>
 M.ite t15
 ((zab (some 10) t3).bind fun t16 =>
 (zam 10 t6 t16).bind fun _ =>
 (zab (some 10) t6).bind fun r0 =>
 M.pure (.ret [r0, (V.bool false)]))
 ((M.lift (Ax.faddr 7 t3)).bind fun t17 =>
 (zab none t17).bind fun t18 =>
 M.getH.bind fun h0 =>
 (G zaW [t2]).bind fun t21 =>
 M.getH.bind fun h0' =>
 (M.unch t17 h0 h0').bind fun _ =>
 (M.lift (Ax.iaddr none 2 t18 t13)).bind fun t22 =>
 (M.lift (Ax.faddr 1 t22)).bind fun t23 =>
 (zam 1 t23 t21).bind fun _ =>
 (zab (some 10) t3).bind fun t24 =>
 (zam 10 t6 t24).bind fun _ =>
 (zab (some 10) t6).bind fun r0 =>
 M.pure (.ret [r0, (V.bool true)]))
theorem zhe {t0 t1 t2 : V} : OkT zeY [t0, t1, t2] (zgJ (sem T) t0 t1 t2) := okT (by kernel_rfl) (by kernel_rfl) (by kernel_rfl)
noncomputable def zdW (G : Sem') (t18 t1 t2 : V) (L : List V) : M Res :=
 (M.lift (Ax.bin .lss (L.getD 0 .undef) t18)).bind fun t20 =>
 M.ite t20
 (M.blk 1 (
 (M.lift (Ax.faddr 7 t1)).bind fun t22 =>
 (zab none t22).bind fun t23 =>
 (M.lift (Ax.faddr 7 t1)).bind fun t25 =>
 (zab none t25).bind fun t26 =>
 (M.lift (Ax.iaddr none 2 t26 (L.getD 0 .undef))).bind fun t28 =>
 (M.lift (Ax.faddr 1 t28)).bind fun t29 =>
 (zab none t29).bind fun t30 =>
 M.getH.bind fun h2 =>
 (G zaW [t30]).bind fun t31 =>
 M.getH.bind fun h2' =>
 (M.unch t22 h2 h2').bind fun _ =>
 (M.lift (Ax.iaddr none 2 t23 (L.getD 0 .undef))).bind fun t32 =>
 (M.lift (Ax.faddr 1 t32)).bind fun t33 =>
 (zam 1 t33 t31).bind fun _ =>
 M.pure (.nrm [])) fun _ =>
 (M.lift (Ax.bin .add (L.getD 0 .undef) (V.int .i64 1))).bind fun t34 =>
 M.pure (.nrm [t34]))
 (M.pure (.ex 0 []))
noncomputable def zfC (G : Sem') (t0 : V) : M Res :=
 (mbox zai t0).bind fun t1 =>
 (mbox zai (V.agg [(V.bool false), (V.int .i64 0), (V.int .u16 0), (V.int .u32 0), (V.int .u32 0), V.nils, (V.int .i64 0), V.nils, (V.int .i64 0), V.nils])).bind fun t2 =>
 (M.lift (Ax.faddr 5 t1)).bind fun t4 =>
 (zab none t4).bind fun t5 =>
 (M.lift (Ax.faddr 9 t1)).bind fun t7 =>
 (zab none t7).bind fun t8 =>
 (M.lift (Ax.faddr 7 t1)).bind fun t10 =>
 (zab none t10).bind fun t11 =>
 M.getH.bind fun h0 =>
 (G za8 [t5]).bind fun t6 =>
 M.getH.bind fun h0' =>
 (M.unch t10 h0 h0').bind fun _ =>
 (M.unch t7 h0 h0').bind fun _ =>
 M.getH.bind fun h1 =>
 (G zaW [t8]).bind fun t9 =>
 M.getH.bind fun h1' =>
 (M.unch t10 h1 h1').bind fun _ =>
 (G za1 [t11]).bind fun t12 =>
 (M.lift (Ax.faddr 5 t1)).bind fun t13 =>
 (zam 1 t13 t6).bind fun _ =>
 (M.lift (Ax.faddr 9 t1)).bind fun t14 =>
 (zam 1 t14 t9).bind fun _ =>
 (M.lift (Ax.faddr 7 t1)).bind fun t15 =>
 (zam 1 t15 t12).bind fun _ =>
 (M.lift (Ax.faddr 7 t1)).bind fun t16 =>
 (zab none t16).bind fun t17 =>
 (M.lift (vlen t17)).bind fun t18 =>
 M.blk 0 (
 M.iter (zdW G t18 t1 t2) [(V.int .i64 0)]) fun _ =>
 (zab (some 10) t1).bind fun t35 =>
 (zam 10 t2 t35).bind fun _ =>
 (zab (some 10) t2).bind fun r0 =>
 M.pure (.ret [r0])
theorem zgq {t0 : V} : OkT zdw [t0] (zfC (sem T) t0) := okT (by kernel_rfl) (by kernel_rfl) (by kernel_rfl)
noncomputable def zcc (G : Sem') (t0 : V) : M Res :=
 (M.lift (eqr .sl false t0 V.nils)).bind fun t4 =>
 M.ite t4
 (M.pure (.ret [V.nils]))
 ((mslit zgt 0 [(V.int .u32 0)] []).bind fun t5 =>
 (mappend zgt 1 4 t5 t0).bind fun t7 =>
 M.pure (.ret [t7]))
theorem zdk {t0 : V} : OkT za8 [t0] (zcc (sem T) t0) := okT (by kernel_rfl) (by kernel_rfl) (by kernel_rfl)
noncomputable def zbZ (G : Sem') (t0 : V) : M Res :=
 (M.lift (eqr .sl false t0 V.nils)).bind fun t4 =>
 M.ite t4
 (M.pure (.ret [V.nils]))
 ((mslit zbf 0 [(V.int .i64 0), V.nils] []).bind fun t5 =>
 (mappend zbf 2 32 t5 t0).bind fun t7 =>
 M.pure (.ret [t7]))
theorem zc4 {t0 : V} : OkT za1 [t0] (zbZ (sem T) t0) := okT (by kernel_rfl) (by kernel_rfl) (by kernel_rfl)
noncomputable def zeN (G : Sem') (t0 t1 t2 : V) : M Res :=
 (G zci [t0, t1]).bind fun t9 =>
 (M.lift (Ax.bin .geq t9 (V.int .i64 0))).bind fun t11 =>
 M.join (M.ite t11
 ((M.lift (Ax.nilck t0)).bind fun t14 =>
 (M.lift (Ax.faddr 0 t14)).bind fun t15 =>
 (zab none t15).bind fun t16 =>
 (M.lift (Ax.bin .add t9 (V.int .i64 1))).bind fun t19 =>
 (G zar [t16, t9, t19]).bind fun t20 =>
 (M.lift (Ax.nilck t0)).bind fun t21 =>
 (M.lift (Ax.faddr 0 t21)).bind fun t22 =>
 (zam 1 t22 t20).bind fun _ =>
 M.pure (.nrm []))
 (M.pure (.nrm []))) fun _ =>
 (M.lift (Ax.nilck t0)).bind fun t25 =>
 (M.lift (Ax.faddr 0 t25)).bind fun t26 =>
 (zab none t26).bind fun t27 =>
 M.getH.bind fun h0 =>
 (G zaW [t2]).bind fun t30 =>
 M.getH.bind fun h0' =>
 (M.unch t26 h0 h0').bind fun _ =>
 (M.lift (Ax.build [(V.int .u16 0), V.nils] [(0, 1, t1), (1, 1, t30)])).bind fun t31 =>
 (mslit zaC 1 [(V.int .u16 0), V.nils] [(0, 2, t31)]).bind fun t32 =>
 (mappend zaC 2 32 t27 t32).bind fun t33 =>
 (M.lift (Ax.nilck t0)).bind fun t34 =>
 (M.lift (Ax.faddr 0 t34)).bind fun t35 =>
 (zam 1 t35 t33).bind fun _ =>
 (M.lift (Ax.nilck t0)).bind fun t37 =>
 (M.lift (Ax.faddr 0 t37)).bind fun t38 =>
 (zab none t38).bind fun t39 =>
 (M.lift (vlen t39)).bind fun t40 =>
 (M.lift (Ax.bin .gtr t40 (V.int .i64 64))).bind fun t41 =>
 M.join (M.ite t41
 ((M.lift (Ax.nilck t0)).bind fun t44 =>
 (M.lift (Ax.faddr 0 t44)).bind fun t45 =>
 (zab none t45).bind fun t46 =>
 (G zar [t46, (V.int .i64 0), (V.int .i64 1)]).bind fun t47 =>
 (M.lift (Ax.nilck t0)).bind fun t48 =>
 (M.lift (Ax.faddr 0 t48)).bind fun t49 =>
 (zam 1 t49 t47).bind fun _ =>
 M.pure (.nrm []))
 (M.pure (.nrm []))) fun _ =>
 M.pure (.ret [])
theorem zfG {t0 t1 t2 : V} : OkT zcC [t0, t1, t2] (zeN (sem T) t0 t1 t2) := okT (by kernel_rfl) (by kernel_rfl) (by kernel_rfl)
noncomputable def ze5 (G : Sem') (t0 t1 : V) : M Res :=
 (mbox zaR t1).bind fun t3 =>
 (M.lift (Ax.nilck t0)).bind fun t6 =>
 (M.lift (Ax.faddr 0 t6)).bind fun t7 =>
 (zab none t7).bind fun t8 =>
 (M.pure (.fn zcq [t3])).bind fun t9 =>
 (G zaQ [t8, t9]).bind fun t10 =>
 M.pure (.ret [t10])
theorem zfU {t0 t1 : V} : OkT zci [t0, t1] (ze5 (sem T) t0 t1) := okT (by kernel_rfl) (by kernel_rfl) (by kernel_rfl)
noncomputable def zer (G : Sem') (t0 t1 : V) : M Res :=
 (mbox zaC t0).bind fun t2 =>
 (M.lift (Ax.faddr 0 t2)).bind fun t4 =>
 (zab none t4).bind fun t5 =>
 (zab none t1).bind fun t6 =>
 (M.lift (Ax.bin .eql t5 t6)).bind fun t7 =>
 M.pure (.ret [t7])
theorem zft {t0 t1 : V} : OkT zcq [t0, t1] (zer (sem T) t0 t1) := okT (by kernel_rfl) (by kernel_rfl) (by kernel_rfl)
noncomputable def zaO (G : Sem') (t7 t1 t0 : V) (L : List V) : M Res :=
 (M.lift (Ax.bin .lss (L.getD 0 .undef) t7)).bind fun t9 =>
 M.ite t9
 (M.blk 1 (
 (M.lift (Ax.iaddr none 2 t0 (L.getD 0 .undef))).bind fun t14 =>
 (zab (some 2) t14).bind fun t15 =>
 (callv G t1 [t15]).bind fun t16 =>
 M.ite t16
 (M.pure (.ret [(L.getD 0 .undef)]))
 (M.pure (.nrm []))) fun _ =>
 (M.lift (Ax.bin .add (L.getD 0 .undef) (V.int .i64 1))).bind fun t18 =>
 M.pure (.nrm [t18]))
 (M.pure (.ex 0 []))
noncomputable def zbg (G : Sem') (t0 t1 : V) : M Res :=
 (M.lift (vlen t0)).bind fun t7 =>
 M.blk 0 (
 M.iter (zaO G t7 t1 t0) [(V.int .i64 0)]) fun _ =>
 M.pure (.ret [(V.int .i64 (-1))])
theorem zb6 {t0 t1 : V} : OkT zaQ [t0, t1] (zbg (sem T) t0 t1) := okT (by kernel_rfl) (by kernel_rfl) (by kernel_rfl)
noncomputable def zbw (G : Sem') (t0 t1 t2 : V) : M Res :=
 (M.lift (vlen t0)).bind fun t12 =>
 (M.lift (vslice .sl 2 t0 (some t1) (some t2) (some t12))).bind fun t13 =>
 (M.lift (Ax.bin .eql t1 t2)).bind fun t16 =>
 M.ite t16
 (M.pure (.ret [t0]))
 ((M.lift (vlen t0)).bind fun t19 =>
 (M.lift (vslice .sl 2 t0 none (some t1) none)).bind fun t22 =>
 (M.lift (vslice .sl 2 t0 (some t2) none none)).bind fun t25 =>
 (mappend zaC 2 32 t22 t25).bind fun t26 =>
 (M.lift (vlen t26)).bind fun t29 =>
 (mslice2 2 t26 t29 t19).bind fun t31 =>
 (mclear [(V.int .u16 0), V.nils] t31).bind fun _ =>
 M.pure (.ret [t26]))
theorem zcm {t0 t1 t2 : V} : OkT zar [t0, t1, t2] (zbw (sem T) t0 t1 t2) := okT (by kernel_rfl) (by kernel_rfl) (by kernel_rfl)
noncomputable def zes (G : Sem') (t0 : V) : M Res :=
 (M.lift (Ax.nilck t0)).bind fun t4 =>
 (M.lift (Ax.faddr 0 t4)).bind fun t5 =>
 (zab none t5).bind fun t6 =>
 M.pure (.ret [t6])
theorem zfu {t0 : V} : OkT zcr [t0] (zes (sem T) t0) := okT (by kernel_rfl) (by kernel_rfl) (by kernel_rfl)
end Go.Ax
/- FnD5 -/
namespace Go.Ax
open Go.Proofs
noncomputable def zba (G : Sem') (t0 t1 t7 : V) (L : List V) : M Res :=
 (M.lift (Ax.bin .rem t0 (V.int .u8 100))).bind fun t29 =>
 (M.lift (Ax.cint .i64 t29)).bind fun t30 =>
 (M.lift (Ax.bin .lss (L.getD 1 .undef) t30)).bind fun t31 =>
 M.ite t31
 (M.blk 1 (
 (M.lift (Ax.cint .u16 (L.getD 1 .undef))).bind fun t36 =>
 (M.lift (Ax.build [(V.bool false), (V.bool false), (V.int .i64 0), (V.int .u16 0), (V.bool false), (V.int .i64 0), (V.int .i64 0), V.nils, (V.int .i64 0), V.nils, V.nils, (V.bool false), (V.int .u32 0), (V.bool false), (V.bool false), (V.bool false), V.nils, V.nils, V.nils] [(0, 1, (V.bool true)), (1, 1, (V.bool true)), (4, 1, (V.bool true)), (3, 1, t36)])).bind fun t37 =>
 (M.lift (Ax.cint .u16 (L.getD 1 .undef))).bind fun t39 =>
 (M.lift (Ax.cint .u8 (L.getD 1 .undef))).bind fun t41 =>
 (mslit zaz 1 [(V.int .u8 0)] [(0, 1, t41)]).bind fun t42 =>
 (mappend zaz 1 1 t42 t1).bind fun t44 =>
 (G zaN [t37, t39, t44]).bind fun t45 =>
 (M.lift (Ax.ext 0 t45)).bind fun t46 =>
 (M.lift (Ax.ext 1 t45)).bind fun t47 =>
 (mbox zai (V.agg [(V.bool false), (V.int .i64 0), (V.int .u16 0), (V.int .u32 0), (V.int .u32 0), V.nils, (V.int .i64 0), V.nils, (V.int .i64 0), V.nils])).bind fun t10 =>
 (mbox zal (V.agg [(V.bool false), (V.bool false), (V.int .i64 0), (V.int .u16 0), (V.bool false), (V.int .i64 0), (V.int .i64 0), V.nils, (V.int .i64 0), V.nils, V.nils, (V.bool false), (V.int .u32 0), (V.bool false), (V.bool false), (V.bool false), V.nils, V.nils, V.nils])).bind fun t11 =>
 (zam 10 t10 t46).bind fun _ =>
 (zam 19 t11 t47).bind fun _ =>
 (zab (some 10) t10).bind fun t50 =>
 (zab (some 19) t11).bind fun t51 =>
 M.getH.bind fun h0 =>
 (G zaB []).bind fun t52 =>
 M.getH.bind fun h0' =>
 (M.unch t11 h0 h0').bind fun _ =>
 (M.unch t10 h0 h0').bind fun _ =>
 (G zaS [t7, (V.int .i64 0), t50, t51, t52, (V.int .u32 3), (L.getD 1 .undef)]).bind fun t54 =>
 (M.lift (Ax.ext 0 t54)).bind fun t55 =>
 (mbox zbE (V.agg [V.nils, (V.int .i64 0), (V.bool false)])).bind fun t12 =>
 (zam 3 t12 t55).bind fun _ =>
 (M.lift (Ax.ext 1 t54)).bind fun t56 =>
 (M.lift (Ax.bin .neq t56 (V.int .i64 0))).bind fun t58 =>
 (zaa [(0, t58)] (some (0, false)) (M.lift (Ax.faddr 1 t12))).bind fun t60 =>
 (zaa [(0, t58)] (some (0, false)) (zab none t60)).bind fun t61 =>
 (zaa [(0, t58)] (some (0, false)) (M.lift (Ax.bin .neq t61 (V.int .i64 0)))).bind fun t62 =>
 (M.lift (Ax.pick t58 (V.bool true) t62)).bind fun t63 =>
 M.ite t63
 (M.pure (.ret [(V.bool false)]))
 ((M.lift (Ax.faddr 0 t12)).bind fun t65 =>
 (zab none t65).bind fun t66 =>
 (mslit zc2 1 [V.nils] [(0, 1, t66)]).bind fun t67 =>
 (mappend zc2 1 24 (L.getD 0 .undef) t67).bind fun t68 =>
 M.pure (.nrm [t68]))) fun L0 =>
 (M.lift (Ax.bin .add (L.getD 1 .undef) (V.int .i64 1))).bind fun t33 =>
 M.pure (.nrm [(L0.getD 0 .undef), t33]))
 (M.pure (.ex 0 [(L.getD 0 .undef)]))
noncomputable def zbC (G : Sem') (t7 t8 t2 : V) (L : List V) : M Res :=
 (M.lift (vlen t2)).bind fun t71 =>
 (M.lift (Ax.bin .lss (L.getD 0 .undef) t71)).bind fun t72 =>
 (zaa [(0, t72)] (some (0, true)) (M.pure (L.getD 0 .undef))).bind fun t74 =>
 (zaa [(0, t72)] (some (0, true)) (M.lift (Ax.bin .lss t74 (V.int .i64 60)))).bind fun t75 =>
 (M.lift (Ax.pick t72 t75 (V.bool false))).bind fun t76 =>
 M.ite t76
 (M.blk 3 (
 (M.lift (Ax.iaddr none 1 t2 (L.getD 0 .undef))).bind fun t82 =>
 (zab none t82).bind fun t83 =>
 (M.lift (Ax.build [(V.int .u16 0), (V.int .u16 0)] [(0, 1, t83)])).bind fun t84 =>
 (mslit zcJ 1 [(V.int .u16 0), (V.int .u16 0)] [(0, 2, t84)]).bind fun t85 =>
 (G zcs [t7, t85]).bind fun t86 =>
 (M.lift (Ax.iaddr none 1 t2 (L.getD 0 .undef))).bind fun t89 =>
 (zab none t89).bind fun t90 =>
 (M.lift (Ax.cint .i64 t90)).bind fun t91 =>
 (M.lift (vlen t8)).bind fun t93 =>
 (M.lift (Ax.bin .lss t91 t93)).bind fun t94 =>
 (zaa [(0, t94)] (some (0, true)) (M.pure t2)).bind fun t96 =>
 (zaa [(0, t94)] (some (0, true)) (M.pure (L.getD 0 .undef))).bind fun t97 =>
 (zaa [(0, t94)] (some (0, true)) (M.lift (Ax.iaddr none 1 t96 t97))).bind fun t98 =>
 (zaa [(0, t94)] (some (0, true)) (zab none t98)).bind fun t99 =>
 (zaa [(0, t94)] (some (0, true)) (M.lift (Ax.cint .i64 t99))).bind fun t100 =>
 (zaa [(0, t94)] (some (0, true)) (M.pure t8)).bind fun t101 =>
 (zaa [(0, t94)] (some (0, true)) (M.lift (vlen t101))).bind fun t102 =>
 (zaa [(0, t94)] (some (0, true)) (M.lift (Ax.bin .sub t102 (V.int .i64 64)))).bind fun t103 =>
 (zaa [(0, t94)] (some (0, true)) (M.lift (Ax.bin .geq t100 t103))).bind fun t104 =>
 (M.lift (Ax.pick t94 t104 (V.bool false))).bind fun t105 =>
 (M.lift (vlen t86)).bind fun t107 =>
 (M.lift (Ax.bin .eql t107 (V.int .i64 1))).bind fun t108 =>
 (M.lift (eqr .bool true t108 t105)).bind fun t110 =>
 (zaa [(0, t110)] (some (0, false)) (M.pure t86)).bind fun t112 =>
 (zaa [(0, t110)] (some (0, false)) (M.lift (vlen t112))).bind fun t113 =>
 (zaa [(0, t110)] (some (0, false)) (M.lift (Ax.bin .gtr t113 (V.int .i64 1)))).bind fun t114 =>
 (M.lift (Ax.pick t110 (V.bool true) t114)).bind fun t115 =>
 (zaa [(0, t115)] (some (0, false)) (M.pure t105)).bind fun t117 =>
 (zaa [(0, t115)] (some (0, false)) (M.pure t117)).bind fun t118 =>
 (zaa [(0, t118)] (some (0, true)) (M.pure t86)).bind fun t119 =>
 (zaa [(0, t118)] (some (0, true)) (M.lift (Ax.iaddr none 1 t119 (V.int .i64 0)))).bind fun t120 =>
 (zaa [(0, t118)] (some (0, true)) (zab none t120)).bind fun t121 =>
 (zaa [(0, t118)] (some (0, true)) (M.pure t8)).bind fun t122 =>
 (zaa [(0, t118)] (some (0, true)) (M.pure t2)).bind fun t123 =>
 (zaa [(0, t118)] (some (0, true)) (M.pure (L.getD 0 .undef))).bind fun t124 =>
 (zaa [(0, t118)] (some (0, true)) (M.lift (Ax.iaddr none 1 t123 t124))).bind fun t125 =>
 (zaa [(0, t118)] (some (0, true)) (zab none t125)).bind fun t126 =>
 (zaa [(0, t118)] (some (0, true)) (M.lift (Ax.iaddr none 1 t122 t126))).bind fun t127 =>
 (zaa [(0, t118)] (some (0, true)) (zab none t127)).bind fun t128 =>
 (zaa [(0, t118)] (some (0, true)) (G zbk [t121, t128])).bind fun t129 =>
 (zaa [(0, t118)] (some (0, true)) (M.lift (Ax.un .not t129))).bind fun t130 =>
 (zaa [(0, t115)] (some (0, false)) (M.lift (Ax.pick t118 t130 (V.bool false)))).bind fun t131 =>
 (M.lift (Ax.pick t115 (V.bool true) t131)).bind fun t132 =>
 M.ite t132
 (M.pure (.ret [(V.bool false)]))
 (M.pure (.nrm []))) fun _ =>
 (M.lift (Ax.bin .add (L.getD 0 .undef) (V.int .i64 1))).bind fun t78 =>
 M.pure (.nrm [t78]))
 (M.pure (.ex 2 []))
noncomputable def zcw (G : Sem') (t0 t1 t2 : V) : M Res :=
 (G zdH [(V.int .u32 5)]).bind fun t17 =>
 (G zbz []).bind fun t18 =>
 (M.lift (Ax.un .not t18)).bind fun t19 =>
 (zaa [(0, t19)] (some (0, false)) (M.pure t17)).bind fun t21 =>
 (zaa [(0, t19)] (some (0, false)) (M.lift (eqr .ptr false t21 V.nilp))).bind fun t22 =>
 (M.lift (Ax.pick t19 (V.bool true) t22)).bind fun t23 =>
 M.ite t23
 (M.pure (.ret [(V.bool false)]))
 ((M.lift (vlen t1)).bind fun t25 =>
 (M.lift (Ax.bin .gtr t25 (V.int .i64 500))).bind fun t26 =>
 M.ite t26
 (M.pure (.ret [(V.bool true)]))
 (M.blk 0 (
 M.iter (zba G t0 t1 t17) [V.nils, (V.int .i64 0)]) fun L1 =>
 M.blk 2 (
 M.iter (zbC G t17 (L1.getD 0 .undef) t2) [(V.int .i64 0)]) fun _ =>
 M.pure (.ret [(V.bool true)])))
theorem zdD {t0 t1 t2 : V} : OkT zbc [t0, t1, t2] (zcw (sem T) t0 t1 t2) := okT (by kernel_rfl) (by kernel_rfl) (by kernel_rfl)
noncomputable def zcR (G : Sem') (t12 t11 t0 t4 : V) (L : List V) : M Res :=
 (M.lift (Ax.bin .lss (L.getD 1 .undef) t12)).bind fun t14 =>
 M.ite t14
 (M.blk 1 (
 (M.lift (Ax.iaddr none 1 t11 (L.getD 1 .undef))).bind fun t15 =>
 (zab none t15).bind fun t16 =>
 (M.lift (Ax.nilck t0)).bind fun t19 =>
 (M.lift (Ax.faddr 14 t19)).bind fun t20 =>
 (zab none t20).bind fun t21 =>
 (G zcB [t21, t16]).bind fun t23 =>
 (M.lift (Ax.ext 0 t23)).bind fun t24 =>
 (M.lift (Ax.ext 1 t23)).bind fun t25 =>
 (zaa [(0, t25)] (some (0, true)) (M.pure (L.getD 0 .undef))).bind fun t28 =>
 (zaa [(0, t25)] (some (0, true)) (M.lift (vlen t28))).bind fun t29 =>
 (zaa [(0, t25)] (some (0, true)) (M.lift (Ax.bin .lss t29 (V.int .i64 64)))).bind fun t30 =>
 (M.lift (Ax.pick t25 t30 (V.bool false))).bind fun t31 =>
 M.join (M.ite t31
 ((mslit zc2 1 [V.nils] [(0, 1, t24)]).bind fun t34 =>
 (mappend zc2 1 24 (L.getD 0 .undef) t34).bind fun t35 =>
 M.pure (.nrm [t35]))
 (M.pure (.nrm [(L.getD 0 .undef)]))) fun L0 =>
 M.pure (.nrm [(L0.getD 0 .undef)])) fun L1 =>
 (M.lift (Ax.bin .add (L.getD 1 .undef) (V.int .i64 1))).bind fun t36 =>
 M.pure (.nrm [(L1.getD 0 .undef), t36]))
 (M.pure (.ex 0 [(L.getD 0 .undef)]))
noncomputable def zet (G : Sem') (t0 t1 : V) : M Res :=
 (G zdN [t1]).bind fun t11 =>
 (M.lift (vlen t11)).bind fun t12 =>
 M.blk 0 (
 M.iter (zcR G t12 t11 t0 V.nils) [V.nils, (V.int .i64 0)]) fun L2 =>
 M.pure (.ret [(L2.getD 0 .undef)])
theorem zfv {t0 t1 : V} : OkT zcs [t0, t1] (zet (sem T) t0 t1) := okT (by kernel_rfl) (by kernel_rfl) (by kernel_rfl)
noncomputable def zeo (G : Sem') (t5 t2 : V) (L : List V) : M Res :=
 (M.lift (Ax.bin .lss (L.getD 1 .undef) (V.int .u16 16))).bind fun t19 =>
 M.ite t19
 (M.blk 3 (
 (M.lift (Ax.faddr 1 t5)).bind fun t21 =>
 (zab none t21).bind fun t22 =>
 (M.lift (Ax.bin .shr t22 (L.getD 1 .undef))).bind fun t24 =>
 (M.lift (Ax.bin .and t24 (V.int .u16 1))).bind fun t25 =>
 (M.lift (Ax.bin .eql t25 (V.int .u16 1))).bind fun t26 =>
 M.join (M.ite t26
 ((M.lift (Ax.faddr 0 t5)).bind fun t28 =>
 (zab none t28).bind fun t29 =>
 (M.lift (Ax.bin .add t29 (L.getD 1 .undef))).bind fun t31 =>
 (M.lift (Ax.bin .add t31 (V.int .u16 1))).bind fun t32 =>
 (mslit zaR 1 [(V.int .u16 0)] [(0, 1, t32)]).bind fun t33 =>
 (mappend zaR 1 2 (L.getD 0 .undef) t33).bind fun t34 =>
 M.pure (.nrm [t34]))
 (M.pure (.nrm [(L.getD 0 .undef)]))) fun L0 =>
 M.pure (.nrm [(L0.getD 0 .undef)])) fun L1 =>
 (M.lift (Ax.bin .add (L.getD 1 .undef) (V.int .u16 1))).bind fun t35 =>
 M.pure (.nrm [(L1.getD 0 .undef), t35]))
 (M.pure (.ex 2 [(L.getD 0 .undef)]))
noncomputable def zen (G : Sem') (t8 t7 t2 : V) (L : List V) : M Res :=
 (M.lift (Ax.bin .lss (L.getD 1 .undef) t8)).bind fun t10 =>
 M.ite t10
 (M.blk 1 (
 (M.lift (Ax.iaddr none 2 t7 (L.getD 1 .undef))).bind fun t11 =>
 (zab (some 2) t11).bind fun t12 =>
 (mbox zcJ (V.agg [(V.int .u16 0), (V.int .u16 0)])).bind fun t5 =>
 (zam 2 t5 t12).bind fun _ =>
 (M.lift (Ax.faddr 0 t5)).bind fun t14 =>
 (zab none t14).bind fun t15 =>
 (mslit zaR 1 [(V.int .u16 0)] [(0, 1, t15)]).bind fun t16 =>
 (mappend zaR 1 2 (L.getD 0 .undef) t16).bind fun t17 =>
 M.blk 2 (
 M.iter (zeo G t5 t2) [t17, (V.int .u16 0)]) fun L2 =>
 M.pure (.nrm [(L2.getD 0 .undef)])) fun L3 =>
 (M.lift (Ax.bin .add (L.getD 1 .undef) (V.int .i64 1))).bind fun t36 =>
 M.pure (.nrm [(L3.getD 0 .undef), t36]))
 (M.pure (.ex 0 [(L.getD 0 .undef)]))
noncomputable def zf0 (G : Sem') (t0 : V) : M Res :=
 (M.lift (vlen t0)).bind fun t8 =>
 M.blk 0 (
 M.iter (zen G t8 t0 V.nils) [V.nils, (V.int .i64 0)]) fun L4 =>
 M.pure (.ret [(L4.getD 0 .undef)])
theorem zgz {t0 : V} : OkT zdN [t0] (zf0 (sem T) t0) := okT (by kernel_rfl) (by kernel_rfl) (by kernel_rfl)
noncomputable def zeM (G : Sem') (t0 t1 : V) : M Res :=
 (G zci [t0, t1]).bind fun t9 =>
 (M.lift (Ax.bin .lss t9 (V.int .i64 0))).bind fun t11 =>
 M.ite t11
 (M.pure (.ret [V.nils, (V.bool false)]))
 ((M.lift (Ax.nilck t0)).bind fun t13 =>
 (M.lift (Ax.faddr 0 t13)).bind fun t14 =>
 (zab none t14).bind fun t15 =>
 (M.lift (Ax.iaddr none 2 t15 t9)).bind fun t17 =>
 (M.lift (Ax.faddr 1 t17)).bind fun t18 =>
 (zab none t18).bind fun t19 =>
 (G zaW [t19]).bind fun t20 =>
 M.pure (.ret [t20, (V.bool true)]))
theorem zfF {t0 t1 : V} : OkT zcB [t0, t1] (zeM (sem T) t0 t1) := okT (by kernel_rfl) (by kernel_rfl) (by kernel_rfl)
noncomputable def zcx (G : Sem') (t0 t1 : V) : M Res :=
 (mtostr t0).bind fun t6 =>
 (mtostr t1).bind fun t8 =>
 (M.lift (Ax.bin .eql t6 t8)).bind fun t9 =>
 M.pure (.ret [t9])
theorem zdd {t0 t1 : V} : OkT zbk [t0, t1] (zcx (sem T) t0 t1) := okT (by kernel_rfl) (by kernel_rfl) (by kernel_rfl)
end Go.Ax
/- Dep3 -/
namespace Go.Ax.D9
open Go.Ax
def idxV : Option Nat → V
 | some i => .int .i64 (i : Nat)
 | none => .int .i64 (-1)
theorem IndexFunc_ok {lo : Nat} {H : Heap} {v f : V} {l : List Int} (h : Il lo H v l) (P : Int → Bool) (hn : l.length ≤ 1099511627776)
  (hf : ∀ H', Grow H H' → ∀ (x : Int), Ok (callv (sem T) f [.int .i64 x]) H' fun r H'' => r = .bool (P x) ∧ Grow H' H'') :
  Ok (sem T zbb [v, f]) H fun r H' => r = idxV (l.findIdx? P) ∧ Grow H H' := by
 refine zdB ?_
 unfold zcu
 simp (disch := omega) only [↓RD, RZ, h.vlen]
 refine zaK (fun k L H' => L = [.int .i64 (k : Nat)] ∧ Grow H H' ∧ ∀ j (hj : j < l.length), j < k → P l[j] = false) l.length ?_ ?_ ?_
 ·exact ⟨rfl, Grow.refl _, fun j hj hk => absurd hk (by omega)⟩
 ·rintro k L H1 hk ⟨rfl, s1, hP⟩
  obtain ⟨q, i1, l1, -⟩ := il_at (h.ext s1) (i := (k : Nat)) (by omega) (by omega)
  rw [Int.toNat_natCast, getD_get hk] at l1
  unfold zbA
  simp (disch := omega) only [↓RD, RZ, i1, l1]
  refine zac (hf H1 s1 _) ?_
  rintro _ H2 ⟨rfl, s2⟩
  cases hp : P l[k] with
  | true =>
   simp (disch := omega) only [↓RD, RZ]
   refine ⟨?_, s1.trans s2⟩
   have : l.findIdx? P = some k := List.findIdx?_eq_some_iff_getElem.2 ⟨hk, hp, fun j hj => by rw [hP j (by omega) hj]; decide⟩
   rw [this]; rfl
  | false =>
   simp (disch := omega) only [↓RD, RZ]
   refine ⟨by rfl, s1.trans s2, fun j hj hjk => ?_⟩
   rcases Nat.lt_or_ge j k with h | h
   ·exact hP j hj h
   ·have : j = k := by omega
    subst this; exact hp
 ·rintro L H1 ⟨rfl, s1, hP⟩
  unfold zbA
  simp (disch := omega) only [↓RD, RZ]
  refine ⟨?_, s1⟩
  have : l.findIdx? P = none := List.findIdx?_eq_none_iff.2 fun x hx => by
   obtain ⟨j, hj, rfl⟩ := List.getElem_of_mem hx
   exact hP j hj hj
  rw [this]; rfl
theorem within1_ok {H : Heap} (x a b : Int) (p q : Nat) (hp : H.get p = some ⟨zcy, [.int .i64 a], none⟩) (hq : H.get q = some ⟨zcy, [.int .i64 b], none⟩) :
  Ok (sem T zb9 [.int .i64 x, .ptr p 0, .ptr q 0]) H fun r H' => r = .bool (!decide (a ≤ x ∧ x ≤ b)) ∧ H' = H := by
 refine zfg ?_
 unfold zd2
 by_cases h1 : x < a
 ·simp (disch := omega) only [↓RD, RZ, hp, hq]
  rw [decide_eq_false (by omega)]; rfl
 ·by_cases h2 : b < x
  ·simp (disch := omega) only [↓RD, RZ, hp, hq]
   rw [decide_eq_false (by omega)]; rfl
  ·simp (disch := omega) only [↓RD, RZ, hp, hq]
   rw [decide_eq_true (by omega)]; rfl
theorem all_idx {α : Type} (P : α → Bool) (xs : List α) : (xs.findIdx? (fun x => !P x)).isNone = xs.all P := by
 cases h : xs.findIdx? (fun x => !P x) with
 | none =>
  have := List.findIdx?_eq_none_iff.1 h
  exact (List.all_eq_true.2 fun x hx => by simpa using this x hx).symm
 | some i =>
  obtain ⟨h1, h2, _⟩ := List.findIdx?_eq_some_iff_getElem.1 h
  refine (Bool.eq_false_iff.2 fun e => ?_).symm
  have := List.all_eq_true.1 e _ (List.getElem_mem h1)
  rw [this] at h2; cases h2
theorem Contains_ok {lo : Nat} {H : Heap} {v f : V} {l : List Int} (h : Il lo H v l) (P : Int → Bool) (hn : l.length ≤ 1099511627776)
  (hf : ∀ H', Grow H H' → ∀ (x : Int), Ok (callv (sem T) f [.int .i64 x]) H' fun r H'' => r = .bool (!P x) ∧ Grow H' H'') :
  Ok (sem T za4 [v, f]) H fun r H' => r = .bool (!l.all P) ∧ Grow H H' := by
 refine zdc ?_
 unfold zb4
 refine zac (IndexFunc_ok h (fun x => !P x) hn hf) ?_
 rintro _ H1 ⟨rfl, s1⟩
 rw [← all_idx]
 cases l.findIdx? (fun x => !P x) with
 | none => unfold idxV; simp (disch := omega) only [↓RD, RZ]; exact ⟨rfl, s1⟩
 | some i => unfold idxV; simp (disch := omega) only [↓RD, RZ]; exact ⟨rfl, s1⟩
theorem within_ok {lo : Nat} {H : Heap} {v : V} {l : List Int} (h : Il lo H v l) (n a b : Int) (hl : l.length ≤ 1099511627776) :
  Ok (sem T zaV [v, .int .i64 n, .int .i64 a, .int .i64 b]) H fun r H' => r = .bool (wi l n a b) ∧ Grow H H' := by
 refine zfI ?_
 unfold zeR
 simp (disch := omega) only [↓RD, RZ, h.vlen]
 generalize hH2 : Heap.new (Heap.new H _) _ = H2
 have s2 : Grow H H2 := by rw [← hH2]; exact (Grow.new _ _).trans (Grow.new _ _)
 have n2 : H2.next = H.next + 2 := by rw [← hH2]; rfl
 have g1 : H2.get H.next = some ⟨zcy, [.int .i64 a], none⟩ := by rw [← hH2, zay _ _ (by rw [zan]; omega), zak]
 have g2 : H2.get (H.next + 1) = some ⟨zcy, [.int .i64 b], none⟩ := by rw [← hH2]; exact zak _ _
 clear hH2
 unfold wi
 by_cases hn : (l.length : Int) = n
 ·rw [decide_eq_true hn, Bool.true_and]
  simp (disch := omega) only [↓RD, RZ, hn]
  refine zac (Contains_ok (h.ext s2) (fun x => decide (a ≤ x ∧ x ≤ b)) hl fun H3 s3 x => ?_) ?_
  ·refine zaM (within1_ok x a b _ _ ((s3.same _ (by omega)).trans g1) ((s3.same _ (by omega)).trans g2)) ?_
   rintro _ _ ⟨rfl, rfl⟩
   exact ⟨rfl, Grow.refl _⟩
  ·rintro _ H3 ⟨rfl, s3⟩
   simp (disch := omega) only [↓RD, RZ]
   exact ⟨by unfold inr; simp, s2.trans s3⟩
 ·rw [decide_eq_false hn]
  simp (disch := omega) only [↓RD, RZ]
  exact ⟨rfl, s2⟩
theorem diffs_ok {lo : Nat} {H : Heap} {v : V} {l : List Int} (h : Il lo H v l) (many : Nat) (most : Int) (hl : l.length ≤ 1099511627776) :
  Ok (sem T zck [v, .int .i64 many, .int .i64 most]) H fun r H' => r = .bool (di l many most) ∧ Grow H H' := by
 refine zfW ?_
 unfold ze7
 unfold di
 by_cases hm : l.length ≤ many
 ·rw [decide_eq_true hm, Bool.true_and]
  simp (disch := omega) only [↓RD, RZ, h.vlen]
  refine zac (within_ok h _ _ _ hl) ?_
  rintro _ H1 ⟨rfl, s1⟩
  simp (disch := omega) only [↓RD, RZ]
  exact ⟨by simp [wi], s1⟩
 ·rw [decide_eq_false hm]
  simp (disch := omega) only [↓RD, RZ, h.vlen]
  exact ⟨rfl, Grow.refl _⟩
def nxV : Option Nat → V
 | some k => .tup [.int .i64 (k : Nat), .bool true]
 | none => .tup [.int .i64 0, .bool false]
theorem next_ok {H : Heap} (s t : Tm) (a b c d e g : V) (hs : 0 ≤ s.sp ∧ s.sp ≤ 3) (ht : 0 ≤ s.te ∧ s.te ≤ 7) (ha : a.cells = [a] ∧ a.okc = true) (hb : b.cells = [b] ∧ b.okc = true) (hc : c.cells = [c] ∧ c.okc = true) (hd : d.cells = [d] ∧ d.okc = true) (he : e.cells = [e] ∧ e.okc = true) (hg : g.cells = [g] ∧ g.okc = true) :
  Ok (sem T zda [.agg [.int .i64 s.sp, .int .i64 s.te, a, b, c], .agg [.int .i64 t.sp, .int .i64 t.te, d, e, g]]) H fun r H' => r = nxV (nx s t) ∧ Grow H H' := by
 refine zf9 ?_
 unfold zfl
 have g2 : ∀ (x y : Blk), Grow H ((H.new x).new y) := fun x y => (Grow.new _ _).trans (Grow.new _ _)
 simp (disch := first | omega | (simp only [RY] <;> omega) | decide) only [↓RD, RZ, Nat.reduceAdd, ha.1, ha.2, hb.1, hb.2, hc.1, hc.2, hd.1, hd.2, he.1, he.2, hg.1, hg.2]
 unfold nx
 by_cases h1 : t.sp = s.sp
 ·by_cases h2 : t.te = s.te
  ·rw [if_pos ⟨h1, h2⟩]
   simp (disch := first | omega | (simp only [RY] <;> omega) | decide) only [↓RD, RZ, Nat.reduceAdd, h1, h2]
   exact ⟨rfl, g2 _ _⟩
  ·rw [if_neg (fun h => h2 h.2)]
   by_cases h3 : t.te = s.te + 1
   ·rw [if_pos ⟨h1, h3⟩]
    simp (disch := first | omega | (simp only [RY] <;> omega) | decide) only [↓RD, RZ, Nat.reduceAdd, h1, h3]
    exact ⟨rfl, g2 _ _⟩
   ·rw [if_neg (fun h => h3 h.2), if_neg (by omega)]
    simp (disch := first | omega | (simp only [RY] <;> omega) | decide) only [↓RD, RZ, Nat.reduceAdd, h1]
    exact ⟨rfl, g2 _ _⟩
 ·rw [if_neg (fun h => h1 h.1), if_neg (fun h => h1 h.1)]
  by_cases h2 : t.sp = s.sp + 1
  ·by_cases h3 : t.te = 0
   ·rw [if_pos ⟨h2, h3⟩]
    simp (disch := first | omega | (simp only [RY] <;> omega) | decide) only [↓RD, RZ, Nat.reduceAdd, h2, h3]
    exact ⟨rfl, g2 _ _⟩
   ·rw [if_neg (fun h => h3 h.2)]
    simp (disch := first | omega | (simp only [RY] <;> omega) | decide) only [↓RD, RZ, Nat.reduceAdd, h2]
    exact ⟨rfl, g2 _ _⟩
  ·rw [if_neg (fun h => h2 h.1)]
   simp (disch := first | omega | (simp only [RY] <;> omega) | decide) only [↓RD, RZ, Nat.reduceAdd]
   exact ⟨rfl, g2 _ _⟩
end Go.Ax.D9
/- Dep4 -/
namespace Go.Ax.D9
open Go.Ax
theorem pl5 {H : Heap} {p a b c d e : V} {own : Option Nat} (h : Pl H p [a, b, c, d, e] own) : LdR none H (fa p 0) a ∧ LdR none H (fa p 1) b ∧ LdR none H (fa p 2) c ∧ LdR none H (fa p 3) d ∧ LdR none H (fa p 4) e ∧ LdR (some 5) H p (.agg [a, b, c, d, e]) :=
 ⟨fun f Q => by rw [h.ld (by simp)]; exact b_lift, fun f Q => by rw [h.ld (by simp)]; exact b_lift, fun f Q => by rw [h.ld (by simp)]; exact b_lift, fun f Q => by rw [h.ld (by simp)]; exact b_lift, fun f Q => by rw [h.ld (by simp)]; exact b_lift, h.all⟩
theorem pl2 {H : Heap} {p a b : V} {own : Option Nat} (h : Pl H p [a, b] own) : LdR none H (fa p 0) a ∧ LdR none H (fa p 1) b ∧ LdR (some 2) H p (.agg [a, b]) :=
 ⟨fun f Q => by rw [h.ld (by simp)]; exact b_lift, fun f Q => by rw [h.ld (by simp)]; exact b_lift, h.all⟩
theorem mm1 (a b : Int) : Ax.minmax true (.int .i64 a) [.int .i64 b] = some (.int .i64 (max a b)) := by
 simp only [Ax.minmax, Ax.min2, Option.bind_some, if_true]
 congr 2
 split <;> omega
theorem cel_nils : Cel .nils := ⟨rfl, rfl⟩
noncomputable def dec (p : Prop) : Bool := @decide p (Classical.propDecidable _)
theorem dec_yes {p : Prop} (h : p) : dec p = true := by unfold dec; exact @decide_eq_true _ (Classical.propDecidable _) h
theorem dec_no {p : Prop} (h : ¬ p) : dec p = false := by unfold dec; exact @decide_eq_false _ (Classical.propDecidable _) h
theorem dec_iff {p : Prop} : dec p = true ↔ p := by unfold dec; exact @decide_eq_true_iff _ (Classical.propDecidable _)
def Lay (ts : List Tm) : Prop := (1 ≤ ts.length ∧ ts.length ≤ 64) ∧ ∀ i, i < ts.length → LayAt ts i
def prev (ts : List Tm) (k : Nat) : Tm := if k = 0 then Tm0 else ts.getD (k - 1) Tm0
theorem prev_rng {ts : List Tm} {k : Nat} (h : ∀ j, j < k → LayAt ts j) : (0 ≤ (prev ts k).sp ∧ (prev ts k).sp ≤ 3) ∧ 0 ≤ (prev ts k).te ∧ (prev ts k).te ≤ 7 := by
 unfold prev
 split
 ·simp [Tm0]
 ·have := layAt_rng (h (k - 1) (by omega))
  omega
theorem prev_succ {ts : List Tm} {k : Nat} (h : k < ts.length) : prev ts (k + 1) = ts[k] := by
 unfold prev
 rw [if_neg (by omega), Nat.add_sub_cancel, getD_get h]
theorem layAt_iff {ts : List Tm} {k : Nat} (hk : k < ts.length) (h : ∀ j, j < k → LayAt ts j) : LayAt ts k ↔ ∃ m, nx (prev ts k) ts[k] = some m ∧ (k = 0 → m = 0) ∧ ts[k].sp ≤ 3 ∧ ts[k].te ≤ 7 := by
 have hp := prev_rng h
 unfold LayAt
 dsimp only
 rw [getD_get hk]
 by_cases k0 : k = 0
 ·rw [if_pos k0]
  have : prev ts k = Tm0 := by unfold prev; rw [if_pos k0]
  rw [this]
  unfold nx Tm0
  dsimp only
  constructor
  ·rintro ⟨h1, h2⟩
   rw [if_pos ⟨h1, h2⟩]
   exact ⟨0, rfl, fun _ => rfl, by omega, by omega⟩
  ·rintro ⟨m, h1, h2, h3, h4⟩
   have := h2 k0
   subst this
   split at h1
   ·assumption
   ·split at h1
    ·cases h1
    ·split at h1 <;> cases h1
 ·rw [if_neg k0]
  have e : prev ts k = ts.getD (k - 1) Tm0 := by unfold prev; rw [if_neg k0]
  rw [← e]
  constructor
  ·rintro ⟨h1, h2, h3, h4, h5⟩
   obtain ⟨m, hm⟩ := Option.isSome_iff_exists.1 h1
   exact ⟨m, hm, fun h => absurd h k0, by omega, by omega⟩
  ·rintro ⟨m, h1, h2, h3, h4⟩
   refine ⟨by rw [h1]; rfl, ?_⟩
   unfold nx at h1
   split at h1
   ·omega
   ·split at h1
    ·omega
    ·split at h1
     ·omega
     ·cases h1
theorem layers_ok {lo : Nat} {H : Heap} {s : Sr} {a b c : V} (h : SrC lo H s a b c) (hn : s.ts.length ≤ 1099511627776) :
  Ok (sem T zcE [.agg (scells s a b c)]) H fun r H' => r = .bool (dec (Lay s.ts)) ∧ Grow H H' := by
 refine zfJ ?_
 unfold zeS
 unfold scells
 simp (disch := first | omega | (simp only [RY] <;> omega) | decide) only [↓RD, RZ, eq_self, Int.reduceToNat, Int.reduceAdd, Nat.reduceAdd, Nat.reduceSub, Nat.reduceMul, Nat.reduceLeDiff, h.ts.cells1, h.ts.okc, h.pro.cells1, h.pro.okc, h.siz.cells1, h.siz.okc, h.ts.vlen]
 generalize hH1 : Heap.set _ _ _ = H1
 have n1 : H1.next = H.next + 2 := by rw [← hH1]; rfl
 have s1 : Grow H H1 := by rw [← hH1]; exact ((Grow.new H _).trans (Grow.new _ _)).set (by omega) _
 have g1 : H1.get H.next = some ⟨zag, scells s a b c, none⟩ := by rw [← hH1, zaj _ _ (by omega), zay _ _ (by rw [zan]; omega), zak]; rfl
 have b1 : H1.get (H.next + 1) = some ⟨zah, [.int .i64 0, .int .i64 0, .nils, .nils, .nils], none⟩ := by rw [← hH1]; exact zaq _ _ _
 clear hH1
 unfold scells at g1
 refine zaK (fun k L H' => L = [.int .i64 (k : Nat)] ∧ Grow H H' ∧ H1.next ≤ H'.next ∧ H'.get H.next = some ⟨zag, [.int .i64 s.off, .int .i64 s.tar, a, .int .i64 s.cha, b, c], none⟩ ∧ (∀ j, j < k → LayAt s.ts j) ∧ ∃ x y z, (Cel x ∧ Cel y ∧ Cel z) ∧ H'.get (H.next + 1) = some ⟨zah, [.int .i64 (prev s.ts k).sp, .int .i64 (prev s.ts k).te, x, y, z], none⟩) s.ts.length ?_ ?_ ?_
 ·exact ⟨rfl, s1, Nat.le_refl _, g1, fun j hj => absurd hj (by omega), .nils, .nils, .nils, ⟨cel_nils, cel_nils, cel_nils⟩, b1⟩
 ·rintro k L H2 hk ⟨rfl, s2, n2, g2, hP, x, y, z, ⟨cx, cy, cz⟩, b2⟩
  obtain ⟨q, d, e, f, i1, l1, w1⟩ := (h.ts.ext s2).at hk
  obtain ⟨-, -, -, -, -, l2⟩ := pl5 l1
  have hd := w1.dti.cel
  have he := w1.dif.cel
  have hf := w1.cha.cel
  obtain ⟨pr1, pr2⟩ := prev_rng hP
  unfold zc5
  simp (disch := first | omega | (simp only [RY] <;> omega) | decide) only [↓RD, RZ, eq_self, Int.reduceToNat, Int.reduceAdd, Nat.reduceAdd, Nat.reduceSub, Nat.reduceMul, Nat.reduceLeDiff, i1, l2, hd.1, hd.2, he.1, he.2, hf.1, hf.2, b2]
  generalize hH3 : Heap.set _ _ _ = H3
  have s3 : Grow H2 H3 := by rw [← hH3]; exact (Grow.new _ _).set (by omega) _
  have n3 : H3.next = H2.next + 1 := by rw [← hH3]; rfl
  have c3 : H3.get H2.next = some ⟨zah, [.int .i64 s.ts[k].sp, .int .i64 s.ts[k].te, d, e, f], none⟩ := by rw [← hH3]; exact zaq _ _ _
  clear hH3
  refine zac (next_ok (prev s.ts k) s.ts[k] x y z d e f pr1 pr2 cx cy cz hd he hf) ?_
  rintro _ H4 ⟨rfl, s4⟩
  have n4 := s4.next
  have c4 : H4.get H2.next = _ := (s4.same _ (by omega)).trans c3
  have g4 : H4.get H.next = _ := ((s3.trans s4).same _ (by omega)).trans g2
  have s24 := s3.trans s4
  have bad : ¬ LayAt s.ts k → dec (Lay s.ts) = false := fun hb => dec_no fun hl => hb (hl.2 k hk)
  rw [layAt_iff hk hP] at bad
  have good : (∃ m, nx (prev s.ts k) s.ts[k] = some m ∧ (k = 0 → m = 0) ∧ s.ts[k].sp ≤ 3 ∧ s.ts[k].te ≤ 7) → ∀ j, j < k + 1 → LayAt s.ts j := fun hm j hj => by
   rcases Nat.lt_or_ge j k with h | h
   ·exact hP j h
   ·have : j = k := by omega
    subst this
    exact (layAt_iff hk hP).2 hm
  cases hx : nx (prev s.ts k) s.ts[k] with
  | none =>
   unfold nxV
   simp (disch := first | omega | (simp only [RY] <;> omega) | decide) only [↓RD, RZ, eq_self, Int.reduceToNat, Int.reduceAdd, Nat.reduceAdd, Nat.reduceSub, Nat.reduceMul, Nat.reduceLeDiff]
   exact ⟨by rw [bad (by rw [hx]; rintro ⟨m, h, _⟩; cases h)], s2.trans s24⟩
  | some m =>
   rw [hx] at bad good
   unfold nxV
   by_cases q1 : k = 0 ∧ m ≠ 0
   ·obtain ⟨rfl, hm⟩ := q1
    simp (disch := first | omega | (simp only [RY] <;> omega) | decide) only [↓RD, RZ, eq_self, Int.reduceToNat, Int.reduceAdd, Nat.reduceAdd, Nat.reduceSub, Nat.reduceMul, Nat.reduceLeDiff, hm]
    exact ⟨by rw [bad (by rintro ⟨m', h, h2, _⟩; cases h; exact hm (h2 rfl))], s2.trans s24⟩
   ·have q2 : k ≠ 0 ∨ (k = 0 ∧ m = 0) := by omega
    have b4 : H4.get (H.next + 1) = _ := (s24.same _ (by omega)).trans b2
    have fin : ∀ Q, Grow H (H4.set (H.next + 1) Q) := fun Q => (s2.trans s24).set (by omega) _
    rcases q2 with q2 | ⟨rfl, rfl⟩
    ·by_cases t1 : 3 < s.ts[k].sp
     ·simp (disch := first | omega | (simp only [RY] <;> omega) | decide) only [↓RD, RZ, eq_self, Int.reduceToNat, Int.reduceAdd, Nat.reduceAdd, Nat.reduceSub, Nat.reduceMul, Nat.reduceLeDiff, c4]
      exact ⟨by rw [bad (by rintro ⟨m', h, h2, h3, _⟩; omega)], s2.trans s24⟩
     by_cases t2 : 7 < s.ts[k].te
     ·simp (disch := first | omega | (simp only [RY] <;> omega) | decide) only [↓RD, RZ, eq_self, Int.reduceToNat, Int.reduceAdd, Nat.reduceAdd, Nat.reduceSub, Nat.reduceMul, Nat.reduceLeDiff, c4]
      exact ⟨by rw [bad (by rintro ⟨m', h, h2, h3, _⟩; omega)], s2.trans s24⟩
     simp (disch := first | omega | (simp only [RY] <;> omega) | decide) only [↓RD, RZ, eq_self, Int.reduceToNat, Int.reduceAdd, Nat.reduceAdd, Nat.reduceSub, Nat.reduceMul, Nat.reduceLeDiff, c4, hd.1, hd.2, he.1, he.2, hf.1, hf.2, b4]
     refine ⟨by rfl, fin _, by omega, g4, good ⟨m, rfl, fun h => by omega, by omega, by omega⟩, d, e, f, ⟨hd, he, hf⟩, ?_⟩
     rw [prev_succ hk]
    ·by_cases t1 : 3 < s.ts[0].sp
     ·simp (disch := first | omega | (simp only [RY] <;> omega) | decide) only [↓RD, RZ, eq_self, Int.reduceToNat, Int.reduceAdd, Nat.reduceAdd, Nat.reduceSub, Nat.reduceMul, Nat.reduceLeDiff, c4]
      exact ⟨by rw [bad (by rintro ⟨m', h, h2, h3, _⟩; omega)], s2.trans s24⟩
     by_cases t2 : 7 < s.ts[0].te
     ·simp (disch := first | omega | (simp only [RY] <;> omega) | decide) only [↓RD, RZ, eq_self, Int.reduceToNat, Int.reduceAdd, Nat.reduceAdd, Nat.reduceSub, Nat.reduceMul, Nat.reduceLeDiff, c4]
      exact ⟨by rw [bad (by rintro ⟨m', h, h2, h3, _⟩; omega)], s2.trans s24⟩
     simp (disch := first | omega | (simp only [RY] <;> omega) | decide) only [↓RD, RZ, eq_self, Int.reduceToNat, Int.reduceAdd, Nat.reduceAdd, Nat.reduceSub, Nat.reduceMul, Nat.reduceLeDiff, c4, hd.1, hd.2, he.1, he.2, hf.1, hf.2, b4]
     refine ⟨by rfl, fin _, by omega, g4, good ⟨0, rfl, fun h => by omega, by omega, by omega⟩, d, e, f, ⟨hd, he, hf⟩, ?_⟩
     rw [prev_succ hk]
 ·rintro L H2 ⟨rfl, s2, n2, g2, hP, -⟩
  unfold zc5
  by_cases e1 : 1 ≤ s.ts.length
  ·by_cases e2 : s.ts.length ≤ 64
   ·simp (disch := first | omega | (simp only [RY] <;> omega) | decide) only [↓RD, RZ, eq_self, Int.reduceToNat, Int.reduceAdd, Nat.reduceAdd, Nat.reduceSub, Nat.reduceMul, Nat.reduceLeDiff, g2, h.ts.vlen]
    exact ⟨by rw [dec_yes ⟨⟨e1, e2⟩, hP⟩], s2⟩
   ·simp (disch := first | omega | (simp only [RY] <;> omega) | decide) only [↓RD, RZ, eq_self, Int.reduceToNat, Int.reduceAdd, Nat.reduceAdd, Nat.reduceSub, Nat.reduceMul, Nat.reduceLeDiff, g2, h.ts.vlen]
    exact ⟨by rw [dec_no fun hl => e2 hl.1.2], s2⟩
  ·simp (disch := first | omega | (simp only [RY] <;> omega) | decide) only [↓RD, RZ, eq_self, Int.reduceToNat, Int.reduceAdd, Nat.reduceAdd, Nat.reduceSub, Nat.reduceMul, Nat.reduceLeDiff, g2, h.ts.vlen]
   exact ⟨by rw [dec_no fun hl => e1 hl.1.1], s2⟩
end Go.Ax.D9
/- Dep5 -/
namespace Go.Ax.D9
open Go.Ax
theorem spatial_ok {lo : Nat} {H : Heap} {s : Sr} {a b c : V} (h : SrC lo H s a b c) (hn : s.ts.length ≤ 1099511627776) (hr : ∀ t ∈ s.ts, 0 ≤ t.sp ∧ t.sp ≤ 4) :
  Ok (sem T zct [.agg (scells s a b c)]) H fun r H' => r = .int .i64 (if s.ts.length = 0 then 0 else top s.ts + 1) ∧ Grow H H' := by
 refine zfw ?_
 unfold zeu
 unfold scells
 simp (disch := first | omega | (simp only [RY] <;> omega) | decide) only [↓RD, RZ, eq_self, Int.reduceToNat, Int.reduceAdd, Nat.reduceAdd, Nat.reduceSub, Nat.reduceMul, Nat.reduceLeDiff, h.ts.cells1, h.ts.okc, h.pro.cells1, h.pro.okc, h.siz.cells1, h.siz.okc, h.ts.vlen]
 generalize hH1 : Heap.new H _ = H1
 have s1 : Grow H H1 := by rw [← hH1]; exact Grow.new _ _
 clear hH1
 have tb : ∀ k, 0 ≤ top (s.ts.take k) ∧ top (s.ts.take k) ≤ 4 := by
  intro k
  induction k with
  | zero => simp [top]
  | succ k ih =>
   by_cases hk : k < s.ts.length
   ·rw [top_take hk]
    have := hr _ (List.getElem_mem hk)
    omega
   ·rw [List.take_of_length_le (by omega)]
    rw [List.take_of_length_le (by omega)] at ih
    exact ih
 refine zaK (fun k L H' => ∃ m : Int, L = [.int .i64 m, .int .i64 (k : Nat)] ∧ m = (if k = 0 then 0 else top (s.ts.take k) + 1) ∧ Grow H H') s.ts.length ?_ ?_ ?_
 ·exact ⟨0, rfl, rfl, s1⟩
 ·rintro k L H2 hk ⟨m, rfl, hm, s2⟩
  obtain ⟨q, d, e, f, i1, l1, w1⟩ := (h.ts.ext s2).at hk
  obtain ⟨-, -, -, -, -, l2⟩ := pl5 l1
  have hd := w1.dti.cel
  have he := w1.dif.cel
  have hf := w1.cha.cel
  have hb := hr _ (List.getElem_mem hk)
  unfold zcS
  simp (disch := first | omega | (simp only [RY] <;> omega) | decide) only [↓RD, RZ, eq_self, Int.reduceToNat, Int.reduceAdd, Nat.reduceAdd, Nat.reduceSub, Nat.reduceMul, Nat.reduceLeDiff, i1, l2, hd.1, hd.2, he.1, he.2, hf.1, hf.2, mm1]
  refine ⟨_, by rfl, ?_, s2.trans ((Grow.new _ _).set (by omega) _)⟩
  rw [if_neg (by omega), top_take hk]
  have := tb k
  by_cases h0 : k = 0
  ·rw [if_pos h0] at hm
   subst h0
   have : top (s.ts.take 0) = 0 := rfl
   omega
  ·rw [if_neg h0] at hm
   omega
 ·rintro L H2 ⟨m, rfl, hm, s2⟩
  unfold zcS
  rw [List.take_length] at hm
  rw [← hm]
  simp (disch := first | omega | (simp only [RY] <;> omega) | decide) only [↓RD, RZ, eq_self, Int.reduceToNat, Int.reduceAdd, Nat.reduceAdd, Nat.reduceSub, Nat.reduceMul, Nat.reduceLeDiff]
  exact s2
theorem fineT_ok {lo : Nat} {H : Heap} {s : Sr} {t : Tm} {a b c d e f : V} (ha : Cel a) (hb : Cel b) (hc : Cel c) (h : TmR lo H t d e f) (ho : TmO t) :
  Ok (sem T zbn [.agg (scells s a b c), .agg [.int .i64 t.sp, .int .i64 t.te, d, e, f]]) H fun r H' => r = .bool (fineT s.tar s.cha t) ∧ Grow H H' := by
 refine zdZ ?_
 unfold zcT
 have n1 := ho.dti.2
 have n2 := ho.dif.2
 have n3 := ho.cha.2
 unfold scells
 simp (disch := first | omega | (simp only [RY] <;> omega) | decide) only [↓RD, RZ, Nat.reduceAdd, ha.1, ha.2, hb.1, hb.2, hc.1, hc.2, h.dti.cells1, h.dti.okc, h.dif.cells1, h.dif.okc, h.cha.cells1, h.cha.okc]
 generalize hH2 : Heap.new (Heap.new H _) _ = H2
 have s2 : Grow H H2 := by rw [← hH2]; exact (Grow.new _ _).trans (Grow.new _ _)
 have m2 : H2.next = H.next + 2 := by rw [← hH2]; rfl
 have g1 : H2.get H.next = some ⟨zag, [.int .i64 s.off, .int .i64 s.tar, a, .int .i64 s.cha, b, c], none⟩ := by rw [← hH2, zay _ _ (by rw [zan]; omega), zak]
 have g2 : H2.get (H.next + 1) = some ⟨zah, [.int .i64 t.sp, .int .i64 t.te, d, e, f], none⟩ := by rw [← hH2]; exact zak _ _
 clear hH2
 refine zac (within_ok (h.dti.ext s2) s.tar 0 3 (by omega)) ?_
 rintro _ H3 ⟨rfl, s3⟩
 have a1 : H3.get H.next = _ := (s3.same _ (by omega)).trans g1
 have a2 : H3.get (H.next + 1) = _ := (s3.same _ (by omega)).trans g2
 have s23 := s2.trans s3
 unfold fineT
 cases w1 : wi t.dti s.tar 0 3 with
 | false =>
  simp (disch := first | omega | (simp only [RY] <;> omega) | decide) only [↓RD, RZ, Nat.reduceAdd]
  exact ⟨rfl, s23⟩
 | true =>
  simp (disch := first | omega | (simp only [RY] <;> omega) | decide) only [↓RD, RZ, Nat.reduceAdd, a2]
  refine zac (diffs_ok (h.dif.ext s23) 8 16 (by omega)) ?_
  rintro _ H4 ⟨rfl, s4⟩
  have n3 := s3.next
  have a3 : H4.get H.next = _ := (s4.same _ (by omega)).trans a1
  have a4 : H4.get (H.next + 1) = _ := (s4.same _ (by omega)).trans a2
  cases w2 : di t.dif 8 16 with
  | false =>
   simp (disch := first | omega | (simp only [RY] <;> omega) | decide) only [↓RD, RZ, Nat.reduceAdd]
   exact ⟨rfl, s23.trans s4⟩
  | true =>
   simp (disch := first | omega | (simp only [RY] <;> omega) | decide) only [↓RD, RZ, Nat.reduceAdd, a3, a4]
   refine zac (within_ok (h.cha.ext (s23.trans s4)) s.cha 0 15 (by omega)) ?_
   rintro _ H5 ⟨rfl, s5⟩
   simp (disch := first | omega | (simp only [RY] <;> omega) | decide) only [↓RD, RZ, Nat.reduceAdd]
   exact ⟨by simp, (s23.trans s4).trans s5⟩
theorem IndexFuncT_ok {lo : Nat} {H : Heap} {v f : V} {ts : List Tm} (h : Tms lo H v ts) (P : Tm → Bool) (hn : ts.length ≤ 1099511627776)
  (hf : ∀ H', Grow H H' → ∀ (t : Tm), t ∈ ts → ∀ (a b c : V), TmR lo H' t a b c → Ok (callv (sem T) f [.agg [.int .i64 t.sp, .int .i64 t.te, a, b, c]]) H' fun r H'' => r = .bool (P t) ∧ Grow H' H'') :
  Ok (sem T zav [v, f]) H fun r H' => r = idxV (ts.findIdx? P) ∧ Grow H H' := by
 refine zbF ?_
 unfold zaX
 simp (disch := omega) only [↓RD, RZ, h.vlen]
 refine zaK (fun k L H' => L = [.int .i64 (k : Nat)] ∧ Grow H H' ∧ ∀ j (hj : j < ts.length), j < k → P ts[j] = false) ts.length ?_ ?_ ?_
 ·exact ⟨rfl, Grow.refl _, fun j hj hk => absurd hk (by omega)⟩
 ·rintro k L H1 hk ⟨rfl, s1, hP⟩
  obtain ⟨q, a, b, c, i1, l1, w1⟩ := (h.ext s1).at hk
  obtain ⟨-, -, -, -, -, l2⟩ := pl5 l1
  unfold zaF
  simp (disch := omega) only [↓RD, RZ, i1, l2]
  refine zac (hf H1 s1 _ (List.getElem_mem hk) a b c w1) ?_
  rintro _ H2 ⟨rfl, s2⟩
  cases hp : P ts[k] with
  | true =>
   simp (disch := omega) only [↓RD, RZ]
   refine ⟨?_, s1.trans s2⟩
   have : ts.findIdx? P = some k := List.findIdx?_eq_some_iff_getElem.2 ⟨hk, hp, fun j hj => by rw [hP j (by omega) hj]; decide⟩
   rw [this]; rfl
  | false =>
   simp (disch := omega) only [↓RD, RZ]
   refine ⟨by rfl, s1.trans s2, fun j hj hjk => ?_⟩
   rcases Nat.lt_or_ge j k with h | h
   ·exact hP j hj h
   ·have : j = k := by omega
    subst this; exact hp
 ·rintro L H1 ⟨rfl, s1, hP⟩
  unfold zaF
  simp (disch := omega) only [↓RD, RZ]
  refine ⟨?_, s1⟩
  have : ts.findIdx? P = none := List.findIdx?_eq_none_iff.2 fun x hx => by
   obtain ⟨j, hj, rfl⟩ := List.getElem_of_mem hx
   exact hP j hj hj
  rw [this]; rfl
theorem ContainsT_ok {lo : Nat} {H : Heap} {v f : V} {ts : List Tm} (h : Tms lo H v ts) (P : Tm → Bool) (hn : ts.length ≤ 1099511627776)
  (hf : ∀ H', Grow H H' → ∀ (t : Tm), t ∈ ts → ∀ (a b c : V), TmR lo H' t a b c → Ok (callv (sem T) f [.agg [.int .i64 t.sp, .int .i64 t.te, a, b, c]]) H' fun r H'' => r = .bool (!P t) ∧ Grow H' H'') :
  Ok (sem T zap [v, f]) H fun r H' => r = .bool (!ts.all P) ∧ Grow H H' := by
 refine zbv ?_
 unfold zaT
 refine zac (IndexFuncT_ok h (fun x => !P x) hn hf) ?_
 rintro _ H1 ⟨rfl, s1⟩
 rw [← all_idx]
 cases ts.findIdx? (fun x => !P x) with
 | none => unfold idxV; simp (disch := omega) only [↓RD, RZ]; exact ⟨rfl, s1⟩
 | some i => unfold idxV; simp (disch := omega) only [↓RD, RZ]; exact ⟨rfl, s1⟩
theorem box_il {H : Heap} {id : Nat} {ty : TypeId} {x y : Int} (h : H.get id = some ⟨ty, [.int .i64 x, .int .i64 y], none⟩) (hi : id < H.next) : Il 0 H (.sl id 0 2 (.fix 2)) [x, y] := by
 refine ⟨?_, fun i hi' => ?_, Nat.le_refl _⟩
 ·simp only [rcells, h, Option.bind_some]
  rw [if_pos (by simp)]; rfl
 ·simp only [V.pid, Option.some.injEq] at hi'
  subst hi'; exact ⟨Nat.zero_le _, hi⟩
theorem Fine_ok {lo : Nat} {H : Heap} {v : V} {s : Sr} (h : SrR lo H v s) (ho : SrO s) :
  Ok (sem T zb5 [v]) H fun r H' => r = .bool (fine s) ∧ Grow H H' := by
 obtain ⟨a, b, c, rfl, h⟩ := h
 have nt := ho.ts
 have np := ho.pro.2
 have ns := ho.siz.1
 refine zgb ?_
 unfold zfn
 unfold scells
 simp (disch := first | omega | (simp only [RY] <;> omega) | decide) only [↓RD, RZ, eq_self, Int.reduceToNat, Int.reduceAdd, Nat.reduceAdd, Nat.reduceSub, Nat.reduceMul, Nat.reduceLeDiff, h.ts.cells1, h.ts.okc, h.pro.cells1, h.pro.okc, h.siz.cells1, h.siz.okc]
 generalize hH1 : Heap.new H _ = H1
 have s1 : Grow H H1 := by rw [← hH1]; exact Grow.new _ _
 have n1 : H1.next = H.next + 1 := by rw [← hH1]; rfl
 have g1 : H1.get H.next = some ⟨zag, [.int .i64 s.off, .int .i64 s.tar, a, .int .i64 s.cha, b, c], none⟩ := by rw [← hH1]; exact zak _ _
 clear hH1
 generalize hpc : (if s.cha = 0 then 0 else s.tar : Int) = pc
 refine zaM (Q := fun r H' => r = Res.nrm [.int .i64 pc] ∧ H' = H1) ?_ ?_
 ·refine ok_iteb (fun hz => ?_) fun hz => ?_
  ·simp (disch := first | omega | (simp only [RY] <;> omega) | decide) only [↓RD, RZ, eq_self, Int.reduceToNat, Int.reduceAdd, Nat.reduceAdd, Nat.reduceSub, Nat.reduceMul, Nat.reduceLeDiff]
   rw [← hpc, if_pos hz]
  ·simp (disch := first | omega | (simp only [RY] <;> omega) | decide) only [↓RD, RZ, eq_self, Int.reduceToNat, Int.reduceAdd, Nat.reduceAdd, Nat.reduceSub, Nat.reduceMul, Nat.reduceLeDiff]
   rw [← hpc, if_neg hz]
 rintro _ H' ⟨rfl, hH'⟩
 have : H' = H1 := hH'
 subst this
 by_cases a1 : s.off < 0
 ·simp (disch := first | omega | (simp only [RY] <;> omega) | decide) only [↓RD, RZ, eq_self, Int.reduceToNat, Int.reduceAdd, Nat.reduceAdd, Nat.reduceSub, Nat.reduceMul, Nat.reduceLeDiff, g1]
  exact ⟨by rw [fine_no fun h => by have := h.off; omega], s1⟩
 by_cases a2 : 64 ≤ s.off
 ·simp (disch := first | omega | (simp only [RY] <;> omega) | decide) only [↓RD, RZ, eq_self, Int.reduceToNat, Int.reduceAdd, Nat.reduceAdd, Nat.reduceSub, Nat.reduceMul, Nat.reduceLeDiff, g1]
  exact ⟨by rw [fine_no fun h => by have := h.off; omega], s1⟩
 by_cases a3 : s.tar < 1
 ·simp (disch := first | omega | (simp only [RY] <;> omega) | decide) only [↓RD, RZ, eq_self, Int.reduceToNat, Int.reduceAdd, Nat.reduceAdd, Nat.reduceSub, Nat.reduceMul, Nat.reduceLeDiff, g1]
  exact ⟨by rw [fine_no fun h => by have := h.tar; omega], s1⟩
 by_cases a4 : 32 < s.tar
 ·simp (disch := first | omega | (simp only [RY] <;> omega) | decide) only [↓RD, RZ, eq_self, Int.reduceToNat, Int.reduceAdd, Nat.reduceAdd, Nat.reduceSub, Nat.reduceMul, Nat.reduceLeDiff, g1]
  exact ⟨by rw [fine_no fun h => by have := h.tar; omega], s1⟩
 by_cases a5 : s.cha < 0
 ·simp (disch := first | omega | (simp only [RY] <;> omega) | decide) only [↓RD, RZ, eq_self, Int.reduceToNat, Int.reduceAdd, Nat.reduceAdd, Nat.reduceSub, Nat.reduceMul, Nat.reduceLeDiff, g1]
  exact ⟨by rw [fine_no fun h => by have := h.cha; omega], s1⟩
 by_cases a6 : s.tar < s.cha
 ·simp (disch := first | omega | (simp only [RY] <;> omega) | decide) only [↓RD, RZ, eq_self, Int.reduceToNat, Int.reduceAdd, Nat.reduceAdd, Nat.reduceSub, Nat.reduceMul, Nat.reduceLeDiff, g1]
  exact ⟨by rw [fine_no fun h => by have := h.cha; omega], s1⟩
 simp (disch := first | omega | (simp only [RY] <;> omega) | decide) only [↓RD, RZ, eq_self, Int.reduceToNat, Int.reduceAdd, Nat.reduceAdd, Nat.reduceSub, Nat.reduceMul, Nat.reduceLeDiff, g1]
 refine zac (within_ok (h.pro.ext s1) pc 0 (s.cha - 1) (by omega)) ?_
 rintro _ H2 ⟨rfl, s2⟩
 have n2 := s2.next
 have g2 : H2.get H.next = _ := (s2.same _ (by omega)).trans g1
 have s12 := s1.trans s2
 cases w1 : wi s.pro pc 0 (s.cha - 1) with
 | false =>
  simp (disch := first | omega | (simp only [RY] <;> omega) | decide) only [↓RD, RZ, eq_self, Int.reduceToNat, Int.reduceAdd, Nat.reduceAdd, Nat.reduceSub, Nat.reduceMul, Nat.reduceLeDiff]
  exact ⟨by rw [fine_no fun h => by have := h.pro; rw [hpc, w1] at this; cases this], s12⟩
 | true =>
 simp (disch := first | omega | (simp only [RY] <;> omega) | decide) only [↓RD, RZ, eq_self, Int.reduceToNat, Int.reduceAdd, Nat.reduceAdd, Nat.reduceSub, Nat.reduceMul, Nat.reduceLeDiff, g2]
 refine zac (layers_ok (h.ext s12) (by omega)) ?_
 rintro _ H3 ⟨rfl, s3⟩
 have n3 := s3.next
 have g3 : H3.get H.next = _ := (s3.same _ (by omega)).trans g2
 have s13 := s12.trans s3
 rcases Classical.em (Lay s.ts) with w2 | w2
 rotate_left
 ·rw [dec_no w2]
  simp (disch := first | omega | (simp only [RY] <;> omega) | decide) only [↓RD, RZ, eq_self, Int.reduceToNat, Int.reduceAdd, Nat.reduceAdd, Nat.reduceSub, Nat.reduceMul, Nat.reduceLeDiff]
  exact ⟨by rw [fine_no fun h => w2 ⟨h.len, h.lay⟩], s13⟩
 rw [dec_yes w2]
 have rng : ∀ t ∈ s.ts, 0 ≤ t.sp ∧ t.sp ≤ 3 ∧ 0 ≤ t.te ∧ t.te ≤ 7 := fun t ht => by
  obtain ⟨j, hj, rfl⟩ := List.getElem_of_mem ht
  have := layAt_rng (w2.2 j hj)
  rwa [getD_get hj] at this
 obtain ⟨⟨w3, w4⟩, w5⟩ := w2
 -- the sizes' number
 have last : ∀ H4, H.next < H4.next → Grow H H4 → H4.get H.next = some ⟨zag, [.int .i64 s.off, .int .i64 s.tar, a, .int .i64 s.cha, b, c], none⟩ → (s.siz.length = 0 ∨ (s.siz.length : Int) = top s.ts + 1) →
   Ok (M.iter (zcU (sem T) (.int .i64 (s.siz.length : Nat)) c) [.int .i64 0]) H4 fun r H' => Grow H H' ∧ (H.next < H'.next ∧ H'.get H.next = some ⟨zag, [.int .i64 s.off, .int .i64 s.tar, a, .int .i64 s.cha, b, c], none⟩) ∧ ((r = .ex 0 [] ∧ ∀ x ∈ s.siz, (1 ≤ x.1 ∧ x.1 ≤ 65536) ∧ (1 ≤ x.2 ∧ x.2 ≤ 65536)) ∨ (r = .ret [.bool false] ∧ fine s = false)) := by
  intro H4 hlt s4 g4 _
  refine zaK (fun k L H' => L = [.int .i64 (k : Nat)] ∧ Grow H4 H' ∧ ∀ j (hj : j < s.siz.length), j < k → (1 ≤ s.siz[j].1 ∧ s.siz[j].1 ≤ 65536) ∧ (1 ≤ s.siz[j].2 ∧ s.siz[j].2 ≤ 65536)) s.siz.length ?_ ?_ ?_
  ·exact ⟨rfl, Grow.refl _, fun j hj hk => absurd hk (by omega)⟩
  ·rintro k L H5 hk ⟨rfl, s5, hP⟩
   obtain ⟨q, i1, l1⟩ := szs_at ((h.siz.ext s4).ext s5) hk
   obtain ⟨-, -, l2⟩ := pl2 l1
   unfold zcU
   have ev : vslice (.arr 2) 1 (.ptr H5.next 0) none none none = some (.sl H5.next 0 2 (.fix 2)) := by simp [vslice, optInt]
   simp (disch := first | omega | (simp only [RY] <;> omega) | decide) only [↓RD, RZ, eq_self, Int.reduceToNat, Int.reduceAdd, Nat.reduceAdd, Nat.reduceSub, Nat.reduceMul, Nat.reduceLeDiff, i1, l2, ev]
   generalize hH6 : Heap.set _ _ _ = H6
   have s6 : Grow H5 H6 := by rw [← hH6]; exact (Grow.new _ _).set (by omega) _
   have n6 : H6.next = H5.next + 1 := by rw [← hH6]; rfl
   have g6 : H6.get H5.next = some ⟨zg5, [.int .i64 s.siz[k].1, .int .i64 s.siz[k].2], none⟩ := by rw [← hH6]; exact zaq _ _ _
   clear hH6
   refine zac (within_ok (box_il g6 (by omega)) 2 1 65536 (by simp)) ?_
   rintro _ H7 ⟨rfl, s7⟩
   cases w6 : wi [s.siz[k].1, s.siz[k].2] 2 1 65536 with
   | false =>
    simp (disch := first | omega | (simp only [RY] <;> omega) | decide) only [↓RD, RZ, eq_self, Int.reduceToNat, Int.reduceAdd, Nat.reduceAdd, Nat.reduceSub, Nat.reduceMul, Nat.reduceLeDiff]
    refine ⟨((s4.trans s5).trans s6).trans s7, ⟨Nat.lt_of_lt_of_le hlt ((s5.trans s6).trans s7).next, (((s5.trans s6).trans s7).same _ hlt).trans g4⟩, .inr (fine_no fun h => ?_)⟩
    have := h.szs _ (List.getElem_mem hk)
    have : wi [s.siz[k].1, s.siz[k].2] 2 1 65536 = true := wi_iff.2 ⟨rfl, fun x hx => by
     simp only [List.mem_cons, List.not_mem_nil, or_false] at hx
     rcases hx with rfl | rfl
     ·exact this.1
     ·exact this.2⟩
    rw [this] at w6; cases w6
   | true =>
    simp (disch := first | omega | (simp only [RY] <;> omega) | decide) only [↓RD, RZ, eq_self, Int.reduceToNat, Int.reduceAdd, Nat.reduceAdd, Nat.reduceSub, Nat.reduceMul, Nat.reduceLeDiff]
    refine ⟨by rfl, (s5.trans s6).trans s7, fun j hj hjk => ?_⟩
    rcases Nat.lt_or_ge j k with h | h
    ·exact hP j hj h
    ·have : j = k := by omega
     subst this
     have := (wi_iff.1 w6).2
     exact ⟨this _ (by simp), this _ (by simp)⟩
  ·rintro L H5 ⟨rfl, s5, hP⟩
   unfold zcU
   simp (disch := first | omega | (simp only [RY] <;> omega) | decide) only [↓RD, RZ, eq_self, Int.reduceToNat, Int.reduceAdd, Nat.reduceAdd, Nat.reduceSub, Nat.reduceMul, Nat.reduceLeDiff]
   refine ⟨s4.trans s5, ⟨Nat.lt_of_lt_of_le hlt s5.next, (s5.same _ hlt).trans g4⟩, .inl fun x hx => ?_⟩
   obtain ⟨j, hj, rfl⟩ := List.getElem_of_mem hx
   exact hP j hj hj
 have fin : ∀ H5, H.next < H5.next → Grow H H5 → H5.get H.next = some ⟨zag, [.int .i64 s.off, .int .i64 s.tar, a, .int .i64 s.cha, b, c], none⟩ → (s.siz.length = 0 ∨ (s.siz.length : Int) = top s.ts + 1) → (∀ x ∈ s.siz, (1 ≤ x.1 ∧ x.1 ≤ 65536) ∧ (1 ≤ x.2 ∧ x.2 ≤ 65536)) →
   Ok (sem T zap [a, .fn zb3 [.ptr H.next 0]]) H5 fun r H' => r = .bool (!fine s) ∧ Grow H H' := by
  intro H5 hlt s5 g5 e1 e2
  refine zaM (ContainsT_ok (h.ts.ext s5) (fineT s.tar s.cha) (by omega) fun H6 s6 t ht d e f w => ?_) ?_
  ·have g6 : H6.get H.next = _ := (s6.same _ hlt).trans g5
   show Ok (sem T zb3 [.agg [.int .i64 t.sp, .int .i64 t.te, d, e, f], .ptr H.next 0]) H6 _
   refine zfM ?_
   unfold zeV
   have := s6.next
   simp (disch := first | omega | (simp only [RY] <;> omega) | decide) only [↓RD, RZ, eq_self, Int.reduceToNat, Int.reduceAdd, Nat.reduceAdd, Nat.reduceSub, Nat.reduceMul, Nat.reduceLeDiff, w.dti.cells1, w.dti.okc, w.dif.cells1, w.dif.okc, w.cha.cells1, w.cha.okc, g6]
   refine zac (fineT_ok (s := s) h.ts.cel h.pro.cel h.siz.cel (w.ext (Grow.new _ _)) (ho.tm t ht)) ?_
   rintro _ H7 ⟨rfl, s7⟩
   simp (disch := first | omega | (simp only [RY] <;> omega) | decide) only [↓RD, RZ, eq_self, Int.reduceToNat, Int.reduceAdd, Nat.reduceAdd, Nat.reduceSub, Nat.reduceMul, Nat.reduceLeDiff]
   exact (Grow.new _ _).trans s7
  ·rintro _ H6 ⟨rfl, s6⟩
   refine ⟨?_, s5.trans s6⟩
   congr 2
   cases hall : s.ts.all (fineT s.tar s.cha) with
   | true => rw [fine_yes ⟨by omega, by omega, by omega, ⟨w3, w4⟩, by rw [hpc]; exact w1, w5, e1, e2, fun t ht => List.all_eq_true.1 hall t ht⟩]
   | false => rw [fine_no fun h => by rw [List.all_eq_true.2 h.tms] at hall; cases hall]
 by_cases hs0 : s.siz.length = 0
 ·simp (disch := first | omega | (simp only [RY] <;> omega) | decide) only [↓RD, RZ, eq_self, Int.reduceToNat, Int.reduceAdd, Nat.reduceAdd, Nat.reduceSub, Nat.reduceMul, Nat.reduceLeDiff, g3, h.siz.vlen, hs0]
  have l0 := last H3 (by omega) s13 g3 (.inl hs0)
  rw [hs0] at l0
  refine zaM l0 ?_
  rintro r H' ⟨h1, ⟨h0, h2⟩, ⟨rfl, h3⟩ | ⟨rfl, h3⟩⟩
  ·simp (disch := first | omega | (simp only [RY] <;> omega) | decide) only [↓RD, RZ, eq_self, Int.reduceToNat, Int.reduceAdd, Nat.reduceAdd, Nat.reduceSub, Nat.reduceMul, Nat.reduceLeDiff, h2]
   refine zac (fin _ h0 h1 h2 (.inl hs0) h3) ?_
   rintro _ H5 ⟨rfl, s5⟩
   simp (disch := first | omega | (simp only [RY] <;> omega) | decide) only [↓RD, RZ, eq_self, Int.reduceToNat, Int.reduceAdd, Nat.reduceAdd, Nat.reduceSub, Nat.reduceMul, Nat.reduceLeDiff]
   exact ⟨by simp, s5⟩
  ·simp (disch := first | omega | (simp only [RY] <;> omega) | decide) only [↓RD, RZ, eq_self, Int.reduceToNat, Int.reduceAdd, Nat.reduceAdd, Nat.reduceSub, Nat.reduceMul, Nat.reduceLeDiff]
   exact ⟨by rw [h3], h1⟩
 ·simp (disch := first | omega | (simp only [RY] <;> omega) | decide) only [↓RD, RZ, eq_self, Int.reduceToNat, Int.reduceAdd, Nat.reduceAdd, Nat.reduceSub, Nat.reduceMul, Nat.reduceLeDiff, g3, h.siz.vlen]
  refine zac (spatial_ok (h.ext s13) (by omega) fun t ht => by have := rng t ht; omega) ?_
  rintro _ H4 ⟨rfl, s4⟩
  have n4 := s4.next
  have g4 : H4.get H.next = _ := (s4.same _ (by omega)).trans g3
  rw [if_neg (by omega)]
  by_cases hs1 : (s.siz.length : Int) = top s.ts + 1
  ·rw [← hs1]
   simp (disch := first | omega | (simp only [RY] <;> omega) | decide) only [↓RD, RZ, eq_self, Int.reduceToNat, Int.reduceAdd, Nat.reduceAdd, Nat.reduceSub, Nat.reduceMul, Nat.reduceLeDiff, g4, h.siz.vlen]
   refine zaM (last H4 (by omega) (s13.trans s4) g4 (.inr hs1)) ?_
   rintro r H' ⟨h1, ⟨h0, h2⟩, ⟨rfl, h3⟩ | ⟨rfl, h3⟩⟩
   ·simp (disch := first | omega | (simp only [RY] <;> omega) | decide) only [↓RD, RZ, eq_self, Int.reduceToNat, Int.reduceAdd, Nat.reduceAdd, Nat.reduceSub, Nat.reduceMul, Nat.reduceLeDiff, h2]
    refine zac (fin _ h0 h1 h2 (.inr hs1) h3) ?_
    rintro _ H5 ⟨rfl, s5⟩
    simp (disch := first | omega | (simp only [RY] <;> omega) | decide) only [↓RD, RZ, eq_self, Int.reduceToNat, Int.reduceAdd, Nat.reduceAdd, Nat.reduceSub, Nat.reduceMul, Nat.reduceLeDiff]
    exact ⟨by simp, s5⟩
   ·simp (disch := first | omega | (simp only [RY] <;> omega) | decide) only [↓RD, RZ, eq_self, Int.reduceToNat, Int.reduceAdd, Nat.reduceAdd, Nat.reduceSub, Nat.reduceMul, Nat.reduceLeDiff]
    exact ⟨by rw [h3], h1⟩
  ·simp (disch := first | omega | (simp only [RY] <;> omega) | decide) only [↓RD, RZ, eq_self, Int.reduceToNat, Int.reduceAdd, Nat.reduceAdd, Nat.reduceSub, Nat.reduceMul, Nat.reduceLeDiff, g4]
   exact ⟨by rw [fine_no fun h => by have := h.siz; omega], s13.trans s4⟩
end Go.Ax.D9
/- Dep6 -/
namespace Go.Ax.D9
open Go.Ax
def lyV (x : Int × Int × Bool) : V := .tup [.int .i64 x.1, .int .i64 x.2.1, .bool x.2.2]
theorem dti_len {s : Sr} (h : Fine s) {t : Tm} (ht : t ∈ s.ts) : (t.dti.length : Int) = s.tar := by
 have := h.tms t ht
 unfold fineT at this
 rw [Bool.and_eq_true] at this
 exact (wi_iff.1 this.1).1
theorem Layers_ok {lo : Nat} {H : Heap} {v : V} {s : Sr} (h : SrR lo H v s) (ho : SrO s) (target : Int) :
  Ok (sem T zcG [v, .int .i64 target]) H fun r H' => r = lyV (ly s target) ∧ Grow H H' := by
 obtain ⟨a, b, c, rfl, h⟩ := h
 have nt := ho.ts
 refine zfL ?_
 unfold zeU
 unfold scells
 simp (disch := first | omega | (simp only [RY] <;> omega) | decide) only [↓RD, RZ, eq_self, Int.reduceToNat, Int.reduceAdd, Nat.reduceAdd, Nat.reduceSub, Nat.reduceMul, Nat.reduceLeDiff, h.ts.cells1, h.ts.okc, h.pro.cells1, h.pro.okc, h.siz.cells1, h.siz.okc]
 generalize hH1 : Heap.new H _ = H1
 have s1 : Grow H H1 := by rw [← hH1]; exact Grow.new _ _
 have n1 : H1.next = H.next + 1 := by rw [← hH1]; rfl
 have g1 : H1.get H.next = some ⟨zag, [.int .i64 s.off, .int .i64 s.tar, a, .int .i64 s.cha, b, c], none⟩ := by rw [← hH1]; exact zak _ _
 clear hH1
 refine zac (Fine_ok (h.ext s1).val ho) ?_
 rintro _ H2 ⟨rfl, s2⟩
 have g2 : H2.get H.next = _ := (s2.same _ (by omega)).trans g1
 have s12 := s1.trans s2
 cases hf : fine s with
 | false =>
  simp (disch := first | omega | (simp only [RY] <;> omega) | decide) only [↓RD, RZ, eq_self, Int.reduceToNat, Int.reduceAdd, Nat.reduceAdd, Nat.reduceSub, Nat.reduceMul, Nat.reduceLeDiff]
  exact ⟨by rw [ly_out (by rw [hf]; rintro ⟨h, _⟩; cases h)]; rfl, s12⟩
 | true =>
 by_cases a1 : target < 0
 ·simp (disch := first | omega | (simp only [RY] <;> omega) | decide) only [↓RD, RZ, eq_self, Int.reduceToNat, Int.reduceAdd, Nat.reduceAdd, Nat.reduceSub, Nat.reduceMul, Nat.reduceLeDiff]
  exact ⟨by rw [ly_out (by omega)]; rfl, s12⟩
 by_cases a2 : s.tar ≤ target
 ·simp (disch := first | omega | (simp only [RY] <;> omega) | decide) only [↓RD, RZ, eq_self, Int.reduceToNat, Int.reduceAdd, Nat.reduceAdd, Nat.reduceSub, Nat.reduceMul, Nat.reduceLeDiff, g2]
  exact ⟨by rw [ly_out (by omega)]; rfl, s12⟩
 simp (disch := first | omega | (simp only [RY] <;> omega) | decide) only [↓RD, RZ, eq_self, Int.reduceToNat, Int.reduceAdd, Nat.reduceAdd, Nat.reduceSub, Nat.reduceMul, Nat.reduceLeDiff, g2, h.ts.vlen]
 rw [ly_in hf (by omega) (by omega)]
 have hF := fine_iff.1 hf
 refine zaK (fun k L H' => L = [.int .i64 (lyT (s.ts.take k) target.toNat).1, .int .i64 (lyT (s.ts.take k) target.toNat).2.1, .bool (lyT (s.ts.take k) target.toNat).2.2, .int .i64 (k : Nat)] ∧ Grow H H') s.ts.length ?_ ?_ ?_
 ·exact ⟨rfl, s12⟩
 ·rintro k L H3 hk ⟨rfl, s3⟩
  obtain ⟨q, d, e, f, i1, l1, w1⟩ := (h.ts.ext s3).at hk
  obtain ⟨-, -, -, -, -, l2⟩ := pl5 l1
  have hd := w1.dti.cel
  have he := w1.dif.cel
  have hf := w1.cha.cel
  have hl := dti_len hF (List.getElem_mem hk)
  have s34 : ∀ x y, Grow H3 ((H3.new x).set H3.next y) := fun x y => (Grow.new _ _).set (by omega) _
  obtain ⟨q2, i2, l3, -⟩ := il_at' w1.dti (i := target) (by omega) (by omega)
  unfold zc6
  rw [lyT_take hk]
  generalize lyT (s.ts.take k) target.toNat = x
  have l4 := l3 _ (w1.dti.ext (s34 ⟨zah, [.int .i64 0, .int .i64 0, .nils, .nils, .nils], none⟩ (some ⟨zah, [.int .i64 s.ts[k].sp, .int .i64 s.ts[k].te, d, e, f], none⟩)))
  unfold lyF
  by_cases hz : s.ts[k].dti.getD target.toNat 0 = 0
  ·rw [if_pos hz]
   simp (disch := first | omega | (simp only [RY] <;> omega) | decide) only [↓RD, RZ, eq_self, Int.reduceToNat, Int.reduceAdd, Nat.reduceAdd, Nat.reduceSub, Nat.reduceMul, Nat.reduceLeDiff, i1, l2, hd.1, hd.2, he.1, he.2, hf.1, hf.2, i2, l4, hz]
   exact ⟨by rfl, s3.trans (s34 _ _)⟩
  ·rw [if_neg hz]
   simp (disch := first | omega | (simp only [RY] <;> omega) | decide) only [↓RD, RZ, eq_self, Int.reduceToNat, Int.reduceAdd, Nat.reduceAdd, Nat.reduceSub, Nat.reduceMul, Nat.reduceLeDiff, i1, l2, hd.1, hd.2, he.1, he.2, hf.1, hf.2, i2, l4, mm1]
   exact ⟨by rfl, s3.trans (s34 _ _)⟩
 ·rintro L H3 ⟨rfl, s3⟩
  unfold zc6
  rw [List.take_length]
  simp (disch := first | omega | (simp only [RY] <;> omega) | decide) only [↓RD, RZ, eq_self, Int.reduceToNat, Int.reduceAdd, Nat.reduceAdd, Nat.reduceSub, Nat.reduceMul, Nat.reduceLeDiff]
  exact ⟨rfl, s3⟩
end Go.Ax.D9
/- Dep7 -/
namespace Go.Ax.D9
open Go.Ax
def wi2 (l : List Int) (n lo hi : Int) : Bool := (decide (n < 0) || decide ((l.length : Int) = n)) && inr lo hi l
theorem wi2_wi {l : List Int} {n lo hi : Int} (h : 0 ≤ n) : wi2 l n lo hi = wi l n lo hi := by
 unfold wi2 wi
 rw [decide_eq_false (by omega), Bool.false_or]
theorem wi2_neg {l : List Int} {lo hi : Int} : wi2 l (-1) lo hi = inr lo hi l := by
 unfold wi2
 rw [decide_eq_true (by omega), Bool.true_or, Bool.true_and]
theorem within2_ok {lo : Nat} {H : Heap} {v : V} {l : List Int} (h : Il lo H v l) (n a b : Int) (hl : l.length ≤ 1099511627776) :
  Ok (sem T zaw [v, .int .i64 n, .int .i64 a, .int .i64 b]) H fun r H' => r = .bool (wi2 l n a b) ∧ H' = H := by
 refine zea ?_
 unfold zcZ
 have loop : (n < 0 ∨ (l.length : Int) = n) → Ok (M.iter (zbu (sem T) (.int .i64 a) v (.int .i64 b)) [.int .i64 0]) H fun r H' => H' = H ∧ ((r = .ex 0 [] ∧ wi2 l n a b = true) ∨ (r = .ret [.bool false] ∧ wi2 l n a b = false)) := by
  intro hn
  have e : wi2 l n a b = inr a b l := by
   unfold wi2
   rcases hn with hn | hn
   ·rw [decide_eq_true hn]; simp
   ·rw [decide_eq_true hn]; simp
  rw [e]
  refine zaK (fun k L H' => L = [.int .i64 (k : Nat)] ∧ H' = H ∧ ∀ j (hj : j < l.length), j < k → a ≤ l[j] ∧ l[j] ≤ b) l.length ?_ ?_ ?_
  ·exact ⟨rfl, rfl, fun j hj hk => absurd hk (by omega)⟩
  ·rintro k L H1 hk ⟨rfl, rfl, hP⟩
   obtain ⟨p, hp, ld, -⟩ := il_at h (i := (k : Nat)) (by omega) (by omega)
   rw [Int.toNat_natCast, getD_get hk] at ld
   have bad : ¬ (a ≤ l[k] ∧ l[k] ≤ b) → inr a b l = false := fun hb => by
    cases e : inr a b l with
    | false => rfl
    | true => exact absurd (inr_iff.1 e _ (List.getElem_mem hk)) hb
   unfold zbu
   by_cases h1 : l[k] < a
   ·simp (disch := omega) only [↓RD, RZ, h.vlen, hp, ld]
    exact .inr (bad (by omega))
   by_cases h2 : b < l[k]
   ·simp (disch := omega) only [↓RD, RZ, h.vlen, hp, ld]
    exact .inr (bad (by omega))
   simp (disch := omega) only [↓RD, RZ, h.vlen, hp, ld]
   refine ⟨by rfl, fun j hj hjk => ?_⟩
   rcases Nat.lt_or_ge j k with h | h
   ·exact hP j hj h
   ·have : j = k := by omega
    subst this; omega
  ·rintro L H1 ⟨rfl, rfl, hP⟩
   unfold zbu
   simp (disch := omega) only [↓RD, RZ, h.vlen]
   refine .inl (inr_iff.2 fun x hx => ?_)
   obtain ⟨j, hj, rfl⟩ := List.getElem_of_mem hx
   exact hP j hj hj
 by_cases h0 : 0 ≤ n
 ·by_cases h1 : (l.length : Int) = n
  ·simp (disch := omega) only [↓RD, RZ, h.vlen, h1]
   refine zaM (loop (.inr h1)) ?_
   rintro r H' ⟨rfl, ⟨rfl, e⟩ | ⟨rfl, e⟩⟩
   ·rw [e]; simp (disch := omega) only [↓RD, RZ]
   ·rw [e]; simp (disch := omega) only [↓RD, RZ]
  ·simp (disch := omega) only [↓RD, RZ, h.vlen]
   unfold wi2
   rw [decide_eq_false (by omega), decide_eq_false h1]; rfl
 ·simp (disch := omega) only [↓RD, RZ]
  refine zaM (loop (.inl (by omega))) ?_
  rintro r H' ⟨rfl, ⟨rfl, e⟩ | ⟨rfl, e⟩⟩
  ·rw [e]; simp (disch := omega) only [↓RD, RZ]
  ·rw [e]; simp (disch := omega) only [↓RD, RZ]
theorem Pl.arr {H : Heap} {p : V} {cs : List V} {own : Option Nat} (h : Pl H p cs own) {n i : Nat} {k : IntKind} (hi : i < n) : Ax.iaddr (some n) 1 p (.int k (i : Nat)) = some (fa p i) := by
 have := @Pl.fa _ _ _ _ h 0
 cases p <;> simp only [Ax.faddr, reduceCtorEq] at this
 ·rw [zg6 (by omega) (by omega)]; simp [fa]
 ·rw [zgH (by omega) (by omega)]; simp [fa]
def nxI : Option Nat → Int
 | some k => (k : Nat)
 | none => 3
theorem nx_lt {s t : Tm} {k : Nat} (h : nx s t = some k) : k < 3 := by
 unfold nx at h
 split at h
 ·cases h; decide
 ·split at h
  ·cases h; decide
  ·split at h
   ·cases h; decide
   ·cases h
theorem step_ok {H : Heap} (s t : Tm) (a b c d e g : V) (hs : 0 ≤ s.sp ∧ s.sp ≤ 3) (ht : 0 ≤ s.te ∧ s.te ≤ 7) (ha : Cel a) (hb : Cel b) (hc : Cel c) (hd : Cel d) (he : Cel e) (hg : Cel g) :
  Ok (sem T zbj [.agg [.int .i64 s.sp, .int .i64 s.te, a, b, c], .agg [.int .i64 t.sp, .int .i64 t.te, d, e, g]]) H fun r H' => r = .int .i64 (nxI (nx s t)) ∧ Grow H H' := by
 refine zeD ?_
 unfold zdr
 have g2 : ∀ (x y : Blk), Grow H ((H.new x).new y) := fun x y => (Grow.new _ _).trans (Grow.new _ _)
 simp (disch := first | omega | (simp only [RY] <;> omega) | decide) only [↓RD, RZ, Nat.reduceAdd, ha.1, ha.2, hb.1, hb.2, hc.1, hc.2, hd.1, hd.2, he.1, he.2, hg.1, hg.2]
 unfold nx
 by_cases h1 : s.sp = t.sp
 ·by_cases h2 : s.te = t.te
  ·rw [if_pos ⟨h1.symm, h2.symm⟩]
   simp (disch := first | omega | (simp only [RY] <;> omega) | decide) only [↓RD, RZ, Nat.reduceAdd, h1, h2]
   exact ⟨rfl, g2 _ _⟩
  ·rw [if_neg (fun h => h2 h.2.symm)]
   by_cases h3 : s.te + 1 = t.te
   ·rw [if_pos ⟨h1.symm, h3.symm⟩]
    simp (disch := first | omega | (simp only [RY] <;> omega) | decide) only [↓RD, RZ, Nat.reduceAdd, h1, h3]
    exact ⟨rfl, g2 _ _⟩
   ·rw [if_neg (fun h => h3 h.2.symm), if_neg (by omega)]
    simp (disch := first | omega | (simp only [RY] <;> omega) | decide) only [↓RD, RZ, Nat.reduceAdd, h1]
    exact ⟨rfl, g2 _ _⟩
 ·rw [if_neg (fun h => h1 h.1.symm), if_neg (fun h => h1 h.1.symm)]
  by_cases h2 : s.sp + 1 = t.sp
  ·by_cases h3 : t.te = 0
   ·rw [if_pos ⟨h2.symm, h3⟩]
    simp (disch := first | omega | (simp only [RY] <;> omega) | decide) only [↓RD, RZ, Nat.reduceAdd, h2, h3]
    exact ⟨rfl, g2 _ _⟩
   ·rw [if_neg (fun h => h3 h.2)]
    simp (disch := first | omega | (simp only [RY] <;> omega) | decide) only [↓RD, RZ, Nat.reduceAdd, h2]
    exact ⟨rfl, g2 _ _⟩
  ·rw [if_neg (fun h => h2 h.1.symm)]
   simp (disch := first | omega | (simp only [RY] <;> omega) | decide) only [↓RD, RZ, Nat.reduceAdd]
   exact ⟨rfl, g2 _ _⟩
theorem top2_ok {lo : Nat} {H : Heap} {s : Sr} {a b c : V} (h : SrC lo H s a b c) (hn : s.ts.length ≤ 1099511627776) :
  Ok (sem T zbR [.agg (scells s a b c)]) H fun r H' => r = .int .i64 (top s.ts) ∧ Grow H H' := by
 refine ze1 ?_
 unfold zdI
 unfold scells
 simp (disch := omega) only [↓RD, RZ, h.ts.cells1, h.ts.okc, h.pro.cells1, h.pro.okc, h.siz.cells1, h.siz.okc]
 generalize hH1 : Heap.new H _ = H1
 have s1 : Grow H H1 := by rw [← hH1]; exact Grow.new _ _
 have g1 : H1.get H.next = some ⟨zaf, [.int .i64 s.off, .int .i64 s.tar, a, .int .i64 s.cha, b, c], none⟩ := by rw [← hH1]; exact zak _ _
 clear hH1
 refine zaK (fun k L H' => L = [.int .i64 (top (s.ts.take k)), .int .i64 (k : Nat)] ∧ H' = H1) s.ts.length ?_ ?_ ?_
 ·exact ⟨rfl, rfl⟩
 ·rintro k L H2 hk ⟨rfl, rfl⟩
  obtain ⟨q, d, e, f, i1, l1, w1⟩ := (h.ts.ext s1).at hk
  obtain ⟨l2, -⟩ := pl5 l1
  unfold zcl
  simp (disch := omega) only [↓RD, RZ, g1, h.ts.vlen, i1, l1.fa, l2, mm1]
  rw [top_take hk]; rfl
 ·rintro L H2 ⟨rfl, rfl⟩
  unfold zcl
  rw [List.take_length]
  simp (disch := omega) only [↓RD, RZ, g1, h.ts.vlen]
  exact s1
theorem nxI_3 {o : Option Nat} (h : ∀ k, o = some k → k < 3) : (nxI o == 3) = o.isNone := by
 cases o with
 | none => rfl
 | some k =>
  have := h k rfl
  simp only [nxI, Option.isNone_some]
  rw [beq_eq_false_iff_ne]; omega
theorem Fine2_ok {lo : Nat} {H : Heap} {v : V} {s : Sr} (h : SrR lo H v s) (ho : SrO s) :
  Ok (sem T zbP [v]) H fun r H' => r = .bool (fine s) ∧ Grow H H' := by
 obtain ⟨a, b, c, rfl, h⟩ := h
 have nt := ho.ts
 have np := ho.pro.2
 have ns := ho.siz.1
 refine zeF ?_
 unfold zdt
 unfold scells
 simp (disch := first | omega | (simp only [RY] <;> omega) | decide) only [↓RD, RZ, eq_self, Int.reduceToNat, Int.reduceAdd, Nat.reduceAdd, Nat.reduceSub, Nat.reduceMul, Nat.reduceLeDiff, h.ts.cells1, h.ts.okc, h.pro.cells1, h.pro.okc, h.siz.cells1, h.siz.okc]
 generalize hH1 : Heap.new H _ = H1
 have s1 : Grow H H1 := by rw [← hH1]; exact Grow.new _ _
 have n1 : H1.next = H.next + 1 := by rw [← hH1]; rfl
 have g1 : H1.get H.next = some ⟨zaf, [.int .i64 s.off, .int .i64 s.tar, a, .int .i64 s.cha, b, c], none⟩ := by rw [← hH1]; exact zak _ _
 clear hH1
 have vt := h.ts.vlen
 by_cases a1 : s.off < 0
 ·simp (disch := first | omega | (simp only [RY] <;> omega) | decide) only [↓RD, RZ, eq_self, Int.reduceToNat, Int.reduceAdd, Nat.reduceAdd, Nat.reduceSub, Nat.reduceMul, Nat.reduceLeDiff, g1, vt]
  exact ⟨by rw [fine_no fun h => by have := h.off; omega], s1⟩
 by_cases a2 : 63 < s.off
 ·simp (disch := first | omega | (simp only [RY] <;> omega) | decide) only [↓RD, RZ, eq_self, Int.reduceToNat, Int.reduceAdd, Nat.reduceAdd, Nat.reduceSub, Nat.reduceMul, Nat.reduceLeDiff, g1, vt]
  exact ⟨by rw [fine_no fun h => by have := h.off; omega], s1⟩
 by_cases a3 : s.tar < 1
 ·simp (disch := first | omega | (simp only [RY] <;> omega) | decide) only [↓RD, RZ, eq_self, Int.reduceToNat, Int.reduceAdd, Nat.reduceAdd, Nat.reduceSub, Nat.reduceMul, Nat.reduceLeDiff, g1, vt]
  exact ⟨by rw [fine_no fun h => by have := h.tar; omega], s1⟩
 by_cases a4 : 32 < s.tar
 ·simp (disch := first | omega | (simp only [RY] <;> omega) | decide) only [↓RD, RZ, eq_self, Int.reduceToNat, Int.reduceAdd, Nat.reduceAdd, Nat.reduceSub, Nat.reduceMul, Nat.reduceLeDiff, g1, vt]
  exact ⟨by rw [fine_no fun h => by have := h.tar; omega], s1⟩
 by_cases a7 : s.ts.length < 1
 ·simp (disch := first | omega | (simp only [RY] <;> omega) | decide) only [↓RD, RZ, eq_self, Int.reduceToNat, Int.reduceAdd, Nat.reduceAdd, Nat.reduceSub, Nat.reduceMul, Nat.reduceLeDiff, g1, vt]
  exact ⟨by rw [fine_no fun h => by have := h.len; omega], s1⟩
 by_cases a8 : 64 < s.ts.length
 ·simp (disch := first | omega | (simp only [RY] <;> omega) | decide) only [↓RD, RZ, eq_self, Int.reduceToNat, Int.reduceAdd, Nat.reduceAdd, Nat.reduceSub, Nat.reduceMul, Nat.reduceLeDiff, g1, vt]
  exact ⟨by rw [fine_no fun h => by have := h.len; omega], s1⟩
 by_cases a5 : s.cha < 0
 ·simp (disch := first | omega | (simp only [RY] <;> omega) | decide) only [↓RD, RZ, eq_self, Int.reduceToNat, Int.reduceAdd, Nat.reduceAdd, Nat.reduceSub, Nat.reduceMul, Nat.reduceLeDiff, g1, vt]
  exact ⟨by rw [fine_no fun h => by have := h.cha; omega], s1⟩
 by_cases a6 : s.tar < s.cha
 ·simp (disch := first | omega | (simp only [RY] <;> omega) | decide) only [↓RD, RZ, eq_self, Int.reduceToNat, Int.reduceAdd, Nat.reduceAdd, Nat.reduceSub, Nat.reduceMul, Nat.reduceLeDiff, g1, vt]
  exact ⟨by rw [fine_no fun h => by have := h.cha; omega], s1⟩
 simp (disch := first | omega | (simp only [RY] <;> omega) | decide) only [↓RD, RZ, eq_self, Int.reduceToNat, Int.reduceAdd, Nat.reduceAdd, Nat.reduceSub, Nat.reduceMul, Nat.reduceLeDiff, g1, vt]
 refine zaM (Q := fun r H' => Grow H1 H' ∧ ((r = Res.ex 0 [] ∧ ∀ j (hj : j < s.ts.length), LayAt s.ts j ∧ fineT s.tar s.cha s.ts[j] = true) ∨ (r = .ret [.bool false] ∧ fine s = false))) ?_ ?_
 ·refine zaK (fun k L H' => L = [.int .i64 (k : Nat)] ∧ Grow H1 H' ∧ ∀ j (hj : j < s.ts.length), j < k → LayAt s.ts j ∧ fineT s.tar s.cha s.ts[j] = true) s.ts.length ?_ ?_ ?_
  ·exact ⟨rfl, Grow.refl _, fun j hj hk => absurd hk (by omega)⟩
  ·rintro k L H2 hk ⟨rfl, s2, hP⟩
   have n2 := s2.next
   have g2 : H2.get H.next = _ := (s2.same _ (by omega)).trans g1
   obtain ⟨q, d, e, f, i1, l1, w1⟩ := (h.ts.ext (s1.trans s2)).at hk
   obtain ⟨-, -, -, -, -, l2⟩ := pl5 l1
   have hd := w1.dti.cel
   have he := w1.dif.cel
   have hf := w1.cha.cel
   have o1 := (ho.tm _ (List.getElem_mem hk)).dti.2
   have o2 := (ho.tm _ (List.getElem_mem hk)).dif.2
   have o3 := (ho.tm _ (List.getElem_mem hk)).cha.2
   unfold zb7
   have nolay : ¬ LayAt s.ts k → fine s = false := fun hl => fine_no fun hf => hl (hf.lay k hk)
   have nofin : fineT s.tar s.cha s.ts[k] = false → fine s = false := fun hl => fine_no fun hf => by have := hf.tms _ (List.getElem_mem hk); rw [hl] at this; cases this
   simp (disch := first | omega | (simp only [RY] <;> omega) | decide) only [↓RD, RZ, eq_self, Int.reduceToNat, Int.reduceAdd, Nat.reduceAdd, Nat.reduceSub, Nat.reduceMul, Nat.reduceLeDiff, g2, i1, l2, hd.1, hd.2, he.1, he.2, hf.1, hf.2]
   generalize hH3 : Heap.set _ _ _ = H3
   have s3 : Grow H2 H3 := by rw [← hH3]; exact (Grow.new _ _).set (by omega) _
   have n3 : H3.next = H2.next + 1 := by rw [← hH3]; rfl
   have c3 : H3.get H2.next = some ⟨zao, [.int .i64 s.ts[k].sp, .int .i64 s.ts[k].te, d, e, f], none⟩ := by rw [← hH3]; exact zaq _ _ _
   clear hH3
   have g3 : H3.get H.next = _ := (s3.same _ (by omega)).trans g2
   have s23 := s2.trans s3
   have lay_eq : LayAt s.ts k ↔ (if k = 0 then s.ts[k].sp = 0 ∧ s.ts[k].te = 0 else (nx (s.ts.getD (k - 1) Tm0) s.ts[k]).isSome = true ∧ 0 ≤ s.ts[k].sp ∧ s.ts[k].sp ≤ 3 ∧ 0 ≤ s.ts[k].te ∧ s.ts[k].te ≤ 7) := by
    unfold LayAt; dsimp only; rw [getD_get hk]
   by_cases b1 : s.ts[k].sp < 0
   ·simp (disch := first | omega | (simp only [RY] <;> omega) | decide) only [↓RD, RZ, eq_self, Int.reduceToNat, Int.reduceAdd, Nat.reduceAdd, Nat.reduceSub, Nat.reduceMul, Nat.reduceLeDiff, c3]
    exact ⟨s23, .inr (nolay fun hl => by have := layAt_rng hl; rw [getD_get hk] at this; omega)⟩
   by_cases b2 : 3 < s.ts[k].sp
   ·simp (disch := first | omega | (simp only [RY] <;> omega) | decide) only [↓RD, RZ, eq_self, Int.reduceToNat, Int.reduceAdd, Nat.reduceAdd, Nat.reduceSub, Nat.reduceMul, Nat.reduceLeDiff, c3]
    exact ⟨s23, .inr (nolay fun hl => by have := layAt_rng hl; rw [getD_get hk] at this; omega)⟩
   by_cases b3 : s.ts[k].te < 0
   ·simp (disch := first | omega | (simp only [RY] <;> omega) | decide) only [↓RD, RZ, eq_self, Int.reduceToNat, Int.reduceAdd, Nat.reduceAdd, Nat.reduceSub, Nat.reduceMul, Nat.reduceLeDiff, c3]
    exact ⟨s23, .inr (nolay fun hl => by have := layAt_rng hl; rw [getD_get hk] at this; omega)⟩
   by_cases b4 : 7 < s.ts[k].te
   ·simp (disch := first | omega | (simp only [RY] <;> omega) | decide) only [↓RD, RZ, eq_self, Int.reduceToNat, Int.reduceAdd, Nat.reduceAdd, Nat.reduceSub, Nat.reduceMul, Nat.reduceLeDiff, c3]
    exact ⟨s23, .inr (nolay fun hl => by have := layAt_rng hl; rw [getD_get hk] at this; omega)⟩
   have go : ∀ {H5 : Heap}, Grow H1 H5 → LayAt s.ts k → fineT s.tar s.cha s.ts[k] = true → Grow H1 H5 ∧ ∀ j (hj : j < s.ts.length), j < k + 1 → LayAt s.ts j ∧ fineT s.tar s.cha s.ts[j] = true := fun g h1 h2 => ⟨g, fun j hj hjk => by
    rcases Nat.lt_or_ge j k with h | h
    ·exact hP j hj h
    ·have : j = k := by omega
     subst this; exact ⟨h1, h2⟩⟩
   by_cases k0 : k = 0
   ·subst k0
    rw [if_pos rfl] at lay_eq
    by_cases e1 : s.ts[0].sp = 0
    ·by_cases e2 : s.ts[0].te = 0
     ·have hL := lay_eq.2 ⟨e1, e2⟩
      rw [e1, e2] at c3
      have d4 := w1.dti.ext (s3.trans (Grow.refl H3))
      have e4 := w1.dif.ext (s3.trans (Grow.refl H3))
      have f4 := w1.cha.ext (s3.trans (Grow.refl H3))
      have r1 := @zcM _ _ _ _ (within2_ok d4 s.tar 0 3 (by omega))
      have r2 := @zcM _ _ _ _ (within2_ok e4 (-1) 1 16 (by omega))
      have r3 := @zcM _ _ _ _ (within2_ok f4 s.cha 0 15 (by omega))
      have fin : Grow H1 H3 := s23.trans (Grow.refl H3)
      have v4 := e4.vlen
      cases x1 : wi2 s.ts[0].dti s.tar 0 3 with
      | false =>
       simp (disch := first | omega | (simp only [RY] <;> omega) | decide) only [↓RD, RZ, eq_self, Int.reduceToNat, Int.reduceAdd, Nat.reduceAdd, Nat.reduceSub, Nat.reduceMul, Nat.reduceLeDiff, c3, g3, r1, x1]
       exact ⟨fin, .inr (nofin (by unfold fineT; rw [← wi2_wi (by omega), x1]; rfl))⟩
      | true =>
       by_cases x2 : 8 < s.ts[0].dif.length
       ·simp (disch := first | omega | (simp only [RY] <;> omega) | decide) only [↓RD, RZ, eq_self, Int.reduceToNat, Int.reduceAdd, Nat.reduceAdd, Nat.reduceSub, Nat.reduceMul, Nat.reduceLeDiff, c3, g3, r1, x1, v4]
        exact ⟨fin, .inr (nofin (by unfold fineT di; rw [decide_eq_false (by omega)]; simp))⟩
       cases x3 : wi2 s.ts[0].dif (-1) 1 16 with
       | false =>
        simp (disch := first | omega | (simp only [RY] <;> omega) | decide) only [↓RD, RZ, eq_self, Int.reduceToNat, Int.reduceAdd, Nat.reduceAdd, Nat.reduceSub, Nat.reduceMul, Nat.reduceLeDiff, c3, g3, r1, x1, v4, r2, x3]
        exact ⟨fin, .inr (nofin (by rw [wi2_neg] at x3; unfold fineT di; rw [x3]; simp))⟩
       | true =>
        cases x4 : wi2 s.ts[0].cha s.cha 0 15 with
        | false =>
         simp (disch := first | omega | (simp only [RY] <;> omega) | decide) only [↓RD, RZ, eq_self, Int.reduceToNat, Int.reduceAdd, Nat.reduceAdd, Nat.reduceSub, Nat.reduceMul, Nat.reduceLeDiff, c3, g3, r1, x1, v4, r2, x3, r3, x4]
         exact ⟨fin, .inr (nofin (by rw [wi2_wi (by omega)] at x4; unfold fineT; rw [x4]; simp))⟩
        | true =>
         simp (disch := first | omega | (simp only [RY] <;> omega) | decide) only [↓RD, RZ, eq_self, Int.reduceToNat, Int.reduceAdd, Nat.reduceAdd, Nat.reduceSub, Nat.reduceMul, Nat.reduceLeDiff, c3, g3, r1, x1, v4, r2, x3, r3, x4]
         have y1 := x1
         have y4 := x4
         rw [wi2_wi (by omega)] at y1 y4
         rw [wi2_neg] at x3
         exact ⟨by rfl, go fin hL (by unfold fineT di; rw [y1, x3, y4, decide_eq_true (by omega)]; rfl)⟩
     ·simp (disch := first | omega | (simp only [RY] <;> omega) | decide) only [↓RD, RZ, eq_self, Int.reduceToNat, Int.reduceAdd, Nat.reduceAdd, Nat.reduceSub, Nat.reduceMul, Nat.reduceLeDiff, c3, e1]
      exact ⟨s23, .inr (nolay fun hl => e2 (lay_eq.1 hl).2)⟩
    ·simp (disch := first | omega | (simp only [RY] <;> omega) | decide) only [↓RD, RZ, eq_self, Int.reduceToNat, Int.reduceAdd, Nat.reduceAdd, Nat.reduceSub, Nat.reduceMul, Nat.reduceLeDiff, c3]
     exact ⟨s23, .inr (nolay fun hl => e1 (lay_eq.1 hl).1)⟩
   ·rw [if_neg k0] at lay_eq
    have hk1 : k - 1 < s.ts.length := by omega
    have ek : (k : Int) - 1 = ((k - 1 : Nat) : Int) := by omega
    obtain ⟨q', d', e', f', i1', l1', w1'⟩ := (h.ts.ext ((s1.trans s2).trans s3)).at hk1
    obtain ⟨-, -, -, -, -, l2'⟩ := pl5 l1'
    have hpr := layAt_rng (hP (k - 1) hk1 (by omega)).1
    rw [getD_get hk1] at hpr lay_eq
    simp (disch := first | omega | (simp only [RY] <;> omega) | decide) only [↓RD, RZ, eq_self, Int.reduceToNat, Int.reduceAdd, Nat.reduceAdd, Nat.reduceSub, Nat.reduceMul, Nat.reduceLeDiff, c3, g3, ek, i1', l2']
    refine zac (step_ok s.ts[k - 1] s.ts[k] d' e' f' d e f (by omega) (by omega) w1'.dti.cel w1'.dif.cel w1'.cha.cel hd he hf) ?_
    rintro _ H4 ⟨rfl, s4⟩
    have c4 : H4.get H2.next = _ := (s4.same _ (by omega)).trans c3
    have g4 : H4.get H.next = _ := (s4.same _ (by omega)).trans g3
    have en := nxI_3 (fun m hm => nx_lt (s := s.ts[k - 1]) (t := s.ts[k]) hm)
    cases hx : nx s.ts[k - 1] s.ts[k] with
    | none =>
     unfold nxI
     simp (disch := first | omega | (simp only [RY] <;> omega) | decide) only [↓RD, RZ, eq_self, Int.reduceToNat, Int.reduceAdd, Nat.reduceAdd, Nat.reduceSub, Nat.reduceMul, Nat.reduceLeDiff]
     exact ⟨s23.trans s4, .inr (nolay fun hl => by have := (lay_eq.1 hl).1; rw [hx] at this; cases this)⟩
    | some m =>
     have hm := nx_lt hx
     have hL := lay_eq.2 ⟨by rw [hx]; rfl, by omega, by omega, by omega, by omega⟩
     unfold nxI
     have d4 := w1.dti.ext (s3.trans s4)
     have e4 := w1.dif.ext (s3.trans s4)
     have f4 := w1.cha.ext (s3.trans s4)
     have r1 := @zcM _ _ _ _ (within2_ok d4 s.tar 0 3 (by omega))
     have r2 := @zcM _ _ _ _ (within2_ok e4 (-1) 1 16 (by omega))
     have r3 := @zcM _ _ _ _ (within2_ok f4 s.cha 0 15 (by omega))
     have fin : Grow H1 H4 := s23.trans s4
     have v4 := e4.vlen
     cases x1 : wi2 s.ts[k].dti s.tar 0 3 with
     | false =>
      simp (disch := first | omega | (simp only [RY] <;> omega) | decide) only [↓RD, RZ, eq_self, Int.reduceToNat, Int.reduceAdd, Nat.reduceAdd, Nat.reduceSub, Nat.reduceMul, Nat.reduceLeDiff, c4, g4, r1, x1]
      exact ⟨fin, .inr (nofin (by unfold fineT; rw [← wi2_wi (by omega), x1]; rfl))⟩
     | true =>
      by_cases x2 : 8 < s.ts[k].dif.length
      ·simp (disch := first | omega | (simp only [RY] <;> omega) | decide) only [↓RD, RZ, eq_self, Int.reduceToNat, Int.reduceAdd, Nat.reduceAdd, Nat.reduceSub, Nat.reduceMul, Nat.reduceLeDiff, c4, g4, r1, x1, v4]
       exact ⟨fin, .inr (nofin (by unfold fineT di; rw [decide_eq_false (by omega)]; simp))⟩
      cases x3 : wi2 s.ts[k].dif (-1) 1 16 with
      | false =>
       simp (disch := first | omega | (simp only [RY] <;> omega) | decide) only [↓RD, RZ, eq_self, Int.reduceToNat, Int.reduceAdd, Nat.reduceAdd, Nat.reduceSub, Nat.reduceMul, Nat.reduceLeDiff, c4, g4, r1, x1, v4, r2, x3]
       exact ⟨fin, .inr (nofin (by rw [wi2_neg] at x3; unfold fineT di; rw [x3]; simp))⟩
      | true =>
       cases x4 : wi2 s.ts[k].cha s.cha 0 15 with
       | false =>
        simp (disch := first | omega | (simp only [RY] <;> omega) | decide) only [↓RD, RZ, eq_self, Int.reduceToNat, Int.reduceAdd, Nat.reduceAdd, Nat.reduceSub, Nat.reduceMul, Nat.reduceLeDiff, c4, g4, r1, x1, v4, r2, x3, r3, x4]
        exact ⟨fin, .inr (nofin (by rw [wi2_wi (by omega)] at x4; unfold fineT; rw [x4]; simp))⟩
       | true =>
        simp (disch := first | omega | (simp only [RY] <;> omega) | decide) only [↓RD, RZ, eq_self, Int.reduceToNat, Int.reduceAdd, Nat.reduceAdd, Nat.reduceSub, Nat.reduceMul, Nat.reduceLeDiff, c4, g4, r1, x1, v4, r2, x3, r3, x4]
        have y1 := x1
        have y4 := x4
        rw [wi2_wi (by omega)] at y1 y4
        rw [wi2_neg] at x3
        exact ⟨by rfl, go fin hL (by unfold fineT di; rw [y1, x3, y4, decide_eq_true (by omega)]; rfl)⟩
  ·rintro L H2 ⟨rfl, s2, hP⟩
   unfold zb7
   simp (disch := first | omega | (simp only [RY] <;> omega) | decide) only [↓RD, RZ, eq_self, Int.reduceToNat, Int.reduceAdd, Nat.reduceAdd, Nat.reduceSub, Nat.reduceMul, Nat.reduceLeDiff]
   exact ⟨s2, .inl fun j hj => hP j hj hj⟩
 ·rintro r H2 ⟨s2, ⟨rfl, hP⟩ | ⟨rfl, hP⟩⟩
  rotate_left
  ·simp (disch := first | omega | (simp only [RY] <;> omega) | decide) only [↓RD, RZ, eq_self, Int.reduceToNat, Int.reduceAdd, Nat.reduceAdd, Nat.reduceSub, Nat.reduceMul, Nat.reduceLeDiff]
   exact ⟨by rw [hP], s1.trans s2⟩
  have n2 := s2.next
  have g2 : H2.get H.next = _ := (s2.same _ (by omega)).trans g1
  have s12 := s1.trans s2
  have rng : ∀ t ∈ s.ts, 0 ≤ t.sp ∧ t.sp ≤ 3 ∧ 0 ≤ t.te ∧ t.te ≤ 7 := fun t ht => by
   obtain ⟨j, hj, rfl⟩ := List.getElem_of_mem ht
   have := layAt_rng (hP j hj).1
   rwa [getD_get hj] at this
  have tp := top_le rng s.ts.length
  rw [List.take_length] at tp
  generalize hpc : (if s.cha = 0 then 0 else s.tar : Int) = pc
  simp (disch := first | omega | (simp only [RY] <;> omega) | decide) only [↓RD, RZ, eq_self, Int.reduceToNat, Int.reduceAdd, Nat.reduceAdd, Nat.reduceSub, Nat.reduceMul, Nat.reduceLeDiff, g2]
  refine zaM (Q := fun r H' => r = Res.nrm [.int .i64 pc] ∧ H' = H2) ?_ ?_
  ·by_cases hz : 0 < s.cha
   ·simp (disch := first | omega | (simp only [RY] <;> omega) | decide) only [↓RD, RZ, eq_self, Int.reduceToNat, Int.reduceAdd, Nat.reduceAdd, Nat.reduceSub, Nat.reduceMul, Nat.reduceLeDiff, g2]
    rw [← hpc, if_neg (by omega)]
   ·simp (disch := first | omega | (simp only [RY] <;> omega) | decide) only [↓RD, RZ, eq_self, Int.reduceToNat, Int.reduceAdd, Nat.reduceAdd, Nat.reduceSub, Nat.reduceMul, Nat.reduceLeDiff]
    rw [← hpc, if_pos (by omega)]
  rintro _ H' ⟨rfl, hH'⟩
  have : H' = H2 := hH'
  subst this
  have hp0 : 0 ≤ pc := by rw [← hpc]; split <;> omega
  have r1 := @zcM _ _ _ _ (within2_ok (h.pro.ext s12) pc 0 (s.cha - 1) (by omega))
  have vs := h.siz.vlen
  -- the sizes
  have sizes : ∀ H4, Grow H' H4 → Ok (M.iter (zbK (sem T) (.ptr H.next 0)) [.int .i64 0]) H4 fun r H' => Grow H H' ∧ ((r = .ex 2 [] ∧ ∀ x ∈ s.siz, (1 ≤ x.1 ∧ x.1 ≤ 65536) ∧ (1 ≤ x.2 ∧ x.2 ≤ 65536)) ∨ (r = .ret [.bool false] ∧ fine s = false)) := by
   intro H4 s4
   have n4 := s4.next
   refine zaK (fun k L H' => L = [.int .i64 (k : Nat)] ∧ Grow H4 H' ∧ ∀ j (hj : j < s.siz.length), j < k → (1 ≤ s.siz[j].1 ∧ s.siz[j].1 ≤ 65536) ∧ (1 ≤ s.siz[j].2 ∧ s.siz[j].2 ≤ 65536)) s.siz.length ?_ ?_ ?_
   ·exact ⟨rfl, Grow.refl _, fun j hj hk => absurd hk (by omega)⟩
   ·rintro k L H5 hk ⟨rfl, s5, hP5⟩
    have n5 := s5.next
    have g5 : H5.get H.next = _ := ((s4.trans s5).same _ (by omega)).trans g2
    obtain ⟨q, i1, l1⟩ := szs_at (h.siz.ext ((s12.trans s4).trans s5)) hk
    obtain ⟨l2, l3, -⟩ := pl2 l1
    have w0 : Ax.iaddr (some 2) 1 q (.int .i64 0) = some (fa q 0) := Pl.arr l1 (n := 2) (k := .i64) (i := 0) (by omega)
    have w1 : Ax.iaddr (some 2) 1 q (.int .i64 1) = some (fa q 1) := Pl.arr l1 (n := 2) (k := .i64) (i := 1) (by omega)
    unfold zbK
    simp (disch := first | omega | (simp only [RY] <;> omega) | decide) only [↓RD, RZ, eq_self, Int.reduceToNat, Int.reduceAdd, Nat.reduceAdd, Nat.reduceSub, Nat.reduceMul, Nat.reduceLeDiff, g5, vs, i1, l2, l3, w0, w1]
    refine zac (within2_ok (box_il (x := s.siz[k].1) (y := s.siz[k].2) (by first | exact zak _ _ | exact zaq _ _ _) (by rw [zan]; omega)) 2 1 65536 (by simp)) ?_
    rintro _ H7 ⟨rfl, rfl⟩
    rw [wi2_wi (by omega)]
    cases w6 : wi [s.siz[k].1, s.siz[k].2] 2 1 65536 with
    | false =>
     simp (disch := first | omega | (simp only [RY] <;> omega) | decide) only [↓RD, RZ, eq_self, Int.reduceToNat, Int.reduceAdd, Nat.reduceAdd, Nat.reduceSub, Nat.reduceMul, Nat.reduceLeDiff]
     refine ⟨((s12.trans s4).trans s5).trans (Grow.new _ _), .inr (fine_no fun h => ?_)⟩
     have := h.szs _ (List.getElem_mem hk)
     have : wi [s.siz[k].1, s.siz[k].2] 2 1 65536 = true := wi_iff.2 ⟨rfl, fun x hx => by
      simp only [List.mem_cons, List.not_mem_nil, or_false] at hx
      rcases hx with rfl | rfl
      ·exact this.1
      ·exact this.2⟩
     rw [this] at w6; cases w6
    | true =>
     simp (disch := first | omega | (simp only [RY] <;> omega) | decide) only [↓RD, RZ, eq_self, Int.reduceToNat, Int.reduceAdd, Nat.reduceAdd, Nat.reduceSub, Nat.reduceMul, Nat.reduceLeDiff]
     refine ⟨by rfl, s5.trans (Grow.new _ _), fun j hj hjk => ?_⟩
     rcases Nat.lt_or_ge j k with h | h
     ·exact hP5 j hj h
     ·have : j = k := by omega
      subst this
      have := (wi_iff.1 w6).2
      exact ⟨this _ (by simp), this _ (by simp)⟩
   ·rintro L H5 ⟨rfl, s5, hP5⟩
    have g5 : H5.get H.next = _ := ((s4.trans s5).same _ (by omega)).trans g2
    unfold zbK
    simp (disch := first | omega | (simp only [RY] <;> omega) | decide) only [↓RD, RZ, eq_self, Int.reduceToNat, Int.reduceAdd, Nat.reduceAdd, Nat.reduceSub, Nat.reduceMul, Nat.reduceLeDiff, g5, vs]
    exact ⟨(s12.trans s4).trans s5, .inl fun x hx => by
     obtain ⟨j, hj, rfl⟩ := List.getElem_of_mem hx
     exact hP5 j hj hj⟩
  cases y1 : wi2 s.pro pc 0 (s.cha - 1) with
  | false =>
   simp (disch := first | omega | (simp only [RY] <;> omega) | decide) only [↓RD, RZ, eq_self, Int.reduceToNat, Int.reduceAdd, Nat.reduceAdd, Nat.reduceSub, Nat.reduceMul, Nat.reduceLeDiff, g2, r1, y1]
   exact ⟨by rw [fine_no fun h => by have := h.pro; rw [hpc, ← wi2_wi hp0, y1] at this; cases this], s12⟩
  | true =>
   have yes : (s.siz.length = 0 ∨ (s.siz.length : Int) = top s.ts + 1) → (∀ x ∈ s.siz, (1 ≤ x.1 ∧ x.1 ≤ 65536) ∧ (1 ≤ x.2 ∧ x.2 ≤ 65536)) → fine s = true := fun h1 h2 => fine_yes ⟨by omega, by omega, by omega, by omega, by rw [hpc, ← wi2_wi hp0]; exact y1, fun j hj => (hP j hj).1, h1, h2, fun t ht => by
    obtain ⟨j, hj, rfl⟩ := List.getElem_of_mem ht
    exact (hP j hj).2⟩
   by_cases hs0 : s.siz.length = 0
   ·simp (disch := first | omega | (simp only [RY] <;> omega) | decide) only [↓RD, RZ, eq_self, Int.reduceToNat, Int.reduceAdd, Nat.reduceAdd, Nat.reduceSub, Nat.reduceMul, Nat.reduceLeDiff, g2, r1, y1, vs, hs0]
    refine zaM (sizes _ (Grow.refl _)) ?_
    rintro r H6 ⟨h1, ⟨rfl, h3⟩ | ⟨rfl, h3⟩⟩
    ·simp (disch := first | omega | (simp only [RY] <;> omega) | decide) only [↓RD, RZ, eq_self, Int.reduceToNat, Int.reduceAdd, Nat.reduceAdd, Nat.reduceSub, Nat.reduceMul, Nat.reduceLeDiff]
     exact ⟨by rw [yes (.inl hs0) h3], h1⟩
    ·simp (disch := first | omega | (simp only [RY] <;> omega) | decide) only [↓RD, RZ, eq_self, Int.reduceToNat, Int.reduceAdd, Nat.reduceAdd, Nat.reduceSub, Nat.reduceMul, Nat.reduceLeDiff]
     exact ⟨by rw [h3], h1⟩
   ·simp (disch := first | omega | (simp only [RY] <;> omega) | decide) only [↓RD, RZ, eq_self, Int.reduceToNat, Int.reduceAdd, Nat.reduceAdd, Nat.reduceSub, Nat.reduceMul, Nat.reduceLeDiff, g2, r1, y1, vs]
    refine zac (top2_ok (h.ext s12) (by omega)) ?_
    rintro _ H4 ⟨rfl, s4⟩
    have g4 : H4.get H.next = _ := (s4.same _ (by omega)).trans g2
    by_cases hs1 : (s.siz.length : Int) = top s.ts + 1
    ·simp (disch := first | omega | (simp only [RY] <;> omega) | decide) only [↓RD, RZ, eq_self, Int.reduceToNat, Int.reduceAdd, Nat.reduceAdd, Nat.reduceSub, Nat.reduceMul, Nat.reduceLeDiff, g4, g2, vs, ← hs1]
     refine zaM (sizes _ s4) ?_
     rintro r H6 ⟨h1, ⟨rfl, h3⟩ | ⟨rfl, h3⟩⟩
     ·simp (disch := first | omega | (simp only [RY] <;> omega) | decide) only [↓RD, RZ, eq_self, Int.reduceToNat, Int.reduceAdd, Nat.reduceAdd, Nat.reduceSub, Nat.reduceMul, Nat.reduceLeDiff]
      exact ⟨by rw [yes (.inr hs1) h3], h1⟩
     ·simp (disch := first | omega | (simp only [RY] <;> omega) | decide) only [↓RD, RZ, eq_self, Int.reduceToNat, Int.reduceAdd, Nat.reduceAdd, Nat.reduceSub, Nat.reduceMul, Nat.reduceLeDiff]
      exact ⟨by rw [h3], h1⟩
    ·simp (disch := first | omega | (simp only [RY] <;> omega) | decide) only [↓RD, RZ, eq_self, Int.reduceToNat, Int.reduceAdd, Nat.reduceAdd, Nat.reduceSub, Nat.reduceMul, Nat.reduceLeDiff, g4, g2, vs]
     exact ⟨by rw [fine_no fun h => by have := h.siz; omega], s12.trans s4⟩
end Go.Ax.D9
/- Dep8 -/
namespace Go.Ax.D9
open Go.Ax
theorem shr1 (v i : Nat) : shr v i &&& 1 = (v.testBit i).toNat := by
 rw [shr_def, Nat.toNat_testBit, Nat.and_one_is_mod, Nat.shiftRight_eq_div_pow]
theorem ftF_skip {s : Sr} {act : Nat} {sp te : Int} {x : Int × Int × Int × Bool} {i : Nat} (h : (ly s i).2.2 = false ∨ act.testBit i = false ∨ (ly s i).1 > sp ∨ (ly s i).2.1 > te) : ftF s act sp te x i = x := by
 unfold ftF; dsimp only; rw [if_pos h]
theorem ftF_take {s : Sr} {act : Nat} {sp te : Int} {x : Int × Int × Int × Bool} {i : Nat} (h1 : (ly s i).2.2 = true) (h2 : act.testBit i = true) (h3 : ¬ (ly s i).1 > sp) (h4 : ¬ (ly s i).2.1 > te) (h : x.2.2.2 = false ∨ (ly s i).1 > x.2.1 ∨ ((ly s i).1 = x.2.1 ∧ (ly s i).2.1 > x.2.2.1)) : ftF s act sp te x i = (((i : Nat) : Int), (ly s i).1, (ly s i).2.1, true) := by
 unfold ftF; dsimp only; rw [if_neg (by rw [h1, h2]; rintro (h | h | h | h); cases h; cases h; exact h3 h; exact h4 h), if_pos h]
theorem ftF_keep {s : Sr} {act : Nat} {sp te : Int} {x : Int × Int × Int × Bool} {i : Nat} (h : ¬ (x.2.2.2 = false ∨ (ly s i).1 > x.2.1 ∨ ((ly s i).1 = x.2.1 ∧ (ly s i).2.1 > x.2.2.1))) : ftF s act sp te x i = x := by
 unfold ftF; dsimp only
 rw [if_neg h]
 split <;> rfl
def ftV (x : Int × Int × Int × Bool) : V := .tup [.int .i64 x.1, .bool x.2.2.2]
theorem Fits_step {lo : Nat} {H : Heap} {s : Sr} {a b c : V} (h : SrC lo H s a b c) (ho : SrO s) (box : Nat) (hb : box < H.next) (hg : H.get box = some ⟨zag, [.int .i64 s.off, .int .i64 s.tar, a, .int .i64 s.cha, b, c], none⟩) (act : Nat) (hact : act < 4294967296) (sp te : Int) (t5 t6 t7 : V) (k : Nat) (hk : k < s.tar) (hk32 : k < 32) (x : Int × Int × Int × Bool) {P : Res → Heap → Prop}
  (hP : ∀ H', Grow H H' → P (.nrm [.int .i64 (ftF s act sp te x k).1, .int .i64 (ftF s act sp te x k).2.1, .int .i64 (ftF s act sp te x k).2.2.1, .bool (ftF s act sp te x k).2.2.2, .int .i64 ((k : Int) + 1)]) H') :
  Ok (zdy (sem T) (.int .i64 s.tar) (.ptr box 0) (.int .u32 act) (.int .i64 sp) (.int .i64 te) t6 t7 [.int .i64 x.1, .int .i64 x.2.1, .int .i64 x.2.2.1, .bool x.2.2.2, .int .i64 (k : Nat)]) H P := by
 unfold zdy
 simp (disch := first | omega | (simp only [RY] <;> omega) | decide) only [↓RD, RZ, eq_self, Nat.reduceAdd, Int.reduceAdd, Int.reduceToNat, Nat.reduceMul, hg]
 refine zac (Layers_ok h.val ho (k : Nat)) ?_
 rintro _ H1 ⟨rfl, s1⟩
 specialize hP H1 s1
 unfold lyV
 have sk := @ftF_skip s act sp te x k
 have tk := @ftF_take s act sp te x k
 have kp := @ftF_keep s act sp te x k
 generalize ly s k = y at *
 obtain ⟨y1, y2, y3⟩ := y
 obtain ⟨x1, x2, x3, x4⟩ := x
 dsimp only at sk tk kp ⊢
 cases y3 with
 | false =>
  rw [sk (.inl rfl)] at hP
  simp (disch := first | omega | (simp only [RY] <;> omega) | decide) only [↓RD, RZ, eq_self, Nat.reduceAdd, Int.reduceAdd, Int.reduceToNat, Nat.reduceMul]
  exact hP
 | true =>
 have sb := shr1 act k
 have hsh := shr_le act k
 cases e2 : act.testBit k with
 | false =>
  rw [sk (.inr (.inl e2))] at hP
  rw [e2] at sb
  simp (disch := first | omega | (simp only [RY] <;> omega) | decide) only [↓RD, RZ, eq_self, Nat.reduceAdd, Int.reduceAdd, Int.reduceToNat, Nat.reduceMul, sb, Bool.toNat_false]
  exact hP
 | true =>
 rw [e2] at sb
 by_cases e3 : sp < y1
 ·rw [sk (.inr (.inr (.inl e3)))] at hP
  simp (disch := first | omega | (simp only [RY] <;> omega) | decide) only [↓RD, RZ, eq_self, Nat.reduceAdd, Int.reduceAdd, Int.reduceToNat, Nat.reduceMul, sb, Bool.toNat_true]
  exact hP
 by_cases e4 : te < y2
 ·rw [sk (.inr (.inr (.inr e4)))] at hP
  simp (disch := first | omega | (simp only [RY] <;> omega) | decide) only [↓RD, RZ, eq_self, Nat.reduceAdd, Int.reduceAdd, Int.reduceToNat, Nat.reduceMul, sb, Bool.toNat_true]
  exact hP
 cases x4 with
 | false =>
  rw [tk rfl e2 e3 e4 (.inl rfl)] at hP
  simp (disch := first | omega | (simp only [RY] <;> omega) | decide) only [↓RD, RZ, eq_self, Nat.reduceAdd, Int.reduceAdd, Int.reduceToNat, Nat.reduceMul, sb, Bool.toNat_true]
  exact hP
 | true =>
 by_cases e5 : x2 < y1
 ·rw [tk rfl e2 e3 e4 (.inr (.inl e5))] at hP
  simp (disch := first | omega | (simp only [RY] <;> omega) | decide) only [↓RD, RZ, eq_self, Nat.reduceAdd, Int.reduceAdd, Int.reduceToNat, Nat.reduceMul, sb, Bool.toNat_true]
  exact hP
 by_cases e6 : y1 = x2
 ·by_cases e7 : x3 < y2
  ·rw [tk rfl e2 e3 e4 (.inr (.inr ⟨e6, e7⟩))] at hP
   subst e6
   simp (disch := first | omega | (simp only [RY] <;> omega) | decide) only [↓RD, RZ, eq_self, Nat.reduceAdd, Int.reduceAdd, Int.reduceToNat, Nat.reduceMul, sb, Bool.toNat_true]
   exact hP
  ·rw [kp (by rintro (h | h | h); cases h; exact e5 h; exact e7 h.2)] at hP
   subst e6
   simp (disch := first | omega | (simp only [RY] <;> omega) | decide) only [↓RD, RZ, eq_self, Nat.reduceAdd, Int.reduceAdd, Int.reduceToNat, Nat.reduceMul, sb, Bool.toNat_true]
   exact hP
 ·rw [kp (by rintro (h | h | h); cases h; exact e5 h; exact e6 h.1)] at hP
  simp (disch := first | omega | (simp only [RY] <;> omega) | decide) only [↓RD, RZ, eq_self, Nat.reduceAdd, Int.reduceAdd, Int.reduceToNat, Nat.reduceMul, sb, Bool.toNat_true]
  exact hP
theorem ly_high {s : Sr} {i : Nat} (h : fine s = true → s.tar ≤ i) : (ly s i).2.2 = false := by
 rw [ly_out (by rintro ⟨h1, h2, h3⟩; have := h h1; omega)]
theorem ft_32 {s : Sr} (h : fine s = true) (act : Nat) (sp te : Int) : ft s act sp te 32 = ft s act sp te s.tar.toNat := by
 have hF := (fine_iff.1 h).tar
 have := ft_more s act sp te s.tar.toNat (32 - s.tar.toNat) fun i hi => ly_high fun _ => by omega
 rw [← this]; congr 1; omega
theorem ft_no {s : Sr} (h : fine s = false) (act : Nat) (sp te : Int) : ft s act sp te 32 = (0, 0, 0, false) := by
 have := ft_more s act sp te 0 32 fun i hi => ly_high fun h' => by rw [h] at h'; cases h'
 rw [Nat.zero_add] at this
 rw [this]; rfl
theorem Fits_ok {lo : Nat} {H : Heap} {v : V} {s : Sr} (h : SrR lo H v s) (ho : SrO s) (act : Nat) (hact : act < 4294967296) (sp te : Int) :
  Ok (sem T zdO [v, .int .u32 act, .int .i64 sp, .int .i64 te]) H fun r H' => r = ftV (ft s act sp te 32) ∧ Grow H H' := by
 obtain ⟨a, b, c, rfl, h⟩ := h
 refine zgA ?_
 unfold zf1
 unfold scells
 simp (disch := first | omega | (simp only [RY] <;> omega) | decide) only [↓RD, RZ, Nat.reduceAdd, h.ts.cells1, h.ts.okc, h.pro.cells1, h.pro.okc, h.siz.cells1, h.siz.okc]
 generalize hH1 : Heap.new H _ = H1
 have s1 : Grow H H1 := by rw [← hH1]; exact Grow.new _ _
 have n1 : H1.next = H.next + 1 := by rw [← hH1]; rfl
 have g1 : H1.get H.next = some ⟨zag, [.int .i64 s.off, .int .i64 s.tar, a, .int .i64 s.cha, b, c], none⟩ := by rw [← hH1]; exact zak _ _
 clear hH1
 refine zac (Fine_ok (h.ext s1).val ho) ?_
 rintro _ H2 ⟨rfl, s2⟩
 have n2 := s2.next
 have g2 : H2.get H.next = _ := (s2.same _ (by omega)).trans g1
 have s12 := s1.trans s2
 cases hf : fine s with
 | false =>
  rw [ft_no hf]
  simp (disch := first | omega | (simp only [RY] <;> omega) | decide) only [↓RD, RZ, Nat.reduceAdd]
  exact ⟨rfl, s12⟩
 | true =>
 have hF := (fine_iff.1 hf).tar
 rw [ft_32 hf]
 have et : s.tar = (s.tar.toNat : Int) := by omega
 generalize s.tar.toNat = n at *
 simp (disch := first | omega | (simp only [RY] <;> omega) | decide) only [↓RD, RZ, Nat.reduceAdd, g2]
 refine zaK (fun k L H' => ∃ x, x = ft s act sp te k ∧ L = [.int .i64 x.1, .int .i64 x.2.1, .int .i64 x.2.2.1, .bool x.2.2.2, .int .i64 (k : Nat)] ∧ Grow H2 H') n ?_ ?_ ?_
 ·exact ⟨_, rfl, rfl, Grow.refl _⟩
 ·rintro k L H3 hk ⟨x, hx, rfl, s3⟩
  refine Fits_step (h.ext (s12.trans s3)) ho H.next (by have := s3.next; omega) ((s3.same _ (by omega)).trans g2) act hact sp te (.bool false) _ _ k (by omega) (by omega) x fun H4 s4 => ?_
  simp (disch := first | omega | (simp only [RY] <;> omega) | decide) only [↓RD, RZ, Nat.reduceAdd]
  refine ⟨_, ?_, by rfl, s3.trans s4⟩
  rw [ft_succ, hx]
 ·rintro L H3 ⟨x, hx, rfl, s3⟩
  unfold zdy
  rw [et]
  simp (disch := first | omega | (simp only [RY] <;> omega) | decide) only [↓RD, RZ, Nat.reduceAdd]
  rw [hx]
  exact ⟨rfl, s12.trans s3⟩
end Go.Ax.D9
