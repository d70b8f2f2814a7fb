/-
  The functions of this seat as plain texts: printed by program (wip/gen/Emit.lean): part 1.
-/
import Derived.Test.YtmiafikogmhckaaFnR0
set_option maxRecDepth 100000
set_option linter.unusedVariables false
namespace Go.Ax
open Go.Proofs

/-- palanquin/palanquinlaw7.RtpReads. -/
def ir_palanquinlaw7_RtpReads : Fn' := ⟨28, [.tmp 2],
  .ops [⟨(some 2), none, .mv (.c (V.bool false))⟩]
  (.ops [⟨(some 7), none, .call fn_palanquinlaw7_awake []⟩,
    ⟨(some 8), none, .un .not (.s 7)⟩]
  (.cond (.s 8)
  (.ops [⟨(some 2), none, .mv (.c (V.bool false))⟩]
   (.ret))
  (.ops [⟨(some 10), none, .mv (.s 0)⟩,
     ⟨(some 11), none, .call fn_rtp_Parse [(.s 10)]⟩,
     ⟨(some 9), none, .mv (.s 11)⟩,
     ⟨(some 12), none, .ext 0 (.s 9)⟩,
     ⟨(some 13), none, .ext 1 (.s 9)⟩,
     ⟨(some 3), none, .box ty_rtp_Packet (.c (V.agg [(V.bool false), (V.int .i64 0), (V.int .u16 0), (V.int .u32 0), (V.int .u32 0), V.nils, (V.int .i64 0), V.nils, (V.int .i64 0), V.nils]))⟩,
     ⟨none, none, .store 10 (.s 3) (.s 12)⟩,
     ⟨(some 4), none, .mv (.s 13)⟩]
   (.ops [⟨(some 15), none, .mv (.s 0)⟩,
     ⟨(some 16), none, .call fn_palanquinref7_Parse [(.s 15)]⟩,
     ⟨(some 14), none, .mv (.s 16)⟩,
     ⟨(some 17), none, .ext 0 (.s 14)⟩,
     ⟨(some 18), none, .ext 1 (.s 14)⟩,
     ⟨(some 5), none, .box ty_palanquinref7_Packet (.c (V.agg [(V.bool false), (V.int .i64 0), (V.int .u16 0), (V.int .u32 0), (V.int .u32 0), V.nils, (V.int .i64 0), V.nils, (V.int .i64 0), V.nils]))⟩,
     ⟨none, none, .store 10 (.s 5) (.s 17)⟩,
     ⟨(some 6), none, .mv (.s 18)⟩]
   (.draw [⟨(some 19), none, .mv (.s 4)⟩,
     ⟨(some 20), none, .mv (.s 6)⟩,
     ⟨(some 21), none, .bin .eql (.s 19) (.s 20)⟩,
     ⟨(some 22), none, .mv (.s 21)⟩,
     ⟨(some 23), (some (22, true)), .load (some 10) (.s 3)⟩,
     ⟨(some 25), (some (22, true)), .load (some 10) (.s 5)⟩,
     ⟨(some 24), (some (22, true)), .call fn_palanquinhelp_Packet [(.s 23)]⟩,
     ⟨(some 26), (some (22, true)), .call fn_palanquinref7_SamePacket [(.s 24), (.s 25)]⟩,
     ⟨(some 27), none, .pick (.s 22) (.s 26) (.c (V.bool false))⟩,
     ⟨(some 2), none, .mv (.s 27)⟩] [(5, 6)]
   (.ret))))))⟩

noncomputable def f_palanquinlaw7_RtpReads (G : Sem') (t0 : V) : M Res :=
  (G fn_palanquinlaw7_awake []).bind fun t7 =>
  (M.lift (Ax.un .not t7)).bind fun t8 =>
  M.ite t8
    (M.pure (.ret [(V.bool false)]))
    ((G fn_rtp_Parse [t0]).bind fun t11 =>
    (M.lift (Ax.ext 0 t11)).bind fun t12 =>
    (M.lift (Ax.ext 1 t11)).bind fun t13 =>
    (mbox ty_rtp_Packet (V.agg [(V.bool false), (V.int .i64 0), (V.int .u16 0), (V.int .u32 0), (V.int .u32 0), V.nils, (V.int .i64 0), V.nils, (V.int .i64 0), V.nils])).bind fun t3 =>
    (mstore 10 t3 t12).bind fun _ =>
    (G fn_palanquinref7_Parse [t0]).bind fun t16 =>
    (M.lift (Ax.ext 0 t16)).bind fun t17 =>
    (M.lift (Ax.ext 1 t16)).bind fun t18 =>
    (mbox ty_palanquinref7_Packet (V.agg [(V.bool false), (V.int .i64 0), (V.int .u16 0), (V.int .u32 0), (V.int .u32 0), V.nils, (V.int .i64 0), V.nils, (V.int .i64 0), V.nils])).bind fun t5 =>
    (mstore 10 t5 t17).bind fun _ =>
    (M.lift (Ax.bin .eql t13 t18)).bind fun t21 =>
    (guarded [(0, t21)] (some (0, true)) (mload (some 10) t3)).bind fun t23 =>
    (guarded [(0, t21)] (some (0, true)) (mload (some 10) t5)).bind fun t25 =>
    M.getH.bind fun h0 =>
    (guarded [(0, t21)] (some (0, true)) (G fn_palanquinhelp_Packet [t23])).bind fun t24 =>
    M.getH.bind fun h0' =>
    (M.unch t5 h0 h0').bind fun _ =>
    (guarded [(0, t21)] (some (0, true)) (G fn_palanquinref7_SamePacket [t24, t25])).bind fun t26 =>
    (M.lift (Ax.pick t21 t26 (V.bool false))).bind fun t27 =>
    M.pure (.ret [t27]))

theorem eq_palanquinlaw7_RtpReads (G : Sem') (t0 : V) : execK G ir_palanquinlaw7_RtpReads.rv ir_palanquinlaw7_RtpReads.body [] [] (params 0 [t0]) = f_palanquinlaw7_RtpReads G t0 := by kernel_rfl

theorem tb_palanquinlaw7_RtpReads : T fn_palanquinlaw7_RtpReads = some ir_palanquinlaw7_RtpReads := by kernel_rfl

theorem ok_palanquinlaw7_RtpReads {t0 : V} {H : Heap} {Q : V → Heap → Prop} (h : Ok (f_palanquinlaw7_RtpReads (sem T) t0) H fun r H' => ∃ L, r = .ret L ∧ Q (tupled L) H') : Ok (sem T fn_palanquinlaw7_RtpReads [t0]) H Q :=
  ok_sem tb_palanquinlaw7_RtpReads (Nat.le_of_ble_eq_true rfl) (eq_palanquinlaw7_RtpReads (sem T) t0) h

/-- palanquin/palanquinlaw7.awake. -/
def ir_palanquinlaw7_awake : Fn' := ⟨34, [.tmp 0],
  .ops [⟨(some 0), none, .mv (.c (V.bool false))⟩]
  (.ops [⟨(some 4), none, .slit ty_uint8 12 [(V.int .u8 0)] [(0, 1, (.c (V.int .u8 128))), (1, 1, (.c (V.int .u8 96))), (2, 1, (.c (V.int .u8 0))), (3, 1, (.c (V.int .u8 1))), (4, 1, (.c (V.int .u8 0))), (5, 1, (.c (V.int .u8 0))), (6, 1, (.c (V.int .u8 0))), (7, 1, (.c (V.int .u8 2))), (8, 1, (.c (V.int .u8 0))), (9, 1, (.c (V.int .u8 0))), (10, 1, (.c (V.int .u8 0))), (11, 1, (.c (V.int .u8 3)))]⟩,
    ⟨(some 5), none, .call fn_rtp_Parse [(.s 4)]⟩,
    ⟨(some 3), none, .mv (.s 5)⟩,
    ⟨(some 6), none, .ext 0 (.s 3)⟩,
    ⟨(some 7), none, .ext 1 (.s 3)⟩,
    ⟨(some 1), none, .box ty_rtp_Packet (.c (V.agg [(V.bool false), (V.int .i64 0), (V.int .u16 0), (V.int .u32 0), (V.int .u32 0), V.nils, (V.int .i64 0), V.nils, (V.int .i64 0), V.nils]))⟩,
    ⟨none, none, .store 10 (.s 1) (.s 6)⟩,
    ⟨(some 2), none, .mv (.s 7)⟩]
  (.ops [⟨(some 8), none, .mv (.s 2)⟩,
    ⟨(some 9), none, .bin .eql (.s 8) (.c (V.int .i64 0))⟩,
    ⟨(some 10), none, .mv (.s 9)⟩,
    ⟨(some 11), (some (10, true)), .faddr 1 (.s 1)⟩,
    ⟨(some 12), (some (10, true)), .load none (.s 11)⟩,
    ⟨(some 13), (some (10, true)), .bin .eql (.s 12) (.c (V.int .i64 96))⟩,
    ⟨(some 14), none, .pick (.s 10) (.s 13) (.c (V.bool false))⟩,
    ⟨(some 15), none, .mv (.s 14)⟩,
    ⟨(some 16), (some (15, true)), .faddr 2 (.s 1)⟩,
    ⟨(some 17), (some (15, true)), .load none (.s 16)⟩,
    ⟨(some 18), (some (15, true)), .bin .eql (.s 17) (.c (V.int .u16 1))⟩,
    ⟨(some 19), none, .pick (.s 15) (.s 18) (.c (V.bool false))⟩,
    ⟨(some 20), none, .mv (.s 19)⟩,
    ⟨(some 21), (some (20, true)), .faddr 3 (.s 1)⟩,
    ⟨(some 22), (some (20, true)), .load none (.s 21)⟩,
    ⟨(some 23), (some (20, true)), .bin .eql (.s 22) (.c (V.int .u32 2))⟩,
    ⟨(some 24), none, .pick (.s 20) (.s 23) (.c (V.bool false))⟩,
    ⟨(some 25), none, .mv (.s 24)⟩,
    ⟨(some 26), (some (25, true)), .faddr 4 (.s 1)⟩,
    ⟨(some 27), (some (25, true)), .load none (.s 26)⟩,
    ⟨(some 28), (some (25, true)), .bin .eql (.s 27) (.c (V.int .u32 3))⟩,
    ⟨(some 29), none, .pick (.s 25) (.s 28) (.c (V.bool false))⟩,
    ⟨(some 30), none, .mv (.s 29)⟩,
    ⟨(some 31), (some (30, true)), .load (some 10) (.s 1)⟩,
    ⟨(some 32), (some (30, true)), .call fn_rtp_Good [(.s 31)]⟩,
    ⟨(some 33), none, .pick (.s 30) (.s 32) (.c (V.bool false))⟩,
    ⟨(some 0), none, .mv (.s 33)⟩]
  (.ret)))⟩

noncomputable def f_palanquinlaw7_awake (G : Sem') : M Res :=
  (mslit ty_uint8 12 [(V.int .u8 0)] [(0, 1, (V.int .u8 128)), (1, 1, (V.int .u8 96)), (2, 1, (V.int .u8 0)), (3, 1, (V.int .u8 1)), (4, 1, (V.int .u8 0)), (5, 1, (V.int .u8 0)), (6, 1, (V.int .u8 0)), (7, 1, (V.int .u8 2)), (8, 1, (V.int .u8 0)), (9, 1, (V.int .u8 0)), (10, 1, (V.int .u8 0)), (11, 1, (V.int .u8 3))]).bind fun t4 =>
  (G fn_rtp_Parse [t4]).bind fun t5 =>
  (M.lift (Ax.ext 0 t5)).bind fun t6 =>
  (M.lift (Ax.ext 1 t5)).bind fun t7 =>
  (mbox ty_rtp_Packet (V.agg [(V.bool false), (V.int .i64 0), (V.int .u16 0), (V.int .u32 0), (V.int .u32 0), V.nils, (V.int .i64 0), V.nils, (V.int .i64 0), V.nils])).bind fun t1 =>
  (mstore 10 t1 t6).bind fun _ =>
  (M.lift (Ax.bin .eql t7 (V.int .i64 0))).bind fun t9 =>
  (guarded [(0, t9)] (some (0, true)) (M.lift (Ax.faddr 1 t1))).bind fun t11 =>
  (guarded [(0, t9)] (some (0, true)) (mload none t11)).bind fun t12 =>
  (guarded [(0, t9)] (some (0, true)) (M.lift (Ax.bin .eql t12 (V.int .i64 96)))).bind fun t13 =>
  (M.lift (Ax.pick t9 t13 (V.bool false))).bind fun t14 =>
  (guarded [(0, t14)] (some (0, true)) (M.lift (Ax.faddr 2 t1))).bind fun t16 =>
  (guarded [(0, t14)] (some (0, true)) (mload none t16)).bind fun t17 =>
  (guarded [(0, t14)] (some (0, true)) (M.lift (Ax.bin .eql t17 (V.int .u16 1)))).bind fun t18 =>
  (M.lift (Ax.pick t14 t18 (V.bool false))).bind fun t19 =>
  (guarded [(0, t19)] (some (0, true)) (M.lift (Ax.faddr 3 t1))).bind fun t21 =>
  (guarded [(0, t19)] (some (0, true)) (mload none t21)).bind fun t22 =>
  (guarded [(0, t19)] (some (0, true)) (M.lift (Ax.bin .eql t22 (V.int .u32 2)))).bind fun t23 =>
  (M.lift (Ax.pick t19 t23 (V.bool false))).bind fun t24 =>
  (guarded [(0, t24)] (some (0, true)) (M.lift (Ax.faddr 4 t1))).bind fun t26 =>
  (guarded [(0, t24)] (some (0, true)) (mload none t26)).bind fun t27 =>
  (guarded [(0, t24)] (some (0, true)) (M.lift (Ax.bin .eql t27 (V.int .u32 3)))).bind fun t28 =>
  (M.lift (Ax.pick t24 t28 (V.bool false))).bind fun t29 =>
  (guarded [(0, t29)] (some (0, true)) (mload (some 10) t1)).bind fun t31 =>
  (guarded [(0, t29)] (some (0, true)) (G fn_rtp_Good [t31])).bind fun t32 =>
  (M.lift (Ax.pick t29 t32 (V.bool false))).bind fun t33 =>
  M.pure (.ret [t33])

theorem eq_palanquinlaw7_awake (G : Sem') : execK G ir_palanquinlaw7_awake.rv ir_palanquinlaw7_awake.body [] [] (params 0 []) = f_palanquinlaw7_awake G := by kernel_rfl

theorem tb_palanquinlaw7_awake : T fn_palanquinlaw7_awake = some ir_palanquinlaw7_awake := by kernel_rfl

theorem ok_palanquinlaw7_awake {H : Heap} {Q : V → Heap → Prop} (h : Ok (f_palanquinlaw7_awake (sem T)) H fun r H' => ∃ L, r = .ret L ∧ Q (tupled L) H') : Ok (sem T fn_palanquinlaw7_awake []) H Q :=
  ok_sem tb_palanquinlaw7_awake (Nat.le_of_ble_eq_true rfl) (eq_palanquinlaw7_awake (sem T)) h

/-- palanquin/rtp.Parse. -/
def loop_rtp_Parse_0 : C :=
  .ops [⟨(some 60), none, .mv (.s 6)⟩,
    ⟨(some 61), none, .mv (.s 5)⟩,
    ⟨(some 62), none, .bin .lss (.s 60) (.s 61)⟩]
  (.cond (.s 62)
  (.blk 2
   (.draw [⟨(some 65), none, .faddr 5 (.s 4)⟩,
      ⟨(some 66), none, .load none (.s 65)⟩,
      ⟨(some 67), none, .mv (.s 0)⟩,
      ⟨(some 68), none, .mv (.s 6)⟩,
      ⟨(some 69), none, .mv (.s 6)⟩,
      ⟨(some 70), none, .bin .add (.s 69) (.c (V.int .i64 4))⟩,
      ⟨(some 71), none, .slice .sl 1 (.s 67) (some (.s 68)) (some (.s 70)) none⟩,
      ⟨(some 72), none, .call fn_rtp_get [(.s 71)]⟩,
      ⟨(some 73), none, .slit ty_uint32 1 [(V.int .u32 0)] [(0, 1, (.s 72))]⟩,
      ⟨(some 74), none, .append ty_uint32 1 4 (.s 66) (.s 73)⟩,
      ⟨(some 75), none, .faddr 5 (.s 4)⟩,
      ⟨none, none, .store 1 (.s 75) (.s 74)⟩] [(1, 7)]
    (.done)) [] [65, 66, 67, 68, 69, 70, 71, 72, 73, 74, 75]
   (.ops [⟨(some 63), none, .mv (.s 6)⟩,
     ⟨(some 64), none, .bin .add (.s 63) (.c (V.int .i64 4))⟩,
     ⟨(some 6), none, .mv (.s 64)⟩]
   (.done)))
  (.exit 1))

def ir_rtp_Parse : Fn' := ⟨132, [.cell 2 (some 10), .tmp 3],
  .ops [⟨(some 2), none, .box ty_rtp_Packet (.c (V.agg [(V.bool false), (V.int .i64 0), (V.int .u16 0), (V.int .u32 0), (V.int .u32 0), V.nils, (V.int .i64 0), V.nils, (V.int .i64 0), V.nils]))⟩,
    ⟨(some 3), none, .mv (.c (V.int .i64 0))⟩]
  (.blk 0
  (.ops [⟨(some 11), none, .mv (.s 0)⟩,
     ⟨(some 12), none, .len (.s 11)⟩,
     ⟨(some 13), none, .bin .gtr (.s 12) (.c (V.int .i64 1200))⟩,
     ⟨(some 10), none, .mv (.s 13)⟩]
   (.cond (.s 10)
   (.ops [⟨(some 14), none, .build [(V.bool false), (V.int .i64 0), (V.int .u16 0), (V.int .u32 0), (V.int .u32 0), V.nils, (V.int .i64 0), V.nils, (V.int .i64 0), V.nils] []⟩,
      ⟨none, none, .store 10 (.s 2) (.s 14)⟩,
      ⟨(some 3), none, .mv (.c (V.int .i64 4))⟩]
    (.ret))
   (.ops [⟨(some 16), none, .mv (.s 0)⟩,
      ⟨(some 17), none, .len (.s 16)⟩,
      ⟨(some 18), none, .bin .lss (.s 17) (.c (V.int .i64 12))⟩,
      ⟨(some 15), none, .mv (.s 18)⟩]
    (.cond (.s 15)
    (.ops [⟨(some 19), none, .build [(V.bool false), (V.int .i64 0), (V.int .u16 0), (V.int .u32 0), (V.int .u32 0), V.nils, (V.int .i64 0), V.nils, (V.int .i64 0), V.nils] []⟩,
       ⟨none, none, .store 10 (.s 2) (.s 19)⟩,
       ⟨(some 3), none, .mv (.c (V.int .i64 3))⟩]
     (.ret))
    (.ops [⟨(some 21), none, .mv (.s 0)⟩,
       ⟨(some 22), none, .iaddr none 1 (.s 21) (.c (V.int .i64 0))⟩,
       ⟨(some 23), none, .load none (.s 22)⟩,
       ⟨(some 24), none, .bin .shr (.s 23) (.c (V.int .u64 6))⟩,
       ⟨(some 25), none, .bin .neq (.s 24) (.c (V.int .u8 2))⟩,
       ⟨(some 20), none, .mv (.s 25)⟩]
     (.cond (.s 20)
     (.ops [⟨(some 26), none, .build [(V.bool false), (V.int .i64 0), (V.int .u16 0), (V.int .u32 0), (V.int .u32 0), V.nils, (V.int .i64 0), V.nils, (V.int .i64 0), V.nils] []⟩,
        ⟨none, none, .store 10 (.s 2) (.s 26)⟩,
        ⟨(some 3), none, .mv (.c (V.int .i64 2))⟩]
      (.ret))
     (.done))))))) [] [11, 12, 13, 10, 14, 3, 16, 17, 18, 15, 19, 3, 21, 22, 23, 24, 25, 20, 26, 3]
  (.draw [⟨(some 27), none, .mv (.s 0)⟩,
    ⟨(some 28), none, .iaddr none 1 (.s 27) (.c (V.int .i64 1))⟩,
    ⟨(some 29), none, .load none (.s 28)⟩,
    ⟨(some 30), none, .bin .and (.s 29) (.c (V.int .u8 128))⟩,
    ⟨(some 31), none, .bin .neq (.s 30) (.c (V.int .u8 0))⟩,
    ⟨(some 32), none, .mv (.s 0)⟩,
    ⟨(some 33), none, .iaddr none 1 (.s 32) (.c (V.int .i64 1))⟩,
    ⟨(some 34), none, .load none (.s 33)⟩,
    ⟨(some 35), none, .bin .andNot (.s 34) (.c (V.int .u8 128))⟩,
    ⟨(some 36), none, .cint .i64 (.s 35)⟩,
    ⟨(some 37), none, .mv (.s 0)⟩,
    ⟨(some 38), none, .slice .sl 1 (.s 37) (some (.c (V.int .i64 2))) (some (.c (V.int .i64 4))) none⟩,
    ⟨(some 41), none, .mv (.s 0)⟩,
    ⟨(some 42), none, .slice .sl 1 (.s 41) (some (.c (V.int .i64 4))) (some (.c (V.int .i64 8))) none⟩,
    ⟨(some 44), none, .mv (.s 0)⟩,
    ⟨(some 45), none, .slice .sl 1 (.s 44) (some (.c (V.int .i64 8))) (some (.c (V.int .i64 12))) none⟩,
    ⟨(some 39), none, .call fn_rtp_get [(.s 38)]⟩,
    ⟨(some 43), none, .call fn_rtp_get [(.s 42)]⟩,
    ⟨(some 46), none, .call fn_rtp_get [(.s 45)]⟩,
    ⟨(some 40), none, .cint .u16 (.s 39)⟩,
    ⟨(some 47), none, .build [(V.bool false), (V.int .i64 0), (V.int .u16 0), (V.int .u32 0), (V.int .u32 0), V.nils, (V.int .i64 0), V.nils, (V.int .i64 0), V.nils] [(0, 1, (.s 31)), (1, 1, (.s 36)), (2, 1, (.s 40)), (3, 1, (.s 43)), (4, 1, (.s 46))]⟩,
    ⟨(some 4), none, .box ty_rtp_Packet (.c (V.agg [(V.bool false), (V.int .i64 0), (V.int .u16 0), (V.int .u32 0), (V.int .u32 0), V.nils, (V.int .i64 0), V.nils, (V.int .i64 0), V.nils]))⟩,
    ⟨none, none, .store 10 (.s 4) (.s 47)⟩] [(2, 16), (2, 17), (2, 18), (7, 16), (7, 17), (7, 18)]
  (.ops [⟨(some 48), none, .mv (.s 0)⟩,
    ⟨(some 49), none, .iaddr none 1 (.s 48) (.c (V.int .i64 0))⟩,
    ⟨(some 50), none, .load none (.s 49)⟩,
    ⟨(some 51), none, .bin .and (.s 50) (.c (V.int .u8 15))⟩,
    ⟨(some 52), none, .cint .i64 (.s 51)⟩,
    ⟨(some 53), none, .bin .mul (.c (V.int .i64 4)) (.s 52)⟩,
    ⟨(some 54), none, .bin .add (.c (V.int .i64 12)) (.s 53)⟩,
    ⟨(some 5), none, .mv (.s 54)⟩]
  (.ops [⟨(some 55), none, .mv (.s 0)⟩,
    ⟨(some 56), none, .len (.s 55)⟩,
    ⟨(some 57), none, .mv (.s 5)⟩,
    ⟨(some 58), none, .bin .lss (.s 56) (.s 57)⟩]
  (.cond (.s 58)
  (.ops [⟨(some 59), none, .build [(V.bool false), (V.int .i64 0), (V.int .u16 0), (V.int .u32 0), (V.int .u32 0), V.nils, (V.int .i64 0), V.nils, (V.int .i64 0), V.nils] []⟩,
     ⟨none, none, .store 10 (.s 2) (.s 59)⟩,
     ⟨(some 3), none, .mv (.c (V.int .i64 3))⟩]
   (.ret))
  (.ops [⟨(some 6), none, .mv (.c (V.int .i64 12))⟩]
   (.blk 1
   (.loop loop_rtp_Parse_0 [6] [60, 61, 62, 65, 66, 67, 68, 69, 70, 71, 72, 73, 74, 75, 63, 64, 6]) [] [60, 61, 62, 65, 66, 67, 68, 69, 70, 71, 72, 73, 74, 75, 63, 64, 6]
   (.ops [⟨(some 76), none, .mv (.s 0)⟩,
     ⟨(some 77), none, .iaddr none 1 (.s 76) (.c (V.int .i64 0))⟩,
     ⟨(some 78), none, .load none (.s 77)⟩,
     ⟨(some 79), none, .bin .and (.s 78) (.c (V.int .u8 16))⟩,
     ⟨(some 80), none, .bin .neq (.s 79) (.c (V.int .u8 0))⟩]
   (.condJ (.s 80)
   (.ops [⟨(some 82), none, .mv (.s 0)⟩,
      ⟨(some 83), none, .mv (.s 5)⟩,
      ⟨(some 84), none, .slice .sl 1 (.s 82) (some (.s 83)) none none⟩,
      ⟨(some 85), none, .call fn_rtp_extension [(.s 4), (.s 84)]⟩,
      ⟨(some 81), none, .mv (.s 85)⟩,
      ⟨(some 86), none, .ext 0 (.s 81)⟩,
      ⟨(some 87), none, .ext 1 (.s 81)⟩,
      ⟨(some 7), none, .mv (.s 86)⟩,
      ⟨(some 8), none, .mv (.s 87)⟩]
    (.ops [⟨(some 88), none, .mv (.s 8)⟩,
      ⟨(some 89), none, .bin .neq (.s 88) (.c (V.int .i64 0))⟩]
    (.cond (.s 89)
    (.ops [⟨(some 90), none, .build [(V.bool false), (V.int .i64 0), (V.int .u16 0), (V.int .u32 0), (V.int .u32 0), V.nils, (V.int .i64 0), V.nils, (V.int .i64 0), V.nils] []⟩,
       ⟨(some 91), none, .mv (.s 8)⟩,
       ⟨none, none, .store 10 (.s 2) (.s 90)⟩,
       ⟨(some 3), none, .mv (.s 91)⟩]
     (.ret))
    (.ops [⟨(some 92), none, .mv (.s 5)⟩,
       ⟨(some 93), none, .mv (.s 7)⟩,
       ⟨(some 94), none, .bin .add (.s 92) (.s 93)⟩,
       ⟨(some 5), none, .mv (.s 94)⟩]
     (.done)))))
   (.done) [5] [82, 83, 84, 85, 81, 86, 87, 7, 8, 88, 89, 90, 91, 3, 92, 93, 94, 5]
   (.ops [⟨(some 95), none, .mv (.s 0)⟩,
     ⟨(some 96), none, .mv (.s 5)⟩,
     ⟨(some 97), none, .slice .sl 1 (.s 95) (some (.s 96)) none none⟩,
     ⟨(some 9), none, .mv (.s 97)⟩]
   (.ops [⟨(some 98), none, .mv (.s 0)⟩,
     ⟨(some 99), none, .iaddr none 1 (.s 98) (.c (V.int .i64 0))⟩,
     ⟨(some 100), none, .load none (.s 99)⟩,
     ⟨(some 101), none, .bin .and (.s 100) (.c (V.int .u8 32))⟩,
     ⟨(some 102), none, .bin .neq (.s 101) (.c (V.int .u8 0))⟩]
   (.condJ (.s 102)
   (.ops [⟨(some 103), none, .mv (.s 0)⟩,
      ⟨(some 104), none, .mv (.s 0)⟩,
      ⟨(some 105), none, .len (.s 104)⟩,
      ⟨(some 106), none, .bin .sub (.s 105) (.c (V.int .i64 1))⟩,
      ⟨(some 107), none, .iaddr none 1 (.s 103) (.s 106)⟩,
      ⟨(some 108), none, .load none (.s 107)⟩,
      ⟨(some 109), none, .cint .i64 (.s 108)⟩,
      ⟨(some 110), none, .faddr 8 (.s 4)⟩,
      ⟨none, none, .store 1 (.s 110) (.s 109)⟩]
    (.ops [⟨(some 111), none, .faddr 8 (.s 4)⟩,
      ⟨(some 112), none, .load none (.s 111)⟩,
      ⟨(some 113), none, .bin .eql (.s 112) (.c (V.int .i64 0))⟩,
      ⟨(some 114), none, .mv (.s 113)⟩,
      ⟨(some 115), (some (114, false)), .faddr 8 (.s 4)⟩,
      ⟨(some 116), (some (114, false)), .load none (.s 115)⟩,
      ⟨(some 117), (some (114, false)), .mv (.s 9)⟩,
      ⟨(some 118), (some (114, false)), .len (.s 117)⟩,
      ⟨(some 119), (some (114, false)), .bin .gtr (.s 116) (.s 118)⟩,
      ⟨(some 120), none, .pick (.s 114) (.c (V.bool true)) (.s 119)⟩]
    (.cond (.s 120)
    (.ops [⟨(some 121), none, .build [(V.bool false), (V.int .i64 0), (V.int .u16 0), (V.int .u32 0), (V.int .u32 0), V.nils, (V.int .i64 0), V.nils, (V.int .i64 0), V.nils] []⟩,
       ⟨none, none, .store 10 (.s 2) (.s 121)⟩,
       ⟨(some 3), none, .mv (.c (V.int .i64 2))⟩]
     (.ret))
    (.done))))
   (.done) [] [103, 104, 105, 106, 107, 108, 109, 110, 111, 112, 113, 114, 115, 116, 117, 118, 119, 120, 121, 3]
   (.ops [⟨(some 122), none, .mv (.s 9)⟩,
     ⟨(some 123), none, .mv (.s 9)⟩,
     ⟨(some 124), none, .len (.s 123)⟩,
     ⟨(some 125), none, .faddr 8 (.s 4)⟩,
     ⟨(some 126), none, .load none (.s 125)⟩,
     ⟨(some 127), none, .bin .sub (.s 124) (.s 126)⟩,
     ⟨(some 128), none, .slice .sl 1 (.s 122) none (some (.s 127)) none⟩,
     ⟨(some 129), none, .call fn_bytes_Clone [(.s 128)]⟩,
     ⟨(some 130), none, .faddr 9 (.s 4)⟩,
     ⟨none, none, .store 1 (.s 130) (.s 129)⟩]
   (.ops [⟨(some 131), none, .load (some 10) (.s 4)⟩,
     ⟨none, none, .store 10 (.s 2) (.s 131)⟩,
     ⟨(some 3), none, .mv (.c (V.int .i64 0))⟩]
   (.ret)))))))))))))))⟩

noncomputable def f_rtp_Parse_0 (G : Sem') (t5 t0 t4 t2 : V) (L : List V) : M Res :=
  (M.lift (Ax.bin .lss (L.getD 0 .undef) t5)).bind fun t62 =>
  M.ite t62
    (M.blk 2 (
      (M.lift (Ax.faddr 5 t4)).bind fun t65 =>
      (mload none t65).bind fun t66 =>
      (M.lift (Ax.bin .add (L.getD 0 .undef) (V.int .i64 4))).bind fun t70 =>
      (M.lift (vslice .sl 1 t0 (some (L.getD 0 .undef)) (some t70) none)).bind fun t71 =>
      M.getH.bind fun h3 =>
      (G fn_rtp_get [t71]).bind fun t72 =>
      M.getH.bind fun h3' =>
      (M.unch t65 h3 h3').bind fun _ =>
      (mslit ty_uint32 1 [(V.int .u32 0)] [(0, 1, t72)]).bind fun t73 =>
      (mappend ty_uint32 1 4 t66 t73).bind fun t74 =>
      (M.lift (Ax.faddr 5 t4)).bind fun t75 =>
      (mstore 1 t75 t74).bind fun _ =>
      M.pure (.nrm [])) fun _ =>
    (M.lift (Ax.bin .add (L.getD 0 .undef) (V.int .i64 4))).bind fun t64 =>
    M.pure (.nrm [t64]))
    (M.pure (.ex 1 []))

noncomputable def f_rtp_Parse (G : Sem') (t0 : V) : M Res :=
  (mbox ty_rtp_Packet (V.agg [(V.bool false), (V.int .i64 0), (V.int .u16 0), (V.int .u32 0), (V.int .u32 0), V.nils, (V.int .i64 0), V.nils, (V.int .i64 0), V.nils])).bind fun t2 =>
  M.blk 0 (
    (M.lift (vlen t0)).bind fun t12 =>
    (M.lift (Ax.bin .gtr t12 (V.int .i64 1200))).bind fun t13 =>
    M.ite t13
      ((M.lift (Ax.build [(V.bool false), (V.int .i64 0), (V.int .u16 0), (V.int .u32 0), (V.int .u32 0), V.nils, (V.int .i64 0), V.nils, (V.int .i64 0), V.nils] [])).bind fun t14 =>
      (mstore 10 t2 t14).bind fun _ =>
      (mload (some 10) t2).bind fun r0 =>
      M.pure (.ret [r0, (V.int .i64 4)]))
      ((M.lift (vlen t0)).bind fun t17 =>
      (M.lift (Ax.bin .lss t17 (V.int .i64 12))).bind fun t18 =>
      M.ite t18
        ((M.lift (Ax.build [(V.bool false), (V.int .i64 0), (V.int .u16 0), (V.int .u32 0), (V.int .u32 0), V.nils, (V.int .i64 0), V.nils, (V.int .i64 0), V.nils] [])).bind fun t19 =>
        (mstore 10 t2 t19).bind fun _ =>
        (mload (some 10) t2).bind fun r0 =>
        M.pure (.ret [r0, (V.int .i64 3)]))
        ((M.lift (Ax.iaddr none 1 t0 (V.int .i64 0))).bind fun t22 =>
        (mload none t22).bind fun t23 =>
        (M.lift (Ax.bin .shr t23 (V.int .u64 6))).bind fun t24 =>
        (M.lift (Ax.bin .neq t24 (V.int .u8 2))).bind fun t25 =>
        M.ite t25
          ((M.lift (Ax.build [(V.bool false), (V.int .i64 0), (V.int .u16 0), (V.int .u32 0), (V.int .u32 0), V.nils, (V.int .i64 0), V.nils, (V.int .i64 0), V.nils] [])).bind fun t26 =>
          (mstore 10 t2 t26).bind fun _ =>
          (mload (some 10) t2).bind fun r0 =>
          M.pure (.ret [r0, (V.int .i64 2)]))
          (M.pure (.nrm []))))) fun _ =>
  (M.lift (Ax.iaddr none 1 t0 (V.int .i64 1))).bind fun t28 =>
  (mload none t28).bind fun t29 =>
  (M.lift (Ax.bin .and t29 (V.int .u8 128))).bind fun t30 =>
  (M.lift (Ax.bin .neq t30 (V.int .u8 0))).bind fun t31 =>
  (M.lift (Ax.iaddr none 1 t0 (V.int .i64 1))).bind fun t33 =>
  (mload none t33).bind fun t34 =>
  (M.lift (Ax.bin .andNot t34 (V.int .u8 128))).bind fun t35 =>
  (M.lift (Ax.cint .i64 t35)).bind fun t36 =>
  (M.lift (vslice .sl 1 t0 (some (V.int .i64 2)) (some (V.int .i64 4)) none)).bind fun t38 =>
  (M.lift (vslice .sl 1 t0 (some (V.int .i64 4)) (some (V.int .i64 8)) none)).bind fun t42 =>
  (M.lift (vslice .sl 1 t0 (some (V.int .i64 8)) (some (V.int .i64 12)) none)).bind fun t45 =>
  M.getH.bind fun h0 =>
  (G fn_rtp_get [t38]).bind fun t39 =>
  M.getH.bind fun h0' =>
  (M.unch t33 h0 h0').bind fun _ =>
  (M.unch t28 h0 h0').bind fun _ =>
  M.getH.bind fun h1 =>
  (G fn_rtp_get [t42]).bind fun t43 =>
  M.getH.bind fun h1' =>
  (M.unch t33 h1 h1').bind fun _ =>
  (M.unch t28 h1 h1').bind fun _ =>
  M.getH.bind fun h2 =>
  (G fn_rtp_get [t45]).bind fun t46 =>
  M.getH.bind fun h2' =>
  (M.unch t33 h2 h2').bind fun _ =>
  (M.unch t28 h2 h2').bind fun _ =>
  (M.lift (Ax.cint .u16 t39)).bind fun t40 =>
  (M.lift (Ax.build [(V.bool false), (V.int .i64 0), (V.int .u16 0), (V.int .u32 0), (V.int .u32 0), V.nils, (V.int .i64 0), V.nils, (V.int .i64 0), V.nils] [(0, 1, t31), (1, 1, t36), (2, 1, t40), (3, 1, t43), (4, 1, t46)])).bind fun t47 =>
  (mbox ty_rtp_Packet (V.agg [(V.bool false), (V.int .i64 0), (V.int .u16 0), (V.int .u32 0), (V.int .u32 0), V.nils, (V.int .i64 0), V.nils, (V.int .i64 0), V.nils])).bind fun t4 =>
  (mstore 10 t4 t47).bind fun _ =>
  (M.lift (Ax.iaddr none 1 t0 (V.int .i64 0))).bind fun t49 =>
  (mload none t49).bind fun t50 =>
  (M.lift (Ax.bin .and t50 (V.int .u8 15))).bind fun t51 =>
  (M.lift (Ax.cint .i64 t51)).bind fun t52 =>
  (M.lift (Ax.bin .mul (V.int .i64 4) t52)).bind fun t53 =>
  (M.lift (Ax.bin .add (V.int .i64 12) t53)).bind fun t54 =>
  (M.lift (vlen t0)).bind fun t56 =>
  (M.lift (Ax.bin .lss t56 t54)).bind fun t58 =>
  M.ite t58
    ((M.lift (Ax.build [(V.bool false), (V.int .i64 0), (V.int .u16 0), (V.int .u32 0), (V.int .u32 0), V.nils, (V.int .i64 0), V.nils, (V.int .i64 0), V.nils] [])).bind fun t59 =>
    (mstore 10 t2 t59).bind fun _ =>
    (mload (some 10) t2).bind fun r0 =>
    M.pure (.ret [r0, (V.int .i64 3)]))
    (M.blk 1 (
      M.iter (f_rtp_Parse_0 G t54 t0 t4 t2) [(V.int .i64 12)]) fun _ =>
    (M.lift (Ax.iaddr none 1 t0 (V.int .i64 0))).bind fun t77 =>
    (mload none t77).bind fun t78 =>
    (M.lift (Ax.bin .and t78 (V.int .u8 16))).bind fun t79 =>
    (M.lift (Ax.bin .neq t79 (V.int .u8 0))).bind fun t80 =>
    M.join (M.ite t80
      ((M.lift (vslice .sl 1 t0 (some t54) none none)).bind fun t84 =>
      (G fn_rtp_extension [t4, t84]).bind fun t85 =>
      (M.lift (Ax.ext 0 t85)).bind fun t86 =>
      (M.lift (Ax.ext 1 t85)).bind fun t87 =>
      (M.lift (Ax.bin .neq t87 (V.int .i64 0))).bind fun t89 =>
      M.ite t89
        ((M.lift (Ax.build [(V.bool false), (V.int .i64 0), (V.int .u16 0), (V.int .u32 0), (V.int .u32 0), V.nils, (V.int .i64 0), V.nils, (V.int .i64 0), V.nils] [])).bind fun t90 =>
        (mstore 10 t2 t90).bind fun _ =>
        (mload (some 10) t2).bind fun r0 =>
        M.pure (.ret [r0, t87]))
        ((M.lift (Ax.bin .add t54 t86)).bind fun t94 =>
        M.pure (.nrm [t94])))
      (M.pure (.nrm [t54]))) fun L3 =>
    (M.lift (vslice .sl 1 t0 (some (L3.getD 0 .undef)) none none)).bind fun t97 =>
    (M.lift (Ax.iaddr none 1 t0 (V.int .i64 0))).bind fun t99 =>
    (mload none t99).bind fun t100 =>
    (M.lift (Ax.bin .and t100 (V.int .u8 32))).bind fun t101 =>
    (M.lift (Ax.bin .neq t101 (V.int .u8 0))).bind fun t102 =>
    M.join (M.ite t102
      ((M.lift (vlen t0)).bind fun t105 =>
      (M.lift (Ax.bin .sub t105 (V.int .i64 1))).bind fun t106 =>
      (M.lift (Ax.iaddr none 1 t0 t106)).bind fun t107 =>
      (mload none t107).bind fun t108 =>
      (M.lift (Ax.cint .i64 t108)).bind fun t109 =>
      (M.lift (Ax.faddr 8 t4)).bind fun t110 =>
      (mstore 1 t110 t109).bind fun _ =>
      (M.lift (Ax.faddr 8 t4)).bind fun t111 =>
      (mload none t111).bind fun t112 =>
      (M.lift (Ax.bin .eql t112 (V.int .i64 0))).bind fun t113 =>
      (guarded [(0, t113)] (some (0, false)) (M.lift (Ax.faddr 8 t4))).bind fun t115 =>
      (guarded [(0, t113)] (some (0, false)) (mload none t115)).bind fun t116 =>
      (guarded [(0, t113)] (some (0, false)) (M.pure t97)).bind fun t117 =>
      (guarded [(0, t113)] (some (0, false)) (M.lift (vlen t117))).bind fun t118 =>
      (guarded [(0, t113)] (some (0, false)) (M.lift (Ax.bin .gtr t116 t118))).bind fun t119 =>
      (M.lift (Ax.pick t113 (V.bool true) t119)).bind fun t120 =>
      M.ite t120
        ((M.lift (Ax.build [(V.bool false), (V.int .i64 0), (V.int .u16 0), (V.int .u32 0), (V.int .u32 0), V.nils, (V.int .i64 0), V.nils, (V.int .i64 0), V.nils] [])).bind fun t121 =>
        (mstore 10 t2 t121).bind fun _ =>
        (mload (some 10) t2).bind fun r0 =>
        M.pure (.ret [r0, (V.int .i64 2)]))
        (M.pure (.nrm [])))
      (M.pure (.nrm []))) fun _ =>
    (M.lift (vlen t97)).bind fun t124 =>
    (M.lift (Ax.faddr 8 t4)).bind fun t125 =>
    (mload none t125).bind fun t126 =>
    (M.lift (Ax.bin .sub t124 t126)).bind fun t127 =>
    (M.lift (vslice .sl 1 t97 none (some t127) none)).bind fun t128 =>
    (G fn_bytes_Clone [t128]).bind fun t129 =>
    (M.lift (Ax.faddr 9 t4)).bind fun t130 =>
    (mstore 1 t130 t129).bind fun _ =>
    (mload (some 10) t4).bind fun t131 =>
    (mstore 10 t2 t131).bind fun _ =>
    (mload (some 10) t2).bind fun r0 =>
    M.pure (.ret [r0, (V.int .i64 0)]))

theorem eq_rtp_Parse (G : Sem') (t0 : V) : execK G ir_rtp_Parse.rv ir_rtp_Parse.body [] [] (params 0 [t0]) = f_rtp_Parse G t0 := by kernel_rfl

theorem tb_rtp_Parse : T fn_rtp_Parse = some ir_rtp_Parse := by kernel_rfl

theorem ok_rtp_Parse {t0 : V} {H : Heap} {Q : V → Heap → Prop} (h : Ok (f_rtp_Parse (sem T) t0) H fun r H' => ∃ L, r = .ret L ∧ Q (tupled L) H') : Ok (sem T fn_rtp_Parse [t0]) H Q :=
  ok_sem tb_rtp_Parse (Nat.le_of_ble_eq_true rfl) (eq_rtp_Parse (sem T) t0) h

/-- palanquin/rtp.get. -/
def loop_rtp_get_0 : C :=
  .ops [⟨(some 9), none, .bin .lss (.s 8) (.s 7)⟩]
  (.cond (.s 9)
  (.blk 1
   (.ops [⟨(some 10), none, .iaddr none 1 (.s 6) (.s 8)⟩,
      ⟨(some 11), none, .load none (.s 10)⟩,
      ⟨(some 5), none, .mv (.s 11)⟩]
    (.ops [⟨(some 12), none, .mv (.s 3)⟩,
      ⟨(some 13), none, .bin .shl (.s 12) (.c (V.int .u64 8))⟩,
      ⟨(some 14), none, .mv (.s 5)⟩,
      ⟨(some 15), none, .cint .u32 (.s 14)⟩,
      ⟨(some 16), none, .bin .or (.s 13) (.s 15)⟩,
      ⟨(some 3), none, .mv (.s 16)⟩]
    (.done))) [3] [10, 11, 5, 12, 13, 14, 15, 16, 3]
   (.ops [⟨(some 17), none, .bin .add (.s 8) (.c (V.int .i64 1))⟩,
     ⟨(some 8), none, .mv (.s 17)⟩]
   (.done)))
  (.exit 0))

def ir_rtp_get : Fn' := ⟨19, [.tmp 2],
  .ops [⟨(some 2), none, .mv (.c (V.int .u32 0))⟩]
  (.ops [⟨(some 3), none, .mv (.c (V.int .u32 0))⟩]
  (.ops [⟨(some 6), none, .mv (.s 0)⟩,
    ⟨(some 7), none, .len (.s 6)⟩,
    ⟨(some 8), none, .mv (.c (V.int .i64 0))⟩]
  (.blk 0
  (.loop loop_rtp_get_0 [3, 8] [9, 10, 11, 5, 12, 13, 14, 15, 16, 3, 17, 8]) [3] [9, 10, 11, 5, 12, 13, 14, 15, 16, 3, 17, 8]
  (.ops [⟨(some 18), none, .mv (.s 3)⟩,
    ⟨(some 2), none, .mv (.s 18)⟩]
  (.ret)))))⟩

noncomputable def f_rtp_get_0 (G : Sem') (t7 t6 t2 : V) (L : List V) : M Res :=
  (M.lift (Ax.bin .lss (L.getD 1 .undef) t7)).bind fun t9 =>
  M.ite t9
    (M.blk 1 (
      (M.lift (Ax.iaddr none 1 t6 (L.getD 1 .undef))).bind fun t10 =>
      (mload none t10).bind fun t11 =>
      (M.lift (Ax.bin .shl (L.getD 0 .undef) (V.int .u64 8))).bind fun t13 =>
      (M.lift (Ax.cint .u32 t11)).bind fun t15 =>
      (M.lift (Ax.bin .or t13 t15)).bind fun t16 =>
      M.pure (.nrm [t16])) fun L0 =>
    (M.lift (Ax.bin .add (L.getD 1 .undef) (V.int .i64 1))).bind fun t17 =>
    M.pure (.nrm [(L0.getD 0 .undef), t17]))
    (M.pure (.ex 0 [(L.getD 0 .undef)]))

noncomputable def f_rtp_get (G : Sem') (t0 : V) : M Res :=
  (M.lift (vlen t0)).bind fun t7 =>
  M.blk 0 (
    M.iter (f_rtp_get_0 G t7 t0 (V.int .u32 0)) [(V.int .u32 0), (V.int .i64 0)]) fun L1 =>
  M.pure (.ret [(L1.getD 0 .undef)])

theorem eq_rtp_get (G : Sem') (t0 : V) : execK G ir_rtp_get.rv ir_rtp_get.body [] [] (params 0 [t0]) = f_rtp_get G t0 := by kernel_rfl

theorem tb_rtp_get : T fn_rtp_get = some ir_rtp_get := by kernel_rfl

theorem ok_rtp_get {t0 : V} {H : Heap} {Q : V → Heap → Prop} (h : Ok (f_rtp_get (sem T) t0) H fun r H' => ∃ L, r = .ret L ∧ Q (tupled L) H') : Ok (sem T fn_rtp_get [t0]) H Q :=
  ok_sem tb_rtp_get (Nat.le_of_ble_eq_true rfl) (eq_rtp_get (sem T) t0) h

/-- palanquin/rtp.extension. -/
def ir_rtp_extension : Fn' := ⟨59, [.tmp 4, .tmp 5],
  .ops [⟨(some 4), none, .mv (.c (V.int .i64 0))⟩,
    ⟨(some 5), none, .mv (.c (V.int .i64 0))⟩]
  (.ops [⟨(some 9), none, .mv (.s 1)⟩,
    ⟨(some 10), none, .len (.s 9)⟩,
    ⟨(some 11), none, .bin .lss (.s 10) (.c (V.int .i64 4))⟩]
  (.cond (.s 11)
  (.ops [⟨(some 4), none, .mv (.c (V.int .i64 0))⟩,
     ⟨(some 5), none, .mv (.c (V.int .i64 3))⟩]
   (.ret))
  (.ops [⟨(some 12), none, .mv (.s 1)⟩,
     ⟨(some 13), none, .slice .sl 1 (.s 12) (some (.c (V.int .i64 2))) (some (.c (V.int .i64 4))) none⟩,
     ⟨(some 14), none, .call fn_rtp_get [(.s 13)]⟩,
     ⟨(some 15), none, .cint .i64 (.s 14)⟩,
     ⟨(some 16), none, .bin .mul (.c (V.int .i64 4)) (.s 15)⟩,
     ⟨(some 17), none, .bin .add (.c (V.int .i64 4)) (.s 16)⟩,
     ⟨(some 6), none, .mv (.s 17)⟩]
   (.ops [⟨(some 18), none, .mv (.s 1)⟩,
     ⟨(some 19), none, .len (.s 18)⟩,
     ⟨(some 20), none, .mv (.s 6)⟩,
     ⟨(some 21), none, .bin .lss (.s 19) (.s 20)⟩]
   (.cond (.s 21)
   (.ops [⟨(some 4), none, .mv (.c (V.int .i64 0))⟩,
      ⟨(some 5), none, .mv (.c (V.int .i64 3))⟩]
    (.ret))
   (.ops [⟨(some 22), none, .mv (.s 0)⟩,
      ⟨(some 23), none, .mv (.s 1)⟩,
      ⟨(some 24), none, .slice .sl 1 (.s 23) none (some (.c (V.int .i64 2))) none⟩,
      ⟨(some 25), none, .call fn_rtp_get [(.s 24)]⟩,
      ⟨(some 26), none, .cint .i64 (.s 25)⟩,
      ⟨(some 27), none, .nilck (.s 22)⟩,
      ⟨(some 28), none, .faddr 6 (.s 27)⟩,
      ⟨none, none, .store 1 (.s 28) (.s 26)⟩]
    (.ops [⟨(some 29), none, .mv (.s 0)⟩,
      ⟨(some 30), none, .nilck (.s 29)⟩,
      ⟨(some 31), none, .faddr 6 (.s 30)⟩,
      ⟨(some 32), none, .load none (.s 31)⟩,
      ⟨(some 33), none, .bin .neq (.s 32) (.c (V.int .i64 48862))⟩,
      ⟨(some 34), none, .mv (.s 33)⟩,
      ⟨(some 35), (some (34, true)), .mv (.s 0)⟩,
      ⟨(some 36), (some (34, true)), .nilck (.s 35)⟩,
      ⟨(some 37), (some (34, true)), .faddr 6 (.s 36)⟩,
      ⟨(some 38), (some (34, true)), .load none (.s 37)⟩,
      ⟨(some 39), (some (34, true)), .bin .neq (.s 38) (.c (V.int .i64 4096))⟩,
      ⟨(some 40), none, .pick (.s 34) (.s 39) (.c (V.bool false))⟩]
    (.cond (.s 40)
    (.ops [⟨(some 4), none, .mv (.c (V.int .i64 0))⟩,
       ⟨(some 5), none, .mv (.c (V.int .i64 2))⟩]
     (.ret))
    (.draw [⟨(some 42), none, .mv (.s 0)⟩,
       ⟨(some 43), none, .nilck (.s 42)⟩,
       ⟨(some 44), none, .faddr 6 (.s 43)⟩,
       ⟨(some 45), none, .load none (.s 44)⟩,
       ⟨(some 46), none, .mv (.s 1)⟩,
       ⟨(some 47), none, .mv (.s 6)⟩,
       ⟨(some 48), none, .slice .sl 1 (.s 46) (some (.c (V.int .i64 4))) (some (.s 47)) none⟩,
       ⟨(some 49), none, .call fn_rtp_exts [(.s 45), (.s 48)]⟩,
       ⟨(some 41), none, .mv (.s 49)⟩,
       ⟨(some 50), none, .ext 0 (.s 41)⟩,
       ⟨(some 51), none, .ext 1 (.s 41)⟩,
       ⟨(some 7), none, .mv (.s 50)⟩,
       ⟨(some 8), none, .mv (.s 51)⟩] []
     (.ops [⟨(some 52), none, .mv (.s 8)⟩,
       ⟨(some 53), none, .un .not (.s 52)⟩]
     (.cond (.s 53)
     (.ops [⟨(some 4), none, .mv (.c (V.int .i64 0))⟩,
        ⟨(some 5), none, .mv (.c (V.int .i64 2))⟩]
      (.ret))
     (.ops [⟨(some 54), none, .mv (.s 0)⟩,
        ⟨(some 55), none, .mv (.s 7)⟩,
        ⟨(some 56), none, .nilck (.s 54)⟩,
        ⟨(some 57), none, .faddr 7 (.s 56)⟩,
        ⟨none, none, .store 1 (.s 57) (.s 55)⟩]
      (.ops [⟨(some 58), none, .mv (.s 6)⟩,
        ⟨(some 4), none, .mv (.s 58)⟩,
        ⟨(some 5), none, .mv (.c (V.int .i64 0))⟩]
      (.ret))))))))))))))⟩

noncomputable def f_rtp_extension (G : Sem') (t0 t1 : V) : M Res :=
  (M.lift (vlen t1)).bind fun t10 =>
  (M.lift (Ax.bin .lss t10 (V.int .i64 4))).bind fun t11 =>
  M.ite t11
    (M.pure (.ret [(V.int .i64 0), (V.int .i64 3)]))
    ((M.lift (vslice .sl 1 t1 (some (V.int .i64 2)) (some (V.int .i64 4)) none)).bind fun t13 =>
    (G fn_rtp_get [t13]).bind fun t14 =>
    (M.lift (Ax.cint .i64 t14)).bind fun t15 =>
    (M.lift (Ax.bin .mul (V.int .i64 4) t15)).bind fun t16 =>
    (M.lift (Ax.bin .add (V.int .i64 4) t16)).bind fun t17 =>
    (M.lift (vlen t1)).bind fun t19 =>
    (M.lift (Ax.bin .lss t19 t17)).bind fun t21 =>
    M.ite t21
      (M.pure (.ret [(V.int .i64 0), (V.int .i64 3)]))
      ((M.lift (vslice .sl 1 t1 none (some (V.int .i64 2)) none)).bind fun t24 =>
      (G fn_rtp_get [t24]).bind fun t25 =>
      (M.lift (Ax.cint .i64 t25)).bind fun t26 =>
      (M.lift (Ax.nilck t0)).bind fun t27 =>
      (M.lift (Ax.faddr 6 t27)).bind fun t28 =>
      (mstore 1 t28 t26).bind fun _ =>
      (M.lift (Ax.nilck t0)).bind fun t30 =>
      (M.lift (Ax.faddr 6 t30)).bind fun t31 =>
      (mload none t31).bind fun t32 =>
      (M.lift (Ax.bin .neq t32 (V.int .i64 48862))).bind fun t33 =>
      (guarded [(0, t33)] (some (0, true)) (M.pure t0)).bind fun t35 =>
      (guarded [(0, t33)] (some (0, true)) (M.lift (Ax.nilck t35))).bind fun t36 =>
      (guarded [(0, t33)] (some (0, true)) (M.lift (Ax.faddr 6 t36))).bind fun t37 =>
      (guarded [(0, t33)] (some (0, true)) (mload none t37)).bind fun t38 =>
      (guarded [(0, t33)] (some (0, true)) (M.lift (Ax.bin .neq t38 (V.int .i64 4096)))).bind fun t39 =>
      (M.lift (Ax.pick t33 t39 (V.bool false))).bind fun t40 =>
      M.ite t40
        (M.pure (.ret [(V.int .i64 0), (V.int .i64 2)]))
        ((M.lift (Ax.nilck t0)).bind fun t43 =>
        (M.lift (Ax.faddr 6 t43)).bind fun t44 =>
        (mload none t44).bind fun t45 =>
        (M.lift (vslice .sl 1 t1 (some (V.int .i64 4)) (some t17) none)).bind fun t48 =>
        (G fn_rtp_exts [t45, t48]).bind fun t49 =>
        (M.lift (Ax.ext 0 t49)).bind fun t50 =>
        (M.lift (Ax.ext 1 t49)).bind fun t51 =>
        (M.lift (Ax.un .not t51)).bind fun t53 =>
        M.ite t53
          (M.pure (.ret [(V.int .i64 0), (V.int .i64 2)]))
          ((M.lift (Ax.nilck t0)).bind fun t56 =>
          (M.lift (Ax.faddr 7 t56)).bind fun t57 =>
          (mstore 1 t57 t50).bind fun _ =>
          M.pure (.ret [t17, (V.int .i64 0)])))))

theorem eq_rtp_extension (G : Sem') (t0 t1 : V) : execK G ir_rtp_extension.rv ir_rtp_extension.body [] [] (params 0 [t0, t1]) = f_rtp_extension G t0 t1 := by kernel_rfl

theorem tb_rtp_extension : T fn_rtp_extension = some ir_rtp_extension := by kernel_rfl

theorem ok_rtp_extension {t0 t1 : V} {H : Heap} {Q : V → Heap → Prop} (h : Ok (f_rtp_extension (sem T) t0 t1) H fun r H' => ∃ L, r = .ret L ∧ Q (tupled L) H') : Ok (sem T fn_rtp_extension [t0, t1]) H Q :=
  ok_sem tb_rtp_extension (Nat.le_of_ble_eq_true rfl) (eq_rtp_extension (sem T) t0 t1) h

/-- palanquin/rtp.exts. -/
def loop_rtp_exts_0 : C :=
  .ops [⟨(some 10), none, .mv (.s 1)⟩,
    ⟨(some 11), none, .len (.s 10)⟩,
    ⟨(some 12), none, .bin .gtr (.s 11) (.c (V.int .i64 0))⟩]
  (.cond (.s 12)
  (.blk 1
   (.ops [⟨(some 13), none, .mv (.s 1)⟩,
      ⟨(some 14), none, .iaddr none 1 (.s 13) (.c (V.int .i64 0))⟩,
      ⟨(some 15), none, .load none (.s 14)⟩,
      ⟨(some 16), none, .bin .eql (.s 15) (.c (V.int .u8 0))⟩]
    (.cond (.s 16)
    (.ops [⟨(some 17), none, .mv (.s 1)⟩,
       ⟨(some 18), none, .slice .sl 1 (.s 17) (some (.c (V.int .i64 1))) none none⟩,
       ⟨(some 1), none, .mv (.s 18)⟩]
     (.exit 1))
    (.ops [⟨(some 19), none, .mv (.s 0)⟩,
       ⟨(some 20), none, .bin .eql (.s 19) (.c (V.int .i64 48862))⟩,
       ⟨(some 21), none, .mv (.s 20)⟩,
       ⟨(some 22), (some (21, true)), .mv (.s 1)⟩,
       ⟨(some 23), (some (21, true)), .iaddr none 1 (.s 22) (.c (V.int .i64 0))⟩,
       ⟨(some 24), (some (21, true)), .load none (.s 23)⟩,
       ⟨(some 25), (some (21, true)), .bin .shr (.s 24) (.c (V.int .u64 4))⟩,
       ⟨(some 26), (some (21, true)), .bin .eql (.s 25) (.c (V.int .u8 15))⟩,
       ⟨(some 27), none, .pick (.s 21) (.s 26) (.c (V.bool false))⟩]
     (.cond (.s 27)
     (.exit 0)
     (.ops [⟨(some 29), none, .mv (.s 0)⟩,
        ⟨(some 30), none, .mv (.s 1)⟩,
        ⟨(some 31), none, .call fn_rtp_element [(.s 29), (.s 30)]⟩,
        ⟨(some 28), none, .mv (.s 31)⟩,
        ⟨(some 32), none, .ext 0 (.s 28)⟩,
        ⟨(some 33), none, .ext 1 (.s 28)⟩,
        ⟨(some 34), none, .ext 2 (.s 28)⟩,
        ⟨(some 7), none, .box ty_rtp_Ext (.c (V.agg [(V.int .i64 0), V.nils]))⟩,
        ⟨none, none, .store 2 (.s 7) (.s 32)⟩,
        ⟨(some 8), none, .mv (.s 33)⟩,
        ⟨(some 9), none, .mv (.s 34)⟩]
      (.ops [⟨(some 35), none, .mv (.s 9)⟩,
        ⟨(some 36), none, .un .not (.s 35)⟩]
      (.cond (.s 36)
      (.ops [⟨(some 4), none, .mv (.c V.nils)⟩,
         ⟨(some 5), none, .mv (.c (V.bool false))⟩]
       (.ret))
      (.ops [⟨(some 37), none, .mv (.s 6)⟩,
         ⟨(some 38), none, .load (some 2) (.s 7)⟩,
         ⟨(some 39), none, .slit ty_rtp_Ext 1 [(V.int .i64 0), V.nils] [(0, 2, (.s 38))]⟩,
         ⟨(some 40), none, .append ty_rtp_Ext 2 32 (.s 37) (.s 39)⟩,
         ⟨(some 6), none, .mv (.s 40)⟩]
       (.ops [⟨(some 41), none, .mv (.s 1)⟩,
         ⟨(some 42), none, .mv (.s 8)⟩,
         ⟨(some 43), none, .slice .sl 1 (.s 41) (some (.s 42)) none none⟩,
         ⟨(some 1), none, .mv (.s 43)⟩]
       (.done)))))))))) [1, 6] [13, 14, 15, 16, 17, 18, 1, 19, 20, 21, 22, 23, 24, 25, 26, 27, 29, 30, 31, 28, 32, 33, 34, 7, 8, 9, 35, 36, 4, 5, 37, 38, 39, 40, 6, 41, 42, 43, 1]
   (.done))
  (.exit 0))

def ir_rtp_exts : Fn' := ⟨45, [.tmp 4, .tmp 5],
  .ops [⟨(some 4), none, .mv (.c V.nils)⟩,
    ⟨(some 5), none, .mv (.c (V.bool false))⟩]
  (.ops [⟨(some 6), none, .mv (.c V.nils)⟩]
  (.blk 0
  (.loop loop_rtp_exts_0 [1, 6] [10, 11, 12, 13, 14, 15, 16, 17, 18, 1, 19, 20, 21, 22, 23, 24, 25, 26, 27, 29, 30, 31, 28, 32, 33, 34, 7, 8, 9, 35, 36, 4, 5, 37, 38, 39, 40, 6, 41, 42, 43, 1]) [6] [10, 11, 12, 13, 14, 15, 16, 17, 18, 1, 19, 20, 21, 22, 23, 24, 25, 26, 27, 29, 30, 31, 28, 32, 33, 34, 7, 8, 9, 35, 36, 4, 5, 37, 38, 39, 40, 6, 41, 42, 43, 1]
  (.ops [⟨(some 44), none, .mv (.s 6)⟩,
    ⟨(some 4), none, .mv (.s 44)⟩,
    ⟨(some 5), none, .mv (.c (V.bool true))⟩]
  (.ret))))⟩

noncomputable def f_rtp_exts_0 (G : Sem') (t0 : V) (L : List V) : M Res :=
  (M.lift (vlen (L.getD 0 .undef))).bind fun t11 =>
  (M.lift (Ax.bin .gtr t11 (V.int .i64 0))).bind fun t12 =>
  M.ite t12
    (M.blk 1 (
      (M.lift (Ax.iaddr none 1 (L.getD 0 .undef) (V.int .i64 0))).bind fun t14 =>
      (mload none t14).bind fun t15 =>
      (M.lift (Ax.bin .eql t15 (V.int .u8 0))).bind fun t16 =>
      M.ite t16
        ((M.lift (vslice .sl 1 (L.getD 0 .undef) (some (V.int .i64 1)) none none)).bind fun t18 =>
        M.pure (.ex 1 [t18, (L.getD 1 .undef)]))
        ((M.lift (Ax.bin .eql t0 (V.int .i64 48862))).bind fun t20 =>
        (guarded [(0, t20)] (some (0, true)) (M.pure (L.getD 0 .undef))).bind fun t22 =>
        (guarded [(0, t20)] (some (0, true)) (M.lift (Ax.iaddr none 1 t22 (V.int .i64 0)))).bind fun t23 =>
        (guarded [(0, t20)] (some (0, true)) (mload none t23)).bind fun t24 =>
        (guarded [(0, t20)] (some (0, true)) (M.lift (Ax.bin .shr t24 (V.int .u64 4)))).bind fun t25 =>
        (guarded [(0, t20)] (some (0, true)) (M.lift (Ax.bin .eql t25 (V.int .u8 15)))).bind fun t26 =>
        (M.lift (Ax.pick t20 t26 (V.bool false))).bind fun t27 =>
        M.ite t27
          (M.pure (.ex 0 [(L.getD 1 .undef)]))
          ((G fn_rtp_element [t0, (L.getD 0 .undef)]).bind fun t31 =>
          (M.lift (Ax.ext 0 t31)).bind fun t32 =>
          (M.lift (Ax.ext 1 t31)).bind fun t33 =>
          (M.lift (Ax.ext 2 t31)).bind fun t34 =>
          (mbox ty_rtp_Ext (V.agg [(V.int .i64 0), V.nils])).bind fun t7 =>
          (mstore 2 t7 t32).bind fun _ =>
          (M.lift (Ax.un .not t34)).bind fun t36 =>
          M.ite t36
            (M.pure (.ret [V.nils, (V.bool false)]))
            ((mload (some 2) t7).bind fun t38 =>
            (mslit ty_rtp_Ext 1 [(V.int .i64 0), V.nils] [(0, 2, t38)]).bind fun t39 =>
            (mappend ty_rtp_Ext 2 32 (L.getD 1 .undef) t39).bind fun t40 =>
            (M.lift (vslice .sl 1 (L.getD 0 .undef) (some t33) none none)).bind fun t43 =>
            M.pure (.nrm [t43, t40]))))) fun L0 =>
    M.pure (.nrm [(L0.getD 0 .undef), (L0.getD 1 .undef)]))
    (M.pure (.ex 0 [(L.getD 1 .undef)]))

noncomputable def f_rtp_exts (G : Sem') (t0 t1 : V) : M Res :=
  M.blk 0 (
    M.iter (f_rtp_exts_0 G t0) [t1, V.nils]) fun L1 =>
  M.pure (.ret [(L1.getD 0 .undef), (V.bool true)])

theorem eq_rtp_exts (G : Sem') (t0 t1 : V) : execK G ir_rtp_exts.rv ir_rtp_exts.body [] [] (params 0 [t0, t1]) = f_rtp_exts G t0 t1 := by kernel_rfl

theorem tb_rtp_exts : T fn_rtp_exts = some ir_rtp_exts := by kernel_rfl

theorem ok_rtp_exts {t0 t1 : V} {H : Heap} {Q : V → Heap → Prop} (h : Ok (f_rtp_exts (sem T) t0 t1) H fun r H' => ∃ L, r = .ret L ∧ Q (tupled L) H') : Ok (sem T fn_rtp_exts [t0, t1]) H Q :=
  ok_sem tb_rtp_exts (Nat.le_of_ble_eq_true rfl) (eq_rtp_exts (sem T) t0 t1) h

/-- palanquin/rtp.element. -/
def ir_rtp_element : Fn' := ⟨60, [.cell 4 (some 2), .tmp 5, .tmp 6],
  .ops [⟨(some 4), none, .box ty_rtp_Ext (.c (V.agg [(V.int .i64 0), V.nils]))⟩,
    ⟨(some 5), none, .mv (.c (V.int .i64 0))⟩,
    ⟨(some 6), none, .mv (.c (V.bool false))⟩]
  (.ops [⟨(some 10), none, .mv (.s 1)⟩,
    ⟨(some 11), none, .iaddr none 1 (.s 10) (.c (V.int .i64 0))⟩,
    ⟨(some 12), none, .load none (.s 11)⟩,
    ⟨(some 13), none, .cint .i64 (.s 12)⟩,
    ⟨(some 14), none, .build [(V.int .i64 0), V.nils] [(0, 1, (.s 13))]⟩,
    ⟨(some 7), none, .box ty_rtp_Ext (.c (V.agg [(V.int .i64 0), V.nils]))⟩,
    ⟨none, none, .store 2 (.s 7) (.s 14)⟩,
    ⟨(some 8), none, .mv (.c (V.int .i64 2))⟩]
  (.ops [⟨(some 9), none, .mv (.c (V.int .i64 0))⟩]
  (.ops [⟨(some 15), none, .mv (.s 0)⟩,
    ⟨(some 16), none, .bin .eql (.s 15) (.c (V.int .i64 48862))⟩]
  (.condJ (.s 16)
  (.ops [⟨(some 17), none, .mv (.s 1)⟩,
     ⟨(some 18), none, .iaddr none 1 (.s 17) (.c (V.int .i64 0))⟩,
     ⟨(some 19), none, .load none (.s 18)⟩,
     ⟨(some 20), none, .bin .shr (.s 19) (.c (V.int .u64 4))⟩,
     ⟨(some 21), none, .cint .i64 (.s 20)⟩,
     ⟨(some 22), none, .faddr 0 (.s 7)⟩,
     ⟨none, none, .store 1 (.s 22) (.s 21)⟩,
     ⟨(some 8), none, .mv (.c (V.int .i64 1))⟩]
   (.ops [⟨(some 23), none, .mv (.s 1)⟩,
     ⟨(some 24), none, .iaddr none 1 (.s 23) (.c (V.int .i64 0))⟩,
     ⟨(some 25), none, .load none (.s 24)⟩,
     ⟨(some 26), none, .bin .and (.s 25) (.c (V.int .u8 15))⟩,
     ⟨(some 27), none, .cint .i64 (.s 26)⟩,
     ⟨(some 28), none, .bin .add (.s 27) (.c (V.int .i64 1))⟩,
     ⟨(some 9), none, .mv (.s 28)⟩]
   (.done)))
  (.ops [⟨(some 29), none, .mv (.s 1)⟩,
     ⟨(some 30), none, .len (.s 29)⟩,
     ⟨(some 31), none, .bin .gtr (.s 30) (.c (V.int .i64 1))⟩]
   (.condJ (.s 31)
   (.ops [⟨(some 32), none, .mv (.s 1)⟩,
      ⟨(some 33), none, .iaddr none 1 (.s 32) (.c (V.int .i64 1))⟩,
      ⟨(some 34), none, .load none (.s 33)⟩,
      ⟨(some 35), none, .cint .i64 (.s 34)⟩,
      ⟨(some 9), none, .mv (.s 35)⟩]
    (.done))
   (.done) [9] [32, 33, 34, 35, 9]
   (.done))) [8, 9] [17, 18, 19, 20, 21, 22, 8, 23, 24, 25, 26, 27, 28, 9, 29, 30, 31, 32, 33, 34, 35, 9]
  (.ops [⟨(some 36), none, .faddr 0 (.s 7)⟩,
    ⟨(some 37), none, .load none (.s 36)⟩,
    ⟨(some 38), none, .bin .eql (.s 37) (.c (V.int .i64 0))⟩,
    ⟨(some 39), none, .mv (.s 38)⟩,
    ⟨(some 40), (some (39, false)), .mv (.s 1)⟩,
    ⟨(some 41), (some (39, false)), .len (.s 40)⟩,
    ⟨(some 42), (some (39, false)), .mv (.s 8)⟩,
    ⟨(some 43), (some (39, false)), .mv (.s 9)⟩,
    ⟨(some 44), (some (39, false)), .bin .add (.s 42) (.s 43)⟩,
    ⟨(some 45), (some (39, false)), .bin .lss (.s 41) (.s 44)⟩,
    ⟨(some 46), none, .pick (.s 39) (.c (V.bool true)) (.s 45)⟩]
  (.cond (.s 46)
  (.ops [⟨(some 47), none, .build [(V.int .i64 0), V.nils] []⟩,
     ⟨none, none, .store 2 (.s 4) (.s 47)⟩,
     ⟨(some 5), none, .mv (.c (V.int .i64 0))⟩,
     ⟨(some 6), none, .mv (.c (V.bool false))⟩]
   (.ret))
  (.ops [⟨(some 48), none, .mv (.s 1)⟩,
     ⟨(some 49), none, .mv (.s 8)⟩,
     ⟨(some 50), none, .mv (.s 8)⟩,
     ⟨(some 51), none, .mv (.s 9)⟩,
     ⟨(some 52), none, .bin .add (.s 50) (.s 51)⟩,
     ⟨(some 53), none, .slice .sl 1 (.s 48) (some (.s 49)) (some (.s 52)) none⟩,
     ⟨(some 54), none, .call fn_bytes_Clone [(.s 53)]⟩,
     ⟨(some 55), none, .faddr 1 (.s 7)⟩,
     ⟨none, none, .store 1 (.s 55) (.s 54)⟩]
   (.ops [⟨(some 56), none, .load (some 2) (.s 7)⟩,
     ⟨(some 57), none, .mv (.s 8)⟩,
     ⟨(some 58), none, .mv (.s 9)⟩,
     ⟨(some 59), none, .bin .add (.s 57) (.s 58)⟩,
     ⟨none, none, .store 2 (.s 4) (.s 56)⟩,
     ⟨(some 5), none, .mv (.s 59)⟩,
     ⟨(some 6), none, .mv (.c (V.bool true))⟩]
   (.ret)))))))))⟩

noncomputable def f_rtp_element (G : Sem') (t0 t1 : V) : M Res :=
  (mbox ty_rtp_Ext (V.agg [(V.int .i64 0), V.nils])).bind fun t4 =>
  (M.lift (Ax.iaddr none 1 t1 (V.int .i64 0))).bind fun t11 =>
  (mload none t11).bind fun t12 =>
  (M.lift (Ax.cint .i64 t12)).bind fun t13 =>
  (M.lift (Ax.build [(V.int .i64 0), V.nils] [(0, 1, t13)])).bind fun t14 =>
  (mbox ty_rtp_Ext (V.agg [(V.int .i64 0), V.nils])).bind fun t7 =>
  (mstore 2 t7 t14).bind fun _ =>
  (M.lift (Ax.bin .eql t0 (V.int .i64 48862))).bind fun t16 =>
  M.join (M.ite t16
    ((M.lift (Ax.iaddr none 1 t1 (V.int .i64 0))).bind fun t18 =>
    (mload none t18).bind fun t19 =>
    (M.lift (Ax.bin .shr t19 (V.int .u64 4))).bind fun t20 =>
    (M.lift (Ax.cint .i64 t20)).bind fun t21 =>
    (M.lift (Ax.faddr 0 t7)).bind fun t22 =>
    (mstore 1 t22 t21).bind fun _ =>
    (M.lift (Ax.iaddr none 1 t1 (V.int .i64 0))).bind fun t24 =>
    (mload none t24).bind fun t25 =>
    (M.lift (Ax.bin .and t25 (V.int .u8 15))).bind fun t26 =>
    (M.lift (Ax.cint .i64 t26)).bind fun t27 =>
    (M.lift (Ax.bin .add t27 (V.int .i64 1))).bind fun t28 =>
    M.pure (.nrm [(V.int .i64 1), t28]))
    ((M.lift (vlen t1)).bind fun t30 =>
    (M.lift (Ax.bin .gtr t30 (V.int .i64 1))).bind fun t31 =>
    M.join (M.ite t31
      ((M.lift (Ax.iaddr none 1 t1 (V.int .i64 1))).bind fun t33 =>
      (mload none t33).bind fun t34 =>
      (M.lift (Ax.cint .i64 t34)).bind fun t35 =>
      M.pure (.nrm [t35]))
      (M.pure (.nrm [(V.int .i64 0)]))) fun L0 =>
    M.pure (.nrm [(V.int .i64 2), (L0.getD 0 .undef)]))) fun L1 =>
  (M.lift (Ax.faddr 0 t7)).bind fun t36 =>
  (mload none t36).bind fun t37 =>
  (M.lift (Ax.bin .eql t37 (V.int .i64 0))).bind fun t38 =>
  (guarded [(0, t38)] (some (0, false)) (M.pure t1)).bind fun t40 =>
  (guarded [(0, t38)] (some (0, false)) (M.lift (vlen t40))).bind fun t41 =>
  (guarded [(0, t38)] (some (0, false)) (M.pure (L1.getD 0 .undef))).bind fun t42 =>
  (guarded [(0, t38)] (some (0, false)) (M.pure (L1.getD 1 .undef))).bind fun t43 =>
  (guarded [(0, t38)] (some (0, false)) (M.lift (Ax.bin .add t42 t43))).bind fun t44 =>
  (guarded [(0, t38)] (some (0, false)) (M.lift (Ax.bin .lss t41 t44))).bind fun t45 =>
  (M.lift (Ax.pick t38 (V.bool true) t45)).bind fun t46 =>
  M.ite t46
    ((M.lift (Ax.build [(V.int .i64 0), V.nils] [])).bind fun t47 =>
    (mstore 2 t4 t47).bind fun _ =>
    (mload (some 2) t4).bind fun r0 =>
    M.pure (.ret [r0, (V.int .i64 0), (V.bool false)]))
    ((M.lift (Ax.bin .add (L1.getD 0 .undef) (L1.getD 1 .undef))).bind fun t52 =>
    (M.lift (vslice .sl 1 t1 (some (L1.getD 0 .undef)) (some t52) none)).bind fun t53 =>
    (G fn_bytes_Clone [t53]).bind fun t54 =>
    (M.lift (Ax.faddr 1 t7)).bind fun t55 =>
    (mstore 1 t55 t54).bind fun _ =>
    (mload (some 2) t7).bind fun t56 =>
    (M.lift (Ax.bin .add (L1.getD 0 .undef) (L1.getD 1 .undef))).bind fun t59 =>
    (mstore 2 t4 t56).bind fun _ =>
    (mload (some 2) t4).bind fun r0 =>
    M.pure (.ret [r0, t59, (V.bool true)]))

theorem eq_rtp_element (G : Sem') (t0 t1 : V) : execK G ir_rtp_element.rv ir_rtp_element.body [] [] (params 0 [t0, t1]) = f_rtp_element G t0 t1 := by kernel_rfl

theorem tb_rtp_element : T fn_rtp_element = some ir_rtp_element := by kernel_rfl

theorem ok_rtp_element {t0 t1 : V} {H : Heap} {Q : V → Heap → Prop} (h : Ok (f_rtp_element (sem T) t0 t1) H fun r H' => ∃ L, r = .ret L ∧ Q (tupled L) H') : Ok (sem T fn_rtp_element [t0, t1]) H Q :=
  ok_sem tb_rtp_element (Nat.le_of_ble_eq_true rfl) (eq_rtp_element (sem T) t0 t1) h

/-- bytes.Clone. -/
def ir_bytes_Clone : Fn' := ⟨8, [.tmp 2],
  .ops [⟨(some 2), none, .mv (.c V.nils)⟩]
  (.ops [⟨(some 3), none, .mv (.s 0)⟩,
    ⟨(some 4), none, .eq .sl false (.s 3) (.c V.nils)⟩]
  (.cond (.s 4)
  (.ops [⟨(some 2), none, .mv (.c V.nils)⟩]
   (.ret))
  (.ops [⟨(some 5), none, .slit ty_uint8 0 [(V.int .u8 0)] []⟩,
     ⟨(some 6), none, .mv (.s 0)⟩,
     ⟨(some 7), none, .append ty_uint8 1 1 (.s 5) (.s 6)⟩,
     ⟨(some 2), none, .mv (.s 7)⟩]
   (.ret))))⟩

noncomputable def f_bytes_Clone (G : Sem') (t0 : V) : M Res :=
  (M.lift (eqr .sl false t0 V.nils)).bind fun t4 =>
  M.ite t4
    (M.pure (.ret [V.nils]))
    ((mslit ty_uint8 0 [(V.int .u8 0)] []).bind fun t5 =>
    (mappend ty_uint8 1 1 t5 t0).bind fun t7 =>
    M.pure (.ret [t7]))

theorem eq_bytes_Clone (G : Sem') (t0 : V) : execK G ir_bytes_Clone.rv ir_bytes_Clone.body [] [] (params 0 [t0]) = f_bytes_Clone G t0 := by kernel_rfl

theorem tb_bytes_Clone : T fn_bytes_Clone = some ir_bytes_Clone := by kernel_rfl

theorem ok_bytes_Clone {t0 : V} {H : Heap} {Q : V → Heap → Prop} (h : Ok (f_bytes_Clone (sem T) t0) H fun r H' => ∃ L, r = .ret L ∧ Q (tupled L) H') : Ok (sem T fn_bytes_Clone [t0]) H Q :=
  ok_sem tb_bytes_Clone (Nat.le_of_ble_eq_true rfl) (eq_bytes_Clone (sem T) t0) h

/-- palanquin/rtp.Good. -/
def ir_rtp_Good : Fn' := ⟨50, [.tmp 2],
  .ops [⟨(some 1), none, .box ty_rtp_Packet (.s 0)⟩,
    ⟨(some 2), none, .mv (.c (V.bool false))⟩]
  (.blk 0
  (.ops [⟨(some 4), none, .faddr 1 (.s 1)⟩,
     ⟨(some 5), none, .load none (.s 4)⟩,
     ⟨(some 6), none, .bin .lss (.s 5) (.c (V.int .i64 0))⟩,
     ⟨(some 7), none, .mv (.s 6)⟩,
     ⟨(some 8), (some (7, false)), .faddr 1 (.s 1)⟩,
     ⟨(some 9), (some (7, false)), .load none (.s 8)⟩,
     ⟨(some 10), (some (7, false)), .bin .gtr (.s 9) (.c (V.int .i64 127))⟩,
     ⟨(some 11), none, .pick (.s 7) (.c (V.bool true)) (.s 10)⟩,
     ⟨(some 12), none, .mv (.s 11)⟩,
     ⟨(some 13), (some (12, false)), .faddr 5 (.s 1)⟩,
     ⟨(some 14), (some (12, false)), .load none (.s 13)⟩,
     ⟨(some 15), (some (12, false)), .len (.s 14)⟩,
     ⟨(some 16), (some (12, false)), .bin .gtr (.s 15) (.c (V.int .i64 15))⟩,
     ⟨(some 17), none, .pick (.s 12) (.c (V.bool true)) (.s 16)⟩,
     ⟨(some 18), none, .mv (.s 17)⟩,
     ⟨(some 19), (some (18, false)), .faddr 8 (.s 1)⟩,
     ⟨(some 20), (some (18, false)), .load none (.s 19)⟩,
     ⟨(some 21), (some (18, false)), .bin .lss (.s 20) (.c (V.int .i64 0))⟩,
     ⟨(some 22), none, .pick (.s 18) (.c (V.bool true)) (.s 21)⟩,
     ⟨(some 23), none, .mv (.s 22)⟩,
     ⟨(some 24), (some (23, false)), .faddr 8 (.s 1)⟩,
     ⟨(some 25), (some (23, false)), .load none (.s 24)⟩,
     ⟨(some 26), (some (23, false)), .bin .gtr (.s 25) (.c (V.int .i64 255))⟩,
     ⟨(some 27), none, .pick (.s 23) (.c (V.bool true)) (.s 26)⟩,
     ⟨(some 3), none, .mv (.s 27)⟩]
   (.cond (.s 3)
   (.ops [⟨(some 2), none, .mv (.c (V.bool false))⟩]
    (.ret))
   (.ops [⟨(some 29), none, .faddr 6 (.s 1)⟩,
      ⟨(some 30), none, .load none (.s 29)⟩,
      ⟨(some 31), none, .bin .eql (.s 30) (.c (V.int .i64 0))⟩,
      ⟨(some 28), none, .mv (.s 31)⟩]
    (.cond (.s 28)
    (.ops [⟨(some 32), none, .faddr 7 (.s 1)⟩,
       ⟨(some 33), none, .load none (.s 32)⟩,
       ⟨(some 34), none, .len (.s 33)⟩,
       ⟨(some 35), none, .bin .eql (.s 34) (.c (V.int .i64 0))⟩,
       ⟨(some 2), none, .mv (.s 35)⟩]
     (.ret))
    (.ops [⟨(some 37), none, .faddr 6 (.s 1)⟩,
       ⟨(some 38), none, .load none (.s 37)⟩,
       ⟨(some 39), none, .bin .neq (.s 38) (.c (V.int .i64 48862))⟩,
       ⟨(some 40), none, .mv (.s 39)⟩,
       ⟨(some 41), (some (40, true)), .faddr 6 (.s 1)⟩,
       ⟨(some 42), (some (40, true)), .load none (.s 41)⟩,
       ⟨(some 43), (some (40, true)), .bin .neq (.s 42) (.c (V.int .i64 4096))⟩,
       ⟨(some 44), none, .pick (.s 40) (.s 43) (.c (V.bool false))⟩,
       ⟨(some 36), none, .mv (.s 44)⟩]
     (.cond (.s 36)
     (.ops [⟨(some 2), none, .mv (.c (V.bool false))⟩]
      (.ret))
     (.done))))))) [] [4, 5, 6, 7, 8, 9, 10, 11, 12, 13, 14, 15, 16, 17, 18, 19, 20, 21, 22, 23, 24, 25, 26, 27, 3, 2, 29, 30, 31, 28, 32, 33, 34, 35, 2, 37, 38, 39, 40, 41, 42, 43, 44, 36, 2]
  (.ops [⟨(some 45), none, .faddr 7 (.s 1)⟩,
    ⟨(some 46), none, .load none (.s 45)⟩,
    ⟨(some 47), none, .mkfn fn_rtp_Good_1 [(.s 1)]⟩,
    ⟨(some 48), none, .call fn_slices_ContainsFunc_rtp_Ext_rtp_Ext [(.s 46), (.s 47)]⟩,
    ⟨(some 49), none, .un .not (.s 48)⟩,
    ⟨(some 2), none, .mv (.s 49)⟩]
  (.ret)))⟩

noncomputable def f_rtp_Good (G : Sem') (t0 : V) : M Res :=
  (mbox ty_rtp_Packet t0).bind fun t1 =>
  M.blk 0 (
    (M.lift (Ax.faddr 1 t1)).bind fun t4 =>
    (mload none t4).bind fun t5 =>
    (M.lift (Ax.bin .lss t5 (V.int .i64 0))).bind fun t6 =>
    (guarded [(0, t6)] (some (0, false)) (M.lift (Ax.faddr 1 t1))).bind fun t8 =>
    (guarded [(0, t6)] (some (0, false)) (mload none t8)).bind fun t9 =>
    (guarded [(0, t6)] (some (0, false)) (M.lift (Ax.bin .gtr t9 (V.int .i64 127)))).bind fun t10 =>
    (M.lift (Ax.pick t6 (V.bool true) t10)).bind fun t11 =>
    (guarded [(0, t11)] (some (0, false)) (M.lift (Ax.faddr 5 t1))).bind fun t13 =>
    (guarded [(0, t11)] (some (0, false)) (mload none t13)).bind fun t14 =>
    (guarded [(0, t11)] (some (0, false)) (M.lift (vlen t14))).bind fun t15 =>
    (guarded [(0, t11)] (some (0, false)) (M.lift (Ax.bin .gtr t15 (V.int .i64 15)))).bind fun t16 =>
    (M.lift (Ax.pick t11 (V.bool true) t16)).bind fun t17 =>
    (guarded [(0, t17)] (some (0, false)) (M.lift (Ax.faddr 8 t1))).bind fun t19 =>
    (guarded [(0, t17)] (some (0, false)) (mload none t19)).bind fun t20 =>
    (guarded [(0, t17)] (some (0, false)) (M.lift (Ax.bin .lss t20 (V.int .i64 0)))).bind fun t21 =>
    (M.lift (Ax.pick t17 (V.bool true) t21)).bind fun t22 =>
    (guarded [(0, t22)] (some (0, false)) (M.lift (Ax.faddr 8 t1))).bind fun t24 =>
    (guarded [(0, t22)] (some (0, false)) (mload none t24)).bind fun t25 =>
    (guarded [(0, t22)] (some (0, false)) (M.lift (Ax.bin .gtr t25 (V.int .i64 255)))).bind fun t26 =>
    (M.lift (Ax.pick t22 (V.bool true) t26)).bind fun t27 =>
    M.ite t27
      (M.pure (.ret [(V.bool false)]))
      ((M.lift (Ax.faddr 6 t1)).bind fun t29 =>
      (mload none t29).bind fun t30 =>
      (M.lift (Ax.bin .eql t30 (V.int .i64 0))).bind fun t31 =>
      M.ite t31
        ((M.lift (Ax.faddr 7 t1)).bind fun t32 =>
        (mload none t32).bind fun t33 =>
        (M.lift (vlen t33)).bind fun t34 =>
        (M.lift (Ax.bin .eql t34 (V.int .i64 0))).bind fun t35 =>
        M.pure (.ret [t35]))
        ((M.lift (Ax.faddr 6 t1)).bind fun t37 =>
        (mload none t37).bind fun t38 =>
        (M.lift (Ax.bin .neq t38 (V.int .i64 48862))).bind fun t39 =>
        (guarded [(0, t39)] (some (0, true)) (M.lift (Ax.faddr 6 t1))).bind fun t41 =>
        (guarded [(0, t39)] (some (0, true)) (mload none t41)).bind fun t42 =>
        (guarded [(0, t39)] (some (0, true)) (M.lift (Ax.bin .neq t42 (V.int .i64 4096)))).bind fun t43 =>
        (M.lift (Ax.pick t39 t43 (V.bool false))).bind fun t44 =>
        M.ite t44
          (M.pure (.ret [(V.bool false)]))
          (M.pure (.nrm []))))) fun _ =>
  (M.lift (Ax.faddr 7 t1)).bind fun t45 =>
  (mload none t45).bind fun t46 =>
  (M.pure (.fn fn_rtp_Good_1 [t1])).bind fun t47 =>
  (G fn_slices_ContainsFunc_rtp_Ext_rtp_Ext [t46, t47]).bind fun t48 =>
  (M.lift (Ax.un .not t48)).bind fun t49 =>
  M.pure (.ret [t49])

theorem eq_rtp_Good (G : Sem') (t0 : V) : execK G ir_rtp_Good.rv ir_rtp_Good.body [] [] (params 0 [t0]) = f_rtp_Good G t0 := by kernel_rfl

theorem tb_rtp_Good : T fn_rtp_Good = some ir_rtp_Good := by kernel_rfl

theorem ok_rtp_Good {t0 : V} {H : Heap} {Q : V → Heap → Prop} (h : Ok (f_rtp_Good (sem T) t0) H fun r H' => ∃ L, r = .ret L ∧ Q (tupled L) H') : Ok (sem T fn_rtp_Good [t0]) H Q :=
  ok_sem tb_rtp_Good (Nat.le_of_ble_eq_true rfl) (eq_rtp_Good (sem T) t0) h

/-- palanquin/rtp.Good$1. -/
def ir_rtp_Good_1 : Fn' := ⟨9, [.tmp 3],
  .ops [⟨(some 2), none, .box ty_rtp_Ext (.s 0)⟩,
    ⟨(some 3), none, .mv (.c (V.bool false))⟩]
  (.ops [⟨(some 4), none, .faddr 6 (.s 1)⟩,
    ⟨(some 5), none, .load none (.s 4)⟩,
    ⟨(some 6), none, .load (some 2) (.s 2)⟩,
    ⟨(some 7), none, .call fn_rtp_goodExt [(.s 5), (.s 6)]⟩,
    ⟨(some 8), none, .un .not (.s 7)⟩,
    ⟨(some 3), none, .mv (.s 8)⟩]
  (.ret))⟩

noncomputable def f_rtp_Good_1 (G : Sem') (t0 t1 : V) : M Res :=
  (mbox ty_rtp_Ext t0).bind fun t2 =>
  (M.lift (Ax.faddr 6 t1)).bind fun t4 =>
  (mload none t4).bind fun t5 =>
  (mload (some 2) t2).bind fun t6 =>
  (G fn_rtp_goodExt [t5, t6]).bind fun t7 =>
  (M.lift (Ax.un .not t7)).bind fun t8 =>
  M.pure (.ret [t8])

theorem eq_rtp_Good_1 (G : Sem') (t0 t1 : V) : execK G ir_rtp_Good_1.rv ir_rtp_Good_1.body [] [] (params 0 [t0, t1]) = f_rtp_Good_1 G t0 t1 := by kernel_rfl

theorem tb_rtp_Good_1 : T fn_rtp_Good_1 = some ir_rtp_Good_1 := by kernel_rfl

theorem ok_rtp_Good_1 {t0 t1 : V} {H : Heap} {Q : V → Heap → Prop} (h : Ok (f_rtp_Good_1 (sem T) t0 t1) H fun r H' => ∃ L, r = .ret L ∧ Q (tupled L) H') : Ok (sem T fn_rtp_Good_1 [t0, t1]) H Q :=
  ok_sem tb_rtp_Good_1 (Nat.le_of_ble_eq_true rfl) (eq_rtp_Good_1 (sem T) t0 t1) h

/-- palanquin/rtp.goodExt. -/
def ir_rtp_goodExt : Fn' := ⟨41, [.tmp 4],
  .ops [⟨(some 3), none, .box ty_rtp_Ext (.s 1)⟩,
    ⟨(some 4), none, .mv (.c (V.bool false))⟩]
  (.ops [⟨(some 5), none, .mv (.s 0)⟩,
    ⟨(some 6), none, .bin .eql (.s 5) (.c (V.int .i64 48862))⟩]
  (.cond (.s 6)
  (.ops [⟨(some 7), none, .faddr 0 (.s 3)⟩,
     ⟨(some 8), none, .load none (.s 7)⟩,
     ⟨(some 9), none, .bin .geq (.s 8) (.c (V.int .i64 1))⟩,
     ⟨(some 10), none, .mv (.s 9)⟩,
     ⟨(some 11), (some (10, true)), .faddr 0 (.s 3)⟩,
     ⟨(some 12), (some (10, true)), .load none (.s 11)⟩,
     ⟨(some 13), (some (10, true)), .bin .leq (.s 12) (.c (V.int .i64 14))⟩,
     ⟨(some 14), none, .pick (.s 10) (.s 13) (.c (V.bool false))⟩,
     ⟨(some 15), none, .mv (.s 14)⟩,
     ⟨(some 16), (some (15, true)), .faddr 1 (.s 3)⟩,
     ⟨(some 17), (some (15, true)), .load none (.s 16)⟩,
     ⟨(some 18), (some (15, true)), .len (.s 17)⟩,
     ⟨(some 19), (some (15, true)), .bin .geq (.s 18) (.c (V.int .i64 1))⟩,
     ⟨(some 20), none, .pick (.s 15) (.s 19) (.c (V.bool false))⟩,
     ⟨(some 21), none, .mv (.s 20)⟩,
     ⟨(some 22), (some (21, true)), .faddr 1 (.s 3)⟩,
     ⟨(some 23), (some (21, true)), .load none (.s 22)⟩,
     ⟨(some 24), (some (21, true)), .len (.s 23)⟩,
     ⟨(some 25), (some (21, true)), .bin .leq (.s 24) (.c (V.int .i64 16))⟩,
     ⟨(some 26), none, .pick (.s 21) (.s 25) (.c (V.bool false))⟩,
     ⟨(some 4), none, .mv (.s 26)⟩]
   (.ret))
  (.ops [⟨(some 27), none, .faddr 0 (.s 3)⟩,
     ⟨(some 28), none, .load none (.s 27)⟩,
     ⟨(some 29), none, .bin .geq (.s 28) (.c (V.int .i64 1))⟩,
     ⟨(some 30), none, .mv (.s 29)⟩,
     ⟨(some 31), (some (30, true)), .faddr 0 (.s 3)⟩,
     ⟨(some 32), (some (30, true)), .load none (.s 31)⟩,
     ⟨(some 33), (some (30, true)), .bin .leq (.s 32) (.c (V.int .i64 255))⟩,
     ⟨(some 34), none, .pick (.s 30) (.s 33) (.c (V.bool false))⟩,
     ⟨(some 35), none, .mv (.s 34)⟩,
     ⟨(some 36), (some (35, true)), .faddr 1 (.s 3)⟩,
     ⟨(some 37), (some (35, true)), .load none (.s 36)⟩,
     ⟨(some 38), (some (35, true)), .len (.s 37)⟩,
     ⟨(some 39), (some (35, true)), .bin .leq (.s 38) (.c (V.int .i64 255))⟩,
     ⟨(some 40), none, .pick (.s 35) (.s 39) (.c (V.bool false))⟩,
     ⟨(some 4), none, .mv (.s 40)⟩]
   (.ret))))⟩

noncomputable def f_rtp_goodExt (G : Sem') (t0 t1 : V) : M Res :=
  (mbox ty_rtp_Ext t1).bind fun t3 =>
  (M.lift (Ax.bin .eql t0 (V.int .i64 48862))).bind fun t6 =>
  M.ite t6
    ((M.lift (Ax.faddr 0 t3)).bind fun t7 =>
    (mload none t7).bind fun t8 =>
    (M.lift (Ax.bin .geq t8 (V.int .i64 1))).bind fun t9 =>
    (guarded [(0, t9)] (some (0, true)) (M.lift (Ax.faddr 0 t3))).bind fun t11 =>
    (guarded [(0, t9)] (some (0, true)) (mload none t11)).bind fun t12 =>
    (guarded [(0, t9)] (some (0, true)) (M.lift (Ax.bin .leq t12 (V.int .i64 14)))).bind fun t13 =>
    (M.lift (Ax.pick t9 t13 (V.bool false))).bind fun t14 =>
    (guarded [(0, t14)] (some (0, true)) (M.lift (Ax.faddr 1 t3))).bind fun t16 =>
    (guarded [(0, t14)] (some (0, true)) (mload none t16)).bind fun t17 =>
    (guarded [(0, t14)] (some (0, true)) (M.lift (vlen t17))).bind fun t18 =>
    (guarded [(0, t14)] (some (0, true)) (M.lift (Ax.bin .geq t18 (V.int .i64 1)))).bind fun t19 =>
    (M.lift (Ax.pick t14 t19 (V.bool false))).bind fun t20 =>
    (guarded [(0, t20)] (some (0, true)) (M.lift (Ax.faddr 1 t3))).bind fun t22 =>
    (guarded [(0, t20)] (some (0, true)) (mload none t22)).bind fun t23 =>
    (guarded [(0, t20)] (some (0, true)) (M.lift (vlen t23))).bind fun t24 =>
    (guarded [(0, t20)] (some (0, true)) (M.lift (Ax.bin .leq t24 (V.int .i64 16)))).bind fun t25 =>
    (M.lift (Ax.pick t20 t25 (V.bool false))).bind fun t26 =>
    M.pure (.ret [t26]))
    ((M.lift (Ax.faddr 0 t3)).bind fun t27 =>
    (mload none t27).bind fun t28 =>
    (M.lift (Ax.bin .geq t28 (V.int .i64 1))).bind fun t29 =>
    (guarded [(0, t29)] (some (0, true)) (M.lift (Ax.faddr 0 t3))).bind fun t31 =>
    (guarded [(0, t29)] (some (0, true)) (mload none t31)).bind fun t32 =>
    (guarded [(0, t29)] (some (0, true)) (M.lift (Ax.bin .leq t32 (V.int .i64 255)))).bind fun t33 =>
    (M.lift (Ax.pick t29 t33 (V.bool false))).bind fun t34 =>
    (guarded [(0, t34)] (some (0, true)) (M.lift (Ax.faddr 1 t3))).bind fun t36 =>
    (guarded [(0, t34)] (some (0, true)) (mload none t36)).bind fun t37 =>
    (guarded [(0, t34)] (some (0, true)) (M.lift (vlen t37))).bind fun t38 =>
    (guarded [(0, t34)] (some (0, true)) (M.lift (Ax.bin .leq t38 (V.int .i64 255)))).bind fun t39 =>
    (M.lift (Ax.pick t34 t39 (V.bool false))).bind fun t40 =>
    M.pure (.ret [t40]))

theorem eq_rtp_goodExt (G : Sem') (t0 t1 : V) : execK G ir_rtp_goodExt.rv ir_rtp_goodExt.body [] [] (params 0 [t0, t1]) = f_rtp_goodExt G t0 t1 := by kernel_rfl

theorem tb_rtp_goodExt : T fn_rtp_goodExt = some ir_rtp_goodExt := by kernel_rfl

theorem ok_rtp_goodExt {t0 t1 : V} {H : Heap} {Q : V → Heap → Prop} (h : Ok (f_rtp_goodExt (sem T) t0 t1) H fun r H' => ∃ L, r = .ret L ∧ Q (tupled L) H') : Ok (sem T fn_rtp_goodExt [t0, t1]) H Q :=
  ok_sem tb_rtp_goodExt (Nat.le_of_ble_eq_true rfl) (eq_rtp_goodExt (sem T) t0 t1) h

/-- slices.ContainsFunc[[]palanquin/rtp.Ext,palanquin/rtp.Ext]. -/
def ir_slices_ContainsFunc_rtp_Ext_rtp_Ext : Fn' := ⟨9, [.tmp 4],
  .ops [⟨(some 4), none, .mv (.c (V.bool false))⟩]
  (.ops [⟨(some 5), none, .mv (.s 0)⟩,
    ⟨(some 6), none, .mv (.s 1)⟩,
    ⟨(some 7), none, .call fn_slices_IndexFunc_rtp_Ext_rtp_Ext [(.s 5), (.s 6)]⟩,
    ⟨(some 8), none, .bin .geq (.s 7) (.c (V.int .i64 0))⟩,
    ⟨(some 4), none, .mv (.s 8)⟩]
  (.ret))⟩

noncomputable def f_slices_ContainsFunc_rtp_Ext_rtp_Ext (G : Sem') (t0 t1 : V) : M Res :=
  (G fn_slices_IndexFunc_rtp_Ext_rtp_Ext [t0, t1]).bind fun t7 =>
  (M.lift (Ax.bin .geq t7 (V.int .i64 0))).bind fun t8 =>
  M.pure (.ret [t8])

theorem eq_slices_ContainsFunc_rtp_Ext_rtp_Ext (G : Sem') (t0 t1 : V) : execK G ir_slices_ContainsFunc_rtp_Ext_rtp_Ext.rv ir_slices_ContainsFunc_rtp_Ext_rtp_Ext.body [] [] (params 0 [t0, t1]) = f_slices_ContainsFunc_rtp_Ext_rtp_Ext G t0 t1 := by kernel_rfl

theorem tb_slices_ContainsFunc_rtp_Ext_rtp_Ext : T fn_slices_ContainsFunc_rtp_Ext_rtp_Ext = some ir_slices_ContainsFunc_rtp_Ext_rtp_Ext := by kernel_rfl

theorem ok_slices_ContainsFunc_rtp_Ext_rtp_Ext {t0 t1 : V} {H : Heap} {Q : V → Heap → Prop} (h : Ok (f_slices_ContainsFunc_rtp_Ext_rtp_Ext (sem T) t0 t1) H fun r H' => ∃ L, r = .ret L ∧ Q (tupled L) H') : Ok (sem T fn_slices_ContainsFunc_rtp_Ext_rtp_Ext [t0, t1]) H Q :=
  ok_sem tb_slices_ContainsFunc_rtp_Ext_rtp_Ext (Nat.le_of_ble_eq_true rfl) (eq_slices_ContainsFunc_rtp_Ext_rtp_Ext (sem T) t0 t1) h

/-- slices.IndexFunc[[]palanquin/rtp.Ext,palanquin/rtp.Ext]. -/
def loop_slices_IndexFunc_rtp_Ext_rtp_Ext_0 : C :=
  .ops [⟨(some 9), none, .bin .lss (.s 8) (.s 7)⟩]
  (.cond (.s 9)
  (.blk 1
   (.ops [⟨(some 10), none, .mv (.s 8)⟩,
      ⟨(some 5), none, .mv (.s 10)⟩]
    (.ops [⟨(some 11), none, .mv (.s 1)⟩,
      ⟨(some 12), none, .mv (.s 0)⟩,
      ⟨(some 13), none, .mv (.s 5)⟩,
      ⟨(some 14), none, .iaddr none 2 (.s 12) (.s 13)⟩,
      ⟨(some 15), none, .load (some 2) (.s 14)⟩,
      ⟨(some 16), none, .callv (.s 11) [(.s 15)]⟩]
    (.cond (.s 16)
    (.ops [⟨(some 17), none, .mv (.s 5)⟩,
       ⟨(some 4), none, .mv (.s 17)⟩]
     (.ret))
    (.done)))) [] [10, 5, 11, 12, 13, 14, 15, 16, 17, 4]
   (.ops [⟨(some 18), none, .bin .add (.s 8) (.c (V.int .i64 1))⟩,
     ⟨(some 8), none, .mv (.s 18)⟩]
   (.done)))
  (.exit 0))

def ir_slices_IndexFunc_rtp_Ext_rtp_Ext : Fn' := ⟨19, [.tmp 4],
  .ops [⟨(some 4), none, .mv (.c (V.int .i64 0))⟩]
  (.ops [⟨(some 6), none, .mv (.s 0)⟩,
    ⟨(some 7), none, .len (.s 6)⟩,
    ⟨(some 8), none, .mv (.c (V.int .i64 0))⟩]
  (.blk 0
  (.loop loop_slices_IndexFunc_rtp_Ext_rtp_Ext_0 [8] [9, 10, 5, 11, 12, 13, 14, 15, 16, 17, 4, 18, 8]) [] [9, 10, 5, 11, 12, 13, 14, 15, 16, 17, 4, 18, 8]
  (.ops [⟨(some 4), none, .mv (.c (V.int .i64 (-1)))⟩]
  (.ret))))⟩

noncomputable def f_slices_IndexFunc_rtp_Ext_rtp_Ext_0 (G : Sem') (t7 t1 t0 : V) (L : List V) : M Res :=
  (M.lift (Ax.bin .lss (L.getD 0 .undef) t7)).bind fun t9 =>
  M.ite t9
    (M.blk 1 (
      (M.lift (Ax.iaddr none 2 t0 (L.getD 0 .undef))).bind fun t14 =>
      (mload (some 2) t14).bind fun t15 =>
      (callv G t1 [t15]).bind fun t16 =>
      M.ite t16
        (M.pure (.ret [(L.getD 0 .undef)]))
        (M.pure (.nrm []))) fun _ =>
    (M.lift (Ax.bin .add (L.getD 0 .undef) (V.int .i64 1))).bind fun t18 =>
    M.pure (.nrm [t18]))
    (M.pure (.ex 0 []))

noncomputable def f_slices_IndexFunc_rtp_Ext_rtp_Ext (G : Sem') (t0 t1 : V) : M Res :=
  (M.lift (vlen t0)).bind fun t7 =>
  M.blk 0 (
    M.iter (f_slices_IndexFunc_rtp_Ext_rtp_Ext_0 G t7 t1 t0) [(V.int .i64 0)]) fun _ =>
  M.pure (.ret [(V.int .i64 (-1))])

theorem eq_slices_IndexFunc_rtp_Ext_rtp_Ext (G : Sem') (t0 t1 : V) : execK G ir_slices_IndexFunc_rtp_Ext_rtp_Ext.rv ir_slices_IndexFunc_rtp_Ext_rtp_Ext.body [] [] (params 0 [t0, t1]) = f_slices_IndexFunc_rtp_Ext_rtp_Ext G t0 t1 := by kernel_rfl

theorem tb_slices_IndexFunc_rtp_Ext_rtp_Ext : T fn_slices_IndexFunc_rtp_Ext_rtp_Ext = some ir_slices_IndexFunc_rtp_Ext_rtp_Ext := by kernel_rfl

theorem ok_slices_IndexFunc_rtp_Ext_rtp_Ext {t0 t1 : V} {H : Heap} {Q : V → Heap → Prop} (h : Ok (f_slices_IndexFunc_rtp_Ext_rtp_Ext (sem T) t0 t1) H fun r H' => ∃ L, r = .ret L ∧ Q (tupled L) H') : Ok (sem T fn_slices_IndexFunc_rtp_Ext_rtp_Ext [t0, t1]) H Q :=
  ok_sem tb_slices_IndexFunc_rtp_Ext_rtp_Ext (Nat.le_of_ble_eq_true rfl) (eq_slices_IndexFunc_rtp_Ext_rtp_Ext (sem T) t0 t1) h

/-- palanquin/palanquinref7.Parse. -/
def loop_palanquinref7_Parse_0 : C :=
  .ops [⟨(some 58), none, .mv (.s 7)⟩,
    ⟨(some 59), none, .mv (.s 5)⟩,
    ⟨(some 60), none, .bin .lss (.s 58) (.s 59)⟩]
  (.cond (.s 60)
  (.blk 1
   (.draw [⟨(some 63), none, .faddr 5 (.s 4)⟩,
      ⟨(some 64), none, .load none (.s 63)⟩,
      ⟨(some 65), none, .mv (.s 0)⟩,
      ⟨(some 66), none, .mv (.s 7)⟩,
      ⟨(some 67), none, .bin .mul (.c (V.int .i64 4)) (.s 66)⟩,
      ⟨(some 68), none, .bin .add (.c (V.int .i64 12)) (.s 67)⟩,
      ⟨(some 69), none, .call fn_palanquinref7_N [(.s 65), (.s 68), (.c (V.int .i64 4))]⟩,
      ⟨(some 70), none, .cint .u32 (.s 69)⟩,
      ⟨(some 71), none, .slit ty_uint32 1 [(V.int .u32 0)] [(0, 1, (.s 70))]⟩,
      ⟨(some 72), none, .append ty_uint32 1 4 (.s 64) (.s 71)⟩,
      ⟨(some 73), none, .faddr 5 (.s 4)⟩,
      ⟨none, none, .store 1 (.s 73) (.s 72)⟩] [(1, 6)]
    (.done)) [] [63, 64, 65, 66, 67, 68, 69, 70, 71, 72, 73]
   (.ops [⟨(some 61), none, .mv (.s 7)⟩,
     ⟨(some 62), none, .bin .add (.s 61) (.c (V.int .i64 1))⟩,
     ⟨(some 7), none, .mv (.s 62)⟩]
   (.done)))
  (.exit 0))

def ir_palanquinref7_Parse : Fn' := ⟨179, [.cell 2 (some 10), .tmp 3],
  .ops [⟨(some 2), none, .box ty_palanquinref7_Packet (.c (V.agg [(V.bool false), (V.int .i64 0), (V.int .u16 0), (V.int .u32 0), (V.int .u32 0), V.nils, (V.int .i64 0), V.nils, (V.int .i64 0), V.nils]))⟩,
    ⟨(some 3), none, .mv (.c (V.int .i64 0))⟩]
  (.ops [⟨(some 12), none, .mv (.s 0)⟩,
    ⟨(some 13), none, .len (.s 12)⟩,
    ⟨(some 14), none, .bin .gtr (.s 13) (.c (V.int .i64 1200))⟩]
  (.cond (.s 14)
  (.ops [⟨(some 15), none, .build [(V.bool false), (V.int .i64 0), (V.int .u16 0), (V.int .u32 0), (V.int .u32 0), V.nils, (V.int .i64 0), V.nils, (V.int .i64 0), V.nils] []⟩,
     ⟨none, none, .store 10 (.s 2) (.s 15)⟩,
     ⟨(some 3), none, .mv (.c (V.int .i64 4))⟩]
   (.ret))
  (.ops [⟨(some 16), none, .mv (.s 0)⟩,
     ⟨(some 17), none, .len (.s 16)⟩,
     ⟨(some 18), none, .bin .lss (.s 17) (.c (V.int .i64 12))⟩]
   (.cond (.s 18)
   (.ops [⟨(some 19), none, .build [(V.bool false), (V.int .i64 0), (V.int .u16 0), (V.int .u32 0), (V.int .u32 0), V.nils, (V.int .i64 0), V.nils, (V.int .i64 0), V.nils] []⟩,
      ⟨none, none, .store 10 (.s 2) (.s 19)⟩,
      ⟨(some 3), none, .mv (.c (V.int .i64 3))⟩]
    (.ret))
   (.ops [⟨(some 20), none, .mv (.s 0)⟩,
      ⟨(some 21), none, .iaddr none 1 (.s 20) (.c (V.int .i64 0))⟩,
      ⟨(some 22), none, .load none (.s 21)⟩,
      ⟨(some 23), none, .bin .shr (.s 22) (.c (V.int .u64 6))⟩,
      ⟨(some 24), none, .bin .neq (.s 23) (.c (V.int .u8 2))⟩]
    (.cond (.s 24)
    (.ops [⟨(some 25), none, .build [(V.bool false), (V.int .i64 0), (V.int .u16 0), (V.int .u32 0), (V.int .u32 0), V.nils, (V.int .i64 0), V.nils, (V.int .i64 0), V.nils] []⟩,
       ⟨none, none, .store 10 (.s 2) (.s 25)⟩,
       ⟨(some 3), none, .mv (.c (V.int .i64 2))⟩]
     (.ret))
    (.draw [⟨(some 26), none, .mv (.s 0)⟩,
       ⟨(some 27), none, .iaddr none 1 (.s 26) (.c (V.int .i64 1))⟩,
       ⟨(some 28), none, .load none (.s 27)⟩,
       ⟨(some 29), none, .bin .gtr (.s 28) (.c (V.int .u8 127))⟩,
       ⟨(some 30), none, .mv (.s 0)⟩,
       ⟨(some 31), none, .iaddr none 1 (.s 30) (.c (V.int .i64 1))⟩,
       ⟨(some 32), none, .load none (.s 31)⟩,
       ⟨(some 33), none, .bin .and (.s 32) (.c (V.int .u8 127))⟩,
       ⟨(some 34), none, .cint .i64 (.s 33)⟩,
       ⟨(some 35), none, .mv (.s 0)⟩,
       ⟨(some 38), none, .mv (.s 0)⟩,
       ⟨(some 41), none, .mv (.s 0)⟩,
       ⟨(some 36), none, .call fn_palanquinref7_N [(.s 35), (.c (V.int .i64 2)), (.c (V.int .i64 2))]⟩,
       ⟨(some 39), none, .call fn_palanquinref7_N [(.s 38), (.c (V.int .i64 4)), (.c (V.int .i64 4))]⟩,
       ⟨(some 42), none, .call fn_palanquinref7_N [(.s 41), (.c (V.int .i64 8)), (.c (V.int .i64 4))]⟩,
       ⟨(some 37), none, .cint .u16 (.s 36)⟩,
       ⟨(some 40), none, .cint .u32 (.s 39)⟩,
       ⟨(some 43), none, .cint .u32 (.s 42)⟩,
       ⟨(some 44), none, .build [(V.bool false), (V.int .i64 0), (V.int .u16 0), (V.int .u32 0), (V.int .u32 0), V.nils, (V.int .i64 0), V.nils, (V.int .i64 0), V.nils] [(0, 1, (.s 29)), (1, 1, (.s 34)), (2, 1, (.s 37)), (3, 1, (.s 40)), (4, 1, (.s 43))]⟩,
       ⟨(some 4), none, .box ty_palanquinref7_Packet (.c (V.agg [(V.bool false), (V.int .i64 0), (V.int .u16 0), (V.int .u32 0), (V.int .u32 0), V.nils, (V.int .i64 0), V.nils, (V.int .i64 0), V.nils]))⟩,
       ⟨none, none, .store 10 (.s 4) (.s 44)⟩] [(2, 12), (2, 13), (2, 14), (6, 12), (6, 13), (6, 14)]
     (.ops [⟨(some 45), none, .mv (.s 0)⟩,
       ⟨(some 46), none, .iaddr none 1 (.s 45) (.c (V.int .i64 0))⟩,
       ⟨(some 47), none, .load none (.s 46)⟩,
       ⟨(some 48), none, .bin .and (.s 47) (.c (V.int .u8 15))⟩,
       ⟨(some 49), none, .cint .i64 (.s 48)⟩,
       ⟨(some 5), none, .mv (.s 49)⟩]
     (.ops [⟨(some 50), none, .mv (.s 5)⟩,
       ⟨(some 51), none, .bin .mul (.c (V.int .i64 4)) (.s 50)⟩,
       ⟨(some 52), none, .bin .add (.c (V.int .i64 12)) (.s 51)⟩,
       ⟨(some 6), none, .mv (.s 52)⟩]
     (.ops [⟨(some 53), none, .mv (.s 6)⟩,
       ⟨(some 54), none, .mv (.s 0)⟩,
       ⟨(some 55), none, .len (.s 54)⟩,
       ⟨(some 56), none, .bin .gtr (.s 53) (.s 55)⟩]
     (.cond (.s 56)
     (.ops [⟨(some 57), none, .build [(V.bool false), (V.int .i64 0), (V.int .u16 0), (V.int .u32 0), (V.int .u32 0), V.nils, (V.int .i64 0), V.nils, (V.int .i64 0), V.nils] []⟩,
        ⟨none, none, .store 10 (.s 2) (.s 57)⟩,
        ⟨(some 3), none, .mv (.c (V.int .i64 3))⟩]
      (.ret))
     (.ops [⟨(some 7), none, .mv (.c (V.int .i64 0))⟩]
      (.blk 0
      (.loop loop_palanquinref7_Parse_0 [7] [58, 59, 60, 63, 64, 65, 66, 67, 68, 69, 70, 71, 72, 73, 61, 62, 7]) [] [58, 59, 60, 63, 64, 65, 66, 67, 68, 69, 70, 71, 72, 73, 61, 62, 7]
      (.ops [⟨(some 74), none, .mv (.s 0)⟩,
        ⟨(some 75), none, .iaddr none 1 (.s 74) (.c (V.int .i64 0))⟩,
        ⟨(some 76), none, .load none (.s 75)⟩,
        ⟨(some 77), none, .bin .shr (.s 76) (.c (V.int .u64 4))⟩,
        ⟨(some 78), none, .bin .and (.s 77) (.c (V.int .u8 1))⟩,
        ⟨(some 79), none, .bin .eql (.s 78) (.c (V.int .u8 1))⟩]
      (.condJ (.s 79)
      (.ops [⟨(some 80), none, .mv (.s 6)⟩,
         ⟨(some 81), none, .bin .add (.s 80) (.c (V.int .i64 4))⟩,
         ⟨(some 82), none, .mv (.s 0)⟩,
         ⟨(some 83), none, .len (.s 82)⟩,
         ⟨(some 84), none, .bin .gtr (.s 81) (.s 83)⟩]
       (.cond (.s 84)
       (.ops [⟨(some 85), none, .build [(V.bool false), (V.int .i64 0), (V.int .u16 0), (V.int .u32 0), (V.int .u32 0), V.nils, (V.int .i64 0), V.nils, (V.int .i64 0), V.nils] []⟩,
          ⟨none, none, .store 10 (.s 2) (.s 85)⟩,
          ⟨(some 3), none, .mv (.c (V.int .i64 3))⟩]
        (.ret))
       (.ops [⟨(some 86), none, .mv (.s 0)⟩,
          ⟨(some 87), none, .mv (.s 6)⟩,
          ⟨(some 88), none, .call fn_palanquinref7_N [(.s 86), (.s 87), (.c (V.int .i64 2))]⟩,
          ⟨(some 89), none, .cint .i64 (.s 88)⟩,
          ⟨(some 90), none, .faddr 6 (.s 4)⟩,
          ⟨none, none, .store 1 (.s 90) (.s 89)⟩]
        (.ops [⟨(some 91), none, .mv (.s 0)⟩,
          ⟨(some 92), none, .mv (.s 6)⟩,
          ⟨(some 93), none, .bin .add (.s 92) (.c (V.int .i64 2))⟩,
          ⟨(some 94), none, .call fn_palanquinref7_N [(.s 91), (.s 93), (.c (V.int .i64 2))]⟩,
          ⟨(some 95), none, .cint .i64 (.s 94)⟩,
          ⟨(some 8), none, .mv (.s 95)⟩]
        (.ops [⟨(some 96), none, .mv (.s 6)⟩,
          ⟨(some 97), none, .bin .add (.s 96) (.c (V.int .i64 4))⟩,
          ⟨(some 6), none, .mv (.s 97)⟩]
        (.ops [⟨(some 98), none, .mv (.s 6)⟩,
          ⟨(some 99), none, .mv (.s 8)⟩,
          ⟨(some 100), none, .bin .mul (.c (V.int .i64 4)) (.s 99)⟩,
          ⟨(some 101), none, .bin .add (.s 98) (.s 100)⟩,
          ⟨(some 102), none, .mv (.s 0)⟩,
          ⟨(some 103), none, .len (.s 102)⟩,
          ⟨(some 104), none, .bin .gtr (.s 101) (.s 103)⟩]
        (.cond (.s 104)
        (.ops [⟨(some 105), none, .build [(V.bool false), (V.int .i64 0), (V.int .u16 0), (V.int .u32 0), (V.int .u32 0), V.nils, (V.int .i64 0), V.nils, (V.int .i64 0), V.nils] []⟩,
           ⟨none, none, .store 10 (.s 2) (.s 105)⟩,
           ⟨(some 3), none, .mv (.c (V.int .i64 3))⟩]
         (.ret))
        (.ops [⟨(some 106), none, .faddr 6 (.s 4)⟩,
           ⟨(some 107), none, .load none (.s 106)⟩,
           ⟨(some 108), none, .bin .neq (.s 107) (.c (V.int .i64 48862))⟩,
           ⟨(some 109), none, .mv (.s 108)⟩,
           ⟨(some 110), (some (109, true)), .faddr 6 (.s 4)⟩,
           ⟨(some 111), (some (109, true)), .load none (.s 110)⟩,
           ⟨(some 112), (some (109, true)), .bin .neq (.s 111) (.c (V.int .i64 4096))⟩,
           ⟨(some 113), none, .pick (.s 109) (.s 112) (.c (V.bool false))⟩]
         (.cond (.s 113)
         (.ops [⟨(some 114), none, .build [(V.bool false), (V.int .i64 0), (V.int .u16 0), (V.int .u32 0), (V.int .u32 0), V.nils, (V.int .i64 0), V.nils, (V.int .i64 0), V.nils] []⟩,
            ⟨none, none, .store 10 (.s 2) (.s 114)⟩,
            ⟨(some 3), none, .mv (.c (V.int .i64 2))⟩]
          (.ret))
         (.draw [⟨(some 116), none, .mv (.s 0)⟩,
            ⟨(some 117), none, .mv (.s 6)⟩,
            ⟨(some 118), none, .mv (.s 6)⟩,
            ⟨(some 119), none, .mv (.s 8)⟩,
            ⟨(some 120), none, .bin .mul (.c (V.int .i64 4)) (.s 119)⟩,
            ⟨(some 121), none, .bin .add (.s 118) (.s 120)⟩,
            ⟨(some 122), none, .slice .sl 1 (.s 116) (some (.s 117)) (some (.s 121)) none⟩,
            ⟨(some 123), none, .faddr 6 (.s 4)⟩,
            ⟨(some 124), none, .load none (.s 123)⟩,
            ⟨(some 125), none, .call fn_palanquinref7_elements [(.s 122), (.s 124)]⟩,
            ⟨(some 115), none, .mv (.s 125)⟩,
            ⟨(some 126), none, .ext 0 (.s 115)⟩,
            ⟨(some 127), none, .ext 1 (.s 115)⟩,
            ⟨(some 9), none, .mv (.s 126)⟩,
            ⟨(some 10), none, .mv (.s 127)⟩] []
          (.ops [⟨(some 128), none, .mv (.s 10)⟩,
            ⟨(some 129), none, .un .not (.s 128)⟩]
          (.cond (.s 129)
          (.ops [⟨(some 130), none, .build [(V.bool false), (V.int .i64 0), (V.int .u16 0), (V.int .u32 0), (V.int .u32 0), V.nils, (V.int .i64 0), V.nils, (V.int .i64 0), V.nils] []⟩,
             ⟨none, none, .store 10 (.s 2) (.s 130)⟩,
             ⟨(some 3), none, .mv (.c (V.int .i64 2))⟩]
           (.ret))
          (.ops [⟨(some 131), none, .mv (.s 9)⟩,
             ⟨(some 132), none, .faddr 7 (.s 4)⟩,
             ⟨none, none, .store 1 (.s 132) (.s 131)⟩]
           (.ops [⟨(some 133), none, .mv (.s 6)⟩,
             ⟨(some 134), none, .mv (.s 8)⟩,
             ⟨(some 135), none, .bin .mul (.c (V.int .i64 4)) (.s 134)⟩,
             ⟨(some 136), none, .bin .add (.s 133) (.s 135)⟩,
             ⟨(some 6), none, .mv (.s 136)⟩]
           (.done)))))))))))))))
      (.done) [6] [80, 81, 82, 83, 84, 85, 3, 86, 87, 88, 89, 90, 91, 92, 93, 94, 95, 8, 96, 97, 6, 98, 99, 100, 101, 102, 103, 104, 105, 3, 106, 107, 108, 109, 110, 111, 112, 113, 114, 3, 116, 117, 118, 119, 120, 121, 122, 123, 124, 125, 115, 126, 127, 9, 10, 128, 129, 130, 3, 131, 132, 133, 134, 135, 136, 6]
      (.ops [⟨(some 137), none, .mv (.s 0)⟩,
        ⟨(some 138), none, .len (.s 137)⟩,
        ⟨(some 11), none, .mv (.s 138)⟩]
      (.ops [⟨(some 139), none, .mv (.s 0)⟩,
        ⟨(some 140), none, .iaddr none 1 (.s 139) (.c (V.int .i64 0))⟩,
        ⟨(some 141), none, .load none (.s 140)⟩,
        ⟨(some 142), none, .bin .shr (.s 141) (.c (V.int .u64 5))⟩,
        ⟨(some 143), none, .bin .and (.s 142) (.c (V.int .u8 1))⟩,
        ⟨(some 144), none, .bin .eql (.s 143) (.c (V.int .u8 1))⟩]
      (.condJ (.s 144)
      (.ops [⟨(some 145), none, .mv (.s 0)⟩,
         ⟨(some 146), none, .mv (.s 0)⟩,
         ⟨(some 147), none, .len (.s 146)⟩,
         ⟨(some 148), none, .bin .sub (.s 147) (.c (V.int .i64 1))⟩,
         ⟨(some 149), none, .iaddr none 1 (.s 145) (.s 148)⟩,
         ⟨(some 150), none, .load none (.s 149)⟩,
         ⟨(some 151), none, .cint .i64 (.s 150)⟩,
         ⟨(some 152), none, .faddr 8 (.s 4)⟩,
         ⟨none, none, .store 1 (.s 152) (.s 151)⟩]
       (.ops [⟨(some 153), none, .faddr 8 (.s 4)⟩,
         ⟨(some 154), none, .load none (.s 153)⟩,
         ⟨(some 155), none, .bin .eql (.s 154) (.c (V.int .i64 0))⟩,
         ⟨(some 156), none, .mv (.s 155)⟩,
         ⟨(some 157), (some (156, false)), .faddr 8 (.s 4)⟩,
         ⟨(some 158), (some (156, false)), .load none (.s 157)⟩,
         ⟨(some 159), (some (156, false)), .mv (.s 0)⟩,
         ⟨(some 160), (some (156, false)), .len (.s 159)⟩,
         ⟨(some 161), (some (156, false)), .mv (.s 6)⟩,
         ⟨(some 162), (some (156, false)), .bin .sub (.s 160) (.s 161)⟩,
         ⟨(some 163), (some (156, false)), .bin .gtr (.s 158) (.s 162)⟩,
         ⟨(some 164), none, .pick (.s 156) (.c (V.bool true)) (.s 163)⟩]
       (.cond (.s 164)
       (.ops [⟨(some 165), none, .build [(V.bool false), (V.int .i64 0), (V.int .u16 0), (V.int .u32 0), (V.int .u32 0), V.nils, (V.int .i64 0), V.nils, (V.int .i64 0), V.nils] []⟩,
          ⟨none, none, .store 10 (.s 2) (.s 165)⟩,
          ⟨(some 3), none, .mv (.c (V.int .i64 2))⟩]
        (.ret))
       (.ops [⟨(some 166), none, .mv (.s 0)⟩,
          ⟨(some 167), none, .len (.s 166)⟩,
          ⟨(some 168), none, .faddr 8 (.s 4)⟩,
          ⟨(some 169), none, .load none (.s 168)⟩,
          ⟨(some 170), none, .bin .sub (.s 167) (.s 169)⟩,
          ⟨(some 11), none, .mv (.s 170)⟩]
        (.done)))))
      (.done) [11] [145, 146, 147, 148, 149, 150, 151, 152, 153, 154, 155, 156, 157, 158, 159, 160, 161, 162, 163, 164, 165, 3, 166, 167, 168, 169, 170, 11]
      (.ops [⟨(some 171), none, .slit ty_uint8 0 [(V.int .u8 0)] []⟩,
        ⟨(some 172), none, .mv (.s 0)⟩,
        ⟨(some 173), none, .mv (.s 6)⟩,
        ⟨(some 174), none, .mv (.s 11)⟩,
        ⟨(some 175), none, .slice .sl 1 (.s 172) (some (.s 173)) (some (.s 174)) none⟩,
        ⟨(some 176), none, .append ty_uint8 1 1 (.s 171) (.s 175)⟩,
        ⟨(some 177), none, .faddr 9 (.s 4)⟩,
        ⟨none, none, .store 1 (.s 177) (.s 176)⟩]
      (.ops [⟨(some 178), none, .load (some 10) (.s 4)⟩,
        ⟨none, none, .store 10 (.s 2) (.s 178)⟩,
        ⟨(some 3), none, .mv (.c (V.int .i64 0))⟩]
      (.ret)))))))))))))))))))))⟩

noncomputable def f_palanquinref7_Parse_0 (G : Sem') (t5 t0 t4 t2 t3 : V) (L : List V) : M Res :=
  (M.lift (Ax.bin .lss (L.getD 0 .undef) t5)).bind fun t60 =>
  M.ite t60
    (M.blk 1 (
      (M.lift (Ax.faddr 5 t4)).bind fun t63 =>
      (mload none t63).bind fun t64 =>
      (M.lift (Ax.bin .mul (V.int .i64 4) (L.getD 0 .undef))).bind fun t67 =>
      (M.lift (Ax.bin .add (V.int .i64 12) t67)).bind fun t68 =>
      M.getH.bind fun h3 =>
      (G fn_palanquinref7_N [t0, t68, (V.int .i64 4)]).bind fun t69 =>
      M.getH.bind fun h3' =>
      (M.unch t63 h3 h3').bind fun _ =>
      (M.lift (Ax.cint .u32 t69)).bind fun t70 =>
      (mslit ty_uint32 1 [(V.int .u32 0)] [(0, 1, t70)]).bind fun t71 =>
      (mappend ty_uint32 1 4 t64 t71).bind fun t72 =>
      (M.lift (Ax.faddr 5 t4)).bind fun t73 =>
      (mstore 1 t73 t72).bind fun _ =>
      M.pure (.nrm [])) fun _ =>
    (M.lift (Ax.bin .add (L.getD 0 .undef) (V.int .i64 1))).bind fun t62 =>
    M.pure (.nrm [t62]))
    (M.pure (.ex 0 []))

noncomputable def f_palanquinref7_Parse (G : Sem') (t0 : V) : M Res :=
  (mbox ty_palanquinref7_Packet (V.agg [(V.bool false), (V.int .i64 0), (V.int .u16 0), (V.int .u32 0), (V.int .u32 0), V.nils, (V.int .i64 0), V.nils, (V.int .i64 0), V.nils])).bind fun t2 =>
  (M.lift (vlen t0)).bind fun t13 =>
  (M.lift (Ax.bin .gtr t13 (V.int .i64 1200))).bind fun t14 =>
  M.ite t14
    ((M.lift (Ax.build [(V.bool false), (V.int .i64 0), (V.int .u16 0), (V.int .u32 0), (V.int .u32 0), V.nils, (V.int .i64 0), V.nils, (V.int .i64 0), V.nils] [])).bind fun t15 =>
    (mstore 10 t2 t15).bind fun _ =>
    (mload (some 10) t2).bind fun r0 =>
    M.pure (.ret [r0, (V.int .i64 4)]))
    ((M.lift (vlen t0)).bind fun t17 =>
    (M.lift (Ax.bin .lss t17 (V.int .i64 12))).bind fun t18 =>
    M.ite t18
      ((M.lift (Ax.build [(V.bool false), (V.int .i64 0), (V.int .u16 0), (V.int .u32 0), (V.int .u32 0), V.nils, (V.int .i64 0), V.nils, (V.int .i64 0), V.nils] [])).bind fun t19 =>
      (mstore 10 t2 t19).bind fun _ =>
      (mload (some 10) t2).bind fun r0 =>
      M.pure (.ret [r0, (V.int .i64 3)]))
      ((M.lift (Ax.iaddr none 1 t0 (V.int .i64 0))).bind fun t21 =>
      (mload none t21).bind fun t22 =>
      (M.lift (Ax.bin .shr t22 (V.int .u64 6))).bind fun t23 =>
      (M.lift (Ax.bin .neq t23 (V.int .u8 2))).bind fun t24 =>
      M.ite t24
        ((M.lift (Ax.build [(V.bool false), (V.int .i64 0), (V.int .u16 0), (V.int .u32 0), (V.int .u32 0), V.nils, (V.int .i64 0), V.nils, (V.int .i64 0), V.nils] [])).bind fun t25 =>
        (mstore 10 t2 t25).bind fun _ =>
        (mload (some 10) t2).bind fun r0 =>
        M.pure (.ret [r0, (V.int .i64 2)]))
        ((M.lift (Ax.iaddr none 1 t0 (V.int .i64 1))).bind fun t27 =>
        (mload none t27).bind fun t28 =>
        (M.lift (Ax.bin .gtr t28 (V.int .u8 127))).bind fun t29 =>
        (M.lift (Ax.iaddr none 1 t0 (V.int .i64 1))).bind fun t31 =>
        (mload none t31).bind fun t32 =>
        (M.lift (Ax.bin .and t32 (V.int .u8 127))).bind fun t33 =>
        (M.lift (Ax.cint .i64 t33)).bind fun t34 =>
        M.getH.bind fun h0 =>
        (G fn_palanquinref7_N [t0, (V.int .i64 2), (V.int .i64 2)]).bind fun t36 =>
        M.getH.bind fun h0' =>
        (M.unch t31 h0 h0').bind fun _ =>
        (M.unch t27 h0 h0').bind fun _ =>
        M.getH.bind fun h1 =>
        (G fn_palanquinref7_N [t0, (V.int .i64 4), (V.int .i64 4)]).bind fun t39 =>
        M.getH.bind fun h1' =>
        (M.unch t31 h1 h1').bind fun _ =>
        (M.unch t27 h1 h1').bind fun _ =>
        M.getH.bind fun h2 =>
        (G fn_palanquinref7_N [t0, (V.int .i64 8), (V.int .i64 4)]).bind fun t42 =>
        M.getH.bind fun h2' =>
        (M.unch t31 h2 h2').bind fun _ =>
        (M.unch t27 h2 h2').bind fun _ =>
        (M.lift (Ax.cint .u16 t36)).bind fun t37 =>
        (M.lift (Ax.cint .u32 t39)).bind fun t40 =>
        (M.lift (Ax.cint .u32 t42)).bind fun t43 =>
        (M.lift (Ax.build [(V.bool false), (V.int .i64 0), (V.int .u16 0), (V.int .u32 0), (V.int .u32 0), V.nils, (V.int .i64 0), V.nils, (V.int .i64 0), V.nils] [(0, 1, t29), (1, 1, t34), (2, 1, t37), (3, 1, t40), (4, 1, t43)])).bind fun t44 =>
        (mbox ty_palanquinref7_Packet (V.agg [(V.bool false), (V.int .i64 0), (V.int .u16 0), (V.int .u32 0), (V.int .u32 0), V.nils, (V.int .i64 0), V.nils, (V.int .i64 0), V.nils])).bind fun t4 =>
        (mstore 10 t4 t44).bind fun _ =>
        (M.lift (Ax.iaddr none 1 t0 (V.int .i64 0))).bind fun t46 =>
        (mload none t46).bind fun t47 =>
        (M.lift (Ax.bin .and t47 (V.int .u8 15))).bind fun t48 =>
        (M.lift (Ax.cint .i64 t48)).bind fun t49 =>
        (M.lift (Ax.bin .mul (V.int .i64 4) t49)).bind fun t51 =>
        (M.lift (Ax.bin .add (V.int .i64 12) t51)).bind fun t52 =>
        (M.lift (vlen t0)).bind fun t55 =>
        (M.lift (Ax.bin .gtr t52 t55)).bind fun t56 =>
        M.ite t56
          ((M.lift (Ax.build [(V.bool false), (V.int .i64 0), (V.int .u16 0), (V.int .u32 0), (V.int .u32 0), V.nils, (V.int .i64 0), V.nils, (V.int .i64 0), V.nils] [])).bind fun t57 =>
          (mstore 10 t2 t57).bind fun _ =>
          (mload (some 10) t2).bind fun r0 =>
          M.pure (.ret [r0, (V.int .i64 3)]))
          (M.blk 0 (
            M.iter (f_palanquinref7_Parse_0 G t49 t0 t4 t2 (V.int .i64 0)) [(V.int .i64 0)]) fun _ =>
          (M.lift (Ax.iaddr none 1 t0 (V.int .i64 0))).bind fun t75 =>
          (mload none t75).bind fun t76 =>
          (M.lift (Ax.bin .shr t76 (V.int .u64 4))).bind fun t77 =>
          (M.lift (Ax.bin .and t77 (V.int .u8 1))).bind fun t78 =>
          (M.lift (Ax.bin .eql t78 (V.int .u8 1))).bind fun t79 =>
          M.join (M.ite t79
            ((M.lift (Ax.bin .add t52 (V.int .i64 4))).bind fun t81 =>
            (M.lift (vlen t0)).bind fun t83 =>
            (M.lift (Ax.bin .gtr t81 t83)).bind fun t84 =>
            M.ite t84
              ((M.lift (Ax.build [(V.bool false), (V.int .i64 0), (V.int .u16 0), (V.int .u32 0), (V.int .u32 0), V.nils, (V.int .i64 0), V.nils, (V.int .i64 0), V.nils] [])).bind fun t85 =>
              (mstore 10 t2 t85).bind fun _ =>
              (mload (some 10) t2).bind fun r0 =>
              M.pure (.ret [r0, (V.int .i64 3)]))
              ((G fn_palanquinref7_N [t0, t52, (V.int .i64 2)]).bind fun t88 =>
              (M.lift (Ax.cint .i64 t88)).bind fun t89 =>
              (M.lift (Ax.faddr 6 t4)).bind fun t90 =>
              (mstore 1 t90 t89).bind fun _ =>
              (M.lift (Ax.bin .add t52 (V.int .i64 2))).bind fun t93 =>
              (G fn_palanquinref7_N [t0, t93, (V.int .i64 2)]).bind fun t94 =>
              (M.lift (Ax.cint .i64 t94)).bind fun t95 =>
              (M.lift (Ax.bin .add t52 (V.int .i64 4))).bind fun t97 =>
              (M.lift (Ax.bin .mul (V.int .i64 4) t95)).bind fun t100 =>
              (M.lift (Ax.bin .add t97 t100)).bind fun t101 =>
              (M.lift (vlen t0)).bind fun t103 =>
              (M.lift (Ax.bin .gtr t101 t103)).bind fun t104 =>
              M.ite t104
                ((M.lift (Ax.build [(V.bool false), (V.int .i64 0), (V.int .u16 0), (V.int .u32 0), (V.int .u32 0), V.nils, (V.int .i64 0), V.nils, (V.int .i64 0), V.nils] [])).bind fun t105 =>
                (mstore 10 t2 t105).bind fun _ =>
                (mload (some 10) t2).bind fun r0 =>
                M.pure (.ret [r0, (V.int .i64 3)]))
                ((M.lift (Ax.faddr 6 t4)).bind fun t106 =>
                (mload none t106).bind fun t107 =>
                (M.lift (Ax.bin .neq t107 (V.int .i64 48862))).bind fun t108 =>
                (guarded [(0, t108)] (some (0, true)) (M.lift (Ax.faddr 6 t4))).bind fun t110 =>
                (guarded [(0, t108)] (some (0, true)) (mload none t110)).bind fun t111 =>
                (guarded [(0, t108)] (some (0, true)) (M.lift (Ax.bin .neq t111 (V.int .i64 4096)))).bind fun t112 =>
                (M.lift (Ax.pick t108 t112 (V.bool false))).bind fun t113 =>
                M.ite t113
                  ((M.lift (Ax.build [(V.bool false), (V.int .i64 0), (V.int .u16 0), (V.int .u32 0), (V.int .u32 0), V.nils, (V.int .i64 0), V.nils, (V.int .i64 0), V.nils] [])).bind fun t114 =>
                  (mstore 10 t2 t114).bind fun _ =>
                  (mload (some 10) t2).bind fun r0 =>
                  M.pure (.ret [r0, (V.int .i64 2)]))
                  ((M.lift (Ax.bin .mul (V.int .i64 4) t95)).bind fun t120 =>
                  (M.lift (Ax.bin .add t97 t120)).bind fun t121 =>
                  (M.lift (vslice .sl 1 t0 (some t97) (some t121) none)).bind fun t122 =>
                  (M.lift (Ax.faddr 6 t4)).bind fun t123 =>
                  (mload none t123).bind fun t124 =>
                  (G fn_palanquinref7_elements [t122, t124]).bind fun t125 =>
                  (M.lift (Ax.ext 0 t125)).bind fun t126 =>
                  (M.lift (Ax.ext 1 t125)).bind fun t127 =>
                  (M.lift (Ax.un .not t127)).bind fun t129 =>
                  M.ite t129
                    ((M.lift (Ax.build [(V.bool false), (V.int .i64 0), (V.int .u16 0), (V.int .u32 0), (V.int .u32 0), V.nils, (V.int .i64 0), V.nils, (V.int .i64 0), V.nils] [])).bind fun t130 =>
                    (mstore 10 t2 t130).bind fun _ =>
                    (mload (some 10) t2).bind fun r0 =>
                    M.pure (.ret [r0, (V.int .i64 2)]))
                    ((M.lift (Ax.faddr 7 t4)).bind fun t132 =>
                    (mstore 1 t132 t126).bind fun _ =>
                    (M.lift (Ax.bin .mul (V.int .i64 4) t95)).bind fun t135 =>
                    (M.lift (Ax.bin .add t97 t135)).bind fun t136 =>
                    M.pure (.nrm [t136]))))))
            (M.pure (.nrm [t52]))) fun L2 =>
          (M.lift (vlen t0)).bind fun t138 =>
          (M.lift (Ax.iaddr none 1 t0 (V.int .i64 0))).bind fun t140 =>
          (mload none t140).bind fun t141 =>
          (M.lift (Ax.bin .shr t141 (V.int .u64 5))).bind fun t142 =>
          (M.lift (Ax.bin .and t142 (V.int .u8 1))).bind fun t143 =>
          (M.lift (Ax.bin .eql t143 (V.int .u8 1))).bind fun t144 =>
          M.join (M.ite t144
            ((M.lift (vlen t0)).bind fun t147 =>
            (M.lift (Ax.bin .sub t147 (V.int .i64 1))).bind fun t148 =>
            (M.lift (Ax.iaddr none 1 t0 t148)).bind fun t149 =>
            (mload none t149).bind fun t150 =>
            (M.lift (Ax.cint .i64 t150)).bind fun t151 =>
            (M.lift (Ax.faddr 8 t4)).bind fun t152 =>
            (mstore 1 t152 t151).bind fun _ =>
            (M.lift (Ax.faddr 8 t4)).bind fun t153 =>
            (mload none t153).bind fun t154 =>
            (M.lift (Ax.bin .eql t154 (V.int .i64 0))).bind fun t155 =>
            (guarded [(0, t155)] (some (0, false)) (M.lift (Ax.faddr 8 t4))).bind fun t157 =>
            (guarded [(0, t155)] (some (0, false)) (mload none t157)).bind fun t158 =>
            (guarded [(0, t155)] (some (0, false)) (M.pure t0)).bind fun t159 =>
            (guarded [(0, t155)] (some (0, false)) (M.lift (vlen t159))).bind fun t160 =>
            (guarded [(0, t155)] (some (0, false)) (M.pure (L2.getD 0 .undef))).bind fun t161 =>
            (guarded [(0, t155)] (some (0, false)) (M.lift (Ax.bin .sub t160 t161))).bind fun t162 =>
            (guarded [(0, t155)] (some (0, false)) (M.lift (Ax.bin .gtr t158 t162))).bind fun t163 =>
            (M.lift (Ax.pick t155 (V.bool true) t163)).bind fun t164 =>
            M.ite t164
              ((M.lift (Ax.build [(V.bool false), (V.int .i64 0), (V.int .u16 0), (V.int .u32 0), (V.int .u32 0), V.nils, (V.int .i64 0), V.nils, (V.int .i64 0), V.nils] [])).bind fun t165 =>
              (mstore 10 t2 t165).bind fun _ =>
              (mload (some 10) t2).bind fun r0 =>
              M.pure (.ret [r0, (V.int .i64 2)]))
              ((M.lift (vlen t0)).bind fun t167 =>
              (M.lift (Ax.faddr 8 t4)).bind fun t168 =>
              (mload none t168).bind fun t169 =>
              (M.lift (Ax.bin .sub t167 t169)).bind fun t170 =>
              M.pure (.nrm [t170])))
            (M.pure (.nrm [t138]))) fun L3 =>
          (mslit ty_uint8 0 [(V.int .u8 0)] []).bind fun t171 =>
          (M.lift (vslice .sl 1 t0 (some (L2.getD 0 .undef)) (some (L3.getD 0 .undef)) none)).bind fun t175 =>
          (mappend ty_uint8 1 1 t171 t175).bind fun t176 =>
          (M.lift (Ax.faddr 9 t4)).bind fun t177 =>
          (mstore 1 t177 t176).bind fun _ =>
          (mload (some 10) t4).bind fun t178 =>
          (mstore 10 t2 t178).bind fun _ =>
          (mload (some 10) t2).bind fun r0 =>
          M.pure (.ret [r0, (V.int .i64 0)])))))

theorem eq_palanquinref7_Parse (G : Sem') (t0 : V) : execK G ir_palanquinref7_Parse.rv ir_palanquinref7_Parse.body [] [] (params 0 [t0]) = f_palanquinref7_Parse G t0 := by kernel_rfl

theorem tb_palanquinref7_Parse : T fn_palanquinref7_Parse = some ir_palanquinref7_Parse := by kernel_rfl

theorem ok_palanquinref7_Parse {t0 : V} {H : Heap} {Q : V → Heap → Prop} (h : Ok (f_palanquinref7_Parse (sem T) t0) H fun r H' => ∃ L, r = .ret L ∧ Q (tupled L) H') : Ok (sem T fn_palanquinref7_Parse [t0]) H Q :=
  ok_sem tb_palanquinref7_Parse (Nat.le_of_ble_eq_true rfl) (eq_palanquinref7_Parse (sem T) t0) h

/-- palanquin/palanquinref7.N. -/
def loop_palanquinref7_N_0 : C :=
  .ops [⟨(some 9), none, .mv (.s 8)⟩,
    ⟨(some 10), none, .mv (.s 2)⟩,
    ⟨(some 11), none, .bin .lss (.s 9) (.s 10)⟩]
  (.cond (.s 11)
  (.blk 1
   (.ops [⟨(some 14), none, .mv (.s 7)⟩,
      ⟨(some 15), none, .bin .shl (.s 14) (.c (V.int .u64 8))⟩,
      ⟨(some 16), none, .mv (.s 0)⟩,
      ⟨(some 17), none, .mv (.s 1)⟩,
      ⟨(some 18), none, .mv (.s 8)⟩,
      ⟨(some 19), none, .bin .add (.s 17) (.s 18)⟩,
      ⟨(some 20), none, .iaddr none 1 (.s 16) (.s 19)⟩,
      ⟨(some 21), none, .load none (.s 20)⟩,
      ⟨(some 22), none, .cint .u64 (.s 21)⟩,
      ⟨(some 23), none, .bin .or (.s 15) (.s 22)⟩,
      ⟨(some 7), none, .mv (.s 23)⟩]
    (.done)) [7] [14, 15, 16, 17, 18, 19, 20, 21, 22, 23, 7]
   (.ops [⟨(some 12), none, .mv (.s 8)⟩,
     ⟨(some 13), none, .bin .add (.s 12) (.c (V.int .i64 1))⟩,
     ⟨(some 8), none, .mv (.s 13)⟩]
   (.done)))
  (.exit 0))

def ir_palanquinref7_N : Fn' := ⟨25, [.tmp 6],
  .ops [⟨(some 6), none, .mv (.c (V.int .u64 0))⟩]
  (.ops [⟨(some 7), none, .mv (.c (V.int .u64 0))⟩]
  (.ops [⟨(some 8), none, .mv (.c (V.int .i64 0))⟩]
  (.blk 0
  (.loop loop_palanquinref7_N_0 [7, 8] [9, 10, 11, 14, 15, 16, 17, 18, 19, 20, 21, 22, 23, 7, 12, 13, 8]) [7] [9, 10, 11, 14, 15, 16, 17, 18, 19, 20, 21, 22, 23, 7, 12, 13, 8]
  (.ops [⟨(some 24), none, .mv (.s 7)⟩,
    ⟨(some 6), none, .mv (.s 24)⟩]
  (.ret)))))⟩

noncomputable def f_palanquinref7_N_0 (G : Sem') (t2 t0 t1 t6 : V) (L : List V) : M Res :=
  (M.lift (Ax.bin .lss (L.getD 1 .undef) t2)).bind fun t11 =>
  M.ite t11
    (M.blk 1 (
      (M.lift (Ax.bin .shl (L.getD 0 .undef) (V.int .u64 8))).bind fun t15 =>
      (M.lift (Ax.bin .add t1 (L.getD 1 .undef))).bind fun t19 =>
      (M.lift (Ax.iaddr none 1 t0 t19)).bind fun t20 =>
      (mload none t20).bind fun t21 =>
      (M.lift (Ax.cint .u64 t21)).bind fun t22 =>
      (M.lift (Ax.bin .or t15 t22)).bind fun t23 =>
      M.pure (.nrm [t23])) fun L0 =>
    (M.lift (Ax.bin .add (L.getD 1 .undef) (V.int .i64 1))).bind fun t13 =>
    M.pure (.nrm [(L0.getD 0 .undef), t13]))
    (M.pure (.ex 0 [(L.getD 0 .undef)]))

noncomputable def f_palanquinref7_N (G : Sem') (t0 t1 t2 : V) : M Res :=
  M.blk 0 (
    M.iter (f_palanquinref7_N_0 G t2 t0 t1 (V.int .u64 0)) [(V.int .u64 0), (V.int .i64 0)]) fun L1 =>
  M.pure (.ret [(L1.getD 0 .undef)])

theorem eq_palanquinref7_N (G : Sem') (t0 t1 t2 : V) : execK G ir_palanquinref7_N.rv ir_palanquinref7_N.body [] [] (params 0 [t0, t1, t2]) = f_palanquinref7_N G t0 t1 t2 := by kernel_rfl

theorem tb_palanquinref7_N : T fn_palanquinref7_N = some ir_palanquinref7_N := by kernel_rfl

theorem ok_palanquinref7_N {t0 t1 t2 : V} {H : Heap} {Q : V → Heap → Prop} (h : Ok (f_palanquinref7_N (sem T) t0 t1 t2) H fun r H' => ∃ L, r = .ret L ∧ Q (tupled L) H') : Ok (sem T fn_palanquinref7_N [t0, t1, t2]) H Q :=
  ok_sem tb_palanquinref7_N (Nat.le_of_ble_eq_true rfl) (eq_palanquinref7_N (sem T) t0 t1 t2) h

/-- palanquin/palanquinref7.elements. -/
def loop_palanquinref7_elements_0 : C :=
  .ops [⟨(some 11), none, .mv (.s 7)⟩,
    ⟨(some 12), none, .mv (.s 0)⟩,
    ⟨(some 13), none, .len (.s 12)⟩,
    ⟨(some 14), none, .bin .lss (.s 11) (.s 13)⟩]
  (.cond (.s 14)
  (.blk 1
   (.ops [⟨(some 15), none, .mv (.s 0)⟩,
      ⟨(some 16), none, .mv (.s 7)⟩,
      ⟨(some 17), none, .iaddr none 1 (.s 15) (.s 16)⟩,
      ⟨(some 18), none, .load none (.s 17)⟩,
      ⟨(some 19), none, .bin .eql (.s 18) (.c (V.int .u8 0))⟩]
    (.cond (.s 19)
    (.ops [⟨(some 20), none, .mv (.s 7)⟩,
       ⟨(some 21), none, .bin .add (.s 20) (.c (V.int .i64 1))⟩,
       ⟨(some 7), none, .mv (.s 21)⟩]
     (.exit 1))
    (.ops [⟨(some 22), none, .mv (.s 0)⟩,
       ⟨(some 23), none, .mv (.s 7)⟩,
       ⟨(some 24), none, .iaddr none 1 (.s 22) (.s 23)⟩,
       ⟨(some 25), none, .load none (.s 24)⟩,
       ⟨(some 26), none, .cint .i64 (.s 25)⟩,
       ⟨(some 27), none, .mv (.s 7)⟩,
       ⟨(some 28), none, .bin .add (.s 27) (.c (V.int .i64 2))⟩,
       ⟨(some 8), none, .mv (.s 26)⟩,
       ⟨(some 9), none, .mv (.c (V.int .i64 0))⟩,
       ⟨(some 10), none, .mv (.s 28)⟩]
     (.ops [⟨(some 29), none, .mv (.s 1)⟩,
       ⟨(some 30), none, .bin .eql (.s 29) (.c (V.int .i64 48862))⟩]
     (.condJ (.s 30)
     (.draw [⟨(some 31), none, .mv (.s 0)⟩,
        ⟨(some 32), none, .mv (.s 7)⟩,
        ⟨(some 33), none, .iaddr none 1 (.s 31) (.s 32)⟩,
        ⟨(some 34), none, .load none (.s 33)⟩,
        ⟨(some 35), none, .bin .shr (.s 34) (.c (V.int .u64 4))⟩,
        ⟨(some 36), none, .cint .i64 (.s 35)⟩,
        ⟨(some 37), none, .mv (.s 0)⟩,
        ⟨(some 38), none, .mv (.s 7)⟩,
        ⟨(some 39), none, .iaddr none 1 (.s 37) (.s 38)⟩,
        ⟨(some 40), none, .load none (.s 39)⟩,
        ⟨(some 41), none, .bin .and (.s 40) (.c (V.int .u8 15))⟩,
        ⟨(some 42), none, .cint .i64 (.s 41)⟩,
        ⟨(some 43), none, .bin .add (.s 42) (.c (V.int .i64 1))⟩,
        ⟨(some 44), none, .mv (.s 7)⟩,
        ⟨(some 45), none, .bin .add (.s 44) (.c (V.int .i64 1))⟩,
        ⟨(some 8), none, .mv (.s 36)⟩,
        ⟨(some 9), none, .mv (.s 43)⟩,
        ⟨(some 10), none, .mv (.s 45)⟩] []
      (.ops [⟨(some 46), none, .mv (.s 8)⟩,
        ⟨(some 47), none, .bin .eql (.s 46) (.c (V.int .i64 15))⟩]
      (.cond (.s 47)
      (.ops [⟨(some 48), none, .mv (.s 6)⟩,
         ⟨(some 4), none, .mv (.s 48)⟩,
         ⟨(some 5), none, .mv (.c (V.bool true))⟩]
       (.ret))
      (.ops [⟨(some 49), none, .mv (.s 8)⟩,
         ⟨(some 50), none, .bin .eql (.s 49) (.c (V.int .i64 0))⟩]
       (.cond (.s 50)
       (.ops [⟨(some 4), none, .mv (.c V.nils)⟩,
          ⟨(some 5), none, .mv (.c (V.bool false))⟩]
        (.ret))
       (.done))))))
     (.ops [⟨(some 51), none, .mv (.s 7)⟩,
        ⟨(some 52), none, .bin .add (.s 51) (.c (V.int .i64 1))⟩,
        ⟨(some 53), none, .mv (.s 0)⟩,
        ⟨(some 54), none, .len (.s 53)⟩,
        ⟨(some 55), none, .bin .lss (.s 52) (.s 54)⟩]
      (.condJ (.s 55)
      (.ops [⟨(some 56), none, .mv (.s 0)⟩,
         ⟨(some 57), none, .mv (.s 7)⟩,
         ⟨(some 58), none, .bin .add (.s 57) (.c (V.int .i64 1))⟩,
         ⟨(some 59), none, .iaddr none 1 (.s 56) (.s 58)⟩,
         ⟨(some 60), none, .load none (.s 59)⟩,
         ⟨(some 61), none, .cint .i64 (.s 60)⟩,
         ⟨(some 9), none, .mv (.s 61)⟩]
       (.done))
      (.done) [9] [56, 57, 58, 59, 60, 61, 9]
      (.done))) [8, 9, 10] [31, 32, 33, 34, 35, 36, 37, 38, 39, 40, 41, 42, 43, 44, 45, 8, 9, 10, 46, 47, 48, 4, 5, 49, 50, 4, 5, 51, 52, 53, 54, 55, 56, 57, 58, 59, 60, 61, 9]
     (.ops [⟨(some 62), none, .mv (.s 10)⟩,
       ⟨(some 63), none, .mv (.s 0)⟩,
       ⟨(some 64), none, .len (.s 63)⟩,
       ⟨(some 65), none, .bin .gtr (.s 62) (.s 64)⟩,
       ⟨(some 66), none, .mv (.s 65)⟩,
       ⟨(some 67), (some (66, false)), .mv (.s 9)⟩,
       ⟨(some 68), (some (66, false)), .mv (.s 0)⟩,
       ⟨(some 69), (some (66, false)), .len (.s 68)⟩,
       ⟨(some 70), (some (66, false)), .mv (.s 10)⟩,
       ⟨(some 71), (some (66, false)), .bin .sub (.s 69) (.s 70)⟩,
       ⟨(some 72), (some (66, false)), .bin .gtr (.s 67) (.s 71)⟩,
       ⟨(some 73), none, .pick (.s 66) (.c (V.bool true)) (.s 72)⟩]
     (.cond (.s 73)
     (.ops [⟨(some 4), none, .mv (.c V.nils)⟩,
        ⟨(some 5), none, .mv (.c (V.bool false))⟩]
      (.ret))
     (.ops [⟨(some 74), none, .mv (.s 6)⟩,
        ⟨(some 75), none, .mv (.s 8)⟩,
        ⟨(some 76), none, .slit ty_uint8 0 [(V.int .u8 0)] []⟩,
        ⟨(some 77), none, .mv (.s 0)⟩,
        ⟨(some 78), none, .mv (.s 10)⟩,
        ⟨(some 79), none, .mv (.s 10)⟩,
        ⟨(some 80), none, .mv (.s 9)⟩,
        ⟨(some 81), none, .bin .add (.s 79) (.s 80)⟩,
        ⟨(some 82), none, .slice .sl 1 (.s 77) (some (.s 78)) (some (.s 81)) none⟩,
        ⟨(some 83), none, .append ty_uint8 1 1 (.s 76) (.s 82)⟩,
        ⟨(some 84), none, .build [(V.int .i64 0), V.nils] [(0, 1, (.s 75)), (1, 1, (.s 83))]⟩,
        ⟨(some 85), none, .slit ty_palanquinref7_Ext 1 [(V.int .i64 0), V.nils] [(0, 2, (.s 84))]⟩,
        ⟨(some 86), none, .append ty_palanquinref7_Ext 2 32 (.s 74) (.s 85)⟩,
        ⟨(some 6), none, .mv (.s 86)⟩]
      (.ops [⟨(some 87), none, .mv (.s 10)⟩,
        ⟨(some 88), none, .mv (.s 9)⟩,
        ⟨(some 89), none, .bin .add (.s 87) (.s 88)⟩,
        ⟨(some 7), none, .mv (.s 89)⟩]
      (.done)))))))))) [6, 7] [15, 16, 17, 18, 19, 20, 21, 7, 22, 23, 24, 25, 26, 27, 28, 8, 9, 10, 29, 30, 31, 32, 33, 34, 35, 36, 37, 38, 39, 40, 41, 42, 43, 44, 45, 8, 9, 10, 46, 47, 48, 4, 5, 49, 50, 4, 5, 51, 52, 53, 54, 55, 56, 57, 58, 59, 60, 61, 9, 62, 63, 64, 65, 66, 67, 68, 69, 70, 71, 72, 73, 4, 5, 74, 75, 76, 77, 78, 79, 80, 81, 82, 83, 84, 85, 86, 6, 87, 88, 89, 7]
   (.done))
  (.exit 0))

def ir_palanquinref7_elements : Fn' := ⟨91, [.tmp 4, .tmp 5],
  .ops [⟨(some 4), none, .mv (.c V.nils)⟩,
    ⟨(some 5), none, .mv (.c (V.bool false))⟩]
  (.ops [⟨(some 6), none, .mv (.c V.nils)⟩]
  (.ops [⟨(some 7), none, .mv (.c (V.int .i64 0))⟩]
  (.blk 0
  (.loop loop_palanquinref7_elements_0 [6, 7] [11, 12, 13, 14, 15, 16, 17, 18, 19, 20, 21, 7, 22, 23, 24, 25, 26, 27, 28, 8, 9, 10, 29, 30, 31, 32, 33, 34, 35, 36, 37, 38, 39, 40, 41, 42, 43, 44, 45, 8, 9, 10, 46, 47, 48, 4, 5, 49, 50, 4, 5, 51, 52, 53, 54, 55, 56, 57, 58, 59, 60, 61, 9, 62, 63, 64, 65, 66, 67, 68, 69, 70, 71, 72, 73, 4, 5, 74, 75, 76, 77, 78, 79, 80, 81, 82, 83, 84, 85, 86, 6, 87, 88, 89, 7]) [6] [11, 12, 13, 14, 15, 16, 17, 18, 19, 20, 21, 7, 22, 23, 24, 25, 26, 27, 28, 8, 9, 10, 29, 30, 31, 32, 33, 34, 35, 36, 37, 38, 39, 40, 41, 42, 43, 44, 45, 8, 9, 10, 46, 47, 48, 4, 5, 49, 50, 4, 5, 51, 52, 53, 54, 55, 56, 57, 58, 59, 60, 61, 9, 62, 63, 64, 65, 66, 67, 68, 69, 70, 71, 72, 73, 4, 5, 74, 75, 76, 77, 78, 79, 80, 81, 82, 83, 84, 85, 86, 6, 87, 88, 89, 7]
  (.ops [⟨(some 90), none, .mv (.s 6)⟩,
    ⟨(some 4), none, .mv (.s 90)⟩,
    ⟨(some 5), none, .mv (.c (V.bool true))⟩]
  (.ret)))))⟩

noncomputable def f_palanquinref7_elements_0 (G : Sem') (t1 t0 : V) (L : List V) : M Res :=
  (M.lift (vlen t0)).bind fun t13 =>
  (M.lift (Ax.bin .lss (L.getD 1 .undef) t13)).bind fun t14 =>
  M.ite t14
    (M.blk 1 (
      (M.lift (Ax.iaddr none 1 t0 (L.getD 1 .undef))).bind fun t17 =>
      (mload none t17).bind fun t18 =>
      (M.lift (Ax.bin .eql t18 (V.int .u8 0))).bind fun t19 =>
      M.ite t19
        ((M.lift (Ax.bin .add (L.getD 1 .undef) (V.int .i64 1))).bind fun t21 =>
        M.pure (.ex 1 [(L.getD 0 .undef), t21]))
        ((M.lift (Ax.iaddr none 1 t0 (L.getD 1 .undef))).bind fun t24 =>
        (mload none t24).bind fun t25 =>
        (M.lift (Ax.cint .i64 t25)).bind fun t26 =>
        (M.lift (Ax.bin .add (L.getD 1 .undef) (V.int .i64 2))).bind fun t28 =>
        (M.lift (Ax.bin .eql t1 (V.int .i64 48862))).bind fun t30 =>
        M.join (M.ite t30
          ((M.lift (Ax.iaddr none 1 t0 (L.getD 1 .undef))).bind fun t33 =>
          (mload none t33).bind fun t34 =>
          (M.lift (Ax.bin .shr t34 (V.int .u64 4))).bind fun t35 =>
          (M.lift (Ax.cint .i64 t35)).bind fun t36 =>
          (M.lift (Ax.iaddr none 1 t0 (L.getD 1 .undef))).bind fun t39 =>
          (mload none t39).bind fun t40 =>
          (M.lift (Ax.bin .and t40 (V.int .u8 15))).bind fun t41 =>
          (M.lift (Ax.cint .i64 t41)).bind fun t42 =>
          (M.lift (Ax.bin .add t42 (V.int .i64 1))).bind fun t43 =>
          (M.lift (Ax.bin .add (L.getD 1 .undef) (V.int .i64 1))).bind fun t45 =>
          (M.lift (Ax.bin .eql t36 (V.int .i64 15))).bind fun t47 =>
          M.ite t47
            (M.pure (.ret [(L.getD 0 .undef), (V.bool true)]))
            ((M.lift (Ax.bin .eql t36 (V.int .i64 0))).bind fun t50 =>
            M.ite t50
              (M.pure (.ret [V.nils, (V.bool false)]))
              (M.pure (.nrm [t36, t43, t45]))))
          ((M.lift (Ax.bin .add (L.getD 1 .undef) (V.int .i64 1))).bind fun t52 =>
          (M.lift (vlen t0)).bind fun t54 =>
          (M.lift (Ax.bin .lss t52 t54)).bind fun t55 =>
          M.join (M.ite t55
            ((M.lift (Ax.bin .add (L.getD 1 .undef) (V.int .i64 1))).bind fun t58 =>
            (M.lift (Ax.iaddr none 1 t0 t58)).bind fun t59 =>
            (mload none t59).bind fun t60 =>
            (M.lift (Ax.cint .i64 t60)).bind fun t61 =>
            M.pure (.nrm [t61]))
            (M.pure (.nrm [(V.int .i64 0)]))) fun L0 =>
          M.pure (.nrm [t26, (L0.getD 0 .undef), t28]))) fun L1 =>
        (M.lift (vlen t0)).bind fun t64 =>
        (M.lift (Ax.bin .gtr (L1.getD 2 .undef) t64)).bind fun t65 =>
        (guarded [(0, t65)] (some (0, false)) (M.pure (L1.getD 1 .undef))).bind fun t67 =>
        (guarded [(0, t65)] (some (0, false)) (M.pure t0)).bind fun t68 =>
        (guarded [(0, t65)] (some (0, false)) (M.lift (vlen t68))).bind fun t69 =>
        (guarded [(0, t65)] (some (0, false)) (M.pure (L1.getD 2 .undef))).bind fun t70 =>
        (guarded [(0, t65)] (some (0, false)) (M.lift (Ax.bin .sub t69 t70))).bind fun t71 =>
        (guarded [(0, t65)] (some (0, false)) (M.lift (Ax.bin .gtr t67 t71))).bind fun t72 =>
        (M.lift (Ax.pick t65 (V.bool true) t72)).bind fun t73 =>
        M.ite t73
          (M.pure (.ret [V.nils, (V.bool false)]))
          ((mslit ty_uint8 0 [(V.int .u8 0)] []).bind fun t76 =>
          (M.lift (Ax.bin .add (L1.getD 2 .undef) (L1.getD 1 .undef))).bind fun t81 =>
          (M.lift (vslice .sl 1 t0 (some (L1.getD 2 .undef)) (some t81) none)).bind fun t82 =>
          (mappend ty_uint8 1 1 t76 t82).bind fun t83 =>
          (M.lift (Ax.build [(V.int .i64 0), V.nils] [(0, 1, (L1.getD 0 .undef)), (1, 1, t83)])).bind fun t84 =>
          (mslit ty_palanquinref7_Ext 1 [(V.int .i64 0), V.nils] [(0, 2, t84)]).bind fun t85 =>
          (mappend ty_palanquinref7_Ext 2 32 (L.getD 0 .undef) t85).bind fun t86 =>
          (M.lift (Ax.bin .add (L1.getD 2 .undef) (L1.getD 1 .undef))).bind fun t89 =>
          M.pure (.nrm [t86, t89])))) fun L2 =>
    M.pure (.nrm [(L2.getD 0 .undef), (L2.getD 1 .undef)]))
    (M.pure (.ex 0 [(L.getD 0 .undef)]))

noncomputable def f_palanquinref7_elements (G : Sem') (t0 t1 : V) : M Res :=
  M.blk 0 (
    M.iter (f_palanquinref7_elements_0 G t1 t0) [V.nils, (V.int .i64 0)]) fun L3 =>
  M.pure (.ret [(L3.getD 0 .undef), (V.bool true)])

theorem eq_palanquinref7_elements (G : Sem') (t0 t1 : V) : execK G ir_palanquinref7_elements.rv ir_palanquinref7_elements.body [] [] (params 0 [t0, t1]) = f_palanquinref7_elements G t0 t1 := by kernel_rfl

theorem tb_palanquinref7_elements : T fn_palanquinref7_elements = some ir_palanquinref7_elements := by kernel_rfl

theorem ok_palanquinref7_elements {t0 t1 : V} {H : Heap} {Q : V → Heap → Prop} (h : Ok (f_palanquinref7_elements (sem T) t0 t1) H fun r H' => ∃ L, r = .ret L ∧ Q (tupled L) H') : Ok (sem T fn_palanquinref7_elements [t0, t1]) H Q :=
  ok_sem tb_palanquinref7_elements (Nat.le_of_ble_eq_true rfl) (eq_palanquinref7_elements (sem T) t0 t1) h

/-- palanquin/palanquinhelp.Packet. -/
def loop_palanquinhelp_Packet_0 : C :=
  .ops [⟨(some 29), none, .mv (.s 4)⟩,
    ⟨(some 30), none, .faddr 7 (.s 1)⟩,
    ⟨(some 31), none, .load none (.s 30)⟩,
    ⟨(some 32), none, .len (.s 31)⟩,
    ⟨(some 33), none, .bin .lss (.s 29) (.s 32)⟩]
  (.cond (.s 33)
  (.blk 1
   (.draw [⟨(some 36), none, .faddr 7 (.s 3)⟩,
      ⟨(some 37), none, .load none (.s 36)⟩,
      ⟨(some 38), none, .faddr 7 (.s 1)⟩,
      ⟨(some 39), none, .load none (.s 38)⟩,
      ⟨(some 40), none, .mv (.s 4)⟩,
      ⟨(some 41), none, .iaddr none 2 (.s 39) (.s 40)⟩,
      ⟨(some 42), none, .faddr 0 (.s 41)⟩,
      ⟨(some 43), none, .load none (.s 42)⟩,
      ⟨(some 45), none, .faddr 7 (.s 1)⟩,
      ⟨(some 46), none, .load none (.s 45)⟩,
      ⟨(some 47), none, .mv (.s 4)⟩,
      ⟨(some 48), none, .iaddr none 2 (.s 46) (.s 47)⟩,
      ⟨(some 49), none, .faddr 1 (.s 48)⟩,
      ⟨(some 50), none, .load none (.s 49)⟩,
      ⟨(some 44), none, .slit ty_uint8 0 [(V.int .u8 0)] []⟩,
      ⟨(some 51), none, .append ty_uint8 1 1 (.s 44) (.s 50)⟩,
      ⟨(some 52), none, .build [(V.int .i64 0), V.nils] [(0, 1, (.s 43)), (1, 1, (.s 51))]⟩,
      ⟨(some 53), none, .slit ty_palanquinref7_Ext 1 [(V.int .i64 0), V.nils] [(0, 2, (.s 52))]⟩,
      ⟨(some 54), none, .append ty_palanquinref7_Ext 2 32 (.s 37) (.s 53)⟩,
      ⟨(some 55), none, .faddr 7 (.s 3)⟩,
      ⟨none, none, .store 1 (.s 55) (.s 54)⟩] [(1, 15), (3, 15), (7, 15)]
    (.done)) [] [36, 37, 38, 39, 40, 41, 42, 43, 44, 45, 46, 47, 48, 49, 50, 51, 52, 53, 54, 55]
   (.ops [⟨(some 34), none, .mv (.s 4)⟩,
     ⟨(some 35), none, .bin .add (.s 34) (.c (V.int .i64 1))⟩,
     ⟨(some 4), none, .mv (.s 35)⟩]
   (.done)))
  (.exit 0))

def ir_palanquinhelp_Packet : Fn' := ⟨57, [.cell 2 (some 10)],
  .ops [⟨(some 1), none, .box ty_rtp_Packet (.s 0)⟩,
    ⟨(some 2), none, .box ty_palanquinref7_Packet (.c (V.agg [(V.bool false), (V.int .i64 0), (V.int .u16 0), (V.int .u32 0), (V.int .u32 0), V.nils, (V.int .i64 0), V.nils, (V.int .i64 0), V.nils]))⟩]
  (.draw [⟨(some 5), none, .faddr 0 (.s 1)⟩,
    ⟨(some 6), none, .load none (.s 5)⟩,
    ⟨(some 7), none, .faddr 1 (.s 1)⟩,
    ⟨(some 8), none, .load none (.s 7)⟩,
    ⟨(some 9), none, .faddr 2 (.s 1)⟩,
    ⟨(some 10), none, .load none (.s 9)⟩,
    ⟨(some 11), none, .faddr 3 (.s 1)⟩,
    ⟨(some 12), none, .load none (.s 11)⟩,
    ⟨(some 13), none, .faddr 4 (.s 1)⟩,
    ⟨(some 14), none, .load none (.s 13)⟩,
    ⟨(some 15), none, .faddr 6 (.s 1)⟩,
    ⟨(some 16), none, .load none (.s 15)⟩,
    ⟨(some 17), none, .faddr 8 (.s 1)⟩,
    ⟨(some 18), none, .load none (.s 17)⟩,
    ⟨(some 20), none, .faddr 9 (.s 1)⟩,
    ⟨(some 21), none, .load none (.s 20)⟩,
    ⟨(some 19), none, .slit ty_uint8 0 [(V.int .u8 0)] []⟩,
    ⟨(some 22), none, .append ty_uint8 1 1 (.s 19) (.s 21)⟩,
    ⟨(some 23), none, .build [(V.bool false), (V.int .i64 0), (V.int .u16 0), (V.int .u32 0), (V.int .u32 0), V.nils, (V.int .i64 0), V.nils, (V.int .i64 0), V.nils] [(0, 1, (.s 6)), (1, 1, (.s 8)), (2, 1, (.s 10)), (3, 1, (.s 12)), (4, 1, (.s 14)), (6, 1, (.s 16)), (8, 1, (.s 18)), (9, 1, (.s 22))]⟩,
    ⟨(some 3), none, .box ty_palanquinref7_Packet (.c (V.agg [(V.bool false), (V.int .i64 0), (V.int .u16 0), (V.int .u32 0), (V.int .u32 0), V.nils, (V.int .i64 0), V.nils, (V.int .i64 0), V.nils]))⟩,
    ⟨none, none, .store 10 (.s 3) (.s 23)⟩] [(1, 17), (3, 17), (5, 17), (7, 17), (9, 17), (11, 17), (13, 17)]
  (.ops [⟨(some 24), none, .slit ty_uint32 0 [(V.int .u32 0)] []⟩,
    ⟨(some 25), none, .faddr 5 (.s 1)⟩,
    ⟨(some 26), none, .load none (.s 25)⟩,
    ⟨(some 27), none, .append ty_uint32 1 4 (.s 24) (.s 26)⟩,
    ⟨(some 28), none, .faddr 5 (.s 3)⟩,
    ⟨none, none, .store 1 (.s 28) (.s 27)⟩]
  (.ops [⟨(some 4), none, .mv (.c (V.int .i64 0))⟩]
  (.blk 0
  (.loop loop_palanquinhelp_Packet_0 [4] [29, 30, 31, 32, 33, 36, 37, 38, 39, 40, 41, 42, 43, 44, 45, 46, 47, 48, 49, 50, 51, 52, 53, 54, 55, 34, 35, 4]) [] [29, 30, 31, 32, 33, 36, 37, 38, 39, 40, 41, 42, 43, 44, 45, 46, 47, 48, 49, 50, 51, 52, 53, 54, 55, 34, 35, 4]
  (.ops [⟨(some 56), none, .load (some 10) (.s 3)⟩,
    ⟨none, none, .store 10 (.s 2) (.s 56)⟩]
  (.ret))))))⟩

noncomputable def f_palanquinhelp_Packet_0 (G : Sem') (t1 t3 t2 : V) (L : List V) : M Res :=
  (M.lift (Ax.faddr 7 t1)).bind fun t30 =>
  (mload none t30).bind fun t31 =>
  (M.lift (vlen t31)).bind fun t32 =>
  (M.lift (Ax.bin .lss (L.getD 0 .undef) t32)).bind fun t33 =>
  M.ite t33
    (M.blk 1 (
      (M.lift (Ax.faddr 7 t3)).bind fun t36 =>
      (mload none t36).bind fun t37 =>
      (M.lift (Ax.faddr 7 t1)).bind fun t38 =>
      (mload none t38).bind fun t39 =>
      (M.lift (Ax.iaddr none 2 t39 (L.getD 0 .undef))).bind fun t41 =>
      (M.lift (Ax.faddr 0 t41)).bind fun t42 =>
      (mload none t42).bind fun t43 =>
      (M.lift (Ax.faddr 7 t1)).bind fun t45 =>
      (mload none t45).bind fun t46 =>
      (M.lift (Ax.iaddr none 2 t46 (L.getD 0 .undef))).bind fun t48 =>
      (M.lift (Ax.faddr 1 t48)).bind fun t49 =>
      (mload none t49).bind fun t50 =>
      (mslit ty_uint8 0 [(V.int .u8 0)] []).bind fun t44 =>
      M.getH.bind fun h1 =>
      (mappend ty_uint8 1 1 t44 t50).bind fun t51 =>
      M.getH.bind fun h1' =>
      (M.unch t42 h1 h1').bind fun _ =>
      (M.unch t38 h1 h1').bind fun _ =>
      (M.unch t36 h1 h1').bind fun _ =>
      (M.lift (Ax.build [(V.int .i64 0), V.nils] [(0, 1, t43), (1, 1, t51)])).bind fun t52 =>
      (mslit ty_palanquinref7_Ext 1 [(V.int .i64 0), V.nils] [(0, 2, t52)]).bind fun t53 =>
      (mappend ty_palanquinref7_Ext 2 32 t37 t53).bind fun t54 =>
      (M.lift (Ax.faddr 7 t3)).bind fun t55 =>
      (mstore 1 t55 t54).bind fun _ =>
      M.pure (.nrm [])) fun _ =>
    (M.lift (Ax.bin .add (L.getD 0 .undef) (V.int .i64 1))).bind fun t35 =>
    M.pure (.nrm [t35]))
    (M.pure (.ex 0 []))

noncomputable def f_palanquinhelp_Packet (G : Sem') (t0 : V) : M Res :=
  (mbox ty_rtp_Packet t0).bind fun t1 =>
  (mbox ty_palanquinref7_Packet (V.agg [(V.bool false), (V.int .i64 0), (V.int .u16 0), (V.int .u32 0), (V.int .u32 0), V.nils, (V.int .i64 0), V.nils, (V.int .i64 0), V.nils])).bind fun t2 =>
  (M.lift (Ax.faddr 0 t1)).bind fun t5 =>
  (mload none t5).bind fun t6 =>
  (M.lift (Ax.faddr 1 t1)).bind fun t7 =>
  (mload none t7).bind fun t8 =>
  (M.lift (Ax.faddr 2 t1)).bind fun t9 =>
  (mload none t9).bind fun t10 =>
  (M.lift (Ax.faddr 3 t1)).bind fun t11 =>
  (mload none t11).bind fun t12 =>
  (M.lift (Ax.faddr 4 t1)).bind fun t13 =>
  (mload none t13).bind fun t14 =>
  (M.lift (Ax.faddr 6 t1)).bind fun t15 =>
  (mload none t15).bind fun t16 =>
  (M.lift (Ax.faddr 8 t1)).bind fun t17 =>
  (mload none t17).bind fun t18 =>
  (M.lift (Ax.faddr 9 t1)).bind fun t20 =>
  (mload none t20).bind fun t21 =>
  (mslit ty_uint8 0 [(V.int .u8 0)] []).bind fun t19 =>
  M.getH.bind fun h0 =>
  (mappend ty_uint8 1 1 t19 t21).bind fun t22 =>
  M.getH.bind fun h0' =>
  (M.unch t17 h0 h0').bind fun _ =>
  (M.unch t15 h0 h0').bind fun _ =>
  (M.unch t13 h0 h0').bind fun _ =>
  (M.unch t11 h0 h0').bind fun _ =>
  (M.unch t9 h0 h0').bind fun _ =>
  (M.unch t7 h0 h0').bind fun _ =>
  (M.unch t5 h0 h0').bind fun _ =>
  (M.lift (Ax.build [(V.bool false), (V.int .i64 0), (V.int .u16 0), (V.int .u32 0), (V.int .u32 0), V.nils, (V.int .i64 0), V.nils, (V.int .i64 0), V.nils] [(0, 1, t6), (1, 1, t8), (2, 1, t10), (3, 1, t12), (4, 1, t14), (6, 1, t16), (8, 1, t18), (9, 1, t22)])).bind fun t23 =>
  (mbox ty_palanquinref7_Packet (V.agg [(V.bool false), (V.int .i64 0), (V.int .u16 0), (V.int .u32 0), (V.int .u32 0), V.nils, (V.int .i64 0), V.nils, (V.int .i64 0), V.nils])).bind fun t3 =>
  (mstore 10 t3 t23).bind fun _ =>
  (mslit ty_uint32 0 [(V.int .u32 0)] []).bind fun t24 =>
  (M.lift (Ax.faddr 5 t1)).bind fun t25 =>
  (mload none t25).bind fun t26 =>
  (mappend ty_uint32 1 4 t24 t26).bind fun t27 =>
  (M.lift (Ax.faddr 5 t3)).bind fun t28 =>
  (mstore 1 t28 t27).bind fun _ =>
  M.blk 0 (
    M.iter (f_palanquinhelp_Packet_0 G t1 t3 t2) [(V.int .i64 0)]) fun _ =>
  (mload (some 10) t3).bind fun t56 =>
  (mstore 10 t2 t56).bind fun _ =>
  (mload (some 10) t2).bind fun r0 =>
  M.pure (.ret [r0])

theorem eq_palanquinhelp_Packet (G : Sem') (t0 : V) : execK G ir_palanquinhelp_Packet.rv ir_palanquinhelp_Packet.body [] [] (params 0 [t0]) = f_palanquinhelp_Packet G t0 := by kernel_rfl

theorem tb_palanquinhelp_Packet : T fn_palanquinhelp_Packet = some ir_palanquinhelp_Packet := by kernel_rfl

theorem ok_palanquinhelp_Packet {t0 : V} {H : Heap} {Q : V → Heap → Prop} (h : Ok (f_palanquinhelp_Packet (sem T) t0) H fun r H' => ∃ L, r = .ret L ∧ Q (tupled L) H') : Ok (sem T fn_palanquinhelp_Packet [t0]) H Q :=
  ok_sem tb_palanquinhelp_Packet (Nat.le_of_ble_eq_true rfl) (eq_palanquinhelp_Packet (sem T) t0) h

/-- palanquin/palanquinref7.SamePacket. -/
def loop_palanquinref7_SamePacket_0 : C :=
  .ops [⟨(some 80), none, .mv (.s 5)⟩,
    ⟨(some 81), none, .faddr 5 (.s 2)⟩,
    ⟨(some 82), none, .load none (.s 81)⟩,
    ⟨(some 83), none, .len (.s 82)⟩,
    ⟨(some 84), none, .bin .lss (.s 80) (.s 83)⟩]
  (.cond (.s 84)
  (.blk 1
   (.draw [⟨(some 87), none, .faddr 5 (.s 2)⟩,
      ⟨(some 88), none, .load none (.s 87)⟩,
      ⟨(some 89), none, .mv (.s 5)⟩,
      ⟨(some 90), none, .iaddr none 1 (.s 88) (.s 89)⟩,
      ⟨(some 91), none, .load none (.s 90)⟩,
      ⟨(some 92), none, .faddr 5 (.s 3)⟩,
      ⟨(some 93), none, .load none (.s 92)⟩,
      ⟨(some 94), none, .mv (.s 5)⟩,
      ⟨(some 95), none, .iaddr none 1 (.s 93) (.s 94)⟩,
      ⟨(some 96), none, .load none (.s 95)⟩,
      ⟨(some 97), none, .bin .neq (.s 91) (.s 96)⟩] []
    (.cond (.s 97)
    (.ops [⟨(some 4), none, .mv (.c (V.bool false))⟩]
     (.ret))
    (.done))) [] [87, 88, 89, 90, 91, 92, 93, 94, 95, 96, 97, 4]
   (.ops [⟨(some 85), none, .mv (.s 5)⟩,
     ⟨(some 86), none, .bin .add (.s 85) (.c (V.int .i64 1))⟩,
     ⟨(some 5), none, .mv (.s 86)⟩]
   (.done)))
  (.exit 0))

def loop_palanquinref7_SamePacket_1 : C :=
  .ops [⟨(some 98), none, .mv (.s 6)⟩,
    ⟨(some 99), none, .faddr 7 (.s 2)⟩,
    ⟨(some 100), none, .load none (.s 99)⟩,
    ⟨(some 101), none, .len (.s 100)⟩,
    ⟨(some 102), none, .bin .lss (.s 98) (.s 101)⟩]
  (.cond (.s 102)
  (.blk 3
   (.draw [⟨(some 105), none, .faddr 7 (.s 2)⟩,
      ⟨(some 106), none, .load none (.s 105)⟩,
      ⟨(some 107), none, .mv (.s 6)⟩,
      ⟨(some 108), none, .iaddr none 2 (.s 106) (.s 107)⟩,
      ⟨(some 109), none, .faddr 0 (.s 108)⟩,
      ⟨(some 110), none, .load none (.s 109)⟩,
      ⟨(some 111), none, .faddr 7 (.s 3)⟩,
      ⟨(some 112), none, .load none (.s 111)⟩,
      ⟨(some 113), none, .mv (.s 6)⟩,
      ⟨(some 114), none, .iaddr none 2 (.s 112) (.s 113)⟩,
      ⟨(some 115), none, .faddr 0 (.s 114)⟩,
      ⟨(some 116), none, .load none (.s 115)⟩,
      ⟨(some 117), none, .bin .neq (.s 110) (.s 116)⟩,
      ⟨(some 118), none, .mv (.s 117)⟩,
      ⟨(some 119), (some (118, false)), .faddr 7 (.s 2)⟩,
      ⟨(some 120), (some (118, false)), .load none (.s 119)⟩,
      ⟨(some 121), (some (118, false)), .mv (.s 6)⟩,
      ⟨(some 122), (some (118, false)), .iaddr none 2 (.s 120) (.s 121)⟩,
      ⟨(some 123), (some (118, false)), .faddr 1 (.s 122)⟩,
      ⟨(some 124), (some (118, false)), .load none (.s 123)⟩,
      ⟨(some 125), (some (118, false)), .faddr 7 (.s 3)⟩,
      ⟨(some 126), (some (118, false)), .load none (.s 125)⟩,
      ⟨(some 127), (some (118, false)), .mv (.s 6)⟩,
      ⟨(some 128), (some (118, false)), .iaddr none 2 (.s 126) (.s 127)⟩,
      ⟨(some 129), (some (118, false)), .faddr 1 (.s 128)⟩,
      ⟨(some 130), (some (118, false)), .load none (.s 129)⟩,
      ⟨(some 131), (some (118, false)), .call fn_palanquinref1_Same [(.s 124), (.s 130)]⟩,
      ⟨(some 132), (some (118, false)), .un .not (.s 131)⟩,
      ⟨(some 133), none, .pick (.s 118) (.c (V.bool true)) (.s 132)⟩] []
    (.cond (.s 133)
    (.ops [⟨(some 4), none, .mv (.c (V.bool false))⟩]
     (.ret))
    (.done))) [] [105, 106, 107, 108, 109, 110, 111, 112, 113, 114, 115, 116, 117, 118, 119, 120, 121, 122, 123, 124, 125, 126, 127, 128, 129, 130, 131, 132, 133, 4]
   (.ops [⟨(some 103), none, .mv (.s 6)⟩,
     ⟨(some 104), none, .bin .add (.s 103) (.c (V.int .i64 1))⟩,
     ⟨(some 6), none, .mv (.s 104)⟩]
   (.done)))
  (.exit 2))

def ir_palanquinref7_SamePacket : Fn' := ⟨134, [.tmp 4],
  .ops [⟨(some 2), none, .box ty_palanquinref7_Packet (.s 0)⟩,
    ⟨(some 3), none, .box ty_palanquinref7_Packet (.s 1)⟩,
    ⟨(some 4), none, .mv (.c (V.bool false))⟩]
  (.ops [⟨(some 7), none, .faddr 0 (.s 2)⟩,
    ⟨(some 8), none, .load none (.s 7)⟩,
    ⟨(some 9), none, .faddr 0 (.s 3)⟩,
    ⟨(some 10), none, .load none (.s 9)⟩,
    ⟨(some 11), none, .eq .bool true (.s 8) (.s 10)⟩,
    ⟨(some 12), none, .mv (.s 11)⟩,
    ⟨(some 13), (some (12, false)), .faddr 1 (.s 2)⟩,
    ⟨(some 14), (some (12, false)), .load none (.s 13)⟩,
    ⟨(some 15), (some (12, false)), .faddr 1 (.s 3)⟩,
    ⟨(some 16), (some (12, false)), .load none (.s 15)⟩,
    ⟨(some 17), (some (12, false)), .bin .neq (.s 14) (.s 16)⟩,
    ⟨(some 18), none, .pick (.s 12) (.c (V.bool true)) (.s 17)⟩,
    ⟨(some 19), none, .mv (.s 18)⟩,
    ⟨(some 20), (some (19, false)), .faddr 2 (.s 2)⟩,
    ⟨(some 21), (some (19, false)), .load none (.s 20)⟩,
    ⟨(some 22), (some (19, false)), .faddr 2 (.s 3)⟩,
    ⟨(some 23), (some (19, false)), .load none (.s 22)⟩,
    ⟨(some 24), (some (19, false)), .bin .neq (.s 21) (.s 23)⟩,
    ⟨(some 25), none, .pick (.s 19) (.c (V.bool true)) (.s 24)⟩,
    ⟨(some 26), none, .mv (.s 25)⟩,
    ⟨(some 27), (some (26, false)), .faddr 3 (.s 2)⟩,
    ⟨(some 28), (some (26, false)), .load none (.s 27)⟩,
    ⟨(some 29), (some (26, false)), .faddr 3 (.s 3)⟩,
    ⟨(some 30), (some (26, false)), .load none (.s 29)⟩,
    ⟨(some 31), (some (26, false)), .bin .neq (.s 28) (.s 30)⟩,
    ⟨(some 32), none, .pick (.s 26) (.c (V.bool true)) (.s 31)⟩,
    ⟨(some 33), none, .mv (.s 32)⟩,
    ⟨(some 34), (some (33, false)), .faddr 4 (.s 2)⟩,
    ⟨(some 35), (some (33, false)), .load none (.s 34)⟩,
    ⟨(some 36), (some (33, false)), .faddr 4 (.s 3)⟩,
    ⟨(some 37), (some (33, false)), .load none (.s 36)⟩,
    ⟨(some 38), (some (33, false)), .bin .neq (.s 35) (.s 37)⟩,
    ⟨(some 39), none, .pick (.s 33) (.c (V.bool true)) (.s 38)⟩,
    ⟨(some 40), none, .mv (.s 39)⟩,
    ⟨(some 41), (some (40, false)), .faddr 5 (.s 2)⟩,
    ⟨(some 42), (some (40, false)), .load none (.s 41)⟩,
    ⟨(some 43), (some (40, false)), .len (.s 42)⟩,
    ⟨(some 44), (some (40, false)), .faddr 5 (.s 3)⟩,
    ⟨(some 45), (some (40, false)), .load none (.s 44)⟩,
    ⟨(some 46), (some (40, false)), .len (.s 45)⟩,
    ⟨(some 47), (some (40, false)), .bin .neq (.s 43) (.s 46)⟩,
    ⟨(some 48), none, .pick (.s 40) (.c (V.bool true)) (.s 47)⟩,
    ⟨(some 49), none, .mv (.s 48)⟩,
    ⟨(some 50), (some (49, false)), .faddr 6 (.s 2)⟩,
    ⟨(some 51), (some (49, false)), .load none (.s 50)⟩,
    ⟨(some 52), (some (49, false)), .faddr 6 (.s 3)⟩,
    ⟨(some 53), (some (49, false)), .load none (.s 52)⟩,
    ⟨(some 54), (some (49, false)), .bin .neq (.s 51) (.s 53)⟩,
    ⟨(some 55), none, .pick (.s 49) (.c (V.bool true)) (.s 54)⟩,
    ⟨(some 56), none, .mv (.s 55)⟩,
    ⟨(some 57), (some (56, false)), .faddr 7 (.s 2)⟩,
    ⟨(some 58), (some (56, false)), .load none (.s 57)⟩,
    ⟨(some 59), (some (56, false)), .len (.s 58)⟩,
    ⟨(some 60), (some (56, false)), .faddr 7 (.s 3)⟩,
    ⟨(some 61), (some (56, false)), .load none (.s 60)⟩,
    ⟨(some 62), (some (56, false)), .len (.s 61)⟩,
    ⟨(some 63), (some (56, false)), .bin .neq (.s 59) (.s 62)⟩,
    ⟨(some 64), none, .pick (.s 56) (.c (V.bool true)) (.s 63)⟩,
    ⟨(some 65), none, .mv (.s 64)⟩,
    ⟨(some 66), (some (65, false)), .faddr 8 (.s 2)⟩,
    ⟨(some 67), (some (65, false)), .load none (.s 66)⟩,
    ⟨(some 68), (some (65, false)), .faddr 8 (.s 3)⟩,
    ⟨(some 69), (some (65, false)), .load none (.s 68)⟩,
    ⟨(some 70), (some (65, false)), .bin .neq (.s 67) (.s 69)⟩,
    ⟨(some 71), none, .pick (.s 65) (.c (V.bool true)) (.s 70)⟩,
    ⟨(some 72), none, .mv (.s 71)⟩,
    ⟨(some 73), (some (72, false)), .faddr 9 (.s 2)⟩,
    ⟨(some 74), (some (72, false)), .load none (.s 73)⟩,
    ⟨(some 75), (some (72, false)), .faddr 9 (.s 3)⟩,
    ⟨(some 76), (some (72, false)), .load none (.s 75)⟩,
    ⟨(some 77), (some (72, false)), .call fn_palanquinref1_Same [(.s 74), (.s 76)]⟩,
    ⟨(some 78), (some (72, false)), .un .not (.s 77)⟩,
    ⟨(some 79), none, .pick (.s 72) (.c (V.bool true)) (.s 78)⟩]
  (.cond (.s 79)
  (.ops [⟨(some 4), none, .mv (.c (V.bool false))⟩]
   (.ret))
  (.ops [⟨(some 5), none, .mv (.c (V.int .i64 0))⟩]
   (.blk 0
   (.loop loop_palanquinref7_SamePacket_0 [5] [80, 81, 82, 83, 84, 87, 88, 89, 90, 91, 92, 93, 94, 95, 96, 97, 4, 85, 86, 5]) [] [80, 81, 82, 83, 84, 87, 88, 89, 90, 91, 92, 93, 94, 95, 96, 97, 4, 85, 86, 5]
   (.ops [⟨(some 6), none, .mv (.c (V.int .i64 0))⟩]
   (.blk 2
   (.loop loop_palanquinref7_SamePacket_1 [6] [98, 99, 100, 101, 102, 105, 106, 107, 108, 109, 110, 111, 112, 113, 114, 115, 116, 117, 118, 119, 120, 121, 122, 123, 124, 125, 126, 127, 128, 129, 130, 131, 132, 133, 4, 103, 104, 6]) [] [98, 99, 100, 101, 102, 105, 106, 107, 108, 109, 110, 111, 112, 113, 114, 115, 116, 117, 118, 119, 120, 121, 122, 123, 124, 125, 126, 127, 128, 129, 130, 131, 132, 133, 4, 103, 104, 6]
   (.ops [⟨(some 4), none, .mv (.c (V.bool true))⟩]
   (.ret))))))))⟩

noncomputable def f_palanquinref7_SamePacket_0 (G : Sem') (t2 t3 : V) (L : List V) : M Res :=
  (M.lift (Ax.faddr 5 t2)).bind fun t81 =>
  (mload none t81).bind fun t82 =>
  (M.lift (vlen t82)).bind fun t83 =>
  (M.lift (Ax.bin .lss (L.getD 0 .undef) t83)).bind fun t84 =>
  M.ite t84
    (M.blk 1 (
      (M.lift (Ax.faddr 5 t2)).bind fun t87 =>
      (mload none t87).bind fun t88 =>
      (M.lift (Ax.iaddr none 1 t88 (L.getD 0 .undef))).bind fun t90 =>
      (mload none t90).bind fun t91 =>
      (M.lift (Ax.faddr 5 t3)).bind fun t92 =>
      (mload none t92).bind fun t93 =>
      (M.lift (Ax.iaddr none 1 t93 (L.getD 0 .undef))).bind fun t95 =>
      (mload none t95).bind fun t96 =>
      (M.lift (Ax.bin .neq t91 t96)).bind fun t97 =>
      M.ite t97
        (M.pure (.ret [(V.bool false)]))
        (M.pure (.nrm []))) fun _ =>
    (M.lift (Ax.bin .add (L.getD 0 .undef) (V.int .i64 1))).bind fun t86 =>
    M.pure (.nrm [t86]))
    (M.pure (.ex 0 []))

noncomputable def f_palanquinref7_SamePacket_1 (G : Sem') (t2 t3 : V) (L : List V) : M Res :=
  (M.lift (Ax.faddr 7 t2)).bind fun t99 =>
  (mload none t99).bind fun t100 =>
  (M.lift (vlen t100)).bind fun t101 =>
  (M.lift (Ax.bin .lss (L.getD 0 .undef) t101)).bind fun t102 =>
  M.ite t102
    (M.blk 3 (
      (M.lift (Ax.faddr 7 t2)).bind fun t105 =>
      (mload none t105).bind fun t106 =>
      (M.lift (Ax.iaddr none 2 t106 (L.getD 0 .undef))).bind fun t108 =>
      (M.lift (Ax.faddr 0 t108)).bind fun t109 =>
      (mload none t109).bind fun t110 =>
      (M.lift (Ax.faddr 7 t3)).bind fun t111 =>
      (mload none t111).bind fun t112 =>
      (M.lift (Ax.iaddr none 2 t112 (L.getD 0 .undef))).bind fun t114 =>
      (M.lift (Ax.faddr 0 t114)).bind fun t115 =>
      (mload none t115).bind fun t116 =>
      (M.lift (Ax.bin .neq t110 t116)).bind fun t117 =>
      (guarded [(0, t117)] (some (0, false)) (M.lift (Ax.faddr 7 t2))).bind fun t119 =>
      (guarded [(0, t117)] (some (0, false)) (mload none t119)).bind fun t120 =>
      (guarded [(0, t117)] (some (0, false)) (M.pure (L.getD 0 .undef))).bind fun t121 =>
      (guarded [(0, t117)] (some (0, false)) (M.lift (Ax.iaddr none 2 t120 t121))).bind fun t122 =>
      (guarded [(0, t117)] (some (0, false)) (M.lift (Ax.faddr 1 t122))).bind fun t123 =>
      (guarded [(0, t117)] (some (0, false)) (mload none t123)).bind fun t124 =>
      (guarded [(0, t117)] (some (0, false)) (M.lift (Ax.faddr 7 t3))).bind fun t125 =>
      (guarded [(0, t117)] (some (0, false)) (mload none t125)).bind fun t126 =>
      (guarded [(0, t117)] (some (0, false)) (M.pure (L.getD 0 .undef))).bind fun t127 =>
      (guarded [(0, t117)] (some (0, false)) (M.lift (Ax.iaddr none 2 t126 t127))).bind fun t128 =>
      (guarded [(0, t117)] (some (0, false)) (M.lift (Ax.faddr 1 t128))).bind fun t129 =>
      (guarded [(0, t117)] (some (0, false)) (mload none t129)).bind fun t130 =>
      (guarded [(0, t117)] (some (0, false)) (G fn_palanquinref1_Same [t124, t130])).bind fun t131 =>
      (guarded [(0, t117)] (some (0, false)) (M.lift (Ax.un .not t131))).bind fun t132 =>
      (M.lift (Ax.pick t117 (V.bool true) t132)).bind fun t133 =>
      M.ite t133
        (M.pure (.ret [(V.bool false)]))
        (M.pure (.nrm []))) fun _ =>
    (M.lift (Ax.bin .add (L.getD 0 .undef) (V.int .i64 1))).bind fun t104 =>
    M.pure (.nrm [t104]))
    (M.pure (.ex 2 []))

noncomputable def f_palanquinref7_SamePacket (G : Sem') (t0 t1 : V) : M Res :=
  (mbox ty_palanquinref7_Packet t0).bind fun t2 =>
  (mbox ty_palanquinref7_Packet t1).bind fun t3 =>
  (M.lift (Ax.faddr 0 t2)).bind fun t7 =>
  (mload none t7).bind fun t8 =>
  (M.lift (Ax.faddr 0 t3)).bind fun t9 =>
  (mload none t9).bind fun t10 =>
  (M.lift (eqr .bool true t8 t10)).bind fun t11 =>
  (guarded [(0, t11)] (some (0, false)) (M.lift (Ax.faddr 1 t2))).bind fun t13 =>
  (guarded [(0, t11)] (some (0, false)) (mload none t13)).bind fun t14 =>
  (guarded [(0, t11)] (some (0, false)) (M.lift (Ax.faddr 1 t3))).bind fun t15 =>
  (guarded [(0, t11)] (some (0, false)) (mload none t15)).bind fun t16 =>
  (guarded [(0, t11)] (some (0, false)) (M.lift (Ax.bin .neq t14 t16))).bind fun t17 =>
  (M.lift (Ax.pick t11 (V.bool true) t17)).bind fun t18 =>
  (guarded [(0, t18)] (some (0, false)) (M.lift (Ax.faddr 2 t2))).bind fun t20 =>
  (guarded [(0, t18)] (some (0, false)) (mload none t20)).bind fun t21 =>
  (guarded [(0, t18)] (some (0, false)) (M.lift (Ax.faddr 2 t3))).bind fun t22 =>
  (guarded [(0, t18)] (some (0, false)) (mload none t22)).bind fun t23 =>
  (guarded [(0, t18)] (some (0, false)) (M.lift (Ax.bin .neq t21 t23))).bind fun t24 =>
  (M.lift (Ax.pick t18 (V.bool true) t24)).bind fun t25 =>
  (guarded [(0, t25)] (some (0, false)) (M.lift (Ax.faddr 3 t2))).bind fun t27 =>
  (guarded [(0, t25)] (some (0, false)) (mload none t27)).bind fun t28 =>
  (guarded [(0, t25)] (some (0, false)) (M.lift (Ax.faddr 3 t3))).bind fun t29 =>
  (guarded [(0, t25)] (some (0, false)) (mload none t29)).bind fun t30 =>
  (guarded [(0, t25)] (some (0, false)) (M.lift (Ax.bin .neq t28 t30))).bind fun t31 =>
  (M.lift (Ax.pick t25 (V.bool true) t31)).bind fun t32 =>
  (guarded [(0, t32)] (some (0, false)) (M.lift (Ax.faddr 4 t2))).bind fun t34 =>
  (guarded [(0, t32)] (some (0, false)) (mload none t34)).bind fun t35 =>
  (guarded [(0, t32)] (some (0, false)) (M.lift (Ax.faddr 4 t3))).bind fun t36 =>
  (guarded [(0, t32)] (some (0, false)) (mload none t36)).bind fun t37 =>
  (guarded [(0, t32)] (some (0, false)) (M.lift (Ax.bin .neq t35 t37))).bind fun t38 =>
  (M.lift (Ax.pick t32 (V.bool true) t38)).bind fun t39 =>
  (guarded [(0, t39)] (some (0, false)) (M.lift (Ax.faddr 5 t2))).bind fun t41 =>
  (guarded [(0, t39)] (some (0, false)) (mload none t41)).bind fun t42 =>
  (guarded [(0, t39)] (some (0, false)) (M.lift (vlen t42))).bind fun t43 =>
  (guarded [(0, t39)] (some (0, false)) (M.lift (Ax.faddr 5 t3))).bind fun t44 =>
  (guarded [(0, t39)] (some (0, false)) (mload none t44)).bind fun t45 =>
  (guarded [(0, t39)] (some (0, false)) (M.lift (vlen t45))).bind fun t46 =>
  (guarded [(0, t39)] (some (0, false)) (M.lift (Ax.bin .neq t43 t46))).bind fun t47 =>
  (M.lift (Ax.pick t39 (V.bool true) t47)).bind fun t48 =>
  (guarded [(0, t48)] (some (0, false)) (M.lift (Ax.faddr 6 t2))).bind fun t50 =>
  (guarded [(0, t48)] (some (0, false)) (mload none t50)).bind fun t51 =>
  (guarded [(0, t48)] (some (0, false)) (M.lift (Ax.faddr 6 t3))).bind fun t52 =>
  (guarded [(0, t48)] (some (0, false)) (mload none t52)).bind fun t53 =>
  (guarded [(0, t48)] (some (0, false)) (M.lift (Ax.bin .neq t51 t53))).bind fun t54 =>
  (M.lift (Ax.pick t48 (V.bool true) t54)).bind fun t55 =>
  (guarded [(0, t55)] (some (0, false)) (M.lift (Ax.faddr 7 t2))).bind fun t57 =>
  (guarded [(0, t55)] (some (0, false)) (mload none t57)).bind fun t58 =>
  (guarded [(0, t55)] (some (0, false)) (M.lift (vlen t58))).bind fun t59 =>
  (guarded [(0, t55)] (some (0, false)) (M.lift (Ax.faddr 7 t3))).bind fun t60 =>
  (guarded [(0, t55)] (some (0, false)) (mload none t60)).bind fun t61 =>
  (guarded [(0, t55)] (some (0, false)) (M.lift (vlen t61))).bind fun t62 =>
  (guarded [(0, t55)] (some (0, false)) (M.lift (Ax.bin .neq t59 t62))).bind fun t63 =>
  (M.lift (Ax.pick t55 (V.bool true) t63)).bind fun t64 =>
  (guarded [(0, t64)] (some (0, false)) (M.lift (Ax.faddr 8 t2))).bind fun t66 =>
  (guarded [(0, t64)] (some (0, false)) (mload none t66)).bind fun t67 =>
  (guarded [(0, t64)] (some (0, false)) (M.lift (Ax.faddr 8 t3))).bind fun t68 =>
  (guarded [(0, t64)] (some (0, false)) (mload none t68)).bind fun t69 =>
  (guarded [(0, t64)] (some (0, false)) (M.lift (Ax.bin .neq t67 t69))).bind fun t70 =>
  (M.lift (Ax.pick t64 (V.bool true) t70)).bind fun t71 =>
  (guarded [(0, t71)] (some (0, false)) (M.lift (Ax.faddr 9 t2))).bind fun t73 =>
  (guarded [(0, t71)] (some (0, false)) (mload none t73)).bind fun t74 =>
  (guarded [(0, t71)] (some (0, false)) (M.lift (Ax.faddr 9 t3))).bind fun t75 =>
  (guarded [(0, t71)] (some (0, false)) (mload none t75)).bind fun t76 =>
  (guarded [(0, t71)] (some (0, false)) (G fn_palanquinref1_Same [t74, t76])).bind fun t77 =>
  (guarded [(0, t71)] (some (0, false)) (M.lift (Ax.un .not t77))).bind fun t78 =>
  (M.lift (Ax.pick t71 (V.bool true) t78)).bind fun t79 =>
  M.ite t79
    (M.pure (.ret [(V.bool false)]))
    (M.blk 0 (
      M.iter (f_palanquinref7_SamePacket_0 G t2 t3) [(V.int .i64 0)]) fun _ =>
    M.blk 2 (
      M.iter (f_palanquinref7_SamePacket_1 G t2 t3) [(V.int .i64 0)]) fun _ =>
    M.pure (.ret [(V.bool true)]))

theorem eq_palanquinref7_SamePacket (G : Sem') (t0 t1 : V) : execK G ir_palanquinref7_SamePacket.rv ir_palanquinref7_SamePacket.body [] [] (params 0 [t0, t1]) = f_palanquinref7_SamePacket G t0 t1 := by kernel_rfl

theorem tb_palanquinref7_SamePacket : T fn_palanquinref7_SamePacket = some ir_palanquinref7_SamePacket := by kernel_rfl

theorem ok_palanquinref7_SamePacket {t0 t1 : V} {H : Heap} {Q : V → Heap → Prop} (h : Ok (f_palanquinref7_SamePacket (sem T) t0 t1) H fun r H' => ∃ L, r = .ret L ∧ Q (tupled L) H') : Ok (sem T fn_palanquinref7_SamePacket [t0, t1]) H Q :=
  ok_sem tb_palanquinref7_SamePacket (Nat.le_of_ble_eq_true rfl) (eq_palanquinref7_SamePacket (sem T) t0 t1) h

/-- palanquin/palanquinref1.Same. -/
def ir_palanquinref1_Same : Fn' := ⟨10, [.tmp 4],
  .ops [⟨(some 4), none, .mv (.c (V.bool false))⟩]
  (.ops [⟨(some 5), none, .mv (.s 0)⟩,
    ⟨(some 6), none, .tostr (.s 5)⟩,
    ⟨(some 7), none, .mv (.s 1)⟩,
    ⟨(some 8), none, .tostr (.s 7)⟩,
    ⟨(some 9), none, .bin .eql (.s 6) (.s 8)⟩,
    ⟨(some 4), none, .mv (.s 9)⟩]
  (.ret))⟩

noncomputable def f_palanquinref1_Same (G : Sem') (t0 t1 : V) : M Res :=
  (mtostr t0).bind fun t6 =>
  (mtostr t1).bind fun t8 =>
  (M.lift (Ax.bin .eql t6 t8)).bind fun t9 =>
  M.pure (.ret [t9])

theorem eq_palanquinref1_Same (G : Sem') (t0 t1 : V) : execK G ir_palanquinref1_Same.rv ir_palanquinref1_Same.body [] [] (params 0 [t0, t1]) = f_palanquinref1_Same G t0 t1 := by kernel_rfl

theorem tb_palanquinref1_Same : T fn_palanquinref1_Same = some ir_palanquinref1_Same := by kernel_rfl

theorem ok_palanquinref1_Same {t0 t1 : V} {H : Heap} {Q : V → Heap → Prop} (h : Ok (f_palanquinref1_Same (sem T) t0 t1) H fun r H' => ∃ L, r = .ret L ∧ Q (tupled L) H') : Ok (sem T fn_palanquinref1_Same [t0, t1]) H Q :=
  ok_sem tb_palanquinref1_Same (Nat.le_of_ble_eq_true rfl) (eq_palanquinref1_Same (sem T) t0 t1) h

/-- palanquin/palanquinlaw7.RtpFinds. -/
def ir_palanquinlaw7_RtpFinds : Fn' := ⟨100, [.tmp 6],
  .ops [⟨(some 3), none, .box ty_rtp_Packet (.s 0)⟩,
    ⟨(some 6), none, .mv (.c (V.bool false))⟩]
  (.ops [⟨(some 18), none, .call fn_palanquinlaw7_awake []⟩,
    ⟨(some 19), none, .un .not (.s 18)⟩]
  (.cond (.s 19)
  (.ops [⟨(some 6), none, .mv (.c (V.bool false))⟩]
   (.ret))
  (.ops [⟨(some 20), none, .load (some 10) (.s 3)⟩,
     ⟨(some 21), none, .call fn_palanquinlaw7_heavy [(.s 20)]⟩,
     ⟨(some 22), none, .mv (.s 21)⟩,
     ⟨(some 23), (some (22, false)), .mv (.s 2)⟩,
     ⟨(some 24), (some (22, false)), .len (.s 23)⟩,
     ⟨(some 25), (some (22, false)), .bin .gtr (.s 24) (.c (V.int .i64 2000))⟩,
     ⟨(some 26), none, .pick (.s 22) (.c (V.bool true)) (.s 25)⟩]
   (.cond (.s 26)
   (.ops [⟨(some 6), none, .mv (.c (V.bool true))⟩]
    (.ret))
   (.ops [⟨(some 27), none, .load (some 10) (.s 3)⟩,
      ⟨(some 28), none, .call fn_palanquinhelp_Packet [(.s 27)]⟩,
      ⟨(some 7), none, .box ty_palanquinref7_Packet (.c (V.agg [(V.bool false), (V.int .i64 0), (V.int .u16 0), (V.int .u32 0), (V.int .u32 0), V.nils, (V.int .i64 0), V.nils, (V.int .i64 0), V.nils]))⟩,
      ⟨none, none, .store 10 (.s 7) (.s 28)⟩]
    (.ops [⟨(some 30), none, .load (some 10) (.s 3)⟩,
      ⟨(some 31), none, .mv (.s 1)⟩,
      ⟨(some 32), none, .call fn_rtp_Find [(.s 30), (.s 31)]⟩,
      ⟨(some 29), none, .mv (.s 32)⟩,
      ⟨(some 33), none, .ext 0 (.s 29)⟩,
      ⟨(some 34), none, .ext 1 (.s 29)⟩,
      ⟨(some 8), none, .mv (.s 33)⟩,
      ⟨(some 9), none, .mv (.s 34)⟩]
    (.ops [⟨(some 36), none, .load (some 10) (.s 7)⟩,
      ⟨(some 37), none, .mv (.s 1)⟩,
      ⟨(some 38), none, .call fn_palanquinref7_Find [(.s 36), (.s 37)]⟩,
      ⟨(some 35), none, .mv (.s 38)⟩,
      ⟨(some 39), none, .ext 0 (.s 35)⟩,
      ⟨(some 40), none, .ext 1 (.s 35)⟩,
      ⟨(some 10), none, .mv (.s 39)⟩,
      ⟨(some 11), none, .mv (.s 40)⟩]
    (.ops [⟨(some 42), none, .load (some 10) (.s 3)⟩,
      ⟨(some 43), none, .mv (.s 1)⟩,
      ⟨(some 44), none, .mv (.s 2)⟩,
      ⟨(some 45), none, .call fn_rtp_Set [(.s 42), (.s 43), (.s 44)]⟩,
      ⟨(some 41), none, .mv (.s 45)⟩,
      ⟨(some 46), none, .ext 0 (.s 41)⟩,
      ⟨(some 47), none, .ext 1 (.s 41)⟩,
      ⟨(some 12), none, .box ty_rtp_Packet (.c (V.agg [(V.bool false), (V.int .i64 0), (V.int .u16 0), (V.int .u32 0), (V.int .u32 0), V.nils, (V.int .i64 0), V.nils, (V.int .i64 0), V.nils]))⟩,
      ⟨none, none, .store 10 (.s 12) (.s 46)⟩,
      ⟨(some 13), none, .mv (.s 47)⟩]
    (.ops [⟨(some 49), none, .load (some 10) (.s 7)⟩,
      ⟨(some 50), none, .mv (.s 1)⟩,
      ⟨(some 51), none, .mv (.s 2)⟩,
      ⟨(some 52), none, .call fn_palanquinref7_Set [(.s 49), (.s 50), (.s 51)]⟩,
      ⟨(some 48), none, .mv (.s 52)⟩,
      ⟨(some 53), none, .ext 0 (.s 48)⟩,
      ⟨(some 54), none, .ext 1 (.s 48)⟩,
      ⟨(some 14), none, .box ty_palanquinref7_Packet (.c (V.agg [(V.bool false), (V.int .i64 0), (V.int .u16 0), (V.int .u32 0), (V.int .u32 0), V.nils, (V.int .i64 0), V.nils, (V.int .i64 0), V.nils]))⟩,
      ⟨none, none, .store 10 (.s 14) (.s 53)⟩,
      ⟨(some 15), none, .mv (.s 54)⟩]
    (.ops [⟨(some 56), none, .load (some 10) (.s 12)⟩,
      ⟨(some 57), none, .mv (.s 1)⟩,
      ⟨(some 58), none, .call fn_rtp_Find [(.s 56), (.s 57)]⟩,
      ⟨(some 55), none, .mv (.s 58)⟩,
      ⟨(some 59), none, .ext 0 (.s 55)⟩,
      ⟨(some 60), none, .ext 1 (.s 55)⟩,
      ⟨(some 16), none, .mv (.s 59)⟩,
      ⟨(some 17), none, .mv (.s 60)⟩]
    (.draw [⟨(some 61), none, .mv (.s 9)⟩,
      ⟨(some 62), none, .mv (.s 11)⟩,
      ⟨(some 63), none, .eq .bool false (.s 61) (.s 62)⟩,
      ⟨(some 64), none, .mv (.s 63)⟩,
      ⟨(some 65), (some (64, true)), .mv (.s 8)⟩,
      ⟨(some 66), (some (64, true)), .mv (.s 10)⟩,
      ⟨(some 67), (some (64, true)), .call fn_palanquinref1_Same [(.s 65), (.s 66)]⟩,
      ⟨(some 68), none, .pick (.s 64) (.s 67) (.c (V.bool false))⟩,
      ⟨(some 69), none, .mv (.s 68)⟩,
      ⟨(some 70), (some (69, true)), .mv (.s 13)⟩,
      ⟨(some 71), (some (69, true)), .mv (.s 15)⟩,
      ⟨(some 72), (some (69, true)), .eq .bool false (.s 70) (.s 71)⟩,
      ⟨(some 73), none, .pick (.s 69) (.s 72) (.c (V.bool false))⟩,
      ⟨(some 74), none, .mv (.s 73)⟩,
      ⟨(some 75), (some (74, true)), .load (some 10) (.s 12)⟩,
      ⟨(some 76), (some (74, true)), .call fn_palanquinhelp_Packet [(.s 75)]⟩,
      ⟨(some 77), (some (74, true)), .load (some 10) (.s 14)⟩,
      ⟨(some 78), (some (74, true)), .call fn_palanquinref7_SamePacket [(.s 76), (.s 77)]⟩,
      ⟨(some 79), none, .pick (.s 74) (.s 78) (.c (V.bool false))⟩,
      ⟨(some 80), none, .mv (.s 79)⟩,
      ⟨(some 81), (some (80, true)), .load (some 10) (.s 3)⟩,
      ⟨(some 82), (some (80, true)), .call fn_palanquinhelp_Packet [(.s 81)]⟩,
      ⟨(some 83), (some (80, true)), .load (some 10) (.s 7)⟩,
      ⟨(some 84), (some (80, true)), .call fn_palanquinref7_SamePacket [(.s 82), (.s 83)]⟩,
      ⟨(some 85), none, .pick (.s 80) (.s 84) (.c (V.bool false))⟩,
      ⟨(some 86), none, .mv (.s 85)⟩,
      ⟨(some 87), (some (86, true)), .mv (.s 17)⟩,
      ⟨(some 88), (some (86, true)), .mv (.s 9)⟩,
      ⟨(some 89), (some (86, true)), .eq .bool false (.s 87) (.s 88)⟩,
      ⟨(some 90), none, .pick (.s 86) (.s 89) (.c (V.bool false))⟩,
      ⟨(some 91), none, .mv (.s 90)⟩,
      ⟨(some 92), (some (91, true)), .mv (.s 9)⟩,
      ⟨(some 93), (some (91, true)), .un .not (.s 92)⟩,
      ⟨(some 94), (some (91, true)), .mv (.s 93)⟩,
      ⟨(some 95), (some (94, false)), .mv (.s 16)⟩,
      ⟨(some 96), (some (94, false)), .mv (.s 2)⟩,
      ⟨(some 97), (some (94, false)), .call fn_palanquinref1_Same [(.s 95), (.s 96)]⟩,
      ⟨(some 98), (some (91, true)), .pick (.s 94) (.c (V.bool true)) (.s 97)⟩,
      ⟨(some 99), none, .pick (.s 91) (.s 98) (.c (V.bool false))⟩,
      ⟨(some 6), none, .mv (.s 99)⟩] [(16, 15), (22, 21)]
    (.ret))))))))))))⟩

noncomputable def f_palanquinlaw7_RtpFinds (G : Sem') (t0 t1 t2 : V) : M Res :=
  (mbox ty_rtp_Packet t0).bind fun t3 =>
  (G fn_palanquinlaw7_awake []).bind fun t18 =>
  (M.lift (Ax.un .not t18)).bind fun t19 =>
  M.ite t19
    (M.pure (.ret [(V.bool false)]))
    ((mload (some 10) t3).bind fun t20 =>
    (G fn_palanquinlaw7_heavy [t20]).bind fun t21 =>
    (guarded [(0, t21)] (some (0, false)) (M.pure t2)).bind fun t23 =>
    (guarded [(0, t21)] (some (0, false)) (M.lift (vlen t23))).bind fun t24 =>
    (guarded [(0, t21)] (some (0, false)) (M.lift (Ax.bin .gtr t24 (V.int .i64 2000)))).bind fun t25 =>
    (M.lift (Ax.pick t21 (V.bool true) t25)).bind fun t26 =>
    M.ite t26
      (M.pure (.ret [(V.bool true)]))
      ((mload (some 10) t3).bind fun t27 =>
      (G fn_palanquinhelp_Packet [t27]).bind fun t28 =>
      (mbox ty_palanquinref7_Packet (V.agg [(V.bool false), (V.int .i64 0), (V.int .u16 0), (V.int .u32 0), (V.int .u32 0), V.nils, (V.int .i64 0), V.nils, (V.int .i64 0), V.nils])).bind fun t7 =>
      (mstore 10 t7 t28).bind fun _ =>
      (mload (some 10) t3).bind fun t30 =>
      (G fn_rtp_Find [t30, t1]).bind fun t32 =>
      (M.lift (Ax.ext 0 t32)).bind fun t33 =>
      (M.lift (Ax.ext 1 t32)).bind fun t34 =>
      (mload (some 10) t7).bind fun t36 =>
      (G fn_palanquinref7_Find [t36, t1]).bind fun t38 =>
      (M.lift (Ax.ext 0 t38)).bind fun t39 =>
      (M.lift (Ax.ext 1 t38)).bind fun t40 =>
      (mload (some 10) t3).bind fun t42 =>
      (G fn_rtp_Set [t42, t1, t2]).bind fun t45 =>
      (M.lift (Ax.ext 0 t45)).bind fun t46 =>
      (M.lift (Ax.ext 1 t45)).bind fun t47 =>
      (mbox ty_rtp_Packet (V.agg [(V.bool false), (V.int .i64 0), (V.int .u16 0), (V.int .u32 0), (V.int .u32 0), V.nils, (V.int .i64 0), V.nils, (V.int .i64 0), V.nils])).bind fun t12 =>
      (mstore 10 t12 t46).bind fun _ =>
      (mload (some 10) t7).bind fun t49 =>
      (G fn_palanquinref7_Set [t49, t1, t2]).bind fun t52 =>
      (M.lift (Ax.ext 0 t52)).bind fun t53 =>
      (M.lift (Ax.ext 1 t52)).bind fun t54 =>
      (mbox ty_palanquinref7_Packet (V.agg [(V.bool false), (V.int .i64 0), (V.int .u16 0), (V.int .u32 0), (V.int .u32 0), V.nils, (V.int .i64 0), V.nils, (V.int .i64 0), V.nils])).bind fun t14 =>
      (mstore 10 t14 t53).bind fun _ =>
      (mload (some 10) t12).bind fun t56 =>
      (G fn_rtp_Find [t56, t1]).bind fun t58 =>
      (M.lift (Ax.ext 0 t58)).bind fun t59 =>
      (M.lift (Ax.ext 1 t58)).bind fun t60 =>
      (M.lift (eqr .bool false t34 t40)).bind fun t63 =>
      (guarded [(0, t63)] (some (0, true)) (M.pure t33)).bind fun t65 =>
      (guarded [(0, t63)] (some (0, true)) (M.pure t39)).bind fun t66 =>
      (guarded [(0, t63)] (some (0, true)) (G fn_palanquinref1_Same [t65, t66])).bind fun t67 =>
      (M.lift (Ax.pick t63 t67 (V.bool false))).bind fun t68 =>
      (guarded [(0, t68)] (some (0, true)) (M.pure t47)).bind fun t70 =>
      (guarded [(0, t68)] (some (0, true)) (M.pure t54)).bind fun t71 =>
      (guarded [(0, t68)] (some (0, true)) (M.lift (eqr .bool false t70 t71))).bind fun t72 =>
      (M.lift (Ax.pick t68 t72 (V.bool false))).bind fun t73 =>
      (guarded [(0, t73)] (some (0, true)) (mload (some 10) t12)).bind fun t75 =>
      M.getH.bind fun h0 =>
      (guarded [(0, t73)] (some (0, true)) (G fn_palanquinhelp_Packet [t75])).bind fun t76 =>
      M.getH.bind fun h0' =>
      (guarded [(0, t73)] (some (0, true)) (mload (some 10) t14)).bind fun t77 =>
      (M.unch t14 h0 h0').bind fun _ =>
      (guarded [(0, t73)] (some (0, true)) (G fn_palanquinref7_SamePacket [t76, t77])).bind fun t78 =>
      (M.lift (Ax.pick t73 t78 (V.bool false))).bind fun t79 =>
      (guarded [(0, t79)] (some (0, true)) (mload (some 10) t3)).bind fun t81 =>
      M.getH.bind fun h1 =>
      (guarded [(0, t79)] (some (0, true)) (G fn_palanquinhelp_Packet [t81])).bind fun t82 =>
      M.getH.bind fun h1' =>
      (guarded [(0, t79)] (some (0, true)) (mload (some 10) t7)).bind fun t83 =>
      (M.unch t7 h1 h1').bind fun _ =>
      (guarded [(0, t79)] (some (0, true)) (G fn_palanquinref7_SamePacket [t82, t83])).bind fun t84 =>
      (M.lift (Ax.pick t79 t84 (V.bool false))).bind fun t85 =>
      (guarded [(0, t85)] (some (0, true)) (M.pure t60)).bind fun t87 =>
      (guarded [(0, t85)] (some (0, true)) (M.pure t34)).bind fun t88 =>
      (guarded [(0, t85)] (some (0, true)) (M.lift (eqr .bool false t87 t88))).bind fun t89 =>
      (M.lift (Ax.pick t85 t89 (V.bool false))).bind fun t90 =>
      (guarded [(0, t90)] (some (0, true)) (M.pure t34)).bind fun t92 =>
      (guarded [(0, t90)] (some (0, true)) (M.lift (Ax.un .not t92))).bind fun t93 =>
      (guarded [(0, t90)] (some (0, true)) (M.pure t93)).bind fun t94 =>
      (guarded [(0, t94)] (some (0, false)) (M.pure t59)).bind fun t95 =>
      (guarded [(0, t94)] (some (0, false)) (M.pure t2)).bind fun t96 =>
      (guarded [(0, t94)] (some (0, false)) (G fn_palanquinref1_Same [t95, t96])).bind fun t97 =>
      (guarded [(0, t90)] (some (0, true)) (M.lift (Ax.pick t94 (V.bool true) t97))).bind fun t98 =>
      (M.lift (Ax.pick t90 t98 (V.bool false))).bind fun t99 =>
      M.pure (.ret [t99])))

theorem eq_palanquinlaw7_RtpFinds (G : Sem') (t0 t1 t2 : V) : execK G ir_palanquinlaw7_RtpFinds.rv ir_palanquinlaw7_RtpFinds.body [] [] (params 0 [t0, t1, t2]) = f_palanquinlaw7_RtpFinds G t0 t1 t2 := by kernel_rfl

theorem tb_palanquinlaw7_RtpFinds : T fn_palanquinlaw7_RtpFinds = some ir_palanquinlaw7_RtpFinds := by kernel_rfl

theorem ok_palanquinlaw7_RtpFinds {t0 t1 t2 : V} {H : Heap} {Q : V → Heap → Prop} (h : Ok (f_palanquinlaw7_RtpFinds (sem T) t0 t1 t2) H fun r H' => ∃ L, r = .ret L ∧ Q (tupled L) H') : Ok (sem T fn_palanquinlaw7_RtpFinds [t0, t1, t2]) H Q :=
  ok_sem tb_palanquinlaw7_RtpFinds (Nat.le_of_ble_eq_true rfl) (eq_palanquinlaw7_RtpFinds (sem T) t0 t1 t2) h

end Go.Ax
