/-
  The functions of this seat as plain texts: printed by program (wip/gen/Emit.lean): part 4.
-/
import Derived.Test.YtoflegfbpjbedaaGreatFnK0
set_option maxRecDepth 100000
set_option linter.unusedVariables false
namespace Go.Ax
open Go.Proofs

/-- palanquin/depend.Number. -/
def ir_depend_Number : Fn' := ⟨21, [.tmp 4],
  .ops [⟨(some 4), none, .mv (.c V.nils)⟩]
  (.ops [⟨(some 6), none, .mv (.s 0)⟩,
    ⟨(some 7), none, .call fn_bytes_Clone [(.s 6)]⟩,
    ⟨(some 5), none, .mv (.s 7)⟩]
  (.ops [⟨(some 8), none, .mv (.s 5)⟩,
    ⟨(some 9), none, .len (.s 8)⟩,
    ⟨(some 10), none, .bin .geq (.s 9) (.c (V.int .i64 3))⟩]
  (.condJ (.s 10)
  (.ops [⟨(some 11), none, .mv (.s 5)⟩,
     ⟨(some 12), none, .mv (.s 5)⟩,
     ⟨(some 13), none, .mv (.s 1)⟩,
     ⟨(some 14), none, .bin .shr (.s 13) (.c (V.int .u64 8))⟩,
     ⟨(some 15), none, .cint .u8 (.s 14)⟩,
     ⟨(some 16), none, .mv (.s 1)⟩,
     ⟨(some 17), none, .cint .u8 (.s 16)⟩,
     ⟨(some 18), none, .iaddr none 1 (.s 11) (.c (V.int .i64 1))⟩,
     ⟨none, none, .store 1 (.s 18) (.s 15)⟩,
     ⟨(some 19), none, .iaddr none 1 (.s 12) (.c (V.int .i64 2))⟩,
     ⟨none, none, .store 1 (.s 19) (.s 17)⟩]
   (.done))
  (.done) [] [11, 12, 13, 14, 15, 16, 17, 18, 19]
  (.ops [⟨(some 20), none, .mv (.s 5)⟩,
    ⟨(some 4), none, .mv (.s 20)⟩]
  (.ret)))))⟩

noncomputable def f_depend_Number (G : Sem') (t0 t1 : V) : M Res :=
  (G fn_bytes_Clone [t0]).bind fun t7 =>
  (M.lift (vlen t7)).bind fun t9 =>
  (M.lift (Ax.bin .geq t9 (V.int .i64 3))).bind fun t10 =>
  M.join (M.ite t10
    ((M.lift (Ax.bin .shr t1 (V.int .u64 8))).bind fun t14 =>
    (M.lift (Ax.cint .u8 t14)).bind fun t15 =>
    (M.lift (Ax.cint .u8 t1)).bind fun t17 =>
    (M.lift (Ax.iaddr none 1 t7 (V.int .i64 1))).bind fun t18 =>
    (mstore 1 t18 t15).bind fun _ =>
    (M.lift (Ax.iaddr none 1 t7 (V.int .i64 2))).bind fun t19 =>
    (mstore 1 t19 t17).bind fun _ =>
    M.pure (.nrm []))
    (M.pure (.nrm []))) fun _ =>
  M.pure (.ret [t7])

theorem eq_depend_Number (G : Sem') (t0 t1 : V) : execK G ir_depend_Number.rv ir_depend_Number.body [] [] (params 0 [t0, t1]) = f_depend_Number G t0 t1 := by kernel_rfl

theorem tb_depend_Number : T fn_depend_Number = some ir_depend_Number := by kernel_rfl

theorem ok_depend_Number {t0 t1 : V} {H : Heap} {Q : V → Heap → Prop} (h : Ok (f_depend_Number (sem T) t0 t1) H fun r H' => ∃ L, r = .ret L ∧ Q (tupled L) H') : Ok (sem T fn_depend_Number [t0, t1]) H Q :=
  ok_sem tb_depend_Number (Nat.le_of_ble_eq_true rfl) (eq_depend_Number (sem T) t0 t1) h

/-- palanquin/rtp.Set. -/
def ir_rtp_Set : Fn' := ⟨25, [.cell 6 (some 10), .tmp 7],
  .ops [⟨(some 3), none, .box ty_rtp_Packet (.s 0)⟩,
    ⟨(some 6), none, .box ty_rtp_Packet (.c (V.agg [(V.bool false), (V.int .i64 0), (V.int .u16 0), (V.int .u32 0), (V.int .u32 0), V.nils, (V.int .i64 0), V.nils, (V.int .i64 0), V.nils]))⟩,
    ⟨(some 7), none, .mv (.c (V.bool false))⟩]
  (.ops [⟨(some 9), none, .load (some 10) (.s 3)⟩,
    ⟨(some 10), none, .call fn_rtp_copied [(.s 9)]⟩,
    ⟨none, none, .store 10 (.s 3) (.s 10)⟩]
  (.ops [⟨(some 11), none, .load (some 10) (.s 3)⟩,
    ⟨(some 12), none, .mv (.s 1)⟩,
    ⟨(some 13), none, .call fn_rtp_at [(.s 11), (.s 12)]⟩,
    ⟨(some 8), none, .mv (.s 13)⟩]
  (.ops [⟨(some 14), none, .mv (.s 8)⟩,
    ⟨(some 15), none, .bin .lss (.s 14) (.c (V.int .i64 0))⟩]
  (.cond (.s 15)
  (.ops [⟨(some 16), none, .load (some 10) (.s 3)⟩,
     ⟨none, none, .store 10 (.s 6) (.s 16)⟩,
     ⟨(some 7), none, .mv (.c (V.bool false))⟩]
   (.ret))
  (.draw [⟨(some 17), none, .faddr 7 (.s 3)⟩,
     ⟨(some 18), none, .load none (.s 17)⟩,
     ⟨(some 19), none, .mv (.s 8)⟩,
     ⟨(some 20), none, .mv (.s 2)⟩,
     ⟨(some 21), none, .call fn_bytes_Clone [(.s 20)]⟩,
     ⟨(some 22), none, .iaddr none 2 (.s 18) (.s 19)⟩,
     ⟨(some 23), none, .faddr 1 (.s 22)⟩,
     ⟨none, none, .store 1 (.s 23) (.s 21)⟩] [(1, 4)]
   (.ops [⟨(some 24), none, .load (some 10) (.s 3)⟩,
     ⟨none, none, .store 10 (.s 6) (.s 24)⟩,
     ⟨(some 7), none, .mv (.c (V.bool true))⟩]
   (.ret)))))))⟩

noncomputable def f_rtp_Set (G : Sem') (t0 t1 t2 : V) : M Res :=
  (mbox ty_rtp_Packet t0).bind fun t3 =>
  (mbox ty_rtp_Packet (V.agg [(V.bool false), (V.int .i64 0), (V.int .u16 0), (V.int .u32 0), (V.int .u32 0), V.nils, (V.int .i64 0), V.nils, (V.int .i64 0), V.nils])).bind fun t6 =>
  (mload (some 10) t3).bind fun t9 =>
  (G fn_rtp_copied [t9]).bind fun t10 =>
  (mstore 10 t3 t10).bind fun _ =>
  (mload (some 10) t3).bind fun t11 =>
  (G fn_rtp_at [t11, t1]).bind fun t13 =>
  (M.lift (Ax.bin .lss t13 (V.int .i64 0))).bind fun t15 =>
  M.ite t15
    ((mload (some 10) t3).bind fun t16 =>
    (mstore 10 t6 t16).bind fun _ =>
    (mload (some 10) t6).bind fun r0 =>
    M.pure (.ret [r0, (V.bool false)]))
    ((M.lift (Ax.faddr 7 t3)).bind fun t17 =>
    (mload none t17).bind fun t18 =>
    M.getH.bind fun h0 =>
    (G fn_bytes_Clone [t2]).bind fun t21 =>
    M.getH.bind fun h0' =>
    (M.unch t17 h0 h0').bind fun _ =>
    (M.lift (Ax.iaddr none 2 t18 t13)).bind fun t22 =>
    (M.lift (Ax.faddr 1 t22)).bind fun t23 =>
    (mstore 1 t23 t21).bind fun _ =>
    (mload (some 10) t3).bind fun t24 =>
    (mstore 10 t6 t24).bind fun _ =>
    (mload (some 10) t6).bind fun r0 =>
    M.pure (.ret [r0, (V.bool true)]))

theorem eq_rtp_Set (G : Sem') (t0 t1 t2 : V) : execK G ir_rtp_Set.rv ir_rtp_Set.body [] [] (params 0 [t0, t1, t2]) = f_rtp_Set G t0 t1 t2 := by kernel_rfl

theorem tb_rtp_Set : T fn_rtp_Set = some ir_rtp_Set := by kernel_rfl

theorem ok_rtp_Set {t0 t1 t2 : V} {H : Heap} {Q : V → Heap → Prop} (h : Ok (f_rtp_Set (sem T) t0 t1 t2) H fun r H' => ∃ L, r = .ret L ∧ Q (tupled L) H') : Ok (sem T fn_rtp_Set [t0, t1, t2]) H Q :=
  ok_sem tb_rtp_Set (Nat.le_of_ble_eq_true rfl) (eq_rtp_Set (sem T) t0 t1 t2) h

/-- palanquin/rtp.copied. -/
def loop_rtp_copied_0 : C :=
  .ops [⟨(some 20), none, .bin .lss (.s 19) (.s 18)⟩]
  (.cond (.s 20)
  (.blk 1
   (.ops [⟨(some 21), none, .mv (.s 19)⟩,
      ⟨(some 3), none, .mv (.s 21)⟩]
    (.draw [⟨(some 22), none, .faddr 7 (.s 1)⟩,
      ⟨(some 23), none, .load none (.s 22)⟩,
      ⟨(some 24), none, .mv (.s 3)⟩,
      ⟨(some 25), none, .faddr 7 (.s 1)⟩,
      ⟨(some 26), none, .load none (.s 25)⟩,
      ⟨(some 27), none, .mv (.s 3)⟩,
      ⟨(some 28), none, .iaddr none 2 (.s 26) (.s 27)⟩,
      ⟨(some 29), none, .faddr 1 (.s 28)⟩,
      ⟨(some 30), none, .load none (.s 29)⟩,
      ⟨(some 31), none, .call fn_bytes_Clone [(.s 30)]⟩,
      ⟨(some 32), none, .iaddr none 2 (.s 23) (.s 24)⟩,
      ⟨(some 33), none, .faddr 1 (.s 32)⟩,
      ⟨none, none, .store 1 (.s 33) (.s 31)⟩] [(1, 9)]
    (.done))) [] [21, 3, 22, 23, 24, 25, 26, 27, 28, 29, 30, 31, 32, 33]
   (.ops [⟨(some 34), none, .bin .add (.s 19) (.c (V.int .i64 1))⟩,
     ⟨(some 19), none, .mv (.s 34)⟩]
   (.done)))
  (.exit 0))

def ir_rtp_copied : Fn' := ⟨36, [.cell 2 (some 10)],
  .ops [⟨(some 1), none, .box ty_rtp_Packet (.s 0)⟩,
    ⟨(some 2), none, .box ty_rtp_Packet (.c (V.agg [(V.bool false), (V.int .i64 0), (V.int .u16 0), (V.int .u32 0), (V.int .u32 0), V.nils, (V.int .i64 0), V.nils, (V.int .i64 0), V.nils]))⟩]
  (.draw [⟨(some 4), none, .faddr 5 (.s 1)⟩,
    ⟨(some 5), none, .load none (.s 4)⟩,
    ⟨(some 7), none, .faddr 9 (.s 1)⟩,
    ⟨(some 8), none, .load none (.s 7)⟩,
    ⟨(some 10), none, .faddr 7 (.s 1)⟩,
    ⟨(some 11), none, .load none (.s 10)⟩,
    ⟨(some 6), none, .call fn_slices_Clone_uint32_uint32 [(.s 5)]⟩,
    ⟨(some 9), none, .call fn_bytes_Clone [(.s 8)]⟩,
    ⟨(some 12), none, .call fn_slices_Clone_rtp_Ext_rtp_Ext [(.s 11)]⟩,
    ⟨(some 13), none, .faddr 5 (.s 1)⟩,
    ⟨none, none, .store 1 (.s 13) (.s 6)⟩,
    ⟨(some 14), none, .faddr 9 (.s 1)⟩,
    ⟨none, none, .store 1 (.s 14) (.s 9)⟩,
    ⟨(some 15), none, .faddr 7 (.s 1)⟩,
    ⟨none, none, .store 1 (.s 15) (.s 12)⟩] [(3, 6), (5, 6), (5, 7)]
  (.ops [⟨(some 16), none, .faddr 7 (.s 1)⟩,
    ⟨(some 17), none, .load none (.s 16)⟩,
    ⟨(some 18), none, .len (.s 17)⟩,
    ⟨(some 19), none, .mv (.c (V.int .i64 0))⟩]
  (.blk 0
  (.loop loop_rtp_copied_0 [19] [20, 21, 3, 22, 23, 24, 25, 26, 27, 28, 29, 30, 31, 32, 33, 34, 19]) [] [20, 21, 3, 22, 23, 24, 25, 26, 27, 28, 29, 30, 31, 32, 33, 34, 19]
  (.ops [⟨(some 35), none, .load (some 10) (.s 1)⟩,
    ⟨none, none, .store 10 (.s 2) (.s 35)⟩]
  (.ret)))))⟩

noncomputable def f_rtp_copied_0 (G : Sem') (t18 t1 t2 : V) (L : List V) : M Res :=
  (M.lift (Ax.bin .lss (L.getD 0 .undef) t18)).bind fun t20 =>
  M.ite t20
    (M.blk 1 (
      (M.lift (Ax.faddr 7 t1)).bind fun t22 =>
      (mload none t22).bind fun t23 =>
      (M.lift (Ax.faddr 7 t1)).bind fun t25 =>
      (mload none t25).bind fun t26 =>
      (M.lift (Ax.iaddr none 2 t26 (L.getD 0 .undef))).bind fun t28 =>
      (M.lift (Ax.faddr 1 t28)).bind fun t29 =>
      (mload none t29).bind fun t30 =>
      M.getH.bind fun h2 =>
      (G fn_bytes_Clone [t30]).bind fun t31 =>
      M.getH.bind fun h2' =>
      (M.unch t22 h2 h2').bind fun _ =>
      (M.lift (Ax.iaddr none 2 t23 (L.getD 0 .undef))).bind fun t32 =>
      (M.lift (Ax.faddr 1 t32)).bind fun t33 =>
      (mstore 1 t33 t31).bind fun _ =>
      M.pure (.nrm [])) fun _ =>
    (M.lift (Ax.bin .add (L.getD 0 .undef) (V.int .i64 1))).bind fun t34 =>
    M.pure (.nrm [t34]))
    (M.pure (.ex 0 []))

noncomputable def f_rtp_copied (G : Sem') (t0 : V) : M Res :=
  (mbox ty_rtp_Packet t0).bind fun t1 =>
  (mbox ty_rtp_Packet (V.agg [(V.bool false), (V.int .i64 0), (V.int .u16 0), (V.int .u32 0), (V.int .u32 0), V.nils, (V.int .i64 0), V.nils, (V.int .i64 0), V.nils])).bind fun t2 =>
  (M.lift (Ax.faddr 5 t1)).bind fun t4 =>
  (mload none t4).bind fun t5 =>
  (M.lift (Ax.faddr 9 t1)).bind fun t7 =>
  (mload none t7).bind fun t8 =>
  (M.lift (Ax.faddr 7 t1)).bind fun t10 =>
  (mload none t10).bind fun t11 =>
  M.getH.bind fun h0 =>
  (G fn_slices_Clone_uint32_uint32 [t5]).bind fun t6 =>
  M.getH.bind fun h0' =>
  (M.unch t10 h0 h0').bind fun _ =>
  (M.unch t7 h0 h0').bind fun _ =>
  M.getH.bind fun h1 =>
  (G fn_bytes_Clone [t8]).bind fun t9 =>
  M.getH.bind fun h1' =>
  (M.unch t10 h1 h1').bind fun _ =>
  (G fn_slices_Clone_rtp_Ext_rtp_Ext [t11]).bind fun t12 =>
  (M.lift (Ax.faddr 5 t1)).bind fun t13 =>
  (mstore 1 t13 t6).bind fun _ =>
  (M.lift (Ax.faddr 9 t1)).bind fun t14 =>
  (mstore 1 t14 t9).bind fun _ =>
  (M.lift (Ax.faddr 7 t1)).bind fun t15 =>
  (mstore 1 t15 t12).bind fun _ =>
  (M.lift (Ax.faddr 7 t1)).bind fun t16 =>
  (mload none t16).bind fun t17 =>
  (M.lift (vlen t17)).bind fun t18 =>
  M.blk 0 (
    M.iter (f_rtp_copied_0 G t18 t1 t2) [(V.int .i64 0)]) fun _ =>
  (mload (some 10) t1).bind fun t35 =>
  (mstore 10 t2 t35).bind fun _ =>
  (mload (some 10) t2).bind fun r0 =>
  M.pure (.ret [r0])

theorem eq_rtp_copied (G : Sem') (t0 : V) : execK G ir_rtp_copied.rv ir_rtp_copied.body [] [] (params 0 [t0]) = f_rtp_copied G t0 := by kernel_rfl

theorem tb_rtp_copied : T fn_rtp_copied = some ir_rtp_copied := by kernel_rfl

theorem ok_rtp_copied {t0 : V} {H : Heap} {Q : V → Heap → Prop} (h : Ok (f_rtp_copied (sem T) t0) H fun r H' => ∃ L, r = .ret L ∧ Q (tupled L) H') : Ok (sem T fn_rtp_copied [t0]) H Q :=
  ok_sem tb_rtp_copied (Nat.le_of_ble_eq_true rfl) (eq_rtp_copied (sem T) t0) h

/-- slices.Clone[[]uint32,uint32]. -/
def ir_slices_Clone_uint32_uint32 : Fn' := ⟨8, [.tmp 2],
  .ops [⟨(some 2), none, .mv (.c V.nils)⟩]
  (.ops [⟨(some 3), none, .mv (.s 0)⟩,
    ⟨(some 4), none, .eq .sl false (.s 3) (.c V.nils)⟩]
  (.cond (.s 4)
  (.ops [⟨(some 2), none, .mv (.c V.nils)⟩]
   (.ret))
  (.ops [⟨(some 5), none, .slit ty_uint32 0 [(V.int .u32 0)] []⟩,
     ⟨(some 6), none, .mv (.s 0)⟩,
     ⟨(some 7), none, .append ty_uint32 1 4 (.s 5) (.s 6)⟩,
     ⟨(some 2), none, .mv (.s 7)⟩]
   (.ret))))⟩

noncomputable def f_slices_Clone_uint32_uint32 (G : Sem') (t0 : V) : M Res :=
  (M.lift (eqr .sl false t0 V.nils)).bind fun t4 =>
  M.ite t4
    (M.pure (.ret [V.nils]))
    ((mslit ty_uint32 0 [(V.int .u32 0)] []).bind fun t5 =>
    (mappend ty_uint32 1 4 t5 t0).bind fun t7 =>
    M.pure (.ret [t7]))

theorem eq_slices_Clone_uint32_uint32 (G : Sem') (t0 : V) : execK G ir_slices_Clone_uint32_uint32.rv ir_slices_Clone_uint32_uint32.body [] [] (params 0 [t0]) = f_slices_Clone_uint32_uint32 G t0 := by kernel_rfl

theorem tb_slices_Clone_uint32_uint32 : T fn_slices_Clone_uint32_uint32 = some ir_slices_Clone_uint32_uint32 := by kernel_rfl

theorem ok_slices_Clone_uint32_uint32 {t0 : V} {H : Heap} {Q : V → Heap → Prop} (h : Ok (f_slices_Clone_uint32_uint32 (sem T) t0) H fun r H' => ∃ L, r = .ret L ∧ Q (tupled L) H') : Ok (sem T fn_slices_Clone_uint32_uint32 [t0]) H Q :=
  ok_sem tb_slices_Clone_uint32_uint32 (Nat.le_of_ble_eq_true rfl) (eq_slices_Clone_uint32_uint32 (sem T) t0) h

/-- slices.Clone[[]palanquin/rtp.Ext,palanquin/rtp.Ext]. -/
def ir_slices_Clone_rtp_Ext_rtp_Ext : Fn' := ⟨8, [.tmp 2],
  .ops [⟨(some 2), none, .mv (.c V.nils)⟩]
  (.ops [⟨(some 3), none, .mv (.s 0)⟩,
    ⟨(some 4), none, .eq .sl false (.s 3) (.c V.nils)⟩]
  (.cond (.s 4)
  (.ops [⟨(some 2), none, .mv (.c V.nils)⟩]
   (.ret))
  (.ops [⟨(some 5), none, .slit ty_rtp_Ext 0 [(V.int .i64 0), V.nils] []⟩,
     ⟨(some 6), none, .mv (.s 0)⟩,
     ⟨(some 7), none, .append ty_rtp_Ext 2 32 (.s 5) (.s 6)⟩,
     ⟨(some 2), none, .mv (.s 7)⟩]
   (.ret))))⟩

noncomputable def f_slices_Clone_rtp_Ext_rtp_Ext (G : Sem') (t0 : V) : M Res :=
  (M.lift (eqr .sl false t0 V.nils)).bind fun t4 =>
  M.ite t4
    (M.pure (.ret [V.nils]))
    ((mslit ty_rtp_Ext 0 [(V.int .i64 0), V.nils] []).bind fun t5 =>
    (mappend ty_rtp_Ext 2 32 t5 t0).bind fun t7 =>
    M.pure (.ret [t7]))

theorem eq_slices_Clone_rtp_Ext_rtp_Ext (G : Sem') (t0 : V) : execK G ir_slices_Clone_rtp_Ext_rtp_Ext.rv ir_slices_Clone_rtp_Ext_rtp_Ext.body [] [] (params 0 [t0]) = f_slices_Clone_rtp_Ext_rtp_Ext G t0 := by kernel_rfl

theorem tb_slices_Clone_rtp_Ext_rtp_Ext : T fn_slices_Clone_rtp_Ext_rtp_Ext = some ir_slices_Clone_rtp_Ext_rtp_Ext := by kernel_rfl

theorem ok_slices_Clone_rtp_Ext_rtp_Ext {t0 : V} {H : Heap} {Q : V → Heap → Prop} (h : Ok (f_slices_Clone_rtp_Ext_rtp_Ext (sem T) t0) H fun r H' => ∃ L, r = .ret L ∧ Q (tupled L) H') : Ok (sem T fn_slices_Clone_rtp_Ext_rtp_Ext [t0]) H Q :=
  ok_sem tb_slices_Clone_rtp_Ext_rtp_Ext (Nat.le_of_ble_eq_true rfl) (eq_slices_Clone_rtp_Ext_rtp_Ext (sem T) t0) h

/-- (*palanquin/ring.Ring).Add. -/
def ir_ring_Ring_Add : Fn' := ⟨50, [],
  .ops [⟨(some 7), none, .mv (.s 0)⟩,
    ⟨(some 8), none, .mv (.s 1)⟩,
    ⟨(some 9), none, .call fn_ring_Ring_at [(.s 7), (.s 8)]⟩,
    ⟨(some 6), none, .mv (.s 9)⟩]
  (.ops [⟨(some 10), none, .mv (.s 6)⟩,
    ⟨(some 11), none, .bin .geq (.s 10) (.c (V.int .i64 0))⟩]
  (.condJ (.s 11)
  (.ops [⟨(some 12), none, .mv (.s 0)⟩,
     ⟨(some 13), none, .mv (.s 0)⟩,
     ⟨(some 14), none, .nilck (.s 13)⟩,
     ⟨(some 15), none, .faddr 0 (.s 14)⟩,
     ⟨(some 16), none, .load none (.s 15)⟩,
     ⟨(some 17), none, .mv (.s 6)⟩,
     ⟨(some 18), none, .mv (.s 6)⟩,
     ⟨(some 19), none, .bin .add (.s 18) (.c (V.int .i64 1))⟩,
     ⟨(some 20), none, .call fn_slices_Delete_ring_entry_ring_entry [(.s 16), (.s 17), (.s 19)]⟩,
     ⟨(some 21), none, .nilck (.s 12)⟩,
     ⟨(some 22), none, .faddr 0 (.s 21)⟩,
     ⟨none, none, .store 1 (.s 22) (.s 20)⟩]
   (.done))
  (.done) [] [12, 13, 14, 15, 16, 17, 18, 19, 20, 21, 22]
  (.draw [⟨(some 23), none, .mv (.s 0)⟩,
    ⟨(some 24), none, .mv (.s 0)⟩,
    ⟨(some 25), none, .nilck (.s 24)⟩,
    ⟨(some 26), none, .faddr 0 (.s 25)⟩,
    ⟨(some 27), none, .load none (.s 26)⟩,
    ⟨(some 28), none, .mv (.s 1)⟩,
    ⟨(some 29), none, .mv (.s 2)⟩,
    ⟨(some 30), none, .call fn_bytes_Clone [(.s 29)]⟩,
    ⟨(some 31), none, .build [(V.int .u16 0), V.nils] [(0, 1, (.s 28)), (1, 1, (.s 30))]⟩,
    ⟨(some 32), none, .slit ty_ring_entry 1 [(V.int .u16 0), V.nils] [(0, 2, (.s 31))]⟩,
    ⟨(some 33), none, .append ty_ring_entry 2 32 (.s 27) (.s 32)⟩,
    ⟨(some 34), none, .nilck (.s 23)⟩,
    ⟨(some 35), none, .faddr 0 (.s 34)⟩,
    ⟨none, none, .store 1 (.s 35) (.s 33)⟩] [(4, 7)]
  (.ops [⟨(some 36), none, .mv (.s 0)⟩,
    ⟨(some 37), none, .nilck (.s 36)⟩,
    ⟨(some 38), none, .faddr 0 (.s 37)⟩,
    ⟨(some 39), none, .load none (.s 38)⟩,
    ⟨(some 40), none, .len (.s 39)⟩,
    ⟨(some 41), none, .bin .gtr (.s 40) (.c (V.int .i64 64))⟩]
  (.condJ (.s 41)
  (.ops [⟨(some 42), none, .mv (.s 0)⟩,
     ⟨(some 43), none, .mv (.s 0)⟩,
     ⟨(some 44), none, .nilck (.s 43)⟩,
     ⟨(some 45), none, .faddr 0 (.s 44)⟩,
     ⟨(some 46), none, .load none (.s 45)⟩,
     ⟨(some 47), none, .call fn_slices_Delete_ring_entry_ring_entry [(.s 46), (.c (V.int .i64 0)), (.c (V.int .i64 1))]⟩,
     ⟨(some 48), none, .nilck (.s 42)⟩,
     ⟨(some 49), none, .faddr 0 (.s 48)⟩,
     ⟨none, none, .store 1 (.s 49) (.s 47)⟩]
   (.done))
  (.done) [] [42, 43, 44, 45, 46, 47, 48, 49]
  (.ret))))))⟩

noncomputable def f_ring_Ring_Add (G : Sem') (t0 t1 t2 : V) : M Res :=
  (G fn_ring_Ring_at [t0, t1]).bind fun t9 =>
  (M.lift (Ax.bin .geq t9 (V.int .i64 0))).bind fun t11 =>
  M.join (M.ite t11
    ((M.lift (Ax.nilck t0)).bind fun t14 =>
    (M.lift (Ax.faddr 0 t14)).bind fun t15 =>
    (mload none t15).bind fun t16 =>
    (M.lift (Ax.bin .add t9 (V.int .i64 1))).bind fun t19 =>
    (G fn_slices_Delete_ring_entry_ring_entry [t16, t9, t19]).bind fun t20 =>
    (M.lift (Ax.nilck t0)).bind fun t21 =>
    (M.lift (Ax.faddr 0 t21)).bind fun t22 =>
    (mstore 1 t22 t20).bind fun _ =>
    M.pure (.nrm []))
    (M.pure (.nrm []))) fun _ =>
  (M.lift (Ax.nilck t0)).bind fun t25 =>
  (M.lift (Ax.faddr 0 t25)).bind fun t26 =>
  (mload none t26).bind fun t27 =>
  M.getH.bind fun h0 =>
  (G fn_bytes_Clone [t2]).bind fun t30 =>
  M.getH.bind fun h0' =>
  (M.unch t26 h0 h0').bind fun _ =>
  (M.lift (Ax.build [(V.int .u16 0), V.nils] [(0, 1, t1), (1, 1, t30)])).bind fun t31 =>
  (mslit ty_ring_entry 1 [(V.int .u16 0), V.nils] [(0, 2, t31)]).bind fun t32 =>
  (mappend ty_ring_entry 2 32 t27 t32).bind fun t33 =>
  (M.lift (Ax.nilck t0)).bind fun t34 =>
  (M.lift (Ax.faddr 0 t34)).bind fun t35 =>
  (mstore 1 t35 t33).bind fun _ =>
  (M.lift (Ax.nilck t0)).bind fun t37 =>
  (M.lift (Ax.faddr 0 t37)).bind fun t38 =>
  (mload none t38).bind fun t39 =>
  (M.lift (vlen t39)).bind fun t40 =>
  (M.lift (Ax.bin .gtr t40 (V.int .i64 64))).bind fun t41 =>
  M.join (M.ite t41
    ((M.lift (Ax.nilck t0)).bind fun t44 =>
    (M.lift (Ax.faddr 0 t44)).bind fun t45 =>
    (mload none t45).bind fun t46 =>
    (G fn_slices_Delete_ring_entry_ring_entry [t46, (V.int .i64 0), (V.int .i64 1)]).bind fun t47 =>
    (M.lift (Ax.nilck t0)).bind fun t48 =>
    (M.lift (Ax.faddr 0 t48)).bind fun t49 =>
    (mstore 1 t49 t47).bind fun _ =>
    M.pure (.nrm []))
    (M.pure (.nrm []))) fun _ =>
  M.pure (.ret [])

theorem eq_ring_Ring_Add (G : Sem') (t0 t1 t2 : V) : execK G ir_ring_Ring_Add.rv ir_ring_Ring_Add.body [] [] (params 0 [t0, t1, t2]) = f_ring_Ring_Add G t0 t1 t2 := by kernel_rfl

theorem tb_ring_Ring_Add : T fn_ring_Ring_Add = some ir_ring_Ring_Add := by kernel_rfl

theorem ok_ring_Ring_Add {t0 t1 t2 : V} {H : Heap} {Q : V → Heap → Prop} (h : Ok (f_ring_Ring_Add (sem T) t0 t1 t2) H fun r H' => ∃ L, r = .ret L ∧ Q (tupled L) H') : Ok (sem T fn_ring_Ring_Add [t0, t1, t2]) H Q :=
  ok_sem tb_ring_Ring_Add (Nat.le_of_ble_eq_true rfl) (eq_ring_Ring_Add (sem T) t0 t1 t2) h

/-- (*palanquin/ring.Ring).at. -/
def ir_ring_Ring_at : Fn' := ⟨11, [.tmp 4],
  .ops [⟨(some 3), none, .box ty_uint16 (.s 1)⟩,
    ⟨(some 4), none, .mv (.c (V.int .i64 0))⟩]
  (.ops [⟨(some 5), none, .mv (.s 0)⟩,
    ⟨(some 6), none, .nilck (.s 5)⟩,
    ⟨(some 7), none, .faddr 0 (.s 6)⟩,
    ⟨(some 8), none, .load none (.s 7)⟩,
    ⟨(some 9), none, .mkfn fn_ring_Ring_at_1 [(.s 3)]⟩,
    ⟨(some 10), none, .call fn_slices_IndexFunc_ring_entry_ring_entry [(.s 8), (.s 9)]⟩,
    ⟨(some 4), none, .mv (.s 10)⟩]
  (.ret))⟩

noncomputable def f_ring_Ring_at (G : Sem') (t0 t1 : V) : M Res :=
  (mbox ty_uint16 t1).bind fun t3 =>
  (M.lift (Ax.nilck t0)).bind fun t6 =>
  (M.lift (Ax.faddr 0 t6)).bind fun t7 =>
  (mload none t7).bind fun t8 =>
  (M.pure (.fn fn_ring_Ring_at_1 [t3])).bind fun t9 =>
  (G fn_slices_IndexFunc_ring_entry_ring_entry [t8, t9]).bind fun t10 =>
  M.pure (.ret [t10])

theorem eq_ring_Ring_at (G : Sem') (t0 t1 : V) : execK G ir_ring_Ring_at.rv ir_ring_Ring_at.body [] [] (params 0 [t0, t1]) = f_ring_Ring_at G t0 t1 := by kernel_rfl

theorem tb_ring_Ring_at : T fn_ring_Ring_at = some ir_ring_Ring_at := by kernel_rfl

theorem ok_ring_Ring_at {t0 t1 : V} {H : Heap} {Q : V → Heap → Prop} (h : Ok (f_ring_Ring_at (sem T) t0 t1) H fun r H' => ∃ L, r = .ret L ∧ Q (tupled L) H') : Ok (sem T fn_ring_Ring_at [t0, t1]) H Q :=
  ok_sem tb_ring_Ring_at (Nat.le_of_ble_eq_true rfl) (eq_ring_Ring_at (sem T) t0 t1) h

/-- (*palanquin/ring.Ring).at$1. -/
def ir_ring_Ring_at_1 : Fn' := ⟨8, [.tmp 3],
  .ops [⟨(some 2), none, .box ty_ring_entry (.s 0)⟩,
    ⟨(some 3), none, .mv (.c (V.bool false))⟩]
  (.ops [⟨(some 4), none, .faddr 0 (.s 2)⟩,
    ⟨(some 5), none, .load none (.s 4)⟩,
    ⟨(some 6), none, .load none (.s 1)⟩,
    ⟨(some 7), none, .bin .eql (.s 5) (.s 6)⟩,
    ⟨(some 3), none, .mv (.s 7)⟩]
  (.ret))⟩

noncomputable def f_ring_Ring_at_1 (G : Sem') (t0 t1 : V) : M Res :=
  (mbox ty_ring_entry t0).bind fun t2 =>
  (M.lift (Ax.faddr 0 t2)).bind fun t4 =>
  (mload none t4).bind fun t5 =>
  (mload none t1).bind fun t6 =>
  (M.lift (Ax.bin .eql t5 t6)).bind fun t7 =>
  M.pure (.ret [t7])

theorem eq_ring_Ring_at_1 (G : Sem') (t0 t1 : V) : execK G ir_ring_Ring_at_1.rv ir_ring_Ring_at_1.body [] [] (params 0 [t0, t1]) = f_ring_Ring_at_1 G t0 t1 := by kernel_rfl

theorem tb_ring_Ring_at_1 : T fn_ring_Ring_at_1 = some ir_ring_Ring_at_1 := by kernel_rfl

theorem ok_ring_Ring_at_1 {t0 t1 : V} {H : Heap} {Q : V → Heap → Prop} (h : Ok (f_ring_Ring_at_1 (sem T) t0 t1) H fun r H' => ∃ L, r = .ret L ∧ Q (tupled L) H') : Ok (sem T fn_ring_Ring_at_1 [t0, t1]) H Q :=
  ok_sem tb_ring_Ring_at_1 (Nat.le_of_ble_eq_true rfl) (eq_ring_Ring_at_1 (sem T) t0 t1) h

/-- slices.IndexFunc[[]palanquin/ring.entry,palanquin/ring.entry]. -/
def loop_slices_IndexFunc_ring_entry_ring_entry_0 : C :=
  .ops [⟨(some 9), none, .bin .lss (.s 8) (.s 7)⟩]
  (.cond (.s 9)
  (.blk 1
   (.ops [⟨(some 10), none, .mv (.s 8)⟩,
      ⟨(some 5), none, .mv (.s 10)⟩]
    (.ops [⟨(some 11), none, .mv (.s 1)⟩,
      ⟨(some 12), none, .mv (.s 0)⟩,
      ⟨(some 13), none, .mv (.s 5)⟩,
      ⟨(some 14), none, .iaddr none 2 (.s 12) (.s 13)⟩,
      ⟨(some 15), none, .load (some 2) (.s 14)⟩,
      ⟨(some 16), none, .callv (.s 11) [(.s 15)]⟩]
    (.cond (.s 16)
    (.ops [⟨(some 17), none, .mv (.s 5)⟩,
       ⟨(some 4), none, .mv (.s 17)⟩]
     (.ret))
    (.done)))) [] [10, 5, 11, 12, 13, 14, 15, 16, 17, 4]
   (.ops [⟨(some 18), none, .bin .add (.s 8) (.c (V.int .i64 1))⟩,
     ⟨(some 8), none, .mv (.s 18)⟩]
   (.done)))
  (.exit 0))

def ir_slices_IndexFunc_ring_entry_ring_entry : Fn' := ⟨19, [.tmp 4],
  .ops [⟨(some 4), none, .mv (.c (V.int .i64 0))⟩]
  (.ops [⟨(some 6), none, .mv (.s 0)⟩,
    ⟨(some 7), none, .len (.s 6)⟩,
    ⟨(some 8), none, .mv (.c (V.int .i64 0))⟩]
  (.blk 0
  (.loop loop_slices_IndexFunc_ring_entry_ring_entry_0 [8] [9, 10, 5, 11, 12, 13, 14, 15, 16, 17, 4, 18, 8]) [] [9, 10, 5, 11, 12, 13, 14, 15, 16, 17, 4, 18, 8]
  (.ops [⟨(some 4), none, .mv (.c (V.int .i64 (-1)))⟩]
  (.ret))))⟩

noncomputable def f_slices_IndexFunc_ring_entry_ring_entry_0 (G : Sem') (t7 t1 t0 : V) (L : List V) : M Res :=
  (M.lift (Ax.bin .lss (L.getD 0 .undef) t7)).bind fun t9 =>
  M.ite t9
    (M.blk 1 (
      (M.lift (Ax.iaddr none 2 t0 (L.getD 0 .undef))).bind fun t14 =>
      (mload (some 2) t14).bind fun t15 =>
      (callv G t1 [t15]).bind fun t16 =>
      M.ite t16
        (M.pure (.ret [(L.getD 0 .undef)]))
        (M.pure (.nrm []))) fun _ =>
    (M.lift (Ax.bin .add (L.getD 0 .undef) (V.int .i64 1))).bind fun t18 =>
    M.pure (.nrm [t18]))
    (M.pure (.ex 0 []))

noncomputable def f_slices_IndexFunc_ring_entry_ring_entry (G : Sem') (t0 t1 : V) : M Res :=
  (M.lift (vlen t0)).bind fun t7 =>
  M.blk 0 (
    M.iter (f_slices_IndexFunc_ring_entry_ring_entry_0 G t7 t1 t0) [(V.int .i64 0)]) fun _ =>
  M.pure (.ret [(V.int .i64 (-1))])

theorem eq_slices_IndexFunc_ring_entry_ring_entry (G : Sem') (t0 t1 : V) : execK G ir_slices_IndexFunc_ring_entry_ring_entry.rv ir_slices_IndexFunc_ring_entry_ring_entry.body [] [] (params 0 [t0, t1]) = f_slices_IndexFunc_ring_entry_ring_entry G t0 t1 := by kernel_rfl

theorem tb_slices_IndexFunc_ring_entry_ring_entry : T fn_slices_IndexFunc_ring_entry_ring_entry = some ir_slices_IndexFunc_ring_entry_ring_entry := by kernel_rfl

theorem ok_slices_IndexFunc_ring_entry_ring_entry {t0 t1 : V} {H : Heap} {Q : V → Heap → Prop} (h : Ok (f_slices_IndexFunc_ring_entry_ring_entry (sem T) t0 t1) H fun r H' => ∃ L, r = .ret L ∧ Q (tupled L) H') : Ok (sem T fn_slices_IndexFunc_ring_entry_ring_entry [t0, t1]) H Q :=
  ok_sem tb_slices_IndexFunc_ring_entry_ring_entry (Nat.le_of_ble_eq_true rfl) (eq_slices_IndexFunc_ring_entry_ring_entry (sem T) t0 t1) h

/-- slices.Delete[[]palanquin/ring.entry,palanquin/ring.entry]. -/
def ir_slices_Delete_ring_entry_ring_entry : Fn' := ⟨33, [.tmp 6],
  .ops [⟨(some 6), none, .mv (.c V.nils)⟩]
  (.ops [⟨(some 8), none, .mv (.s 0)⟩,
    ⟨(some 9), none, .mv (.s 1)⟩,
    ⟨(some 10), none, .mv (.s 2)⟩,
    ⟨(some 11), none, .mv (.s 0)⟩,
    ⟨(some 12), none, .len (.s 11)⟩,
    ⟨(some 13), none, .slice .sl 2 (.s 8) (some (.s 9)) (some (.s 10)) (some (.s 12))⟩]
  (.ops [⟨(some 14), none, .mv (.s 1)⟩,
    ⟨(some 15), none, .mv (.s 2)⟩,
    ⟨(some 16), none, .bin .eql (.s 14) (.s 15)⟩]
  (.cond (.s 16)
  (.ops [⟨(some 17), none, .mv (.s 0)⟩,
     ⟨(some 6), none, .mv (.s 17)⟩]
   (.ret))
  (.ops [⟨(some 18), none, .mv (.s 0)⟩,
     ⟨(some 19), none, .len (.s 18)⟩,
     ⟨(some 7), none, .mv (.s 19)⟩]
   (.draw [⟨(some 20), none, .mv (.s 0)⟩,
     ⟨(some 21), none, .mv (.s 1)⟩,
     ⟨(some 22), none, .slice .sl 2 (.s 20) none (some (.s 21)) none⟩,
     ⟨(some 23), none, .mv (.s 0)⟩,
     ⟨(some 24), none, .mv (.s 2)⟩,
     ⟨(some 25), none, .slice .sl 2 (.s 23) (some (.s 24)) none none⟩,
     ⟨(some 26), none, .append ty_ring_entry 2 32 (.s 22) (.s 25)⟩,
     ⟨(some 0), none, .mv (.s 26)⟩] []
   (.ops [⟨(some 27), none, .mv (.s 0)⟩,
     ⟨(some 28), none, .mv (.s 0)⟩,
     ⟨(some 29), none, .len (.s 28)⟩,
     ⟨(some 30), none, .mv (.s 7)⟩,
     ⟨(some 31), none, .slice2 2 (.s 27) (.s 29) (.s 30)⟩,
     ⟨none, none, .clear [(V.int .u16 0), V.nils] (.s 31)⟩]
   (.ops [⟨(some 32), none, .mv (.s 0)⟩,
     ⟨(some 6), none, .mv (.s 32)⟩]
   (.ret))))))))⟩

noncomputable def f_slices_Delete_ring_entry_ring_entry (G : Sem') (t0 t1 t2 : V) : M Res :=
  (M.lift (vlen t0)).bind fun t12 =>
  (M.lift (vslice .sl 2 t0 (some t1) (some t2) (some t12))).bind fun t13 =>
  (M.lift (Ax.bin .eql t1 t2)).bind fun t16 =>
  M.ite t16
    (M.pure (.ret [t0]))
    ((M.lift (vlen t0)).bind fun t19 =>
    (M.lift (vslice .sl 2 t0 none (some t1) none)).bind fun t22 =>
    (M.lift (vslice .sl 2 t0 (some t2) none none)).bind fun t25 =>
    (mappend ty_ring_entry 2 32 t22 t25).bind fun t26 =>
    (M.lift (vlen t26)).bind fun t29 =>
    (mslice2 2 t26 t29 t19).bind fun t31 =>
    (mclear [(V.int .u16 0), V.nils] t31).bind fun _ =>
    M.pure (.ret [t26]))

theorem eq_slices_Delete_ring_entry_ring_entry (G : Sem') (t0 t1 t2 : V) : execK G ir_slices_Delete_ring_entry_ring_entry.rv ir_slices_Delete_ring_entry_ring_entry.body [] [] (params 0 [t0, t1, t2]) = f_slices_Delete_ring_entry_ring_entry G t0 t1 t2 := by kernel_rfl

theorem tb_slices_Delete_ring_entry_ring_entry : T fn_slices_Delete_ring_entry_ring_entry = some ir_slices_Delete_ring_entry_ring_entry := by kernel_rfl

theorem ok_slices_Delete_ring_entry_ring_entry {t0 t1 t2 : V} {H : Heap} {Q : V → Heap → Prop} (h : Ok (f_slices_Delete_ring_entry_ring_entry (sem T) t0 t1 t2) H fun r H' => ∃ L, r = .ret L ∧ Q (tupled L) H') : Ok (sem T fn_slices_Delete_ring_entry_ring_entry [t0, t1, t2]) H Q :=
  ok_sem tb_slices_Delete_ring_entry_ring_entry (Nat.le_of_ble_eq_true rfl) (eq_slices_Delete_ring_entry_ring_entry (sem T) t0 t1 t2) h

/-- (*palanquin/lane.Lane).SSRC. -/
def ir_lane_Lane_SSRC : Fn' := ⟨7, [.tmp 2],
  .ops [⟨(some 2), none, .mv (.c (V.int .u32 0))⟩]
  (.ops [⟨(some 3), none, .mv (.s 0)⟩,
    ⟨(some 4), none, .nilck (.s 3)⟩,
    ⟨(some 5), none, .faddr 0 (.s 4)⟩,
    ⟨(some 6), none, .load none (.s 5)⟩,
    ⟨(some 2), none, .mv (.s 6)⟩]
  (.ret))⟩

noncomputable def f_lane_Lane_SSRC (G : Sem') (t0 : V) : M Res :=
  (M.lift (Ax.nilck t0)).bind fun t4 =>
  (M.lift (Ax.faddr 0 t4)).bind fun t5 =>
  (mload none t5).bind fun t6 =>
  M.pure (.ret [t6])

theorem eq_lane_Lane_SSRC (G : Sem') (t0 : V) : execK G ir_lane_Lane_SSRC.rv ir_lane_Lane_SSRC.body [] [] (params 0 [t0]) = f_lane_Lane_SSRC G t0 := by kernel_rfl

theorem tb_lane_Lane_SSRC : T fn_lane_Lane_SSRC = some ir_lane_Lane_SSRC := by kernel_rfl

theorem ok_lane_Lane_SSRC {t0 : V} {H : Heap} {Q : V → Heap → Prop} (h : Ok (f_lane_Lane_SSRC (sem T) t0) H fun r H' => ∃ L, r = .ret L ∧ Q (tupled L) H') : Ok (sem T fn_lane_Lane_SSRC [t0]) H Q :=
  ok_sem tb_lane_Lane_SSRC (Nat.le_of_ble_eq_true rfl) (eq_lane_Lane_SSRC (sem T) t0) h

/-- (*palanquin/lane.Lane).Ask. -/
def ir_lane_Lane_Ask : Fn' := ⟨21, [.tmp 4],
  .ops [⟨(some 4), none, .mv (.c (V.int .i64 0))⟩]
  (.ops [⟨(some 8), none, .mv (.s 0)⟩,
    ⟨(some 9), none, .nilck (.s 8)⟩,
    ⟨(some 10), none, .faddr 3 (.s 9)⟩,
    ⟨(some 11), none, .load (some 3) (.s 10)⟩,
    ⟨(some 12), none, .mv (.s 1)⟩,
    ⟨(some 13), none, .call fn_cast_Ask [(.s 11), (.s 12)]⟩,
    ⟨(some 7), none, .mv (.s 13)⟩,
    ⟨(some 14), none, .ext 0 (.s 7)⟩,
    ⟨(some 15), none, .ext 1 (.s 7)⟩,
    ⟨(some 5), none, .box ty_cast_Cast (.c (V.agg [(V.bool false), (V.int .i64 0), (V.int .i64 0)]))⟩,
    ⟨none, none, .store 3 (.s 5) (.s 14)⟩,
    ⟨(some 6), none, .mv (.s 15)⟩]
  (.ops [⟨(some 16), none, .mv (.s 0)⟩,
    ⟨(some 17), none, .load (some 3) (.s 5)⟩,
    ⟨(some 18), none, .nilck (.s 16)⟩,
    ⟨(some 19), none, .faddr 3 (.s 18)⟩,
    ⟨none, none, .store 3 (.s 19) (.s 17)⟩]
  (.ops [⟨(some 20), none, .mv (.s 6)⟩,
    ⟨(some 4), none, .mv (.s 20)⟩]
  (.ret))))⟩

noncomputable def f_lane_Lane_Ask (G : Sem') (t0 t1 : V) : M Res :=
  (M.lift (Ax.nilck t0)).bind fun t9 =>
  (M.lift (Ax.faddr 3 t9)).bind fun t10 =>
  (mload (some 3) t10).bind fun t11 =>
  (G fn_cast_Ask [t11, t1]).bind fun t13 =>
  (M.lift (Ax.ext 0 t13)).bind fun t14 =>
  (M.lift (Ax.ext 1 t13)).bind fun t15 =>
  (mbox ty_cast_Cast (V.agg [(V.bool false), (V.int .i64 0), (V.int .i64 0)])).bind fun t5 =>
  (mstore 3 t5 t14).bind fun _ =>
  (mload (some 3) t5).bind fun t17 =>
  (M.lift (Ax.nilck t0)).bind fun t18 =>
  (M.lift (Ax.faddr 3 t18)).bind fun t19 =>
  (mstore 3 t19 t17).bind fun _ =>
  M.pure (.ret [t15])

theorem eq_lane_Lane_Ask (G : Sem') (t0 t1 : V) : execK G ir_lane_Lane_Ask.rv ir_lane_Lane_Ask.body [] [] (params 0 [t0, t1]) = f_lane_Lane_Ask G t0 t1 := by kernel_rfl

theorem tb_lane_Lane_Ask : T fn_lane_Lane_Ask = some ir_lane_Lane_Ask := by kernel_rfl

theorem ok_lane_Lane_Ask {t0 t1 : V} {H : Heap} {Q : V → Heap → Prop} (h : Ok (f_lane_Lane_Ask (sem T) t0 t1) H fun r H' => ∃ L, r = .ret L ∧ Q (tupled L) H') : Ok (sem T fn_lane_Lane_Ask [t0, t1]) H Q :=
  ok_sem tb_lane_Lane_Ask (Nat.le_of_ble_eq_true rfl) (eq_lane_Lane_Ask (sem T) t0 t1) h

/-- palanquin/cast.Ask. -/
def ir_cast_Ask : Fn' := ⟨18, [.cell 4 (some 3), .tmp 5],
  .ops [⟨(some 2), none, .box ty_cast_Cast (.s 0)⟩,
    ⟨(some 4), none, .box ty_cast_Cast (.c (V.agg [(V.bool false), (V.int .i64 0), (V.int .i64 0)]))⟩,
    ⟨(some 5), none, .mv (.c (V.int .i64 0))⟩]
  (.ops [⟨(some 6), none, .load (some 3) (.s 2)⟩,
    ⟨(some 7), none, .call fn_cast_Good [(.s 6)]⟩,
    ⟨(some 8), none, .un .not (.s 7)⟩,
    ⟨(some 9), none, .mv (.s 8)⟩,
    ⟨(some 10), (some (9, false)), .mv (.s 1)⟩,
    ⟨(some 11), (some (9, false)), .call fn_cast_source [(.s 10)]⟩,
    ⟨(some 12), (some (9, false)), .un .not (.s 11)⟩,
    ⟨(some 13), none, .pick (.s 9) (.c (V.bool true)) (.s 12)⟩]
  (.cond (.s 13)
  (.ops [⟨(some 14), none, .load (some 3) (.s 2)⟩,
     ⟨none, none, .store 3 (.s 4) (.s 14)⟩,
     ⟨(some 5), none, .mv (.c (V.int .i64 1))⟩]
   (.ret))
  (.ops [⟨(some 15), none, .mv (.s 1)⟩,
     ⟨(some 16), none, .faddr 2 (.s 2)⟩,
     ⟨none, none, .store 1 (.s 16) (.s 15)⟩]
   (.ops [⟨(some 17), none, .load (some 3) (.s 2)⟩,
     ⟨none, none, .store 3 (.s 4) (.s 17)⟩,
     ⟨(some 5), none, .mv (.c (V.int .i64 0))⟩]
   (.ret)))))⟩

noncomputable def f_cast_Ask (G : Sem') (t0 t1 : V) : M Res :=
  (mbox ty_cast_Cast t0).bind fun t2 =>
  (mbox ty_cast_Cast (V.agg [(V.bool false), (V.int .i64 0), (V.int .i64 0)])).bind fun t4 =>
  (mload (some 3) t2).bind fun t6 =>
  (G fn_cast_Good [t6]).bind fun t7 =>
  (M.lift (Ax.un .not t7)).bind fun t8 =>
  (guarded [(0, t8)] (some (0, false)) (M.pure t1)).bind fun t10 =>
  (guarded [(0, t8)] (some (0, false)) (G fn_cast_source [t10])).bind fun t11 =>
  (guarded [(0, t8)] (some (0, false)) (M.lift (Ax.un .not t11))).bind fun t12 =>
  (M.lift (Ax.pick t8 (V.bool true) t12)).bind fun t13 =>
  M.ite t13
    ((mload (some 3) t2).bind fun t14 =>
    (mstore 3 t4 t14).bind fun _ =>
    (mload (some 3) t4).bind fun r0 =>
    M.pure (.ret [r0, (V.int .i64 1)]))
    ((M.lift (Ax.faddr 2 t2)).bind fun t16 =>
    (mstore 1 t16 t1).bind fun _ =>
    (mload (some 3) t2).bind fun t17 =>
    (mstore 3 t4 t17).bind fun _ =>
    (mload (some 3) t4).bind fun r0 =>
    M.pure (.ret [r0, (V.int .i64 0)]))

theorem eq_cast_Ask (G : Sem') (t0 t1 : V) : execK G ir_cast_Ask.rv ir_cast_Ask.body [] [] (params 0 [t0, t1]) = f_cast_Ask G t0 t1 := by kernel_rfl

theorem tb_cast_Ask : T fn_cast_Ask = some ir_cast_Ask := by kernel_rfl

theorem ok_cast_Ask {t0 t1 : V} {H : Heap} {Q : V → Heap → Prop} (h : Ok (f_cast_Ask (sem T) t0 t1) H fun r H' => ∃ L, r = .ret L ∧ Q (tupled L) H') : Ok (sem T fn_cast_Ask [t0, t1]) H Q :=
  ok_sem tb_cast_Ask (Nat.le_of_ble_eq_true rfl) (eq_cast_Ask (sem T) t0 t1) h

/-- (*palanquin/lane.Lane).Limit. -/
def ir_lane_Lane_Limit : Fn' := ⟨29, [.tmp 6],
  .ops [⟨(some 6), none, .mv (.c (V.int .i64 0))⟩]
  (.ops [⟨(some 7), none, .mv (.s 1)⟩,
    ⟨(some 8), none, .bin .lss (.s 7) (.c (V.int .i64 0))⟩,
    ⟨(some 9), none, .mv (.s 8)⟩,
    ⟨(some 10), (some (9, false)), .mv (.s 1)⟩,
    ⟨(some 11), (some (9, false)), .bin .gtr (.s 10) (.c (V.int .i64 3))⟩,
    ⟨(some 12), none, .pick (.s 9) (.c (V.bool true)) (.s 11)⟩,
    ⟨(some 13), none, .mv (.s 12)⟩,
    ⟨(some 14), (some (13, false)), .mv (.s 2)⟩,
    ⟨(some 15), (some (13, false)), .bin .lss (.s 14) (.c (V.int .i64 0))⟩,
    ⟨(some 16), none, .pick (.s 13) (.c (V.bool true)) (.s 15)⟩,
    ⟨(some 17), none, .mv (.s 16)⟩,
    ⟨(some 18), (some (17, false)), .mv (.s 2)⟩,
    ⟨(some 19), (some (17, false)), .bin .gtr (.s 18) (.c (V.int .i64 7))⟩,
    ⟨(some 20), none, .pick (.s 17) (.c (V.bool true)) (.s 19)⟩]
  (.cond (.s 20)
  (.ops [⟨(some 6), none, .mv (.c (V.int .i64 1))⟩]
   (.ret))
  (.ops [⟨(some 21), none, .mv (.s 0)⟩,
     ⟨(some 22), none, .mv (.s 0)⟩,
     ⟨(some 23), none, .mv (.s 1)⟩,
     ⟨(some 24), none, .mv (.s 2)⟩,
     ⟨(some 25), none, .nilck (.s 21)⟩,
     ⟨(some 26), none, .faddr 1 (.s 25)⟩,
     ⟨none, none, .store 1 (.s 26) (.s 23)⟩,
     ⟨(some 27), none, .nilck (.s 22)⟩,
     ⟨(some 28), none, .faddr 2 (.s 27)⟩,
     ⟨none, none, .store 1 (.s 28) (.s 24)⟩]
   (.ops [⟨(some 6), none, .mv (.c (V.int .i64 0))⟩]
   (.ret)))))⟩

noncomputable def f_lane_Lane_Limit (G : Sem') (t0 t1 t2 : V) : M Res :=
  (M.lift (Ax.bin .lss t1 (V.int .i64 0))).bind fun t8 =>
  (guarded [(0, t8)] (some (0, false)) (M.pure t1)).bind fun t10 =>
  (guarded [(0, t8)] (some (0, false)) (M.lift (Ax.bin .gtr t10 (V.int .i64 3)))).bind fun t11 =>
  (M.lift (Ax.pick t8 (V.bool true) t11)).bind fun t12 =>
  (guarded [(0, t12)] (some (0, false)) (M.pure t2)).bind fun t14 =>
  (guarded [(0, t12)] (some (0, false)) (M.lift (Ax.bin .lss t14 (V.int .i64 0)))).bind fun t15 =>
  (M.lift (Ax.pick t12 (V.bool true) t15)).bind fun t16 =>
  (guarded [(0, t16)] (some (0, false)) (M.pure t2)).bind fun t18 =>
  (guarded [(0, t16)] (some (0, false)) (M.lift (Ax.bin .gtr t18 (V.int .i64 7)))).bind fun t19 =>
  (M.lift (Ax.pick t16 (V.bool true) t19)).bind fun t20 =>
  M.ite t20
    (M.pure (.ret [(V.int .i64 1)]))
    ((M.lift (Ax.nilck t0)).bind fun t25 =>
    (M.lift (Ax.faddr 1 t25)).bind fun t26 =>
    (mstore 1 t26 t1).bind fun _ =>
    (M.lift (Ax.nilck t0)).bind fun t27 =>
    (M.lift (Ax.faddr 2 t27)).bind fun t28 =>
    (mstore 1 t28 t2).bind fun _ =>
    M.pure (.ret [(V.int .i64 0)]))

theorem eq_lane_Lane_Limit (G : Sem') (t0 t1 t2 : V) : execK G ir_lane_Lane_Limit.rv ir_lane_Lane_Limit.body [] [] (params 0 [t0, t1, t2]) = f_lane_Lane_Limit G t0 t1 t2 := by kernel_rfl

theorem tb_lane_Lane_Limit : T fn_lane_Lane_Limit = some ir_lane_Lane_Limit := by kernel_rfl

theorem ok_lane_Lane_Limit {t0 t1 t2 : V} {H : Heap} {Q : V → Heap → Prop} (h : Ok (f_lane_Lane_Limit (sem T) t0 t1 t2) H fun r H' => ∃ L, r = .ret L ∧ Q (tupled L) H') : Ok (sem T fn_lane_Lane_Limit [t0, t1, t2]) H Q :=
  ok_sem tb_lane_Lane_Limit (Nat.le_of_ble_eq_true rfl) (eq_lane_Lane_Limit (sem T) t0 t1 t2) h

/-- (*palanquin/lane.Lane).Lacks. -/
def ir_lane_Lane_Lacks : Fn' := ⟨11, [.tmp 2, .tmp 3],
  .ops [⟨(some 2), none, .mv (.c (V.int .i64 0))⟩,
    ⟨(some 3), none, .mv (.c (V.bool false))⟩]
  (.ops [⟨(some 4), none, .mv (.s 0)⟩,
    ⟨(some 5), none, .nilck (.s 4)⟩,
    ⟨(some 6), none, .faddr 3 (.s 5)⟩,
    ⟨(some 7), none, .load (some 3) (.s 6)⟩,
    ⟨(some 8), none, .call fn_cast_Lacks [(.s 7)]⟩,
    ⟨(some 9), none, .ext 0 (.s 8)⟩,
    ⟨(some 10), none, .ext 1 (.s 8)⟩,
    ⟨(some 2), none, .mv (.s 9)⟩,
    ⟨(some 3), none, .mv (.s 10)⟩]
  (.ret))⟩

noncomputable def f_lane_Lane_Lacks (G : Sem') (t0 : V) : M Res :=
  (M.lift (Ax.nilck t0)).bind fun t5 =>
  (M.lift (Ax.faddr 3 t5)).bind fun t6 =>
  (mload (some 3) t6).bind fun t7 =>
  (G fn_cast_Lacks [t7]).bind fun t8 =>
  (M.lift (Ax.ext 0 t8)).bind fun t9 =>
  (M.lift (Ax.ext 1 t8)).bind fun t10 =>
  M.pure (.ret [t9, t10])

theorem eq_lane_Lane_Lacks (G : Sem') (t0 : V) : execK G ir_lane_Lane_Lacks.rv ir_lane_Lane_Lacks.body [] [] (params 0 [t0]) = f_lane_Lane_Lacks G t0 := by kernel_rfl

theorem tb_lane_Lane_Lacks : T fn_lane_Lane_Lacks = some ir_lane_Lane_Lacks := by kernel_rfl

theorem ok_lane_Lane_Lacks {t0 : V} {H : Heap} {Q : V → Heap → Prop} (h : Ok (f_lane_Lane_Lacks (sem T) t0) H fun r H' => ∃ L, r = .ret L ∧ Q (tupled L) H') : Ok (sem T fn_lane_Lane_Lacks [t0]) H Q :=
  ok_sem tb_lane_Lane_Lacks (Nat.le_of_ble_eq_true rfl) (eq_lane_Lane_Lacks (sem T) t0) h

/-- palanquin/cast.Lacks. -/
def ir_cast_Lacks : Fn' := ⟨15, [.tmp 2, .tmp 3],
  .ops [⟨(some 1), none, .box ty_cast_Cast (.s 0)⟩,
    ⟨(some 2), none, .mv (.c (V.int .i64 0))⟩,
    ⟨(some 3), none, .mv (.c (V.bool false))⟩]
  (.ops [⟨(some 4), none, .load (some 3) (.s 1)⟩,
    ⟨(some 5), none, .call fn_cast_Good [(.s 4)]⟩,
    ⟨(some 6), none, .un .not (.s 5)⟩,
    ⟨(some 7), none, .mv (.s 6)⟩,
    ⟨(some 8), (some (7, false)), .load (some 3) (.s 1)⟩,
    ⟨(some 9), (some (7, false)), .faddr 2 (.s 1)⟩,
    ⟨(some 10), (some (7, false)), .load none (.s 9)⟩,
    ⟨(some 11), (some (7, false)), .call fn_cast_Cast_runs [(.s 8), (.s 10)]⟩,
    ⟨(some 12), none, .pick (.s 7) (.c (V.bool true)) (.s 11)⟩]
  (.cond (.s 12)
  (.ops [⟨(some 2), none, .mv (.c (V.int .i64 0))⟩,
     ⟨(some 3), none, .mv (.c (V.bool false))⟩]
   (.ret))
  (.ops [⟨(some 13), none, .faddr 2 (.s 1)⟩,
     ⟨(some 14), none, .load none (.s 13)⟩,
     ⟨(some 2), none, .mv (.s 14)⟩,
     ⟨(some 3), none, .mv (.c (V.bool true))⟩]
   (.ret))))⟩

noncomputable def f_cast_Lacks (G : Sem') (t0 : V) : M Res :=
  (mbox ty_cast_Cast t0).bind fun t1 =>
  (mload (some 3) t1).bind fun t4 =>
  (G fn_cast_Good [t4]).bind fun t5 =>
  (M.lift (Ax.un .not t5)).bind fun t6 =>
  (guarded [(0, t6)] (some (0, false)) (mload (some 3) t1)).bind fun t8 =>
  (guarded [(0, t6)] (some (0, false)) (M.lift (Ax.faddr 2 t1))).bind fun t9 =>
  (guarded [(0, t6)] (some (0, false)) (mload none t9)).bind fun t10 =>
  (guarded [(0, t6)] (some (0, false)) (G fn_cast_Cast_runs [t8, t10])).bind fun t11 =>
  (M.lift (Ax.pick t6 (V.bool true) t11)).bind fun t12 =>
  M.ite t12
    (M.pure (.ret [(V.int .i64 0), (V.bool false)]))
    ((M.lift (Ax.faddr 2 t1)).bind fun t13 =>
    (mload none t13).bind fun t14 =>
    M.pure (.ret [t14, (V.bool true)]))

theorem eq_cast_Lacks (G : Sem') (t0 : V) : execK G ir_cast_Lacks.rv ir_cast_Lacks.body [] [] (params 0 [t0]) = f_cast_Lacks G t0 := by kernel_rfl

theorem tb_cast_Lacks : T fn_cast_Lacks = some ir_cast_Lacks := by kernel_rfl

theorem ok_cast_Lacks {t0 : V} {H : Heap} {Q : V → Heap → Prop} (h : Ok (f_cast_Lacks (sem T) t0) H fun r H' => ∃ L, r = .ret L ∧ Q (tupled L) H') : Ok (sem T fn_cast_Lacks [t0]) H Q :=
  ok_sem tb_cast_Lacks (Nat.le_of_ble_eq_true rfl) (eq_cast_Lacks (sem T) t0) h

/-- (*palanquin/lane.Lane).Runs. -/
def ir_lane_Lane_Runs : Fn' := ⟨14, [.tmp 2, .tmp 3],
  .ops [⟨(some 2), none, .mv (.c (V.int .i64 0))⟩,
    ⟨(some 3), none, .mv (.c (V.bool false))⟩]
  (.draw [⟨(some 4), none, .mv (.s 0)⟩,
    ⟨(some 5), none, .nilck (.s 4)⟩,
    ⟨(some 6), none, .faddr 3 (.s 5)⟩,
    ⟨(some 7), none, .faddr 1 (.s 6)⟩,
    ⟨(some 8), none, .load none (.s 7)⟩,
    ⟨(some 9), none, .mv (.s 0)⟩,
    ⟨(some 10), none, .nilck (.s 9)⟩,
    ⟨(some 11), none, .faddr 3 (.s 10)⟩,
    ⟨(some 12), none, .faddr 0 (.s 11)⟩,
    ⟨(some 13), none, .load none (.s 12)⟩,
    ⟨(some 2), none, .mv (.s 8)⟩,
    ⟨(some 3), none, .mv (.s 13)⟩] []
  (.ret))⟩

noncomputable def f_lane_Lane_Runs (G : Sem') (t0 : V) : M Res :=
  (M.lift (Ax.nilck t0)).bind fun t5 =>
  (M.lift (Ax.faddr 3 t5)).bind fun t6 =>
  (M.lift (Ax.faddr 1 t6)).bind fun t7 =>
  (mload none t7).bind fun t8 =>
  (M.lift (Ax.nilck t0)).bind fun t10 =>
  (M.lift (Ax.faddr 3 t10)).bind fun t11 =>
  (M.lift (Ax.faddr 0 t11)).bind fun t12 =>
  (mload none t12).bind fun t13 =>
  M.pure (.ret [t8, t13])

theorem eq_lane_Lane_Runs (G : Sem') (t0 : V) : execK G ir_lane_Lane_Runs.rv ir_lane_Lane_Runs.body [] [] (params 0 [t0]) = f_lane_Lane_Runs G t0 := by kernel_rfl

theorem tb_lane_Lane_Runs : T fn_lane_Lane_Runs = some ir_lane_Lane_Runs := by kernel_rfl

theorem ok_lane_Lane_Runs {t0 : V} {H : Heap} {Q : V → Heap → Prop} (h : Ok (f_lane_Lane_Runs (sem T) t0) H fun r H' => ∃ L, r = .ret L ∧ Q (tupled L) H') : Ok (sem T fn_lane_Lane_Runs [t0]) H Q :=
  ok_sem tb_lane_Lane_Runs (Nat.le_of_ble_eq_true rfl) (eq_lane_Lane_Runs (sem T) t0) h

/-- palanquin/rtp.Parse. -/
def loop_rtp_Parse_0 : C :=
  .ops [⟨(some 60), none, .mv (.s 6)⟩,
    ⟨(some 61), none, .mv (.s 5)⟩,
    ⟨(some 62), none, .bin .lss (.s 60) (.s 61)⟩]
  (.cond (.s 62)
  (.blk 2
   (.draw [⟨(some 65), none, .faddr 5 (.s 4)⟩,
      ⟨(some 66), none, .load none (.s 65)⟩,
      ⟨(some 67), none, .mv (.s 0)⟩,
      ⟨(some 68), none, .mv (.s 6)⟩,
      ⟨(some 69), none, .mv (.s 6)⟩,
      ⟨(some 70), none, .bin .add (.s 69) (.c (V.int .i64 4))⟩,
      ⟨(some 71), none, .slice .sl 1 (.s 67) (some (.s 68)) (some (.s 70)) none⟩,
      ⟨(some 72), none, .call fn_rtp_get [(.s 71)]⟩,
      ⟨(some 73), none, .slit ty_uint32 1 [(V.int .u32 0)] [(0, 1, (.s 72))]⟩,
      ⟨(some 74), none, .append ty_uint32 1 4 (.s 66) (.s 73)⟩,
      ⟨(some 75), none, .faddr 5 (.s 4)⟩,
      ⟨none, none, .store 1 (.s 75) (.s 74)⟩] [(1, 7)]
    (.done)) [] [65, 66, 67, 68, 69, 70, 71, 72, 73, 74, 75]
   (.ops [⟨(some 63), none, .mv (.s 6)⟩,
     ⟨(some 64), none, .bin .add (.s 63) (.c (V.int .i64 4))⟩,
     ⟨(some 6), none, .mv (.s 64)⟩]
   (.done)))
  (.exit 1))

def ir_rtp_Parse : Fn' := ⟨132, [.cell 2 (some 10), .tmp 3],
  .ops [⟨(some 2), none, .box ty_rtp_Packet (.c (V.agg [(V.bool false), (V.int .i64 0), (V.int .u16 0), (V.int .u32 0), (V.int .u32 0), V.nils, (V.int .i64 0), V.nils, (V.int .i64 0), V.nils]))⟩,
    ⟨(some 3), none, .mv (.c (V.int .i64 0))⟩]
  (.blk 0
  (.ops [⟨(some 11), none, .mv (.s 0)⟩,
     ⟨(some 12), none, .len (.s 11)⟩,
     ⟨(some 13), none, .bin .gtr (.s 12) (.c (V.int .i64 1200))⟩,
     ⟨(some 10), none, .mv (.s 13)⟩]
   (.cond (.s 10)
   (.ops [⟨(some 14), none, .build [(V.bool false), (V.int .i64 0), (V.int .u16 0), (V.int .u32 0), (V.int .u32 0), V.nils, (V.int .i64 0), V.nils, (V.int .i64 0), V.nils] []⟩,
      ⟨none, none, .store 10 (.s 2) (.s 14)⟩,
      ⟨(some 3), none, .mv (.c (V.int .i64 4))⟩]
    (.ret))
   (.ops [⟨(some 16), none, .mv (.s 0)⟩,
      ⟨(some 17), none, .len (.s 16)⟩,
      ⟨(some 18), none, .bin .lss (.s 17) (.c (V.int .i64 12))⟩,
      ⟨(some 15), none, .mv (.s 18)⟩]
    (.cond (.s 15)
    (.ops [⟨(some 19), none, .build [(V.bool false), (V.int .i64 0), (V.int .u16 0), (V.int .u32 0), (V.int .u32 0), V.nils, (V.int .i64 0), V.nils, (V.int .i64 0), V.nils] []⟩,
       ⟨none, none, .store 10 (.s 2) (.s 19)⟩,
       ⟨(some 3), none, .mv (.c (V.int .i64 3))⟩]
     (.ret))
    (.ops [⟨(some 21), none, .mv (.s 0)⟩,
       ⟨(some 22), none, .iaddr none 1 (.s 21) (.c (V.int .i64 0))⟩,
       ⟨(some 23), none, .load none (.s 22)⟩,
       ⟨(some 24), none, .bin .shr (.s 23) (.c (V.int .u64 6))⟩,
       ⟨(some 25), none, .bin .neq (.s 24) (.c (V.int .u8 2))⟩,
       ⟨(some 20), none, .mv (.s 25)⟩]
     (.cond (.s 20)
     (.ops [⟨(some 26), none, .build [(V.bool false), (V.int .i64 0), (V.int .u16 0), (V.int .u32 0), (V.int .u32 0), V.nils, (V.int .i64 0), V.nils, (V.int .i64 0), V.nils] []⟩,
        ⟨none, none, .store 10 (.s 2) (.s 26)⟩,
        ⟨(some 3), none, .mv (.c (V.int .i64 2))⟩]
      (.ret))
     (.done))))))) [] [11, 12, 13, 10, 14, 3, 16, 17, 18, 15, 19, 3, 21, 22, 23, 24, 25, 20, 26, 3]
  (.draw [⟨(some 27), none, .mv (.s 0)⟩,
    ⟨(some 28), none, .iaddr none 1 (.s 27) (.c (V.int .i64 1))⟩,
    ⟨(some 29), none, .load none (.s 28)⟩,
    ⟨(some 30), none, .bin .and (.s 29) (.c (V.int .u8 128))⟩,
    ⟨(some 31), none, .bin .neq (.s 30) (.c (V.int .u8 0))⟩,
    ⟨(some 32), none, .mv (.s 0)⟩,
    ⟨(some 33), none, .iaddr none 1 (.s 32) (.c (V.int .i64 1))⟩,
    ⟨(some 34), none, .load none (.s 33)⟩,
    ⟨(some 35), none, .bin .andNot (.s 34) (.c (V.int .u8 128))⟩,
    ⟨(some 36), none, .cint .i64 (.s 35)⟩,
    ⟨(some 37), none, .mv (.s 0)⟩,
    ⟨(some 38), none, .slice .sl 1 (.s 37) (some (.c (V.int .i64 2))) (some (.c (V.int .i64 4))) none⟩,
    ⟨(some 41), none, .mv (.s 0)⟩,
    ⟨(some 42), none, .slice .sl 1 (.s 41) (some (.c (V.int .i64 4))) (some (.c (V.int .i64 8))) none⟩,
    ⟨(some 44), none, .mv (.s 0)⟩,
    ⟨(some 45), none, .slice .sl 1 (.s 44) (some (.c (V.int .i64 8))) (some (.c (V.int .i64 12))) none⟩,
    ⟨(some 39), none, .call fn_rtp_get [(.s 38)]⟩,
    ⟨(some 43), none, .call fn_rtp_get [(.s 42)]⟩,
    ⟨(some 46), none, .call fn_rtp_get [(.s 45)]⟩,
    ⟨(some 40), none, .cint .u16 (.s 39)⟩,
    ⟨(some 47), none, .build [(V.bool false), (V.int .i64 0), (V.int .u16 0), (V.int .u32 0), (V.int .u32 0), V.nils, (V.int .i64 0), V.nils, (V.int .i64 0), V.nils] [(0, 1, (.s 31)), (1, 1, (.s 36)), (2, 1, (.s 40)), (3, 1, (.s 43)), (4, 1, (.s 46))]⟩,
    ⟨(some 4), none, .box ty_rtp_Packet (.c (V.agg [(V.bool false), (V.int .i64 0), (V.int .u16 0), (V.int .u32 0), (V.int .u32 0), V.nils, (V.int .i64 0), V.nils, (V.int .i64 0), V.nils]))⟩,
    ⟨none, none, .store 10 (.s 4) (.s 47)⟩] [(2, 16), (2, 17), (2, 18), (7, 16), (7, 17), (7, 18)]
  (.ops [⟨(some 48), none, .mv (.s 0)⟩,
    ⟨(some 49), none, .iaddr none 1 (.s 48) (.c (V.int .i64 0))⟩,
    ⟨(some 50), none, .load none (.s 49)⟩,
    ⟨(some 51), none, .bin .and (.s 50) (.c (V.int .u8 15))⟩,
    ⟨(some 52), none, .cint .i64 (.s 51)⟩,
    ⟨(some 53), none, .bin .mul (.c (V.int .i64 4)) (.s 52)⟩,
    ⟨(some 54), none, .bin .add (.c (V.int .i64 12)) (.s 53)⟩,
    ⟨(some 5), none, .mv (.s 54)⟩]
  (.ops [⟨(some 55), none, .mv (.s 0)⟩,
    ⟨(some 56), none, .len (.s 55)⟩,
    ⟨(some 57), none, .mv (.s 5)⟩,
    ⟨(some 58), none, .bin .lss (.s 56) (.s 57)⟩]
  (.cond (.s 58)
  (.ops [⟨(some 59), none, .build [(V.bool false), (V.int .i64 0), (V.int .u16 0), (V.int .u32 0), (V.int .u32 0), V.nils, (V.int .i64 0), V.nils, (V.int .i64 0), V.nils] []⟩,
     ⟨none, none, .store 10 (.s 2) (.s 59)⟩,
     ⟨(some 3), none, .mv (.c (V.int .i64 3))⟩]
   (.ret))
  (.ops [⟨(some 6), none, .mv (.c (V.int .i64 12))⟩]
   (.blk 1
   (.loop loop_rtp_Parse_0 [6] [60, 61, 62, 65, 66, 67, 68, 69, 70, 71, 72, 73, 74, 75, 63, 64, 6]) [] [60, 61, 62, 65, 66, 67, 68, 69, 70, 71, 72, 73, 74, 75, 63, 64, 6]
   (.ops [⟨(some 76), none, .mv (.s 0)⟩,
     ⟨(some 77), none, .iaddr none 1 (.s 76) (.c (V.int .i64 0))⟩,
     ⟨(some 78), none, .load none (.s 77)⟩,
     ⟨(some 79), none, .bin .and (.s 78) (.c (V.int .u8 16))⟩,
     ⟨(some 80), none, .bin .neq (.s 79) (.c (V.int .u8 0))⟩]
   (.condJ (.s 80)
   (.ops [⟨(some 82), none, .mv (.s 0)⟩,
      ⟨(some 83), none, .mv (.s 5)⟩,
      ⟨(some 84), none, .slice .sl 1 (.s 82) (some (.s 83)) none none⟩,
      ⟨(some 85), none, .call fn_rtp_extension [(.s 4), (.s 84)]⟩,
      ⟨(some 81), none, .mv (.s 85)⟩,
      ⟨(some 86), none, .ext 0 (.s 81)⟩,
      ⟨(some 87), none, .ext 1 (.s 81)⟩,
      ⟨(some 7), none, .mv (.s 86)⟩,
      ⟨(some 8), none, .mv (.s 87)⟩]
    (.ops [⟨(some 88), none, .mv (.s 8)⟩,
      ⟨(some 89), none, .bin .neq (.s 88) (.c (V.int .i64 0))⟩]
    (.cond (.s 89)
    (.ops [⟨(some 90), none, .build [(V.bool false), (V.int .i64 0), (V.int .u16 0), (V.int .u32 0), (V.int .u32 0), V.nils, (V.int .i64 0), V.nils, (V.int .i64 0), V.nils] []⟩,
       ⟨(some 91), none, .mv (.s 8)⟩,
       ⟨none, none, .store 10 (.s 2) (.s 90)⟩,
       ⟨(some 3), none, .mv (.s 91)⟩]
     (.ret))
    (.ops [⟨(some 92), none, .mv (.s 5)⟩,
       ⟨(some 93), none, .mv (.s 7)⟩,
       ⟨(some 94), none, .bin .add (.s 92) (.s 93)⟩,
       ⟨(some 5), none, .mv (.s 94)⟩]
     (.done)))))
   (.done) [5] [82, 83, 84, 85, 81, 86, 87, 7, 8, 88, 89, 90, 91, 3, 92, 93, 94, 5]
   (.ops [⟨(some 95), none, .mv (.s 0)⟩,
     ⟨(some 96), none, .mv (.s 5)⟩,
     ⟨(some 97), none, .slice .sl 1 (.s 95) (some (.s 96)) none none⟩,
     ⟨(some 9), none, .mv (.s 97)⟩]
   (.ops [⟨(some 98), none, .mv (.s 0)⟩,
     ⟨(some 99), none, .iaddr none 1 (.s 98) (.c (V.int .i64 0))⟩,
     ⟨(some 100), none, .load none (.s 99)⟩,
     ⟨(some 101), none, .bin .and (.s 100) (.c (V.int .u8 32))⟩,
     ⟨(some 102), none, .bin .neq (.s 101) (.c (V.int .u8 0))⟩]
   (.condJ (.s 102)
   (.ops [⟨(some 103), none, .mv (.s 0)⟩,
      ⟨(some 104), none, .mv (.s 0)⟩,
      ⟨(some 105), none, .len (.s 104)⟩,
      ⟨(some 106), none, .bin .sub (.s 105) (.c (V.int .i64 1))⟩,
      ⟨(some 107), none, .iaddr none 1 (.s 103) (.s 106)⟩,
      ⟨(some 108), none, .load none (.s 107)⟩,
      ⟨(some 109), none, .cint .i64 (.s 108)⟩,
      ⟨(some 110), none, .faddr 8 (.s 4)⟩,
      ⟨none, none, .store 1 (.s 110) (.s 109)⟩]
    (.ops [⟨(some 111), none, .faddr 8 (.s 4)⟩,
      ⟨(some 112), none, .load none (.s 111)⟩,
      ⟨(some 113), none, .bin .eql (.s 112) (.c (V.int .i64 0))⟩,
      ⟨(some 114), none, .mv (.s 113)⟩,
      ⟨(some 115), (some (114, false)), .faddr 8 (.s 4)⟩,
      ⟨(some 116), (some (114, false)), .load none (.s 115)⟩,
      ⟨(some 117), (some (114, false)), .mv (.s 9)⟩,
      ⟨(some 118), (some (114, false)), .len (.s 117)⟩,
      ⟨(some 119), (some (114, false)), .bin .gtr (.s 116) (.s 118)⟩,
      ⟨(some 120), none, .pick (.s 114) (.c (V.bool true)) (.s 119)⟩]
    (.cond (.s 120)
    (.ops [⟨(some 121), none, .build [(V.bool false), (V.int .i64 0), (V.int .u16 0), (V.int .u32 0), (V.int .u32 0), V.nils, (V.int .i64 0), V.nils, (V.int .i64 0), V.nils] []⟩,
       ⟨none, none, .store 10 (.s 2) (.s 121)⟩,
       ⟨(some 3), none, .mv (.c (V.int .i64 2))⟩]
     (.ret))
    (.done))))
   (.done) [] [103, 104, 105, 106, 107, 108, 109, 110, 111, 112, 113, 114, 115, 116, 117, 118, 119, 120, 121, 3]
   (.ops [⟨(some 122), none, .mv (.s 9)⟩,
     ⟨(some 123), none, .mv (.s 9)⟩,
     ⟨(some 124), none, .len (.s 123)⟩,
     ⟨(some 125), none, .faddr 8 (.s 4)⟩,
     ⟨(some 126), none, .load none (.s 125)⟩,
     ⟨(some 127), none, .bin .sub (.s 124) (.s 126)⟩,
     ⟨(some 128), none, .slice .sl 1 (.s 122) none (some (.s 127)) none⟩,
     ⟨(some 129), none, .call fn_bytes_Clone [(.s 128)]⟩,
     ⟨(some 130), none, .faddr 9 (.s 4)⟩,
     ⟨none, none, .store 1 (.s 130) (.s 129)⟩]
   (.ops [⟨(some 131), none, .load (some 10) (.s 4)⟩,
     ⟨none, none, .store 10 (.s 2) (.s 131)⟩,
     ⟨(some 3), none, .mv (.c (V.int .i64 0))⟩]
   (.ret)))))))))))))))⟩

noncomputable def f_rtp_Parse_0 (G : Sem') (t5 t0 t4 t2 : V) (L : List V) : M Res :=
  (M.lift (Ax.bin .lss (L.getD 0 .undef) t5)).bind fun t62 =>
  M.ite t62
    (M.blk 2 (
      (M.lift (Ax.faddr 5 t4)).bind fun t65 =>
      (mload none t65).bind fun t66 =>
      (M.lift (Ax.bin .add (L.getD 0 .undef) (V.int .i64 4))).bind fun t70 =>
      (M.lift (vslice .sl 1 t0 (some (L.getD 0 .undef)) (some t70) none)).bind fun t71 =>
      M.getH.bind fun h3 =>
      (G fn_rtp_get [t71]).bind fun t72 =>
      M.getH.bind fun h3' =>
      (M.unch t65 h3 h3').bind fun _ =>
      (mslit ty_uint32 1 [(V.int .u32 0)] [(0, 1, t72)]).bind fun t73 =>
      (mappend ty_uint32 1 4 t66 t73).bind fun t74 =>
      (M.lift (Ax.faddr 5 t4)).bind fun t75 =>
      (mstore 1 t75 t74).bind fun _ =>
      M.pure (.nrm [])) fun _ =>
    (M.lift (Ax.bin .add (L.getD 0 .undef) (V.int .i64 4))).bind fun t64 =>
    M.pure (.nrm [t64]))
    (M.pure (.ex 1 []))

noncomputable def f_rtp_Parse (G : Sem') (t0 : V) : M Res :=
  (mbox ty_rtp_Packet (V.agg [(V.bool false), (V.int .i64 0), (V.int .u16 0), (V.int .u32 0), (V.int .u32 0), V.nils, (V.int .i64 0), V.nils, (V.int .i64 0), V.nils])).bind fun t2 =>
  M.blk 0 (
    (M.lift (vlen t0)).bind fun t12 =>
    (M.lift (Ax.bin .gtr t12 (V.int .i64 1200))).bind fun t13 =>
    M.ite t13
      ((M.lift (Ax.build [(V.bool false), (V.int .i64 0), (V.int .u16 0), (V.int .u32 0), (V.int .u32 0), V.nils, (V.int .i64 0), V.nils, (V.int .i64 0), V.nils] [])).bind fun t14 =>
      (mstore 10 t2 t14).bind fun _ =>
      (mload (some 10) t2).bind fun r0 =>
      M.pure (.ret [r0, (V.int .i64 4)]))
      ((M.lift (vlen t0)).bind fun t17 =>
      (M.lift (Ax.bin .lss t17 (V.int .i64 12))).bind fun t18 =>
      M.ite t18
        ((M.lift (Ax.build [(V.bool false), (V.int .i64 0), (V.int .u16 0), (V.int .u32 0), (V.int .u32 0), V.nils, (V.int .i64 0), V.nils, (V.int .i64 0), V.nils] [])).bind fun t19 =>
        (mstore 10 t2 t19).bind fun _ =>
        (mload (some 10) t2).bind fun r0 =>
        M.pure (.ret [r0, (V.int .i64 3)]))
        ((M.lift (Ax.iaddr none 1 t0 (V.int .i64 0))).bind fun t22 =>
        (mload none t22).bind fun t23 =>
        (M.lift (Ax.bin .shr t23 (V.int .u64 6))).bind fun t24 =>
        (M.lift (Ax.bin .neq t24 (V.int .u8 2))).bind fun t25 =>
        M.ite t25
          ((M.lift (Ax.build [(V.bool false), (V.int .i64 0), (V.int .u16 0), (V.int .u32 0), (V.int .u32 0), V.nils, (V.int .i64 0), V.nils, (V.int .i64 0), V.nils] [])).bind fun t26 =>
          (mstore 10 t2 t26).bind fun _ =>
          (mload (some 10) t2).bind fun r0 =>
          M.pure (.ret [r0, (V.int .i64 2)]))
          (M.pure (.nrm []))))) fun _ =>
  (M.lift (Ax.iaddr none 1 t0 (V.int .i64 1))).bind fun t28 =>
  (mload none t28).bind fun t29 =>
  (M.lift (Ax.bin .and t29 (V.int .u8 128))).bind fun t30 =>
  (M.lift (Ax.bin .neq t30 (V.int .u8 0))).bind fun t31 =>
  (M.lift (Ax.iaddr none 1 t0 (V.int .i64 1))).bind fun t33 =>
  (mload none t33).bind fun t34 =>
  (M.lift (Ax.bin .andNot t34 (V.int .u8 128))).bind fun t35 =>
  (M.lift (Ax.cint .i64 t35)).bind fun t36 =>
  (M.lift (vslice .sl 1 t0 (some (V.int .i64 2)) (some (V.int .i64 4)) none)).bind fun t38 =>
  (M.lift (vslice .sl 1 t0 (some (V.int .i64 4)) (some (V.int .i64 8)) none)).bind fun t42 =>
  (M.lift (vslice .sl 1 t0 (some (V.int .i64 8)) (some (V.int .i64 12)) none)).bind fun t45 =>
  M.getH.bind fun h0 =>
  (G fn_rtp_get [t38]).bind fun t39 =>
  M.getH.bind fun h0' =>
  (M.unch t33 h0 h0').bind fun _ =>
  (M.unch t28 h0 h0').bind fun _ =>
  M.getH.bind fun h1 =>
  (G fn_rtp_get [t42]).bind fun t43 =>
  M.getH.bind fun h1' =>
  (M.unch t33 h1 h1').bind fun _ =>
  (M.unch t28 h1 h1').bind fun _ =>
  M.getH.bind fun h2 =>
  (G fn_rtp_get [t45]).bind fun t46 =>
  M.getH.bind fun h2' =>
  (M.unch t33 h2 h2').bind fun _ =>
  (M.unch t28 h2 h2').bind fun _ =>
  (M.lift (Ax.cint .u16 t39)).bind fun t40 =>
  (M.lift (Ax.build [(V.bool false), (V.int .i64 0), (V.int .u16 0), (V.int .u32 0), (V.int .u32 0), V.nils, (V.int .i64 0), V.nils, (V.int .i64 0), V.nils] [(0, 1, t31), (1, 1, t36), (2, 1, t40), (3, 1, t43), (4, 1, t46)])).bind fun t47 =>
  (mbox ty_rtp_Packet (V.agg [(V.bool false), (V.int .i64 0), (V.int .u16 0), (V.int .u32 0), (V.int .u32 0), V.nils, (V.int .i64 0), V.nils, (V.int .i64 0), V.nils])).bind fun t4 =>
  (mstore 10 t4 t47).bind fun _ =>
  (M.lift (Ax.iaddr none 1 t0 (V.int .i64 0))).bind fun t49 =>
  (mload none t49).bind fun t50 =>
  (M.lift (Ax.bin .and t50 (V.int .u8 15))).bind fun t51 =>
  (M.lift (Ax.cint .i64 t51)).bind fun t52 =>
  (M.lift (Ax.bin .mul (V.int .i64 4) t52)).bind fun t53 =>
  (M.lift (Ax.bin .add (V.int .i64 12) t53)).bind fun t54 =>
  (M.lift (vlen t0)).bind fun t56 =>
  (M.lift (Ax.bin .lss t56 t54)).bind fun t58 =>
  M.ite t58
    ((M.lift (Ax.build [(V.bool false), (V.int .i64 0), (V.int .u16 0), (V.int .u32 0), (V.int .u32 0), V.nils, (V.int .i64 0), V.nils, (V.int .i64 0), V.nils] [])).bind fun t59 =>
    (mstore 10 t2 t59).bind fun _ =>
    (mload (some 10) t2).bind fun r0 =>
    M.pure (.ret [r0, (V.int .i64 3)]))
    (M.blk 1 (
      M.iter (f_rtp_Parse_0 G t54 t0 t4 t2) [(V.int .i64 12)]) fun _ =>
    (M.lift (Ax.iaddr none 1 t0 (V.int .i64 0))).bind fun t77 =>
    (mload none t77).bind fun t78 =>
    (M.lift (Ax.bin .and t78 (V.int .u8 16))).bind fun t79 =>
    (M.lift (Ax.bin .neq t79 (V.int .u8 0))).bind fun t80 =>
    M.join (M.ite t80
      ((M.lift (vslice .sl 1 t0 (some t54) none none)).bind fun t84 =>
      (G fn_rtp_extension [t4, t84]).bind fun t85 =>
      (M.lift (Ax.ext 0 t85)).bind fun t86 =>
      (M.lift (Ax.ext 1 t85)).bind fun t87 =>
      (M.lift (Ax.bin .neq t87 (V.int .i64 0))).bind fun t89 =>
      M.ite t89
        ((M.lift (Ax.build [(V.bool false), (V.int .i64 0), (V.int .u16 0), (V.int .u32 0), (V.int .u32 0), V.nils, (V.int .i64 0), V.nils, (V.int .i64 0), V.nils] [])).bind fun t90 =>
        (mstore 10 t2 t90).bind fun _ =>
        (mload (some 10) t2).bind fun r0 =>
        M.pure (.ret [r0, t87]))
        ((M.lift (Ax.bin .add t54 t86)).bind fun t94 =>
        M.pure (.nrm [t94])))
      (M.pure (.nrm [t54]))) fun L3 =>
    (M.lift (vslice .sl 1 t0 (some (L3.getD 0 .undef)) none none)).bind fun t97 =>
    (M.lift (Ax.iaddr none 1 t0 (V.int .i64 0))).bind fun t99 =>
    (mload none t99).bind fun t100 =>
    (M.lift (Ax.bin .and t100 (V.int .u8 32))).bind fun t101 =>
    (M.lift (Ax.bin .neq t101 (V.int .u8 0))).bind fun t102 =>
    M.join (M.ite t102
      ((M.lift (vlen t0)).bind fun t105 =>
      (M.lift (Ax.bin .sub t105 (V.int .i64 1))).bind fun t106 =>
      (M.lift (Ax.iaddr none 1 t0 t106)).bind fun t107 =>
      (mload none t107).bind fun t108 =>
      (M.lift (Ax.cint .i64 t108)).bind fun t109 =>
      (M.lift (Ax.faddr 8 t4)).bind fun t110 =>
      (mstore 1 t110 t109).bind fun _ =>
      (M.lift (Ax.faddr 8 t4)).bind fun t111 =>
      (mload none t111).bind fun t112 =>
      (M.lift (Ax.bin .eql t112 (V.int .i64 0))).bind fun t113 =>
      (guarded [(0, t113)] (some (0, false)) (M.lift (Ax.faddr 8 t4))).bind fun t115 =>
      (guarded [(0, t113)] (some (0, false)) (mload none t115)).bind fun t116 =>
      (guarded [(0, t113)] (some (0, false)) (M.pure t97)).bind fun t117 =>
      (guarded [(0, t113)] (some (0, false)) (M.lift (vlen t117))).bind fun t118 =>
      (guarded [(0, t113)] (some (0, false)) (M.lift (Ax.bin .gtr t116 t118))).bind fun t119 =>
      (M.lift (Ax.pick t113 (V.bool true) t119)).bind fun t120 =>
      M.ite t120
        ((M.lift (Ax.build [(V.bool false), (V.int .i64 0), (V.int .u16 0), (V.int .u32 0), (V.int .u32 0), V.nils, (V.int .i64 0), V.nils, (V.int .i64 0), V.nils] [])).bind fun t121 =>
        (mstore 10 t2 t121).bind fun _ =>
        (mload (some 10) t2).bind fun r0 =>
        M.pure (.ret [r0, (V.int .i64 2)]))
        (M.pure (.nrm [])))
      (M.pure (.nrm []))) fun _ =>
    (M.lift (vlen t97)).bind fun t124 =>
    (M.lift (Ax.faddr 8 t4)).bind fun t125 =>
    (mload none t125).bind fun t126 =>
    (M.lift (Ax.bin .sub t124 t126)).bind fun t127 =>
    (M.lift (vslice .sl 1 t97 none (some t127) none)).bind fun t128 =>
    (G fn_bytes_Clone [t128]).bind fun t129 =>
    (M.lift (Ax.faddr 9 t4)).bind fun t130 =>
    (mstore 1 t130 t129).bind fun _ =>
    (mload (some 10) t4).bind fun t131 =>
    (mstore 10 t2 t131).bind fun _ =>
    (mload (some 10) t2).bind fun r0 =>
    M.pure (.ret [r0, (V.int .i64 0)]))

theorem eq_rtp_Parse (G : Sem') (t0 : V) : execK G ir_rtp_Parse.rv ir_rtp_Parse.body [] [] (params 0 [t0]) = f_rtp_Parse G t0 := by kernel_rfl

theorem tb_rtp_Parse : T fn_rtp_Parse = some ir_rtp_Parse := by kernel_rfl

theorem ok_rtp_Parse {t0 : V} {H : Heap} {Q : V → Heap → Prop} (h : Ok (f_rtp_Parse (sem T) t0) H fun r H' => ∃ L, r = .ret L ∧ Q (tupled L) H') : Ok (sem T fn_rtp_Parse [t0]) H Q :=
  ok_sem tb_rtp_Parse (Nat.le_of_ble_eq_true rfl) (eq_rtp_Parse (sem T) t0) h

/-- palanquin/rtp.get. -/
def loop_rtp_get_0 : C :=
  .ops [⟨(some 9), none, .bin .lss (.s 8) (.s 7)⟩]
  (.cond (.s 9)
  (.blk 1
   (.ops [⟨(some 10), none, .iaddr none 1 (.s 6) (.s 8)⟩,
      ⟨(some 11), none, .load none (.s 10)⟩,
      ⟨(some 5), none, .mv (.s 11)⟩]
    (.ops [⟨(some 12), none, .mv (.s 3)⟩,
      ⟨(some 13), none, .bin .shl (.s 12) (.c (V.int .u64 8))⟩,
      ⟨(some 14), none, .mv (.s 5)⟩,
      ⟨(some 15), none, .cint .u32 (.s 14)⟩,
      ⟨(some 16), none, .bin .or (.s 13) (.s 15)⟩,
      ⟨(some 3), none, .mv (.s 16)⟩]
    (.done))) [3] [10, 11, 5, 12, 13, 14, 15, 16, 3]
   (.ops [⟨(some 17), none, .bin .add (.s 8) (.c (V.int .i64 1))⟩,
     ⟨(some 8), none, .mv (.s 17)⟩]
   (.done)))
  (.exit 0))

def ir_rtp_get : Fn' := ⟨19, [.tmp 2],
  .ops [⟨(some 2), none, .mv (.c (V.int .u32 0))⟩]
  (.ops [⟨(some 3), none, .mv (.c (V.int .u32 0))⟩]
  (.ops [⟨(some 6), none, .mv (.s 0)⟩,
    ⟨(some 7), none, .len (.s 6)⟩,
    ⟨(some 8), none, .mv (.c (V.int .i64 0))⟩]
  (.blk 0
  (.loop loop_rtp_get_0 [3, 8] [9, 10, 11, 5, 12, 13, 14, 15, 16, 3, 17, 8]) [3] [9, 10, 11, 5, 12, 13, 14, 15, 16, 3, 17, 8]
  (.ops [⟨(some 18), none, .mv (.s 3)⟩,
    ⟨(some 2), none, .mv (.s 18)⟩]
  (.ret)))))⟩

noncomputable def f_rtp_get_0 (G : Sem') (t7 t6 t2 : V) (L : List V) : M Res :=
  (M.lift (Ax.bin .lss (L.getD 1 .undef) t7)).bind fun t9 =>
  M.ite t9
    (M.blk 1 (
      (M.lift (Ax.iaddr none 1 t6 (L.getD 1 .undef))).bind fun t10 =>
      (mload none t10).bind fun t11 =>
      (M.lift (Ax.bin .shl (L.getD 0 .undef) (V.int .u64 8))).bind fun t13 =>
      (M.lift (Ax.cint .u32 t11)).bind fun t15 =>
      (M.lift (Ax.bin .or t13 t15)).bind fun t16 =>
      M.pure (.nrm [t16])) fun L0 =>
    (M.lift (Ax.bin .add (L.getD 1 .undef) (V.int .i64 1))).bind fun t17 =>
    M.pure (.nrm [(L0.getD 0 .undef), t17]))
    (M.pure (.ex 0 [(L.getD 0 .undef)]))

noncomputable def f_rtp_get (G : Sem') (t0 : V) : M Res :=
  (M.lift (vlen t0)).bind fun t7 =>
  M.blk 0 (
    M.iter (f_rtp_get_0 G t7 t0 (V.int .u32 0)) [(V.int .u32 0), (V.int .i64 0)]) fun L1 =>
  M.pure (.ret [(L1.getD 0 .undef)])

theorem eq_rtp_get (G : Sem') (t0 : V) : execK G ir_rtp_get.rv ir_rtp_get.body [] [] (params 0 [t0]) = f_rtp_get G t0 := by kernel_rfl

theorem tb_rtp_get : T fn_rtp_get = some ir_rtp_get := by kernel_rfl

theorem ok_rtp_get {t0 : V} {H : Heap} {Q : V → Heap → Prop} (h : Ok (f_rtp_get (sem T) t0) H fun r H' => ∃ L, r = .ret L ∧ Q (tupled L) H') : Ok (sem T fn_rtp_get [t0]) H Q :=
  ok_sem tb_rtp_get (Nat.le_of_ble_eq_true rfl) (eq_rtp_get (sem T) t0) h

/-- palanquin/rtp.extension. -/
def ir_rtp_extension : Fn' := ⟨59, [.tmp 4, .tmp 5],
  .ops [⟨(some 4), none, .mv (.c (V.int .i64 0))⟩,
    ⟨(some 5), none, .mv (.c (V.int .i64 0))⟩]
  (.ops [⟨(some 9), none, .mv (.s 1)⟩,
    ⟨(some 10), none, .len (.s 9)⟩,
    ⟨(some 11), none, .bin .lss (.s 10) (.c (V.int .i64 4))⟩]
  (.cond (.s 11)
  (.ops [⟨(some 4), none, .mv (.c (V.int .i64 0))⟩,
     ⟨(some 5), none, .mv (.c (V.int .i64 3))⟩]
   (.ret))
  (.ops [⟨(some 12), none, .mv (.s 1)⟩,
     ⟨(some 13), none, .slice .sl 1 (.s 12) (some (.c (V.int .i64 2))) (some (.c (V.int .i64 4))) none⟩,
     ⟨(some 14), none, .call fn_rtp_get [(.s 13)]⟩,
     ⟨(some 15), none, .cint .i64 (.s 14)⟩,
     ⟨(some 16), none, .bin .mul (.c (V.int .i64 4)) (.s 15)⟩,
     ⟨(some 17), none, .bin .add (.c (V.int .i64 4)) (.s 16)⟩,
     ⟨(some 6), none, .mv (.s 17)⟩]
   (.ops [⟨(some 18), none, .mv (.s 1)⟩,
     ⟨(some 19), none, .len (.s 18)⟩,
     ⟨(some 20), none, .mv (.s 6)⟩,
     ⟨(some 21), none, .bin .lss (.s 19) (.s 20)⟩]
   (.cond (.s 21)
   (.ops [⟨(some 4), none, .mv (.c (V.int .i64 0))⟩,
      ⟨(some 5), none, .mv (.c (V.int .i64 3))⟩]
    (.ret))
   (.ops [⟨(some 22), none, .mv (.s 0)⟩,
      ⟨(some 23), none, .mv (.s 1)⟩,
      ⟨(some 24), none, .slice .sl 1 (.s 23) none (some (.c (V.int .i64 2))) none⟩,
      ⟨(some 25), none, .call fn_rtp_get [(.s 24)]⟩,
      ⟨(some 26), none, .cint .i64 (.s 25)⟩,
      ⟨(some 27), none, .nilck (.s 22)⟩,
      ⟨(some 28), none, .faddr 6 (.s 27)⟩,
      ⟨none, none, .store 1 (.s 28) (.s 26)⟩]
    (.ops [⟨(some 29), none, .mv (.s 0)⟩,
      ⟨(some 30), none, .nilck (.s 29)⟩,
      ⟨(some 31), none, .faddr 6 (.s 30)⟩,
      ⟨(some 32), none, .load none (.s 31)⟩,
      ⟨(some 33), none, .bin .neq (.s 32) (.c (V.int .i64 48862))⟩,
      ⟨(some 34), none, .mv (.s 33)⟩,
      ⟨(some 35), (some (34, true)), .mv (.s 0)⟩,
      ⟨(some 36), (some (34, true)), .nilck (.s 35)⟩,
      ⟨(some 37), (some (34, true)), .faddr 6 (.s 36)⟩,
      ⟨(some 38), (some (34, true)), .load none (.s 37)⟩,
      ⟨(some 39), (some (34, true)), .bin .neq (.s 38) (.c (V.int .i64 4096))⟩,
      ⟨(some 40), none, .pick (.s 34) (.s 39) (.c (V.bool false))⟩]
    (.cond (.s 40)
    (.ops [⟨(some 4), none, .mv (.c (V.int .i64 0))⟩,
       ⟨(some 5), none, .mv (.c (V.int .i64 2))⟩]
     (.ret))
    (.draw [⟨(some 42), none, .mv (.s 0)⟩,
       ⟨(some 43), none, .nilck (.s 42)⟩,
       ⟨(some 44), none, .faddr 6 (.s 43)⟩,
       ⟨(some 45), none, .load none (.s 44)⟩,
       ⟨(some 46), none, .mv (.s 1)⟩,
       ⟨(some 47), none, .mv (.s 6)⟩,
       ⟨(some 48), none, .slice .sl 1 (.s 46) (some (.c (V.int .i64 4))) (some (.s 47)) none⟩,
       ⟨(some 49), none, .call fn_rtp_exts [(.s 45), (.s 48)]⟩,
       ⟨(some 41), none, .mv (.s 49)⟩,
       ⟨(some 50), none, .ext 0 (.s 41)⟩,
       ⟨(some 51), none, .ext 1 (.s 41)⟩,
       ⟨(some 7), none, .mv (.s 50)⟩,
       ⟨(some 8), none, .mv (.s 51)⟩] []
     (.ops [⟨(some 52), none, .mv (.s 8)⟩,
       ⟨(some 53), none, .un .not (.s 52)⟩]
     (.cond (.s 53)
     (.ops [⟨(some 4), none, .mv (.c (V.int .i64 0))⟩,
        ⟨(some 5), none, .mv (.c (V.int .i64 2))⟩]
      (.ret))
     (.ops [⟨(some 54), none, .mv (.s 0)⟩,
        ⟨(some 55), none, .mv (.s 7)⟩,
        ⟨(some 56), none, .nilck (.s 54)⟩,
        ⟨(some 57), none, .faddr 7 (.s 56)⟩,
        ⟨none, none, .store 1 (.s 57) (.s 55)⟩]
      (.ops [⟨(some 58), none, .mv (.s 6)⟩,
        ⟨(some 4), none, .mv (.s 58)⟩,
        ⟨(some 5), none, .mv (.c (V.int .i64 0))⟩]
      (.ret))))))))))))))⟩

noncomputable def f_rtp_extension (G : Sem') (t0 t1 : V) : M Res :=
  (M.lift (vlen t1)).bind fun t10 =>
  (M.lift (Ax.bin .lss t10 (V.int .i64 4))).bind fun t11 =>
  M.ite t11
    (M.pure (.ret [(V.int .i64 0), (V.int .i64 3)]))
    ((M.lift (vslice .sl 1 t1 (some (V.int .i64 2)) (some (V.int .i64 4)) none)).bind fun t13 =>
    (G fn_rtp_get [t13]).bind fun t14 =>
    (M.lift (Ax.cint .i64 t14)).bind fun t15 =>
    (M.lift (Ax.bin .mul (V.int .i64 4) t15)).bind fun t16 =>
    (M.lift (Ax.bin .add (V.int .i64 4) t16)).bind fun t17 =>
    (M.lift (vlen t1)).bind fun t19 =>
    (M.lift (Ax.bin .lss t19 t17)).bind fun t21 =>
    M.ite t21
      (M.pure (.ret [(V.int .i64 0), (V.int .i64 3)]))
      ((M.lift (vslice .sl 1 t1 none (some (V.int .i64 2)) none)).bind fun t24 =>
      (G fn_rtp_get [t24]).bind fun t25 =>
      (M.lift (Ax.cint .i64 t25)).bind fun t26 =>
      (M.lift (Ax.nilck t0)).bind fun t27 =>
      (M.lift (Ax.faddr 6 t27)).bind fun t28 =>
      (mstore 1 t28 t26).bind fun _ =>
      (M.lift (Ax.nilck t0)).bind fun t30 =>
      (M.lift (Ax.faddr 6 t30)).bind fun t31 =>
      (mload none t31).bind fun t32 =>
      (M.lift (Ax.bin .neq t32 (V.int .i64 48862))).bind fun t33 =>
      (guarded [(0, t33)] (some (0, true)) (M.pure t0)).bind fun t35 =>
      (guarded [(0, t33)] (some (0, true)) (M.lift (Ax.nilck t35))).bind fun t36 =>
      (guarded [(0, t33)] (some (0, true)) (M.lift (Ax.faddr 6 t36))).bind fun t37 =>
      (guarded [(0, t33)] (some (0, true)) (mload none t37)).bind fun t38 =>
      (guarded [(0, t33)] (some (0, true)) (M.lift (Ax.bin .neq t38 (V.int .i64 4096)))).bind fun t39 =>
      (M.lift (Ax.pick t33 t39 (V.bool false))).bind fun t40 =>
      M.ite t40
        (M.pure (.ret [(V.int .i64 0), (V.int .i64 2)]))
        ((M.lift (Ax.nilck t0)).bind fun t43 =>
        (M.lift (Ax.faddr 6 t43)).bind fun t44 =>
        (mload none t44).bind fun t45 =>
        (M.lift (vslice .sl 1 t1 (some (V.int .i64 4)) (some t17) none)).bind fun t48 =>
        (G fn_rtp_exts [t45, t48]).bind fun t49 =>
        (M.lift (Ax.ext 0 t49)).bind fun t50 =>
        (M.lift (Ax.ext 1 t49)).bind fun t51 =>
        (M.lift (Ax.un .not t51)).bind fun t53 =>
        M.ite t53
          (M.pure (.ret [(V.int .i64 0), (V.int .i64 2)]))
          ((M.lift (Ax.nilck t0)).bind fun t56 =>
          (M.lift (Ax.faddr 7 t56)).bind fun t57 =>
          (mstore 1 t57 t50).bind fun _ =>
          M.pure (.ret [t17, (V.int .i64 0)])))))

theorem eq_rtp_extension (G : Sem') (t0 t1 : V) : execK G ir_rtp_extension.rv ir_rtp_extension.body [] [] (params 0 [t0, t1]) = f_rtp_extension G t0 t1 := by kernel_rfl

theorem tb_rtp_extension : T fn_rtp_extension = some ir_rtp_extension := by kernel_rfl

theorem ok_rtp_extension {t0 t1 : V} {H : Heap} {Q : V → Heap → Prop} (h : Ok (f_rtp_extension (sem T) t0 t1) H fun r H' => ∃ L, r = .ret L ∧ Q (tupled L) H') : Ok (sem T fn_rtp_extension [t0, t1]) H Q :=
  ok_sem tb_rtp_extension (Nat.le_of_ble_eq_true rfl) (eq_rtp_extension (sem T) t0 t1) h

/-- palanquin/rtp.exts. -/
def loop_rtp_exts_0 : C :=
  .ops [⟨(some 10), none, .mv (.s 1)⟩,
    ⟨(some 11), none, .len (.s 10)⟩,
    ⟨(some 12), none, .bin .gtr (.s 11) (.c (V.int .i64 0))⟩]
  (.cond (.s 12)
  (.blk 1
   (.ops [⟨(some 13), none, .mv (.s 1)⟩,
      ⟨(some 14), none, .iaddr none 1 (.s 13) (.c (V.int .i64 0))⟩,
      ⟨(some 15), none, .load none (.s 14)⟩,
      ⟨(some 16), none, .bin .eql (.s 15) (.c (V.int .u8 0))⟩]
    (.cond (.s 16)
    (.ops [⟨(some 17), none, .mv (.s 1)⟩,
       ⟨(some 18), none, .slice .sl 1 (.s 17) (some (.c (V.int .i64 1))) none none⟩,
       ⟨(some 1), none, .mv (.s 18)⟩]
     (.exit 1))
    (.ops [⟨(some 19), none, .mv (.s 0)⟩,
       ⟨(some 20), none, .bin .eql (.s 19) (.c (V.int .i64 48862))⟩,
       ⟨(some 21), none, .mv (.s 20)⟩,
       ⟨(some 22), (some (21, true)), .mv (.s 1)⟩,
       ⟨(some 23), (some (21, true)), .iaddr none 1 (.s 22) (.c (V.int .i64 0))⟩,
       ⟨(some 24), (some (21, true)), .load none (.s 23)⟩,
       ⟨(some 25), (some (21, true)), .bin .shr (.s 24) (.c (V.int .u64 4))⟩,
       ⟨(some 26), (some (21, true)), .bin .eql (.s 25) (.c (V.int .u8 15))⟩,
       ⟨(some 27), none, .pick (.s 21) (.s 26) (.c (V.bool false))⟩]
     (.cond (.s 27)
     (.exit 0)
     (.ops [⟨(some 29), none, .mv (.s 0)⟩,
        ⟨(some 30), none, .mv (.s 1)⟩,
        ⟨(some 31), none, .call fn_rtp_element [(.s 29), (.s 30)]⟩,
        ⟨(some 28), none, .mv (.s 31)⟩,
        ⟨(some 32), none, .ext 0 (.s 28)⟩,
        ⟨(some 33), none, .ext 1 (.s 28)⟩,
        ⟨(some 34), none, .ext 2 (.s 28)⟩,
        ⟨(some 7), none, .box ty_rtp_Ext (.c (V.agg [(V.int .i64 0), V.nils]))⟩,
        ⟨none, none, .store 2 (.s 7) (.s 32)⟩,
        ⟨(some 8), none, .mv (.s 33)⟩,
        ⟨(some 9), none, .mv (.s 34)⟩]
      (.ops [⟨(some 35), none, .mv (.s 9)⟩,
        ⟨(some 36), none, .un .not (.s 35)⟩]
      (.cond (.s 36)
      (.ops [⟨(some 4), none, .mv (.c V.nils)⟩,
         ⟨(some 5), none, .mv (.c (V.bool false))⟩]
       (.ret))
      (.ops [⟨(some 37), none, .mv (.s 6)⟩,
         ⟨(some 38), none, .load (some 2) (.s 7)⟩,
         ⟨(some 39), none, .slit ty_rtp_Ext 1 [(V.int .i64 0), V.nils] [(0, 2, (.s 38))]⟩,
         ⟨(some 40), none, .append ty_rtp_Ext 2 32 (.s 37) (.s 39)⟩,
         ⟨(some 6), none, .mv (.s 40)⟩]
       (.ops [⟨(some 41), none, .mv (.s 1)⟩,
         ⟨(some 42), none, .mv (.s 8)⟩,
         ⟨(some 43), none, .slice .sl 1 (.s 41) (some (.s 42)) none none⟩,
         ⟨(some 1), none, .mv (.s 43)⟩]
       (.done)))))))))) [1, 6] [13, 14, 15, 16, 17, 18, 1, 19, 20, 21, 22, 23, 24, 25, 26, 27, 29, 30, 31, 28, 32, 33, 34, 7, 8, 9, 35, 36, 4, 5, 37, 38, 39, 40, 6, 41, 42, 43, 1]
   (.done))
  (.exit 0))

def ir_rtp_exts : Fn' := ⟨45, [.tmp 4, .tmp 5],
  .ops [⟨(some 4), none, .mv (.c V.nils)⟩,
    ⟨(some 5), none, .mv (.c (V.bool false))⟩]
  (.ops [⟨(some 6), none, .mv (.c V.nils)⟩]
  (.blk 0
  (.loop loop_rtp_exts_0 [1, 6] [10, 11, 12, 13, 14, 15, 16, 17, 18, 1, 19, 20, 21, 22, 23, 24, 25, 26, 27, 29, 30, 31, 28, 32, 33, 34, 7, 8, 9, 35, 36, 4, 5, 37, 38, 39, 40, 6, 41, 42, 43, 1]) [6] [10, 11, 12, 13, 14, 15, 16, 17, 18, 1, 19, 20, 21, 22, 23, 24, 25, 26, 27, 29, 30, 31, 28, 32, 33, 34, 7, 8, 9, 35, 36, 4, 5, 37, 38, 39, 40, 6, 41, 42, 43, 1]
  (.ops [⟨(some 44), none, .mv (.s 6)⟩,
    ⟨(some 4), none, .mv (.s 44)⟩,
    ⟨(some 5), none, .mv (.c (V.bool true))⟩]
  (.ret))))⟩

noncomputable def f_rtp_exts_0 (G : Sem') (t0 : V) (L : List V) : M Res :=
  (M.lift (vlen (L.getD 0 .undef))).bind fun t11 =>
  (M.lift (Ax.bin .gtr t11 (V.int .i64 0))).bind fun t12 =>
  M.ite t12
    (M.blk 1 (
      (M.lift (Ax.iaddr none 1 (L.getD 0 .undef) (V.int .i64 0))).bind fun t14 =>
      (mload none t14).bind fun t15 =>
      (M.lift (Ax.bin .eql t15 (V.int .u8 0))).bind fun t16 =>
      M.ite t16
        ((M.lift (vslice .sl 1 (L.getD 0 .undef) (some (V.int .i64 1)) none none)).bind fun t18 =>
        M.pure (.ex 1 [t18, (L.getD 1 .undef)]))
        ((M.lift (Ax.bin .eql t0 (V.int .i64 48862))).bind fun t20 =>
        (guarded [(0, t20)] (some (0, true)) (M.pure (L.getD 0 .undef))).bind fun t22 =>
        (guarded [(0, t20)] (some (0, true)) (M.lift (Ax.iaddr none 1 t22 (V.int .i64 0)))).bind fun t23 =>
        (guarded [(0, t20)] (some (0, true)) (mload none t23)).bind fun t24 =>
        (guarded [(0, t20)] (some (0, true)) (M.lift (Ax.bin .shr t24 (V.int .u64 4)))).bind fun t25 =>
        (guarded [(0, t20)] (some (0, true)) (M.lift (Ax.bin .eql t25 (V.int .u8 15)))).bind fun t26 =>
        (M.lift (Ax.pick t20 t26 (V.bool false))).bind fun t27 =>
        M.ite t27
          (M.pure (.ex 0 [(L.getD 1 .undef)]))
          ((G fn_rtp_element [t0, (L.getD 0 .undef)]).bind fun t31 =>
          (M.lift (Ax.ext 0 t31)).bind fun t32 =>
          (M.lift (Ax.ext 1 t31)).bind fun t33 =>
          (M.lift (Ax.ext 2 t31)).bind fun t34 =>
          (mbox ty_rtp_Ext (V.agg [(V.int .i64 0), V.nils])).bind fun t7 =>
          (mstore 2 t7 t32).bind fun _ =>
          (M.lift (Ax.un .not t34)).bind fun t36 =>
          M.ite t36
            (M.pure (.ret [V.nils, (V.bool false)]))
            ((mload (some 2) t7).bind fun t38 =>
            (mslit ty_rtp_Ext 1 [(V.int .i64 0), V.nils] [(0, 2, t38)]).bind fun t39 =>
            (mappend ty_rtp_Ext 2 32 (L.getD 1 .undef) t39).bind fun t40 =>
            (M.lift (vslice .sl 1 (L.getD 0 .undef) (some t33) none none)).bind fun t43 =>
            M.pure (.nrm [t43, t40]))))) fun L0 =>
    M.pure (.nrm [(L0.getD 0 .undef), (L0.getD 1 .undef)]))
    (M.pure (.ex 0 [(L.getD 1 .undef)]))

noncomputable def f_rtp_exts (G : Sem') (t0 t1 : V) : M Res :=
  M.blk 0 (
    M.iter (f_rtp_exts_0 G t0) [t1, V.nils]) fun L1 =>
  M.pure (.ret [(L1.getD 0 .undef), (V.bool true)])

theorem eq_rtp_exts (G : Sem') (t0 t1 : V) : execK G ir_rtp_exts.rv ir_rtp_exts.body [] [] (params 0 [t0, t1]) = f_rtp_exts G t0 t1 := by kernel_rfl

theorem tb_rtp_exts : T fn_rtp_exts = some ir_rtp_exts := by kernel_rfl

theorem ok_rtp_exts {t0 t1 : V} {H : Heap} {Q : V → Heap → Prop} (h : Ok (f_rtp_exts (sem T) t0 t1) H fun r H' => ∃ L, r = .ret L ∧ Q (tupled L) H') : Ok (sem T fn_rtp_exts [t0, t1]) H Q :=
  ok_sem tb_rtp_exts (Nat.le_of_ble_eq_true rfl) (eq_rtp_exts (sem T) t0 t1) h

/-- palanquin/rtp.element. -/
def ir_rtp_element : Fn' := ⟨60, [.cell 4 (some 2), .tmp 5, .tmp 6],
  .ops [⟨(some 4), none, .box ty_rtp_Ext (.c (V.agg [(V.int .i64 0), V.nils]))⟩,
    ⟨(some 5), none, .mv (.c (V.int .i64 0))⟩,
    ⟨(some 6), none, .mv (.c (V.bool false))⟩]
  (.ops [⟨(some 10), none, .mv (.s 1)⟩,
    ⟨(some 11), none, .iaddr none 1 (.s 10) (.c (V.int .i64 0))⟩,
    ⟨(some 12), none, .load none (.s 11)⟩,
    ⟨(some 13), none, .cint .i64 (.s 12)⟩,
    ⟨(some 14), none, .build [(V.int .i64 0), V.nils] [(0, 1, (.s 13))]⟩,
    ⟨(some 7), none, .box ty_rtp_Ext (.c (V.agg [(V.int .i64 0), V.nils]))⟩,
    ⟨none, none, .store 2 (.s 7) (.s 14)⟩,
    ⟨(some 8), none, .mv (.c (V.int .i64 2))⟩]
  (.ops [⟨(some 9), none, .mv (.c (V.int .i64 0))⟩]
  (.ops [⟨(some 15), none, .mv (.s 0)⟩,
    ⟨(some 16), none, .bin .eql (.s 15) (.c (V.int .i64 48862))⟩]
  (.condJ (.s 16)
  (.ops [⟨(some 17), none, .mv (.s 1)⟩,
     ⟨(some 18), none, .iaddr none 1 (.s 17) (.c (V.int .i64 0))⟩,
     ⟨(some 19), none, .load none (.s 18)⟩,
     ⟨(some 20), none, .bin .shr (.s 19) (.c (V.int .u64 4))⟩,
     ⟨(some 21), none, .cint .i64 (.s 20)⟩,
     ⟨(some 22), none, .faddr 0 (.s 7)⟩,
     ⟨none, none, .store 1 (.s 22) (.s 21)⟩,
     ⟨(some 8), none, .mv (.c (V.int .i64 1))⟩]
   (.ops [⟨(some 23), none, .mv (.s 1)⟩,
     ⟨(some 24), none, .iaddr none 1 (.s 23) (.c (V.int .i64 0))⟩,
     ⟨(some 25), none, .load none (.s 24)⟩,
     ⟨(some 26), none, .bin .and (.s 25) (.c (V.int .u8 15))⟩,
     ⟨(some 27), none, .cint .i64 (.s 26)⟩,
     ⟨(some 28), none, .bin .add (.s 27) (.c (V.int .i64 1))⟩,
     ⟨(some 9), none, .mv (.s 28)⟩]
   (.done)))
  (.ops [⟨(some 29), none, .mv (.s 1)⟩,
     ⟨(some 30), none, .len (.s 29)⟩,
     ⟨(some 31), none, .bin .gtr (.s 30) (.c (V.int .i64 1))⟩]
   (.condJ (.s 31)
   (.ops [⟨(some 32), none, .mv (.s 1)⟩,
      ⟨(some 33), none, .iaddr none 1 (.s 32) (.c (V.int .i64 1))⟩,
      ⟨(some 34), none, .load none (.s 33)⟩,
      ⟨(some 35), none, .cint .i64 (.s 34)⟩,
      ⟨(some 9), none, .mv (.s 35)⟩]
    (.done))
   (.done) [9] [32, 33, 34, 35, 9]
   (.done))) [8, 9] [17, 18, 19, 20, 21, 22, 8, 23, 24, 25, 26, 27, 28, 9, 29, 30, 31, 32, 33, 34, 35, 9]
  (.ops [⟨(some 36), none, .faddr 0 (.s 7)⟩,
    ⟨(some 37), none, .load none (.s 36)⟩,
    ⟨(some 38), none, .bin .eql (.s 37) (.c (V.int .i64 0))⟩,
    ⟨(some 39), none, .mv (.s 38)⟩,
    ⟨(some 40), (some (39, false)), .mv (.s 1)⟩,
    ⟨(some 41), (some (39, false)), .len (.s 40)⟩,
    ⟨(some 42), (some (39, false)), .mv (.s 8)⟩,
    ⟨(some 43), (some (39, false)), .mv (.s 9)⟩,
    ⟨(some 44), (some (39, false)), .bin .add (.s 42) (.s 43)⟩,
    ⟨(some 45), (some (39, false)), .bin .lss (.s 41) (.s 44)⟩,
    ⟨(some 46), none, .pick (.s 39) (.c (V.bool true)) (.s 45)⟩]
  (.cond (.s 46)
  (.ops [⟨(some 47), none, .build [(V.int .i64 0), V.nils] []⟩,
     ⟨none, none, .store 2 (.s 4) (.s 47)⟩,
     ⟨(some 5), none, .mv (.c (V.int .i64 0))⟩,
     ⟨(some 6), none, .mv (.c (V.bool false))⟩]
   (.ret))
  (.ops [⟨(some 48), none, .mv (.s 1)⟩,
     ⟨(some 49), none, .mv (.s 8)⟩,
     ⟨(some 50), none, .mv (.s 8)⟩,
     ⟨(some 51), none, .mv (.s 9)⟩,
     ⟨(some 52), none, .bin .add (.s 50) (.s 51)⟩,
     ⟨(some 53), none, .slice .sl 1 (.s 48) (some (.s 49)) (some (.s 52)) none⟩,
     ⟨(some 54), none, .call fn_bytes_Clone [(.s 53)]⟩,
     ⟨(some 55), none, .faddr 1 (.s 7)⟩,
     ⟨none, none, .store 1 (.s 55) (.s 54)⟩]
   (.ops [⟨(some 56), none, .load (some 2) (.s 7)⟩,
     ⟨(some 57), none, .mv (.s 8)⟩,
     ⟨(some 58), none, .mv (.s 9)⟩,
     ⟨(some 59), none, .bin .add (.s 57) (.s 58)⟩,
     ⟨none, none, .store 2 (.s 4) (.s 56)⟩,
     ⟨(some 5), none, .mv (.s 59)⟩,
     ⟨(some 6), none, .mv (.c (V.bool true))⟩]
   (.ret)))))))))⟩

noncomputable def f_rtp_element (G : Sem') (t0 t1 : V) : M Res :=
  (mbox ty_rtp_Ext (V.agg [(V.int .i64 0), V.nils])).bind fun t4 =>
  (M.lift (Ax.iaddr none 1 t1 (V.int .i64 0))).bind fun t11 =>
  (mload none t11).bind fun t12 =>
  (M.lift (Ax.cint .i64 t12)).bind fun t13 =>
  (M.lift (Ax.build [(V.int .i64 0), V.nils] [(0, 1, t13)])).bind fun t14 =>
  (mbox ty_rtp_Ext (V.agg [(V.int .i64 0), V.nils])).bind fun t7 =>
  (mstore 2 t7 t14).bind fun _ =>
  (M.lift (Ax.bin .eql t0 (V.int .i64 48862))).bind fun t16 =>
  M.join (M.ite t16
    ((M.lift (Ax.iaddr none 1 t1 (V.int .i64 0))).bind fun t18 =>
    (mload none t18).bind fun t19 =>
    (M.lift (Ax.bin .shr t19 (V.int .u64 4))).bind fun t20 =>
    (M.lift (Ax.cint .i64 t20)).bind fun t21 =>
    (M.lift (Ax.faddr 0 t7)).bind fun t22 =>
    (mstore 1 t22 t21).bind fun _ =>
    (M.lift (Ax.iaddr none 1 t1 (V.int .i64 0))).bind fun t24 =>
    (mload none t24).bind fun t25 =>
    (M.lift (Ax.bin .and t25 (V.int .u8 15))).bind fun t26 =>
    (M.lift (Ax.cint .i64 t26)).bind fun t27 =>
    (M.lift (Ax.bin .add t27 (V.int .i64 1))).bind fun t28 =>
    M.pure (.nrm [(V.int .i64 1), t28]))
    ((M.lift (vlen t1)).bind fun t30 =>
    (M.lift (Ax.bin .gtr t30 (V.int .i64 1))).bind fun t31 =>
    M.join (M.ite t31
      ((M.lift (Ax.iaddr none 1 t1 (V.int .i64 1))).bind fun t33 =>
      (mload none t33).bind fun t34 =>
      (M.lift (Ax.cint .i64 t34)).bind fun t35 =>
      M.pure (.nrm [t35]))
      (M.pure (.nrm [(V.int .i64 0)]))) fun L0 =>
    M.pure (.nrm [(V.int .i64 2), (L0.getD 0 .undef)]))) fun L1 =>
  (M.lift (Ax.faddr 0 t7)).bind fun t36 =>
  (mload none t36).bind fun t37 =>
  (M.lift (Ax.bin .eql t37 (V.int .i64 0))).bind fun t38 =>
  (guarded [(0, t38)] (some (0, false)) (M.pure t1)).bind fun t40 =>
  (guarded [(0, t38)] (some (0, false)) (M.lift (vlen t40))).bind fun t41 =>
  (guarded [(0, t38)] (some (0, false)) (M.pure (L1.getD 0 .undef))).bind fun t42 =>
  (guarded [(0, t38)] (some (0, false)) (M.pure (L1.getD 1 .undef))).bind fun t43 =>
  (guarded [(0, t38)] (some (0, false)) (M.lift (Ax.bin .add t42 t43))).bind fun t44 =>
  (guarded [(0, t38)] (some (0, false)) (M.lift (Ax.bin .lss t41 t44))).bind fun t45 =>
  (M.lift (Ax.pick t38 (V.bool true) t45)).bind fun t46 =>
  M.ite t46
    ((M.lift (Ax.build [(V.int .i64 0), V.nils] [])).bind fun t47 =>
    (mstore 2 t4 t47).bind fun _ =>
    (mload (some 2) t4).bind fun r0 =>
    M.pure (.ret [r0, (V.int .i64 0), (V.bool false)]))
    ((M.lift (Ax.bin .add (L1.getD 0 .undef) (L1.getD 1 .undef))).bind fun t52 =>
    (M.lift (vslice .sl 1 t1 (some (L1.getD 0 .undef)) (some t52) none)).bind fun t53 =>
    (G fn_bytes_Clone [t53]).bind fun t54 =>
    (M.lift (Ax.faddr 1 t7)).bind fun t55 =>
    (mstore 1 t55 t54).bind fun _ =>
    (mload (some 2) t7).bind fun t56 =>
    (M.lift (Ax.bin .add (L1.getD 0 .undef) (L1.getD 1 .undef))).bind fun t59 =>
    (mstore 2 t4 t56).bind fun _ =>
    (mload (some 2) t4).bind fun r0 =>
    M.pure (.ret [r0, t59, (V.bool true)]))

theorem eq_rtp_element (G : Sem') (t0 t1 : V) : execK G ir_rtp_element.rv ir_rtp_element.body [] [] (params 0 [t0, t1]) = f_rtp_element G t0 t1 := by kernel_rfl

theorem tb_rtp_element : T fn_rtp_element = some ir_rtp_element := by kernel_rfl

theorem ok_rtp_element {t0 t1 : V} {H : Heap} {Q : V → Heap → Prop} (h : Ok (f_rtp_element (sem T) t0 t1) H fun r H' => ∃ L, r = .ret L ∧ Q (tupled L) H') : Ok (sem T fn_rtp_element [t0, t1]) H Q :=
  ok_sem tb_rtp_element (Nat.le_of_ble_eq_true rfl) (eq_rtp_element (sem T) t0 t1) h

end Go.Ax
