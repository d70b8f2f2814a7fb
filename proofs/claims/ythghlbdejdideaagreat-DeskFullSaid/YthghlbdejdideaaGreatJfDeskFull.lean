/-
  The closed facts of deskFull's row, a theorem a limb.
-/
import Derived.JoinedOf
import Derived.Test.YthghlbdejdideaaGreatChecked
import Derived.Test.YthghlbdejdideaaGreatRows
namespace Go.Proofs.YthghlbdejdideaaGreat.deskFull
set_option linter.unusedVariables false
set_option maxRecDepth 100000

theorem and_tt {a b : Bool} (h : a = true) (k : b = true) : (a && b) = true := by rw [h, k]; rfl

theorem jf0 : (Rows.deskFullRow.wf (OpenSpec.ofChange Rows.deskFullSpec)) = true := by kernel_rfl

theorem jf1 : (laidOutB Tryz.prog) = true := by kernel_rfl

theorem jf2 : (mapsRowed Tryz.prog) = true := by kernel_rfl

theorem jf3 : (Tryz.f6.params.all (Tryz.prog.readableRec ·)) = true := by kernel_rfl

theorem jf4 : (namedTie Tryz.prog Rows.deskFullRow.named Rows.deskFullSpec.vars) = true := by kernel_rfl

theorem jf5 : ((Rows.deskFullRow.stops == [])) = true := by kernel_rfl

theorem jf6 : ((Tryz.prog.stops == [])) = true := by kernel_rfl

theorem jf7 : ((Rows.deskFullRow.knobs == [])) = true := by kernel_rfl

theorem jf8 : ((Tryz.prog.stopKnobs == [])) = true := by kernel_rfl

theorem jf9 : ((Rows.deskFullRow.inPlace == Tryz.prog.inPlace 6)) = true := by kernel_rfl

theorem jf10 : ((Rows.deskFullRow.unfollowed == Tryz.prog.unfollowed 6)) = true := by kernel_rfl

theorem jf11 : ((Rows.deskFullRow.recurses == Tryz.prog.recurses 6)) = true := by kernel_rfl

theorem jf12 : ((Rows.deskFullRow.named == Tryz.prog.varsNamed 6)) = true := by kernel_rfl

theorem jf13 : ((Rows.deskFullRow.maps == (Tryz.f6.params.toList ++ Rows.deskFullSpec.plain.varTypes Tryz.prog).any (Tryz.prog.mapsRec ·))) = true := by kernel_rfl

theorem jf14 : ((Rows.deskFullRow.ifaces == (Tryz.f6.params.toList ++ Rows.deskFullSpec.plain.varTypes Tryz.prog).any (Tryz.prog.ifacesRec ·))) = true := by kernel_rfl

theorem jf15 : ((Rows.deskFullRow.mapsOut == Tryz.prog.mapsAmong Tryz.f6.resultTypes.toList)) = true := by kernel_rfl

theorem jf16 : ((Rows.deskFullRow.loops == (Tryz.f6.params.toList ++ Rows.deskFullSpec.plain.varTypes Tryz.prog).any (Tryz.prog.loopsFrom ·))) = true := by kernel_rfl

theorem jf17 : ((Rows.deskFullRow.wideKeys == (Tryz.f6.params.toList ++ Rows.deskFullSpec.plain.varTypes Tryz.prog ++ Tryz.f6.resultTypes.toList).any (Tryz.prog.wideKeysFrom ·))) = true := by kernel_rfl

theorem jf18 : (Rows.deskFullSpec.vars.all (Tryz.prog.varReadable ·)) = true := by kernel_rfl

theorem jf19 : (Tryz.f6.resultTypes.all (fun t => Tryz.prog.readableRec t && decide (t < Tryz.prog.types.size))) = true := by kernel_rfl

theorem jf20 : ((Rows.deskFullRow.ifacesOut == Tryz.f6.resultTypes.toList.any (Tryz.prog.ifacesRec ·))) = true := by kernel_rfl

theorem jf21 : ((Rows.deskFullRow.loopsOut == Tryz.f6.resultTypes.toList.any (Tryz.prog.loopsFrom ·))) = true := by kernel_rfl

theorem jf22 : ((Rows.deskFullRow.plainKeys == Tryz.prog.plainKeys)) = true := by kernel_rfl

theorem jf23 : (Rows.deskFullRow.shortTexts.isNone) = true := by kernel_rfl

theorem jf24 : (Tryz.prog.stopsHeard) = true := by kernel_rfl

theorem jf25 : (Tryz.prog.mayEnter) = true := by kernel_rfl

theorem jf26 : ((Rows.deskFullRow.lifted == Tryz.prog.liftsFinal)) = true := by kernel_rfl

theorem jf27 : ((Tryz.prog.make == some Rows.deskFullRow.make)) = true := by kernel_rfl

theorem jf28 : ((Rows.deskFullRow.kinds == (if Rows.deskFullRow.domain.isEmpty then [] else Tryz.f6.params.toList.map fun t => match Tryz.prog.underlying t with | some (.int k) => some k | _ => none))) = true := by kernel_rfl

theorem jf29 : ((Rows.deskFullRow.pinned == Rows.deskFullRow.pinnedBy)) = true := by kernel_rfl

theorem jf30 : ((Rows.deskFullRow.veiled == (Tryz.f6.params.toList ++ Rows.deskFullSpec.plain.varTypes Tryz.prog ++ Tryz.f6.resultTypes.toList).any (Tryz.prog.veiledRec ·))) = true := by kernel_rfl

theorem jf31 : (Rows.deskFullRow.veiledFits Tryz.prog Tryz.f6.params.toList (Tryz.f6.params.toList ++ Rows.deskFullSpec.plain.varTypes Tryz.prog ++ Tryz.f6.resultTypes.toList)) = true := by kernel_rfl

theorem jf : joinedFacts Tryz.prog 6 Tryz.f6 Rows.deskFullSpec Rows.deskFullRow = true := by unfold joinedFacts; exact (and_tt (and_tt (and_tt (and_tt (and_tt (and_tt (and_tt (and_tt (and_tt (and_tt (and_tt (and_tt (and_tt (and_tt (and_tt (and_tt (and_tt (and_tt (and_tt (and_tt (and_tt (and_tt (and_tt (and_tt (and_tt (and_tt (and_tt (and_tt (and_tt (and_tt (and_tt jf0 jf1) jf2) jf3) jf4) jf5) jf6) jf7) jf8) jf9) jf10) jf11) jf12) jf13) jf14) jf15) jf16) jf17) jf18) jf19) jf20) jf21) jf22) jf23) jf24) jf25) jf26) jf27) jf28) jf29) jf30) jf31)

end Go.Proofs.YthghlbdejdideaaGreat.deskFull
