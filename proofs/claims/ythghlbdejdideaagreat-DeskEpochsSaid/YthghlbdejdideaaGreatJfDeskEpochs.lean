/-
  The closed facts of deskEpochs's row, a theorem a limb.
-/
import Derived.JoinedOf
import Derived.Test.YthghlbdejdideaaGreatChecked
import Derived.Test.YthghlbdejdideaaGreatRows
namespace Go.Proofs.YthghlbdejdideaaGreat.deskEpochs
set_option linter.unusedVariables false
set_option maxRecDepth 100000

theorem and_tt {a b : Bool} (h : a = true) (k : b = true) : (a && b) = true := by rw [h, k]; rfl

theorem jf0 : (Rows.deskEpochsRow.wf (OpenSpec.ofChange Rows.deskEpochsSpec)) = true := by kernel_rfl

theorem jf1 : (laidOutB Tryz.prog) = true := by kernel_rfl

theorem jf2 : (mapsRowed Tryz.prog) = true := by kernel_rfl

theorem jf3 : (Tryz.f9.params.all (Tryz.prog.readableRec ·)) = true := by kernel_rfl

theorem jf4 : (namedTie Tryz.prog Rows.deskEpochsRow.named Rows.deskEpochsSpec.vars) = true := by kernel_rfl

theorem jf5 : ((Rows.deskEpochsRow.stops == [])) = true := by kernel_rfl

theorem jf6 : ((Tryz.prog.stops == [])) = true := by kernel_rfl

theorem jf7 : ((Rows.deskEpochsRow.knobs == [])) = true := by kernel_rfl

theorem jf8 : ((Tryz.prog.stopKnobs == [])) = true := by kernel_rfl

theorem jf9 : ((Rows.deskEpochsRow.inPlace == Tryz.prog.inPlace 9)) = true := by kernel_rfl

theorem jf10 : ((Rows.deskEpochsRow.unfollowed == Tryz.prog.unfollowed 9)) = true := by kernel_rfl

theorem jf11 : ((Rows.deskEpochsRow.recurses == Tryz.prog.recurses 9)) = true := by kernel_rfl

theorem jf12 : ((Rows.deskEpochsRow.named == Tryz.prog.varsNamed 9)) = true := by kernel_rfl

theorem jf13 : ((Rows.deskEpochsRow.maps == (Tryz.f9.params.toList ++ Rows.deskEpochsSpec.plain.varTypes Tryz.prog).any (Tryz.prog.mapsRec ·))) = true := by kernel_rfl

theorem jf14 : ((Rows.deskEpochsRow.ifaces == (Tryz.f9.params.toList ++ Rows.deskEpochsSpec.plain.varTypes Tryz.prog).any (Tryz.prog.ifacesRec ·))) = true := by kernel_rfl

theorem jf15 : ((Rows.deskEpochsRow.mapsOut == Tryz.prog.mapsAmong Tryz.f9.resultTypes.toList)) = true := by kernel_rfl

theorem jf16 : ((Rows.deskEpochsRow.loops == (Tryz.f9.params.toList ++ Rows.deskEpochsSpec.plain.varTypes Tryz.prog).any (Tryz.prog.loopsFrom ·))) = true := by kernel_rfl

theorem jf17 : ((Rows.deskEpochsRow.wideKeys == (Tryz.f9.params.toList ++ Rows.deskEpochsSpec.plain.varTypes Tryz.prog ++ Tryz.f9.resultTypes.toList).any (Tryz.prog.wideKeysFrom ·))) = true := by kernel_rfl

theorem jf18 : (Rows.deskEpochsSpec.vars.all (Tryz.prog.varReadable ·)) = true := by kernel_rfl

theorem jf19 : (Tryz.f9.resultTypes.all (fun t => Tryz.prog.readableRec t && decide (t < Tryz.prog.types.size))) = true := by kernel_rfl

theorem jf20 : ((Rows.deskEpochsRow.ifacesOut == Tryz.f9.resultTypes.toList.any (Tryz.prog.ifacesRec ·))) = true := by kernel_rfl

theorem jf21 : ((Rows.deskEpochsRow.loopsOut == Tryz.f9.resultTypes.toList.any (Tryz.prog.loopsFrom ·))) = true := by kernel_rfl

theorem jf22 : ((Rows.deskEpochsRow.plainKeys == Tryz.prog.plainKeys)) = true := by kernel_rfl

theorem jf23 : (Rows.deskEpochsRow.shortTexts.isNone) = true := by kernel_rfl

theorem jf24 : (Tryz.prog.stopsHeard) = true := by kernel_rfl

theorem jf25 : (Tryz.prog.mayEnter) = true := by kernel_rfl

theorem jf26 : ((Rows.deskEpochsRow.lifted == Tryz.prog.liftsFinal)) = true := by kernel_rfl

theorem jf27 : ((Tryz.prog.make == some Rows.deskEpochsRow.make)) = true := by kernel_rfl

theorem jf28 : ((Rows.deskEpochsRow.kinds == (if Rows.deskEpochsRow.domain.isEmpty then [] else Tryz.f9.params.toList.map fun t => match Tryz.prog.underlying t with | some (.int k) => some k | _ => none))) = true := by kernel_rfl

theorem jf29 : ((Rows.deskEpochsRow.pinned == Rows.deskEpochsRow.pinnedBy)) = true := by kernel_rfl

theorem jf30 : ((Rows.deskEpochsRow.veiled == (Tryz.f9.params.toList ++ Rows.deskEpochsSpec.plain.varTypes Tryz.prog ++ Tryz.f9.resultTypes.toList).any (Tryz.prog.veiledRec ·))) = true := by kernel_rfl

theorem jf31 : (Rows.deskEpochsRow.veiledFits Tryz.prog Tryz.f9.params.toList (Tryz.f9.params.toList ++ Rows.deskEpochsSpec.plain.varTypes Tryz.prog ++ Tryz.f9.resultTypes.toList)) = true := by kernel_rfl

theorem jf : joinedFacts Tryz.prog 9 Tryz.f9 Rows.deskEpochsSpec Rows.deskEpochsRow = true := by unfold joinedFacts; exact (and_tt (and_tt (and_tt (and_tt (and_tt (and_tt (and_tt (and_tt (and_tt (and_tt (and_tt (and_tt (and_tt (and_tt (and_tt (and_tt (and_tt (and_tt (and_tt (and_tt (and_tt (and_tt (and_tt (and_tt (and_tt (and_tt (and_tt (and_tt (and_tt (and_tt (and_tt jf0 jf1) jf2) jf3) jf4) jf5) jf6) jf7) jf8) jf9) jf10) jf11) jf12) jf13) jf14) jf15) jf16) jf17) jf18) jf19) jf20) jf21) jf22) jf23) jf24) jf25) jf26) jf27) jf28) jf29) jf30) jf31)

end Go.Proofs.YthghlbdejdideaaGreat.deskEpochs
