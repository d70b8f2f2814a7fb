/-
  The closed facts of seatLater's row, a theorem a limb.
-/
import Derived.JoinedOf
import Derived.Test.YtboeopafnogfmaaGreatChecked
import Derived.Test.YtboeopafnogfmaaGreatRows
namespace Go.Proofs.YtboeopafnogfmaaGreat.seatLater
set_option linter.unusedVariables false
set_option maxRecDepth 100000

theorem and_tt {a b : Bool} (h : a = true) (k : b = true) : (a && b) = true := by rw [h, k]; rfl

theorem jf0 : (Rows.seatLaterUptoRow.wf (OpenSpec.ofChange Rows.seatLaterSpec)) = true := by kernel_rfl

theorem jf1 : (laidOutB Tryz.prog) = true := by kernel_rfl

theorem jf2 : (mapsRowed Tryz.prog) = true := by kernel_rfl

theorem jf3 : (Tryz.f6.params.all (Tryz.prog.readableRec ·)) = true := by kernel_rfl

theorem jf4 : (namedTie Tryz.prog Rows.seatLaterUptoRow.named Rows.seatLaterSpec.vars) = true := by kernel_rfl

theorem jf5 : ((Rows.seatLaterUptoRow.stops == [])) = true := by kernel_rfl

theorem jf6 : ((Tryz.prog.stops == [])) = true := by kernel_rfl

theorem jf7 : ((Rows.seatLaterUptoRow.knobs == [])) = true := by kernel_rfl

theorem jf8 : ((Tryz.prog.stopKnobs == [])) = true := by kernel_rfl

theorem jf9 : ((Rows.seatLaterUptoRow.inPlace == Tryz.prog.inPlace 6)) = true := by kernel_rfl

theorem jf10 : ((Rows.seatLaterUptoRow.unfollowed == Tryz.prog.unfollowed 6)) = true := by kernel_rfl

theorem jf11 : ((Rows.seatLaterUptoRow.recurses == Tryz.prog.recurses 6)) = true := by kernel_rfl

theorem jf12 : ((Rows.seatLaterUptoRow.named == Tryz.prog.varsNamed 6)) = true := by kernel_rfl

theorem jf13 : ((Rows.seatLaterUptoRow.maps == (Tryz.f6.params.toList ++ Rows.seatLaterSpec.plain.varTypes Tryz.prog).any (Tryz.prog.mapsRec ·))) = true := by kernel_rfl

theorem jf14 : ((Rows.seatLaterUptoRow.ifaces == (Tryz.f6.params.toList ++ Rows.seatLaterSpec.plain.varTypes Tryz.prog).any (Tryz.prog.ifacesRec ·))) = true := by kernel_rfl

theorem jf15 : ((Rows.seatLaterUptoRow.mapsOut == Tryz.prog.mapsAmong Tryz.f6.resultTypes.toList)) = true := by kernel_rfl

theorem jf16 : ((Rows.seatLaterUptoRow.loops == (Tryz.f6.params.toList ++ Rows.seatLaterSpec.plain.varTypes Tryz.prog).any (Tryz.prog.loopsFrom ·))) = true := by kernel_rfl

theorem jf17 : ((Rows.seatLaterUptoRow.wideKeys == (Tryz.f6.params.toList ++ Rows.seatLaterSpec.plain.varTypes Tryz.prog ++ Tryz.f6.resultTypes.toList).any (Tryz.prog.wideKeysFrom ·))) = true := by kernel_rfl

theorem jf18 : (Rows.seatLaterSpec.vars.all (Tryz.prog.varReadable ·)) = true := by kernel_rfl

theorem jf19 : (Tryz.f6.resultTypes.all (fun t => Tryz.prog.readableRec t && decide (t < Tryz.prog.types.size))) = true := by kernel_rfl

theorem jf20 : ((Rows.seatLaterUptoRow.ifacesOut == Tryz.f6.resultTypes.toList.any (Tryz.prog.ifacesRec ·))) = true := by kernel_rfl

theorem jf21 : ((Rows.seatLaterUptoRow.loopsOut == Tryz.f6.resultTypes.toList.any (Tryz.prog.loopsFrom ·))) = true := by kernel_rfl

theorem jf22 : ((Rows.seatLaterUptoRow.plainKeys == Tryz.prog.plainKeys)) = true := by kernel_rfl

theorem jf23 : (Rows.seatLaterUptoRow.shortTexts.isNone) = true := by kernel_rfl

theorem jf24 : (Tryz.prog.stopsHeard) = true := by kernel_rfl

theorem jf25 : (Tryz.prog.mayEnter) = true := by kernel_rfl

theorem jf26 : ((Rows.seatLaterUptoRow.lifted == Tryz.prog.liftsFinal)) = true := by kernel_rfl

theorem jf27 : ((Tryz.prog.make == some Rows.seatLaterUptoRow.make)) = true := by kernel_rfl

theorem jf28 : ((Rows.seatLaterUptoRow.kinds == (if Rows.seatLaterUptoRow.domain.isEmpty then [] else Tryz.f6.params.toList.map fun t => match Tryz.prog.underlying t with | some (.int k) => some k | _ => none))) = true := by kernel_rfl

theorem jf29 : ((Rows.seatLaterUptoRow.pinned == Rows.seatLaterUptoRow.pinnedBy)) = true := by kernel_rfl

theorem jf30 : ((Rows.seatLaterUptoRow.veiled == (Tryz.f6.params.toList ++ Rows.seatLaterSpec.plain.varTypes Tryz.prog ++ Tryz.f6.resultTypes.toList).any (Tryz.prog.veiledRec ·))) = true := by kernel_rfl

theorem jf31 : (Rows.seatLaterUptoRow.veiledFits Tryz.prog Tryz.f6.params.toList (Tryz.f6.params.toList ++ Rows.seatLaterSpec.plain.varTypes Tryz.prog ++ Tryz.f6.resultTypes.toList)) = true := by kernel_rfl

theorem jf : joinedFacts Tryz.prog 6 Tryz.f6 Rows.seatLaterSpec Rows.seatLaterUptoRow = true := by unfold joinedFacts; exact (and_tt (and_tt (and_tt (and_tt (and_tt (and_tt (and_tt (and_tt (and_tt (and_tt (and_tt (and_tt (and_tt (and_tt (and_tt (and_tt (and_tt (and_tt (and_tt (and_tt (and_tt (and_tt (and_tt (and_tt (and_tt (and_tt (and_tt (and_tt (and_tt (and_tt (and_tt jf0 jf1) jf2) jf3) jf4) jf5) jf6) jf7) jf8) jf9) jf10) jf11) jf12) jf13) jf14) jf15) jf16) jf17) jf18) jf19) jf20) jf21) jf22) jf23) jf24) jf25) jf26) jf27) jf28) jf29) jf30) jf31)

end Go.Proofs.YtboeopafnogfmaaGreat.seatLater
