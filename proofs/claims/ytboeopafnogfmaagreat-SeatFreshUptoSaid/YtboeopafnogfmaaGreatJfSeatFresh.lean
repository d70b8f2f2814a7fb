/-
  The closed facts of seatFresh's row, a theorem a limb.
-/
import Derived.JoinedOf
import Derived.Test.YtboeopafnogfmaaGreatChecked
import Derived.Test.YtboeopafnogfmaaGreatRows
namespace Go.Proofs.YtboeopafnogfmaaGreat.seatFresh
set_option linter.unusedVariables false
set_option maxRecDepth 100000

theorem and_tt {a b : Bool} (h : a = true) (k : b = true) : (a && b) = true := by rw [h, k]; rfl

theorem jf0 : (Rows.seatFreshUptoRow.wf (OpenSpec.ofChange Rows.seatFreshSpec)) = true := by kernel_rfl

theorem jf1 : (laidOutB Tryz.prog) = true := by kernel_rfl

theorem jf2 : (mapsRowed Tryz.prog) = true := by kernel_rfl

theorem jf3 : (Tryz.f5.params.all (Tryz.prog.readableRec ·)) = true := by kernel_rfl

theorem jf4 : (namedTie Tryz.prog Rows.seatFreshUptoRow.named Rows.seatFreshSpec.vars) = true := by kernel_rfl

theorem jf5 : ((Rows.seatFreshUptoRow.stops == [])) = true := by kernel_rfl

theorem jf6 : ((Tryz.prog.stops == [])) = true := by kernel_rfl

theorem jf7 : ((Rows.seatFreshUptoRow.knobs == [])) = true := by kernel_rfl

theorem jf8 : ((Tryz.prog.stopKnobs == [])) = true := by kernel_rfl

theorem jf9 : ((Rows.seatFreshUptoRow.inPlace == Tryz.prog.inPlace 5)) = true := by kernel_rfl

theorem jf10 : ((Rows.seatFreshUptoRow.unfollowed == Tryz.prog.unfollowed 5)) = true := by kernel_rfl

theorem jf11 : ((Rows.seatFreshUptoRow.recurses == Tryz.prog.recurses 5)) = true := by kernel_rfl

theorem jf12 : ((Rows.seatFreshUptoRow.named == Tryz.prog.varsNamed 5)) = true := by kernel_rfl

theorem jf13 : ((Rows.seatFreshUptoRow.maps == (Tryz.f5.params.toList ++ Rows.seatFreshSpec.plain.varTypes Tryz.prog).any (Tryz.prog.mapsRec ·))) = true := by kernel_rfl

theorem jf14 : ((Rows.seatFreshUptoRow.ifaces == (Tryz.f5.params.toList ++ Rows.seatFreshSpec.plain.varTypes Tryz.prog).any (Tryz.prog.ifacesRec ·))) = true := by kernel_rfl

theorem jf15 : ((Rows.seatFreshUptoRow.mapsOut == Tryz.prog.mapsAmong Tryz.f5.resultTypes.toList)) = true := by kernel_rfl

theorem jf16 : ((Rows.seatFreshUptoRow.loops == (Tryz.f5.params.toList ++ Rows.seatFreshSpec.plain.varTypes Tryz.prog).any (Tryz.prog.loopsFrom ·))) = true := by kernel_rfl

theorem jf17 : ((Rows.seatFreshUptoRow.wideKeys == (Tryz.f5.params.toList ++ Rows.seatFreshSpec.plain.varTypes Tryz.prog ++ Tryz.f5.resultTypes.toList).any (Tryz.prog.wideKeysFrom ·))) = true := by kernel_rfl

theorem jf18 : (Rows.seatFreshSpec.vars.all (Tryz.prog.varReadable ·)) = true := by kernel_rfl

theorem jf19 : (Tryz.f5.resultTypes.all (fun t => Tryz.prog.readableRec t && decide (t < Tryz.prog.types.size))) = true := by kernel_rfl

theorem jf20 : ((Rows.seatFreshUptoRow.ifacesOut == Tryz.f5.resultTypes.toList.any (Tryz.prog.ifacesRec ·))) = true := by kernel_rfl

theorem jf21 : ((Rows.seatFreshUptoRow.loopsOut == Tryz.f5.resultTypes.toList.any (Tryz.prog.loopsFrom ·))) = true := by kernel_rfl

theorem jf22 : ((Rows.seatFreshUptoRow.plainKeys == Tryz.prog.plainKeys)) = true := by kernel_rfl

theorem jf23 : (Rows.seatFreshUptoRow.shortTexts.isNone) = true := by kernel_rfl

theorem jf24 : (Tryz.prog.stopsHeard) = true := by kernel_rfl

theorem jf25 : (Tryz.prog.mayEnter) = true := by kernel_rfl

theorem jf26 : ((Rows.seatFreshUptoRow.lifted == Tryz.prog.liftsFinal)) = true := by kernel_rfl

theorem jf27 : ((Tryz.prog.make == some Rows.seatFreshUptoRow.make)) = true := by kernel_rfl

theorem jf28 : ((Rows.seatFreshUptoRow.kinds == (if Rows.seatFreshUptoRow.domain.isEmpty then [] else Tryz.f5.params.toList.map fun t => match Tryz.prog.underlying t with | some (.int k) => some k | _ => none))) = true := by kernel_rfl

theorem jf29 : ((Rows.seatFreshUptoRow.pinned == Rows.seatFreshUptoRow.pinnedBy)) = true := by kernel_rfl

theorem jf30 : ((Rows.seatFreshUptoRow.veiled == (Tryz.f5.params.toList ++ Rows.seatFreshSpec.plain.varTypes Tryz.prog ++ Tryz.f5.resultTypes.toList).any (Tryz.prog.veiledRec ·))) = true := by kernel_rfl

theorem jf31 : (Rows.seatFreshUptoRow.veiledFits Tryz.prog Tryz.f5.params.toList (Tryz.f5.params.toList ++ Rows.seatFreshSpec.plain.varTypes Tryz.prog ++ Tryz.f5.resultTypes.toList)) = true := by kernel_rfl

theorem jf : joinedFacts Tryz.prog 5 Tryz.f5 Rows.seatFreshSpec Rows.seatFreshUptoRow = true := by unfold joinedFacts; exact (and_tt (and_tt (and_tt (and_tt (and_tt (and_tt (and_tt (and_tt (and_tt (and_tt (and_tt (and_tt (and_tt (and_tt (and_tt (and_tt (and_tt (and_tt (and_tt (and_tt (and_tt (and_tt (and_tt (and_tt (and_tt (and_tt (and_tt (and_tt (and_tt (and_tt (and_tt jf0 jf1) jf2) jf3) jf4) jf5) jf6) jf7) jf8) jf9) jf10) jf11) jf12) jf13) jf14) jf15) jf16) jf17) jf18) jf19) jf20) jf21) jf22) jf23) jf24) jf25) jf26) jf27) jf28) jf29) jf30) jf31)

end Go.Proofs.YtboeopafnogfmaaGreat.seatFresh
