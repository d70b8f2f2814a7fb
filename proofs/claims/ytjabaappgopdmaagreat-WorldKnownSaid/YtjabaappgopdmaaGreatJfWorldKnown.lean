/-
  The closed facts of worldKnown's row, a theorem a limb.
-/
import Derived.JoinedOf
import Derived.Test.YtjabaappgopdmaaGreatChecked
import Derived.Test.YtjabaappgopdmaaGreatRows
namespace Go.Proofs.YtjabaappgopdmaaGreat.worldKnown
set_option linter.unusedVariables false
set_option maxRecDepth 100000

theorem and_tt {a b : Bool} (h : a = true) (k : b = true) : (a && b) = true := by rw [h, k]; rfl

theorem jf0 : (Rows.worldKnownRow.wf (OpenSpec.ofChange Rows.worldKnownSpec)) = true := by kernel_rfl

theorem jf1 : (laidOutB Tryz.prog) = true := by kernel_rfl

theorem jf2 : (mapsRowed Tryz.prog) = true := by kernel_rfl

theorem jf3 : (Tryz.f3.params.all (Tryz.prog.readableRec ·)) = true := by kernel_rfl

theorem jf4 : (namedTie Tryz.prog Rows.worldKnownRow.named Rows.worldKnownSpec.vars) = true := by kernel_rfl

theorem jf5 : ((Rows.worldKnownRow.stops == [])) = true := by kernel_rfl

theorem jf6 : ((Tryz.prog.stops == [])) = true := by kernel_rfl

theorem jf7 : ((Rows.worldKnownRow.knobs == [])) = true := by kernel_rfl

theorem jf8 : ((Tryz.prog.stopKnobs == [])) = true := by kernel_rfl

theorem jf9 : ((Rows.worldKnownRow.inPlace == Tryz.prog.inPlace 3)) = true := by kernel_rfl

theorem jf10 : ((Rows.worldKnownRow.unfollowed == Tryz.prog.unfollowed 3)) = true := by kernel_rfl

theorem jf11 : ((Rows.worldKnownRow.recurses == Tryz.prog.recurses 3)) = true := by kernel_rfl

theorem jf12 : ((Rows.worldKnownRow.named == Tryz.prog.varsNamed 3)) = true := by kernel_rfl

theorem jf13 : ((Rows.worldKnownRow.maps == (Tryz.f3.params.toList ++ Rows.worldKnownSpec.plain.varTypes Tryz.prog).any (Tryz.prog.mapsRec ·))) = true := by kernel_rfl

theorem jf14 : ((Rows.worldKnownRow.ifaces == (Tryz.f3.params.toList ++ Rows.worldKnownSpec.plain.varTypes Tryz.prog).any (Tryz.prog.ifacesRec ·))) = true := by kernel_rfl

theorem jf15 : ((Rows.worldKnownRow.mapsOut == Tryz.prog.mapsAmong Tryz.f3.resultTypes.toList)) = true := by kernel_rfl

theorem jf16 : ((Rows.worldKnownRow.loops == (Tryz.f3.params.toList ++ Rows.worldKnownSpec.plain.varTypes Tryz.prog).any (Tryz.prog.loopsFrom ·))) = true := by kernel_rfl

theorem jf17 : ((Rows.worldKnownRow.wideKeys == (Tryz.f3.params.toList ++ Rows.worldKnownSpec.plain.varTypes Tryz.prog ++ Tryz.f3.resultTypes.toList).any (Tryz.prog.wideKeysFrom ·))) = true := by kernel_rfl

theorem jf18 : (Rows.worldKnownSpec.vars.all (Tryz.prog.varReadable ·)) = true := by kernel_rfl

theorem jf19 : (Tryz.f3.resultTypes.all (fun t => Tryz.prog.readableRec t && decide (t < Tryz.prog.types.size))) = true := by kernel_rfl

theorem jf20 : ((Rows.worldKnownRow.ifacesOut == Tryz.f3.resultTypes.toList.any (Tryz.prog.ifacesRec ·))) = true := by kernel_rfl

theorem jf21 : ((Rows.worldKnownRow.loopsOut == Tryz.f3.resultTypes.toList.any (Tryz.prog.loopsFrom ·))) = true := by kernel_rfl

theorem jf22 : ((Rows.worldKnownRow.plainKeys == Tryz.prog.plainKeys)) = true := by kernel_rfl

theorem jf23 : (Rows.worldKnownRow.shortTexts.isNone) = true := by kernel_rfl

theorem jf24 : (Tryz.prog.stopsHeard) = true := by kernel_rfl

theorem jf25 : (Tryz.prog.mayEnter) = true := by kernel_rfl

theorem jf26 : ((Rows.worldKnownRow.lifted == Tryz.prog.liftsFinal)) = true := by kernel_rfl

theorem jf27 : ((Tryz.prog.make == some Rows.worldKnownRow.make)) = true := by kernel_rfl

theorem jf28 : ((Rows.worldKnownRow.kinds == (if Rows.worldKnownRow.domain.isEmpty then [] else Tryz.f3.params.toList.map fun t => match Tryz.prog.underlying t with | some (.int k) => some k | _ => none))) = true := by kernel_rfl

theorem jf29 : ((Rows.worldKnownRow.pinned == Rows.worldKnownRow.pinnedBy)) = true := by kernel_rfl

theorem jf30 : ((Rows.worldKnownRow.veiled == (Tryz.f3.params.toList ++ Rows.worldKnownSpec.plain.varTypes Tryz.prog ++ Tryz.f3.resultTypes.toList).any (Tryz.prog.veiledRec ·))) = true := by kernel_rfl

theorem jf31 : (Rows.worldKnownRow.veiledFits Tryz.prog Tryz.f3.params.toList (Tryz.f3.params.toList ++ Rows.worldKnownSpec.plain.varTypes Tryz.prog ++ Tryz.f3.resultTypes.toList)) = true := by kernel_rfl

theorem jf : joinedFacts Tryz.prog 3 Tryz.f3 Rows.worldKnownSpec Rows.worldKnownRow = true := by unfold joinedFacts; exact (and_tt (and_tt (and_tt (and_tt (and_tt (and_tt (and_tt (and_tt (and_tt (and_tt (and_tt (and_tt (and_tt (and_tt (and_tt (and_tt (and_tt (and_tt (and_tt (and_tt (and_tt (and_tt (and_tt (and_tt (and_tt (and_tt (and_tt (and_tt (and_tt (and_tt (and_tt jf0 jf1) jf2) jf3) jf4) jf5) jf6) jf7) jf8) jf9) jf10) jf11) jf12) jf13) jf14) jf15) jf16) jf17) jf18) jf19) jf20) jf21) jf22) jf23) jf24) jf25) jf26) jf27) jf28) jf29) jf30) jf31)

end Go.Proofs.YtjabaappgopdmaaGreat.worldKnown
