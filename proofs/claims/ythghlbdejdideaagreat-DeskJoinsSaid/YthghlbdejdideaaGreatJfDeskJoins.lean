/-
  The closed facts of deskJoins's row, a theorem a limb.
-/
import Derived.JoinedOf
import Derived.Test.YthghlbdejdideaaGreatChecked
import Derived.Test.YthghlbdejdideaaGreatRows
namespace Go.Proofs.YthghlbdejdideaaGreat.deskJoins
set_option linter.unusedVariables false
set_option maxRecDepth 100000

theorem and_tt {a b : Bool} (h : a = true) (k : b = true) : (a && b) = true := by rw [h, k]; rfl

theorem jf0 : (Rows.deskJoinsRow.wf (OpenSpec.ofChange Rows.deskJoinsSpec)) = true := by kernel_rfl

theorem jf1 : (laidOutB Tryz.prog) = true := by kernel_rfl

theorem jf2 : (mapsRowed Tryz.prog) = true := by kernel_rfl

theorem jf3 : (Tryz.f4.params.all (Tryz.prog.readableRec ·)) = true := by kernel_rfl

theorem jf4 : (namedTie Tryz.prog Rows.deskJoinsRow.named Rows.deskJoinsSpec.vars) = true := by kernel_rfl

theorem jf5 : ((Rows.deskJoinsRow.stops == [])) = true := by kernel_rfl

theorem jf6 : ((Tryz.prog.stops == [])) = true := by kernel_rfl

theorem jf7 : ((Rows.deskJoinsRow.knobs == [])) = true := by kernel_rfl

theorem jf8 : ((Tryz.prog.stopKnobs == [])) = true := by kernel_rfl

theorem jf9 : ((Rows.deskJoinsRow.inPlace == Tryz.prog.inPlace 4)) = true := by kernel_rfl

theorem jf10 : ((Rows.deskJoinsRow.unfollowed == Tryz.prog.unfollowed 4)) = true := by kernel_rfl

theorem jf11 : ((Rows.deskJoinsRow.recurses == Tryz.prog.recurses 4)) = true := by kernel_rfl

theorem jf12 : ((Rows.deskJoinsRow.named == Tryz.prog.varsNamed 4)) = true := by kernel_rfl

theorem jf13 : ((Rows.deskJoinsRow.maps == (Tryz.f4.params.toList ++ Rows.deskJoinsSpec.plain.varTypes Tryz.prog).any (Tryz.prog.mapsRec ·))) = true := by kernel_rfl

theorem jf14 : ((Rows.deskJoinsRow.ifaces == (Tryz.f4.params.toList ++ Rows.deskJoinsSpec.plain.varTypes Tryz.prog).any (Tryz.prog.ifacesRec ·))) = true := by kernel_rfl

theorem jf15 : ((Rows.deskJoinsRow.mapsOut == Tryz.prog.mapsAmong Tryz.f4.resultTypes.toList)) = true := by kernel_rfl

theorem jf16 : ((Rows.deskJoinsRow.loops == (Tryz.f4.params.toList ++ Rows.deskJoinsSpec.plain.varTypes Tryz.prog).any (Tryz.prog.loopsFrom ·))) = true := by kernel_rfl

theorem jf17 : ((Rows.deskJoinsRow.wideKeys == (Tryz.f4.params.toList ++ Rows.deskJoinsSpec.plain.varTypes Tryz.prog ++ Tryz.f4.resultTypes.toList).any (Tryz.prog.wideKeysFrom ·))) = true := by kernel_rfl

theorem jf18 : (Rows.deskJoinsSpec.vars.all (Tryz.prog.varReadable ·)) = true := by kernel_rfl

theorem jf19 : (Tryz.f4.resultTypes.all (fun t => Tryz.prog.readableRec t && decide (t < Tryz.prog.types.size))) = true := by kernel_rfl

theorem jf20 : ((Rows.deskJoinsRow.ifacesOut == Tryz.f4.resultTypes.toList.any (Tryz.prog.ifacesRec ·))) = true := by kernel_rfl

theorem jf21 : ((Rows.deskJoinsRow.loopsOut == Tryz.f4.resultTypes.toList.any (Tryz.prog.loopsFrom ·))) = true := by kernel_rfl

theorem jf22 : ((Rows.deskJoinsRow.plainKeys == Tryz.prog.plainKeys)) = true := by kernel_rfl

theorem jf23 : (Rows.deskJoinsRow.shortTexts.isNone) = true := by kernel_rfl

theorem jf24 : (Tryz.prog.stopsHeard) = true := by kernel_rfl

theorem jf25 : (Tryz.prog.mayEnter) = true := by kernel_rfl

theorem jf26 : ((Rows.deskJoinsRow.lifted == Tryz.prog.liftsFinal)) = true := by kernel_rfl

theorem jf27 : ((Tryz.prog.make == some Rows.deskJoinsRow.make)) = true := by kernel_rfl

theorem jf28 : ((Rows.deskJoinsRow.kinds == (if Rows.deskJoinsRow.domain.isEmpty then [] else Tryz.f4.params.toList.map fun t => match Tryz.prog.underlying t with | some (.int k) => some k | _ => none))) = true := by kernel_rfl

theorem jf29 : ((Rows.deskJoinsRow.pinned == Rows.deskJoinsRow.pinnedBy)) = true := by kernel_rfl

theorem jf30 : ((Rows.deskJoinsRow.veiled == (Tryz.f4.params.toList ++ Rows.deskJoinsSpec.plain.varTypes Tryz.prog ++ Tryz.f4.resultTypes.toList).any (Tryz.prog.veiledRec ·))) = true := by kernel_rfl

theorem jf31 : (Rows.deskJoinsRow.veiledFits Tryz.prog Tryz.f4.params.toList (Tryz.f4.params.toList ++ Rows.deskJoinsSpec.plain.varTypes Tryz.prog ++ Tryz.f4.resultTypes.toList)) = true := by kernel_rfl

theorem jf : joinedFacts Tryz.prog 4 Tryz.f4 Rows.deskJoinsSpec Rows.deskJoinsRow = true := by unfold joinedFacts; exact (and_tt (and_tt (and_tt (and_tt (and_tt (and_tt (and_tt (and_tt (and_tt (and_tt (and_tt (and_tt (and_tt (and_tt (and_tt (and_tt (and_tt (and_tt (and_tt (and_tt (and_tt (and_tt (and_tt (and_tt (and_tt (and_tt (and_tt (and_tt (and_tt (and_tt (and_tt jf0 jf1) jf2) jf3) jf4) jf5) jf6) jf7) jf8) jf9) jf10) jf11) jf12) jf13) jf14) jf15) jf16) jf17) jf18) jf19) jf20) jf21) jf22) jf23) jf24) jf25) jf26) jf27) jf28) jf29) jf30) jf31)

end Go.Proofs.YthghlbdejdideaaGreat.deskJoins
