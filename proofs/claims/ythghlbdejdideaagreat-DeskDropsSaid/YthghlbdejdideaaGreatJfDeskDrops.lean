/-
  The closed facts of deskDrops's row, a theorem a limb.
-/
import Derived.JoinedOf
import Derived.Test.YthghlbdejdideaaGreatChecked
import Derived.Test.YthghlbdejdideaaGreatRows
namespace Go.Proofs.YthghlbdejdideaaGreat.deskDrops
set_option linter.unusedVariables false
set_option maxRecDepth 100000

theorem and_tt {a b : Bool} (h : a = true) (k : b = true) : (a && b) = true := by rw [h, k]; rfl

theorem jf0 : (Rows.deskDropsRow.wf (OpenSpec.ofChange Rows.deskDropsSpec)) = true := by kernel_rfl

theorem jf1 : (laidOutB Tryz.prog) = true := by kernel_rfl

theorem jf2 : (mapsRowed Tryz.prog) = true := by kernel_rfl

theorem jf3 : (Tryz.f3.params.all (Tryz.prog.readableRec ·)) = true := by kernel_rfl

theorem jf4 : (namedTie Tryz.prog Rows.deskDropsRow.named Rows.deskDropsSpec.vars) = true := by kernel_rfl

theorem jf5 : ((Rows.deskDropsRow.stops == [])) = true := by kernel_rfl

theorem jf6 : ((Tryz.prog.stops == [])) = true := by kernel_rfl

theorem jf7 : ((Rows.deskDropsRow.knobs == [])) = true := by kernel_rfl

theorem jf8 : ((Tryz.prog.stopKnobs == [])) = true := by kernel_rfl

theorem jf9 : ((Rows.deskDropsRow.inPlace == Tryz.prog.inPlace 3)) = true := by kernel_rfl

theorem jf10 : ((Rows.deskDropsRow.unfollowed == Tryz.prog.unfollowed 3)) = true := by kernel_rfl

theorem jf11 : ((Rows.deskDropsRow.recurses == Tryz.prog.recurses 3)) = true := by kernel_rfl

theorem jf12 : ((Rows.deskDropsRow.named == Tryz.prog.varsNamed 3)) = true := by kernel_rfl

theorem jf13 : ((Rows.deskDropsRow.maps == (Tryz.f3.params.toList ++ Rows.deskDropsSpec.plain.varTypes Tryz.prog).any (Tryz.prog.mapsRec ·))) = true := by kernel_rfl

theorem jf14 : ((Rows.deskDropsRow.ifaces == (Tryz.f3.params.toList ++ Rows.deskDropsSpec.plain.varTypes Tryz.prog).any (Tryz.prog.ifacesRec ·))) = true := by kernel_rfl

theorem jf15 : ((Rows.deskDropsRow.mapsOut == Tryz.prog.mapsAmong Tryz.f3.resultTypes.toList)) = true := by kernel_rfl

theorem jf16 : ((Rows.deskDropsRow.loops == (Tryz.f3.params.toList ++ Rows.deskDropsSpec.plain.varTypes Tryz.prog).any (Tryz.prog.loopsFrom ·))) = true := by kernel_rfl

theorem jf17 : ((Rows.deskDropsRow.wideKeys == (Tryz.f3.params.toList ++ Rows.deskDropsSpec.plain.varTypes Tryz.prog ++ Tryz.f3.resultTypes.toList).any (Tryz.prog.wideKeysFrom ·))) = true := by kernel_rfl

theorem jf18 : (Rows.deskDropsSpec.vars.all (Tryz.prog.varReadable ·)) = true := by kernel_rfl

theorem jf19 : (Tryz.f3.resultTypes.all (fun t => Tryz.prog.readableRec t && decide (t < Tryz.prog.types.size))) = true := by kernel_rfl

theorem jf20 : ((Rows.deskDropsRow.ifacesOut == Tryz.f3.resultTypes.toList.any (Tryz.prog.ifacesRec ·))) = true := by kernel_rfl

theorem jf21 : ((Rows.deskDropsRow.loopsOut == Tryz.f3.resultTypes.toList.any (Tryz.prog.loopsFrom ·))) = true := by kernel_rfl

theorem jf22 : ((Rows.deskDropsRow.plainKeys == Tryz.prog.plainKeys)) = true := by kernel_rfl

theorem jf23 : (Rows.deskDropsRow.shortTexts.isNone) = true := by kernel_rfl

theorem jf24 : (Tryz.prog.stopsHeard) = true := by kernel_rfl

theorem jf25 : (Tryz.prog.mayEnter) = true := by kernel_rfl

theorem jf26 : ((Rows.deskDropsRow.lifted == Tryz.prog.liftsFinal)) = true := by kernel_rfl

theorem jf27 : ((Tryz.prog.make == some Rows.deskDropsRow.make)) = true := by kernel_rfl

theorem jf28 : ((Rows.deskDropsRow.kinds == (if Rows.deskDropsRow.domain.isEmpty then [] else Tryz.f3.params.toList.map fun t => match Tryz.prog.underlying t with | some (.int k) => some k | _ => none))) = true := by kernel_rfl

theorem jf29 : ((Rows.deskDropsRow.pinned == Rows.deskDropsRow.pinnedBy)) = true := by kernel_rfl

theorem jf30 : ((Rows.deskDropsRow.veiled == (Tryz.f3.params.toList ++ Rows.deskDropsSpec.plain.varTypes Tryz.prog ++ Tryz.f3.resultTypes.toList).any (Tryz.prog.veiledRec ·))) = true := by kernel_rfl

theorem jf31 : (Rows.deskDropsRow.veiledFits Tryz.prog Tryz.f3.params.toList (Tryz.f3.params.toList ++ Rows.deskDropsSpec.plain.varTypes Tryz.prog ++ Tryz.f3.resultTypes.toList)) = true := by kernel_rfl

theorem jf : joinedFacts Tryz.prog 3 Tryz.f3 Rows.deskDropsSpec Rows.deskDropsRow = true := by unfold joinedFacts; exact (and_tt (and_tt (and_tt (and_tt (and_tt (and_tt (and_tt (and_tt (and_tt (and_tt (and_tt (and_tt (and_tt (and_tt (and_tt (and_tt (and_tt (and_tt (and_tt (and_tt (and_tt (and_tt (and_tt (and_tt (and_tt (and_tt (and_tt (and_tt (and_tt (and_tt (and_tt jf0 jf1) jf2) jf3) jf4) jf5) jf6) jf7) jf8) jf9) jf10) jf11) jf12) jf13) jf14) jf15) jf16) jf17) jf18) jf19) jf20) jf21) jf22) jf23) jf24) jf25) jf26) jf27) jf28) jf29) jf30) jf31)

end Go.Proofs.YthghlbdejdideaaGreat.deskDrops
