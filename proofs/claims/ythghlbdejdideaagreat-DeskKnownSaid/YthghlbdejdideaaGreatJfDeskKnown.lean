/-
  The closed facts of deskKnown's row, a theorem a limb.
-/
import Derived.JoinedOf
import Derived.Test.YthghlbdejdideaaGreatChecked
import Derived.Test.YthghlbdejdideaaGreatRows
namespace Go.Proofs.YthghlbdejdideaaGreat.deskKnown
set_option linter.unusedVariables false
set_option maxRecDepth 100000

theorem and_tt {a b : Bool} (h : a = true) (k : b = true) : (a && b) = true := by rw [h, k]; rfl

theorem jf0 : (Rows.deskKnownRow.wf (OpenSpec.ofChange Rows.deskKnownSpec)) = true := by kernel_rfl

theorem jf1 : (laidOutB Tryz.prog) = true := by kernel_rfl

theorem jf2 : (mapsRowed Tryz.prog) = true := by kernel_rfl

theorem jf3 : (Tryz.f10.params.all (Tryz.prog.readableRec ·)) = true := by kernel_rfl

theorem jf4 : (namedTie Tryz.prog Rows.deskKnownRow.named Rows.deskKnownSpec.vars) = true := by kernel_rfl

theorem jf5 : ((Rows.deskKnownRow.stops == [])) = true := by kernel_rfl

theorem jf6 : ((Tryz.prog.stops == [])) = true := by kernel_rfl

theorem jf7 : ((Rows.deskKnownRow.knobs == [])) = true := by kernel_rfl

theorem jf8 : ((Tryz.prog.stopKnobs == [])) = true := by kernel_rfl

theorem jf9 : ((Rows.deskKnownRow.inPlace == Tryz.prog.inPlace 10)) = true := by kernel_rfl

theorem jf10 : ((Rows.deskKnownRow.unfollowed == Tryz.prog.unfollowed 10)) = true := by kernel_rfl

theorem jf11 : ((Rows.deskKnownRow.recurses == Tryz.prog.recurses 10)) = true := by kernel_rfl

theorem jf12 : ((Rows.deskKnownRow.named == Tryz.prog.varsNamed 10)) = true := by kernel_rfl

theorem jf13 : ((Rows.deskKnownRow.maps == (Tryz.f10.params.toList ++ Rows.deskKnownSpec.plain.varTypes Tryz.prog).any (Tryz.prog.mapsRec ·))) = true := by kernel_rfl

theorem jf14 : ((Rows.deskKnownRow.ifaces == (Tryz.f10.params.toList ++ Rows.deskKnownSpec.plain.varTypes Tryz.prog).any (Tryz.prog.ifacesRec ·))) = true := by kernel_rfl

theorem jf15 : ((Rows.deskKnownRow.mapsOut == Tryz.prog.mapsAmong Tryz.f10.resultTypes.toList)) = true := by kernel_rfl

theorem jf16 : ((Rows.deskKnownRow.loops == (Tryz.f10.params.toList ++ Rows.deskKnownSpec.plain.varTypes Tryz.prog).any (Tryz.prog.loopsFrom ·))) = true := by kernel_rfl

theorem jf17 : ((Rows.deskKnownRow.wideKeys == (Tryz.f10.params.toList ++ Rows.deskKnownSpec.plain.varTypes Tryz.prog ++ Tryz.f10.resultTypes.toList).any (Tryz.prog.wideKeysFrom ·))) = true := by kernel_rfl

theorem jf18 : (Rows.deskKnownSpec.vars.all (Tryz.prog.varReadable ·)) = true := by kernel_rfl

theorem jf19 : (Tryz.f10.resultTypes.all (fun t => Tryz.prog.readableRec t && decide (t < Tryz.prog.types.size))) = true := by kernel_rfl

theorem jf20 : ((Rows.deskKnownRow.ifacesOut == Tryz.f10.resultTypes.toList.any (Tryz.prog.ifacesRec ·))) = true := by kernel_rfl

theorem jf21 : ((Rows.deskKnownRow.loopsOut == Tryz.f10.resultTypes.toList.any (Tryz.prog.loopsFrom ·))) = true := by kernel_rfl

theorem jf22 : ((Rows.deskKnownRow.plainKeys == Tryz.prog.plainKeys)) = true := by kernel_rfl

theorem jf23 : (Rows.deskKnownRow.shortTexts.isNone) = true := by kernel_rfl

theorem jf24 : (Tryz.prog.stopsHeard) = true := by kernel_rfl

theorem jf25 : (Tryz.prog.mayEnter) = true := by kernel_rfl

theorem jf26 : ((Rows.deskKnownRow.lifted == Tryz.prog.liftsFinal)) = true := by kernel_rfl

theorem jf27 : ((Tryz.prog.make == some Rows.deskKnownRow.make)) = true := by kernel_rfl

theorem jf28 : ((Rows.deskKnownRow.kinds == (if Rows.deskKnownRow.domain.isEmpty then [] else Tryz.f10.params.toList.map fun t => match Tryz.prog.underlying t with | some (.int k) => some k | _ => none))) = true := by kernel_rfl

theorem jf29 : ((Rows.deskKnownRow.pinned == Rows.deskKnownRow.pinnedBy)) = true := by kernel_rfl

theorem jf30 : ((Rows.deskKnownRow.veiled == (Tryz.f10.params.toList ++ Rows.deskKnownSpec.plain.varTypes Tryz.prog ++ Tryz.f10.resultTypes.toList).any (Tryz.prog.veiledRec ·))) = true := by kernel_rfl

theorem jf31 : (Rows.deskKnownRow.veiledFits Tryz.prog Tryz.f10.params.toList (Tryz.f10.params.toList ++ Rows.deskKnownSpec.plain.varTypes Tryz.prog ++ Tryz.f10.resultTypes.toList)) = true := by kernel_rfl

theorem jf : joinedFacts Tryz.prog 10 Tryz.f10 Rows.deskKnownSpec Rows.deskKnownRow = true := by unfold joinedFacts; exact (and_tt (and_tt (and_tt (and_tt (and_tt (and_tt (and_tt (and_tt (and_tt (and_tt (and_tt (and_tt (and_tt (and_tt (and_tt (and_tt (and_tt (and_tt (and_tt (and_tt (and_tt (and_tt (and_tt (and_tt (and_tt (and_tt (and_tt (and_tt (and_tt (and_tt (and_tt jf0 jf1) jf2) jf3) jf4) jf5) jf6) jf7) jf8) jf9) jf10) jf11) jf12) jf13) jf14) jf15) jf16) jf17) jf18) jf19) jf20) jf21) jf22) jf23) jf24) jf25) jf26) jf27) jf28) jf29) jf30) jf31)

end Go.Proofs.YthghlbdejdideaaGreat.deskKnown
