/- The row's closed facts: NotebookReads. -/
import Derived.Test.YtfgihmgeplcfoaaGreatDoorRows
import Derived.Test.YtfgihmgeplcfoaaGreatDoorCards
import Derived.JoinedOf
import Derived.KernelRfl
set_option linter.unusedSectionVars false
set_option linter.unusedVariables false
set_option linter.unusedSimpArgs false
namespace Go.Proofs.YtfgihmgeplcfoaaGreatDoor
set_option maxRecDepth 100000
theorem and_t4 {a b : Bool} (h1 : a = true) (h2 : b = true) : (a && b) = true := by rw [h1, h2]; rfl
theorem jf4_0 : (Rows.notebookReadsRow.wf (OpenSpec.ofChange Rows.notebookReadsSpec)) = true := by kernel_rfl
theorem jf4_1 : (laidOutB Tryz.pinned.checked.prog) = true := by kernel_rfl
theorem jf4_2 : (mapsRowed Tryz.pinned.checked.prog) = true := by kernel_rfl
theorem jf4_3 : (Tryz.f4.params.all (Tryz.pinned.checked.prog.readableRec ·)) = true := by kernel_rfl
theorem jf4_4 : (namedTie Tryz.pinned.checked.prog Rows.notebookReadsRow.named Rows.notebookReadsSpec.vars) = true := by kernel_rfl
theorem jf4_5 : ((Rows.notebookReadsRow.stops == [])) = true := by kernel_rfl
theorem jf4_6 : ((Tryz.pinned.checked.prog.stops == [])) = true := by kernel_rfl
theorem jf4_7 : ((Rows.notebookReadsRow.knobs == [])) = true := by kernel_rfl
theorem jf4_8 : ((Tryz.pinned.checked.prog.stopKnobs == [])) = true := by kernel_rfl
theorem jf4_9 : ((Rows.notebookReadsRow.inPlace == Tryz.pinned.checked.prog.inPlace 4)) = true := by kernel_rfl
theorem jf4_10 : ((Rows.notebookReadsRow.unfollowed == Tryz.pinned.checked.prog.unfollowed 4)) = true := by kernel_rfl
theorem jf4_11 : ((Rows.notebookReadsRow.recurses == Tryz.pinned.checked.prog.recurses 4)) = true := by kernel_rfl
theorem jf4_12 : ((Rows.notebookReadsRow.named == Tryz.pinned.checked.prog.varsNamed 4)) = true := by kernel_rfl
theorem jf4_13 : ((Rows.notebookReadsRow.maps == (Tryz.f4.params.toList ++ Rows.notebookReadsSpec.plain.varTypes Tryz.pinned.checked.prog).any (Tryz.pinned.checked.prog.mapsRec ·))) = true := by kernel_rfl
theorem jf4_14 : ((Rows.notebookReadsRow.ifaces == (Tryz.f4.params.toList ++ Rows.notebookReadsSpec.plain.varTypes Tryz.pinned.checked.prog).any (Tryz.pinned.checked.prog.ifacesRec ·))) = true := by kernel_rfl
theorem jf4_15 : ((Rows.notebookReadsRow.mapsOut == Tryz.pinned.checked.prog.mapsAmong Tryz.f4.resultTypes.toList)) = true := by kernel_rfl
theorem jf4_16 : ((Rows.notebookReadsRow.loops == (Tryz.f4.params.toList ++ Rows.notebookReadsSpec.plain.varTypes Tryz.pinned.checked.prog).any (Tryz.pinned.checked.prog.loopsFrom ·))) = true := by kernel_rfl
theorem jf4_17 : ((Rows.notebookReadsRow.wideKeys == (Tryz.f4.params.toList ++ Rows.notebookReadsSpec.plain.varTypes Tryz.pinned.checked.prog ++ Tryz.f4.resultTypes.toList).any (Tryz.pinned.checked.prog.wideKeysFrom ·))) = true := by kernel_rfl
theorem jf4_18 : (Rows.notebookReadsSpec.vars.all (Tryz.pinned.checked.prog.varReadable ·)) = true := by kernel_rfl
theorem jf4_19 : (Tryz.f4.resultTypes.all (fun t => Tryz.pinned.checked.prog.readableRec t && decide (t < Tryz.pinned.checked.prog.types.size))) = true := by kernel_rfl
theorem jf4_20 : ((Rows.notebookReadsRow.ifacesOut == Tryz.f4.resultTypes.toList.any (Tryz.pinned.checked.prog.ifacesRec ·))) = true := by kernel_rfl
theorem jf4_21 : ((Rows.notebookReadsRow.loopsOut == Tryz.f4.resultTypes.toList.any (Tryz.pinned.checked.prog.loopsFrom ·))) = true := by kernel_rfl
theorem jf4_22 : ((Rows.notebookReadsRow.plainKeys == Tryz.pinned.checked.prog.plainKeys)) = true := by kernel_rfl
theorem jf4_23 : (Rows.notebookReadsRow.shortTexts.isNone) = true := by kernel_rfl
theorem jf4_24 : (Tryz.pinned.checked.prog.stopsHeard) = true := by kernel_rfl
theorem jf4_25 : (Tryz.pinned.checked.prog.mayEnter) = true := by kernel_rfl
theorem jf4_26 : ((Rows.notebookReadsRow.lifted == Tryz.pinned.checked.prog.liftsFinal)) = true := by kernel_rfl
theorem jf4_27 : ((Tryz.pinned.checked.prog.make == some Rows.notebookReadsRow.make)) = true := by kernel_rfl
theorem jf4_28 : ((Rows.notebookReadsRow.kinds == (if Rows.notebookReadsRow.domain.isEmpty then [] else Tryz.f4.params.toList.map fun t => match Tryz.pinned.checked.prog.underlying t with | some (.int k) => some k | _ => none))) = true := by kernel_rfl
theorem jf4_29 : ((Rows.notebookReadsRow.pinned == Rows.notebookReadsRow.pinnedBy)) = true := by kernel_rfl
theorem jf4_30 : ((Rows.notebookReadsRow.veiled == (Tryz.f4.params.toList ++ Rows.notebookReadsSpec.plain.varTypes Tryz.pinned.checked.prog ++ Tryz.f4.resultTypes.toList).any (Tryz.pinned.checked.prog.veiledRec ·))) = true := by kernel_rfl
theorem jf4_31 : (Rows.notebookReadsRow.veiledFits Tryz.pinned.checked.prog Tryz.f4.params.toList (Tryz.f4.params.toList ++ Rows.notebookReadsSpec.plain.varTypes Tryz.pinned.checked.prog ++ Tryz.f4.resultTypes.toList)) = true := by kernel_rfl
theorem jf4 : joinedFacts Tryz.pinned.checked.prog 4 Tryz.f4 Rows.notebookReadsSpec Rows.notebookReadsRow = true := and_t4 (and_t4 (and_t4 (and_t4 (and_t4 (and_t4 (and_t4 (and_t4 (and_t4 (and_t4 (and_t4 (and_t4 (and_t4 (and_t4 (and_t4 (and_t4 (and_t4 (and_t4 (and_t4 (and_t4 (and_t4 (and_t4 (and_t4 (and_t4 (and_t4 (and_t4 (and_t4 (and_t4 (and_t4 (and_t4 (and_t4 (jf4_0) jf4_1) jf4_2) jf4_3) jf4_4) jf4_5) jf4_6) jf4_7) jf4_8) jf4_9) jf4_10) jf4_11) jf4_12) jf4_13) jf4_14) jf4_15) jf4_16) jf4_17) jf4_18) jf4_19) jf4_20) jf4_21) jf4_22) jf4_23) jf4_24) jf4_25) jf4_26) jf4_27) jf4_28) jf4_29) jf4_30) jf4_31
theorem cw4 : Rows.notebookReadsRow.wfByText (OpenSpec.ofChange Rows.notebookReadsSpec) = true := by kernel_rfl
theorem cm4 : Tryz.pinned.checked.prog.mainIs = some (true, "a939e5825974d714d163d1051220b39ee906902a049649905d78a1d72c68abe2".toList) := by kernel_rfl
theorem cl4 : true = Tryz.pinned.checked.prog.looks [] := by kernel_rfl
theorem cg4 : false = Rows.notebookReadsRow.goesBy Tryz.pinned.checked.prog := by kernel_rfl
theorem cn4 : Tryz.pinned.checked.prog.funcNamed Rows.notebookReadsRow.func = some 4 := by kernel_rfl
end Go.Proofs.YtfgihmgeplcfoaaGreatDoor
