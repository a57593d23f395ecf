/- The row's closed facts: NotebookReplies. -/
import Derived.Test.YtfgihmgeplcfoaaGreatDoorRows
import Derived.Test.YtfgihmgeplcfoaaGreatDoorCards
import Derived.JoinedOf
import Derived.KernelRfl
set_option linter.unusedSectionVars false
set_option linter.unusedVariables false
set_option linter.unusedSimpArgs false
namespace Go.Proofs.YtfgihmgeplcfoaaGreatDoor
set_option maxRecDepth 100000
theorem and_t3 {a b : Bool} (h1 : a = true) (h2 : b = true) : (a && b) = true := by rw [h1, h2]; rfl
theorem jf3_0 : (Rows.notebookRepliesRow.wf (OpenSpec.ofChange Rows.notebookRepliesSpec)) = true := by kernel_rfl
theorem jf3_1 : (laidOutB Tryz.pinned.checked.prog) = true := by kernel_rfl
theorem jf3_2 : (mapsRowed Tryz.pinned.checked.prog) = true := by kernel_rfl
theorem jf3_3 : (Tryz.f3.params.all (Tryz.pinned.checked.prog.readableRec ·)) = true := by kernel_rfl
theorem jf3_4 : (namedTie Tryz.pinned.checked.prog Rows.notebookRepliesRow.named Rows.notebookRepliesSpec.vars) = true := by kernel_rfl
theorem jf3_5 : ((Rows.notebookRepliesRow.stops == [])) = true := by kernel_rfl
theorem jf3_6 : ((Tryz.pinned.checked.prog.stops == [])) = true := by kernel_rfl
theorem jf3_7 : ((Rows.notebookRepliesRow.knobs == [])) = true := by kernel_rfl
theorem jf3_8 : ((Tryz.pinned.checked.prog.stopKnobs == [])) = true := by kernel_rfl
theorem jf3_9 : ((Rows.notebookRepliesRow.inPlace == Tryz.pinned.checked.prog.inPlace 3)) = true := by kernel_rfl
theorem jf3_10 : ((Rows.notebookRepliesRow.unfollowed == Tryz.pinned.checked.prog.unfollowed 3)) = true := by kernel_rfl
theorem jf3_11 : ((Rows.notebookRepliesRow.recurses == Tryz.pinned.checked.prog.recurses 3)) = true := by kernel_rfl
theorem jf3_12 : ((Rows.notebookRepliesRow.named == Tryz.pinned.checked.prog.varsNamed 3)) = true := by kernel_rfl
theorem jf3_13 : ((Rows.notebookRepliesRow.maps == (Tryz.f3.params.toList ++ Rows.notebookRepliesSpec.plain.varTypes Tryz.pinned.checked.prog).any (Tryz.pinned.checked.prog.mapsRec ·))) = true := by kernel_rfl
theorem jf3_14 : ((Rows.notebookRepliesRow.ifaces == (Tryz.f3.params.toList ++ Rows.notebookRepliesSpec.plain.varTypes Tryz.pinned.checked.prog).any (Tryz.pinned.checked.prog.ifacesRec ·))) = true := by kernel_rfl
theorem jf3_15 : ((Rows.notebookRepliesRow.mapsOut == Tryz.pinned.checked.prog.mapsAmong Tryz.f3.resultTypes.toList)) = true := by kernel_rfl
theorem jf3_16 : ((Rows.notebookRepliesRow.loops == (Tryz.f3.params.toList ++ Rows.notebookRepliesSpec.plain.varTypes Tryz.pinned.checked.prog).any (Tryz.pinned.checked.prog.loopsFrom ·))) = true := by kernel_rfl
theorem jf3_17 : ((Rows.notebookRepliesRow.wideKeys == (Tryz.f3.params.toList ++ Rows.notebookRepliesSpec.plain.varTypes Tryz.pinned.checked.prog ++ Tryz.f3.resultTypes.toList).any (Tryz.pinned.checked.prog.wideKeysFrom ·))) = true := by kernel_rfl
theorem jf3_18 : (Rows.notebookRepliesSpec.vars.all (Tryz.pinned.checked.prog.varReadable ·)) = true := by kernel_rfl
theorem jf3_19 : (Tryz.f3.resultTypes.all (fun t => Tryz.pinned.checked.prog.readableRec t && decide (t < Tryz.pinned.checked.prog.types.size))) = true := by kernel_rfl
theorem jf3_20 : ((Rows.notebookRepliesRow.ifacesOut == Tryz.f3.resultTypes.toList.any (Tryz.pinned.checked.prog.ifacesRec ·))) = true := by kernel_rfl
theorem jf3_21 : ((Rows.notebookRepliesRow.loopsOut == Tryz.f3.resultTypes.toList.any (Tryz.pinned.checked.prog.loopsFrom ·))) = true := by kernel_rfl
theorem jf3_22 : ((Rows.notebookRepliesRow.plainKeys == Tryz.pinned.checked.prog.plainKeys)) = true := by kernel_rfl
theorem jf3_23 : (Rows.notebookRepliesRow.shortTexts.isNone) = true := by kernel_rfl
theorem jf3_24 : (Tryz.pinned.checked.prog.stopsHeard) = true := by kernel_rfl
theorem jf3_25 : (Tryz.pinned.checked.prog.mayEnter) = true := by kernel_rfl
theorem jf3_26 : ((Rows.notebookRepliesRow.lifted == Tryz.pinned.checked.prog.liftsFinal)) = true := by kernel_rfl
theorem jf3_27 : ((Tryz.pinned.checked.prog.make == some Rows.notebookRepliesRow.make)) = true := by kernel_rfl
theorem jf3_28 : ((Rows.notebookRepliesRow.kinds == (if Rows.notebookRepliesRow.domain.isEmpty then [] else Tryz.f3.params.toList.map fun t => match Tryz.pinned.checked.prog.underlying t with | some (.int k) => some k | _ => none))) = true := by kernel_rfl
theorem jf3_29 : ((Rows.notebookRepliesRow.pinned == Rows.notebookRepliesRow.pinnedBy)) = true := by kernel_rfl
theorem jf3_30 : ((Rows.notebookRepliesRow.veiled == (Tryz.f3.params.toList ++ Rows.notebookRepliesSpec.plain.varTypes Tryz.pinned.checked.prog ++ Tryz.f3.resultTypes.toList).any (Tryz.pinned.checked.prog.veiledRec ·))) = true := by kernel_rfl
theorem jf3_31 : (Rows.notebookRepliesRow.veiledFits Tryz.pinned.checked.prog Tryz.f3.params.toList (Tryz.f3.params.toList ++ Rows.notebookRepliesSpec.plain.varTypes Tryz.pinned.checked.prog ++ Tryz.f3.resultTypes.toList)) = true := by kernel_rfl
theorem jf3 : joinedFacts Tryz.pinned.checked.prog 3 Tryz.f3 Rows.notebookRepliesSpec Rows.notebookRepliesRow = true := and_t3 (and_t3 (and_t3 (and_t3 (and_t3 (and_t3 (and_t3 (and_t3 (and_t3 (and_t3 (and_t3 (and_t3 (and_t3 (and_t3 (and_t3 (and_t3 (and_t3 (and_t3 (and_t3 (and_t3 (and_t3 (and_t3 (and_t3 (and_t3 (and_t3 (and_t3 (and_t3 (and_t3 (and_t3 (and_t3 (and_t3 (jf3_0) jf3_1) jf3_2) jf3_3) jf3_4) jf3_5) jf3_6) jf3_7) jf3_8) jf3_9) jf3_10) jf3_11) jf3_12) jf3_13) jf3_14) jf3_15) jf3_16) jf3_17) jf3_18) jf3_19) jf3_20) jf3_21) jf3_22) jf3_23) jf3_24) jf3_25) jf3_26) jf3_27) jf3_28) jf3_29) jf3_30) jf3_31
theorem cw3 : Rows.notebookRepliesRow.wfByText (OpenSpec.ofChange Rows.notebookRepliesSpec) = true := by kernel_rfl
theorem cm3 : Tryz.pinned.checked.prog.mainIs = some (true, "a939e5825974d714d163d1051220b39ee906902a049649905d78a1d72c68abe2".toList) := by kernel_rfl
theorem cl3 : true = Tryz.pinned.checked.prog.looks [] := by kernel_rfl
theorem cg3 : false = Rows.notebookRepliesRow.goesBy Tryz.pinned.checked.prog := by kernel_rfl
theorem cn3 : Tryz.pinned.checked.prog.funcNamed Rows.notebookRepliesRow.func = some 3 := by kernel_rfl
end Go.Proofs.YtfgihmgeplcfoaaGreatDoor
