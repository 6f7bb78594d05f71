/-
  Closed facts of the statement shrinkDone, each checked by the kernel.
-/
import Derived.Test.YtpdlpabnlkofmaaGreatDoorRows
import Derived.KernelRfl
import Derived.ProofKit
import Derived.OpenShut
import Derived.LaidMore
import Derived.Lay
import Derived.SevenTiedAt
import Derived.Stop.Joined
namespace Go.Proofs.YtpdlpabnlkofmaaGreatDoor
open Go
namespace shrinkDone
open Go.ChangeShapes Go.WideShapes Go.ChangeAt Go.RowKit
theorem and2 {a b : Bool} (h1 : a = true) (h2 : b = true) : (a && b) = true := by rw [h1, h2]; rfl
theorem jf0 : (Rows.shrinkDoneRow.wf (Go.OpenSpec.ofChange Rows.shrinkDoneSpec)) = true := by kernel_rfl
theorem jf1 : (Go.laidOutB Tryz.prog) = true := by kernel_rfl
theorem jf2 : (Go.mapsRowed Tryz.prog) = true := by kernel_rfl
theorem jf3 : (Tryz.f8.params.all (Tryz.prog.readableRec ·)) = true := by kernel_rfl
theorem jf4 : (Go.namedTie Tryz.prog Rows.shrinkDoneRow.named Rows.shrinkDoneSpec.vars) = true := by kernel_rfl
theorem jf5 : ((Rows.shrinkDoneRow.stops == [])) = true := by kernel_rfl
theorem jf6 : ((Tryz.prog.stops == [])) = true := by kernel_rfl
theorem jf7 : ((Rows.shrinkDoneRow.knobs == [])) = true := by kernel_rfl
theorem jf8 : ((Tryz.prog.stopKnobs == [])) = true := by kernel_rfl
theorem jf9 : ((Rows.shrinkDoneRow.inPlace == Tryz.prog.inPlace 8)) = true := by kernel_rfl
theorem jf10 : ((Rows.shrinkDoneRow.unfollowed == Tryz.prog.unfollowed 8)) = true := by kernel_rfl
theorem jf11 : ((Rows.shrinkDoneRow.recurses == Tryz.prog.recurses 8)) = true := by kernel_rfl
theorem jf12 : ((Rows.shrinkDoneRow.named == Tryz.prog.varsNamed 8)) = true := by kernel_rfl
theorem jf13 : ((Rows.shrinkDoneRow.maps == (Tryz.f8.params.toList ++ Rows.shrinkDoneSpec.plain.varTypes Tryz.prog).any (Tryz.prog.mapsRec ·))) = true := by kernel_rfl
theorem jf14 : ((Rows.shrinkDoneRow.ifaces == (Tryz.f8.params.toList ++ Rows.shrinkDoneSpec.plain.varTypes Tryz.prog).any (Tryz.prog.ifacesRec ·))) = true := by kernel_rfl
theorem jf15 : ((Rows.shrinkDoneRow.mapsOut == Tryz.prog.mapsAmong Tryz.f8.resultTypes.toList)) = true := by kernel_rfl
theorem jf16 : ((Rows.shrinkDoneRow.loops == (Tryz.f8.params.toList ++ Rows.shrinkDoneSpec.plain.varTypes Tryz.prog).any (Tryz.prog.loopsFrom ·))) = true := by kernel_rfl
theorem jf17 : ((Rows.shrinkDoneRow.wideKeys == (Tryz.f8.params.toList ++ Rows.shrinkDoneSpec.plain.varTypes Tryz.prog ++ Tryz.f8.resultTypes.toList).any (Tryz.prog.wideKeysFrom ·))) = true := by kernel_rfl
theorem jf18 : (Rows.shrinkDoneSpec.vars.all (Tryz.prog.varReadable ·)) = true := by kernel_rfl
theorem jf19 : (Tryz.f8.resultTypes.all (fun t => Tryz.prog.readableRec t && decide (t < Tryz.prog.types.size))) = true := by kernel_rfl
theorem jf20 : ((Rows.shrinkDoneRow.ifacesOut == Tryz.f8.resultTypes.toList.any (Tryz.prog.ifacesRec ·))) = true := by kernel_rfl
theorem jf21 : ((Rows.shrinkDoneRow.loopsOut == Tryz.f8.resultTypes.toList.any (Tryz.prog.loopsFrom ·))) = true := by kernel_rfl
theorem jf22 : ((Rows.shrinkDoneRow.plainKeys == Tryz.prog.plainKeys)) = true := by kernel_rfl
theorem jf23 : (Rows.shrinkDoneRow.shortTexts.isNone) = true := by kernel_rfl
theorem jf24 : (Tryz.prog.stopsHeard) = true := by kernel_rfl
theorem jf25 : (Tryz.prog.mayEnter) = true := by kernel_rfl
theorem jf26 : ((Rows.shrinkDoneRow.lifted == Tryz.prog.liftsFinal)) = true := by kernel_rfl
theorem jf27 : ((Tryz.prog.make == some Rows.shrinkDoneRow.make)) = true := by kernel_rfl
theorem jf28 : ((Rows.shrinkDoneRow.kinds == (if Rows.shrinkDoneRow.domain.isEmpty then [] else Tryz.f8.params.toList.map fun t => match Tryz.prog.underlying t with | some (.int k) => some k | _ => none))) = true := by kernel_rfl
theorem jf29 : ((Rows.shrinkDoneRow.pinned == Rows.shrinkDoneRow.pinnedBy)) = true := by kernel_rfl
theorem jf30 : ((Rows.shrinkDoneRow.veiled == (Tryz.f8.params.toList ++ Rows.shrinkDoneSpec.plain.varTypes Tryz.prog ++ Tryz.f8.resultTypes.toList).any (Tryz.prog.veiledRec ·))) = true := by kernel_rfl
theorem jf31 : (Rows.shrinkDoneRow.veiledFits Tryz.prog Tryz.f8.params.toList (Tryz.f8.params.toList ++ Rows.shrinkDoneSpec.plain.varTypes Tryz.prog ++ Tryz.f8.resultTypes.toList)) = true := by kernel_rfl
set_option maxRecDepth 1000000 in
theorem jf : Go.joinedFacts Tryz.prog 8 Tryz.f8 Rows.shrinkDoneSpec Rows.shrinkDoneRow = true := (and2 (and2 (and2 (and2 (and2 (and2 (and2 (and2 (and2 (and2 (and2 (and2 (and2 (and2 (and2 (and2 (and2 (and2 (and2 (and2 (and2 (and2 (and2 (and2 (and2 (and2 (and2 (and2 (and2 (and2 (and2 jf0 jf1) jf2) jf3) jf4) jf5) jf6) jf7) jf8) jf9) jf10) jf11) jf12) jf13) jf14) jf15) jf16) jf17) jf18) jf19) jf20) jf21) jf22) jf23) jf24) jf25) jf26) jf27) jf28) jf29) jf30) jf31)
theorem zw : Rows.shrinkDoneRow.wfByText (OpenSpec.ofChange Rows.shrinkDoneSpec) = true := by kernel_rfl
theorem zm : Tryz.pinned.checked.prog.mainIs = some (true, "38d2238bbe391c8f10288042cae07b260aa33546de6e24805cd671ddd577729b".toList) := by kernel_rfl
theorem zf : Tryz.prog.funcNamed "leadline/leadlinelaw22.ShrinkDone" = some 8 := by kernel_rfl
theorem zl : false = Tryz.prog.looks [] := by kernel_rfl
theorem zs : ([27, 3, 39].all fun u => !Tryz.prog.wantsStandIn u) = true := by kernel_rfl
theorem zg : false = Rows.shrinkDoneRow.goesBy Tryz.prog := by kernel_rfl
end shrinkDone
end Go.Proofs.YtpdlpabnlkofmaaGreatDoor
