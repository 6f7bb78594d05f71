/-
  Closed facts of the statement shrinkAgain, each checked by the kernel.
-/
import Derived.Test.YtpdlpabnlkofmaaGreatDoorRows
import Derived.KernelRfl
import Derived.ProofKit
import Derived.OpenShut
import Derived.LaidMore
import Derived.Lay
import Derived.SevenTiedAt
import Derived.Stop.Joined
namespace Go.Proofs.YtpdlpabnlkofmaaGreatDoor
open Go
namespace shrinkAgain
open Go.ChangeShapes Go.WideShapes Go.ChangeAt Go.RowKit
theorem and2 {a b : Bool} (h1 : a = true) (h2 : b = true) : (a && b) = true := by rw [h1, h2]; rfl
theorem jf0 : (Rows.shrinkAgainRow.wf (Go.OpenSpec.ofChange Rows.shrinkAgainSpec)) = true := by kernel_rfl
theorem jf1 : (Go.laidOutB Tryz.prog) = true := by kernel_rfl
theorem jf2 : (Go.mapsRowed Tryz.prog) = true := by kernel_rfl
theorem jf3 : (Tryz.f7.params.all (Tryz.prog.readableRec ·)) = true := by kernel_rfl
theorem jf4 : (Go.namedTie Tryz.prog Rows.shrinkAgainRow.named Rows.shrinkAgainSpec.vars) = true := by kernel_rfl
theorem jf5 : ((Rows.shrinkAgainRow.stops == [])) = true := by kernel_rfl
theorem jf6 : ((Tryz.prog.stops == [])) = true := by kernel_rfl
theorem jf7 : ((Rows.shrinkAgainRow.knobs == [])) = true := by kernel_rfl
theorem jf8 : ((Tryz.prog.stopKnobs == [])) = true := by kernel_rfl
theorem jf9 : ((Rows.shrinkAgainRow.inPlace == Tryz.prog.inPlace 7)) = true := by kernel_rfl
theorem jf10 : ((Rows.shrinkAgainRow.unfollowed == Tryz.prog.unfollowed 7)) = true := by kernel_rfl
theorem jf11 : ((Rows.shrinkAgainRow.recurses == Tryz.prog.recurses 7)) = true := by kernel_rfl
theorem jf12 : ((Rows.shrinkAgainRow.named == Tryz.prog.varsNamed 7)) = true := by kernel_rfl
theorem jf13 : ((Rows.shrinkAgainRow.maps == (Tryz.f7.params.toList ++ Rows.shrinkAgainSpec.plain.varTypes Tryz.prog).any (Tryz.prog.mapsRec ·))) = true := by kernel_rfl
theorem jf14 : ((Rows.shrinkAgainRow.ifaces == (Tryz.f7.params.toList ++ Rows.shrinkAgainSpec.plain.varTypes Tryz.prog).any (Tryz.prog.ifacesRec ·))) = true := by kernel_rfl
theorem jf15 : ((Rows.shrinkAgainRow.mapsOut == Tryz.prog.mapsAmong Tryz.f7.resultTypes.toList)) = true := by kernel_rfl
theorem jf16 : ((Rows.shrinkAgainRow.loops == (Tryz.f7.params.toList ++ Rows.shrinkAgainSpec.plain.varTypes Tryz.prog).any (Tryz.prog.loopsFrom ·))) = true := by kernel_rfl
theorem jf17 : ((Rows.shrinkAgainRow.wideKeys == (Tryz.f7.params.toList ++ Rows.shrinkAgainSpec.plain.varTypes Tryz.prog ++ Tryz.f7.resultTypes.toList).any (Tryz.prog.wideKeysFrom ·))) = true := by kernel_rfl
theorem jf18 : (Rows.shrinkAgainSpec.vars.all (Tryz.prog.varReadable ·)) = true := by kernel_rfl
theorem jf19 : (Tryz.f7.resultTypes.all (fun t => Tryz.prog.readableRec t && decide (t < Tryz.prog.types.size))) = true := by kernel_rfl
theorem jf20 : ((Rows.shrinkAgainRow.ifacesOut == Tryz.f7.resultTypes.toList.any (Tryz.prog.ifacesRec ·))) = true := by kernel_rfl
theorem jf21 : ((Rows.shrinkAgainRow.loopsOut == Tryz.f7.resultTypes.toList.any (Tryz.prog.loopsFrom ·))) = true := by kernel_rfl
theorem jf22 : ((Rows.shrinkAgainRow.plainKeys == Tryz.prog.plainKeys)) = true := by kernel_rfl
theorem jf23 : (Rows.shrinkAgainRow.shortTexts.isNone) = true := by kernel_rfl
theorem jf24 : (Tryz.prog.stopsHeard) = true := by kernel_rfl
theorem jf25 : (Tryz.prog.mayEnter) = true := by kernel_rfl
theorem jf26 : ((Rows.shrinkAgainRow.lifted == Tryz.prog.liftsFinal)) = true := by kernel_rfl
theorem jf27 : ((Tryz.prog.make == some Rows.shrinkAgainRow.make)) = true := by kernel_rfl
theorem jf28 : ((Rows.shrinkAgainRow.kinds == (if Rows.shrinkAgainRow.domain.isEmpty then [] else Tryz.f7.params.toList.map fun t => match Tryz.prog.underlying t with | some (.int k) => some k | _ => none))) = true := by kernel_rfl
theorem jf29 : ((Rows.shrinkAgainRow.pinned == Rows.shrinkAgainRow.pinnedBy)) = true := by kernel_rfl
theorem jf30 : ((Rows.shrinkAgainRow.veiled == (Tryz.f7.params.toList ++ Rows.shrinkAgainSpec.plain.varTypes Tryz.prog ++ Tryz.f7.resultTypes.toList).any (Tryz.prog.veiledRec ·))) = true := by kernel_rfl
theorem jf31 : (Rows.shrinkAgainRow.veiledFits Tryz.prog Tryz.f7.params.toList (Tryz.f7.params.toList ++ Rows.shrinkAgainSpec.plain.varTypes Tryz.prog ++ Tryz.f7.resultTypes.toList)) = true := by kernel_rfl
set_option maxRecDepth 1000000 in
theorem jf : Go.joinedFacts Tryz.prog 7 Tryz.f7 Rows.shrinkAgainSpec Rows.shrinkAgainRow = true := (and2 (and2 (and2 (and2 (and2 (and2 (and2 (and2 (and2 (and2 (and2 (and2 (and2 (and2 (and2 (and2 (and2 (and2 (and2 (and2 (and2 (and2 (and2 (and2 (and2 (and2 (and2 (and2 (and2 (and2 (and2 jf0 jf1) jf2) jf3) jf4) jf5) jf6) jf7) jf8) jf9) jf10) jf11) jf12) jf13) jf14) jf15) jf16) jf17) jf18) jf19) jf20) jf21) jf22) jf23) jf24) jf25) jf26) jf27) jf28) jf29) jf30) jf31)
theorem zw : Rows.shrinkAgainRow.wfByText (OpenSpec.ofChange Rows.shrinkAgainSpec) = true := by kernel_rfl
theorem zm : Tryz.pinned.checked.prog.mainIs = some (true, "38d2238bbe391c8f10288042cae07b260aa33546de6e24805cd671ddd577729b".toList) := by kernel_rfl
theorem zf : Tryz.prog.funcNamed "leadline/leadlinelaw22.ShrinkAgain" = some 7 := by kernel_rfl
theorem zl : false = Tryz.prog.looks [] := by kernel_rfl
theorem zs : ([27, 3, 28].all fun u => !Tryz.prog.wantsStandIn u) = true := by kernel_rfl
theorem zg : false = Rows.shrinkAgainRow.goesBy Tryz.prog := by kernel_rfl
end shrinkAgain
end Go.Proofs.YtpdlpabnlkofmaaGreatDoor
