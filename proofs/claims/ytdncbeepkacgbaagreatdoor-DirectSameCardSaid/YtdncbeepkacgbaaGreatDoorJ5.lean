/-
  Closed facts of the statement directSame, each checked by the kernel.
-/
import Derived.Test.YtdncbeepkacgbaaGreatDoorRows
import Derived.KernelRfl
import Derived.ProofKit
import Derived.OpenShut
import Derived.LaidMore
import Derived.Lay
import Derived.SevenTiedAt
import Derived.Stop.Joined
namespace Go.Proofs.YtdncbeepkacgbaaGreatDoor
open Go
namespace directSame
open Go.ChangeShapes Go.WideShapes Go.ChangeAt Go.RowKit
theorem and2 {a b : Bool} (h1 : a = true) (h2 : b = true) : (a && b) = true := by rw [h1, h2]; rfl
theorem jf0 : (Rows.directSameRow.wf (Go.OpenSpec.ofChange Rows.directSameSpec)) = true := by kernel_rfl
theorem jf1 : (Go.laidOutB Tryz.prog) = true := by kernel_rfl
theorem jf2 : (Go.mapsRowed Tryz.prog) = true := by kernel_rfl
theorem jf3 : (Tryz.f5.params.all (Tryz.prog.readableRec ·)) = true := by kernel_rfl
theorem jf4 : (Go.namedTie Tryz.prog Rows.directSameRow.named Rows.directSameSpec.vars) = true := by kernel_rfl
theorem jf5 : ((Rows.directSameRow.stops == [])) = true := by kernel_rfl
theorem jf6 : ((Tryz.prog.stops == [])) = true := by kernel_rfl
theorem jf7 : ((Rows.directSameRow.knobs == [])) = true := by kernel_rfl
theorem jf8 : ((Tryz.prog.stopKnobs == [])) = true := by kernel_rfl
theorem jf9 : ((Rows.directSameRow.inPlace == Tryz.prog.inPlace 5)) = true := by kernel_rfl
theorem jf10 : ((Rows.directSameRow.unfollowed == Tryz.prog.unfollowed 5)) = true := by kernel_rfl
theorem jf11 : ((Rows.directSameRow.recurses == Tryz.prog.recurses 5)) = true := by kernel_rfl
theorem jf12 : ((Rows.directSameRow.named == Tryz.prog.varsNamed 5)) = true := by kernel_rfl
theorem jf13 : ((Rows.directSameRow.maps == (Tryz.f5.params.toList ++ Rows.directSameSpec.plain.varTypes Tryz.prog).any (Tryz.prog.mapsRec ·))) = true := by kernel_rfl
theorem jf14 : ((Rows.directSameRow.ifaces == (Tryz.f5.params.toList ++ Rows.directSameSpec.plain.varTypes Tryz.prog).any (Tryz.prog.ifacesRec ·))) = true := by kernel_rfl
theorem jf15 : ((Rows.directSameRow.mapsOut == Tryz.prog.mapsAmong Tryz.f5.resultTypes.toList)) = true := by kernel_rfl
theorem jf16 : ((Rows.directSameRow.loops == (Tryz.f5.params.toList ++ Rows.directSameSpec.plain.varTypes Tryz.prog).any (Tryz.prog.loopsFrom ·))) = true := by kernel_rfl
theorem jf17 : ((Rows.directSameRow.wideKeys == (Tryz.f5.params.toList ++ Rows.directSameSpec.plain.varTypes Tryz.prog ++ Tryz.f5.resultTypes.toList).any (Tryz.prog.wideKeysFrom ·))) = true := by kernel_rfl
theorem jf18 : (Rows.directSameSpec.vars.all (Tryz.prog.varReadable ·)) = true := by kernel_rfl
theorem jf19 : (Tryz.f5.resultTypes.all (fun t => Tryz.prog.readableRec t && decide (t < Tryz.prog.types.size))) = true := by kernel_rfl
theorem jf20 : ((Rows.directSameRow.ifacesOut == Tryz.f5.resultTypes.toList.any (Tryz.prog.ifacesRec ·))) = true := by kernel_rfl
theorem jf21 : ((Rows.directSameRow.loopsOut == Tryz.f5.resultTypes.toList.any (Tryz.prog.loopsFrom ·))) = true := by kernel_rfl
theorem jf22 : ((Rows.directSameRow.plainKeys == Tryz.prog.plainKeys)) = true := by kernel_rfl
theorem jf23 : (Rows.directSameRow.shortTexts.isNone) = true := by kernel_rfl
theorem jf24 : (Tryz.prog.stopsHeard) = true := by kernel_rfl
theorem jf25 : (Tryz.prog.mayEnter) = true := by kernel_rfl
theorem jf26 : ((Rows.directSameRow.lifted == Tryz.prog.liftsFinal)) = true := by kernel_rfl
theorem jf27 : ((Tryz.prog.make == some Rows.directSameRow.make)) = true := by kernel_rfl
theorem jf28 : ((Rows.directSameRow.kinds == (if Rows.directSameRow.domain.isEmpty then [] else Tryz.f5.params.toList.map fun t => match Tryz.prog.underlying t with | some (.int k) => some k | _ => none))) = true := by kernel_rfl
theorem jf29 : ((Rows.directSameRow.pinned == Rows.directSameRow.pinnedBy)) = true := by kernel_rfl
theorem jf30 : ((Rows.directSameRow.veiled == (Tryz.f5.params.toList ++ Rows.directSameSpec.plain.varTypes Tryz.prog ++ Tryz.f5.resultTypes.toList).any (Tryz.prog.veiledRec ·))) = true := by kernel_rfl
theorem jf31 : (Rows.directSameRow.veiledFits Tryz.prog Tryz.f5.params.toList (Tryz.f5.params.toList ++ Rows.directSameSpec.plain.varTypes Tryz.prog ++ Tryz.f5.resultTypes.toList)) = true := by kernel_rfl
set_option maxRecDepth 1000000 in
theorem jf : Go.joinedFacts Tryz.prog 5 Tryz.f5 Rows.directSameSpec Rows.directSameRow = true := (and2 (and2 (and2 (and2 (and2 (and2 (and2 (and2 (and2 (and2 (and2 (and2 (and2 (and2 (and2 (and2 (and2 (and2 (and2 (and2 (and2 (and2 (and2 (and2 (and2 (and2 (and2 (and2 (and2 (and2 (and2 jf0 jf1) jf2) jf3) jf4) jf5) jf6) jf7) jf8) jf9) jf10) jf11) jf12) jf13) jf14) jf15) jf16) jf17) jf18) jf19) jf20) jf21) jf22) jf23) jf24) jf25) jf26) jf27) jf28) jf29) jf30) jf31)
theorem zw : Rows.directSameRow.wfByText (OpenSpec.ofChange Rows.directSameSpec) = true := by kernel_rfl
theorem zm : Tryz.pinned.checked.prog.mainIs = some (true, "00d92ab99258d6f80ba7ddb9ccf0c459e54e85e34286d033f2b7cf3032603a34".toList) := by kernel_rfl
theorem zf : Tryz.prog.funcNamed "leadline/leadlinelaw14.DirectSame" = some 5 := by kernel_rfl
theorem zl : false = Tryz.prog.looks [] := by kernel_rfl
theorem zs : ([36, 3, 37].all fun u => !Tryz.prog.wantsStandIn u) = true := by kernel_rfl
theorem zg : false = Rows.directSameRow.goesBy Tryz.prog := by kernel_rfl
end directSame
end Go.Proofs.YtdncbeepkacgbaaGreatDoor
