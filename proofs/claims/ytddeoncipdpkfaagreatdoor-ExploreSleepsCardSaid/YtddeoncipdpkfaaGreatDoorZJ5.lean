/-
  Closed facts of the statement exploreSleeps, each checked by the kernel.
-/
import Derived.Test.YtddeoncipdpkfaaGreatDoorRows
import Derived.KernelRfl
import Derived.ProofKit
import Derived.OpenShut
import Derived.LaidMore
import Derived.Lay
import Derived.SevenTiedAt
import Derived.Stop.Joined
set_option linter.all false
namespace Go.Proofs.YtddeoncipdpkfaaGreatDoor
open Go
namespace exploreSleeps
open Go.ChangeShapes Go.WideShapes Go.ChangeAt Go.RowKit
theorem and2 {a b : Bool} (h1 : a = true) (h2 : b = true) : (a && b) = true := by rw [h1, h2]; rfl
theorem jf0 : (Rows.exploreSleepsRow.wf (Go.OpenSpec.ofChange Rows.exploreSleepsSpec)) = true := by kernel_rfl
theorem jf1 : (Go.laidOutB Tryz.prog) = true := by kernel_rfl
theorem jf2 : (Go.mapsRowed Tryz.prog) = true := by kernel_rfl
theorem jf3 : (Tryz.f5.params.all (Tryz.prog.readableRec ·)) = true := by kernel_rfl
theorem jf4 : (Go.namedTie Tryz.prog Rows.exploreSleepsRow.named Rows.exploreSleepsSpec.vars) = true := by kernel_rfl
theorem jf5 : ((Rows.exploreSleepsRow.stops == [])) = true := by kernel_rfl
theorem jf6 : ((Tryz.prog.stops == [])) = true := by kernel_rfl
theorem jf7 : ((Rows.exploreSleepsRow.knobs == [])) = true := by kernel_rfl
theorem jf8 : ((Tryz.prog.stopKnobs == [])) = true := by kernel_rfl
theorem jf9 : ((Rows.exploreSleepsRow.inPlace == Tryz.prog.inPlace 5)) = true := by kernel_rfl
theorem jf10 : ((Rows.exploreSleepsRow.unfollowed == Tryz.prog.unfollowed 5)) = true := by kernel_rfl
theorem jf11 : ((Rows.exploreSleepsRow.recurses == Tryz.prog.recurses 5)) = true := by kernel_rfl
theorem jf12 : ((Rows.exploreSleepsRow.named == Tryz.prog.varsNamed 5)) = true := by kernel_rfl
theorem jf13 : ((Rows.exploreSleepsRow.maps == (Tryz.f5.params.toList ++ Rows.exploreSleepsSpec.plain.varTypes Tryz.prog).any (Tryz.prog.mapsRec ·))) = true := by kernel_rfl
theorem jf14 : ((Rows.exploreSleepsRow.ifaces == (Tryz.f5.params.toList ++ Rows.exploreSleepsSpec.plain.varTypes Tryz.prog).any (Tryz.prog.ifacesRec ·))) = true := by kernel_rfl
theorem jf15 : ((Rows.exploreSleepsRow.mapsOut == Tryz.prog.mapsAmong Tryz.f5.resultTypes.toList)) = true := by kernel_rfl
theorem jf16 : ((Rows.exploreSleepsRow.loops == (Tryz.f5.params.toList ++ Rows.exploreSleepsSpec.plain.varTypes Tryz.prog).any (Tryz.prog.loopsFrom ·))) = true := by kernel_rfl
theorem jf17 : ((Rows.exploreSleepsRow.wideKeys == (Tryz.f5.params.toList ++ Rows.exploreSleepsSpec.plain.varTypes Tryz.prog ++ Tryz.f5.resultTypes.toList).any (Tryz.prog.wideKeysFrom ·))) = true := by kernel_rfl
theorem jf18 : (Rows.exploreSleepsSpec.vars.all (Tryz.prog.varReadable ·)) = true := by kernel_rfl
theorem jf19 : (Tryz.f5.resultTypes.all (fun t => Tryz.prog.readableRec t && decide (t < Tryz.prog.types.size))) = true := by kernel_rfl
theorem jf20 : ((Rows.exploreSleepsRow.ifacesOut == Tryz.f5.resultTypes.toList.any (Tryz.prog.ifacesRec ·))) = true := by kernel_rfl
theorem jf21 : ((Rows.exploreSleepsRow.loopsOut == Tryz.f5.resultTypes.toList.any (Tryz.prog.loopsFrom ·))) = true := by kernel_rfl
theorem jf22 : ((Rows.exploreSleepsRow.plainKeys == Tryz.prog.plainKeys)) = true := by kernel_rfl
theorem jf23 : (Rows.exploreSleepsRow.shortTexts.isNone) = true := by kernel_rfl
theorem jf24 : (Tryz.prog.stopsHeard) = true := by kernel_rfl
theorem jf25 : (Tryz.prog.mayEnter) = true := by kernel_rfl
theorem jf26 : ((Rows.exploreSleepsRow.lifted == Tryz.prog.liftsFinal)) = true := by kernel_rfl
theorem jf27 : ((Tryz.prog.make == some Rows.exploreSleepsRow.make)) = true := by kernel_rfl
theorem jf28 : ((Rows.exploreSleepsRow.kinds == (if Rows.exploreSleepsRow.domain.isEmpty then [] else Tryz.f5.params.toList.map fun t => match Tryz.prog.underlying t with | some (.int k) => some k | _ => none))) = true := by kernel_rfl
theorem jf29 : ((Rows.exploreSleepsRow.pinned == Rows.exploreSleepsRow.pinnedBy)) = true := by kernel_rfl
theorem jf30 : ((Rows.exploreSleepsRow.veiled == (Tryz.f5.params.toList ++ Rows.exploreSleepsSpec.plain.varTypes Tryz.prog ++ Tryz.f5.resultTypes.toList).any (Tryz.prog.veiledRec ·))) = true := by kernel_rfl
theorem jf31 : (Rows.exploreSleepsRow.veiledFits Tryz.prog Tryz.f5.params.toList (Tryz.f5.params.toList ++ Rows.exploreSleepsSpec.plain.varTypes Tryz.prog ++ Tryz.f5.resultTypes.toList)) = true := by kernel_rfl
set_option maxRecDepth 1000000 in
theorem jf : Go.joinedFacts Tryz.prog 5 Tryz.f5 Rows.exploreSleepsSpec Rows.exploreSleepsRow = true := (and2 (and2 (and2 (and2 (and2 (and2 (and2 (and2 (and2 (and2 (and2 (and2 (and2 (and2 (and2 (and2 (and2 (and2 (and2 (and2 (and2 (and2 (and2 (and2 (and2 (and2 (and2 (and2 (and2 (and2 (and2 jf0 jf1) jf2) jf3) jf4) jf5) jf6) jf7) jf8) jf9) jf10) jf11) jf12) jf13) jf14) jf15) jf16) jf17) jf18) jf19) jf20) jf21) jf22) jf23) jf24) jf25) jf26) jf27) jf28) jf29) jf30) jf31)
theorem zw : Rows.exploreSleepsRow.wfByText (OpenSpec.ofChange Rows.exploreSleepsSpec) = true := by kernel_rfl
theorem zm : Tryz.pinned.checked.prog.mainIs = some (true, "e023bf0417cbc9dce86e4110a0e2ce1e792939371e37faf65a9565b4c4d01313".toList) := by kernel_rfl
theorem zf : Tryz.prog.funcNamed "leadline/leadlinelaw21.ExploreSleeps" = some 5 := by kernel_rfl
theorem zl : false = Tryz.prog.looks [] := by kernel_rfl
theorem zs : ([58, 69, 42].all fun u => !Tryz.prog.wantsStandIn u) = true := by kernel_rfl
theorem zg : false = Rows.exploreSleepsRow.goesBy Tryz.prog := by kernel_rfl
end exploreSleeps
end Go.Proofs.YtddeoncipdpkfaaGreatDoor
