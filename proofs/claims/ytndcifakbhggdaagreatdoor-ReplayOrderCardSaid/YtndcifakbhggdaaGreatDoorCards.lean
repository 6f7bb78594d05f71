/-
  DERIVED. GIVEN WITH THE SEED: THE CARDS: each row of YtndcifakbhggdaaGreatDoorRows.lean that lists a variable, with what it lists TIED to the program's text (the seventh form; the later family's looks); each row that meets fmt, with fmt's text TOLD by the authors' own Lean function (tested against real Go, not proved from fmt's source: count such statements apart). THE CARD IS WHAT COUNTS. Prove the row's statement (the work); the ties are given (YtndcifakbhggdaaGreatDoorTie.lean); close each card by the builder's one call (the guide's Derived/Test/ToyasCard.lean, 'card_holds'). Laid BY PROGRAM, IN A SANDBOX (cutbox-door.mjs). By AI agents, Wed Nov 11 2026. No macro, syntax, notation, axiom, sorry.
-/
import Derived.Test.YtndcifakbhggdaaGreatDoorRows
import GoSem.ClaimSeven
namespace Go.Proofs.YtndcifakbhggdaaGreatDoor
namespace Rows

/-- THE TIED CARD OF 'leadlinelaw14.DirectDoes'. -/
def directDoesCard : Claim7 := { stood := { row := directDoesRow, standIns := [], harness := (true, "1a36d887aaf6c96ddc74b14ebb0aeef39a0e5163ee1879a96d0d9a5157cf6892"), looks := false }, kinds := [], alts := [], laidByText := true, laidKinds := [.data, .pinned], laidTests := true, laidLooks := .later }
def DirectDoesCardSaid : Prop := Claim7.holds Tryz.pinned (.plain (OpenSpec.ofChange directDoesSpec)) directDoesCard

/-- THE TIED CARD OF 'leadlinelaw14.DirectLoops'. -/
def directLoopsCard : Claim7 := { stood := { row := directLoopsRow, standIns := [], harness := (true, "1a36d887aaf6c96ddc74b14ebb0aeef39a0e5163ee1879a96d0d9a5157cf6892"), looks := false }, kinds := [], alts := [], laidByText := true, laidKinds := [.data, .pinned], laidTests := true, laidLooks := .later }
def DirectLoopsCardSaid : Prop := Claim7.holds Tryz.pinned (.plain (OpenSpec.ofChange directLoopsSpec)) directLoopsCard

/-- THE TIED CARD OF 'leadlinelaw14.DirectBare'. -/
def directBareCard : Claim7 := { stood := { row := directBareRow, standIns := [], harness := (true, "1a36d887aaf6c96ddc74b14ebb0aeef39a0e5163ee1879a96d0d9a5157cf6892"), looks := false }, kinds := [], alts := [], laidByText := true, laidKinds := [.data, .pinned], laidTests := true, laidLooks := .later }
def DirectBareCardSaid : Prop := Claim7.holds Tryz.pinned (.plain (OpenSpec.ofChange directBareSpec)) directBareCard

/-- THE TIED CARD OF 'leadlinelaw22.ShrinkDoes'. -/
def shrinkDoesCard : Claim7 := { stood := { row := shrinkDoesRow, standIns := [], harness := (true, "1a36d887aaf6c96ddc74b14ebb0aeef39a0e5163ee1879a96d0d9a5157cf6892"), looks := false }, kinds := [], alts := [], laidByText := true, laidKinds := [.data, .pinned], laidTests := true, laidLooks := .later }
def ShrinkDoesCardSaid : Prop := Claim7.holds Tryz.pinned (.plain (OpenSpec.ofChange shrinkDoesSpec)) shrinkDoesCard

/-- THE TIED CARD OF 'leadlinelaw22.ShrinkLeast'. -/
def shrinkLeastCard : Claim7 := { stood := { row := shrinkLeastRow, standIns := [], harness := (true, "1a36d887aaf6c96ddc74b14ebb0aeef39a0e5163ee1879a96d0d9a5157cf6892"), looks := false }, kinds := [], alts := [], laidByText := true, laidKinds := [.data, .pinned], laidTests := true, laidLooks := .later }
def ShrinkLeastCardSaid : Prop := Claim7.holds Tryz.pinned (.plain (OpenSpec.ofChange shrinkLeastSpec)) shrinkLeastCard

/-- THE TIED CARD OF 'leadlinelaw22.ShrinkKeeps'. -/
def shrinkKeepsCard : Claim7 := { stood := { row := shrinkKeepsRow, standIns := [], harness := (true, "1a36d887aaf6c96ddc74b14ebb0aeef39a0e5163ee1879a96d0d9a5157cf6892"), looks := false }, kinds := [], alts := [], laidByText := true, laidKinds := [.data, .pinned], laidTests := true, laidLooks := .later }
def ShrinkKeepsCardSaid : Prop := Claim7.holds Tryz.pinned (.plain (OpenSpec.ofChange shrinkKeepsSpec)) shrinkKeepsCard

/-- THE TIED CARD OF 'leadlinelaw22.ShrinkAgain'. -/
def shrinkAgainCard : Claim7 := { stood := { row := shrinkAgainRow, standIns := [], harness := (true, "1a36d887aaf6c96ddc74b14ebb0aeef39a0e5163ee1879a96d0d9a5157cf6892"), looks := false }, kinds := [], alts := [], laidByText := true, laidKinds := [.data, .pinned], laidTests := true, laidLooks := .later }
def ShrinkAgainCardSaid : Prop := Claim7.holds Tryz.pinned (.plain (OpenSpec.ofChange shrinkAgainSpec)) shrinkAgainCard

/-- THE TIED CARD OF 'leadlinelaw22.ShrinkDone'. -/
def shrinkDoneCard : Claim7 := { stood := { row := shrinkDoneRow, standIns := [], harness := (true, "1a36d887aaf6c96ddc74b14ebb0aeef39a0e5163ee1879a96d0d9a5157cf6892"), looks := false }, kinds := [], alts := [], laidByText := true, laidKinds := [.data, .pinned], laidTests := true, laidLooks := .later }
def ShrinkDoneCardSaid : Prop := Claim7.holds Tryz.pinned (.plain (OpenSpec.ofChange shrinkDoneSpec)) shrinkDoneCard

/-- THE TIED CARD OF 'leadlinelaw19.ReplayRuns'. -/
def replayRunsCard : Claim7 := { stood := { row := replayRunsRow, standIns := [], harness := (true, "1a36d887aaf6c96ddc74b14ebb0aeef39a0e5163ee1879a96d0d9a5157cf6892"), looks := false }, kinds := [], alts := [], laidByText := true, laidKinds := [.data, .pinned], laidTests := true, laidLooks := .later }
def ReplayRunsCardSaid : Prop := Claim7.holds Tryz.pinned (.plain (OpenSpec.ofChange replayRunsSpec)) replayRunsCard

/-- THE TIED CARD OF 'leadlinelaw19.ReplayTells'. -/
def replayTellsCard : Claim7 := { stood := { row := replayTellsRow, standIns := [], harness := (true, "1a36d887aaf6c96ddc74b14ebb0aeef39a0e5163ee1879a96d0d9a5157cf6892"), looks := false }, kinds := [], alts := [], laidByText := true, laidKinds := [.data, .pinned], laidTests := true, laidLooks := .later }
def ReplayTellsCardSaid : Prop := Claim7.holds Tryz.pinned (.plain (OpenSpec.ofChange replayTellsSpec)) replayTellsCard

/-- THE TIED CARD OF 'leadlinelaw19.ReplayFar'. -/
def replayFarCard : Claim7 := { stood := { row := replayFarRow, standIns := [], harness := (true, "1a36d887aaf6c96ddc74b14ebb0aeef39a0e5163ee1879a96d0d9a5157cf6892"), looks := false }, kinds := [], alts := [], laidByText := true, laidKinds := [.data, .pinned], laidTests := true, laidLooks := .later }
def ReplayFarCardSaid : Prop := Claim7.holds Tryz.pinned (.plain (OpenSpec.ofChange replayFarSpec)) replayFarCard

/-- THE TIED CARD OF 'leadlinelaw19.ReplayOrder'. -/
def replayOrderCard : Claim7 := { stood := { row := replayOrderRow, standIns := [], harness := (true, "1a36d887aaf6c96ddc74b14ebb0aeef39a0e5163ee1879a96d0d9a5157cf6892"), looks := false }, kinds := [], alts := [], laidByText := true, laidKinds := [.data, .pinned], laidTests := true, laidLooks := .later }
def ReplayOrderCardSaid : Prop := Claim7.holds Tryz.pinned (.plain (OpenSpec.ofChange replayOrderSpec)) replayOrderCard

/-- THE TIED CARD OF 'leadlinelaw19.ReplaySteps'. -/
def replayStepsCard : Claim7 := { stood := { row := replayStepsRow, standIns := [], harness := (true, "1a36d887aaf6c96ddc74b14ebb0aeef39a0e5163ee1879a96d0d9a5157cf6892"), looks := false }, kinds := [], alts := [], laidByText := true, laidKinds := [.data, .pinned], laidTests := true, laidLooks := .later }
def ReplayStepsCardSaid : Prop := Claim7.holds Tryz.pinned (.plain (OpenSpec.ofChange replayStepsSpec)) replayStepsCard

/-- THE SECOND FORM's CARD OF 'leadlinelaw14.DirectDoes'. -/
def directDoesUptoCard : Claim7 := { stood := { row := directDoesUptoRow, standIns := [], harness := (true, "1a36d887aaf6c96ddc74b14ebb0aeef39a0e5163ee1879a96d0d9a5157cf6892"), looks := false }, kinds := [], alts := [], laidByText := true, laidKinds := [.data, .pinned], laidTests := true, laidLooks := .later }
def DirectDoesUptoCardSaid : Prop := Claim7.holds Tryz.pinned (.plain (OpenSpec.upto directDoesSpec)) directDoesUptoCard

/-- THE SECOND FORM's CARD OF 'leadlinelaw14.DirectLoops'. -/
def directLoopsUptoCard : Claim7 := { stood := { row := directLoopsUptoRow, standIns := [], harness := (true, "1a36d887aaf6c96ddc74b14ebb0aeef39a0e5163ee1879a96d0d9a5157cf6892"), looks := false }, kinds := [], alts := [], laidByText := true, laidKinds := [.data, .pinned], laidTests := true, laidLooks := .later }
def DirectLoopsUptoCardSaid : Prop := Claim7.holds Tryz.pinned (.plain (OpenSpec.upto directLoopsSpec)) directLoopsUptoCard

/-- THE SECOND FORM's CARD OF 'leadlinelaw14.DirectBare'. -/
def directBareUptoCard : Claim7 := { stood := { row := directBareUptoRow, standIns := [], harness := (true, "1a36d887aaf6c96ddc74b14ebb0aeef39a0e5163ee1879a96d0d9a5157cf6892"), looks := false }, kinds := [], alts := [], laidByText := true, laidKinds := [.data, .pinned], laidTests := true, laidLooks := .later }
def DirectBareUptoCardSaid : Prop := Claim7.holds Tryz.pinned (.plain (OpenSpec.upto directBareSpec)) directBareUptoCard

/-- THE SECOND FORM's CARD OF 'leadlinelaw22.ShrinkDoes'. -/
def shrinkDoesUptoCard : Claim7 := { stood := { row := shrinkDoesUptoRow, standIns := [], harness := (true, "1a36d887aaf6c96ddc74b14ebb0aeef39a0e5163ee1879a96d0d9a5157cf6892"), looks := false }, kinds := [], alts := [], laidByText := true, laidKinds := [.data, .pinned], laidTests := true, laidLooks := .later }
def ShrinkDoesUptoCardSaid : Prop := Claim7.holds Tryz.pinned (.plain (OpenSpec.upto shrinkDoesSpec)) shrinkDoesUptoCard

/-- THE SECOND FORM's CARD OF 'leadlinelaw22.ShrinkLeast'. -/
def shrinkLeastUptoCard : Claim7 := { stood := { row := shrinkLeastUptoRow, standIns := [], harness := (true, "1a36d887aaf6c96ddc74b14ebb0aeef39a0e5163ee1879a96d0d9a5157cf6892"), looks := false }, kinds := [], alts := [], laidByText := true, laidKinds := [.data, .pinned], laidTests := true, laidLooks := .later }
def ShrinkLeastUptoCardSaid : Prop := Claim7.holds Tryz.pinned (.plain (OpenSpec.upto shrinkLeastSpec)) shrinkLeastUptoCard

/-- THE SECOND FORM's CARD OF 'leadlinelaw22.ShrinkKeeps'. -/
def shrinkKeepsUptoCard : Claim7 := { stood := { row := shrinkKeepsUptoRow, standIns := [], harness := (true, "1a36d887aaf6c96ddc74b14ebb0aeef39a0e5163ee1879a96d0d9a5157cf6892"), looks := false }, kinds := [], alts := [], laidByText := true, laidKinds := [.data, .pinned], laidTests := true, laidLooks := .later }
def ShrinkKeepsUptoCardSaid : Prop := Claim7.holds Tryz.pinned (.plain (OpenSpec.upto shrinkKeepsSpec)) shrinkKeepsUptoCard

/-- THE SECOND FORM's CARD OF 'leadlinelaw22.ShrinkAgain'. -/
def shrinkAgainUptoCard : Claim7 := { stood := { row := shrinkAgainUptoRow, standIns := [], harness := (true, "1a36d887aaf6c96ddc74b14ebb0aeef39a0e5163ee1879a96d0d9a5157cf6892"), looks := false }, kinds := [], alts := [], laidByText := true, laidKinds := [.data, .pinned], laidTests := true, laidLooks := .later }
def ShrinkAgainUptoCardSaid : Prop := Claim7.holds Tryz.pinned (.plain (OpenSpec.upto shrinkAgainSpec)) shrinkAgainUptoCard

/-- THE SECOND FORM's CARD OF 'leadlinelaw22.ShrinkDone'. -/
def shrinkDoneUptoCard : Claim7 := { stood := { row := shrinkDoneUptoRow, standIns := [], harness := (true, "1a36d887aaf6c96ddc74b14ebb0aeef39a0e5163ee1879a96d0d9a5157cf6892"), looks := false }, kinds := [], alts := [], laidByText := true, laidKinds := [.data, .pinned], laidTests := true, laidLooks := .later }
def ShrinkDoneUptoCardSaid : Prop := Claim7.holds Tryz.pinned (.plain (OpenSpec.upto shrinkDoneSpec)) shrinkDoneUptoCard

/-- THE SECOND FORM's CARD OF 'leadlinelaw19.ReplayRuns'. -/
def replayRunsUptoCard : Claim7 := { stood := { row := replayRunsUptoRow, standIns := [], harness := (true, "1a36d887aaf6c96ddc74b14ebb0aeef39a0e5163ee1879a96d0d9a5157cf6892"), looks := false }, kinds := [], alts := [], laidByText := true, laidKinds := [.data, .pinned], laidTests := true, laidLooks := .later }
def ReplayRunsUptoCardSaid : Prop := Claim7.holds Tryz.pinned (.plain (OpenSpec.upto replayRunsSpec)) replayRunsUptoCard

/-- THE SECOND FORM's CARD OF 'leadlinelaw19.ReplayTells'. -/
def replayTellsUptoCard : Claim7 := { stood := { row := replayTellsUptoRow, standIns := [], harness := (true, "1a36d887aaf6c96ddc74b14ebb0aeef39a0e5163ee1879a96d0d9a5157cf6892"), looks := false }, kinds := [], alts := [], laidByText := true, laidKinds := [.data, .pinned], laidTests := true, laidLooks := .later }
def ReplayTellsUptoCardSaid : Prop := Claim7.holds Tryz.pinned (.plain (OpenSpec.upto replayTellsSpec)) replayTellsUptoCard

/-- THE SECOND FORM's CARD OF 'leadlinelaw19.ReplayFar'. -/
def replayFarUptoCard : Claim7 := { stood := { row := replayFarUptoRow, standIns := [], harness := (true, "1a36d887aaf6c96ddc74b14ebb0aeef39a0e5163ee1879a96d0d9a5157cf6892"), looks := false }, kinds := [], alts := [], laidByText := true, laidKinds := [.data, .pinned], laidTests := true, laidLooks := .later }
def ReplayFarUptoCardSaid : Prop := Claim7.holds Tryz.pinned (.plain (OpenSpec.upto replayFarSpec)) replayFarUptoCard

/-- THE SECOND FORM's CARD OF 'leadlinelaw19.ReplayOrder'. -/
def replayOrderUptoCard : Claim7 := { stood := { row := replayOrderUptoRow, standIns := [], harness := (true, "1a36d887aaf6c96ddc74b14ebb0aeef39a0e5163ee1879a96d0d9a5157cf6892"), looks := false }, kinds := [], alts := [], laidByText := true, laidKinds := [.data, .pinned], laidTests := true, laidLooks := .later }
def ReplayOrderUptoCardSaid : Prop := Claim7.holds Tryz.pinned (.plain (OpenSpec.upto replayOrderSpec)) replayOrderUptoCard

/-- THE SECOND FORM's CARD OF 'leadlinelaw19.ReplaySteps'. -/
def replayStepsUptoCard : Claim7 := { stood := { row := replayStepsUptoRow, standIns := [], harness := (true, "1a36d887aaf6c96ddc74b14ebb0aeef39a0e5163ee1879a96d0d9a5157cf6892"), looks := false }, kinds := [], alts := [], laidByText := true, laidKinds := [.data, .pinned], laidTests := true, laidLooks := .later }
def ReplayStepsUptoCardSaid : Prop := Claim7.holds Tryz.pinned (.plain (OpenSpec.upto replayStepsSpec)) replayStepsUptoCard
end Rows
end Go.Proofs.YtndcifakbhggdaaGreatDoor
