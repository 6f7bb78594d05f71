/-
  DERIVED. GIVEN WITH THE SEED: THE CARDS: each row of YtpdlpabnlkofmaaGreatDoorRows.lean that lists a variable, with what it lists TIED to the program's text (the seventh form; the later family's looks); each row that meets fmt, with fmt's text TOLD by the authors' own Lean function (tested against real Go, not proved from fmt's source: count such statements apart). THE CARD IS WHAT COUNTS. Prove the row's statement (the work); the ties are given (YtpdlpabnlkofmaaGreatDoorTie.lean); close each card by the builder's one call (the guide's Derived/Test/ToyasCard.lean, 'card_holds'). Laid BY PROGRAM, IN A SANDBOX (cutbox-door.mjs). By AI agents, Wed Nov 11 2026. No macro, syntax, notation, axiom, sorry.
-/
import Derived.Test.YtpdlpabnlkofmaaGreatDoorRows
import GoSem.ClaimSeven
namespace Go.Proofs.YtpdlpabnlkofmaaGreatDoor
namespace Rows

/-- THE TIED CARD OF 'leadlinelaw14.DirectDoes'. -/
def directDoesCard : Claim7 := { stood := { row := directDoesRow, standIns := [], harness := (true, "38d2238bbe391c8f10288042cae07b260aa33546de6e24805cd671ddd577729b"), looks := false }, kinds := [], alts := [], laidByText := true, laidKinds := [.data, .pinned], laidTests := true, laidLooks := .later }
def DirectDoesCardSaid : Prop := Claim7.holds Tryz.pinned (.plain (OpenSpec.ofChange directDoesSpec)) directDoesCard

/-- THE TIED CARD OF 'leadlinelaw22.ShrinkDoes'. -/
def shrinkDoesCard : Claim7 := { stood := { row := shrinkDoesRow, standIns := [], harness := (true, "38d2238bbe391c8f10288042cae07b260aa33546de6e24805cd671ddd577729b"), looks := false }, kinds := [], alts := [], laidByText := true, laidKinds := [.data, .pinned], laidTests := true, laidLooks := .later }
def ShrinkDoesCardSaid : Prop := Claim7.holds Tryz.pinned (.plain (OpenSpec.ofChange shrinkDoesSpec)) shrinkDoesCard

/-- THE TIED CARD OF 'leadlinelaw22.ShrinkLeast'. -/
def shrinkLeastCard : Claim7 := { stood := { row := shrinkLeastRow, standIns := [], harness := (true, "38d2238bbe391c8f10288042cae07b260aa33546de6e24805cd671ddd577729b"), looks := false }, kinds := [], alts := [], laidByText := true, laidKinds := [.data, .pinned], laidTests := true, laidLooks := .later }
def ShrinkLeastCardSaid : Prop := Claim7.holds Tryz.pinned (.plain (OpenSpec.ofChange shrinkLeastSpec)) shrinkLeastCard

/-- THE TIED CARD OF 'leadlinelaw22.ShrinkKeeps'. -/
def shrinkKeepsCard : Claim7 := { stood := { row := shrinkKeepsRow, standIns := [], harness := (true, "38d2238bbe391c8f10288042cae07b260aa33546de6e24805cd671ddd577729b"), looks := false }, kinds := [], alts := [], laidByText := true, laidKinds := [.data, .pinned], laidTests := true, laidLooks := .later }
def ShrinkKeepsCardSaid : Prop := Claim7.holds Tryz.pinned (.plain (OpenSpec.ofChange shrinkKeepsSpec)) shrinkKeepsCard

/-- THE TIED CARD OF 'leadlinelaw22.ShrinkAgain'. -/
def shrinkAgainCard : Claim7 := { stood := { row := shrinkAgainRow, standIns := [], harness := (true, "38d2238bbe391c8f10288042cae07b260aa33546de6e24805cd671ddd577729b"), looks := false }, kinds := [], alts := [], laidByText := true, laidKinds := [.data, .pinned], laidTests := true, laidLooks := .later }
def ShrinkAgainCardSaid : Prop := Claim7.holds Tryz.pinned (.plain (OpenSpec.ofChange shrinkAgainSpec)) shrinkAgainCard

/-- THE TIED CARD OF 'leadlinelaw22.ShrinkDone'. -/
def shrinkDoneCard : Claim7 := { stood := { row := shrinkDoneRow, standIns := [], harness := (true, "38d2238bbe391c8f10288042cae07b260aa33546de6e24805cd671ddd577729b"), looks := false }, kinds := [], alts := [], laidByText := true, laidKinds := [.data, .pinned], laidTests := true, laidLooks := .later }
def ShrinkDoneCardSaid : Prop := Claim7.holds Tryz.pinned (.plain (OpenSpec.ofChange shrinkDoneSpec)) shrinkDoneCard

/-- THE TIED CARD OF 'leadlinelaw19.ReplayRuns'. -/
def replayRunsCard : Claim7 := { stood := { row := replayRunsRow, standIns := [], harness := (true, "38d2238bbe391c8f10288042cae07b260aa33546de6e24805cd671ddd577729b"), looks := false }, kinds := [], alts := [], laidByText := true, laidKinds := [.data, .pinned], laidTests := true, laidLooks := .later }
def ReplayRunsCardSaid : Prop := Claim7.holds Tryz.pinned (.plain (OpenSpec.ofChange replayRunsSpec)) replayRunsCard

/-- THE TIED CARD OF 'leadlinelaw19.ReplaySteps'. -/
def replayStepsCard : Claim7 := { stood := { row := replayStepsRow, standIns := [], harness := (true, "38d2238bbe391c8f10288042cae07b260aa33546de6e24805cd671ddd577729b"), looks := false }, kinds := [], alts := [], laidByText := true, laidKinds := [.data, .pinned], laidTests := true, laidLooks := .later }
def ReplayStepsCardSaid : Prop := Claim7.holds Tryz.pinned (.plain (OpenSpec.ofChange replayStepsSpec)) replayStepsCard

/-- THE SECOND FORM's CARD OF 'leadlinelaw14.DirectDoes'. -/
def directDoesUptoCard : Claim7 := { stood := { row := directDoesUptoRow, standIns := [], harness := (true, "38d2238bbe391c8f10288042cae07b260aa33546de6e24805cd671ddd577729b"), looks := false }, kinds := [], alts := [], laidByText := true, laidKinds := [.data, .pinned], laidTests := true, laidLooks := .later }
def DirectDoesUptoCardSaid : Prop := Claim7.holds Tryz.pinned (.plain (OpenSpec.upto directDoesSpec)) directDoesUptoCard

/-- THE SECOND FORM's CARD OF 'leadlinelaw22.ShrinkDoes'. -/
def shrinkDoesUptoCard : Claim7 := { stood := { row := shrinkDoesUptoRow, standIns := [], harness := (true, "38d2238bbe391c8f10288042cae07b260aa33546de6e24805cd671ddd577729b"), looks := false }, kinds := [], alts := [], laidByText := true, laidKinds := [.data, .pinned], laidTests := true, laidLooks := .later }
def ShrinkDoesUptoCardSaid : Prop := Claim7.holds Tryz.pinned (.plain (OpenSpec.upto shrinkDoesSpec)) shrinkDoesUptoCard

/-- THE SECOND FORM's CARD OF 'leadlinelaw22.ShrinkLeast'. -/
def shrinkLeastUptoCard : Claim7 := { stood := { row := shrinkLeastUptoRow, standIns := [], harness := (true, "38d2238bbe391c8f10288042cae07b260aa33546de6e24805cd671ddd577729b"), looks := false }, kinds := [], alts := [], laidByText := true, laidKinds := [.data, .pinned], laidTests := true, laidLooks := .later }
def ShrinkLeastUptoCardSaid : Prop := Claim7.holds Tryz.pinned (.plain (OpenSpec.upto shrinkLeastSpec)) shrinkLeastUptoCard

/-- THE SECOND FORM's CARD OF 'leadlinelaw22.ShrinkKeeps'. -/
def shrinkKeepsUptoCard : Claim7 := { stood := { row := shrinkKeepsUptoRow, standIns := [], harness := (true, "38d2238bbe391c8f10288042cae07b260aa33546de6e24805cd671ddd577729b"), looks := false }, kinds := [], alts := [], laidByText := true, laidKinds := [.data, .pinned], laidTests := true, laidLooks := .later }
def ShrinkKeepsUptoCardSaid : Prop := Claim7.holds Tryz.pinned (.plain (OpenSpec.upto shrinkKeepsSpec)) shrinkKeepsUptoCard

/-- THE SECOND FORM's CARD OF 'leadlinelaw22.ShrinkAgain'. -/
def shrinkAgainUptoCard : Claim7 := { stood := { row := shrinkAgainUptoRow, standIns := [], harness := (true, "38d2238bbe391c8f10288042cae07b260aa33546de6e24805cd671ddd577729b"), looks := false }, kinds := [], alts := [], laidByText := true, laidKinds := [.data, .pinned], laidTests := true, laidLooks := .later }
def ShrinkAgainUptoCardSaid : Prop := Claim7.holds Tryz.pinned (.plain (OpenSpec.upto shrinkAgainSpec)) shrinkAgainUptoCard

/-- THE SECOND FORM's CARD OF 'leadlinelaw22.ShrinkDone'. -/
def shrinkDoneUptoCard : Claim7 := { stood := { row := shrinkDoneUptoRow, standIns := [], harness := (true, "38d2238bbe391c8f10288042cae07b260aa33546de6e24805cd671ddd577729b"), looks := false }, kinds := [], alts := [], laidByText := true, laidKinds := [.data, .pinned], laidTests := true, laidLooks := .later }
def ShrinkDoneUptoCardSaid : Prop := Claim7.holds Tryz.pinned (.plain (OpenSpec.upto shrinkDoneSpec)) shrinkDoneUptoCard

/-- THE SECOND FORM's CARD OF 'leadlinelaw19.ReplayRuns'. -/
def replayRunsUptoCard : Claim7 := { stood := { row := replayRunsUptoRow, standIns := [], harness := (true, "38d2238bbe391c8f10288042cae07b260aa33546de6e24805cd671ddd577729b"), looks := false }, kinds := [], alts := [], laidByText := true, laidKinds := [.data, .pinned], laidTests := true, laidLooks := .later }
def ReplayRunsUptoCardSaid : Prop := Claim7.holds Tryz.pinned (.plain (OpenSpec.upto replayRunsSpec)) replayRunsUptoCard

/-- THE SECOND FORM's CARD OF 'leadlinelaw19.ReplaySteps'. -/
def replayStepsUptoCard : Claim7 := { stood := { row := replayStepsUptoRow, standIns := [], harness := (true, "38d2238bbe391c8f10288042cae07b260aa33546de6e24805cd671ddd577729b"), looks := false }, kinds := [], alts := [], laidByText := true, laidKinds := [.data, .pinned], laidTests := true, laidLooks := .later }
def ReplayStepsUptoCardSaid : Prop := Claim7.holds Tryz.pinned (.plain (OpenSpec.upto replayStepsSpec)) replayStepsUptoCard
end Rows
end Go.Proofs.YtpdlpabnlkofmaaGreatDoor
