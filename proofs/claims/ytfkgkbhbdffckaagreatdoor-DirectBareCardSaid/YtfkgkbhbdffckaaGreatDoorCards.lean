/-
  DERIVED. GIVEN WITH THE SEED: THE CARDS: each row of YtfkgkbhbdffckaaGreatDoorRows.lean that lists a variable, with what it lists TIED to the program's text (the seventh form; the later family's looks); each row that meets fmt, with fmt's text TOLD by the authors' own Lean function (tested against real Go, not proved from fmt's source: count such statements apart). THE CARD IS WHAT COUNTS. Prove the row's statement (the work); the ties are given (YtfkgkbhbdffckaaGreatDoorTie.lean); close each card by the builder's one call (the guide's Derived/Test/ToyasCard.lean, 'card_holds'). Laid BY PROGRAM, IN A SANDBOX (cutbox-door.mjs). By AI agents, Wed Nov 11 2026. No macro, syntax, notation, axiom, sorry.
-/
import Derived.Test.YtfkgkbhbdffckaaGreatDoorRows
import GoSem.ClaimSeven
namespace Go.Proofs.YtfkgkbhbdffckaaGreatDoor
namespace Rows

/-- THE TIED CARD OF 'leadlinelaw14.DirectLoops'. -/
def directLoopsCard : Claim7 := { stood := { row := directLoopsRow, standIns := [], harness := (true, "bd62f69bcef6c3c4f9038676cc53cf697742909a8cc0f6120758434aa8333f3f"), looks := false }, kinds := [], alts := [], laidByText := true, laidKinds := [.data, .pinned], laidTests := true, laidLooks := .later }
def DirectLoopsCardSaid : Prop := Claim7.holds Tryz.pinned (.plain (OpenSpec.ofChange directLoopsSpec)) directLoopsCard

/-- THE TIED CARD OF 'leadlinelaw14.DirectBare'. -/
def directBareCard : Claim7 := { stood := { row := directBareRow, standIns := [], harness := (true, "bd62f69bcef6c3c4f9038676cc53cf697742909a8cc0f6120758434aa8333f3f"), looks := false }, kinds := [], alts := [], laidByText := true, laidKinds := [.data, .pinned], laidTests := true, laidLooks := .later }
def DirectBareCardSaid : Prop := Claim7.holds Tryz.pinned (.plain (OpenSpec.ofChange directBareSpec)) directBareCard

/-- THE TIED CARD OF 'leadlinelaw19.ReplayFar'. -/
def replayFarCard : Claim7 := { stood := { row := replayFarRow, standIns := [], harness := (true, "bd62f69bcef6c3c4f9038676cc53cf697742909a8cc0f6120758434aa8333f3f"), looks := false }, kinds := [], alts := [], laidByText := true, laidKinds := [.data, .pinned], laidTests := true, laidLooks := .later }
def ReplayFarCardSaid : Prop := Claim7.holds Tryz.pinned (.plain (OpenSpec.ofChange replayFarSpec)) replayFarCard

/-- THE SECOND FORM's CARD OF 'leadlinelaw14.DirectLoops'. -/
def directLoopsUptoCard : Claim7 := { stood := { row := directLoopsUptoRow, standIns := [], harness := (true, "bd62f69bcef6c3c4f9038676cc53cf697742909a8cc0f6120758434aa8333f3f"), looks := false }, kinds := [], alts := [], laidByText := true, laidKinds := [.data, .pinned], laidTests := true, laidLooks := .later }
def DirectLoopsUptoCardSaid : Prop := Claim7.holds Tryz.pinned (.plain (OpenSpec.upto directLoopsSpec)) directLoopsUptoCard

/-- THE SECOND FORM's CARD OF 'leadlinelaw14.DirectBare'. -/
def directBareUptoCard : Claim7 := { stood := { row := directBareUptoRow, standIns := [], harness := (true, "bd62f69bcef6c3c4f9038676cc53cf697742909a8cc0f6120758434aa8333f3f"), looks := false }, kinds := [], alts := [], laidByText := true, laidKinds := [.data, .pinned], laidTests := true, laidLooks := .later }
def DirectBareUptoCardSaid : Prop := Claim7.holds Tryz.pinned (.plain (OpenSpec.upto directBareSpec)) directBareUptoCard

/-- THE SECOND FORM's CARD OF 'leadlinelaw19.ReplayFar'. -/
def replayFarUptoCard : Claim7 := { stood := { row := replayFarUptoRow, standIns := [], harness := (true, "bd62f69bcef6c3c4f9038676cc53cf697742909a8cc0f6120758434aa8333f3f"), looks := false }, kinds := [], alts := [], laidByText := true, laidKinds := [.data, .pinned], laidTests := true, laidLooks := .later }
def ReplayFarUptoCardSaid : Prop := Claim7.holds Tryz.pinned (.plain (OpenSpec.upto replayFarSpec)) replayFarUptoCard
end Rows
end Go.Proofs.YtfkgkbhbdffckaaGreatDoor
