/-
  DERIVED. GIVEN WITH THE SEED: THE CARDS: each row of YtddeoncipdpkfaaGreatDoorRows.lean that lists a variable, with what it lists TIED to the program's text (the seventh form; the later family's looks); each row that meets fmt, with fmt's text TOLD by the authors' own Lean function (tested against real Go, not proved from fmt's source: count such statements apart). THE CARD IS WHAT COUNTS. Prove the row's statement (the work); the ties are given (YtddeoncipdpkfaaGreatDoorTie.lean); close each card by the builder's one call (the guide's Derived/Test/ToyasCard.lean, 'card_holds'). Laid BY PROGRAM, IN A SANDBOX (cutbox-door.mjs). By AI agents, Wed Nov 11 2026. No macro, syntax, notation, axiom, sorry.
-/
import Derived.Test.YtddeoncipdpkfaaGreatDoorRows
import GoSem.ClaimSeven
namespace Go.Proofs.YtddeoncipdpkfaaGreatDoor
namespace Rows

/-- THE TIED CARD OF 'leadlinelaw14.DirectLoops'. -/
def directLoopsCard : Claim7 := { stood := { row := directLoopsRow, standIns := [], harness := (true, "e023bf0417cbc9dce86e4110a0e2ce1e792939371e37faf65a9565b4c4d01313"), looks := false }, kinds := [], alts := [], laidByText := true, laidKinds := [.data, .pinned], laidTests := true, laidLooks := .later }
def DirectLoopsCardSaid : Prop := Claim7.holds Tryz.pinned (.plain (OpenSpec.ofChange directLoopsSpec)) directLoopsCard

/-- THE TIED CARD OF 'leadlinelaw20.NaiveTells'. -/
def naiveTellsCard : Claim7 := { stood := { row := naiveTellsRow, standIns := [], harness := (true, "e023bf0417cbc9dce86e4110a0e2ce1e792939371e37faf65a9565b4c4d01313"), looks := false }, kinds := [], alts := [], laidByText := true, laidKinds := [.data, .pinned], laidTests := true, laidLooks := .later }
def NaiveTellsCardSaid : Prop := Claim7.holds Tryz.pinned (.plain (OpenSpec.ofChange naiveTellsSpec)) naiveTellsCard

/-- THE TIED CARD OF 'leadlinelaw21.ExploreSleeps'. -/
def exploreSleepsCard : Claim7 := { stood := { row := exploreSleepsRow, standIns := [], harness := (true, "e023bf0417cbc9dce86e4110a0e2ce1e792939371e37faf65a9565b4c4d01313"), looks := false }, kinds := [], alts := [], laidByText := true, laidKinds := [.data, .pinned], laidTests := true, laidLooks := .later }
def ExploreSleepsCardSaid : Prop := Claim7.holds Tryz.pinned (.plain (OpenSpec.ofChange exploreSleepsSpec)) exploreSleepsCard

/-- THE SECOND FORM's CARD OF 'leadlinelaw14.DirectLoops'. -/
def directLoopsUptoCard : Claim7 := { stood := { row := directLoopsUptoRow, standIns := [], harness := (true, "e023bf0417cbc9dce86e4110a0e2ce1e792939371e37faf65a9565b4c4d01313"), looks := false }, kinds := [], alts := [], laidByText := true, laidKinds := [.data, .pinned], laidTests := true, laidLooks := .later }
def DirectLoopsUptoCardSaid : Prop := Claim7.holds Tryz.pinned (.plain (OpenSpec.upto directLoopsSpec)) directLoopsUptoCard

/-- THE SECOND FORM's CARD OF 'leadlinelaw20.NaiveTells'. -/
def naiveTellsUptoCard : Claim7 := { stood := { row := naiveTellsUptoRow, standIns := [], harness := (true, "e023bf0417cbc9dce86e4110a0e2ce1e792939371e37faf65a9565b4c4d01313"), looks := false }, kinds := [], alts := [], laidByText := true, laidKinds := [.data, .pinned], laidTests := true, laidLooks := .later }
def NaiveTellsUptoCardSaid : Prop := Claim7.holds Tryz.pinned (.plain (OpenSpec.upto naiveTellsSpec)) naiveTellsUptoCard

/-- THE SECOND FORM's CARD OF 'leadlinelaw21.ExploreSleeps'. -/
def exploreSleepsUptoCard : Claim7 := { stood := { row := exploreSleepsUptoRow, standIns := [], harness := (true, "e023bf0417cbc9dce86e4110a0e2ce1e792939371e37faf65a9565b4c4d01313"), looks := false }, kinds := [], alts := [], laidByText := true, laidKinds := [.data, .pinned], laidTests := true, laidLooks := .later }
def ExploreSleepsUptoCardSaid : Prop := Claim7.holds Tryz.pinned (.plain (OpenSpec.upto exploreSleepsSpec)) exploreSleepsUptoCard
end Rows
end Go.Proofs.YtddeoncipdpkfaaGreatDoor
