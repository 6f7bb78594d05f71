/-
  DERIVED. GIVEN WITH THE SEED: THE CARDS: each row of YtdncbeepkacgbaaGreatDoorRows.lean that lists a variable, with what it lists TIED to the program's text (the seventh form; the later family's looks); each row that meets fmt, with fmt's text TOLD by the authors' own Lean function (tested against real Go, not proved from fmt's source: count such statements apart). THE CARD IS WHAT COUNTS. Prove the row's statement (the work); the ties are given (YtdncbeepkacgbaaGreatDoorTie.lean); close each card by the builder's one call (the guide's Derived/Test/ToyasCard.lean, 'card_holds'). Laid BY PROGRAM, IN A SANDBOX (cutbox-door.mjs). By AI agents, Wed Nov 11 2026. No macro, syntax, notation, axiom, sorry.
-/
import Derived.Test.YtdncbeepkacgbaaGreatDoorRows
import GoSem.ClaimSeven
namespace Go.Proofs.YtdncbeepkacgbaaGreatDoor
namespace Rows

/-- THE TIED CARD OF 'leadlinelaw19.ReplayTells'. -/
def replayTellsCard : Claim7 := { stood := { row := replayTellsRow, standIns := [], harness := (true, "00d92ab99258d6f80ba7ddb9ccf0c459e54e85e34286d033f2b7cf3032603a34"), looks := false }, kinds := [], alts := [], laidByText := true, laidKinds := [.data, .pinned], laidTests := true, laidLooks := .later }
def ReplayTellsCardSaid : Prop := Claim7.holds Tryz.pinned (.plain (OpenSpec.ofChange replayTellsSpec)) replayTellsCard

/-- THE TIED CARD OF 'leadlinelaw19.ReplayOrder'. -/
def replayOrderCard : Claim7 := { stood := { row := replayOrderRow, standIns := [], harness := (true, "00d92ab99258d6f80ba7ddb9ccf0c459e54e85e34286d033f2b7cf3032603a34"), looks := false }, kinds := [], alts := [], laidByText := true, laidKinds := [.data, .pinned], laidTests := true, laidLooks := .later }
def ReplayOrderCardSaid : Prop := Claim7.holds Tryz.pinned (.plain (OpenSpec.ofChange replayOrderSpec)) replayOrderCard

/-- THE TIED CARD OF 'leadlinelaw14.DirectSame'. -/
def directSameCard : Claim7 := { stood := { row := directSameRow, standIns := [], harness := (true, "00d92ab99258d6f80ba7ddb9ccf0c459e54e85e34286d033f2b7cf3032603a34"), looks := false }, kinds := [], alts := [], laidByText := true, laidKinds := [.data, .pinned], laidTests := true, laidLooks := .later }
def DirectSameCardSaid : Prop := Claim7.holds Tryz.pinned (.plain (OpenSpec.ofChange directSameSpec)) directSameCard

/-- THE TIED CARD OF 'leadlinelaw19.ReplayMachine'. -/
def replayMachineCard : Claim7 := { stood := { row := replayMachineRow, standIns := [], harness := (true, "00d92ab99258d6f80ba7ddb9ccf0c459e54e85e34286d033f2b7cf3032603a34"), looks := false }, kinds := [], alts := [], laidByText := true, laidKinds := [.data, .pinned], laidTests := true, laidLooks := .later }
def ReplayMachineCardSaid : Prop := Claim7.holds Tryz.pinned (.plain (OpenSpec.ofChange replayMachineSpec)) replayMachineCard

/-- THE SECOND FORM's CARD OF 'leadlinelaw19.ReplayTells'. -/
def replayTellsUptoCard : Claim7 := { stood := { row := replayTellsUptoRow, standIns := [], harness := (true, "00d92ab99258d6f80ba7ddb9ccf0c459e54e85e34286d033f2b7cf3032603a34"), looks := false }, kinds := [], alts := [], laidByText := true, laidKinds := [.data, .pinned], laidTests := true, laidLooks := .later }
def ReplayTellsUptoCardSaid : Prop := Claim7.holds Tryz.pinned (.plain (OpenSpec.upto replayTellsSpec)) replayTellsUptoCard

/-- THE SECOND FORM's CARD OF 'leadlinelaw19.ReplayOrder'. -/
def replayOrderUptoCard : Claim7 := { stood := { row := replayOrderUptoRow, standIns := [], harness := (true, "00d92ab99258d6f80ba7ddb9ccf0c459e54e85e34286d033f2b7cf3032603a34"), looks := false }, kinds := [], alts := [], laidByText := true, laidKinds := [.data, .pinned], laidTests := true, laidLooks := .later }
def ReplayOrderUptoCardSaid : Prop := Claim7.holds Tryz.pinned (.plain (OpenSpec.upto replayOrderSpec)) replayOrderUptoCard

/-- THE SECOND FORM's CARD OF 'leadlinelaw14.DirectSame'. -/
def directSameUptoCard : Claim7 := { stood := { row := directSameUptoRow, standIns := [], harness := (true, "00d92ab99258d6f80ba7ddb9ccf0c459e54e85e34286d033f2b7cf3032603a34"), looks := false }, kinds := [], alts := [], laidByText := true, laidKinds := [.data, .pinned], laidTests := true, laidLooks := .later }
def DirectSameUptoCardSaid : Prop := Claim7.holds Tryz.pinned (.plain (OpenSpec.upto directSameSpec)) directSameUptoCard

/-- THE SECOND FORM's CARD OF 'leadlinelaw19.ReplayMachine'. -/
def replayMachineUptoCard : Claim7 := { stood := { row := replayMachineUptoRow, standIns := [], harness := (true, "00d92ab99258d6f80ba7ddb9ccf0c459e54e85e34286d033f2b7cf3032603a34"), looks := false }, kinds := [], alts := [], laidByText := true, laidKinds := [.data, .pinned], laidTests := true, laidLooks := .later }
def ReplayMachineUptoCardSaid : Prop := Claim7.holds Tryz.pinned (.plain (OpenSpec.upto replayMachineSpec)) replayMachineUptoCard
end Rows
end Go.Proofs.YtdncbeepkacgbaaGreatDoor
