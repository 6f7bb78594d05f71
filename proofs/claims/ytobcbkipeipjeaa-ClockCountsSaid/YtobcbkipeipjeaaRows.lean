/-
  No cell of these rows narrows 'for every input' (looked for: loops, veiled, ifaces, maps, wideKeys, modest, calm, conditions, laid).
  DERIVED. THE GIVEN ROWS OF THIS SEAT. 6 by the template 'for every input the law returns true; each argument reads behind the call as it read before'; 0 by the template 'total and deterministic' (their statements: YtobcbkipeipjeaaTotals.lean).
  GIVEN WITH THE SEED: the statements are not yours to turn. If you find one false, say at which input.
  Laid BY PROGRAM, IN A SANDBOX (cutbox-rows.mjs): the forced cells as the released guide's own fill.sh prints them over the translation 8e6e121926f39353… (all of the seat's roots in one cut). By AI agents, Wed Nov 11 2026. No macro, syntax, notation, axiom, sorry.
-/
import Derived.Test.YtobcbkipeipjeaaChecked
import GoSem.Claim
import GoSem.ClaimJoined
import GoSem.ClaimMapViews
import Derived.JoinedTies
import Derived.KernelRfl
namespace Go.Proofs.Ytobcbkipeipjeaa
/- THE CELL 'sum', in the pinned program and in every row, IS THE sha256 OF THE DUMP (.gsa) THAT YtobcbkipeipjeaaProg.lean LOADS. Nothing in Lean hashes anything: it is a label: what it is worth is what the hold of that sum in a sandbox is worth. -/
noncomputable def Try.pinned : Pinned := { name := "ytobcbkipeipjeaa", sum := "8e6e121926f39353d0c72fd6e0e6bc05ac507ee924e47289b155f253e557669c", checked := Try.checked }
namespace Rows
def none {H : Type} : Left H := { results := [], args := [] }

/-- 'leadlinelaw16.ClockTells': WHATEVER THE INPUT: true; the input reads as it did. -/
def clockTellsSpec : ChangeSpec := { name := "clockTells", fn := fun _ => fun
  | [d1, d2, d3] => { results := [.lit (.bool true)], args := [d1, d2, d3] }
  | _ => none }
def clockTellsRow : OpenClaim := { program := "ytobcbkipeipjeaa", sum := "8e6e121926f39353d0c72fd6e0e6bc05ac507ee924e47289b155f253e557669c", func := "leadline/leadlinelaw16.ClockTells", spec := "clockTells", unfollowed := true, recurses := true, apart := false }
def ClockTellsSaid : Prop := clockTellsRow.holds Try.pinned (OpenSpec.ofChange clockTellsSpec)

/-- ITS FALSE NEIGHBOUR: 'it returns false'. Refute it at one input. -/
def clockTellsWrong : ChangeSpec := { name := "clockTells", fn := fun _ => fun
  | [d1, d2, d3] => { results := [.lit (.bool false)], args := [d1, d2, d3] }
  | _ => none }
def ClockTellsWrongFalsely : Prop := clockTellsRow.holds Try.pinned (OpenSpec.ofChange clockTellsWrong)

/-- 'leadlinelaw16.ClockJoins': WHATEVER THE INPUT: true; the input reads as it did. -/
def clockJoinsSpec : ChangeSpec := { name := "clockJoins", fn := fun _ => fun
  | [d1, d2, d3] => { results := [.lit (.bool true)], args := [d1, d2, d3] }
  | _ => none }
def clockJoinsRow : OpenClaim := { program := "ytobcbkipeipjeaa", sum := "8e6e121926f39353d0c72fd6e0e6bc05ac507ee924e47289b155f253e557669c", func := "leadline/leadlinelaw16.ClockJoins", spec := "clockJoins", unfollowed := true, recurses := true, apart := false }
def ClockJoinsSaid : Prop := clockJoinsRow.holds Try.pinned (OpenSpec.ofChange clockJoinsSpec)

/-- ITS FALSE NEIGHBOUR: 'it returns false'. Refute it at one input. -/
def clockJoinsWrong : ChangeSpec := { name := "clockJoins", fn := fun _ => fun
  | [d1, d2, d3] => { results := [.lit (.bool false)], args := [d1, d2, d3] }
  | _ => none }
def ClockJoinsWrongFalsely : Prop := clockJoinsRow.holds Try.pinned (OpenSpec.ofChange clockJoinsWrong)

/-- 'leadlinelaw16.ClockBefore': WHATEVER THE INPUT: true; the input reads as it did. -/
def clockBeforeSpec : ChangeSpec := { name := "clockBefore", fn := fun _ => fun
  | [d1, d2] => { results := [.lit (.bool true)], args := [d1, d2] }
  | _ => none }
def clockBeforeRow : OpenClaim := { program := "ytobcbkipeipjeaa", sum := "8e6e121926f39353d0c72fd6e0e6bc05ac507ee924e47289b155f253e557669c", func := "leadline/leadlinelaw16.ClockBefore", spec := "clockBefore", unfollowed := true, recurses := true, apart := false }
def ClockBeforeSaid : Prop := clockBeforeRow.holds Try.pinned (OpenSpec.ofChange clockBeforeSpec)

/-- ITS FALSE NEIGHBOUR: 'it returns false'. Refute it at one input. -/
def clockBeforeWrong : ChangeSpec := { name := "clockBefore", fn := fun _ => fun
  | [d1, d2] => { results := [.lit (.bool false)], args := [d1, d2] }
  | _ => none }
def ClockBeforeWrongFalsely : Prop := clockBeforeRow.holds Try.pinned (OpenSpec.ofChange clockBeforeWrong)

/-- 'leadlinelaw16.ClockRaces': WHATEVER THE INPUT: true; the input reads as it did. -/
def clockRacesSpec : ChangeSpec := { name := "clockRaces", fn := fun _ => fun
  | [d1, d2] => { results := [.lit (.bool true)], args := [d1, d2] }
  | _ => none }
def clockRacesRow : OpenClaim := { program := "ytobcbkipeipjeaa", sum := "8e6e121926f39353d0c72fd6e0e6bc05ac507ee924e47289b155f253e557669c", func := "leadline/leadlinelaw16.ClockRaces", spec := "clockRaces", unfollowed := true, recurses := true, apart := false }
def ClockRacesSaid : Prop := clockRacesRow.holds Try.pinned (OpenSpec.ofChange clockRacesSpec)

/-- ITS FALSE NEIGHBOUR: 'it returns false'. Refute it at one input. -/
def clockRacesWrong : ChangeSpec := { name := "clockRaces", fn := fun _ => fun
  | [d1, d2] => { results := [.lit (.bool false)], args := [d1, d2] }
  | _ => none }
def ClockRacesWrongFalsely : Prop := clockRacesRow.holds Try.pinned (OpenSpec.ofChange clockRacesWrong)

/-- 'leadlinelaw16.ClockCounts': WHATEVER THE INPUT: true; the input reads as it did. -/
def clockCountsSpec : ChangeSpec := { name := "clockCounts", fn := fun _ => fun
  | [d1, d2] => { results := [.lit (.bool true)], args := [d1, d2] }
  | _ => none }
def clockCountsRow : OpenClaim := { program := "ytobcbkipeipjeaa", sum := "8e6e121926f39353d0c72fd6e0e6bc05ac507ee924e47289b155f253e557669c", func := "leadline/leadlinelaw16.ClockCounts", spec := "clockCounts", unfollowed := true, recurses := true, apart := false }
def ClockCountsSaid : Prop := clockCountsRow.holds Try.pinned (OpenSpec.ofChange clockCountsSpec)

/-- ITS FALSE NEIGHBOUR: 'it returns false'. Refute it at one input. -/
def clockCountsWrong : ChangeSpec := { name := "clockCounts", fn := fun _ => fun
  | [d1, d2] => { results := [.lit (.bool false)], args := [d1, d2] }
  | _ => none }
def ClockCountsWrongFalsely : Prop := clockCountsRow.holds Try.pinned (OpenSpec.ofChange clockCountsWrong)

/-- 'leadlinelaw16.ClockRows': WHATEVER THE INPUT: true; the input reads as it did. -/
def clockRowsSpec : ChangeSpec := { name := "clockRows", fn := fun _ => fun
  | [d1, d2, d3] => { results := [.lit (.bool true)], args := [d1, d2, d3] }
  | _ => none }
def clockRowsRow : OpenClaim := { program := "ytobcbkipeipjeaa", sum := "8e6e121926f39353d0c72fd6e0e6bc05ac507ee924e47289b155f253e557669c", func := "leadline/leadlinelaw16.ClockRows", spec := "clockRows", unfollowed := true, recurses := true, apart := false }
def ClockRowsSaid : Prop := clockRowsRow.holds Try.pinned (OpenSpec.ofChange clockRowsSpec)

/-- ITS FALSE NEIGHBOUR: 'it returns false'. Refute it at one input. -/
def clockRowsWrong : ChangeSpec := { name := "clockRows", fn := fun _ => fun
  | [d1, d2, d3] => { results := [.lit (.bool false)], args := [d1, d2, d3] }
  | _ => none }
def ClockRowsWrongFalsely : Prop := clockRowsRow.holds Try.pinned (OpenSpec.ofChange clockRowsWrong)

/- THE SECOND FORM. 'bulk': how many values and letters a reading holds, each counted each time it is reached (what is shared counts as often as it is met; a slice's spare places count too). A statement '..UptoSaid' is the law's where the arguments, and the package variables that the reading takes, are together of bulk at most 1048576: NARROWER than '..Said'. Prove '..Said' where nothing that the law and all that it calls make is longer than what came in: it says more and counts as full. Else prove '..UptoSaid'. A law counts once. -/
mutual
def uptoBulk {H : Type} : DataW H → Nat
  | .lit (.string bytes) => bytes.length + 1
  | .lit _ => 1
  | .nil => 1
  | .ptr d => uptoBulk d + 1
  | .slice elems spare => uptoBulkAll elems + uptoBulkAll spare + 1
  | .agg parts => uptoBulkAll parts + 1
  | .iface _ d => uptoBulk d + 1
  | .map entries => uptoBulkEntries entries + 1
  | .held _ => 1
def uptoBulkAll {H : Type} : List (DataW H) → Nat
  | [] => 0
  | d :: r => uptoBulk d + uptoBulkAll r
def uptoBulkEntries {H : Type} : List (Lit × DataW H) → Nat
  | [] => 0
  | x :: r => uptoBulkEntry x + uptoBulkEntries r
def uptoBulkEntry {H : Type} : Lit × DataW H → Nat
  | (.string bytes, d) => bytes.length + uptoBulk d + 1
  | (_, d) => uptoBulk d + 1
 end
def uptoSmall : (H : Type) → List (DataW H) → Bool := fun _ ds => decide (uptoBulkAll ds ≤ 1048576)
def OpenSpec.upto (s : _root_.Go.ChangeSpec) : _root_.Go.OpenSpec := { _root_.Go.OpenSpec.ofChange s with cond := some uptoSmall }

/-- 'leadlinelaw16.ClockTells', WHERE WHAT IT READS IS OF BULK AT MOST 1048576: true; the input reads as it did. -/
def clockTellsUptoRow : OpenClaim := { program := "ytobcbkipeipjeaa", sum := "8e6e121926f39353d0c72fd6e0e6bc05ac507ee924e47289b155f253e557669c", func := "leadline/leadlinelaw16.ClockTells", spec := "clockTells", unfollowed := true, recurses := true, apart := false, narrowed := true }
def ClockTellsUptoSaid : Prop := clockTellsUptoRow.holds Try.pinned (OpenSpec.upto clockTellsSpec)

/-- 'leadlinelaw16.ClockJoins', WHERE WHAT IT READS IS OF BULK AT MOST 1048576: true; the input reads as it did. -/
def clockJoinsUptoRow : OpenClaim := { program := "ytobcbkipeipjeaa", sum := "8e6e121926f39353d0c72fd6e0e6bc05ac507ee924e47289b155f253e557669c", func := "leadline/leadlinelaw16.ClockJoins", spec := "clockJoins", unfollowed := true, recurses := true, apart := false, narrowed := true }
def ClockJoinsUptoSaid : Prop := clockJoinsUptoRow.holds Try.pinned (OpenSpec.upto clockJoinsSpec)

/-- 'leadlinelaw16.ClockBefore', WHERE WHAT IT READS IS OF BULK AT MOST 1048576: true; the input reads as it did. -/
def clockBeforeUptoRow : OpenClaim := { program := "ytobcbkipeipjeaa", sum := "8e6e121926f39353d0c72fd6e0e6bc05ac507ee924e47289b155f253e557669c", func := "leadline/leadlinelaw16.ClockBefore", spec := "clockBefore", unfollowed := true, recurses := true, apart := false, narrowed := true }
def ClockBeforeUptoSaid : Prop := clockBeforeUptoRow.holds Try.pinned (OpenSpec.upto clockBeforeSpec)

/-- 'leadlinelaw16.ClockRaces', WHERE WHAT IT READS IS OF BULK AT MOST 1048576: true; the input reads as it did. -/
def clockRacesUptoRow : OpenClaim := { program := "ytobcbkipeipjeaa", sum := "8e6e121926f39353d0c72fd6e0e6bc05ac507ee924e47289b155f253e557669c", func := "leadline/leadlinelaw16.ClockRaces", spec := "clockRaces", unfollowed := true, recurses := true, apart := false, narrowed := true }
def ClockRacesUptoSaid : Prop := clockRacesUptoRow.holds Try.pinned (OpenSpec.upto clockRacesSpec)

/-- 'leadlinelaw16.ClockCounts', WHERE WHAT IT READS IS OF BULK AT MOST 1048576: true; the input reads as it did. -/
def clockCountsUptoRow : OpenClaim := { program := "ytobcbkipeipjeaa", sum := "8e6e121926f39353d0c72fd6e0e6bc05ac507ee924e47289b155f253e557669c", func := "leadline/leadlinelaw16.ClockCounts", spec := "clockCounts", unfollowed := true, recurses := true, apart := false, narrowed := true }
def ClockCountsUptoSaid : Prop := clockCountsUptoRow.holds Try.pinned (OpenSpec.upto clockCountsSpec)

/-- 'leadlinelaw16.ClockRows', WHERE WHAT IT READS IS OF BULK AT MOST 1048576: true; the input reads as it did. -/
def clockRowsUptoRow : OpenClaim := { program := "ytobcbkipeipjeaa", sum := "8e6e121926f39353d0c72fd6e0e6bc05ac507ee924e47289b155f253e557669c", func := "leadline/leadlinelaw16.ClockRows", spec := "clockRows", unfollowed := true, recurses := true, apart := false, narrowed := true }
def ClockRowsUptoSaid : Prop := clockRowsUptoRow.holds Try.pinned (OpenSpec.upto clockRowsSpec)

end Rows
end Go.Proofs.Ytobcbkipeipjeaa
