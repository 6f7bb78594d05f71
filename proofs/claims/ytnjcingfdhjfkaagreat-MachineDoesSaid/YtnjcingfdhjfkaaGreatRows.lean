/-
  No cell of these rows narrows 'for every input' (looked for: loops, veiled, ifaces, maps, wideKeys, modest, calm, conditions, laid).
  DERIVED. THE GIVEN ROWS OF THIS SEAT. 8 by the template 'for every input the law returns true; each argument reads behind the call as it read before'; 0 by the template 'total and deterministic' (their statements: YtnjcingfdhjfkaaGreatTotals.lean).
  GIVEN WITH THE SEED: the statements are not yours to turn. If you find one false, say at which input.
  Laid BY PROGRAM, IN A SANDBOX (cutbox-rows.mjs): the forced cells as the released guide's own fill.sh prints them over the translation bfc28a8c63d29f52… (all of the seat's roots in one cut). By AI agents, Wed Nov 11 2026. No macro, syntax, notation, axiom, sorry.
-/
import Derived.Test.YtnjcingfdhjfkaaGreatChecked
import GoSem.Claim
import GoSem.ClaimJoined
import GoSem.ClaimMapViews
import Derived.JoinedTies
import Derived.KernelRfl
namespace Go.Proofs.YtnjcingfdhjfkaaGreat
/- THE CELL 'sum', in the pinned program and in every row, IS THE sha256 OF THE DUMP (.gsa) THAT YtnjcingfdhjfkaaGreatProg.lean LOADS. Nothing in Lean hashes anything: it is a label: what it is worth is what the hold of that sum in a sandbox is worth. -/
noncomputable def Tryz.pinned : Pinned := { name := "ytnjcingfdhjfkaagreat", sum := "bfc28a8c63d29f525ceb0aa61bcfefb914264eaf8a54fa74dfa0259ff1a56ab9", checked := Tryz.checked }
namespace Rows
def none {H : Type} : Left H := { results := [], args := [] }

/-- 'leadlinelaw13.MachineEnds': WHATEVER THE INPUT: true; the input reads as it did. -/
def machineEndsSpec : ChangeSpec := { name := "machineEnds", fn := fun _ => fun
  | [d1, d2, d3] => { results := [.lit (.bool true)], args := [d1, d2, d3] }
  | _ => none }
def machineEndsRow : OpenClaim := { program := "ytnjcingfdhjfkaagreat", sum := "bfc28a8c63d29f525ceb0aa61bcfefb914264eaf8a54fa74dfa0259ff1a56ab9", func := "leadline/leadlinelaw13.MachineEnds", spec := "machineEnds", unfollowed := true, recurses := true, plainKeys := false, apart := false }
def MachineEndsSaid : Prop := machineEndsRow.holds Tryz.pinned (OpenSpec.ofChange machineEndsSpec)

/-- ITS FALSE NEIGHBOUR: 'it returns false'. Refute it at one input. -/
def machineEndsWrong : ChangeSpec := { name := "machineEnds", fn := fun _ => fun
  | [d1, d2, d3] => { results := [.lit (.bool false)], args := [d1, d2, d3] }
  | _ => none }
def MachineEndsWrongFalsely : Prop := machineEndsRow.holds Tryz.pinned (OpenSpec.ofChange machineEndsWrong)

/-- 'leadlinelaw13.MachineRefuses': WHATEVER THE INPUT: true; the input reads as it did. -/
def machineRefusesSpec : ChangeSpec := { name := "machineRefuses", fn := fun _ => fun
  | [d1, d2, d3] => { results := [.lit (.bool true)], args := [d1, d2, d3] }
  | _ => none }
def machineRefusesRow : OpenClaim := { program := "ytnjcingfdhjfkaagreat", sum := "bfc28a8c63d29f525ceb0aa61bcfefb914264eaf8a54fa74dfa0259ff1a56ab9", func := "leadline/leadlinelaw13.MachineRefuses", spec := "machineRefuses", unfollowed := true, recurses := true, plainKeys := false, apart := false }
def MachineRefusesSaid : Prop := machineRefusesRow.holds Tryz.pinned (OpenSpec.ofChange machineRefusesSpec)

/-- ITS FALSE NEIGHBOUR: 'it returns false'. Refute it at one input. -/
def machineRefusesWrong : ChangeSpec := { name := "machineRefuses", fn := fun _ => fun
  | [d1, d2, d3] => { results := [.lit (.bool false)], args := [d1, d2, d3] }
  | _ => none }
def MachineRefusesWrongFalsely : Prop := machineRefusesRow.holds Tryz.pinned (OpenSpec.ofChange machineRefusesWrong)

/-- 'leadlinelaw13.MachineCopies': WHATEVER THE INPUT: true; the input reads as it did. -/
def machineCopiesSpec : ChangeSpec := { name := "machineCopies", fn := fun _ => fun
  | [d1, d2] => { results := [.lit (.bool true)], args := [d1, d2] }
  | _ => none }
def machineCopiesRow : OpenClaim := { program := "ytnjcingfdhjfkaagreat", sum := "bfc28a8c63d29f525ceb0aa61bcfefb914264eaf8a54fa74dfa0259ff1a56ab9", func := "leadline/leadlinelaw13.MachineCopies", spec := "machineCopies", unfollowed := true, recurses := true, plainKeys := false, apart := false }
def MachineCopiesSaid : Prop := machineCopiesRow.holds Tryz.pinned (OpenSpec.ofChange machineCopiesSpec)

/-- ITS FALSE NEIGHBOUR: 'it returns false'. Refute it at one input. -/
def machineCopiesWrong : ChangeSpec := { name := "machineCopies", fn := fun _ => fun
  | [d1, d2] => { results := [.lit (.bool false)], args := [d1, d2] }
  | _ => none }
def MachineCopiesWrongFalsely : Prop := machineCopiesRow.holds Tryz.pinned (OpenSpec.ofChange machineCopiesWrong)

/-- 'leadlinelaw13.MachineDoes': WHATEVER THE INPUT: true; the input reads as it did. -/
def machineDoesSpec : ChangeSpec := { name := "machineDoes", fn := fun _ => fun
  | [d1, d2, d3] => { results := [.lit (.bool true)], args := [d1, d2, d3] }
  | _ => none }
def machineDoesRow : OpenClaim := { program := "ytnjcingfdhjfkaagreat", sum := "bfc28a8c63d29f525ceb0aa61bcfefb914264eaf8a54fa74dfa0259ff1a56ab9", func := "leadline/leadlinelaw13.MachineDoes", spec := "machineDoes", unfollowed := true, recurses := true, plainKeys := false, apart := false }
def MachineDoesSaid : Prop := machineDoesRow.holds Tryz.pinned (OpenSpec.ofChange machineDoesSpec)

/-- ITS FALSE NEIGHBOUR: 'it returns false'. Refute it at one input. -/
def machineDoesWrong : ChangeSpec := { name := "machineDoes", fn := fun _ => fun
  | [d1, d2, d3] => { results := [.lit (.bool false)], args := [d1, d2, d3] }
  | _ => none }
def MachineDoesWrongFalsely : Prop := machineDoesRow.holds Tryz.pinned (OpenSpec.ofChange machineDoesWrong)

/-- 'leadlinelaw13.MachineNews': WHATEVER THE INPUT: true; the input reads as it did. -/
def machineNewsSpec : ChangeSpec := { name := "machineNews", fn := fun _ => fun
  | [d1, d2] => { results := [.lit (.bool true)], args := [d1, d2] }
  | _ => none }
def machineNewsRow : OpenClaim := { program := "ytnjcingfdhjfkaagreat", sum := "bfc28a8c63d29f525ceb0aa61bcfefb914264eaf8a54fa74dfa0259ff1a56ab9", func := "leadline/leadlinelaw13.MachineNews", spec := "machineNews", unfollowed := true, recurses := true, plainKeys := false, apart := false }
def MachineNewsSaid : Prop := machineNewsRow.holds Tryz.pinned (OpenSpec.ofChange machineNewsSpec)

/-- ITS FALSE NEIGHBOUR: 'it returns false'. Refute it at one input. -/
def machineNewsWrong : ChangeSpec := { name := "machineNews", fn := fun _ => fun
  | [d1, d2] => { results := [.lit (.bool false)], args := [d1, d2] }
  | _ => none }
def MachineNewsWrongFalsely : Prop := machineNewsRow.holds Tryz.pinned (OpenSpec.ofChange machineNewsWrong)

/-- 'leadlinelaw13.MachineFences': WHATEVER THE INPUT: true; the input reads as it did. -/
def machineFencesSpec : ChangeSpec := { name := "machineFences", fn := fun _ => fun
  | [d1, d2] => { results := [.lit (.bool true)], args := [d1, d2] }
  | _ => none }
def machineFencesRow : OpenClaim := { program := "ytnjcingfdhjfkaagreat", sum := "bfc28a8c63d29f525ceb0aa61bcfefb914264eaf8a54fa74dfa0259ff1a56ab9", func := "leadline/leadlinelaw13.MachineFences", spec := "machineFences", unfollowed := true, recurses := true, plainKeys := false, apart := false }
def MachineFencesSaid : Prop := machineFencesRow.holds Tryz.pinned (OpenSpec.ofChange machineFencesSpec)

/-- ITS FALSE NEIGHBOUR: 'it returns false'. Refute it at one input. -/
def machineFencesWrong : ChangeSpec := { name := "machineFences", fn := fun _ => fun
  | [d1, d2] => { results := [.lit (.bool false)], args := [d1, d2] }
  | _ => none }
def MachineFencesWrongFalsely : Prop := machineFencesRow.holds Tryz.pinned (OpenSpec.ofChange machineFencesWrong)

/-- 'leadlinelaw13.MachineCrashes': WHATEVER THE INPUT: true; the input reads as it did. -/
def machineCrashesSpec : ChangeSpec := { name := "machineCrashes", fn := fun _ => fun
  | [d1, d2, d3] => { results := [.lit (.bool true)], args := [d1, d2, d3] }
  | _ => none }
def machineCrashesRow : OpenClaim := { program := "ytnjcingfdhjfkaagreat", sum := "bfc28a8c63d29f525ceb0aa61bcfefb914264eaf8a54fa74dfa0259ff1a56ab9", func := "leadline/leadlinelaw13.MachineCrashes", spec := "machineCrashes", unfollowed := true, recurses := true, plainKeys := false, apart := false }
def MachineCrashesSaid : Prop := machineCrashesRow.holds Tryz.pinned (OpenSpec.ofChange machineCrashesSpec)

/-- ITS FALSE NEIGHBOUR: 'it returns false'. Refute it at one input. -/
def machineCrashesWrong : ChangeSpec := { name := "machineCrashes", fn := fun _ => fun
  | [d1, d2, d3] => { results := [.lit (.bool false)], args := [d1, d2, d3] }
  | _ => none }
def MachineCrashesWrongFalsely : Prop := machineCrashesRow.holds Tryz.pinned (OpenSpec.ofChange machineCrashesWrong)

/-- 'leadlinelaw13.MachineApart': WHATEVER THE INPUT: true; the input reads as it did. -/
def machineApartSpec : ChangeSpec := { name := "machineApart", fn := fun _ => fun
  | [d1, d2] => { results := [.lit (.bool true)], args := [d1, d2] }
  | _ => none }
def machineApartRow : OpenClaim := { program := "ytnjcingfdhjfkaagreat", sum := "bfc28a8c63d29f525ceb0aa61bcfefb914264eaf8a54fa74dfa0259ff1a56ab9", func := "leadline/leadlinelaw13.MachineApart", spec := "machineApart", unfollowed := true, recurses := true, plainKeys := false, apart := false }
def MachineApartSaid : Prop := machineApartRow.holds Tryz.pinned (OpenSpec.ofChange machineApartSpec)

/-- ITS FALSE NEIGHBOUR: 'it returns false'. Refute it at one input. -/
def machineApartWrong : ChangeSpec := { name := "machineApart", fn := fun _ => fun
  | [d1, d2] => { results := [.lit (.bool false)], args := [d1, d2] }
  | _ => none }
def MachineApartWrongFalsely : Prop := machineApartRow.holds Tryz.pinned (OpenSpec.ofChange machineApartWrong)

/- THE SECOND FORM. 'bulk': how many values and letters a reading holds, each counted each time it is reached (what is shared counts as often as it is met; a slice's spare places count too). A statement '..UptoSaid' is the law's where the arguments, and the package variables that the reading takes, are together of bulk at most 1048576: NARROWER than '..Said'. Prove '..Said' where nothing that the law and all that it calls make is longer than what came in: it says more and counts as full. Else prove '..UptoSaid'. A law counts once. -/
mutual
def uptoBulk {H : Type} : DataW H → Nat
  | .lit (.string bytes) => bytes.length + 1
  | .lit _ => 1
  | .nil => 1
  | .ptr d => uptoBulk d + 1
  | .slice elems spare => uptoBulkAll elems + uptoBulkAll spare + 1
  | .agg parts => uptoBulkAll parts + 1
  | .iface _ d => uptoBulk d + 1
  | .map entries => uptoBulkEntries entries + 1
  | .held _ => 1
def uptoBulkAll {H : Type} : List (DataW H) → Nat
  | [] => 0
  | d :: r => uptoBulk d + uptoBulkAll r
def uptoBulkEntries {H : Type} : List (Lit × DataW H) → Nat
  | [] => 0
  | x :: r => uptoBulkEntry x + uptoBulkEntries r
def uptoBulkEntry {H : Type} : Lit × DataW H → Nat
  | (.string bytes, d) => bytes.length + uptoBulk d + 1
  | (_, d) => uptoBulk d + 1
 end
def uptoSmall : (H : Type) → List (DataW H) → Bool := fun _ ds => decide (uptoBulkAll ds ≤ 1048576)
def OpenSpec.upto (s : _root_.Go.ChangeSpec) : _root_.Go.OpenSpec := { _root_.Go.OpenSpec.ofChange s with cond := some uptoSmall }

/-- 'leadlinelaw13.MachineEnds', WHERE WHAT IT READS IS OF BULK AT MOST 1048576: true; the input reads as it did. -/
def machineEndsUptoRow : OpenClaim := { program := "ytnjcingfdhjfkaagreat", sum := "bfc28a8c63d29f525ceb0aa61bcfefb914264eaf8a54fa74dfa0259ff1a56ab9", func := "leadline/leadlinelaw13.MachineEnds", spec := "machineEnds", unfollowed := true, recurses := true, plainKeys := false, apart := false, narrowed := true }
def MachineEndsUptoSaid : Prop := machineEndsUptoRow.holds Tryz.pinned (OpenSpec.upto machineEndsSpec)

/-- 'leadlinelaw13.MachineRefuses', WHERE WHAT IT READS IS OF BULK AT MOST 1048576: true; the input reads as it did. -/
def machineRefusesUptoRow : OpenClaim := { program := "ytnjcingfdhjfkaagreat", sum := "bfc28a8c63d29f525ceb0aa61bcfefb914264eaf8a54fa74dfa0259ff1a56ab9", func := "leadline/leadlinelaw13.MachineRefuses", spec := "machineRefuses", unfollowed := true, recurses := true, plainKeys := false, apart := false, narrowed := true }
def MachineRefusesUptoSaid : Prop := machineRefusesUptoRow.holds Tryz.pinned (OpenSpec.upto machineRefusesSpec)

/-- 'leadlinelaw13.MachineCopies', WHERE WHAT IT READS IS OF BULK AT MOST 1048576: true; the input reads as it did. -/
def machineCopiesUptoRow : OpenClaim := { program := "ytnjcingfdhjfkaagreat", sum := "bfc28a8c63d29f525ceb0aa61bcfefb914264eaf8a54fa74dfa0259ff1a56ab9", func := "leadline/leadlinelaw13.MachineCopies", spec := "machineCopies", unfollowed := true, recurses := true, plainKeys := false, apart := false, narrowed := true }
def MachineCopiesUptoSaid : Prop := machineCopiesUptoRow.holds Tryz.pinned (OpenSpec.upto machineCopiesSpec)

/-- 'leadlinelaw13.MachineDoes', WHERE WHAT IT READS IS OF BULK AT MOST 1048576: true; the input reads as it did. -/
def machineDoesUptoRow : OpenClaim := { program := "ytnjcingfdhjfkaagreat", sum := "bfc28a8c63d29f525ceb0aa61bcfefb914264eaf8a54fa74dfa0259ff1a56ab9", func := "leadline/leadlinelaw13.MachineDoes", spec := "machineDoes", unfollowed := true, recurses := true, plainKeys := false, apart := false, narrowed := true }
def MachineDoesUptoSaid : Prop := machineDoesUptoRow.holds Tryz.pinned (OpenSpec.upto machineDoesSpec)

/-- 'leadlinelaw13.MachineNews', WHERE WHAT IT READS IS OF BULK AT MOST 1048576: true; the input reads as it did. -/
def machineNewsUptoRow : OpenClaim := { program := "ytnjcingfdhjfkaagreat", sum := "bfc28a8c63d29f525ceb0aa61bcfefb914264eaf8a54fa74dfa0259ff1a56ab9", func := "leadline/leadlinelaw13.MachineNews", spec := "machineNews", unfollowed := true, recurses := true, plainKeys := false, apart := false, narrowed := true }
def MachineNewsUptoSaid : Prop := machineNewsUptoRow.holds Tryz.pinned (OpenSpec.upto machineNewsSpec)

/-- 'leadlinelaw13.MachineFences', WHERE WHAT IT READS IS OF BULK AT MOST 1048576: true; the input reads as it did. -/
def machineFencesUptoRow : OpenClaim := { program := "ytnjcingfdhjfkaagreat", sum := "bfc28a8c63d29f525ceb0aa61bcfefb914264eaf8a54fa74dfa0259ff1a56ab9", func := "leadline/leadlinelaw13.MachineFences", spec := "machineFences", unfollowed := true, recurses := true, plainKeys := false, apart := false, narrowed := true }
def MachineFencesUptoSaid : Prop := machineFencesUptoRow.holds Tryz.pinned (OpenSpec.upto machineFencesSpec)

/-- 'leadlinelaw13.MachineCrashes', WHERE WHAT IT READS IS OF BULK AT MOST 1048576: true; the input reads as it did. -/
def machineCrashesUptoRow : OpenClaim := { program := "ytnjcingfdhjfkaagreat", sum := "bfc28a8c63d29f525ceb0aa61bcfefb914264eaf8a54fa74dfa0259ff1a56ab9", func := "leadline/leadlinelaw13.MachineCrashes", spec := "machineCrashes", unfollowed := true, recurses := true, plainKeys := false, apart := false, narrowed := true }
def MachineCrashesUptoSaid : Prop := machineCrashesUptoRow.holds Tryz.pinned (OpenSpec.upto machineCrashesSpec)

/-- 'leadlinelaw13.MachineApart', WHERE WHAT IT READS IS OF BULK AT MOST 1048576: true; the input reads as it did. -/
def machineApartUptoRow : OpenClaim := { program := "ytnjcingfdhjfkaagreat", sum := "bfc28a8c63d29f525ceb0aa61bcfefb914264eaf8a54fa74dfa0259ff1a56ab9", func := "leadline/leadlinelaw13.MachineApart", spec := "machineApart", unfollowed := true, recurses := true, plainKeys := false, apart := false, narrowed := true }
def MachineApartUptoSaid : Prop := machineApartUptoRow.holds Tryz.pinned (OpenSpec.upto machineApartSpec)

end Rows
end Go.Proofs.YtnjcingfdhjfkaaGreat
