/-
  NARROWER THAN 'FOR EVERY INPUT', by the rows' own cells (each row's printed sentence says how): DirectDoes: laid · DirectLoops: laid · DirectBare: laid · ShrinkDoes: laid · ShrinkLeast: laid · ShrinkKeeps: laid · ShrinkAgain: laid · ShrinkDone: laid · ReplayRuns: laid · ReplayTells: laid · ReplayFar: laid · ReplayOrder: laid · ReplaySteps: laid.
  DERIVED. THE GIVEN ROWS OF THIS SEAT. 13 by the template 'for every input the law returns true; each argument reads behind the call as it read before'; 0 by the template 'total and deterministic' (their statements: YtndcifakbhggdaaGreatDoorTotals.lean).
  GIVEN WITH THE SEED: the statements are not yours to turn. If you find one false, say at which input.
  Laid BY PROGRAM, IN A SANDBOX (cutbox-rows.mjs): the forced cells as the released guide's own fill.sh prints them over the translation 4e08100871bc306e… (all of the seat's roots in one cut). By AI agents, Wed Nov 11 2026. No macro, syntax, notation, axiom, sorry.
-/
import Derived.Test.YtndcifakbhggdaaGreatDoorChecked
import GoSem.PinnedTables
import GoSem.Claim
import GoSem.ClaimJoined
import GoSem.ClaimMapViews
import Derived.JoinedTies
import Derived.KernelRfl
namespace Go.Proofs.YtndcifakbhggdaaGreatDoor
/- THE CELL 'sum', in the pinned program and in every row, IS THE sha256 OF THE DUMP (.gsa) THAT YtndcifakbhggdaaGreatDoorProg.lean LOADS. Nothing in Lean hashes anything: it is a label: what it is worth is what the hold of that sum in a sandbox is worth. -/
noncomputable def Tryz.pinned : Pinned := { name := "ytndcifakbhggdaagreatdoor", sum := "4e08100871bc306e93e64ca14f41712a321110000bdc5bcb081c145e068d33b9", checked := Tryz.checked }
namespace Rows
def none {H : Type} : Left H := { results := [], args := [] }

/- WHAT THE LISTED PACKAGE-LEVEL VARIABLES READ AS WHEN THE CALL BEGINS. Each datum BY PROGRAM (the guide's laid-datum.mjs) off the statement by which the dump's own 'gosem.cut.vars' lays the variable. In a bare row this is a premise. The card (YtndcifakbhggdaaGreatDoorCards.lean) ties it to the program's text. -/
def laid_unicode_utf8_acceptRanges {H : Type} : DataW H := .agg [.agg [.lit (.int .u8 128), .lit (.int .u8 191)], .agg [.lit (.int .u8 160), .lit (.int .u8 191)], .agg [.lit (.int .u8 128), .lit (.int .u8 159)], .agg [.lit (.int .u8 144), .lit (.int .u8 191)], .agg [.lit (.int .u8 128), .lit (.int .u8 143)], .agg [.lit (.int .u8 0), .lit (.int .u8 0)], .agg [.lit (.int .u8 0), .lit (.int .u8 0)], .agg [.lit (.int .u8 0), .lit (.int .u8 0)], .agg [.lit (.int .u8 0), .lit (.int .u8 0)], .agg [.lit (.int .u8 0), .lit (.int .u8 0)], .agg [.lit (.int .u8 0), .lit (.int .u8 0)], .agg [.lit (.int .u8 0), .lit (.int .u8 0)], .agg [.lit (.int .u8 0), .lit (.int .u8 0)], .agg [.lit (.int .u8 0), .lit (.int .u8 0)], .agg [.lit (.int .u8 0), .lit (.int .u8 0)], .agg [.lit (.int .u8 0), .lit (.int .u8 0)]]
/-- One of Go's own tables, pinned by name: the form's constant. -/
def laid_unicode_utf8_first : DataW Unit := Go.Pinned.utf8First

/-- 'leadlinelaw14.DirectDoes': WHATEVER THE INPUT: true; the input reads as it did. -/
def directDoesSpec : ChangeSpec := { name := "directDoes", fn := fun _ => fun
  | [d1, d2, d3] => { results := [.lit (.bool true)], args := [d1, d2, d3] }
  | _ => none }
def directDoesRow : OpenClaim := { program := "ytndcifakbhggdaagreatdoor", sum := "4e08100871bc306e93e64ca14f41712a321110000bdc5bcb081c145e068d33b9", func := "leadline/leadlinelaw14.DirectDoes", spec := "directDoes", inPlace := ["internal/bytealg.CountString", "internal/bytealg.IndexByteString", "internal/bytealg.IndexString"], unfollowed := true, recurses := true, named := ["unicode/utf8.first", "unicode/utf8.acceptRanges", "internal/bytealg.MaxLen"], plainKeys := false, apart := false, laid := [("unicode/utf8.acceptRanges", laid_unicode_utf8_acceptRanges), ("unicode/utf8.first", laid_unicode_utf8_first)] }
def DirectDoesSaid : Prop := directDoesRow.holds Tryz.pinned (OpenSpec.ofChange directDoesSpec)

/-- ITS FALSE NEIGHBOUR: 'it returns false'. Refute it at one input. -/
def directDoesWrong : ChangeSpec := { name := "directDoes", fn := fun _ => fun
  | [d1, d2, d3] => { results := [.lit (.bool false)], args := [d1, d2, d3] }
  | _ => none }
def DirectDoesWrongFalsely : Prop := directDoesRow.holds Tryz.pinned (OpenSpec.ofChange directDoesWrong)

/-- 'leadlinelaw14.DirectLoops': WHATEVER THE INPUT: true; the input reads as it did. -/
def directLoopsSpec : ChangeSpec := { name := "directLoops", fn := fun _ => fun
  | [d1, d2] => { results := [.lit (.bool true)], args := [d1, d2] }
  | _ => none }
def directLoopsRow : OpenClaim := { program := "ytndcifakbhggdaagreatdoor", sum := "4e08100871bc306e93e64ca14f41712a321110000bdc5bcb081c145e068d33b9", func := "leadline/leadlinelaw14.DirectLoops", spec := "directLoops", inPlace := ["internal/bytealg.CountString", "internal/bytealg.IndexByteString", "internal/bytealg.IndexString"], unfollowed := true, recurses := true, named := ["unicode/utf8.first", "unicode/utf8.acceptRanges", "internal/bytealg.MaxLen"], plainKeys := false, apart := false, laid := [("unicode/utf8.acceptRanges", laid_unicode_utf8_acceptRanges), ("unicode/utf8.first", laid_unicode_utf8_first)] }
def DirectLoopsSaid : Prop := directLoopsRow.holds Tryz.pinned (OpenSpec.ofChange directLoopsSpec)

/-- ITS FALSE NEIGHBOUR: 'it returns false'. Refute it at one input. -/
def directLoopsWrong : ChangeSpec := { name := "directLoops", fn := fun _ => fun
  | [d1, d2] => { results := [.lit (.bool false)], args := [d1, d2] }
  | _ => none }
def DirectLoopsWrongFalsely : Prop := directLoopsRow.holds Tryz.pinned (OpenSpec.ofChange directLoopsWrong)

/-- 'leadlinelaw14.DirectBare': WHATEVER THE INPUT: true; the input reads as it did. -/
def directBareSpec : ChangeSpec := { name := "directBare", fn := fun _ => fun
  | [d1, d2] => { results := [.lit (.bool true)], args := [d1, d2] }
  | _ => none }
def directBareRow : OpenClaim := { program := "ytndcifakbhggdaagreatdoor", sum := "4e08100871bc306e93e64ca14f41712a321110000bdc5bcb081c145e068d33b9", func := "leadline/leadlinelaw14.DirectBare", spec := "directBare", inPlace := ["internal/bytealg.CountString", "internal/bytealg.IndexByteString", "internal/bytealg.IndexString"], unfollowed := true, recurses := true, named := ["unicode/utf8.first", "unicode/utf8.acceptRanges", "internal/bytealg.MaxLen"], plainKeys := false, apart := false, laid := [("unicode/utf8.acceptRanges", laid_unicode_utf8_acceptRanges), ("unicode/utf8.first", laid_unicode_utf8_first)] }
def DirectBareSaid : Prop := directBareRow.holds Tryz.pinned (OpenSpec.ofChange directBareSpec)

/-- ITS FALSE NEIGHBOUR: 'it returns false'. Refute it at one input. -/
def directBareWrong : ChangeSpec := { name := "directBare", fn := fun _ => fun
  | [d1, d2] => { results := [.lit (.bool false)], args := [d1, d2] }
  | _ => none }
def DirectBareWrongFalsely : Prop := directBareRow.holds Tryz.pinned (OpenSpec.ofChange directBareWrong)

/-- 'leadlinelaw22.ShrinkDoes': WHATEVER THE INPUT: true; the input reads as it did. -/
def shrinkDoesSpec : ChangeSpec := { name := "shrinkDoes", fn := fun _ => fun
  | [d1, d2, d3] => { results := [.lit (.bool true)], args := [d1, d2, d3] }
  | _ => none }
def shrinkDoesRow : OpenClaim := { program := "ytndcifakbhggdaagreatdoor", sum := "4e08100871bc306e93e64ca14f41712a321110000bdc5bcb081c145e068d33b9", func := "leadline/leadlinelaw22.ShrinkDoes", spec := "shrinkDoes", inPlace := ["internal/bytealg.CountString", "internal/bytealg.IndexByteString", "internal/bytealg.IndexString"], unfollowed := true, recurses := true, named := ["unicode/utf8.first", "unicode/utf8.acceptRanges", "internal/bytealg.MaxLen"], plainKeys := false, apart := false, laid := [("unicode/utf8.acceptRanges", laid_unicode_utf8_acceptRanges), ("unicode/utf8.first", laid_unicode_utf8_first)] }
def ShrinkDoesSaid : Prop := shrinkDoesRow.holds Tryz.pinned (OpenSpec.ofChange shrinkDoesSpec)

/-- ITS FALSE NEIGHBOUR: 'it returns false'. Refute it at one input. -/
def shrinkDoesWrong : ChangeSpec := { name := "shrinkDoes", fn := fun _ => fun
  | [d1, d2, d3] => { results := [.lit (.bool false)], args := [d1, d2, d3] }
  | _ => none }
def ShrinkDoesWrongFalsely : Prop := shrinkDoesRow.holds Tryz.pinned (OpenSpec.ofChange shrinkDoesWrong)

/-- 'leadlinelaw22.ShrinkLeast': WHATEVER THE INPUT: true; the input reads as it did. -/
def shrinkLeastSpec : ChangeSpec := { name := "shrinkLeast", fn := fun _ => fun
  | [d1, d2, d3] => { results := [.lit (.bool true)], args := [d1, d2, d3] }
  | _ => none }
def shrinkLeastRow : OpenClaim := { program := "ytndcifakbhggdaagreatdoor", sum := "4e08100871bc306e93e64ca14f41712a321110000bdc5bcb081c145e068d33b9", func := "leadline/leadlinelaw22.ShrinkLeast", spec := "shrinkLeast", inPlace := ["internal/bytealg.CountString", "internal/bytealg.IndexByteString", "internal/bytealg.IndexString"], unfollowed := true, recurses := true, named := ["unicode/utf8.first", "unicode/utf8.acceptRanges", "internal/bytealg.MaxLen"], plainKeys := false, apart := false, laid := [("unicode/utf8.acceptRanges", laid_unicode_utf8_acceptRanges), ("unicode/utf8.first", laid_unicode_utf8_first)] }
def ShrinkLeastSaid : Prop := shrinkLeastRow.holds Tryz.pinned (OpenSpec.ofChange shrinkLeastSpec)

/-- ITS FALSE NEIGHBOUR: 'it returns false'. Refute it at one input. -/
def shrinkLeastWrong : ChangeSpec := { name := "shrinkLeast", fn := fun _ => fun
  | [d1, d2, d3] => { results := [.lit (.bool false)], args := [d1, d2, d3] }
  | _ => none }
def ShrinkLeastWrongFalsely : Prop := shrinkLeastRow.holds Tryz.pinned (OpenSpec.ofChange shrinkLeastWrong)

/-- 'leadlinelaw22.ShrinkKeeps': WHATEVER THE INPUT: true; the input reads as it did. -/
def shrinkKeepsSpec : ChangeSpec := { name := "shrinkKeeps", fn := fun _ => fun
  | [d1, d2, d3] => { results := [.lit (.bool true)], args := [d1, d2, d3] }
  | _ => none }
def shrinkKeepsRow : OpenClaim := { program := "ytndcifakbhggdaagreatdoor", sum := "4e08100871bc306e93e64ca14f41712a321110000bdc5bcb081c145e068d33b9", func := "leadline/leadlinelaw22.ShrinkKeeps", spec := "shrinkKeeps", inPlace := ["internal/bytealg.CountString", "internal/bytealg.IndexByteString", "internal/bytealg.IndexString"], unfollowed := true, recurses := true, named := ["unicode/utf8.first", "unicode/utf8.acceptRanges", "internal/bytealg.MaxLen"], plainKeys := false, apart := false, laid := [("unicode/utf8.acceptRanges", laid_unicode_utf8_acceptRanges), ("unicode/utf8.first", laid_unicode_utf8_first)] }
def ShrinkKeepsSaid : Prop := shrinkKeepsRow.holds Tryz.pinned (OpenSpec.ofChange shrinkKeepsSpec)

/-- ITS FALSE NEIGHBOUR: 'it returns false'. Refute it at one input. -/
def shrinkKeepsWrong : ChangeSpec := { name := "shrinkKeeps", fn := fun _ => fun
  | [d1, d2, d3] => { results := [.lit (.bool false)], args := [d1, d2, d3] }
  | _ => none }
def ShrinkKeepsWrongFalsely : Prop := shrinkKeepsRow.holds Tryz.pinned (OpenSpec.ofChange shrinkKeepsWrong)

/-- 'leadlinelaw22.ShrinkAgain': WHATEVER THE INPUT: true; the input reads as it did. -/
def shrinkAgainSpec : ChangeSpec := { name := "shrinkAgain", fn := fun _ => fun
  | [d1, d2, d3] => { results := [.lit (.bool true)], args := [d1, d2, d3] }
  | _ => none }
def shrinkAgainRow : OpenClaim := { program := "ytndcifakbhggdaagreatdoor", sum := "4e08100871bc306e93e64ca14f41712a321110000bdc5bcb081c145e068d33b9", func := "leadline/leadlinelaw22.ShrinkAgain", spec := "shrinkAgain", inPlace := ["internal/bytealg.CountString", "internal/bytealg.IndexByteString", "internal/bytealg.IndexString"], unfollowed := true, recurses := true, named := ["unicode/utf8.first", "unicode/utf8.acceptRanges", "internal/bytealg.MaxLen"], plainKeys := false, apart := false, laid := [("unicode/utf8.acceptRanges", laid_unicode_utf8_acceptRanges), ("unicode/utf8.first", laid_unicode_utf8_first)] }
def ShrinkAgainSaid : Prop := shrinkAgainRow.holds Tryz.pinned (OpenSpec.ofChange shrinkAgainSpec)

/-- ITS FALSE NEIGHBOUR: 'it returns false'. Refute it at one input. -/
def shrinkAgainWrong : ChangeSpec := { name := "shrinkAgain", fn := fun _ => fun
  | [d1, d2, d3] => { results := [.lit (.bool false)], args := [d1, d2, d3] }
  | _ => none }
def ShrinkAgainWrongFalsely : Prop := shrinkAgainRow.holds Tryz.pinned (OpenSpec.ofChange shrinkAgainWrong)

/-- 'leadlinelaw22.ShrinkDone': WHATEVER THE INPUT: true; the input reads as it did. -/
def shrinkDoneSpec : ChangeSpec := { name := "shrinkDone", fn := fun _ => fun
  | [d1, d2, d3] => { results := [.lit (.bool true)], args := [d1, d2, d3] }
  | _ => none }
def shrinkDoneRow : OpenClaim := { program := "ytndcifakbhggdaagreatdoor", sum := "4e08100871bc306e93e64ca14f41712a321110000bdc5bcb081c145e068d33b9", func := "leadline/leadlinelaw22.ShrinkDone", spec := "shrinkDone", inPlace := ["internal/bytealg.CountString", "internal/bytealg.IndexByteString", "internal/bytealg.IndexString"], unfollowed := true, recurses := true, named := ["unicode/utf8.first", "unicode/utf8.acceptRanges", "internal/bytealg.MaxLen"], plainKeys := false, apart := false, laid := [("unicode/utf8.acceptRanges", laid_unicode_utf8_acceptRanges), ("unicode/utf8.first", laid_unicode_utf8_first)] }
def ShrinkDoneSaid : Prop := shrinkDoneRow.holds Tryz.pinned (OpenSpec.ofChange shrinkDoneSpec)

/-- ITS FALSE NEIGHBOUR: 'it returns false'. Refute it at one input. -/
def shrinkDoneWrong : ChangeSpec := { name := "shrinkDone", fn := fun _ => fun
  | [d1, d2, d3] => { results := [.lit (.bool false)], args := [d1, d2, d3] }
  | _ => none }
def ShrinkDoneWrongFalsely : Prop := shrinkDoneRow.holds Tryz.pinned (OpenSpec.ofChange shrinkDoneWrong)

/-- 'leadlinelaw19.ReplayRuns': WHATEVER THE INPUT: true; the input reads as it did. -/
def replayRunsSpec : ChangeSpec := { name := "replayRuns", fn := fun _ => fun
  | [d1, d2, d3] => { results := [.lit (.bool true)], args := [d1, d2, d3] }
  | _ => none }
def replayRunsRow : OpenClaim := { program := "ytndcifakbhggdaagreatdoor", sum := "4e08100871bc306e93e64ca14f41712a321110000bdc5bcb081c145e068d33b9", func := "leadline/leadlinelaw19.ReplayRuns", spec := "replayRuns", inPlace := ["internal/bytealg.CountString", "internal/bytealg.IndexByteString", "internal/bytealg.IndexString"], unfollowed := true, recurses := true, named := ["unicode/utf8.first", "unicode/utf8.acceptRanges", "internal/bytealg.MaxLen"], plainKeys := false, apart := false, laid := [("unicode/utf8.acceptRanges", laid_unicode_utf8_acceptRanges), ("unicode/utf8.first", laid_unicode_utf8_first)] }
def ReplayRunsSaid : Prop := replayRunsRow.holds Tryz.pinned (OpenSpec.ofChange replayRunsSpec)

/-- ITS FALSE NEIGHBOUR: 'it returns false'. Refute it at one input. -/
def replayRunsWrong : ChangeSpec := { name := "replayRuns", fn := fun _ => fun
  | [d1, d2, d3] => { results := [.lit (.bool false)], args := [d1, d2, d3] }
  | _ => none }
def ReplayRunsWrongFalsely : Prop := replayRunsRow.holds Tryz.pinned (OpenSpec.ofChange replayRunsWrong)

/-- 'leadlinelaw19.ReplayTells': WHATEVER THE INPUT: true; the input reads as it did. -/
def replayTellsSpec : ChangeSpec := { name := "replayTells", fn := fun _ => fun
  | [d1, d2, d3] => { results := [.lit (.bool true)], args := [d1, d2, d3] }
  | _ => none }
def replayTellsRow : OpenClaim := { program := "ytndcifakbhggdaagreatdoor", sum := "4e08100871bc306e93e64ca14f41712a321110000bdc5bcb081c145e068d33b9", func := "leadline/leadlinelaw19.ReplayTells", spec := "replayTells", inPlace := ["internal/bytealg.CountString", "internal/bytealg.IndexByteString", "internal/bytealg.IndexString"], unfollowed := true, recurses := true, named := ["unicode/utf8.first", "unicode/utf8.acceptRanges", "internal/bytealg.MaxLen"], plainKeys := false, apart := false, laid := [("unicode/utf8.acceptRanges", laid_unicode_utf8_acceptRanges), ("unicode/utf8.first", laid_unicode_utf8_first)] }
def ReplayTellsSaid : Prop := replayTellsRow.holds Tryz.pinned (OpenSpec.ofChange replayTellsSpec)

/-- ITS FALSE NEIGHBOUR: 'it returns false'. Refute it at one input. -/
def replayTellsWrong : ChangeSpec := { name := "replayTells", fn := fun _ => fun
  | [d1, d2, d3] => { results := [.lit (.bool false)], args := [d1, d2, d3] }
  | _ => none }
def ReplayTellsWrongFalsely : Prop := replayTellsRow.holds Tryz.pinned (OpenSpec.ofChange replayTellsWrong)

/-- 'leadlinelaw19.ReplayFar': WHATEVER THE INPUT: true; the input reads as it did. -/
def replayFarSpec : ChangeSpec := { name := "replayFar", fn := fun _ => fun
  | [d1, d2, d3] => { results := [.lit (.bool true)], args := [d1, d2, d3] }
  | _ => none }
def replayFarRow : OpenClaim := { program := "ytndcifakbhggdaagreatdoor", sum := "4e08100871bc306e93e64ca14f41712a321110000bdc5bcb081c145e068d33b9", func := "leadline/leadlinelaw19.ReplayFar", spec := "replayFar", inPlace := ["internal/bytealg.CountString", "internal/bytealg.IndexByteString", "internal/bytealg.IndexString"], unfollowed := true, recurses := true, named := ["unicode/utf8.first", "unicode/utf8.acceptRanges", "internal/bytealg.MaxLen"], plainKeys := false, apart := false, laid := [("unicode/utf8.acceptRanges", laid_unicode_utf8_acceptRanges), ("unicode/utf8.first", laid_unicode_utf8_first)] }
def ReplayFarSaid : Prop := replayFarRow.holds Tryz.pinned (OpenSpec.ofChange replayFarSpec)

/-- ITS FALSE NEIGHBOUR: 'it returns false'. Refute it at one input. -/
def replayFarWrong : ChangeSpec := { name := "replayFar", fn := fun _ => fun
  | [d1, d2, d3] => { results := [.lit (.bool false)], args := [d1, d2, d3] }
  | _ => none }
def ReplayFarWrongFalsely : Prop := replayFarRow.holds Tryz.pinned (OpenSpec.ofChange replayFarWrong)

/-- 'leadlinelaw19.ReplayOrder': WHATEVER THE INPUT: true; the input reads as it did. -/
def replayOrderSpec : ChangeSpec := { name := "replayOrder", fn := fun _ => fun
  | [d1, d2, d3] => { results := [.lit (.bool true)], args := [d1, d2, d3] }
  | _ => none }
def replayOrderRow : OpenClaim := { program := "ytndcifakbhggdaagreatdoor", sum := "4e08100871bc306e93e64ca14f41712a321110000bdc5bcb081c145e068d33b9", func := "leadline/leadlinelaw19.ReplayOrder", spec := "replayOrder", inPlace := ["internal/bytealg.CountString", "internal/bytealg.IndexByteString", "internal/bytealg.IndexString"], unfollowed := true, recurses := true, named := ["unicode/utf8.first", "unicode/utf8.acceptRanges", "internal/bytealg.MaxLen"], plainKeys := false, apart := false, laid := [("unicode/utf8.acceptRanges", laid_unicode_utf8_acceptRanges), ("unicode/utf8.first", laid_unicode_utf8_first)] }
def ReplayOrderSaid : Prop := replayOrderRow.holds Tryz.pinned (OpenSpec.ofChange replayOrderSpec)

/-- ITS FALSE NEIGHBOUR: 'it returns false'. Refute it at one input. -/
def replayOrderWrong : ChangeSpec := { name := "replayOrder", fn := fun _ => fun
  | [d1, d2, d3] => { results := [.lit (.bool false)], args := [d1, d2, d3] }
  | _ => none }
def ReplayOrderWrongFalsely : Prop := replayOrderRow.holds Tryz.pinned (OpenSpec.ofChange replayOrderWrong)

/-- 'leadlinelaw19.ReplaySteps': WHATEVER THE INPUT: true; the input reads as it did. -/
def replayStepsSpec : ChangeSpec := { name := "replaySteps", fn := fun _ => fun
  | [d1, d2, d3] => { results := [.lit (.bool true)], args := [d1, d2, d3] }
  | _ => none }
def replayStepsRow : OpenClaim := { program := "ytndcifakbhggdaagreatdoor", sum := "4e08100871bc306e93e64ca14f41712a321110000bdc5bcb081c145e068d33b9", func := "leadline/leadlinelaw19.ReplaySteps", spec := "replaySteps", inPlace := ["internal/bytealg.CountString", "internal/bytealg.IndexByteString", "internal/bytealg.IndexString"], unfollowed := true, recurses := true, named := ["unicode/utf8.first", "unicode/utf8.acceptRanges", "internal/bytealg.MaxLen"], plainKeys := false, apart := false, laid := [("unicode/utf8.acceptRanges", laid_unicode_utf8_acceptRanges), ("unicode/utf8.first", laid_unicode_utf8_first)] }
def ReplayStepsSaid : Prop := replayStepsRow.holds Tryz.pinned (OpenSpec.ofChange replayStepsSpec)

/-- ITS FALSE NEIGHBOUR: 'it returns false'. Refute it at one input. -/
def replayStepsWrong : ChangeSpec := { name := "replaySteps", fn := fun _ => fun
  | [d1, d2, d3] => { results := [.lit (.bool false)], args := [d1, d2, d3] }
  | _ => none }
def ReplayStepsWrongFalsely : Prop := replayStepsRow.holds Tryz.pinned (OpenSpec.ofChange replayStepsWrong)

/- THE SECOND FORM. 'bulk': how many values and letters a reading holds, each counted each time it is reached (what is shared counts as often as it is met; a slice's spare places count too). A statement '..UptoSaid' is the law's where the arguments, and the package variables that the reading takes, are together of bulk at most 1048576: NARROWER than '..Said'. Prove '..Said' where nothing that the law and all that it calls make is longer than what came in: it says more and counts as full. Else prove '..UptoSaid'. A law counts once. -/
mutual
def uptoBulk {H : Type} : DataW H → Nat
  | .lit (.string bytes) => bytes.length + 1
  | .lit _ => 1
  | .nil => 1
  | .ptr d => uptoBulk d + 1
  | .slice elems spare => uptoBulkAll elems + uptoBulkAll spare + 1
  | .agg parts => uptoBulkAll parts + 1
  | .iface _ d => uptoBulk d + 1
  | .map entries => uptoBulkEntries entries + 1
  | .held _ => 1
def uptoBulkAll {H : Type} : List (DataW H) → Nat
  | [] => 0
  | d :: r => uptoBulk d + uptoBulkAll r
def uptoBulkEntries {H : Type} : List (Lit × DataW H) → Nat
  | [] => 0
  | x :: r => uptoBulkEntry x + uptoBulkEntries r
def uptoBulkEntry {H : Type} : Lit × DataW H → Nat
  | (.string bytes, d) => bytes.length + uptoBulk d + 1
  | (_, d) => uptoBulk d + 1
 end
def uptoSmall : (H : Type) → List (DataW H) → Bool := fun _ ds => decide (uptoBulkAll ds ≤ 1048576)
def OpenSpec.upto (s : _root_.Go.ChangeSpec) : _root_.Go.OpenSpec := { _root_.Go.OpenSpec.ofChange s with cond := some uptoSmall }

/-- 'leadlinelaw14.DirectDoes', WHERE WHAT IT READS IS OF BULK AT MOST 1048576: true; the input reads as it did. -/
def directDoesUptoRow : OpenClaim := { program := "ytndcifakbhggdaagreatdoor", sum := "4e08100871bc306e93e64ca14f41712a321110000bdc5bcb081c145e068d33b9", func := "leadline/leadlinelaw14.DirectDoes", spec := "directDoes", inPlace := ["internal/bytealg.CountString", "internal/bytealg.IndexByteString", "internal/bytealg.IndexString"], unfollowed := true, recurses := true, named := ["unicode/utf8.first", "unicode/utf8.acceptRanges", "internal/bytealg.MaxLen"], plainKeys := false, apart := false, laid := [("unicode/utf8.acceptRanges", laid_unicode_utf8_acceptRanges), ("unicode/utf8.first", laid_unicode_utf8_first)], narrowed := true }
def DirectDoesUptoSaid : Prop := directDoesUptoRow.holds Tryz.pinned (OpenSpec.upto directDoesSpec)

/-- 'leadlinelaw14.DirectLoops', WHERE WHAT IT READS IS OF BULK AT MOST 1048576: true; the input reads as it did. -/
def directLoopsUptoRow : OpenClaim := { program := "ytndcifakbhggdaagreatdoor", sum := "4e08100871bc306e93e64ca14f41712a321110000bdc5bcb081c145e068d33b9", func := "leadline/leadlinelaw14.DirectLoops", spec := "directLoops", inPlace := ["internal/bytealg.CountString", "internal/bytealg.IndexByteString", "internal/bytealg.IndexString"], unfollowed := true, recurses := true, named := ["unicode/utf8.first", "unicode/utf8.acceptRanges", "internal/bytealg.MaxLen"], plainKeys := false, apart := false, laid := [("unicode/utf8.acceptRanges", laid_unicode_utf8_acceptRanges), ("unicode/utf8.first", laid_unicode_utf8_first)], narrowed := true }
def DirectLoopsUptoSaid : Prop := directLoopsUptoRow.holds Tryz.pinned (OpenSpec.upto directLoopsSpec)

/-- 'leadlinelaw14.DirectBare', WHERE WHAT IT READS IS OF BULK AT MOST 1048576: true; the input reads as it did. -/
def directBareUptoRow : OpenClaim := { program := "ytndcifakbhggdaagreatdoor", sum := "4e08100871bc306e93e64ca14f41712a321110000bdc5bcb081c145e068d33b9", func := "leadline/leadlinelaw14.DirectBare", spec := "directBare", inPlace := ["internal/bytealg.CountString", "internal/bytealg.IndexByteString", "internal/bytealg.IndexString"], unfollowed := true, recurses := true, named := ["unicode/utf8.first", "unicode/utf8.acceptRanges", "internal/bytealg.MaxLen"], plainKeys := false, apart := false, laid := [("unicode/utf8.acceptRanges", laid_unicode_utf8_acceptRanges), ("unicode/utf8.first", laid_unicode_utf8_first)], narrowed := true }
def DirectBareUptoSaid : Prop := directBareUptoRow.holds Tryz.pinned (OpenSpec.upto directBareSpec)

/-- 'leadlinelaw22.ShrinkDoes', WHERE WHAT IT READS IS OF BULK AT MOST 1048576: true; the input reads as it did. -/
def shrinkDoesUptoRow : OpenClaim := { program := "ytndcifakbhggdaagreatdoor", sum := "4e08100871bc306e93e64ca14f41712a321110000bdc5bcb081c145e068d33b9", func := "leadline/leadlinelaw22.ShrinkDoes", spec := "shrinkDoes", inPlace := ["internal/bytealg.CountString", "internal/bytealg.IndexByteString", "internal/bytealg.IndexString"], unfollowed := true, recurses := true, named := ["unicode/utf8.first", "unicode/utf8.acceptRanges", "internal/bytealg.MaxLen"], plainKeys := false, apart := false, laid := [("unicode/utf8.acceptRanges", laid_unicode_utf8_acceptRanges), ("unicode/utf8.first", laid_unicode_utf8_first)], narrowed := true }
def ShrinkDoesUptoSaid : Prop := shrinkDoesUptoRow.holds Tryz.pinned (OpenSpec.upto shrinkDoesSpec)

/-- 'leadlinelaw22.ShrinkLeast', WHERE WHAT IT READS IS OF BULK AT MOST 1048576: true; the input reads as it did. -/
def shrinkLeastUptoRow : OpenClaim := { program := "ytndcifakbhggdaagreatdoor", sum := "4e08100871bc306e93e64ca14f41712a321110000bdc5bcb081c145e068d33b9", func := "leadline/leadlinelaw22.ShrinkLeast", spec := "shrinkLeast", inPlace := ["internal/bytealg.CountString", "internal/bytealg.IndexByteString", "internal/bytealg.IndexString"], unfollowed := true, recurses := true, named := ["unicode/utf8.first", "unicode/utf8.acceptRanges", "internal/bytealg.MaxLen"], plainKeys := false, apart := false, laid := [("unicode/utf8.acceptRanges", laid_unicode_utf8_acceptRanges), ("unicode/utf8.first", laid_unicode_utf8_first)], narrowed := true }
def ShrinkLeastUptoSaid : Prop := shrinkLeastUptoRow.holds Tryz.pinned (OpenSpec.upto shrinkLeastSpec)

/-- 'leadlinelaw22.ShrinkKeeps', WHERE WHAT IT READS IS OF BULK AT MOST 1048576: true; the input reads as it did. -/
def shrinkKeepsUptoRow : OpenClaim := { program := "ytndcifakbhggdaagreatdoor", sum := "4e08100871bc306e93e64ca14f41712a321110000bdc5bcb081c145e068d33b9", func := "leadline/leadlinelaw22.ShrinkKeeps", spec := "shrinkKeeps", inPlace := ["internal/bytealg.CountString", "internal/bytealg.IndexByteString", "internal/bytealg.IndexString"], unfollowed := true, recurses := true, named := ["unicode/utf8.first", "unicode/utf8.acceptRanges", "internal/bytealg.MaxLen"], plainKeys := false, apart := false, laid := [("unicode/utf8.acceptRanges", laid_unicode_utf8_acceptRanges), ("unicode/utf8.first", laid_unicode_utf8_first)], narrowed := true }
def ShrinkKeepsUptoSaid : Prop := shrinkKeepsUptoRow.holds Tryz.pinned (OpenSpec.upto shrinkKeepsSpec)

/-- 'leadlinelaw22.ShrinkAgain', WHERE WHAT IT READS IS OF BULK AT MOST 1048576: true; the input reads as it did. -/
def shrinkAgainUptoRow : OpenClaim := { program := "ytndcifakbhggdaagreatdoor", sum := "4e08100871bc306e93e64ca14f41712a321110000bdc5bcb081c145e068d33b9", func := "leadline/leadlinelaw22.ShrinkAgain", spec := "shrinkAgain", inPlace := ["internal/bytealg.CountString", "internal/bytealg.IndexByteString", "internal/bytealg.IndexString"], unfollowed := true, recurses := true, named := ["unicode/utf8.first", "unicode/utf8.acceptRanges", "internal/bytealg.MaxLen"], plainKeys := false, apart := false, laid := [("unicode/utf8.acceptRanges", laid_unicode_utf8_acceptRanges), ("unicode/utf8.first", laid_unicode_utf8_first)], narrowed := true }
def ShrinkAgainUptoSaid : Prop := shrinkAgainUptoRow.holds Tryz.pinned (OpenSpec.upto shrinkAgainSpec)

/-- 'leadlinelaw22.ShrinkDone', WHERE WHAT IT READS IS OF BULK AT MOST 1048576: true; the input reads as it did. -/
def shrinkDoneUptoRow : OpenClaim := { program := "ytndcifakbhggdaagreatdoor", sum := "4e08100871bc306e93e64ca14f41712a321110000bdc5bcb081c145e068d33b9", func := "leadline/leadlinelaw22.ShrinkDone", spec := "shrinkDone", inPlace := ["internal/bytealg.CountString", "internal/bytealg.IndexByteString", "internal/bytealg.IndexString"], unfollowed := true, recurses := true, named := ["unicode/utf8.first", "unicode/utf8.acceptRanges", "internal/bytealg.MaxLen"], plainKeys := false, apart := false, laid := [("unicode/utf8.acceptRanges", laid_unicode_utf8_acceptRanges), ("unicode/utf8.first", laid_unicode_utf8_first)], narrowed := true }
def ShrinkDoneUptoSaid : Prop := shrinkDoneUptoRow.holds Tryz.pinned (OpenSpec.upto shrinkDoneSpec)

/-- 'leadlinelaw19.ReplayRuns', WHERE WHAT IT READS IS OF BULK AT MOST 1048576: true; the input reads as it did. -/
def replayRunsUptoRow : OpenClaim := { program := "ytndcifakbhggdaagreatdoor", sum := "4e08100871bc306e93e64ca14f41712a321110000bdc5bcb081c145e068d33b9", func := "leadline/leadlinelaw19.ReplayRuns", spec := "replayRuns", inPlace := ["internal/bytealg.CountString", "internal/bytealg.IndexByteString", "internal/bytealg.IndexString"], unfollowed := true, recurses := true, named := ["unicode/utf8.first", "unicode/utf8.acceptRanges", "internal/bytealg.MaxLen"], plainKeys := false, apart := false, laid := [("unicode/utf8.acceptRanges", laid_unicode_utf8_acceptRanges), ("unicode/utf8.first", laid_unicode_utf8_first)], narrowed := true }
def ReplayRunsUptoSaid : Prop := replayRunsUptoRow.holds Tryz.pinned (OpenSpec.upto replayRunsSpec)

/-- 'leadlinelaw19.ReplayTells', WHERE WHAT IT READS IS OF BULK AT MOST 1048576: true; the input reads as it did. -/
def replayTellsUptoRow : OpenClaim := { program := "ytndcifakbhggdaagreatdoor", sum := "4e08100871bc306e93e64ca14f41712a321110000bdc5bcb081c145e068d33b9", func := "leadline/leadlinelaw19.ReplayTells", spec := "replayTells", inPlace := ["internal/bytealg.CountString", "internal/bytealg.IndexByteString", "internal/bytealg.IndexString"], unfollowed := true, recurses := true, named := ["unicode/utf8.first", "unicode/utf8.acceptRanges", "internal/bytealg.MaxLen"], plainKeys := false, apart := false, laid := [("unicode/utf8.acceptRanges", laid_unicode_utf8_acceptRanges), ("unicode/utf8.first", laid_unicode_utf8_first)], narrowed := true }
def ReplayTellsUptoSaid : Prop := replayTellsUptoRow.holds Tryz.pinned (OpenSpec.upto replayTellsSpec)

/-- 'leadlinelaw19.ReplayFar', WHERE WHAT IT READS IS OF BULK AT MOST 1048576: true; the input reads as it did. -/
def replayFarUptoRow : OpenClaim := { program := "ytndcifakbhggdaagreatdoor", sum := "4e08100871bc306e93e64ca14f41712a321110000bdc5bcb081c145e068d33b9", func := "leadline/leadlinelaw19.ReplayFar", spec := "replayFar", inPlace := ["internal/bytealg.CountString", "internal/bytealg.IndexByteString", "internal/bytealg.IndexString"], unfollowed := true, recurses := true, named := ["unicode/utf8.first", "unicode/utf8.acceptRanges", "internal/bytealg.MaxLen"], plainKeys := false, apart := false, laid := [("unicode/utf8.acceptRanges", laid_unicode_utf8_acceptRanges), ("unicode/utf8.first", laid_unicode_utf8_first)], narrowed := true }
def ReplayFarUptoSaid : Prop := replayFarUptoRow.holds Tryz.pinned (OpenSpec.upto replayFarSpec)

/-- 'leadlinelaw19.ReplayOrder', WHERE WHAT IT READS IS OF BULK AT MOST 1048576: true; the input reads as it did. -/
def replayOrderUptoRow : OpenClaim := { program := "ytndcifakbhggdaagreatdoor", sum := "4e08100871bc306e93e64ca14f41712a321110000bdc5bcb081c145e068d33b9", func := "leadline/leadlinelaw19.ReplayOrder", spec := "replayOrder", inPlace := ["internal/bytealg.CountString", "internal/bytealg.IndexByteString", "internal/bytealg.IndexString"], unfollowed := true, recurses := true, named := ["unicode/utf8.first", "unicode/utf8.acceptRanges", "internal/bytealg.MaxLen"], plainKeys := false, apart := false, laid := [("unicode/utf8.acceptRanges", laid_unicode_utf8_acceptRanges), ("unicode/utf8.first", laid_unicode_utf8_first)], narrowed := true }
def ReplayOrderUptoSaid : Prop := replayOrderUptoRow.holds Tryz.pinned (OpenSpec.upto replayOrderSpec)

/-- 'leadlinelaw19.ReplaySteps', WHERE WHAT IT READS IS OF BULK AT MOST 1048576: true; the input reads as it did. -/
def replayStepsUptoRow : OpenClaim := { program := "ytndcifakbhggdaagreatdoor", sum := "4e08100871bc306e93e64ca14f41712a321110000bdc5bcb081c145e068d33b9", func := "leadline/leadlinelaw19.ReplaySteps", spec := "replaySteps", inPlace := ["internal/bytealg.CountString", "internal/bytealg.IndexByteString", "internal/bytealg.IndexString"], unfollowed := true, recurses := true, named := ["unicode/utf8.first", "unicode/utf8.acceptRanges", "internal/bytealg.MaxLen"], plainKeys := false, apart := false, laid := [("unicode/utf8.acceptRanges", laid_unicode_utf8_acceptRanges), ("unicode/utf8.first", laid_unicode_utf8_first)], narrowed := true }
def ReplayStepsUptoSaid : Prop := replayStepsUptoRow.holds Tryz.pinned (OpenSpec.upto replayStepsSpec)

end Rows
end Go.Proofs.YtndcifakbhggdaaGreatDoor
