/-
  NARROWER THAN 'FOR EVERY INPUT', by the rows' own cells (each row's printed sentence says how): DirectDoes: laid · ShrinkDoes: laid · ShrinkLeast: laid · ShrinkKeeps: laid · ShrinkAgain: laid · ShrinkDone: laid · ReplayRuns: laid · ReplaySteps: laid.
  DERIVED. THE GIVEN ROWS OF THIS SEAT. 8 by the template 'for every input the law returns true; each argument reads behind the call as it read before'; 0 by the template 'total and deterministic' (their statements: YtpdlpabnlkofmaaGreatDoorTotals.lean).
  GIVEN WITH THE SEED: the statements are not yours to turn. If you find one false, say at which input.
  Laid BY PROGRAM, IN A SANDBOX (cutbox-rows.mjs): the forced cells as the released guide's own fill.sh prints them over the translation bc490a9e097a38b7… (all of the seat's roots in one cut). By AI agents, Wed Nov 11 2026. No macro, syntax, notation, axiom, sorry.
-/
import Derived.Test.YtpdlpabnlkofmaaGreatDoorChecked
import GoSem.PinnedTables
import GoSem.Claim
import GoSem.ClaimJoined
import GoSem.ClaimMapViews
import Derived.JoinedTies
import Derived.KernelRfl
namespace Go.Proofs.YtpdlpabnlkofmaaGreatDoor
/- THE CELL 'sum', in the pinned program and in every row, IS THE sha256 OF THE DUMP (.gsa) THAT YtpdlpabnlkofmaaGreatDoorProg.lean LOADS. Nothing in Lean hashes anything: it is a label: what it is worth is what the hold of that sum in a sandbox is worth. -/
noncomputable def Tryz.pinned : Pinned := { name := "ytpdlpabnlkofmaagreatdoor", sum := "bc490a9e097a38b761e4f3b9db17e6b084ad4e15f29ca331176cdfdd04b17d1c", checked := Tryz.checked }
namespace Rows
def none {H : Type} : Left H := { results := [], args := [] }

/- WHAT THE LISTED PACKAGE-LEVEL VARIABLES READ AS WHEN THE CALL BEGINS. Each datum BY PROGRAM (the guide's laid-datum.mjs) off the statement by which the dump's own 'gosem.cut.vars' lays the variable. In a bare row this is a premise. The card (YtpdlpabnlkofmaaGreatDoorCards.lean) ties it to the program's text. -/
def laid_unicode_utf8_acceptRanges {H : Type} : DataW H := .agg [.agg [.lit (.int .u8 128), .lit (.int .u8 191)], .agg [.lit (.int .u8 160), .lit (.int .u8 191)], .agg [.lit (.int .u8 128), .lit (.int .u8 159)], .agg [.lit (.int .u8 144), .lit (.int .u8 191)], .agg [.lit (.int .u8 128), .lit (.int .u8 143)], .agg [.lit (.int .u8 0), .lit (.int .u8 0)], .agg [.lit (.int .u8 0), .lit (.int .u8 0)], .agg [.lit (.int .u8 0), .lit (.int .u8 0)], .agg [.lit (.int .u8 0), .lit (.int .u8 0)], .agg [.lit (.int .u8 0), .lit (.int .u8 0)], .agg [.lit (.int .u8 0), .lit (.int .u8 0)], .agg [.lit (.int .u8 0), .lit (.int .u8 0)], .agg [.lit (.int .u8 0), .lit (.int .u8 0)], .agg [.lit (.int .u8 0), .lit (.int .u8 0)], .agg [.lit (.int .u8 0), .lit (.int .u8 0)], .agg [.lit (.int .u8 0), .lit (.int .u8 0)]]
/-- One of Go's own tables, pinned by name: the form's constant. -/
def laid_unicode_utf8_first : DataW Unit := Go.Pinned.utf8First

/-- 'leadlinelaw14.DirectDoes': WHATEVER THE INPUT: true; the input reads as it did. -/
def directDoesSpec : ChangeSpec := { name := "directDoes", fn := fun _ => fun
  | [d1, d2, d3] => { results := [.lit (.bool true)], args := [d1, d2, d3] }
  | _ => none }
def directDoesRow : OpenClaim := { program := "ytpdlpabnlkofmaagreatdoor", sum := "bc490a9e097a38b761e4f3b9db17e6b084ad4e15f29ca331176cdfdd04b17d1c", func := "leadline/leadlinelaw14.DirectDoes", spec := "directDoes", inPlace := ["internal/bytealg.CountString", "internal/bytealg.IndexByteString", "internal/bytealg.IndexString"], unfollowed := true, recurses := true, named := ["unicode/utf8.first", "unicode/utf8.acceptRanges", "internal/bytealg.MaxLen"], plainKeys := false, apart := false, laid := [("unicode/utf8.acceptRanges", laid_unicode_utf8_acceptRanges), ("unicode/utf8.first", laid_unicode_utf8_first)] }
def DirectDoesSaid : Prop := directDoesRow.holds Tryz.pinned (OpenSpec.ofChange directDoesSpec)

/-- ITS FALSE NEIGHBOUR: 'it returns false'. Refute it at one input. -/
def directDoesWrong : ChangeSpec := { name := "directDoes", fn := fun _ => fun
  | [d1, d2, d3] => { results := [.lit (.bool false)], args := [d1, d2, d3] }
  | _ => none }
def DirectDoesWrongFalsely : Prop := directDoesRow.holds Tryz.pinned (OpenSpec.ofChange directDoesWrong)

/-- 'leadlinelaw22.ShrinkDoes': WHATEVER THE INPUT: true; the input reads as it did. -/
def shrinkDoesSpec : ChangeSpec := { name := "shrinkDoes", fn := fun _ => fun
  | [d1, d2, d3] => { results := [.lit (.bool true)], args := [d1, d2, d3] }
  | _ => none }
def shrinkDoesRow : OpenClaim := { program := "ytpdlpabnlkofmaagreatdoor", sum := "bc490a9e097a38b761e4f3b9db17e6b084ad4e15f29ca331176cdfdd04b17d1c", func := "leadline/leadlinelaw22.ShrinkDoes", spec := "shrinkDoes", inPlace := ["internal/bytealg.CountString", "internal/bytealg.IndexByteString", "internal/bytealg.IndexString"], unfollowed := true, recurses := true, named := ["unicode/utf8.first", "unicode/utf8.acceptRanges", "internal/bytealg.MaxLen"], plainKeys := false, apart := false, laid := [("unicode/utf8.acceptRanges", laid_unicode_utf8_acceptRanges), ("unicode/utf8.first", laid_unicode_utf8_first)] }
def ShrinkDoesSaid : Prop := shrinkDoesRow.holds Tryz.pinned (OpenSpec.ofChange shrinkDoesSpec)

/-- ITS FALSE NEIGHBOUR: 'it returns false'. Refute it at one input. -/
def shrinkDoesWrong : ChangeSpec := { name := "shrinkDoes", fn := fun _ => fun
  | [d1, d2, d3] => { results := [.lit (.bool false)], args := [d1, d2, d3] }
  | _ => none }
def ShrinkDoesWrongFalsely : Prop := shrinkDoesRow.holds Tryz.pinned (OpenSpec.ofChange shrinkDoesWrong)

/-- 'leadlinelaw22.ShrinkLeast': WHATEVER THE INPUT: true; the input reads as it did. -/
def shrinkLeastSpec : ChangeSpec := { name := "shrinkLeast", fn := fun _ => fun
  | [d1, d2, d3] => { results := [.lit (.bool true)], args := [d1, d2, d3] }
  | _ => none }
def shrinkLeastRow : OpenClaim := { program := "ytpdlpabnlkofmaagreatdoor", sum := "bc490a9e097a38b761e4f3b9db17e6b084ad4e15f29ca331176cdfdd04b17d1c", func := "leadline/leadlinelaw22.ShrinkLeast", spec := "shrinkLeast", inPlace := ["internal/bytealg.CountString", "internal/bytealg.IndexByteString", "internal/bytealg.IndexString"], unfollowed := true, recurses := true, named := ["unicode/utf8.first", "unicode/utf8.acceptRanges", "internal/bytealg.MaxLen"], plainKeys := false, apart := false, laid := [("unicode/utf8.acceptRanges", laid_unicode_utf8_acceptRanges), ("unicode/utf8.first", laid_unicode_utf8_first)] }
def ShrinkLeastSaid : Prop := shrinkLeastRow.holds Tryz.pinned (OpenSpec.ofChange shrinkLeastSpec)

/-- ITS FALSE NEIGHBOUR: 'it returns false'. Refute it at one input. -/
def shrinkLeastWrong : ChangeSpec := { name := "shrinkLeast", fn := fun _ => fun
  | [d1, d2, d3] => { results := [.lit (.bool false)], args := [d1, d2, d3] }
  | _ => none }
def ShrinkLeastWrongFalsely : Prop := shrinkLeastRow.holds Tryz.pinned (OpenSpec.ofChange shrinkLeastWrong)

/-- 'leadlinelaw22.ShrinkKeeps': WHATEVER THE INPUT: true; the input reads as it did. -/
def shrinkKeepsSpec : ChangeSpec := { name := "shrinkKeeps", fn := fun _ => fun
  | [d1, d2, d3] => { results := [.lit (.bool true)], args := [d1, d2, d3] }
  | _ => none }
def shrinkKeepsRow : OpenClaim := { program := "ytpdlpabnlkofmaagreatdoor", sum := "bc490a9e097a38b761e4f3b9db17e6b084ad4e15f29ca331176cdfdd04b17d1c", func := "leadline/leadlinelaw22.ShrinkKeeps", spec := "shrinkKeeps", inPlace := ["internal/bytealg.CountString", "internal/bytealg.IndexByteString", "internal/bytealg.IndexString"], unfollowed := true, recurses := true, named := ["unicode/utf8.first", "unicode/utf8.acceptRanges", "internal/bytealg.MaxLen"], plainKeys := false, apart := false, laid := [("unicode/utf8.acceptRanges", laid_unicode_utf8_acceptRanges), ("unicode/utf8.first", laid_unicode_utf8_first)] }
def ShrinkKeepsSaid : Prop := shrinkKeepsRow.holds Tryz.pinned (OpenSpec.ofChange shrinkKeepsSpec)

/-- ITS FALSE NEIGHBOUR: 'it returns false'. Refute it at one input. -/
def shrinkKeepsWrong : ChangeSpec := { name := "shrinkKeeps", fn := fun _ => fun
  | [d1, d2, d3] => { results := [.lit (.bool false)], args := [d1, d2, d3] }
  | _ => none }
def ShrinkKeepsWrongFalsely : Prop := shrinkKeepsRow.holds Tryz.pinned (OpenSpec.ofChange shrinkKeepsWrong)

/-- 'leadlinelaw22.ShrinkAgain': WHATEVER THE INPUT: true; the input reads as it did. -/
def shrinkAgainSpec : ChangeSpec := { name := "shrinkAgain", fn := fun _ => fun
  | [d1, d2, d3] => { results := [.lit (.bool true)], args := [d1, d2, d3] }
  | _ => none }
def shrinkAgainRow : OpenClaim := { program := "ytpdlpabnlkofmaagreatdoor", sum := "bc490a9e097a38b761e4f3b9db17e6b084ad4e15f29ca331176cdfdd04b17d1c", func := "leadline/leadlinelaw22.ShrinkAgain", spec := "shrinkAgain", inPlace := ["internal/bytealg.CountString", "internal/bytealg.IndexByteString", "internal/bytealg.IndexString"], unfollowed := true, recurses := true, named := ["unicode/utf8.first", "unicode/utf8.acceptRanges", "internal/bytealg.MaxLen"], plainKeys := false, apart := false, laid := [("unicode/utf8.acceptRanges", laid_unicode_utf8_acceptRanges), ("unicode/utf8.first", laid_unicode_utf8_first)] }
def ShrinkAgainSaid : Prop := shrinkAgainRow.holds Tryz.pinned (OpenSpec.ofChange shrinkAgainSpec)

/-- ITS FALSE NEIGHBOUR: 'it returns false'. Refute it at one input. -/
def shrinkAgainWrong : ChangeSpec := { name := "shrinkAgain", fn := fun _ => fun
  | [d1, d2, d3] => { results := [.lit (.bool false)], args := [d1, d2, d3] }
  | _ => none }
def ShrinkAgainWrongFalsely : Prop := shrinkAgainRow.holds Tryz.pinned (OpenSpec.ofChange shrinkAgainWrong)

/-- 'leadlinelaw22.ShrinkDone': WHATEVER THE INPUT: true; the input reads as it did. -/
def shrinkDoneSpec : ChangeSpec := { name := "shrinkDone", fn := fun _ => fun
  | [d1, d2, d3] => { results := [.lit (.bool true)], args := [d1, d2, d3] }
  | _ => none }
def shrinkDoneRow : OpenClaim := { program := "ytpdlpabnlkofmaagreatdoor", sum := "bc490a9e097a38b761e4f3b9db17e6b084ad4e15f29ca331176cdfdd04b17d1c", func := "leadline/leadlinelaw22.ShrinkDone", spec := "shrinkDone", inPlace := ["internal/bytealg.CountString", "internal/bytealg.IndexByteString", "internal/bytealg.IndexString"], unfollowed := true, recurses := true, named := ["unicode/utf8.first", "unicode/utf8.acceptRanges", "internal/bytealg.MaxLen"], plainKeys := false, apart := false, laid := [("unicode/utf8.acceptRanges", laid_unicode_utf8_acceptRanges), ("unicode/utf8.first", laid_unicode_utf8_first)] }
def ShrinkDoneSaid : Prop := shrinkDoneRow.holds Tryz.pinned (OpenSpec.ofChange shrinkDoneSpec)

/-- ITS FALSE NEIGHBOUR: 'it returns false'. Refute it at one input. -/
def shrinkDoneWrong : ChangeSpec := { name := "shrinkDone", fn := fun _ => fun
  | [d1, d2, d3] => { results := [.lit (.bool false)], args := [d1, d2, d3] }
  | _ => none }
def ShrinkDoneWrongFalsely : Prop := shrinkDoneRow.holds Tryz.pinned (OpenSpec.ofChange shrinkDoneWrong)

/-- 'leadlinelaw19.ReplayRuns': WHATEVER THE INPUT: true; the input reads as it did. -/
def replayRunsSpec : ChangeSpec := { name := "replayRuns", fn := fun _ => fun
  | [d1, d2, d3] => { results := [.lit (.bool true)], args := [d1, d2, d3] }
  | _ => none }
def replayRunsRow : OpenClaim := { program := "ytpdlpabnlkofmaagreatdoor", sum := "bc490a9e097a38b761e4f3b9db17e6b084ad4e15f29ca331176cdfdd04b17d1c", func := "leadline/leadlinelaw19.ReplayRuns", spec := "replayRuns", inPlace := ["internal/bytealg.CountString", "internal/bytealg.IndexByteString", "internal/bytealg.IndexString"], unfollowed := true, recurses := true, named := ["unicode/utf8.first", "unicode/utf8.acceptRanges", "internal/bytealg.MaxLen"], plainKeys := false, apart := false, laid := [("unicode/utf8.acceptRanges", laid_unicode_utf8_acceptRanges), ("unicode/utf8.first", laid_unicode_utf8_first)] }
def ReplayRunsSaid : Prop := replayRunsRow.holds Tryz.pinned (OpenSpec.ofChange replayRunsSpec)

/-- ITS FALSE NEIGHBOUR: 'it returns false'. Refute it at one input. -/
def replayRunsWrong : ChangeSpec := { name := "replayRuns", fn := fun _ => fun
  | [d1, d2, d3] => { results := [.lit (.bool false)], args := [d1, d2, d3] }
  | _ => none }
def ReplayRunsWrongFalsely : Prop := replayRunsRow.holds Tryz.pinned (OpenSpec.ofChange replayRunsWrong)

/-- 'leadlinelaw19.ReplaySteps': WHATEVER THE INPUT: true; the input reads as it did. -/
def replayStepsSpec : ChangeSpec := { name := "replaySteps", fn := fun _ => fun
  | [d1, d2, d3] => { results := [.lit (.bool true)], args := [d1, d2, d3] }
  | _ => none }
def replayStepsRow : OpenClaim := { program := "ytpdlpabnlkofmaagreatdoor", sum := "bc490a9e097a38b761e4f3b9db17e6b084ad4e15f29ca331176cdfdd04b17d1c", func := "leadline/leadlinelaw19.ReplaySteps", spec := "replaySteps", inPlace := ["internal/bytealg.CountString", "internal/bytealg.IndexByteString", "internal/bytealg.IndexString"], unfollowed := true, recurses := true, named := ["unicode/utf8.first", "unicode/utf8.acceptRanges", "internal/bytealg.MaxLen"], plainKeys := false, apart := false, laid := [("unicode/utf8.acceptRanges", laid_unicode_utf8_acceptRanges), ("unicode/utf8.first", laid_unicode_utf8_first)] }
def ReplayStepsSaid : Prop := replayStepsRow.holds Tryz.pinned (OpenSpec.ofChange replayStepsSpec)

/-- ITS FALSE NEIGHBOUR: 'it returns false'. Refute it at one input. -/
def replayStepsWrong : ChangeSpec := { name := "replaySteps", fn := fun _ => fun
  | [d1, d2, d3] => { results := [.lit (.bool false)], args := [d1, d2, d3] }
  | _ => none }
def ReplayStepsWrongFalsely : Prop := replayStepsRow.holds Tryz.pinned (OpenSpec.ofChange replayStepsWrong)

/- THE SECOND FORM. 'bulk': how many values and letters a reading holds, each counted each time it is reached (what is shared counts as often as it is met; a slice's spare places count too). A statement '..UptoSaid' is the law's where the arguments, and the package variables that the reading takes, are together of bulk at most 1048576: NARROWER than '..Said'. Prove '..Said' where nothing that the law and all that it calls make is longer than what came in: it says more and counts as full. Else prove '..UptoSaid'. A law counts once. -/
mutual
def uptoBulk {H : Type} : DataW H → Nat
  | .lit (.string bytes) => bytes.length + 1
  | .lit _ => 1
  | .nil => 1
  | .ptr d => uptoBulk d + 1
  | .slice elems spare => uptoBulkAll elems + uptoBulkAll spare + 1
  | .agg parts => uptoBulkAll parts + 1
  | .iface _ d => uptoBulk d + 1
  | .map entries => uptoBulkEntries entries + 1
  | .held _ => 1
def uptoBulkAll {H : Type} : List (DataW H) → Nat
  | [] => 0
  | d :: r => uptoBulk d + uptoBulkAll r
def uptoBulkEntries {H : Type} : List (Lit × DataW H) → Nat
  | [] => 0
  | x :: r => uptoBulkEntry x + uptoBulkEntries r
def uptoBulkEntry {H : Type} : Lit × DataW H → Nat
  | (.string bytes, d) => bytes.length + uptoBulk d + 1
  | (_, d) => uptoBulk d + 1
 end
def uptoSmall : (H : Type) → List (DataW H) → Bool := fun _ ds => decide (uptoBulkAll ds ≤ 1048576)
def OpenSpec.upto (s : _root_.Go.ChangeSpec) : _root_.Go.OpenSpec := { _root_.Go.OpenSpec.ofChange s with cond := some uptoSmall }

/-- 'leadlinelaw14.DirectDoes', WHERE WHAT IT READS IS OF BULK AT MOST 1048576: true; the input reads as it did. -/
def directDoesUptoRow : OpenClaim := { program := "ytpdlpabnlkofmaagreatdoor", sum := "bc490a9e097a38b761e4f3b9db17e6b084ad4e15f29ca331176cdfdd04b17d1c", func := "leadline/leadlinelaw14.DirectDoes", spec := "directDoes", inPlace := ["internal/bytealg.CountString", "internal/bytealg.IndexByteString", "internal/bytealg.IndexString"], unfollowed := true, recurses := true, named := ["unicode/utf8.first", "unicode/utf8.acceptRanges", "internal/bytealg.MaxLen"], plainKeys := false, apart := false, laid := [("unicode/utf8.acceptRanges", laid_unicode_utf8_acceptRanges), ("unicode/utf8.first", laid_unicode_utf8_first)], narrowed := true }
def DirectDoesUptoSaid : Prop := directDoesUptoRow.holds Tryz.pinned (OpenSpec.upto directDoesSpec)

/-- 'leadlinelaw22.ShrinkDoes', WHERE WHAT IT READS IS OF BULK AT MOST 1048576: true; the input reads as it did. -/
def shrinkDoesUptoRow : OpenClaim := { program := "ytpdlpabnlkofmaagreatdoor", sum := "bc490a9e097a38b761e4f3b9db17e6b084ad4e15f29ca331176cdfdd04b17d1c", func := "leadline/leadlinelaw22.ShrinkDoes", spec := "shrinkDoes", inPlace := ["internal/bytealg.CountString", "internal/bytealg.IndexByteString", "internal/bytealg.IndexString"], unfollowed := true, recurses := true, named := ["unicode/utf8.first", "unicode/utf8.acceptRanges", "internal/bytealg.MaxLen"], plainKeys := false, apart := false, laid := [("unicode/utf8.acceptRanges", laid_unicode_utf8_acceptRanges), ("unicode/utf8.first", laid_unicode_utf8_first)], narrowed := true }
def ShrinkDoesUptoSaid : Prop := shrinkDoesUptoRow.holds Tryz.pinned (OpenSpec.upto shrinkDoesSpec)

/-- 'leadlinelaw22.ShrinkLeast', WHERE WHAT IT READS IS OF BULK AT MOST 1048576: true; the input reads as it did. -/
def shrinkLeastUptoRow : OpenClaim := { program := "ytpdlpabnlkofmaagreatdoor", sum := "bc490a9e097a38b761e4f3b9db17e6b084ad4e15f29ca331176cdfdd04b17d1c", func := "leadline/leadlinelaw22.ShrinkLeast", spec := "shrinkLeast", inPlace := ["internal/bytealg.CountString", "internal/bytealg.IndexByteString", "internal/bytealg.IndexString"], unfollowed := true, recurses := true, named := ["unicode/utf8.first", "unicode/utf8.acceptRanges", "internal/bytealg.MaxLen"], plainKeys := false, apart := false, laid := [("unicode/utf8.acceptRanges", laid_unicode_utf8_acceptRanges), ("unicode/utf8.first", laid_unicode_utf8_first)], narrowed := true }
def ShrinkLeastUptoSaid : Prop := shrinkLeastUptoRow.holds Tryz.pinned (OpenSpec.upto shrinkLeastSpec)

/-- 'leadlinelaw22.ShrinkKeeps', WHERE WHAT IT READS IS OF BULK AT MOST 1048576: true; the input reads as it did. -/
def shrinkKeepsUptoRow : OpenClaim := { program := "ytpdlpabnlkofmaagreatdoor", sum := "bc490a9e097a38b761e4f3b9db17e6b084ad4e15f29ca331176cdfdd04b17d1c", func := "leadline/leadlinelaw22.ShrinkKeeps", spec := "shrinkKeeps", inPlace := ["internal/bytealg.CountString", "internal/bytealg.IndexByteString", "internal/bytealg.IndexString"], unfollowed := true, recurses := true, named := ["unicode/utf8.first", "unicode/utf8.acceptRanges", "internal/bytealg.MaxLen"], plainKeys := false, apart := false, laid := [("unicode/utf8.acceptRanges", laid_unicode_utf8_acceptRanges), ("unicode/utf8.first", laid_unicode_utf8_first)], narrowed := true }
def ShrinkKeepsUptoSaid : Prop := shrinkKeepsUptoRow.holds Tryz.pinned (OpenSpec.upto shrinkKeepsSpec)

/-- 'leadlinelaw22.ShrinkAgain', WHERE WHAT IT READS IS OF BULK AT MOST 1048576: true; the input reads as it did. -/
def shrinkAgainUptoRow : OpenClaim := { program := "ytpdlpabnlkofmaagreatdoor", sum := "bc490a9e097a38b761e4f3b9db17e6b084ad4e15f29ca331176cdfdd04b17d1c", func := "leadline/leadlinelaw22.ShrinkAgain", spec := "shrinkAgain", inPlace := ["internal/bytealg.CountString", "internal/bytealg.IndexByteString", "internal/bytealg.IndexString"], unfollowed := true, recurses := true, named := ["unicode/utf8.first", "unicode/utf8.acceptRanges", "internal/bytealg.MaxLen"], plainKeys := false, apart := false, laid := [("unicode/utf8.acceptRanges", laid_unicode_utf8_acceptRanges), ("unicode/utf8.first", laid_unicode_utf8_first)], narrowed := true }
def ShrinkAgainUptoSaid : Prop := shrinkAgainUptoRow.holds Tryz.pinned (OpenSpec.upto shrinkAgainSpec)

/-- 'leadlinelaw22.ShrinkDone', WHERE WHAT IT READS IS OF BULK AT MOST 1048576: true; the input reads as it did. -/
def shrinkDoneUptoRow : OpenClaim := { program := "ytpdlpabnlkofmaagreatdoor", sum := "bc490a9e097a38b761e4f3b9db17e6b084ad4e15f29ca331176cdfdd04b17d1c", func := "leadline/leadlinelaw22.ShrinkDone", spec := "shrinkDone", inPlace := ["internal/bytealg.CountString", "internal/bytealg.IndexByteString", "internal/bytealg.IndexString"], unfollowed := true, recurses := true, named := ["unicode/utf8.first", "unicode/utf8.acceptRanges", "internal/bytealg.MaxLen"], plainKeys := false, apart := false, laid := [("unicode/utf8.acceptRanges", laid_unicode_utf8_acceptRanges), ("unicode/utf8.first", laid_unicode_utf8_first)], narrowed := true }
def ShrinkDoneUptoSaid : Prop := shrinkDoneUptoRow.holds Tryz.pinned (OpenSpec.upto shrinkDoneSpec)

/-- 'leadlinelaw19.ReplayRuns', WHERE WHAT IT READS IS OF BULK AT MOST 1048576: true; the input reads as it did. -/
def replayRunsUptoRow : OpenClaim := { program := "ytpdlpabnlkofmaagreatdoor", sum := "bc490a9e097a38b761e4f3b9db17e6b084ad4e15f29ca331176cdfdd04b17d1c", func := "leadline/leadlinelaw19.ReplayRuns", spec := "replayRuns", inPlace := ["internal/bytealg.CountString", "internal/bytealg.IndexByteString", "internal/bytealg.IndexString"], unfollowed := true, recurses := true, named := ["unicode/utf8.first", "unicode/utf8.acceptRanges", "internal/bytealg.MaxLen"], plainKeys := false, apart := false, laid := [("unicode/utf8.acceptRanges", laid_unicode_utf8_acceptRanges), ("unicode/utf8.first", laid_unicode_utf8_first)], narrowed := true }
def ReplayRunsUptoSaid : Prop := replayRunsUptoRow.holds Tryz.pinned (OpenSpec.upto replayRunsSpec)

/-- 'leadlinelaw19.ReplaySteps', WHERE WHAT IT READS IS OF BULK AT MOST 1048576: true; the input reads as it did. -/
def replayStepsUptoRow : OpenClaim := { program := "ytpdlpabnlkofmaagreatdoor", sum := "bc490a9e097a38b761e4f3b9db17e6b084ad4e15f29ca331176cdfdd04b17d1c", func := "leadline/leadlinelaw19.ReplaySteps", spec := "replaySteps", inPlace := ["internal/bytealg.CountString", "internal/bytealg.IndexByteString", "internal/bytealg.IndexString"], unfollowed := true, recurses := true, named := ["unicode/utf8.first", "unicode/utf8.acceptRanges", "internal/bytealg.MaxLen"], plainKeys := false, apart := false, laid := [("unicode/utf8.acceptRanges", laid_unicode_utf8_acceptRanges), ("unicode/utf8.first", laid_unicode_utf8_first)], narrowed := true }
def ReplayStepsUptoSaid : Prop := replayStepsUptoRow.holds Tryz.pinned (OpenSpec.upto replayStepsSpec)

end Rows
end Go.Proofs.YtpdlpabnlkofmaaGreatDoor
