/-
  NARROWER THAN 'FOR EVERY INPUT', by the rows' own cells (each row's printed sentence says how): ReplayTells: laid · ReplayOrder: laid · DirectSame: laid · ReplayMachine: laid.
  DERIVED. THE GIVEN ROWS OF THIS SEAT. 4 by the template 'for every input the law returns true; each argument reads behind the call as it read before'; 0 by the template 'total and deterministic' (their statements: YtdncbeepkacgbaaGreatDoorTotals.lean).
  GIVEN WITH THE SEED: the statements are not yours to turn. If you find one false, say at which input.
  Laid BY PROGRAM, IN A SANDBOX (cutbox-rows.mjs): the forced cells as the released guide's own fill.sh prints them over the translation 72fa4d4e107f4d65… (all of the seat's roots in one cut). By AI agents, Wed Nov 11 2026. No macro, syntax, notation, axiom, sorry.
-/
import Derived.Test.YtdncbeepkacgbaaGreatDoorChecked
import GoSem.PinnedTables
import GoSem.Claim
import GoSem.ClaimJoined
import GoSem.ClaimMapViews
import Derived.JoinedTies
import Derived.KernelRfl
namespace Go.Proofs.YtdncbeepkacgbaaGreatDoor
/- THE CELL 'sum', in the pinned program and in every row, IS THE sha256 OF THE DUMP (.gsa) THAT YtdncbeepkacgbaaGreatDoorProg.lean LOADS. Nothing in Lean hashes anything: it is a label: what it is worth is what the hold of that sum in a sandbox is worth. -/
noncomputable def Tryz.pinned : Pinned := { name := "ytdncbeepkacgbaagreatdoor", sum := "72fa4d4e107f4d6576ca730a37ca5c00d4ab2898be59807e1c54594a3434ec33", checked := Tryz.checked }
namespace Rows
def none {H : Type} : Left H := { results := [], args := [] }

/- WHAT THE LISTED PACKAGE-LEVEL VARIABLES READ AS WHEN THE CALL BEGINS. Each datum BY PROGRAM (the guide's laid-datum.mjs) off the statement by which the dump's own 'gosem.cut.vars' lays the variable. In a bare row this is a premise. The card (YtdncbeepkacgbaaGreatDoorCards.lean) ties it to the program's text. -/
def laid_unicode_utf8_acceptRanges {H : Type} : DataW H := .agg [.agg [.lit (.int .u8 128), .lit (.int .u8 191)], .agg [.lit (.int .u8 160), .lit (.int .u8 191)], .agg [.lit (.int .u8 128), .lit (.int .u8 159)], .agg [.lit (.int .u8 144), .lit (.int .u8 191)], .agg [.lit (.int .u8 128), .lit (.int .u8 143)], .agg [.lit (.int .u8 0), .lit (.int .u8 0)], .agg [.lit (.int .u8 0), .lit (.int .u8 0)], .agg [.lit (.int .u8 0), .lit (.int .u8 0)], .agg [.lit (.int .u8 0), .lit (.int .u8 0)], .agg [.lit (.int .u8 0), .lit (.int .u8 0)], .agg [.lit (.int .u8 0), .lit (.int .u8 0)], .agg [.lit (.int .u8 0), .lit (.int .u8 0)], .agg [.lit (.int .u8 0), .lit (.int .u8 0)], .agg [.lit (.int .u8 0), .lit (.int .u8 0)], .agg [.lit (.int .u8 0), .lit (.int .u8 0)], .agg [.lit (.int .u8 0), .lit (.int .u8 0)]]
/-- One of Go's own tables, pinned by name: the form's constant. -/
def laid_unicode_utf8_first : DataW Unit := Go.Pinned.utf8First

/-- 'leadlinelaw19.ReplayTells': WHATEVER THE INPUT: true; the input reads as it did. -/
def replayTellsSpec : ChangeSpec := { name := "replayTells", fn := fun _ => fun
  | [d1, d2, d3] => { results := [.lit (.bool true)], args := [d1, d2, d3] }
  | _ => none }
def replayTellsRow : OpenClaim := { program := "ytdncbeepkacgbaagreatdoor", sum := "72fa4d4e107f4d6576ca730a37ca5c00d4ab2898be59807e1c54594a3434ec33", func := "leadline/leadlinelaw19.ReplayTells", spec := "replayTells", inPlace := ["internal/bytealg.CountString", "internal/bytealg.IndexByteString", "internal/bytealg.IndexString"], unfollowed := true, recurses := true, named := ["unicode/utf8.first", "unicode/utf8.acceptRanges", "internal/bytealg.MaxLen"], plainKeys := false, apart := false, laid := [("unicode/utf8.acceptRanges", laid_unicode_utf8_acceptRanges), ("unicode/utf8.first", laid_unicode_utf8_first)] }
def ReplayTellsSaid : Prop := replayTellsRow.holds Tryz.pinned (OpenSpec.ofChange replayTellsSpec)

/-- ITS FALSE NEIGHBOUR: 'it returns false'. Refute it at one input. -/
def replayTellsWrong : ChangeSpec := { name := "replayTells", fn := fun _ => fun
  | [d1, d2, d3] => { results := [.lit (.bool false)], args := [d1, d2, d3] }
  | _ => none }
def ReplayTellsWrongFalsely : Prop := replayTellsRow.holds Tryz.pinned (OpenSpec.ofChange replayTellsWrong)

/-- 'leadlinelaw19.ReplayOrder': WHATEVER THE INPUT: true; the input reads as it did. -/
def replayOrderSpec : ChangeSpec := { name := "replayOrder", fn := fun _ => fun
  | [d1, d2, d3] => { results := [.lit (.bool true)], args := [d1, d2, d3] }
  | _ => none }
def replayOrderRow : OpenClaim := { program := "ytdncbeepkacgbaagreatdoor", sum := "72fa4d4e107f4d6576ca730a37ca5c00d4ab2898be59807e1c54594a3434ec33", func := "leadline/leadlinelaw19.ReplayOrder", spec := "replayOrder", inPlace := ["internal/bytealg.CountString", "internal/bytealg.IndexByteString", "internal/bytealg.IndexString"], unfollowed := true, recurses := true, named := ["unicode/utf8.first", "unicode/utf8.acceptRanges", "internal/bytealg.MaxLen"], plainKeys := false, apart := false, laid := [("unicode/utf8.acceptRanges", laid_unicode_utf8_acceptRanges), ("unicode/utf8.first", laid_unicode_utf8_first)] }
def ReplayOrderSaid : Prop := replayOrderRow.holds Tryz.pinned (OpenSpec.ofChange replayOrderSpec)

/-- ITS FALSE NEIGHBOUR: 'it returns false'. Refute it at one input. -/
def replayOrderWrong : ChangeSpec := { name := "replayOrder", fn := fun _ => fun
  | [d1, d2, d3] => { results := [.lit (.bool false)], args := [d1, d2, d3] }
  | _ => none }
def ReplayOrderWrongFalsely : Prop := replayOrderRow.holds Tryz.pinned (OpenSpec.ofChange replayOrderWrong)

/-- 'leadlinelaw14.DirectSame': WHATEVER THE INPUT: true; the input reads as it did. -/
def directSameSpec : ChangeSpec := { name := "directSame", fn := fun _ => fun
  | [d1, d2, d3] => { results := [.lit (.bool true)], args := [d1, d2, d3] }
  | _ => none }
def directSameRow : OpenClaim := { program := "ytdncbeepkacgbaagreatdoor", sum := "72fa4d4e107f4d6576ca730a37ca5c00d4ab2898be59807e1c54594a3434ec33", func := "leadline/leadlinelaw14.DirectSame", spec := "directSame", inPlace := ["internal/bytealg.CountString", "internal/bytealg.IndexByteString", "internal/bytealg.IndexString"], unfollowed := true, recurses := true, named := ["unicode/utf8.first", "unicode/utf8.acceptRanges", "internal/bytealg.MaxLen"], plainKeys := false, apart := false, laid := [("unicode/utf8.acceptRanges", laid_unicode_utf8_acceptRanges), ("unicode/utf8.first", laid_unicode_utf8_first)] }
def DirectSameSaid : Prop := directSameRow.holds Tryz.pinned (OpenSpec.ofChange directSameSpec)

/-- ITS FALSE NEIGHBOUR: 'it returns false'. Refute it at one input. -/
def directSameWrong : ChangeSpec := { name := "directSame", fn := fun _ => fun
  | [d1, d2, d3] => { results := [.lit (.bool false)], args := [d1, d2, d3] }
  | _ => none }
def DirectSameWrongFalsely : Prop := directSameRow.holds Tryz.pinned (OpenSpec.ofChange directSameWrong)

/-- 'leadlinelaw19.ReplayMachine': WHATEVER THE INPUT: true; the input reads as it did. -/
def replayMachineSpec : ChangeSpec := { name := "replayMachine", fn := fun _ => fun
  | [d1, d2, d3] => { results := [.lit (.bool true)], args := [d1, d2, d3] }
  | _ => none }
def replayMachineRow : OpenClaim := { program := "ytdncbeepkacgbaagreatdoor", sum := "72fa4d4e107f4d6576ca730a37ca5c00d4ab2898be59807e1c54594a3434ec33", func := "leadline/leadlinelaw19.ReplayMachine", spec := "replayMachine", inPlace := ["internal/bytealg.CountString", "internal/bytealg.IndexByteString", "internal/bytealg.IndexString"], unfollowed := true, recurses := true, named := ["unicode/utf8.first", "unicode/utf8.acceptRanges", "internal/bytealg.MaxLen"], plainKeys := false, apart := false, laid := [("unicode/utf8.acceptRanges", laid_unicode_utf8_acceptRanges), ("unicode/utf8.first", laid_unicode_utf8_first)] }
def ReplayMachineSaid : Prop := replayMachineRow.holds Tryz.pinned (OpenSpec.ofChange replayMachineSpec)

/-- ITS FALSE NEIGHBOUR: 'it returns false'. Refute it at one input. -/
def replayMachineWrong : ChangeSpec := { name := "replayMachine", fn := fun _ => fun
  | [d1, d2, d3] => { results := [.lit (.bool false)], args := [d1, d2, d3] }
  | _ => none }
def ReplayMachineWrongFalsely : Prop := replayMachineRow.holds Tryz.pinned (OpenSpec.ofChange replayMachineWrong)

/- THE SECOND FORM. 'bulk': how many values and letters a reading holds, each counted each time it is reached (what is shared counts as often as it is met; a slice's spare places count too). A statement '..UptoSaid' is the law's where the arguments, and the package variables that the reading takes, are together of bulk at most 1048576: NARROWER than '..Said'. Prove '..Said' where nothing that the law and all that it calls make is longer than what came in: it says more and counts as full. Else prove '..UptoSaid'. A law counts once. -/
mutual
def uptoBulk {H : Type} : DataW H → Nat
  | .lit (.string bytes) => bytes.length + 1
  | .lit _ => 1
  | .nil => 1
  | .ptr d => uptoBulk d + 1
  | .slice elems spare => uptoBulkAll elems + uptoBulkAll spare + 1
  | .agg parts => uptoBulkAll parts + 1
  | .iface _ d => uptoBulk d + 1
  | .map entries => uptoBulkEntries entries + 1
  | .held _ => 1
def uptoBulkAll {H : Type} : List (DataW H) → Nat
  | [] => 0
  | d :: r => uptoBulk d + uptoBulkAll r
def uptoBulkEntries {H : Type} : List (Lit × DataW H) → Nat
  | [] => 0
  | x :: r => uptoBulkEntry x + uptoBulkEntries r
def uptoBulkEntry {H : Type} : Lit × DataW H → Nat
  | (.string bytes, d) => bytes.length + uptoBulk d + 1
  | (_, d) => uptoBulk d + 1
 end
def uptoSmall : (H : Type) → List (DataW H) → Bool := fun _ ds => decide (uptoBulkAll ds ≤ 1048576)
def OpenSpec.upto (s : _root_.Go.ChangeSpec) : _root_.Go.OpenSpec := { _root_.Go.OpenSpec.ofChange s with cond := some uptoSmall }

/-- 'leadlinelaw19.ReplayTells', WHERE WHAT IT READS IS OF BULK AT MOST 1048576: true; the input reads as it did. -/
def replayTellsUptoRow : OpenClaim := { program := "ytdncbeepkacgbaagreatdoor", sum := "72fa4d4e107f4d6576ca730a37ca5c00d4ab2898be59807e1c54594a3434ec33", func := "leadline/leadlinelaw19.ReplayTells", spec := "replayTells", inPlace := ["internal/bytealg.CountString", "internal/bytealg.IndexByteString", "internal/bytealg.IndexString"], unfollowed := true, recurses := true, named := ["unicode/utf8.first", "unicode/utf8.acceptRanges", "internal/bytealg.MaxLen"], plainKeys := false, apart := false, laid := [("unicode/utf8.acceptRanges", laid_unicode_utf8_acceptRanges), ("unicode/utf8.first", laid_unicode_utf8_first)], narrowed := true }
def ReplayTellsUptoSaid : Prop := replayTellsUptoRow.holds Tryz.pinned (OpenSpec.upto replayTellsSpec)

/-- 'leadlinelaw19.ReplayOrder', WHERE WHAT IT READS IS OF BULK AT MOST 1048576: true; the input reads as it did. -/
def replayOrderUptoRow : OpenClaim := { program := "ytdncbeepkacgbaagreatdoor", sum := "72fa4d4e107f4d6576ca730a37ca5c00d4ab2898be59807e1c54594a3434ec33", func := "leadline/leadlinelaw19.ReplayOrder", spec := "replayOrder", inPlace := ["internal/bytealg.CountString", "internal/bytealg.IndexByteString", "internal/bytealg.IndexString"], unfollowed := true, recurses := true, named := ["unicode/utf8.first", "unicode/utf8.acceptRanges", "internal/bytealg.MaxLen"], plainKeys := false, apart := false, laid := [("unicode/utf8.acceptRanges", laid_unicode_utf8_acceptRanges), ("unicode/utf8.first", laid_unicode_utf8_first)], narrowed := true }
def ReplayOrderUptoSaid : Prop := replayOrderUptoRow.holds Tryz.pinned (OpenSpec.upto replayOrderSpec)

/-- 'leadlinelaw14.DirectSame', WHERE WHAT IT READS IS OF BULK AT MOST 1048576: true; the input reads as it did. -/
def directSameUptoRow : OpenClaim := { program := "ytdncbeepkacgbaagreatdoor", sum := "72fa4d4e107f4d6576ca730a37ca5c00d4ab2898be59807e1c54594a3434ec33", func := "leadline/leadlinelaw14.DirectSame", spec := "directSame", inPlace := ["internal/bytealg.CountString", "internal/bytealg.IndexByteString", "internal/bytealg.IndexString"], unfollowed := true, recurses := true, named := ["unicode/utf8.first", "unicode/utf8.acceptRanges", "internal/bytealg.MaxLen"], plainKeys := false, apart := false, laid := [("unicode/utf8.acceptRanges", laid_unicode_utf8_acceptRanges), ("unicode/utf8.first", laid_unicode_utf8_first)], narrowed := true }
def DirectSameUptoSaid : Prop := directSameUptoRow.holds Tryz.pinned (OpenSpec.upto directSameSpec)

/-- 'leadlinelaw19.ReplayMachine', WHERE WHAT IT READS IS OF BULK AT MOST 1048576: true; the input reads as it did. -/
def replayMachineUptoRow : OpenClaim := { program := "ytdncbeepkacgbaagreatdoor", sum := "72fa4d4e107f4d6576ca730a37ca5c00d4ab2898be59807e1c54594a3434ec33", func := "leadline/leadlinelaw19.ReplayMachine", spec := "replayMachine", inPlace := ["internal/bytealg.CountString", "internal/bytealg.IndexByteString", "internal/bytealg.IndexString"], unfollowed := true, recurses := true, named := ["unicode/utf8.first", "unicode/utf8.acceptRanges", "internal/bytealg.MaxLen"], plainKeys := false, apart := false, laid := [("unicode/utf8.acceptRanges", laid_unicode_utf8_acceptRanges), ("unicode/utf8.first", laid_unicode_utf8_first)], narrowed := true }
def ReplayMachineUptoSaid : Prop := replayMachineUptoRow.holds Tryz.pinned (OpenSpec.upto replayMachineSpec)

end Rows
end Go.Proofs.YtdncbeepkacgbaaGreatDoor
