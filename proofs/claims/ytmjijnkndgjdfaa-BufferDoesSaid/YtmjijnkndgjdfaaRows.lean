/-
  No cell of these rows narrows 'for every input' (looked for: loops, veiled, ifaces, maps, wideKeys, modest, calm, conditions, laid).
  DERIVED. THE GIVEN ROWS OF THIS SEAT. 6 by the template 'for every input the law returns true; each argument reads behind the call as it read before'; 0 by the template 'total and deterministic' (their statements: YtmjijnkndgjdfaaTotals.lean).
  GIVEN WITH THE SEED: the statements are not yours to turn. If you find one false, say at which input.
  Laid BY PROGRAM, IN A SANDBOX (cutbox-rows.mjs): the forced cells as the released guide's own fill.sh prints them over the translation 1a8c6516ce8be800… (all of the seat's roots in one cut). By AI agents, Wed Nov 11 2026. No macro, syntax, notation, axiom, sorry.
-/
import Derived.Test.YtmjijnkndgjdfaaChecked
import GoSem.Claim
import GoSem.ClaimJoined
import GoSem.ClaimMapViews
import Derived.JoinedTies
import Derived.KernelRfl
namespace Go.Proofs.Ytmjijnkndgjdfaa
/- THE CELL 'sum', in the pinned program and in every row, IS THE sha256 OF THE DUMP (.gsa) THAT YtmjijnkndgjdfaaProg.lean LOADS. Nothing in Lean hashes anything: it is a label: what it is worth is what the hold of that sum in a sandbox is worth. -/
noncomputable def Try.pinned : Pinned := { name := "ytmjijnkndgjdfaa", sum := "1a8c6516ce8be8007420aa9d9c6e68e0ca9219945464d153df46e81998f7614a", checked := Try.checked }
namespace Rows
def none {H : Type} : Left H := { results := [], args := [] }

/-- 'leadlinelaw12.BufferTells': WHATEVER THE INPUT: true; the input reads as it did. -/
def bufferTellsSpec : ChangeSpec := { name := "bufferTells", fn := fun _ => fun
  | [d1, d2] => { results := [.lit (.bool true)], args := [d1, d2] }
  | _ => none }
def bufferTellsRow : OpenClaim := { program := "ytmjijnkndgjdfaa", sum := "1a8c6516ce8be8007420aa9d9c6e68e0ca9219945464d153df46e81998f7614a", func := "leadline/leadlinelaw12.BufferTells", spec := "bufferTells", unfollowed := true, recurses := true, apart := false }
def BufferTellsSaid : Prop := bufferTellsRow.holds Try.pinned (OpenSpec.ofChange bufferTellsSpec)

/-- ITS FALSE NEIGHBOUR: 'it returns false'. Refute it at one input. -/
def bufferTellsWrong : ChangeSpec := { name := "bufferTells", fn := fun _ => fun
  | [d1, d2] => { results := [.lit (.bool false)], args := [d1, d2] }
  | _ => none }
def BufferTellsWrongFalsely : Prop := bufferTellsRow.holds Try.pinned (OpenSpec.ofChange bufferTellsWrong)

/-- 'leadlinelaw12.BufferOrder': WHATEVER THE INPUT: true; the input reads as it did. -/
def bufferOrderSpec : ChangeSpec := { name := "bufferOrder", fn := fun _ => fun
  | [d1, d2] => { results := [.lit (.bool true)], args := [d1, d2] }
  | _ => none }
def bufferOrderRow : OpenClaim := { program := "ytmjijnkndgjdfaa", sum := "1a8c6516ce8be8007420aa9d9c6e68e0ca9219945464d153df46e81998f7614a", func := "leadline/leadlinelaw12.BufferOrder", spec := "bufferOrder", unfollowed := true, recurses := true, apart := false }
def BufferOrderSaid : Prop := bufferOrderRow.holds Try.pinned (OpenSpec.ofChange bufferOrderSpec)

/-- ITS FALSE NEIGHBOUR: 'it returns false'. Refute it at one input. -/
def bufferOrderWrong : ChangeSpec := { name := "bufferOrder", fn := fun _ => fun
  | [d1, d2] => { results := [.lit (.bool false)], args := [d1, d2] }
  | _ => none }
def BufferOrderWrongFalsely : Prop := bufferOrderRow.holds Try.pinned (OpenSpec.ofChange bufferOrderWrong)

/-- 'leadlinelaw12.BufferLast': WHATEVER THE INPUT: true; the input reads as it did. -/
def bufferLastSpec : ChangeSpec := { name := "bufferLast", fn := fun _ => fun
  | [d] => { results := [.lit (.bool true)], args := [d] }
  | _ => none }
def bufferLastRow : OpenClaim := { program := "ytmjijnkndgjdfaa", sum := "1a8c6516ce8be8007420aa9d9c6e68e0ca9219945464d153df46e81998f7614a", func := "leadline/leadlinelaw12.BufferLast", spec := "bufferLast", unfollowed := true, recurses := true, apart := false }
def BufferLastSaid : Prop := bufferLastRow.holds Try.pinned (OpenSpec.ofChange bufferLastSpec)

/-- ITS FALSE NEIGHBOUR: 'it returns false'. Refute it at one input. -/
def bufferLastWrong : ChangeSpec := { name := "bufferLast", fn := fun _ => fun
  | [d] => { results := [.lit (.bool false)], args := [d] }
  | _ => none }
def BufferLastWrongFalsely : Prop := bufferLastRow.holds Try.pinned (OpenSpec.ofChange bufferLastWrong)

/-- 'leadlinelaw12.BufferRoom': WHATEVER THE INPUT: true; the input reads as it did. -/
def bufferRoomSpec : ChangeSpec := { name := "bufferRoom", fn := fun _ => fun
  | [d1, d2] => { results := [.lit (.bool true)], args := [d1, d2] }
  | _ => none }
def bufferRoomRow : OpenClaim := { program := "ytmjijnkndgjdfaa", sum := "1a8c6516ce8be8007420aa9d9c6e68e0ca9219945464d153df46e81998f7614a", func := "leadline/leadlinelaw12.BufferRoom", spec := "bufferRoom", unfollowed := true, recurses := true, apart := false }
def BufferRoomSaid : Prop := bufferRoomRow.holds Try.pinned (OpenSpec.ofChange bufferRoomSpec)

/-- ITS FALSE NEIGHBOUR: 'it returns false'. Refute it at one input. -/
def bufferRoomWrong : ChangeSpec := { name := "bufferRoom", fn := fun _ => fun
  | [d1, d2] => { results := [.lit (.bool false)], args := [d1, d2] }
  | _ => none }
def BufferRoomWrongFalsely : Prop := bufferRoomRow.holds Try.pinned (OpenSpec.ofChange bufferRoomWrong)

/-- 'leadlinelaw12.BufferDoes': WHATEVER THE INPUT: true; the input reads as it did. -/
def bufferDoesSpec : ChangeSpec := { name := "bufferDoes", fn := fun _ => fun
  | [d1, d2] => { results := [.lit (.bool true)], args := [d1, d2] }
  | _ => none }
def bufferDoesRow : OpenClaim := { program := "ytmjijnkndgjdfaa", sum := "1a8c6516ce8be8007420aa9d9c6e68e0ca9219945464d153df46e81998f7614a", func := "leadline/leadlinelaw12.BufferDoes", spec := "bufferDoes", unfollowed := true, recurses := true, apart := false }
def BufferDoesSaid : Prop := bufferDoesRow.holds Try.pinned (OpenSpec.ofChange bufferDoesSpec)

/-- ITS FALSE NEIGHBOUR: 'it returns false'. Refute it at one input. -/
def bufferDoesWrong : ChangeSpec := { name := "bufferDoes", fn := fun _ => fun
  | [d1, d2] => { results := [.lit (.bool false)], args := [d1, d2] }
  | _ => none }
def BufferDoesWrongFalsely : Prop := bufferDoesRow.holds Try.pinned (OpenSpec.ofChange bufferDoesWrong)

/-- 'leadlinelaw12.BufferCopies': WHATEVER THE INPUT: true; the input reads as it did. -/
def bufferCopiesSpec : ChangeSpec := { name := "bufferCopies", fn := fun _ => fun
  | [d] => { results := [.lit (.bool true)], args := [d] }
  | _ => none }
def bufferCopiesRow : OpenClaim := { program := "ytmjijnkndgjdfaa", sum := "1a8c6516ce8be8007420aa9d9c6e68e0ca9219945464d153df46e81998f7614a", func := "leadline/leadlinelaw12.BufferCopies", spec := "bufferCopies", unfollowed := true, recurses := true, apart := false }
def BufferCopiesSaid : Prop := bufferCopiesRow.holds Try.pinned (OpenSpec.ofChange bufferCopiesSpec)

/-- ITS FALSE NEIGHBOUR: 'it returns false'. Refute it at one input. -/
def bufferCopiesWrong : ChangeSpec := { name := "bufferCopies", fn := fun _ => fun
  | [d] => { results := [.lit (.bool false)], args := [d] }
  | _ => none }
def BufferCopiesWrongFalsely : Prop := bufferCopiesRow.holds Try.pinned (OpenSpec.ofChange bufferCopiesWrong)

/- THE SECOND FORM. 'bulk': how many values and letters a reading holds, each counted each time it is reached (what is shared counts as often as it is met; a slice's spare places count too). A statement '..UptoSaid' is the law's where the arguments, and the package variables that the reading takes, are together of bulk at most 1048576: NARROWER than '..Said'. Prove '..Said' where nothing that the law and all that it calls make is longer than what came in: it says more and counts as full. Else prove '..UptoSaid'. A law counts once. -/
mutual
def uptoBulk {H : Type} : DataW H → Nat
  | .lit (.string bytes) => bytes.length + 1
  | .lit _ => 1
  | .nil => 1
  | .ptr d => uptoBulk d + 1
  | .slice elems spare => uptoBulkAll elems + uptoBulkAll spare + 1
  | .agg parts => uptoBulkAll parts + 1
  | .iface _ d => uptoBulk d + 1
  | .map entries => uptoBulkEntries entries + 1
  | .held _ => 1
def uptoBulkAll {H : Type} : List (DataW H) → Nat
  | [] => 0
  | d :: r => uptoBulk d + uptoBulkAll r
def uptoBulkEntries {H : Type} : List (Lit × DataW H) → Nat
  | [] => 0
  | x :: r => uptoBulkEntry x + uptoBulkEntries r
def uptoBulkEntry {H : Type} : Lit × DataW H → Nat
  | (.string bytes, d) => bytes.length + uptoBulk d + 1
  | (_, d) => uptoBulk d + 1
 end
def uptoSmall : (H : Type) → List (DataW H) → Bool := fun _ ds => decide (uptoBulkAll ds ≤ 1048576)
def OpenSpec.upto (s : _root_.Go.ChangeSpec) : _root_.Go.OpenSpec := { _root_.Go.OpenSpec.ofChange s with cond := some uptoSmall }

/-- 'leadlinelaw12.BufferTells', WHERE WHAT IT READS IS OF BULK AT MOST 1048576: true; the input reads as it did. -/
def bufferTellsUptoRow : OpenClaim := { program := "ytmjijnkndgjdfaa", sum := "1a8c6516ce8be8007420aa9d9c6e68e0ca9219945464d153df46e81998f7614a", func := "leadline/leadlinelaw12.BufferTells", spec := "bufferTells", unfollowed := true, recurses := true, apart := false, narrowed := true }
def BufferTellsUptoSaid : Prop := bufferTellsUptoRow.holds Try.pinned (OpenSpec.upto bufferTellsSpec)

/-- 'leadlinelaw12.BufferOrder', WHERE WHAT IT READS IS OF BULK AT MOST 1048576: true; the input reads as it did. -/
def bufferOrderUptoRow : OpenClaim := { program := "ytmjijnkndgjdfaa", sum := "1a8c6516ce8be8007420aa9d9c6e68e0ca9219945464d153df46e81998f7614a", func := "leadline/leadlinelaw12.BufferOrder", spec := "bufferOrder", unfollowed := true, recurses := true, apart := false, narrowed := true }
def BufferOrderUptoSaid : Prop := bufferOrderUptoRow.holds Try.pinned (OpenSpec.upto bufferOrderSpec)

/-- 'leadlinelaw12.BufferLast', WHERE WHAT IT READS IS OF BULK AT MOST 1048576: true; the input reads as it did. -/
def bufferLastUptoRow : OpenClaim := { program := "ytmjijnkndgjdfaa", sum := "1a8c6516ce8be8007420aa9d9c6e68e0ca9219945464d153df46e81998f7614a", func := "leadline/leadlinelaw12.BufferLast", spec := "bufferLast", unfollowed := true, recurses := true, apart := false, narrowed := true }
def BufferLastUptoSaid : Prop := bufferLastUptoRow.holds Try.pinned (OpenSpec.upto bufferLastSpec)

/-- 'leadlinelaw12.BufferRoom', WHERE WHAT IT READS IS OF BULK AT MOST 1048576: true; the input reads as it did. -/
def bufferRoomUptoRow : OpenClaim := { program := "ytmjijnkndgjdfaa", sum := "1a8c6516ce8be8007420aa9d9c6e68e0ca9219945464d153df46e81998f7614a", func := "leadline/leadlinelaw12.BufferRoom", spec := "bufferRoom", unfollowed := true, recurses := true, apart := false, narrowed := true }
def BufferRoomUptoSaid : Prop := bufferRoomUptoRow.holds Try.pinned (OpenSpec.upto bufferRoomSpec)

/-- 'leadlinelaw12.BufferDoes', WHERE WHAT IT READS IS OF BULK AT MOST 1048576: true; the input reads as it did. -/
def bufferDoesUptoRow : OpenClaim := { program := "ytmjijnkndgjdfaa", sum := "1a8c6516ce8be8007420aa9d9c6e68e0ca9219945464d153df46e81998f7614a", func := "leadline/leadlinelaw12.BufferDoes", spec := "bufferDoes", unfollowed := true, recurses := true, apart := false, narrowed := true }
def BufferDoesUptoSaid : Prop := bufferDoesUptoRow.holds Try.pinned (OpenSpec.upto bufferDoesSpec)

/-- 'leadlinelaw12.BufferCopies', WHERE WHAT IT READS IS OF BULK AT MOST 1048576: true; the input reads as it did. -/
def bufferCopiesUptoRow : OpenClaim := { program := "ytmjijnkndgjdfaa", sum := "1a8c6516ce8be8007420aa9d9c6e68e0ca9219945464d153df46e81998f7614a", func := "leadline/leadlinelaw12.BufferCopies", spec := "bufferCopies", unfollowed := true, recurses := true, apart := false, narrowed := true }
def BufferCopiesUptoSaid : Prop := bufferCopiesUptoRow.holds Try.pinned (OpenSpec.upto bufferCopiesSpec)

end Rows
end Go.Proofs.Ytmjijnkndgjdfaa
