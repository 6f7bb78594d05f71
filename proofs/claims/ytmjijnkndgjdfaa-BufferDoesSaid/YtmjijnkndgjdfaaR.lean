/-
  What is read at the types of this seat.
-/
import Derived.Test.YtmjijnkndgjdfaaC6
import Derived.Test.YtmjijnkndgjdfaaFw14
import Derived.Test.YtmjijnkndgjdfaaRows
import Derived.KernelRfl
namespace Go.Proofs.Ytmjijnkndgjdfaa
open Go.Fw

theorem own : ownKnob Try.prog.godebug = none := by kernel_rfl
theorem rdI : RdT Try.prog 3 Int i64ok := rd_int Try.underlying3 (by kernel_rfl)
def EntryOk (e : Entry) : Prop := i64ok e.kind ∧ i64ok e.line ∧ i64ok e.cell ∧ i64ok e.n
theorem rdE : RdT Try.prog 23 Entry EntryOk := ⟨by kernel_rfl, fun enc w base sp held fuel cs x h => by
  obtain ⟨hl, n, hp⟩ := trod_parts Try.underlying23 h
  obtain ⟨y0, h0⟩ := hp 0 _ rfl
  obtain ⟨y1, h1⟩ := hp 1 _ rfl
  obtain ⟨y2, h2⟩ := hp 2 _ rfl
  obtain ⟨y3, h3⟩ := hp 3 _ rfl
  obtain ⟨a0, e0, k0⟩ := rdI.rd enc w base sp held n _ _ h0
  obtain ⟨a1, e1, k1⟩ := rdI.rd enc w base sp held n _ _ h1
  obtain ⟨a2, e2, k2⟩ := rdI.rd enc w base sp held n _ _ h2
  obtain ⟨a3, e3, k3⟩ := rdI.rd enc w base sp held n _ _ h3
  have s0 := part_step (s := 1) e0
  have s1 := part_step (s := 1) e1
  have s2 := part_step (s := 1) e2
  have s3 := part_step (s := 1) e3
  have hz : cs.drop 4 = [] := List.drop_eq_nil_iff.2 (by rw [hl]; exact Nat.le_of_eq (by kernel_rfl))
  refine ⟨⟨a0, a1, a2, a3⟩, ?_, k0, k1, k2, k3⟩
  have e : cs = cs.drop 0 := rfl
  rw [e]
  refine s0.trans ?_
  refine (congrArg _ s1).trans ?_
  refine (congrArg _ (congrArg _ s2)).trans ?_
  refine (congrArg _ (congrArg _ (congrArg _ s3))).trans ?_
  exact (congrArg _ (congrArg _ (congrArg _ (congrArg _ hz))))⟩

end Go.Proofs.Ytmjijnkndgjdfaa
