/-
  What commands are.
-/
import Derived.Test.YtmjijnkndgjdfaaK
import Derived.Test.YtmjijnkndgjdfaaRows
import Derived.KernelRfl
namespace Go.Proofs.Ytmjijnkndgjdfaa
open Go.Fw

structure Cmd where
  kind : Int
  x : Entry
  i : Int
instance : Flat Cmd where
  agg := true
  sz := 6
  enc e := [.int .i64 e.kind, .int .i64 e.x.kind, .int .i64 e.x.line, .int .i64 e.x.cell, .int .i64 e.x.n, .int .i64 e.i]
  val e := .agg [.int .i64 e.kind, .int .i64 e.x.kind, .int .i64 e.x.line, .int .i64 e.x.cell, .int .i64 e.x.n, .int .i64 e.i].toArray
  pos := by decide
  len _ := rfl
  one a v h := by simp at h; rcases h with rfl | rfl | rfl | rfl | rfl | rfl <;> rfl
  vagg _ _ := rfl
  vone h := by cases h
def CmdOk (e : Cmd) : Prop := i64ok e.kind ∧ EntryOk e.x ∧ i64ok e.i
theorem rdC : RdT Try.prog 46 Cmd CmdOk := ⟨by kernel_rfl, fun enc w base sp held fuel cs x h => by
  obtain ⟨hl, n, hp⟩ := trod_parts Try.underlying46 h
  obtain ⟨y0, h0⟩ := hp 0 _ rfl
  obtain ⟨y1, h1⟩ := hp 1 _ rfl
  obtain ⟨y2, h2⟩ := hp 2 _ rfl
  obtain ⟨a0, e0, k0⟩ := rdI.rd enc w base sp held n _ _ h0
  obtain ⟨a1, e1, k1⟩ := rdE.rd enc w base sp held n _ _ h1
  obtain ⟨a2, e2, k2⟩ := rdI.rd enc w base sp held n _ _ h2
  have s0 := part_step (s := 1) e0
  have s1 := part_step (s := 4) e1
  have s2 := part_step (s := 1) e2
  have hz : cs.drop 6 = [] := List.drop_eq_nil_iff.2 (by rw [hl]; exact Nat.le_of_eq (by kernel_rfl))
  refine ⟨⟨a0, a1, a2⟩, ?_, k0, k1, k2⟩
  have e : cs = cs.drop 0 := rfl
  rw [e]
  refine s0.trans ?_
  refine (congrArg _ s1).trans ?_
  refine (congrArg _ (congrArg _ s2)).trans ?_
  exact (congrArg _ (congrArg _ (congrArg _ hz)))⟩

end Go.Proofs.Ytmjijnkndgjdfaa
