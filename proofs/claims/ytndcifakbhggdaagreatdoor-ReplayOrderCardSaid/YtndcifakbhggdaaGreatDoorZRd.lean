/-
  How arguments of these types are read.
-/
import Derived.Test.YtndcifakbhggdaaGreatDoorZD
import Derived.Test.YtndcifakbhggdaaGreatDoorZFw22
import Derived.KernelRfl
namespace Go.Proofs.YtndcifakbhggdaaGreatDoor
open Go.Fw

set_option maxRecDepth 100000
theorem own : ownKnob Tryz.prog.godebug = none := by kernel_rfl
theorem rd3 : RdD Tryz.prog 3 Int i64ok := RdT.deep (rd_int Tryz.underlying3 (by kernel_rfl)) fun _ _ => rfl
theorem rd41 : RdD Tryz.prog 41 (List Int) (fun ys : (List Int) => ∀ y ∈ ys, i64ok y) := RdD.slice Tryz.underlying41 (by kernel_rfl) rd3
theorem rd78 : RdD Tryz.prog 78 TEnd TEndOk := fun w => ⟨by kernel_rfl, fun enc base held fuel cs x h => by
  obtain ⟨hl, n, hp⟩ := trod_parts Tryz.underlying78 h
  obtain ⟨y0, h0⟩ := hp 0 _ rfl
  obtain ⟨y1, h1⟩ := hp 1 _ rfl
  obtain ⟨y2, h2⟩ := hp 2 _ rfl
  obtain ⟨y3, h3⟩ := hp 3 _ rfl
  obtain ⟨s0, e0, a0, d0, k0⟩ := (rd3 w).rd enc base held n _ _ h0
  obtain ⟨s1, e1, a1, d1, k1⟩ := (rd3 w).rd enc base held n _ _ h1
  obtain ⟨s2, e2, a2, d2, k2⟩ := (rd3 w).rd enc base held n _ _ h2
  obtain ⟨s3, e3, a3, d3, k3⟩ := (rd41 w).rd enc base held n _ _ h3
  obtain rfl : s0 = a0 := d0
  obtain rfl : s1 = a1 := d1
  obtain rfl : s2 = a2 := d2
  have p0 := part_step (s := 1) e0
  have p1 := part_step (s := 1) e1
  have p2 := part_step (s := 1) e2
  have p3 := part_step (s := 1) e3
  have hz : cs.drop 4 = [] := List.drop_eq_nil_iff.2 (by rw [hl]; exact Nat.le_of_eq (by kernel_rfl))
  refine ⟨(⟨s0, s1, s2, s3⟩ : TEndV), ?_, (⟨s0, s1, s2, a3⟩ : TEnd), ⟨s3, rfl, d3⟩, k0, k1, k2, k3⟩
  have e : cs = cs.drop 0 := rfl
  rw [e]
  refine p0.trans ?_
  refine ((congrArg _ p1)).trans ?_
  refine ((congrArg _ (congrArg _ p2))).trans ?_
  refine ((congrArg _ (congrArg _ (congrArg _ p3)))).trans ?_
  exact (congrArg _ (congrArg _ (congrArg _ (congrArg _ hz))))⟩
end Go.Proofs.YtndcifakbhggdaaGreatDoor
