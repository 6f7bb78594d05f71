/-
  How arguments of these types are read.
-/
import Derived.Test.YtddeoncipdpkfaaGreatDoorZD
import Derived.Test.YtddeoncipdpkfaaGreatDoorZFw34
import Derived.KernelRfl
set_option linter.all false
namespace Go.Proofs.YtddeoncipdpkfaaGreatDoor
open Go.Fw

set_option maxRecDepth 100000
theorem own : ownKnob Tryz.prog.godebug = none := by kernel_rfl
theorem rd3 : RdD Tryz.prog 3 Int i64ok := RdT.deep (rd_int Tryz.underlying3 (by kernel_rfl)) fun _ _ => rfl
theorem rb3 : RdDb Tryz.prog 3 Int i64ok := rd3.b
theorem rb45 : RdDb Tryz.prog 45 (List Int) (fun ys : (List Int) => ys.length * Tryz.prog.bytesOf 3 ≤ reachBytes ∧ ∀ y ∈ ys, i64ok y) := RdDb.slice Tryz.underlying45 (by kernel_rfl) rb3
def TPickOkb (x : TPick) : Prop := i64ok x.kind ∧ i64ok x.t ∧ i64ok x.i ∧ (fun ys : (List Int) => ys.length * Tryz.prog.bytesOf 3 ≤ reachBytes ∧ ∀ y ∈ ys, i64ok y) x.cut
theorem rb47 : RdDb Tryz.prog 47 TPick TPickOkb := fun w => ⟨by kernel_rfl, fun enc base held fuel cs x h hw => by
  obtain ⟨hl, n, hp⟩ := trod_partsB Tryz.underlying47 h hw
  obtain ⟨y0, h0, w0⟩ := hp 0 _ rfl
  obtain ⟨y1, h1, w1⟩ := hp 1 _ rfl
  obtain ⟨y2, h2, w2⟩ := hp 2 _ rfl
  obtain ⟨y3, h3, w3⟩ := hp 3 _ rfl
  obtain ⟨s0, e0, a0, d0, k0⟩ := (rb3 w).rd enc base held n _ _ h0 w0
  obtain ⟨s1, e1, a1, d1, k1⟩ := (rb3 w).rd enc base held n _ _ h1 w1
  obtain ⟨s2, e2, a2, d2, k2⟩ := (rb3 w).rd enc base held n _ _ h2 w2
  obtain ⟨s3, e3, a3, d3, k3⟩ := (rb45 w).rd enc base held n _ _ h3 w3
  obtain rfl : s0 = a0 := d0
  obtain rfl : s1 = a1 := d1
  obtain rfl : s2 = a2 := d2
  have p0 := part_step (s := 1) e0
  have p1 := part_step (s := 1) e1
  have p2 := part_step (s := 1) e2
  have p3 := part_step (s := 1) e3
  have hz : cs.drop 4 = [] := List.drop_eq_nil_iff.2 (by rw [hl]; exact Nat.le_of_eq (by kernel_rfl))
  refine ⟨(⟨s0, s1, s2, s3⟩ : TPickV), ?_, (⟨s0, s1, s2, a3⟩ : TPick), ⟨s3, rfl, d3⟩, k0, k1, k2, k3⟩
  have e : cs = cs.drop 0 := rfl
  rw [e]
  refine p0.trans ?_
  refine ((congrArg _ p1)).trans ?_
  refine ((congrArg _ (congrArg _ p2))).trans ?_
  refine ((congrArg _ (congrArg _ (congrArg _ p3)))).trans ?_
  exact (congrArg _ (congrArg _ (congrArg _ (congrArg _ hz))))⟩
theorem rb58 : RdDb Tryz.prog 58 (List TPick) (fun ys : (List TPick) => ys.length * Tryz.prog.bytesOf 47 ≤ reachBytes ∧ ∀ y ∈ ys, TPickOkb y) := RdDb.slice Tryz.underlying58 (by kernel_rfl) rb47
theorem rd42 : RdD Tryz.prog 42 TEvent TEventOk := fun w => ⟨by kernel_rfl, fun enc base held fuel cs x h => by
  obtain ⟨hl, n, hp⟩ := trod_parts Tryz.underlying42 h
  obtain ⟨y0, h0⟩ := hp 0 _ rfl
  obtain ⟨y1, h1⟩ := hp 1 _ rfl
  obtain ⟨y2, h2⟩ := hp 2 _ rfl
  obtain ⟨y3, h3⟩ := hp 3 _ rfl
  obtain ⟨y4, h4⟩ := hp 4 _ rfl
  obtain ⟨s0, e0, a0, d0, k0⟩ := (rd3 w).rd enc base held n _ _ h0
  obtain ⟨s1, e1, a1, d1, k1⟩ := (rd3 w).rd enc base held n _ _ h1
  obtain ⟨s2, e2, a2, d2, k2⟩ := (rd3 w).rd enc base held n _ _ h2
  obtain ⟨s3, e3, a3, d3, k3⟩ := (rd3 w).rd enc base held n _ _ h3
  obtain ⟨s4, e4, a4, d4, k4⟩ := (rd3 w).rd enc base held n _ _ h4
  obtain rfl : s0 = a0 := d0
  obtain rfl : s1 = a1 := d1
  obtain rfl : s2 = a2 := d2
  obtain rfl : s3 = a3 := d3
  obtain rfl : s4 = a4 := d4
  have p0 := part_step (s := 1) e0
  have p1 := part_step (s := 1) e1
  have p2 := part_step (s := 1) e2
  have p3 := part_step (s := 1) e3
  have p4 := part_step (s := 1) e4
  have hz : cs.drop 5 = [] := List.drop_eq_nil_iff.2 (by rw [hl]; exact Nat.le_of_eq (by kernel_rfl))
  refine ⟨(⟨s0, s1, s2, s3, s4⟩ : TEvent), ?_, (⟨s0, s1, s2, s3, s4⟩ : TEvent), rfl, k0, k1, k2, k3, k4⟩
  have e : cs = cs.drop 0 := rfl
  rw [e]
  refine p0.trans ?_
  refine ((congrArg _ p1)).trans ?_
  refine ((congrArg _ (congrArg _ p2))).trans ?_
  refine ((congrArg _ (congrArg _ (congrArg _ p3)))).trans ?_
  refine ((congrArg _ (congrArg _ (congrArg _ (congrArg _ p4))))).trans ?_
  exact (congrArg _ (congrArg _ (congrArg _ (congrArg _ (congrArg _ hz)))))⟩
end Go.Proofs.YtddeoncipdpkfaaGreatDoor
