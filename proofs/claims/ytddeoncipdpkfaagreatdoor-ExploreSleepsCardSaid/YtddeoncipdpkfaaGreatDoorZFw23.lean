/-
  Numbers that come round; a cell of an array's value; a call of a function value that is at hand. Own work; nothing here is trusted.
-/
import Derived.Test.YtddeoncipdpkfaaGreatDoorZFw22
set_option linter.all false
namespace Go.Fw
/-- An int64, come round. -/
def w64 (x : Int) : Int := IntKind.i64.wrap x
theorem w64_in {x : Int} (h : -9223372036854775808 ≤ x ∧ x ≤ 9223372036854775807) : w64 x = x := IntWalk.i64_in _ h
section
variable {P : Program} {T : Nat} {cx cy : Bool} {a b : Int} {K : Value → Prop}
theorem pop_addW (k : K (.int .i64 (w64 (a + b)))) : Pop P (binS .add T cx cy (.int .i64 a) (.int .i64 b)) K := ⟨_, rfl, k⟩
theorem pop_subW (k : K (.int .i64 (w64 (a - b)))) : Pop P (binS .sub T cx cy (.int .i64 a) (.int .i64 b)) K := ⟨_, rfl, k⟩
theorem pop_mulW (k : K (.int .i64 (w64 (a * b)))) : Pop P (binS .mul T cx cy (.int .i64 a) (.int .i64 b)) K := ⟨_, rfl, k⟩
theorem pop_negW (k : K (.int .i64 (w64 (0 - a)))) : Pop P (Op.unary .neg (.int .i64 a)) K := ⟨_, rfl, k⟩
theorem pop_quoW (h : b ≠ 0) (k : K (.int .i64 (w64 (a.tdiv b)))) : Pop P (binS .quo T cx cy (.int .i64 a) (.int .i64 b)) K := by
  refine ⟨_, ?_, k⟩
  show pr P (Op.intDiv .quo .i64 a b) = _
  unfold Op.intDiv
  rw [if_neg h]; rfl
theorem pop_remW (h : b ≠ 0) (k : K (.int .i64 (a.tmod b))) : Pop P (binS .rem T cx cy (.int .i64 a) (.int .i64 b)) K := by
  refine ⟨_, ?_, k⟩
  show pr P (Op.intDiv .rem .i64 a b) = _
  unfold Op.intDiv
  rw [if_neg h]; rfl
end
end Go.Fw
