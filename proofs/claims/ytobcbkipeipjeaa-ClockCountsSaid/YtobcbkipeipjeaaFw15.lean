/-
  More rules: the lesser and the greater of two; parts of a row's element that are rows themselves. Own work; nothing here is trusted.
-/
import Derived.Test.YtobcbkipeipjeaaFw13
namespace Go.Fw
section
variable {P : Program} {w w0 : World} {A S : Nat → Prop} {L : List HP}

theorem pop_min {t : Array TypeId} {T : TypeId} {a b : Int} {K : Value → Prop} (k : K (.int .i64 (min a b))) : Pop P (Builtin.min_ t T [.int .i64 a, .int .i64 b].toArray) K := by
  refine ⟨_, ?_, k⟩
  show pr P (Builtin.min2 (.int .i64 a) (.int .i64 b)) = _
  unfold Builtin.min2
  by_cases h : b < a
  · simp [h, pr_pure]; omega
  · simp [h, pr_pure]; omega
theorem pop_max {t : Array TypeId} {T : TypeId} {a b : Int} {K : Value → Prop} (k : K (.int .i64 (max a b))) : Pop P (Builtin.max_ t T [.int .i64 a, .int .i64 b].toArray) K := by
  refine ⟨_, ?_, k⟩
  show pr P (Builtin.max2 (.int .i64 a) (.int .i64 b)) = _
  unfold Builtin.max2
  by_cases h : a < b
  · simp [h, pr_pure]; omega
  · simp [h, pr_pure]; omega

theorem pop_atfA {α β : Type} [Flat α] [Flat β] {T f off : Nat} {p : Value} {x : α} (y : β) {K : Value → Prop} (ht : FieldT P T f off) (h : At S w p x) (hy : ((Flat.enc x).drop off).take (Flat.sz β) = Flat.enc y)
    (k : ∀ q, At S w q y → K q) : Pop P (Instr.fieldAt T p f) K := by
  obtain ⟨b, o, rfl, h2, h3⟩ := h
  refine pop_field ht (k _ ⟨b, o + off, rfl, h2, fun j c hj => ?_⟩)
  rw [← hy, List.getElem?_take] at hj
  split at hj
  · rw [List.getElem?_drop] at hj
    have := h3 _ c hj
    rwa [show o + (off + j) = o + off + j from by omega] at this
  · cases hj
end
end Go.Fw
