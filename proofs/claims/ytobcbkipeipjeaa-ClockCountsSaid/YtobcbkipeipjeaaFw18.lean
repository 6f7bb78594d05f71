/-
  Pairs of numbers (arrays of two): whether two are the same. Own work; nothing here is trusted.
-/
import Derived.Test.YtobcbkipeipjeaaFw17
namespace Go.Fw
section
variable {P : Program}
def Ar2 (P : Program) (T E : Nat) : Prop := P.underlying T = some (.array 2 E) ∧ P.underlying E = some (.int .i64) ∧ pr P (sizeOf E) = some 1 ∧ P.eqGuardType P.depth T = false
theorem pr_arr2 {T E : Nat} {a b c d : Int} (h : Ar2 P T E) :
    pr P (Op.equal T (.agg [.int .i64 a, .int .i64 b].toArray) (.agg [.int .i64 c, .int .i64 d].toArray)) = some (decide (a = c ∧ b = d)) := by
  obtain ⟨ht, he, hs, _⟩ := h
  have e : ∀ x y : Int, pr P (Op.equalIn 9999 E (.int .i64 x) (.int .i64 y)) = some (decide (x = y)) := fun x y => by
    rw [pr_eqSimple (k := 9998) (n := 0) he rfl rfl rfl]; rfl
  have p : ∀ (o : Nat) (x y z : Int), (([.int .i64 x, .int .i64 y] : List Value).toArray)[o]? = some (.int .i64 z) → pr P (part E ([.int .i64 x, .int .i64 y] : List Value).toArray o) = some (.int .i64 z) := fun o x y z hz => pr_part he rfl hz
  show pr P (Op.equalIn (9999 + 1) T _ _) = _
  unfold Op.equalIn
  rw [pr_bind, pr_underlying ht]
  simp only [Option.bind_some, pr_bind, hs]
  simp only [Std.Legacy.Range.forIn_eq_forIn_range', Std.Legacy.Range.size, Nat.sub_zero, Nat.add_sub_cancel, Nat.div_one]
  simp only [List.range', List.forIn_cons, List.forIn_nil, pr_bind, Nat.zero_mul, Nat.one_mul, Nat.add_zero, Nat.zero_add]
  rw [p 0 a b a rfl, p 0 c d c rfl]
  simp only [Option.bind_some, e]
  by_cases h1 : a = c
  · subst h1
    simp only [decide_true, Bool.not_true, Bool.false_eq_true, if_false, pr_pure, Option.bind_some, pr_bind]
    rw [p 1 a b b rfl, p 1 a d d rfl]
    simp only [Option.bind_some, e]
    by_cases h2 : b = d
    · subst h2; simp [pr_pure, pr_bind]
    · simp [h2, pr_pure, pr_bind]
  · simp [h1, pr_pure, pr_bind]
theorem pop_ar2eq {T E : Nat} {cx cy : Bool} {a b c d : Int} {K : Value → Prop} (h : Ar2 P T E) (k : K (.bool (decide (a = c ∧ b = d)))) :
    Pop P (binS .eql T cx cy (.agg [.int .i64 a, .int .i64 b].toArray) (.agg [.int .i64 c, .int .i64 d].toArray)) K := by
  refine ⟨_, ?_, k⟩
  show pr P (if P.eqGuardType P.depth T = true then stuck "an interface in a part" else (do pure (Value.bool (← Op.equal T _ _)) : Sem Value)) = _
  rw [h.2.2.2, if_neg (by simp), pr_map', pr_arr2 h]; rfl
theorem pop_ar2ne {T E : Nat} {cx cy : Bool} {a b c d : Int} {K : Value → Prop} (h : Ar2 P T E) (k : K (.bool (decide (¬ (a = c ∧ b = d))))) :
    Pop P (binS .neq T cx cy (.agg [.int .i64 a, .int .i64 b].toArray) (.agg [.int .i64 c, .int .i64 d].toArray)) K := by
  refine ⟨_, ?_, k⟩
  show pr P (if P.eqGuardType P.depth T = true then stuck "an interface in a part" else (do pure (Value.bool (!(← Op.equal T _ _))) : Sem Value)) = _
  rw [h.2.2.2, if_neg (by simp), pr_map' _ (fun b => Value.bool (!b)), pr_arr2 h]
  simp
/-- s[:i]: what it reads as, wherever s reads as it did. -/
theorem pop_cutHi' {α : Type} [Flat α] {S : Nat → Prop} {w : World} {xs : List α} {T E by' : Nat} {z : Option Nat} {v : Value} {i : Int} {K : Value → Prop} (ht : slFact P T = some (E, Flat.sz α, by', z)) (hr : RdL S w v xs) (h0 : 0 ≤ i) (h2 : i ≤ xs.length)
    (k : ∀ v', (∀ w', RdL S w' v xs → RdL S w' v' (xs.take i.toNat)) → K v') : Pop P (Instr.sliceAt T v none (some (.int .i64 i)) none) K := by
  obtain ⟨a, cap, rfl, hcap, h3⟩ := hr
  refine ⟨_, pr_cut ht (pr_bounds (.inl ⟨rfl, rfl⟩) (.inr ⟨i, rfl, h0, rfl⟩) (Nat.zero_le _) (by omega)), k _ fun w' h => ?_⟩
  have := h.cut rfl (Nat.zero_le i.toNat) (by omega)
  simpa using this
end
end Go.Fw
