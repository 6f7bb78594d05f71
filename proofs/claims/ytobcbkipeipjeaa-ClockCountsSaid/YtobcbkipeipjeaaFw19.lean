/-
  Arrays: a cell of one by index; an argument that is one. Own work; nothing here is trusted.
-/
import Derived.Test.YtobcbkipeipjeaaFw18
import Derived.Test.YtobcbkipeipjeaaFw14
namespace Go.Fw
section
variable {P : Program} {α : Type} [Flat α]
/-- An array of n things of one cell. -/
def ArrT (P : Program) (T n E : Nat) : Prop := P.underlying T = some (.array n E) ∧ pr P (sizeOf E) = some 1
theorem pop_ixA {T E n b o : Nat} {i : Int} {K : Value → Prop} (h : ArrT P T n E) (h0 : 0 ≤ i) (h1 : i < n) (k : K (.pointer (some ⟨b, o + i.toNat, none⟩))) :
    Pop P (Instr.indexAt T (.pointer (some ⟨b, o, none⟩)) (.int .i64 i)) K := by
  refine ⟨_, ?_, k⟩
  unfold Instr.indexAt
  have e1 : pr P (underlying T) = some (.array n E) := pr_underlying h.1
  have e3 : pr P (Instr.sureAddr (.pointer (some (⟨b, o, none⟩ : Addr)))) = some ⟨b, o, none⟩ := rfl
  simp only [asIntOf, pr_bind, e1, Option.bind_some, pr_pure, e3]
  simp only [if_pos (show 0 ≤ i ∧ i < (n : Int) from ⟨h0, h1⟩), pr_bind, h.2, Option.bind_some, pr_pure, add_none, Nat.mul_one]
theorem pop_ownix {T E n j : Nat} {i : Int} {v p : Value} {K : Value → Prop} (h : ArrT P T n E) (hp : OwnAt α v j p) (h0 : 0 ≤ i) (h1 : i < n) (k : ∀ q, OwnAtF α v j i.toNat q → K q) : Pop P (Instr.indexAt T p (.int .i64 i)) K := by
  obtain ⟨b, m, c, e, rfl⟩ := hp
  exact pop_ixA h h0 h1 (k _ ⟨b, m, c, e, rfl⟩)
theorem open_arr {H : Type} {enc : TypeId × Value → H} {w : World} {base : Nat} {held : Bool} {φ : α → Prop} {t : TypeId} {n : Nat} {e : TypeId} {r : Reach} {b0 : Nat} {v : Value} {d : DataW H} {ps : List MemPlace} {sp : Nat → Bool} (ht : P.underlying t = some (.array n e)) (ha : Flat.agg α = true)
    (hr : RdT P t α φ) (hval : Value.okWide P w r b0 t v) (hd : DataW.Trod enc P w base sp held t v d ps) : ∃ x : α, v = Flat.val x ∧ φ x := by
  obtain ⟨fuel, hf⟩ := hd
  obtain ⟨x, hx, hp⟩ := hr.rd enc w base _ held fuel _ _ hf
  unfold Value.okWide at hval
  rw [ht] at hval
  obtain ⟨cs, rfl, _⟩ := hval
  refine ⟨x, ?_, hp⟩
  rw [Flat.vagg ha, ← hx]
  simp [Value.cells]
end
end Go.Fw
