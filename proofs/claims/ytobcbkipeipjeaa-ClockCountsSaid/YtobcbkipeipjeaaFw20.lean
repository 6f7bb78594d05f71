/-
  A load of an owned thing, as it runs. Own work; nothing here is trusted.
-/
import Derived.Test.YtobcbkipeipjeaaFw19
namespace Go.Fw
theorem run_own {α : Type} [Flat α] {P : Program} {w w0 : World} {A : Nat → Prop} {L : List HP} {xs : List α} {T : Nat} {v p : Value} {i : Nat} {x : α} (hs : St w0 A (ownL v xs :: L) w) (ht : oneFact P T = some (Flat.agg α, Flat.sz α)) (hp : OwnAt α v i p) (hx : xs[i]? = some x) :
    (Instr.loadAt T p).run P w = .ok (Flat.val x) w := by
  obtain ⟨F, h, _⟩ := hs.head
  obtain ⟨b, cap, rest, hv, hb, hl, _⟩ := own_split h (List.getElem?_eq_some_iff.1 hx).1
  obtain ⟨b', n, c, hv', rfl⟩ := hp
  rw [hv] at hv'
  simp only [Value.slice.injEq, Option.some.injEq, Addr.mk.injEq] at hv'
  obtain ⟨⟨rfl, _, _⟩, _, _⟩ := hv'
  refine run_at (S := fun _ => True) ht ⟨b, i * Flat.sz α, rfl, trivial, fun j c hj => hb.cell ?_⟩
  have := flat_get hx hj
  rw [List.getElem?_append_left (List.getElem?_eq_some_iff.1 this).1]; exact this
end Go.Fw
