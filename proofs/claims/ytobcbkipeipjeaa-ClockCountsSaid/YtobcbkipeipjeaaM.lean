/-
  The events of the laws; what happened before, and what is between.
-/
import Derived.Test.YtobcbkipeipjeaaL
namespace Go.Proofs.Ytobcbkipeipjeaa
open Go.Fw

/-- The events of a law: at most 40, of 8 threads. -/
def msk (v : Event) : Event := ⟨v.kind, andI v.t 7, v.a, v.n, v.m⟩
def evs (xs : List Event) : List Event := (xs.take 40).map msk
theorem evs_len (xs : List Event) : (evs xs).length ≤ 40 := by unfold evs; rw [List.length_map, List.length_take]; omega
theorem evs_ok (xs : List Event) : thrOk (evs xs) := by
  intro v hv
  obtain ⟨u, _, rfl⟩ := List.mem_map.1 hv
  have := andI_range u.t (b := 7) (by omega) (by omega)
  change 0 ≤ andI u.t 7 ∧ andI u.t 7 < 8
  omega
theorem map_snoc {α β : Type} {f : α → β} {l : List α} {k : Nat} {e : α} (h : l[k]? = some e) : (l.take k).map f ++ [f e] = (l.take (k + 1)).map f := by rw [← take_snoc h, List.map_append]; rfl
theorem anyF_iff {f : Nat → Bool} {i : Nat} : ∀ j, anyF f i j = true ↔ ∃ q, i < q ∧ q < j ∧ f q = true
  | 0 => by simp [anyF]
  | j + 1 => by
    rw [anyF, Bool.or_eq_true, anyF_iff j, Bool.and_eq_true, decide_eq_true_eq]
    constructor
    · rintro (⟨q, a, b, c⟩ | ⟨a, b⟩)
      · exact ⟨q, a, by omega, c⟩
      · exact ⟨j, a, by omega, b⟩
    · rintro ⟨q, a, b, c⟩
      rcases Nat.lt_or_ge q j with h | h
      · exact .inl ⟨q, a, h, c⟩
      · obtain rfl : q = j := by omega
        exact .inr ⟨a, c⟩
theorem HB.between {D : Event → Event → Bool} {l : List Event} {i k : Nat} (hik : i < k) : HB D l i k ↔ Dep D l i k ∨ ∃ j, i < j ∧ j < k ∧ HB D l i j ∧ HB D l j k := by
  constructor
  · intro h
    cases h with
    | one h1 h2 => exact .inl h2
    | more h1 h2 h3 => exact .inr ⟨_, h3.lt, h1, h3, .one h1 h2⟩
  · rintro (h | ⟨j, _, _, h1, h2⟩)
    · exact .one hik h
    · exact h1.trans h2
theorem want_mid {of : List Int} {s : Int} {l : List Event} {i k j : Nat} {x v : Event} (h : thrOk l) (hx : l[i]? = some x) (hv : l[k]? = some v) (hik : i < k) (hjk : j ≤ k)
    (hw : (depB of s x v || anyF (clkB l (clkF of s l) i k) i j) = true) : bef l (clkF of s l) i k = true := by
  have hk := (List.getElem?_eq_some_iff.1 hv).1
  rw [bef_F h hk, HB.between hik]
  rw [Bool.or_eq_true] at hw
  rcases hw with hw | hw
  · exact .inl ⟨x, v, hx, hv, hw⟩
  · obtain ⟨q, a, b, c⟩ := (anyF_iff j).1 hw
    unfold clkB at c
    rw [Bool.and_eq_true] at c
    exact .inr ⟨q, a, by omega, (bef_F h (by omega)).1 c.1, (bef_F h hk).1 c.2⟩
theorem want_done {of : List Int} {s : Int} {l : List Event} {i k j : Nat} {x v : Event} (h : thrOk l) (hx : l[i]? = some x) (hv : l[k]? = some v) (hik : i < k) (hjk : j ≤ k)
    (hd : j = k ∨ (depB of s x v || anyF (clkB l (clkF of s l) i k) i j) = true) : (bef l (clkF of s l) i k != (depB of s x v || anyF (clkB l (clkF of s l) i k) i j)) = false := by
  have hk := (List.getElem?_eq_some_iff.1 hv).1
  have key : bef l (clkF of s l) i k = (depB of s x v || anyF (clkB l (clkF of s l) i k) i j) := by
    cases hw : (depB of s x v || anyF (clkB l (clkF of s l) i k) i j) with
    | true => exact want_mid h hx hv hik hjk hw
    | false =>
      rcases hd with rfl | hd
      · cases hb : bef l (clkF of s l) i j with
        | false => rfl
        | true =>
          exfalso
          rw [bef_F h hk, HB.between hik] at hb
          rw [Bool.or_eq_false_iff] at hw
          rcases hb with ⟨a, b, ha, hb, hab⟩ | ⟨q, a, b, c, d⟩
          · rw [hx] at ha; rw [hv] at hb
            obtain rfl := Option.some.inj ha
            obtain rfl := Option.some.inj hb
            rw [hw.1] at hab; cases hab
          · have : anyF (clkB l (clkF of s l) i j) i j = true := (anyF_iff j).2 ⟨q, a, b, by unfold clkB; rw [(bef_F h (by omega)).2 c, (bef_F h hk).2 d]; rfl⟩
            rw [this] at hw; cases hw.2
      · rw [hd] at hw; cases hw
  rw [key]; cases (depB of s x v || anyF (clkB l (clkF of s l) i k) i j) <;> rfl
theorem bne_self (b : Bool) : (b != b) = false := by cases b <;> rfl
theorem not_no {b : Bool} (h : (!b) = false) : b = true := by cases b with | true => rfl | false => cases h

end Go.Proofs.Ytobcbkipeipjeaa
