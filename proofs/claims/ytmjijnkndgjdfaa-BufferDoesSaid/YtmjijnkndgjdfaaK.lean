/-
  Plain facts on buffers.
-/
import Derived.Test.YtmjijnkndgjdfaaR
import Derived.Test.YtmjijnkndgjdfaaFw15
import Derived.Test.YtmjijnkndgjdfaaRows
import Derived.KernelRfl
namespace Go.Proofs.Ytmjijnkndgjdfaa
open Go.Fw

theorem takeX_zero (x : Entry) (l : List Entry) : takeX (x :: l) 0 = x := by
  have : canB (x :: l) 0 = true := by unfold canB; simp
  rw [takeX_ok this (by rfl)]
theorem canB_zero {l : List Entry} (h : l ≠ []) : canB l 0 = true := by
  cases l with
  | nil => exact absurd rfl h
  | cons x l => unfold canB; simp
theorem takeL_zero (l : List Entry) : takeL l 0 = l.drop 1 := by
  cases l with
  | nil => rw [takeL_bad (canB_out (by simp))]; rfl
  | cons x l => rw [takeL_ok (canB_zero (by simp))]; rfl
theorem takeE_zero (l : List Entry) : takeE l 0 = if l = [] then 1 else 0 := by
  cases l with
  | nil => rw [takeE_bad (by simp)]; rfl
  | cons x l => rw [takeE_ok (canB_zero (by simp))]; simp
theorem putL_len (r : Int) (l : List Entry) (x : Entry) : (putL r l x).length ≤ l.length + 1 := by
  unfold putL; split <;> simp
theorem putL_room {r : Int} {l : List Entry} (x : Entry) (h : (l.length : Int) ≤ r) : ((putL r l x).length : Int) ≤ r := by
  unfold putL; split
  · rename_i hh; simp; omega
  · exact h
theorem bne_self (b : Bool) : (b != b) = false := by cases b <;> rfl
theorem beq_of {p q : Prop} [Decidable p] [Decidable q] (h : p ↔ q) : (decide p == decide q) = true := by
  by_cases hp : p
  · simp [hp, h.1 hp]
  · have hq : ¬ q := fun hq => hp (h.2 hq)
    simp [hp, hq]
theorem bne_of {p q : Prop} [Decidable p] [Decidable q] (h : p ↔ q) : (decide p != decide q) = false := by
  by_cases hp : p
  · simp [hp, h.1 hp]
  · have hq : ¬ q := fun hq => hp (h.2 hq)
    simp [hp, hq]

end Go.Proofs.Ytmjijnkndgjdfaa
