/-
  The calls once more, each with one answer; what is read at the types of this seat.
-/
import Derived.Test.YtobcbkipeipjeaaT
import Derived.Test.YtobcbkipeipjeaaC5
import Derived.Test.YtobcbkipeipjeaaFw14
import Derived.KernelRfl
namespace Go.Proofs.Ytobcbkipeipjeaa
open Go.Fw

def clkF (of : List Int) (s : Int) (l : List Event) : List (List Int) := if thr l = 0 then [] else clkTo (depB of s) (thr l).toNat l l.length
def raceC (of : List Int) (s : Int) (l : List Event) : Nat → Nat → Bool := rcB (depB of s) l (clkB l (clkTo (depB of s) (thr l).toNat l l.length))
def raceF (of : List Int) (s : Int) (l : List Event) : List Two := if thr l = 0 then [] else rto (raceC of s l) l.length
theorem clkF_yes {of : List Int} {s : Int} {l : List Event} (h : ¬ thr l = 0) : clkF of s l = clkTo (depB of s) (thr l).toNat l l.length := by unfold clkF; rw [if_neg h]
theorem clkF_len {of : List Int} {s : Int} {l : List Event} (h : thrOk l) : (clkF of s l).length = l.length := by
  by_cases h0 : thr l = 0
  · unfold clkF; rw [if_pos h0]
    cases l with
    | nil => rfl
    | cons v l =>
      exfalso
      unfold thr at h0
      rw [if_pos h] at h0
      have hb : 0 ≤ v.t := (h v (by simp)).1
      have key : ∀ (m : List Event) (a : Int), a ≤ m.foldl (fun n v => max n (v.t + 1)) a := by
        intro m
        induction m with
        | nil => intro a; exact Int.le_refl _
        | cons y m ih => intro a; have := ih (max a (y.t + 1)); rw [List.foldl_cons]; omega
      have := key l (max 0 (v.t + 1))
      unfold thrMax at h0
      rw [List.foldl_cons] at h0
      omega
  · rw [clkF_yes h0, clkTo_len (Nat.le_refl _)]
theorem thr_nz {l : List Event} {k : Nat} (h : thrOk l) (hk : k < l.length) : ¬ thr l = 0 := fun h0 => by
  have := clkF_len (of := []) (s := 0) h
  unfold clkF at this; rw [if_pos h0] at this; simp at this; omega
theorem clkF_bound (of : List Int) (s : Int) (l : List Event) : (clkF of s l).length ≤ l.length := by
  unfold clkF; split
  · simp
  · rw [clkTo_len (Nat.le_refl _)]; exact Nat.le_refl _
theorem clkF_row (of : List Int) (s : Int) (l : List Event) : ∀ r ∈ clkF of s l, r.length ≤ 8 := by
  intro r hr
  unfold clkF at hr
  split at hr
  · cases hr
  · have := clkTo_row _ r hr; have := thr_le l; omega
theorem bef_F {of : List Int} {s : Int} {l : List Event} {i k : Nat} (h : thrOk l) (hk : k < l.length) : bef l (clkF of s l) i k = true ↔ HB (depB of s) l i k := by
  have h0 := thr_nz h hk
  rw [clkF_yes h0]; exact bef_HB (dep_same of s) (thr_range h0) hk
theorem raceF_len (of : List Int) (s : Int) {l : List Event} (h : l.length ≤ 1000) : (raceF of s l).length ≤ 1000000 := by
  unfold raceF; split
  · simp
  · exact rto_small (Nat.le_refl _) h
theorem C10' (sv ov : Value) (xs : List Event) (of : List Int) (stays : Int) (w : World) (hL : RdL (fun _ => True) w sv xs) (hO : RdL (fun _ => True) w ov of) (hn : xs.length ≤ 1000) : Calls Try.prog 10 [sv, ov, .int .i64 stays].toArray w (Ret fun v w' => New (ownLL v (clkF of stays xs)) w w') := by
  refine (C10 sv ov xs of stays w hL hO hn).mono fun e w' h => ?_
  obtain ⟨v, he, hv⟩ := h
  refine ⟨_, he, ?_⟩
  rcases hv with ⟨h0, rfl, hx⟩ | ⟨h0, hnew⟩
  · unfold clkF; rw [if_pos h0]
    exact (ownLL.shut ((St.start w).ext hx).rowsNil.ownNil).fresh
  · rw [clkF_yes h0]; exact hnew

theorem C12' (sv ov : Value) (xs : List Event) (of : List Int) (stays : Int) (w : World) (hL : RdL (fun _ => True) w sv xs) (hO : RdL (fun _ => True) w ov of) (hn : xs.length ≤ 1000) : Calls Try.prog 12 [sv, ov, .int .i64 stays].toArray w (Ret fun v w' => New (ownLL v (clkF of stays xs)) w w') := by
  refine (C12 sv ov xs of stays w hL hO hn).mono fun e w' h => ?_
  obtain ⟨v, he, hv⟩ := h
  refine ⟨_, he, ?_⟩
  unfold clkF
  by_cases h0 : thr xs = 0
  · rw [if_pos h0] at *; exact hv
  · rw [if_neg h0] at *; rw [clk_doc (dep_same of stays) (thr_range h0)] at hv; exact hv

theorem C14' (sv ov : Value) (xs : List Event) (of : List Int) (stays : Int) (w : World) (hL : RdL (fun _ => True) w sv xs) (hO : RdL (fun _ => True) w ov of) (hn : xs.length ≤ 1000) : Calls Try.prog 14 [sv, ov, .int .i64 stays].toArray w (Ret fun v w' => New (ownL v (raceF of stays xs)) w w') := by
  exact C14 sv ov xs of stays w hL hO hn

theorem C15' (sv ov : Value) (xs : List Event) (of : List Int) (stays : Int) (w : World) (hL : RdL (fun _ => True) w sv xs) (hO : RdL (fun _ => True) w ov of) (hn : xs.length ≤ 1000) : Calls Try.prog 15 [sv, ov, .int .i64 stays].toArray w (Ret fun v w' => New (ownL v (raceF of stays xs)) w w') := by
  refine (C15 sv ov xs of stays w hL hO hn).mono fun e w' h => ?_
  obtain ⟨v, he, hv⟩ := h
  refine ⟨_, he, ?_⟩
  unfold raceF
  by_cases h0 : thr xs = 0
  · rw [if_pos h0] at *; exact hv
  · rw [if_neg h0] at *; rw [races_doc (dep_same of stays) (thr_range h0)] at hv; exact hv
theorem own : ownKnob Try.prog.godebug = none := by kernel_rfl
theorem rdI : RdT Try.prog 3 Int i64ok := rd_int Try.underlying3 (by kernel_rfl)
def EventOk (e : Event) : Prop := i64ok e.kind ∧ i64ok e.t ∧ i64ok e.a ∧ i64ok e.n ∧ i64ok e.m
theorem rdE : RdT Try.prog 40 Event EventOk := ⟨by kernel_rfl, fun enc w base sp held fuel cs x h => by
  obtain ⟨hl, n, hp⟩ := trod_parts Try.underlying40 h
  obtain ⟨y0, h0⟩ := hp 0 _ rfl
  obtain ⟨y1, h1⟩ := hp 1 _ rfl
  obtain ⟨y2, h2⟩ := hp 2 _ rfl
  obtain ⟨y3, h3⟩ := hp 3 _ rfl
  obtain ⟨y4, h4⟩ := hp 4 _ rfl
  obtain ⟨a0, e0, k0⟩ := rdI.rd enc w base sp held n _ _ h0
  obtain ⟨a1, e1, k1⟩ := rdI.rd enc w base sp held n _ _ h1
  obtain ⟨a2, e2, k2⟩ := rdI.rd enc w base sp held n _ _ h2
  obtain ⟨a3, e3, k3⟩ := rdI.rd enc w base sp held n _ _ h3
  obtain ⟨a4, e4, k4⟩ := rdI.rd enc w base sp held n _ _ h4
  have s0 := part_step (s := 1) e0
  have s1 := part_step (s := 1) e1
  have s2 := part_step (s := 1) e2
  have s3 := part_step (s := 1) e3
  have s4 := part_step (s := 1) e4
  have hz : cs.drop 5 = [] := List.drop_eq_nil_iff.2 (by rw [hl]; exact Nat.le_of_eq (by kernel_rfl))
  refine ⟨⟨a0, a1, a2, a3, a4⟩, ?_, k0, k1, k2, k3, k4⟩
  have e : cs = cs.drop 0 := rfl
  rw [e]
  refine s0.trans ?_
  refine (congrArg _ s1).trans ?_
  refine (congrArg _ (congrArg _ s2)).trans ?_
  refine (congrArg _ (congrArg _ (congrArg _ s3))).trans ?_
  refine (congrArg _ (congrArg _ (congrArg _ (congrArg _ s4)))).trans ?_
  exact (congrArg _ (congrArg _ (congrArg _ (congrArg _ (congrArg _ hz)))))⟩

end Go.Proofs.Ytobcbkipeipjeaa
