/-
  Slices of slices: each row owned, or read. Own work; nothing here is trusted.
-/
import Derived.Test.YtobcbkipeipjeaaFw16
namespace Go.Fw
/-- A slice's value. -/
structure SV where
  a : Option Addr
  n : Nat
  cap : Nat
instance : Flat SV where
  agg := false
  sz := 1
  enc s := [.slice s.a s.n s.cap]
  val s := .slice s.a s.n s.cap
  pos := by decide
  len _ := rfl
  one a v h := by rw [List.mem_singleton.1 h]; rfl
  vagg h := by cases h
  vone _ _ := rfl

section
variable {P : Program} {α : Type} [Flat α] {A : Nat → Prop} {w0 w : World} {L L' : List HP} {v : Value}

/-- The rows of a slice of slices, each owned. -/
def rows : List SV → List (List α) → HP
  | [], [] => emp
  | s :: ss, x :: xs => sep (ownL (Flat.val s) x) (rows ss xs)
  | _, _ => fact False emp
theorem rows_len : ∀ {ss : List SV} {xs : List (List α)} {F : Nat → Prop}, (rows ss xs).p w F → ss.length = xs.length
  | [], [], _, _ => rfl
  | s :: ss, x :: xs, F, h => by
    obtain ⟨F1, F2, _, h2, _, _⟩ := h
    rw [List.length_cons, List.length_cons, rows_len h2]
  | [], _ :: _, _, h => h.1.elim
  | _ :: _, [], _, h => h.1.elim
theorem rows_rd : ∀ {ss : List SV} {xs : List (List α)} {F : Nat → Prop} {i : Nat} {s : SV} {x : List α}, (rows ss xs).p w F → ss[i]? = some s → xs[i]? = some x → RdL (fun _ => True) w (Flat.val s) x
  | s :: ss, x :: xs, F, i, s', x', h, hs, hx => by
    obtain ⟨F1, F2, h1, h2, _, _⟩ := h
    cases i with
    | zero =>
      rw [List.getElem?_cons_zero] at hs hx
      obtain rfl := Option.some.inj hs
      obtain rfl := Option.some.inj hx
      exact (ownL.rd h1).mono fun _ _ => trivial
    | succ i =>
      rw [List.getElem?_cons_succ] at hs hx
      exact rows_rd h2 hs hx
  | [], _, _, _, _, _, _, hs, _ => by simp at hs
  | _ :: _, [], _, _, _, _, _, _, hx => by simp at hx
theorem rows_snoc : ∀ {ss : List SV} {xs : List (List α)} {F1 F2 F : Nat → Prop} {s : SV} {x : List α}, (rows ss xs).p w F1 → (ownL (Flat.val s) x).p w F2 → (∀ b, F1 b → ¬ F2 b) → (∀ b, F b ↔ F1 b ∨ F2 b) → (rows (ss ++ [s]) (xs ++ [x])).p w F
  | [], [], F1, F2, F, s, x, h1, h2, _, h4 => by
    refine ⟨F2, F1, h2, h1, fun b hb hb1 => h1 b hb1, fun b => ?_⟩
    rw [h4 b]; exact ⟨fun h => h.symm, fun h => h.symm⟩
  | s' :: ss, x' :: xs, F1, F2, F, s, x, h1, h2, h3, h4 => by
    obtain ⟨G1, G2, g1, g2, g3, g4⟩ := h1
    refine ⟨G1, fun b => G2 b ∨ F2 b, g1, rows_snoc g2 h2 (fun b hb => h3 b ((g4 b).2 (.inr hb))) (fun b => Iff.rfl), fun b hb => ?_, fun b => ?_⟩
    · rintro (hh | hh)
      · exact g3 b hb hh
      · exact h3 b ((g4 b).2 (.inl hb)) hh
    · rw [h4 b, g4 b, or_assoc]
  | [], _ :: _, _, _, _, _, _, h, _, _, _ => h.1.elim
  | _ :: _, [], _, _, _, _, _, h, _, _, _ => h.1.elim

theorem St.rowsLen {ss : List SV} {xs : List (List α)} (hs : St w0 A (rows ss xs :: L) w) : ss.length = xs.length := by
  obtain ⟨F, h, _⟩ := hs.head; exact rows_len h
theorem St.rowAt {ss : List SV} {xs : List (List α)} {i : Nat} {s : SV} {x : List α} (hs : St w0 A (rows ss xs :: L) w) (h1 : ss[i]? = some s) (h2 : xs[i]? = some x) : RdL (fun _ => True) w (Flat.val s) x := by
  obtain ⟨F, h, _⟩ := hs.head; exact rows_rd h h1 h2
theorem St.rowsNil (hs : St w0 A L w) : St w0 A (rows [] ([] : List (List α)) :: L) w :=
  hs.new (Ext.refl w) (F := none1) (fun _ h => h) fun _ h => h.elim
theorem St.rowAdd {ss : List SV} {xs : List (List α)} {s : SV} {x : List α} (hs : St w0 A (rows ss xs :: ownL (Flat.val s) x :: L) w) : St w0 A (rows (ss ++ [s]) (xs ++ [x]) :: L) w := by
  have h := St.join hs
  refine h.turn fun F hF => ?_
  obtain ⟨F1, F2, h1, h2, h3, h4⟩ := hF
  exact ⟨F, rows_snoc h1 h2 h3 h4, fun b hb => .inl hb, Chg.refl _ _⟩
theorem St.isSV {xs : List α} (hs : St w0 A (ownL v xs :: L) w) : ∃ s : SV, v = Flat.val s := by
  obtain ⟨F, h, _⟩ := hs.head
  rcases h with ⟨rfl, _⟩ | ⟨b, cap, _, rfl, _⟩
  · exact ⟨⟨none, 0, 0⟩, rfl⟩
  · exact ⟨⟨_, _, _⟩, rfl⟩
theorem RdL.isSV {S : Nat → Prop} {xs : List α} (h : RdL S w v xs) : ∃ s : SV, v = Flat.val s := by
  obtain ⟨a, cap, rfl, _⟩ := h; exact ⟨⟨_, _, _⟩, rfl⟩

/-- A slice of slices that is read. -/
def RdLL (w : World) (v : Value) (xs : List (List α)) : Prop :=
  ∃ ss : List SV, RdL (fun _ => True) w v ss ∧ ss.length = xs.length ∧ ∀ (i : Nat) (s : SV) (x : List α), ss[i]? = some s → xs[i]? = some x → RdL (fun _ => True) w (Flat.val s) x
theorem RdLL.ext {w' : World} {xs : List (List α)} (h : RdLL w v xs) (e : Ext w w') : RdLL w' v xs := by
  obtain ⟨ss, h1, h2, h3⟩ := h; exact ⟨ss, h1.ext e, h2, fun i s x a b => (h3 i s x a b).ext e⟩
theorem RdLL.of {ss : List SV} {xs : List (List α)} (h1 : St w0 A (ownL v ss :: L) w) (h2 : St w0 A (rows ss xs :: L') w) : RdLL w v xs :=
  ⟨ss, h1.rd', h2.rowsLen, fun _ _ _ a b => h2.rowAt a b⟩
theorem RdLL.take {v' : Value} {ss : List SV} {xs : List (List α)} {k : Nat} (h1 : RdL (fun _ => True) w v' (ss.take k)) (h2 : ss.length = xs.length) (h3 : ∀ (i : Nat) (s : SV) (x : List α), ss[i]? = some s → xs[i]? = some x → RdL (fun _ => True) w (Flat.val s) x) : RdLL w v' (xs.take k) :=
  ⟨ss.take k, h1, by rw [List.length_take, List.length_take, h2], fun i s x a b => by
    rw [List.getElem?_take] at a b
    split at a
    · rename_i hi; rw [if_pos hi] at b; exact h3 i s x a b
    · cases a⟩
/-- A slice of slices, owned with its rows. -/
def ownLL (v : Value) (xs : List (List α)) : HP := exH fun ss => sep (ownL v ss) (rows ss xs)
theorem ownLL.open {xs : List (List α)} (hs : St w0 A (ownLL v xs :: L) w) : ∃ ss, St w0 A (ownL v ss :: rows ss xs :: L) w := by
  obtain ⟨ss, h⟩ := hs.openEx; exact ⟨ss, h.split⟩
theorem ownLL.shut {ss : List SV} {xs : List (List α)} (hs : St w0 A (ownL v ss :: rows ss xs :: L) w) : St w0 A (ownLL v xs :: L) w :=
  St.shutEx (H := fun ss => sep (ownL v ss) (rows ss xs)) ss (St.join hs)
end
end Go.Fw
