/-
  Pointers and maps, as they lie in cells. Own work; nothing here is trusted.
-/
import Derived.Test.YtddeoncipdpkfaaGreatDoorZFw28
set_option linter.all false
namespace Go.Fw
/-- A pointer to a block. -/
structure Ptr where
  b : Nat
deriving DecidableEq
/-- A map. -/
structure MapR where
  r : Nat
deriving DecidableEq
instance : Flat Ptr where
  agg := false
  sz := 1
  enc p := [.pointer (some ⟨p.b, 0, none⟩)]
  val p := .pointer (some ⟨p.b, 0, none⟩)
  pos := by decide
  len _ := rfl
  one a v h := by rw [List.mem_singleton.1 h]; rfl
  vagg h := by cases h
  vone _ _ := rfl
instance : Deep Ptr Ptr := plainDeep
/-- Things behind pointers, one by one. -/
def rowsP {α κ : Type} (H : κ → α → HP) : List κ → List α → HP
  | [], [] => emp
  | p :: ps, x :: xs => sep (H p x) (rowsP H ps xs)
  | _, _ => fact False emp
section
variable {P : Program} {α κ : Type} {H : κ → α → HP} {A : Nat → Prop} {w0 w : World} {L : List HP}
theorem rowsP_len : ∀ {ps : List κ} {xs : List α} {F : Nat → Prop}, (rowsP H ps xs).p w F → ps.length = xs.length
  | [], [], _, _ => rfl
  | s :: ss, x :: xs, F, h => by
    obtain ⟨F1, F2, _, h2, _, _⟩ := h
    rw [List.length_cons, List.length_cons, rowsP_len h2]
  | [], _ :: _, _, h => h.1.elim
  | _ :: _, [], _, h => h.1.elim
theorem St.rowsPLen {ps : List κ} {xs : List α} (hs : St w0 A (rowsP H ps xs :: L) w) : ps.length = xs.length := by
  obtain ⟨F, h, _⟩ := hs.head; exact rowsP_len h
theorem St.rowsPNil (hs : St w0 A L w) : St w0 A (rowsP H [] [] :: L) w := hs.new (Ext.refl w) (F := none1) (fun _ h => h) fun _ h => h.elim
/-- All but the i-th one. -/
def rowsX (H : κ → α → HP) (ps : List κ) (xs : List α) (i : Nat) : HP := sep (rowsP H (ps.take i) (xs.take i)) (rowsP H (ps.drop (i + 1)) (xs.drop (i + 1)))
theorem rowsP_focus : ∀ {ps : List κ} {xs : List α} {i : Nat} {p : κ} {x : α} {F : Nat → Prop}, (rowsP H ps xs).p w F → ps[i]? = some p → xs[i]? = some x → (sep (H p x) (rowsX H ps xs i)).p w F
  | p' :: ps, x' :: xs, 0, p, x, F, h, hp, hx => by
    rw [List.getElem?_cons_zero] at hp hx
    obtain rfl := Option.some.inj hp
    obtain rfl := Option.some.inj hx
    obtain ⟨F1, F2, h1, h2, h3, h4⟩ := h
    exact ⟨F1, F2, h1, ⟨none1, F2, fun _ h => h, h2, fun _ h => h.elim, fun b => ⟨.inr, fun h => h.elim (fun h => h.elim) id⟩⟩, h3, h4⟩
  | p' :: ps, x' :: xs, i + 1, p, x, F, h, hp, hx => by
    rw [List.getElem?_cons_succ] at hp hx
    obtain ⟨F1, F2, h1, h2, h3, h4⟩ := h
    obtain ⟨G1, G2, g1, ⟨K1, K2, k1, k2, k3, k4⟩, g3, g4⟩ := rowsP_focus h2 hp hx
    refine ⟨G1, fun b => F1 b ∨ G2 b, g1, ⟨fun b => F1 b ∨ K1 b, K2, ⟨F1, K1, h1, k1, fun b hb hk => h3 b hb ((g4 b).2 (.inr ((k4 b).2 (.inl hk)))), fun b => Iff.rfl⟩, k2, ?_, ?_⟩, ?_, ?_⟩
    · rintro b (hb | hb) hk
      · exact h3 b hb ((g4 b).2 (.inr ((k4 b).2 (.inr hk))))
      · exact k3 b hb hk
    · intro b; show F1 b ∨ G2 b ↔ (F1 b ∨ K1 b) ∨ K2 b; rw [k4 b, or_assoc]
    · rintro b hb (hf | hf)
      · exact h3 b hf ((g4 b).2 (.inl hb))
      · exact g3 b hb hf
    · intro b; rw [h4 b, g4 b]; constructor
      · rintro (h | h | h)
        · exact .inr (.inl h)
        · exact .inl h
        · exact .inr (.inr h)
      · rintro (h | h | h)
        · exact .inr (.inl h)
        · exact .inl h
        · exact .inr (.inr h)
  | [], [], _, _, _, _, _, hp, _ => by simp at hp
  | [], _ :: _, _, _, _, _, h, _, _ => h.1.elim
  | _ :: _, [], _, _, _, _, h, _, _ => h.1.elim
theorem rowsP_put : ∀ {ps : List κ} {xs : List α} {i : Nat} {p : κ} {x : α} {F : Nat → Prop}, i < xs.length → ps.length = xs.length → (sep (H p x) (rowsX H ps xs i)).p w F → (rowsP H (ps.set i p) (xs.set i x)).p w F
  | p' :: ps, x' :: xs, 0, p, x, F, _, _, h => by
    obtain ⟨F1, F2, h1, ⟨K1, K2, k1, k2, k3, k4⟩, h3, h4⟩ := h
    refine ⟨F1, F2, h1, ?_, h3, h4⟩
    have e : F2 = K2 := funext fun b => propext ((k4 b).trans ⟨fun h => h.elim (fun h => (k1 b h).elim) id, .inr⟩)
    rw [e]; exact k2
  | p' :: ps, x' :: xs, i + 1, p, x, F, hi, hl, h => by
    obtain ⟨G1, G2, g1, ⟨K1, K2, ⟨F1, M1, f1, m1, f3, f4⟩, k2, k3, k4⟩, g3, g4⟩ := h
    refine ⟨F1, fun b => G1 b ∨ (M1 b ∨ K2 b), f1, rowsP_put (by simpa using hi) (by simpa using hl) ⟨G1, fun b => M1 b ∨ K2 b, g1, ⟨M1, K2, m1, k2, fun b hb hk => k3 b ((f4 b).2 (.inr hb)) hk, fun b => Iff.rfl⟩, ?_, fun b => Iff.rfl⟩, ?_, ?_⟩
    · rintro b hb (h | h)
      · exact g3 b hb ((k4 b).2 (.inl ((f4 b).2 (.inr h))))
      · exact g3 b hb ((k4 b).2 (.inr h))
    · rintro b hb (h | h | h)
      · exact g3 b h ((k4 b).2 (.inl ((f4 b).2 (.inl hb))))
      · exact f3 b hb h
      · exact k3 b ((f4 b).2 (.inl hb)) h
    · intro b; rw [g4 b, k4 b, f4 b]; constructor
      · rintro (h | (h | h) | h)
        · exact .inr (.inl h)
        · exact .inl h
        · exact .inr (.inr (.inl h))
        · exact .inr (.inr (.inr h))
      · rintro (h | h | h | h)
        · exact .inr (.inl (.inl h))
        · exact .inl h
        · exact .inr (.inl (.inr h))
        · exact .inr (.inr h)
  | [], _ :: _, _, _, _, _, _, hl, _ => by simp at hl
  | _, [], _, _, _, _, hi, _, _ => by simp at hi
theorem set_self_get {β : Type} : ∀ {ps : List β} {i : Nat} {p : β}, ps[i]? = some p → ps.set i p = ps
  | [], _, _, h => by simp at h
  | y :: ps, 0, p, h => by rw [List.getElem?_cons_zero] at h; obtain rfl := Option.some.inj h; rfl
  | y :: ps, i + 1, p, h => by rw [List.getElem?_cons_succ] at h; rw [List.set_cons_succ, set_self_get h]
theorem rowsP_back {ps : List κ} {xs : List α} {i : Nat} {p : κ} {x : α} {F : Nat → Prop} (hi : i < xs.length) (hl : ps.length = xs.length) (hp : ps[i]? = some p) (h : (sep (H p x) (rowsX H ps xs i)).p w F) : (rowsP H ps (xs.set i x)).p w F := by
  have := rowsP_put hi hl h; rwa [set_self_get hp] at this
theorem rowsP_app : ∀ {ps qs : List κ} {xs ys : List α} {F : Nat → Prop}, (sep (rowsP H ps xs) (rowsP H qs ys)).p w F → (rowsP H (ps ++ qs) (xs ++ ys)).p w F
  | [], qs, [], ys, F, ⟨F1, F2, h1, h2, _, h4⟩ => by
    have : F = F2 := funext fun b => propext ((h4 b).trans ⟨fun h => h.elim (fun h => (h1 b h).elim) id, .inr⟩)
    rw [this]; exact h2
  | p :: ps, qs, x :: xs, ys, F, ⟨F1, F2, ⟨G1, G2, g1, g2, g3, g4⟩, h2, h3, h4⟩ => by
    refine ⟨G1, fun b => G2 b ∨ F2 b, g1, rowsP_app ⟨G2, F2, g2, h2, fun b hb => h3 b ((g4 b).2 (.inr hb)), fun b => Iff.rfl⟩, fun b hb => ?_, fun b => by rw [h4 b, g4 b, or_assoc]⟩
    rintro (hh | hh)
    · exact g3 b hb hh
    · exact h3 b ((g4 b).2 (.inl hb)) hh
  | [], _, _ :: _, _, _, ⟨_, _, h, _⟩ => h.1.elim
  | _ :: _, _, [], _, _, ⟨_, _, h, _⟩ => h.1.elim
theorem St.focus {ps : List κ} {xs : List α} {i : Nat} {p : κ} {x : α} (hs : St w0 A (rowsP H ps xs :: L) w) (hp : ps[i]? = some p) (hx : xs[i]? = some x) : St w0 A (H p x :: rowsX H ps xs i :: L) w :=
  (hs.turn (H' := sep (H p x) (rowsX H ps xs i)) fun F hF => ⟨F, rowsP_focus hF hp hx, fun b hb => .inl hb, Chg.refl _ _⟩).split
theorem St.unfocus {ps : List κ} {xs : List α} {i : Nat} {p : κ} {x : α} (hs : St w0 A (H p x :: rowsX H ps xs i :: L) w) (hi : i < xs.length) (hl : ps.length = xs.length) (hp : ps[i]? = some p) : St w0 A (rowsP H ps (xs.set i x) :: L) w :=
  (St.join hs).turn fun F hF => ⟨F, rowsP_back hi hl hp hF, fun b hb => .inl hb, Chg.refl _ _⟩
theorem rowsP_snoc : ∀ {ps : List κ} {xs : List α} {p : κ} {x : α} {F1 F2 F : Nat → Prop}, (rowsP H ps xs).p w F1 → (H p x).p w F2 → (∀ b, F1 b → ¬ F2 b) → (∀ b, F b ↔ F1 b ∨ F2 b) → (rowsP H (ps ++ [p]) (xs ++ [x])).p w F
  | [], [], p, x, F1, F2, F, h1, h2, _, h4 => ⟨F2, F1, h2, h1, fun b _ hb1 => h1 b hb1, fun b => by rw [h4 b]; exact ⟨fun h => h.symm, fun h => h.symm⟩⟩
  | s' :: ss, x' :: xs, p, x, F1, F2, F, h1, h2, h3, h4 => by
    obtain ⟨G1, G2, g1, g2, g3, g4⟩ := h1
    refine ⟨G1, fun b => G2 b ∨ F2 b, g1, rowsP_snoc g2 h2 (fun b hb => h3 b ((g4 b).2 (.inr hb))) (fun b => Iff.rfl), fun b hb => ?_, fun b => ?_⟩
    · rintro (hh | hh)
      · exact g3 b hb hh
      · exact h3 b ((g4 b).2 (.inl hb)) hh
    · rw [h4 b, g4 b, or_assoc]
  | [], _ :: _, _, _, _, _, _, h, _, _, _ => h.1.elim
  | _ :: _, [], _, _, _, _, _, h, _, _, _ => h.1.elim
theorem St.rowsPAdd {ps : List κ} {xs : List α} {p : κ} {x : α} (hs : St w0 A (rowsP H ps xs :: H p x :: L) w) : St w0 A (rowsP H (ps ++ [p]) (xs ++ [x]) :: L) w := by
  refine (St.join hs).turn fun F hF => ?_
  obtain ⟨F1, F2, h1, h2, h3, h4⟩ := hF
  exact ⟨F, rowsP_snoc h1 h2 h3 h4, fun b hb => .inl hb, Chg.refl _ _⟩
theorem St.unfocus' {ps : List κ} {xs : List α} {i : Nat} {p : κ} {x : α} (hs : St w0 A (H p x :: rowsX H ps xs i :: L) w) (hi : i < xs.length) (hl : ps.length = xs.length) : St w0 A (rowsP H (ps.set i p) (xs.set i x) :: L) w :=
  (St.join hs).turn fun F hF => ⟨F, rowsP_put hi hl hF, fun b hb => .inl hb, Chg.refl _ _⟩
theorem St.rowsErase {ps : List κ} {xs : List α} {i : Nat} (hs : St w0 A (rowsX H ps xs i :: L) w) : St w0 A (rowsP H (ps.eraseIdx i) (xs.eraseIdx i) :: L) w := by
  rw [List.eraseIdx_eq_take_drop_succ, List.eraseIdx_eq_take_drop_succ]
  exact hs.turn fun F hF => ⟨F, rowsP_app hF, fun b hb => .inl hb, Chg.refl _ _⟩
/-- What holds of one of them, as it is read. -/
theorem St.rowP {ps : List κ} {xs : List α} {i : Nat} {p : κ} {x : α} {Φ : World → Prop} (hs : St w0 A (rowsP H ps xs :: L) w) (hp : ps[i]? = some p) (hx : xs[i]? = some x) (h : ∀ {w F}, (H p x).p w F → Φ w) : Φ w := by
  obtain ⟨F, hF, _⟩ := (hs.focus hp hx).head; exact h hF
end
end Go.Fw
