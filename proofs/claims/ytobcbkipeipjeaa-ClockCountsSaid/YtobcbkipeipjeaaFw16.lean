/-
  Fields of owned things, and things within a box. Own work; nothing here is trusted.
-/
import Derived.Test.YtobcbkipeipjeaaFw15
namespace Go.Fw
section
variable {P : Program} {α : Type} [Flat α] {A : Nat → Prop} {w0 w : World} {L : List HP} {xs : List α}

/-- p is at a field of the thing i. -/
def OwnAtF (α : Type) [Flat α] (v : Value) (i off : Nat) (p : Value) : Prop := ∃ b n c, v = .slice (some ⟨b, 0, none⟩) n c ∧ p = .pointer (some ⟨b, i * Flat.sz α + off, none⟩)

theorem pop_ownf {T f off i : Nat} {v p : Value} {K : Value → Prop} (ht : FieldT P T f off) (h : OwnAt α v i p) (k : ∀ q, OwnAtF α v i off q → K q) : Pop P (Instr.fieldAt T p f) K := by
  obtain ⟨b, n, c, h1, rfl⟩ := h
  exact pop_field ht (k _ ⟨b, n, c, h1, rfl⟩)
theorem pop_ownff {T f off o i : Nat} {v p : Value} {K : Value → Prop} (ht : FieldT P T f off) (h : OwnAtF α v i o p) (k : ∀ q, OwnAtF α v i (o + off) q → K q) : Pop P (Instr.fieldAt T p f) K := by
  obtain ⟨b, n, c, h1, rfl⟩ := h
  exact pop_field ht (k _ ⟨b, n, c, h1, by rw [Nat.add_assoc]⟩)

theorem qop_ownf {β : Type} [Flat β] {T : Nat} {v p : Value} {i off : Nat} {x : α} (y : β) {K : Value → Prop} (hs : St w0 A (ownL v xs :: L) w) (ht : oneFact P T = some (Flat.agg β, Flat.sz β)) (hp : OwnAtF α v i off p) (hx : xs[i]? = some x)
    (hy : ((Flat.enc x).drop off).take (Flat.sz β) = Flat.enc y) (k : K (Flat.val y)) : Qop P (Instr.loadAt T p) w K := by
  obtain ⟨F, h, _⟩ := hs.head
  obtain ⟨b, cap, rest, hv, hb, hl, _⟩ := own_split h (List.getElem?_eq_some_iff.1 hx).1
  obtain ⟨b', n, c, hv', rfl⟩ := hp
  rw [hv] at hv'
  simp only [Value.slice.injEq, Option.some.injEq, Addr.mk.injEq] at hv'
  obtain ⟨⟨rfl, _, _⟩, _, _⟩ := hv'
  refine qop_at (S := fun _ => True) ht ⟨b, i * Flat.sz α + off, rfl, trivial, fun j c hj => hb.cell ?_⟩ k
  rw [← hy, List.getElem?_take] at hj
  split at hj
  · rw [List.getElem?_drop] at hj
    have := flat_get hx hj
    rw [Nat.add_assoc, List.getElem?_append_left (List.getElem?_eq_some_iff.1 this).1]; exact this
  · cases hj

theorem uop_ownf {β : Type} [Flat β] {T : Nat} {v p : Value} {i off : Nat} {K : World → Prop} {x : α} (y : α) (z : β) (hs : St w0 A (ownL v xs :: L) w) (ht : oneFact P T = some (Flat.agg β, Flat.sz β)) (hp : OwnAtF α v i off p) (hx : xs[i]? = some x)
    (hlen : off + Flat.sz β ≤ Flat.sz α) (hy : (Flat.enc x).take off ++ Flat.enc z ++ (Flat.enc x).drop (off + Flat.sz β) = Flat.enc y)
    (k : ∀ w', St w0 A (ownL v (xs.set i y) :: L) w' → K w') : Uop P (Instr.storeAt T p (Flat.val z)) w K := by
  obtain ⟨U, F, U', g1, g2, g3, g4, g5⟩ := hs.seps
  have hi := (List.getElem?_eq_some_iff.1 hx).1
  obtain ⟨b, cap, rest, hv, hb, hl, hF⟩ := own_split g1 hi
  obtain ⟨b', n, c, hv', rfl⟩ := hp
  rw [hv] at hv'
  simp only [Value.slice.injEq, Option.some.injEq, Addr.mk.injEq] at hv'
  obtain ⟨⟨rfl, _, _⟩, _, _⟩ := hv'
  have hsp := flat_split hx
  have htl : (flat (xs.take i)).length = i * Flat.sz α := by rw [flat_length, List.length_take, Nat.min_eq_left (by omega)]
  have hel : i * Flat.sz α + Flat.sz α ≤ (flat xs).length := by
    rw [flat_length, ← Nat.succ_mul]; exact Nat.mul_le_mul_right _ hi
  have hxl : (Flat.enc x).length = Flat.sz α := Flat.len x
  have hzl : (Flat.enc z).length = Flat.sz β := Flat.len z
  obtain ⟨w', h1, h2, h3⟩ := run_storeRow (P := P) (o := i * Flat.sz α + off) (Flat.enc z) 0 (flat xs ++ rest) w hb (by rw [hzl, List.length_append]; omega) (Flat.one z)
  have hset : setAll (flat xs ++ rest) (i * Flat.sz α + off + 0) (Flat.enc z) = flat (xs.set i y) ++ rest := by
    have := setAll_mid (flat (xs.take i) ++ (Flat.enc x).take off) (((Flat.enc x).drop off).take (Flat.sz β)) ((Flat.enc x).drop (off + Flat.sz β) ++ flat (xs.drop (i + 1)) ++ rest) (Flat.enc z)
      (by rw [hzl, List.length_take, List.length_drop]; omega)
    rw [List.length_append, htl, List.length_take, Nat.min_eq_left (by omega)] at this
    rw [Nat.add_zero, flat_set y hi, hsp, ← hy]
    have e1 : Flat.enc x = (Flat.enc x).take off ++ ((Flat.enc x).drop off).take (Flat.sz β) ++ (Flat.enc x).drop (off + Flat.sz β) := by
      rw [← List.drop_drop, List.append_assoc, List.take_append_drop, List.take_append_drop]
    have e2 : flat (xs.take i) ++ Flat.enc x ++ flat (xs.drop (i + 1)) ++ rest = flat (xs.take i) ++ (Flat.enc x).take off ++ ((Flat.enc x).drop off).take (Flat.sz β) ++ ((Flat.enc x).drop (off + Flat.sz β) ++ flat (xs.drop (i + 1)) ++ rest) := by
      conv => lhs; rw [e1]
      simp only [List.append_assoc]
    rw [e2, this]
    simp only [List.append_assoc]
  rw [hset] at h2
  refine ⟨w', ?_, k w' ⟨hs.chg.trans (h3.mono fun k hk => (hF k).2 hk) (fun _ h => h) fun b hb hf => (g2 b hf).elim id fun hh => by omega, U, F, U', ?_, g2, g3, g4,
    g5.loc fun b hb => (h3.mono fun k hk => (hF k).2 hk).blk b (g5.lt b hb) fun hf => g3 b hf hb⟩⟩
  · show (storeVar T ⟨b, i * Flat.sz α + off, none⟩ (Flat.val z)).run P w = _
    unfold storeVar
    rw [run_bind_ok (run_of_pr (oneFact_spec ht).2 w), val_cells]
    simp only [List.size_toArray, Flat.len, ne_eq, not_true_eq_false, if_false]
    exact h1
  · refine .inr ⟨b, cap, rest, by rw [List.length_set]; exact hv, h2, ?_, hF⟩
    rw [← hl, List.length_append, List.length_append, flat_length, flat_length, List.length_set]

/-- A thing within a box. -/
theorem qop_sub {T : Nat} {b o : Nat} {cs : List Value} (x : α) {K : Value → Prop} (ht : oneFact P T = some (Flat.agg α, Flat.sz α)) (hb : Blk w b cs) (hx : (cs.drop o).take (Flat.sz α) = Flat.enc x) (k : K (Flat.val x)) :
    Qop P (Instr.loadAt T (.pointer (some ⟨b, o, none⟩))) w K := by
  refine qop_at (S := fun _ => True) ht ⟨b, o, rfl, trivial, fun j c hj => hb.cell ?_⟩ k
  rw [← hx, List.getElem?_take] at hj
  split at hj
  · rw [List.getElem?_drop] at hj; exact hj
  · cases hj
end
end Go.Fw
