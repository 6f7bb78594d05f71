/-
  What was stored last: a range over a function.
-/
import Derived.Test.YtmjijnkndgjdfaaC3
import Derived.Test.YtmjijnkndgjdfaaFw13
namespace Go.Proofs.Ytmjijnkndgjdfaa
open Go.Fw

/-- What was stored last to a cell. -/
def lastO (l : List Entry) (c : Int) : Option Int := (l.reverse.find? fun x => decide (x.kind = 3 ∧ x.cell = c)).map (·.n)

theorem C38 (y sv : Value) (b : Nat) (xs : List Entry) (J : Nat → World → Prop) (Jx : World → Prop) (w : World) (hn : xs.length ≤ 1073741824)
    (hJ : ∀ k W, J k W → Cell W b 0 sv ∧ RdL (fun _ => True) W sv xs) (h0 : J 0 w)
    (hy : ∀ k x W, xs.reverse[k]? = some x → J k W → CallV Try.prog y [.int .i64 ((xs.length : Int) - 1 - k), Flat.val x] W (fun v W' => (v = .bool true ∧ J (k + 1) W') ∨ (v = .bool false ∧ Jx W'))) :
    Calls Try.prog 38 [y, .pointer (some ⟨b, 0, none⟩)].toArray w (Ret fun _ W => J xs.length W ∨ Jx W) := by
  refine S38_ok _ _ _ _ ?_
  unfold S38
  refine qop_cell ty27 (hJ 0 w h0).1 ?_
  refine pop_len sl27 (hJ 0 w h0).2 ?_
  refine pop_sub (by omega) ?_
  refine ⟨fun m x w1 => ∃ k : Nat, x = .int .i64 ((xs.length : Int) - 1 - k) ∧ m = xs.length - k ∧ k ≤ xs.length ∧ J k w1, ⟨_, 0, by simp, rfl, Nat.zero_le _, h0⟩, ?_⟩
  rintro m _ w1 ⟨k, rfl, rfl, hk, hj⟩ dd1
  refine pop_geq ?_
  refine cond_d (fun c => ?_) (fun c => ?_)
  · obtain ⟨h1, h2⟩ := hJ k w1 hj
    have hlt : k < xs.length := by omega
    have hx : xs.reverse[k]? = some (xs[xs.length - 1 - k]'(by omega)) := by rw [List.getElem?_reverse hlt, List.getElem?_eq_getElem]
    refine qop_cell ty27 h1 ?_
    refine pop_idx sl27 h2 (by omega) (x := xs[xs.length - 1 - k]'(by omega)) (by rw [List.getElem?_eq_getElem (by omega)]; congr 2; omega) (fun q hq => ?_)
    refine qop_at ty23 hq ?_
    obtain hcv := hy k _ w1 hx hj
    refine CallV.mono hcv ?_
    rintro v w2 (⟨rfl, hj2⟩ | ⟨rfl, hx2⟩)
    · refine pop_not ?_
      refine cond_f ?_
      refine pop_sub (by omega) ?_
      exact ⟨xs.length - (k + 1), by omega, k + 1, by congr 1; omega, rfl, by omega, hj2⟩
    · refine pop_not ?_
      refine cond_t ?_
      exact .inr hx2
  · have : k = xs.length := by omega
    subst this
    exact .inl hj

theorem C35 (sv : Value) (w : World) (h1 : oneC sv = true) : Calls Try.prog 35 [sv].toArray w (Ret fun v w' => ∃ b, v = .func (.func 38) [].toArray [.pointer (some ⟨b, 0, none⟩)].toArray ∧ New (blk b [sv]) w w') := by
  have hs := St.start w
  refine S35_ok _ _ _ ?_
  unfold S35
  refine eop_box1 hs h1 (fun b w1 hs => ?_)
  exact ⟨b, rfl, hs.fresh⟩

theorem find_snoc {α : Type} {p : α → Bool} {l : List α} {k : Nat} {x : α} (hno : ∀ y ∈ l.take k, p y = false) (hx : l[k]? = some x) (hp : p x = true) : l.find? p = some x := by
  rw [List.find?_eq_some_iff_getElem]
  have hk := (List.getElem?_eq_some_iff.1 hx)
  obtain ⟨hlt, he⟩ := hk
  refine ⟨hp, k, hlt, he, fun j hj => ?_⟩
  have := hno (l[j]'(by omega)) (List.mem_take_iff_getElem.2 ⟨j, by omega, rfl⟩)
  simp [this]

theorem C20 (p : Nat) (c room : Int) (l : List Entry) (w : World) (hb : BufR w p room l) (hn : l.length ≤ 1048576) :
    Calls Try.prog 20 [.pointer (some ⟨p, 0, none⟩), .int .i64 c].toArray w (Ret fun v w' => v = .tuple #[.int .i64 ((lastO l c).getD 0), .bool (lastO l c).isSome] ∧ Ext w w') := by
  obtain ⟨sv, hc0, hc1, hL⟩ := hb
  have hs := St.start w
  refine S20_ok _ _ _ _ ?_
  unfold S20
  refine eop_box1 hs rfl (fun b3 w1 hs => ?_)
  refine eop_alloc1 hs zero3 rfl (fun b4 w2 hs => ?_)
  refine eop_alloc1 hs zero4 rfl (fun b5 w3 hs => ?_)
  refine pop_nil ?_
  refine pop_field fld60_1 ?_
  refine qop_cell ty27 (hc1.ext hs.chg) ?_
  refine callF pl35 (C35 sv _ hL.one) ?_
  rintro _ w4 ⟨b, rfl, hnew⟩
  replace hs := hs.made hnew
  refine range_st (cap := [.pointer (some ⟨b, 0, none⟩)]) (xs := (List.range l.length).map fun (k : Nat) => [Value.int .i64 ((l.length : Int) - 1 - k), Flat.val ((l.reverse[k]?).getD ⟨0, 0, 0, 0⟩)]) pl38 hs
    (fun k M => M = [blk b [sv], blk b5 [.bool false], blk b4 [.int .i64 0], blk b3 [.int .i64 c]] ∧ ∀ y ∈ l.reverse.take k, decide (y.kind = 3 ∧ y.cell = c) = false)
    (fun cd M => cd = .ret ∧ ∃ x, lastO l c = some x ∧ M = [blk b5 [.bool true], blk b4 [.int .i64 x]])
    ⟨rfl, by simp⟩ (by simp) ?_ ?_ ?_ ?_ ?_ ?_
  · -- the iterator
    intro y J Jx W hJ hJe hJ0 hy
    refine (C38 y sv b l J Jx W (by omega) (fun k W hk => ?_) hJ0 (fun k x W hx hk => ?_)).mono fun _ _ r => r.mono fun v W' h => ?_
    · obtain ⟨Y, M, ⟨rfl, _⟩, hS⟩ := hJ k W hk
      exact ⟨hS.p1.hb.cell rfl, hL.ext hS.chg⟩
    · have hlt := (List.getElem?_eq_some_iff.1 hx).1
      rw [List.length_reverse] at hlt
      have := hy k [Value.int .i64 ((l.length : Int) - 1 - k), Flat.val x] W (by rw [List.getElem?_map, List.getElem?_range hlt]; simp [hx]) hk
      exact this
    · simpa using h
  · -- a round
    rintro k args Y1 Y2 B Kr M W hk ⟨rfl, hno⟩ hB hN hR hs
    have hlt : k < l.length := by
      have := (List.getElem?_eq_some_iff.1 hk).1
      simpa using this
    obtain ⟨x, hx⟩ : ∃ x, l.reverse[k]? = some x := ⟨_, List.getElem?_eq_getElem (by simpa using hlt)⟩
    have ha : args = [Value.int .i64 ((l.length : Int) - 1 - k), Flat.val x] := by
      rw [List.getElem?_map, List.getElem?_range hlt] at hk
      simp [hx] at hk
      exact hk.symm
    subst ha
    dsimp only [nthV]
    refine eop_allocA hs zero23 (fun b7 w6 hs => ?_)
    refine uop_blkA hs ty23 rfl (by decide) (by simp [oneC, setAll]) (fun w7 hs => ?_)
    refine hB _ _ _ hs.p1 (fun w8 hs => ?_)
    have e7 : setAll [Value.int IntKind.i64 0, .int .i64 0, .int .i64 0, .int .i64 0] 0 [Value.int .i64 x.kind, .int .i64 x.line, .int .i64 x.cell, .int .i64 x.n] = Flat.enc x := rfl
    refine ⟨_, ?_, fun _ _ h => h⟩
    refine pop_field fld23_0 ?_
    refine qop_blk ty3 hs.p1.hb rfl ?_
    refine pop_eql ?_
    have no : ¬ (x.kind = 3 ∧ x.cell = c) → Kr none w8 := fun hh => by
      refine hN _ _ (hs.p1.drop.p0) ⟨rfl, ?_⟩
      exact take_all hno hx (by simpa using hh)
    refine cond_d (fun c1 => ?_) (fun c1 => ?_)
    · refine pop_field fld23_2 ?_
      refine qop_blk ty3 hs.p1.hb rfl ?_
      refine qop_blk ty3 hs.p5.hb rfl ?_
      refine pop_eql ?_
      intro dd1
      refine cond_d (fun c2 => ?_) (fun c2 => no fun hh => c2 hh.2)
      refine pop_field fld23_3 ?_
      refine qop_blk ty3 hs.p1.hb rfl ?_
      refine uop_blk hs.p4 ty3 (Nat.le_of_ble_eq_true rfl) rfl (fun w10 hs => ?_)
      refine uop_blk hs.p4 ty4 (Nat.le_of_ble_eq_true rfl) rfl (fun w11 hs => ?_)
      refine hR _ [blk b5 [.bool true], blk b4 [.int .i64 x.n]] _ ?_ ⟨rfl, x.n, ?_, rfl⟩
      · exact (hs.p5.drop.p4.drop.p3.drop).p2
      · unfold lastO
        rw [find_snoc hno hx (by simpa using ⟨c1, c2⟩)]; rfl
    · intro dd1
      exact cond_f (no fun hh => c1 hh.1)
  · -- none
    rintro D M W ⟨rfl, hno⟩ hs
    refine uop_blk hs.p3 ty3 (Nat.le_of_ble_eq_true rfl) rfl (fun w13 hs => ?_)
    refine uop_blk hs.p3 ty4 (Nat.le_of_ble_eq_true rfl) rfl (fun w14 hs => ?_)
    refine take1 hs.p2 (fun w15 hs => ?_)
    refine qop_blk ty3 hs.p1.hb rfl ?_
    refine qop_blk ty4 hs.hb rfl ?_
    have : lastO l c = none := by
      unfold lastO
      rw [show l.reverse.find? _ = none from List.find?_eq_none.2 fun y hy => by
        have := hno y (by rw [List.take_of_length_le (by simp)]; exact hy)
        simp only [this]; exact Bool.false_ne_true]
      rfl
    rw [this]
    exact ⟨rfl, hs.chg⟩
  · rintro D M W ⟨_, x, hl, rfl⟩ hs
    refine take1 hs (fun w15 hs => ?_)
    refine qop_blk ty3 hs.p1.hb rfl ?_
    refine qop_blk ty4 hs.hb rfl ?_
    rw [hl]
    exact ⟨rfl, hs.chg⟩
  · rintro id D M W ⟨h, _⟩; cases h
  · rintro c M ⟨h, _⟩; exact .inr h

end Go.Proofs.Ytmjijnkndgjdfaa
