/-
  A new buffer, a copy; the reference's buffer; whether two lists are the same.
-/
import Derived.Test.YtmjijnkndgjdfaaC4
namespace Go.Proofs.Ytmjijnkndgjdfaa
open Go.Fw

theorem eraseIdx_cut {α : Type} (l : List α) (i : Nat) : ([] ++ l.take i) ++ l.drop (i + 1) = l.eraseIdx i := by
  rw [List.eraseIdx_eq_take_drop_succ, List.nil_append]
theorem take_eq_snoc {α : Type} {xs ys : List α} {k : Nat} {e f : α} (h : xs.take k = ys.take k) (h1 : xs[k]? = some e) (h2 : ys[k]? = some f) (he : e = f) : xs.take (k + 1) = ys.take (k + 1) := by
  rw [List.take_add_one, List.take_add_one, h, h1, h2, he]
theorem ne_of_get {α : Type} {xs ys : List α} {k : Nat} {e f : α} (h1 : xs[k]? = some e) (h2 : ys[k]? = some f) (he : ¬ e = f) : ¬ xs = ys := by
  rintro rfl; rw [h1] at h2; exact he (Option.some.inj h2)
theorem lastO_from {l : List Entry} {c : Int} {k : Nat} {x : Entry} (hno : ∀ y ∈ l.drop (k + 1), ¬ (y.kind = 3 ∧ y.cell = c)) (hx : l[k]? = some x) (hp : x.kind = 3 ∧ x.cell = c) : lastO l c = some x.n := by
  unfold lastO
  have hlt := (List.getElem?_eq_some_iff.1 hx).1
  rw [find_snoc (k := l.length - 1 - k) (x := x) ?_ ?_ (by simpa using hp)]
  · rfl
  · intro y hy
    have : y ∈ l.drop (k + 1) := by
      rw [List.take_reverse] at hy
      rw [show l.length - (l.length - 1 - k) = k + 1 from by omega] at hy
      simpa using hy
    simpa using hno y this
  · rw [List.getElem?_reverse (by omega), show l.length - 1 - (l.length - 1 - k) = k from by omega]; exact hx
theorem lastO_none {l : List Entry} {c : Int} (hno : ∀ y ∈ l, ¬ (y.kind = 3 ∧ y.cell = c)) : lastO l c = none := by
  unfold lastO
  rw [List.find?_eq_none.2 fun y hy => by have := hno y (by simpa using hy); simpa using this]; rfl
theorem drop_no {l : List Entry} {c : Int} {k : Nat} {x : Entry} (hno : ∀ y ∈ l.drop (k + 1), ¬ (y.kind = 3 ∧ y.cell = c)) (hx : l[k]? = some x) (hp : ¬ (x.kind = 3 ∧ x.cell = c)) : ∀ y ∈ l.drop k, ¬ (y.kind = 3 ∧ y.cell = c) := by
  intro y hy
  obtain ⟨hlt, he⟩ := List.getElem?_eq_some_iff.1 hx
  rw [List.drop_eq_getElem_cons hlt] at hy
  rcases List.mem_cons.1 hy with rfl | hy
  · rw [he]; exact hp
  · exact hno y hy
theorem canB_no {l : List Entry} {i : Int} {k : Nat} {x y : Entry} (h0 : 0 ≤ i) (h1 : i < l.length) (hx : l[i.toNat]? = some x) (hk : k < i.toNat) (hy : l[k]? = some y) (hp : passes x y = false) : canB l i = false := by
  rw [canB_in h0 h1 hx]
  have : (l.take i.toNat).any (fun y => !passes x y) = true := by
    rw [List.any_eq_true]
    exact ⟨y, List.mem_iff_getElem?.2 ⟨k, by rw [List.getElem?_take, if_pos hk]; exact hy⟩, by rw [hp]; rfl⟩
  rw [this]; rfl
theorem canB_yes {l : List Entry} {i : Int} {x : Entry} (h0 : 0 ≤ i) (h1 : i < l.length) (hx : l[i.toNat]? = some x) (hp : ∀ y ∈ l.take i.toNat, passes x y = true) : canB l i = true := by
  rw [canB_in h0 h1 hx]
  have : (l.take i.toNat).any (fun y => !passes x y) = false := by
    rw [List.any_eq_false]; intro y hy; rw [hp y hy]; simp
  rw [this]; rfl

theorem C14 (room : Int) (w : World)  : Calls Try.prog 14 [.int .i64 room].toArray w (Ret fun v w' => ((room < 1 ∨ 16 < room) ∧ v = .tuple #[.pointer none, .int .i64 1] ∧ Ext w w') ∨ (1 ≤ room ∧ room ≤ 16 ∧ ∃ b, v = .tuple #[.pointer (some ⟨b, 0, none⟩), .int .i64 0] ∧ New (bufO b room []) w w')) := by
  have hs := St.start w
  refine S14_ok _ _ _ ?_
  unfold S14
  refine ⟨_, ?_, fun _ _ h => h⟩
  refine pop_lss ?_
  refine cond_d (fun c_x5 => ?_) (fun c_x5 => ?_)
  · skip
    intro dd1
    refine cond_t ?_
    exact .inl ⟨by omega, rfl, hs.chg⟩
  · skip
    refine pop_gtr ?_
    intro dd1
    refine cond_d (fun c_x9 => ?_) (fun c_x9 => ?_)
    · skip
      exact .inl ⟨by omega, rfl, hs.chg⟩
    · skip
      refine pop (bld60_0 _ ) ?_
      refine eop_boxA hs (fun b w2 hs => ?_)
      replace hs := (hs.ownNil (α := Entry)).p1
      exact .inr ⟨by omega, by omega, b, rfl, (bufO.shut hs).fresh⟩

theorem C22 (room : Int) (w : World)  : Calls Try.prog 22 [.int .i64 room].toArray w (Ret fun v w' => ((room < 1 ∨ 16 < room) ∧ v = .tuple #[.pointer none, .int .i64 1] ∧ Ext w w') ∨ (1 ≤ room ∧ room ≤ 16 ∧ ∃ b, v = .tuple #[.pointer (some ⟨b, 0, none⟩), .int .i64 0] ∧ New (bufO b room []) w w')) := by
  have hs := St.start w
  refine S22_ok _ _ _ ?_
  unfold S22
  refine ⟨_, ?_, fun _ _ h => h⟩
  refine pop_lss ?_
  refine cond_d (fun c_x5 => ?_) (fun c_x5 => ?_)
  · skip
    intro dd1
    refine cond_t ?_
    exact .inl ⟨by omega, rfl, hs.chg⟩
  · skip
    refine pop_gtr ?_
    intro dd1
    refine cond_d (fun c_x9 => ?_) (fun c_x9 => ?_)
    · skip
      exact .inl ⟨by omega, rfl, hs.chg⟩
    · skip
      refine pop (bld55_0 _ ) ?_
      refine eop_boxA hs (fun b w2 hs => ?_)
      replace hs := (hs.ownNil (α := Entry)).p1
      exact .inr ⟨by omega, by omega, b, rfl, (bufO.shut hs).fresh⟩

theorem C25 (p : Nat) (room : Int) (l : List Entry) (w : World) (hb : BufR w p room l) (hn : l.length ≤ 1048576) : Calls Try.prog 25 [.pointer (some ⟨p, 0, none⟩)].toArray w (Ret fun v w' => ∃ b, v = .pointer (some ⟨b, 0, none⟩) ∧ New (bufO b room l) w w') := by
  have hb0 := hb
  obtain ⟨sv, hc0, hc1, hL⟩ := hb
  have hs := St.start w
  refine S25_ok _ _ _ ?_
  unfold S25
  refine pop_nil ?_
  refine pop_field fld60_0 ?_
  replace hs := hs.drew
  refine qop_cell ty3 (hc0.ext hs.chg) ?_
  refine callF pl18 (C18 _ _ _ _ (hb0.ext hs.chg) (by omega)) ?_
  rintro _ w1 hnew
  replace hs := hs.made hnew
  refine ⟨run_loadOne ty3 (hc0.ext hs.chg), ?_⟩
  obtain ⟨a8, c8, e8, _⟩ := (hs).rd'
  subst e8
  refine pop (bld60_0_1 _  _ _ _ ) ?_
  refine eop_boxA hs (fun b w2 hs => ?_)
  exact ⟨b, rfl, (bufO.shut hs).fresh⟩

theorem C28 (av bv : Value) (xs ys : List Entry) (w : World) (hA : RdL (fun _ => True) w av xs) (hB : RdL (fun _ => True) w bv ys) (hn : xs.length ≤ 1073741824) : Calls Try.prog 28 [av, bv].toArray w (Ret fun v w' => v = .bool (decide (xs = ys)) ∧ Ext w w') := by
  have hs := St.start w
  refine S28_ok _ _ _ _ ?_
  unfold S28
  refine pop_len sl27 (hA.ext hs.chg) ?_
  refine pop_len sl27 (hB.ext hs.chg) ?_
  refine pop_neq ?_
  refine cond_d (fun c_x10 => ?_) (fun c_x10 => ?_)
  · skip
    exact ⟨congrArg Value.bool (decide_eq_false (by rintro rfl; omega)).symm, hs.chg⟩
  · skip
    refine ⟨fun m x w1 => ∃ k : Nat, x = .int .i64 (k : Int) ∧ m = xs.length - k ∧ k ≤ xs.length ∧ xs.take k = ys.take k ∧ St w none1 [] w1, ⟨_, 0, rfl, rfl, Nat.zero_le _, rfl, hs⟩, ?_⟩
    rintro m _ w1 ⟨k, rfl, rfl, hk, hsame, hs⟩ dd1
    refine pop_len sl27 (hA.ext hs.chg) ?_
    refine pop_lss ?_
    refine cond_d (fun c_x14 => ?_) (fun c_x14 => ?_)
    · skip
      obtain ⟨e_x19, he_x19⟩ : ∃ x, (xs)[((k : Int)).toNat]? = some x := ⟨_, List.getElem?_eq_getElem (by omega)⟩
      refine pop_idx sl27 (hA.ext hs.chg) (by omega) he_x19 (fun q_x19 h_x19 => ?_)
      replace hs := hs.drew
      refine qop_at ty23 (h_x19) ?_
      obtain ⟨e_x23, he_x23⟩ : ∃ x, (ys)[((k : Int)).toNat]? = some x := ⟨_, List.getElem?_eq_getElem (by omega)⟩
      refine pop_idx sl27 (hB.ext hs.chg) (by omega) he_x23 (fun q_x23 h_x23 => ?_)
      refine qop_at ty23 (h_x23) ?_
      refine pop_stneD eqf23 rfl rfl (eqE e_x19 e_x23) ?_
      refine cond_d (fun c_x25 => ?_) (fun c_x25 => ?_)
      · skip
        exact ⟨congrArg Value.bool (decide_eq_false (ne_of_get he_x19 he_x23 c_x25)).symm, hs.chg⟩
      · skip
        refine pop_add (by omega) ?_
        exact ⟨xs.length - (k + 1), by omega, k + 1, rfl, rfl, by omega, take_eq_snoc hsame he_x19 he_x23 (Decidable.not_not.1 c_x25), hs⟩
    · skip
      exact ⟨congrArg Value.bool (decide_eq_true (by rw [List.take_of_length_le (by omega), List.take_of_length_le (by omega)] at hsame; exact hsame)).symm, hs.chg⟩

theorem C29 (av bv : Value) (xs ys : List Int) (w : World) (hA : RdL (fun _ => True) w av xs) (hB : RdL (fun _ => True) w bv ys) (hn : xs.length ≤ 1073741824) : Calls Try.prog 29 [av, bv].toArray w (Ret fun v w' => v = .bool (decide (xs = ys)) ∧ Ext w w') := by
  have hs := St.start w
  refine S29_ok _ _ _ _ ?_
  unfold S29
  refine pop_len sl28 (hA.ext hs.chg) ?_
  refine pop_len sl28 (hB.ext hs.chg) ?_
  refine pop_neq ?_
  refine cond_d (fun c_x10 => ?_) (fun c_x10 => ?_)
  · skip
    exact ⟨congrArg Value.bool (decide_eq_false (by rintro rfl; omega)).symm, hs.chg⟩
  · skip
    refine ⟨fun m x w1 => ∃ k : Nat, x = .int .i64 (k : Int) ∧ m = xs.length - k ∧ k ≤ xs.length ∧ xs.take k = ys.take k ∧ St w none1 [] w1, ⟨_, 0, rfl, rfl, Nat.zero_le _, rfl, hs⟩, ?_⟩
    rintro m _ w1 ⟨k, rfl, rfl, hk, hsame, hs⟩ dd1
    refine pop_len sl28 (hA.ext hs.chg) ?_
    refine pop_lss ?_
    refine cond_d (fun c_x14 => ?_) (fun c_x14 => ?_)
    · skip
      obtain ⟨e_x19, he_x19⟩ : ∃ x, (xs)[((k : Int)).toNat]? = some x := ⟨_, List.getElem?_eq_getElem (by omega)⟩
      refine pop_idx sl28 (hA.ext hs.chg) (by omega) he_x19 (fun q_x19 h_x19 => ?_)
      replace hs := hs.drew
      refine qop_at ty3 (h_x19) ?_
      obtain ⟨e_x23, he_x23⟩ : ∃ x, (ys)[((k : Int)).toNat]? = some x := ⟨_, List.getElem?_eq_getElem (by omega)⟩
      refine pop_idx sl28 (hB.ext hs.chg) (by omega) he_x23 (fun q_x23 h_x23 => ?_)
      refine qop_at ty3 (h_x23) ?_
      refine pop_neq ?_
      refine cond_d (fun c_x25 => ?_) (fun c_x25 => ?_)
      · skip
        exact ⟨congrArg Value.bool (decide_eq_false (ne_of_get he_x19 he_x23 c_x25)).symm, hs.chg⟩
      · skip
        refine pop_add (by omega) ?_
        exact ⟨xs.length - (k + 1), by omega, k + 1, rfl, rfl, by omega, take_eq_snoc hsame he_x19 he_x23 (Decidable.not_not.1 c_x25), hs⟩
    · skip
      exact ⟨congrArg Value.bool (decide_eq_true (by rw [List.take_of_length_le (by omega), List.take_of_length_le (by omega)] at hsame; exact hsame)).symm, hs.chg⟩

theorem C27 (p : Nat) (c room : Int) (l : List Entry) (w : World) (hb : BufR w p room l) (hn : l.length ≤ 1073741824) : Calls Try.prog 27 [.pointer (some ⟨p, 0, none⟩), .int .i64 c].toArray w (Ret fun v w' => v = .tuple #[.int .i64 ((lastO l c).getD 0), .bool (lastO l c).isSome] ∧ Ext w w') := by
  obtain ⟨sv, hc0, hc1, hL⟩ := hb
  have hs := St.start w
  refine S27_ok _ _ _ _ ?_
  unfold S27
  refine pop_nil ?_
  refine pop_field fld55_1 ?_
  refine qop_cell ty27 (hc1.ext hs.chg) ?_
  refine pop_len sl27 (hL.ext hs.chg) ?_
  refine pop_sub (by omega) ?_
  refine ⟨fun m x w1 => ∃ k : Nat, x = .int .i64 ((k : Int) - 1) ∧ m = k ∧ k ≤ l.length ∧ (∀ y ∈ l.drop k, ¬ (y.kind = 3 ∧ y.cell = c)) ∧ St w none1 [] w1, ⟨_, l.length, rfl, rfl, Nat.le_refl _, by simp, hs⟩, ?_⟩
  rintro k _ w1 ⟨_, rfl, rfl, hk, hno, hs⟩ dd1
  refine pop_geq ?_
  refine cond_d (fun c_x14 => ?_) (fun c_x14 => ?_)
  · skip
    refine ⟨_, ?_, fun _ _ h => h⟩
    refine pop_nil ?_
    refine pop_field fld55_1 ?_
    refine qop_cell ty27 (hc1.ext hs.chg) ?_
    obtain ⟨e_x22, he_x22⟩ : ∃ x, (l)[(((k : Int) - 1)).toNat]? = some x := ⟨_, List.getElem?_eq_getElem (by omega)⟩
    refine pop_idx sl27 (hL.ext hs.chg) (by omega) he_x22 (fun q_x22 h_x22 => ?_)
    refine pop_atf (e_x22).kind fld23_0 h_x22 rfl rfl (fun q_x23 h_x23 => ?_)
    refine qop_at ty3 (h_x23) ?_
    refine pop_eql ?_
    refine cond_d (fun c_x25 => ?_) (fun c_x25 => ?_)
    · skip
      refine pop_nil ?_
      refine pop_field fld55_1 ?_
      refine qop_cell ty27 (hc1.ext hs.chg) ?_
      refine pop_idx sl27 (hL.ext hs.chg) (by omega) he_x22 (fun q_x32 h_x32 => ?_)
      refine pop_atf (e_x22).cell fld23_2 h_x32 rfl rfl (fun q_x33 h_x33 => ?_)
      refine qop_at ty3 (h_x33) ?_
      refine pop_eql ?_
      intro dd2
      refine cond_d (fun c_x37 => ?_) (fun c_x37 => ?_)
      · skip
        refine pop_nil ?_
        refine pop_field fld55_1 ?_
        refine qop_cell ty27 (hc1.ext hs.chg) ?_
        refine pop_idx sl27 (hL.ext hs.chg) (by omega) he_x22 (fun q_x43 h_x43 => ?_)
        refine pop_atf (e_x22).n fld23_3 h_x43 rfl rfl (fun q_x44 h_x44 => ?_)
        refine qop_at ty3 (h_x44) ?_
        rw [lastO_from (k := k - 1) (x := e_x22) (by rw [show k - 1 + 1 = k from by omega]; exact hno) (by rw [← he_x22]; congr 1; omega) ⟨c_x25, c_x37⟩]
        exact ⟨rfl, hs.chg⟩
      · skip
        refine pop_sub (by omega) ?_
        exact ⟨k - 1, by omega, k - 1, by congr 1; omega, rfl, by omega, drop_no (x := e_x22) (by rw [show k - 1 + 1 = k from by omega]; exact hno) (by rw [← he_x22]; congr 1; omega) (fun hh => c_x37 hh.2), hs⟩
    · skip
      intro dd2
      refine cond_f ?_
      refine pop_sub (by omega) ?_
      exact ⟨k - 1, by omega, k - 1, by congr 1; omega, rfl, by omega, drop_no (x := e_x22) (by rw [show k - 1 + 1 = k from by omega]; exact hno) (by rw [← he_x22]; congr 1; omega) (fun hh => c_x25 hh.1), hs⟩
  · skip
    rw [lastO_none (by rw [show k = 0 from by omega] at hno; simpa using hno)]
    exact ⟨rfl, hs.chg⟩

theorem C32 (p : Nat) (i room : Int) (l : List Entry) (w : World) (hb : BufR w p room l) (hn : l.length ≤ 1073741824) : Calls Try.prog 32 [.pointer (some ⟨p, 0, none⟩), .int .i64 i].toArray w (Ret fun v w' => v = .bool (canB l i) ∧ Ext w w') := by
  obtain ⟨sv, hc0, hc1, hL⟩ := hb
  have hs := St.start w
  refine S32_ok _ _ _ _ ?_
  unfold S32
  refine ⟨_, ?_, fun _ _ h => h⟩
  refine pop_lss ?_
  refine cond_d (fun c_x7 => ?_) (fun c_x7 => ?_)
  · skip
    intro dd1
    refine cond_t ?_
    exact ⟨congrArg Value.bool (canB_out (by omega)).symm, hs.chg⟩
  · skip
    refine pop_nil ?_
    refine pop_field fld55_1 ?_
    refine qop_cell ty27 (hc1.ext hs.chg) ?_
    refine pop_len sl27 (hL.ext hs.chg) ?_
    refine pop_geq ?_
    intro dd1
    refine cond_d (fun c_x16 => ?_) (fun c_x16 => ?_)
    · skip
      exact ⟨congrArg Value.bool (canB_out (by omega)).symm, hs.chg⟩
    · skip
      refine ⟨fun m x w1 => ∃ k : Nat, x = .int .i64 (k : Int) ∧ m = i.toNat - k ∧ (k : Int) ≤ i ∧ (∀ x y, l[i.toNat]? = some x → y ∈ l.take k → passes x y = true) ∧ St w none1 [] w1, ⟨_, 0, rfl, rfl, by omega, by simp, hs⟩, ?_⟩
      rintro m _ w1 ⟨k, rfl, rfl, hk, hok, hs⟩ dd2
      refine pop_lss ?_
      refine cond_d (fun c_x19 => ?_) (fun c_x19 => ?_)
      · skip
        refine pop_nil ?_
        refine pop_field fld55_1 ?_
        replace hs := hs.drew
        refine qop_cell ty27 (hc1.ext hs.chg) ?_
        obtain ⟨e_x27, he_x27⟩ : ∃ x, (l)[(i).toNat]? = some x := ⟨_, List.getElem?_eq_getElem (by omega)⟩
        refine pop_idx sl27 (hL.ext hs.chg) (by omega) he_x27 (fun q_x27 h_x27 => ?_)
        refine qop_at ty23 (h_x27) ?_
        refine pop_nil ?_
        refine pop_field fld55_1 ?_
        refine qop_cell ty27 (hc1.ext hs.chg) ?_
        obtain ⟨e_x34, he_x34⟩ : ∃ x, (l)[((k : Int)).toNat]? = some x := ⟨_, List.getElem?_eq_getElem (by omega)⟩
        refine pop_idx sl27 (hL.ext hs.chg) (by omega) he_x34 (fun q_x34 h_x34 => ?_)
        refine qop_at ty23 (h_x34) ?_
        refine callF pl10 (C10 _ _ _) ?_
        rintro _ w3 ⟨rfl, he⟩
        replace hs := hs.ext he
        refine pop_not ?_
        refine cond_b (fun c_x37 => ?_) (fun c_x37 => ?_)
        · skip
          exact ⟨congrArg Value.bool (canB_no (by omega) (by omega) he_x27 (by omega) he_x34 (by simpa using c_x37)).symm, hs.chg⟩
        · skip
          refine pop_add (by omega) ?_
          refine ⟨i.toNat - (k + 1), by omega, k + 1, rfl, rfl, by omega, fun x y hx hy => ?_, hs⟩
          rw [Option.some.inj (hx.symm.trans he_x27)] at *
          exact take_all (φ := fun y => passes e_x27 y = true) (fun y hy => hok _ y hx hy) he_x34 (by simpa using c_x37) y hy
      · skip
        refine ⟨congrArg Value.bool (canB_yes (x := l[i.toNat]'(by omega)) (by omega) (by omega) (List.getElem?_eq_getElem _) fun y hy => hok _ y (List.getElem?_eq_getElem _) (by rw [show k = i.toNat from by omega]; exact hy)).symm, hs.chg⟩

theorem C30 (p : Nat) (room : Int) (l : List Entry) (w : World) (hb : BufR w p room l) (hn : l.length ≤ 1048576) : Calls Try.prog 30 [.pointer (some ⟨p, 0, none⟩)].toArray w (Ret fun v w' => New (ownL v (cansL l)) w w') := by
  have hb0 := hb
  obtain ⟨sv, hc0, hc1, hL⟩ := hb
  have hs := St.start w
  refine S30_ok _ _ _ ?_
  unfold S30
  refine eop_build (([] : List Int)) hs sl28 rfl rfl (Nat.le_of_ble_eq_true rfl) (fun s_x5 w1 hs => ?_)
  refine ⟨fun m o x w1 => ∃ k : Nat, x = .int .i64 (k : Int) ∧ m = l.length - k ∧ k ≤ l.length ∧ St w none1 [ownL o (cansTo l k)] w1, ⟨_, 0, rfl, rfl, Nat.zero_le _, hs⟩, ?_⟩
  rintro m o _ w1 ⟨k, rfl, rfl, hk, hs⟩ dd1
  have hcl := cansTo_le l k
  refine pop_nil ?_
  refine pop_field fld55_1 ?_
  refine qop_cell ty27 (hc1.ext hs.chg) ?_
  refine pop_len sl27 (hL.ext hs.chg) ?_
  refine pop_lss ?_
  refine cond_d (fun c_x12 => ?_) (fun c_x12 => ?_)
  · skip
    refine ⟨_, ?_, fun _ _ h => h⟩
    refine callF pl32 (C32 _ _ _ _ _ (hb0.ext hs.chg) (by omega)) ?_
    rintro _ w3 ⟨rfl, he⟩
    replace hs := hs.ext he
    refine cond_b (fun c_x17 => ?_) (fun c_x17 => ?_)
    · skip
      refine eop_build ([(k : Int)]) hs sl28 rfl rfl (Nat.le_of_ble_eq_true rfl) (fun s_x20 w4 hs => ?_)
      have hr_x21 := (hs).rd'
      refine eop_append hs.p1 sl28 hr_x21 (by simp; omega) (by decide) (fun s_x21 w5 hs => ?_)
      replace hs := hs.p1.drop
      intro dd2
      refine pop_add (by omega) ?_
      exact ⟨l.length - (k + 1), by omega, k + 1, rfl, rfl, by omega, by rw [cansTo_yes c_x17]; exact hs⟩
    · skip
      intro dd2
      refine pop_add (by omega) ?_
      exact ⟨l.length - (k + 1), by omega, k + 1, rfl, rfl, by omega, by rw [cansTo_no c_x17]; exact hs⟩
  · skip
    rw [cansTo_all l (by omega)] at hs
    exact hs.fresh

theorem C23 (p : Nat) (room : Int) (l : List Entry) (x : Entry) (F : Nat → Prop) (w : World) (hF : (bufO p room l).p w F) (hn : l.length ≤ 1048576) : Calls Try.prog 23 [.pointer (some ⟨p, 0, none⟩), Flat.val x].toArray w (Ret fun v w' => v = .int .i64 (putE room l x) ∧ Mut F (bufO p room (putL room l x)) w w') := by
  have hs := St.begin hF
  obtain ⟨sv, hs⟩ := hs.openEx
  replace hs := hs.split
  refine S23_ok _ _ _ _ ?_
  unfold S23
  refine eop_boxV hs (fun b_x3 w1 hs => ?_)
  refine qop_at ty23 hs.At ?_
  refine callF pl12 (C12 _ _) ?_
  rintro _ w2 ⟨rfl, he⟩
  replace hs := hs.ext he
  refine pop_not ?_
  refine cond_b (fun c_x7 => ?_) (fun c_x7 => ?_)
  · skip
    replace hs := hs.p2
    replace hs := hs.p2
    rw [putE_bad (by simpa using c_x7), putL_bad (by simpa using c_x7)]
    exact ⟨rfl, (bufO.shut hs).mut⟩
  · skip
    refine pop_nil ?_
    refine pop_field fld55_1 ?_
    replace hs := hs.drew
    refine qop_blk ty27 hs.p1.hb rfl ?_
    refine pop_len sl27 (hs.p2).rd' ?_
    refine pop_nil ?_
    refine pop_field fld55_0 ?_
    refine qop_blk ty3 hs.p1.hb rfl ?_
    refine pop_geq ?_
    refine cond_d (fun c_x17 => ?_) (fun c_x17 => ?_)
    · skip
      replace hs := hs.p2
      replace hs := hs.p2
      rw [putE_full (by simpa using c_x7) c_x17, putL_full c_x17]
      exact ⟨rfl, (bufO.shut hs).mut⟩
    · skip
      refine pop_nil ?_
      refine pop_field fld55_1 ?_
      replace hs := hs.drew
      refine qop_blk ty27 hs.p1.hb rfl ?_
      refine qop_at ty23 hs.At ?_
      refine eop_build ([x]) hs sl27 rfl rfl (Nat.le_of_ble_eq_true rfl) (fun s_x24 w3 hs => ?_)
      refine ⟨run_loadOne ty27 (hs.p2.hb.cell rfl), ?_⟩
      have hr_x25 := (hs).rd'
      refine eop_append hs.p3 sl27 hr_x25 (by simp; omega) (by decide) (fun s_x25 w4 hs => ?_)
      replace hs := hs.p1.drop
      refine pop_nil ?_
      refine pop_field fld55_1 ?_
      refine uop_blk hs.p2 ty27 (Nat.le_of_ble_eq_true rfl) ((hs).rd'.one) (fun w5 hs => ?_)
      replace hs := hs.p1
      replace hs := hs.p1
      rw [putE_ok (by simpa using c_x7) c_x17, putL_ok (by simpa using c_x7) c_x17]
      exact ⟨rfl, (bufO.shut hs).mut⟩

theorem C24 (p : Nat) (room : Int) (l : List Entry) (i : Int) (F : Nat → Prop) (w : World) (hF : (bufO p room l).p w F) (hn : l.length ≤ 1048576) : Calls Try.prog 24 [.pointer (some ⟨p, 0, none⟩), .int .i64 i].toArray w (Ret fun v w' => v = .tuple #[Flat.val (takeX l i), .int .i64 (takeE l i)] ∧ Mut F (bufO p room (takeL l i)) w w') := by
  have hs := St.begin hF
  obtain ⟨sv, hs⟩ := hs.openEx
  replace hs := hs.split
  refine S24_ok _ _ _ _ ?_
  unfold S24
  refine eop_allocA hs zero23 (fun b_x4 w1 hs => ?_)
  refine ⟨_, ?_, fun _ _ h => h⟩
  refine pop_lss ?_
  refine cond_d (fun c_x9 => ?_) (fun c_x9 => ?_)
  · skip
    intro dd1
    refine cond_t ?_
    refine pop (bld23_) ?_
    refine uop_blkV (x := (⟨0, 0, 0, 0⟩ : Entry)) hs ty23 rfl rfl (fun w3 hs => ?_)
    refine qop_at ty23 hs.At ?_
    replace hs := hs.p2
    replace hs := hs.p2
    rw [takeX_bad (canB_out (by omega)), takeE_bad (by omega), takeL_bad (canB_out (by omega))]
    exact ⟨rfl, (bufO.shut hs).mut⟩
  · skip
    refine pop_nil ?_
    refine pop_field fld55_1 ?_
    refine qop_blk ty27 hs.p1.hb rfl ?_
    refine pop_len sl27 (hs.p2).rd' ?_
    refine pop_geq ?_
    intro dd1
    refine cond_d (fun c_x18 => ?_) (fun c_x18 => ?_)
    · skip
      refine pop (bld23_) ?_
      refine uop_blkV (x := (⟨0, 0, 0, 0⟩ : Entry)) hs ty23 rfl rfl (fun w3 hs => ?_)
      refine qop_at ty23 hs.At ?_
      replace hs := hs.p2
      replace hs := hs.p2
      rw [takeX_bad (canB_out (by omega)), takeE_bad (by omega), takeL_bad (canB_out (by omega))]
      exact ⟨rfl, (bufO.shut hs).mut⟩
    · skip
      refine callF pl32 (C32 _ _ _ _ _ (BufR.mk' hs.p1.hb hs.p2.rd') (by omega)) ?_
      rintro _ w4 ⟨rfl, he⟩
      replace hs := hs.ext he
      refine pop_not ?_
      refine cond_b (fun c_x23 => ?_) (fun c_x23 => ?_)
      · skip
        refine pop (bld23_) ?_
        refine uop_blkV (x := (⟨0, 0, 0, 0⟩ : Entry)) hs ty23 rfl rfl (fun w5 hs => ?_)
        refine qop_at ty23 hs.At ?_
        replace hs := hs.p2
        replace hs := hs.p2
        rw [takeX_bad (by simpa using c_x23), takeE_no (by omega) (by simpa using c_x23), takeL_bad (by simpa using c_x23)]
        exact ⟨rfl, (bufO.shut hs).mut⟩
      · skip
        refine pop_nil ?_
        refine pop_field fld55_1 ?_
        refine qop_blk ty27 hs.p1.hb rfl ?_
        obtain ⟨e_x30, he_x30⟩ : ∃ x, (l)[(i).toNat]? = some x := ⟨_, List.getElem?_eq_getElem (by omega)⟩
        refine pop_own hs.p2 sl27 (by omega) (by omega) (fun q_x30 h_x30 => ?_)
        refine qop_own hs.p2 ty23 h_x30 he_x30 ?_
        refine eop_allocA hs zero23 (fun b_x6 w6 hs => ?_)
        refine uop_blkV (x := e_x30) hs ty23 rfl rfl (fun w7 hs => ?_)
        refine eop_build (([] : List Entry)) hs sl27 rfl rfl (Nat.le_of_ble_eq_true rfl) (fun s_x32 w8 hs => ?_)
        refine pop_nil ?_
        refine pop_field fld55_1 ?_
        refine qop_blk ty27 hs.p3.hb rfl ?_
        refine pop_cutHi sl27 (hs.p4).rd' (by omega) (by omega) (fun s_x38 h_x38 => ?_)
        have hr_x39 := h_x38
        refine eop_append hs sl27 hr_x39 (by simp; omega) (by decide) (fun s_x39 w9 hs => ?_)
        refine pop_nil ?_
        refine pop_field fld55_1 ?_
        refine qop_blk ty27 hs.p3.hb rfl ?_
        refine pop_add (by omega) ?_
        refine pop_cutLo sl27 (hs.p4).rd' (by omega) (by omega) (fun s_x47 h_x47 => ?_)
        have hr_x48 := h_x47
        refine eop_append hs sl27 hr_x48 (by simp; omega) (by decide) (fun s_x48 w10 hs => ?_)
        refine pop_nil ?_
        refine pop_field fld55_1 ?_
        refine uop_blk hs.p3 ty27 (Nat.le_of_ble_eq_true rfl) ((hs).rd'.one) (fun w11 hs => ?_)
        refine qop_at ty23 hs.p2.At ?_
        refine uop_blkV (x := e_x30) hs.p3 ty23 rfl rfl (fun w12 hs => ?_)
        refine qop_at ty23 hs.At ?_
        replace hs := hs.p2
        replace hs := hs.p2
        rw [takeX_ok (by simpa using c_x23) he_x30, takeE_ok (by simpa using c_x23), takeL_ok (by simpa using c_x23), ← eraseIdx_cut, ← show (i + 1).toNat = i.toNat + 1 from by omega]
        exact ⟨rfl, (bufO.shut hs).mut⟩

end Go.Proofs.Ytmjijnkndgjdfaa
