/-
  Lists of picks and events, one against another one.
-/
import Derived.Test.YtddeoncipdpkfaaGreatDoorZA1
import Derived.KernelRfl
set_option linter.all false
namespace Go.Proofs.YtddeoncipdpkfaaGreatDoor
open Go.Fw

set_option maxRecDepth 100000
theorem take_snoc {α : Type} {l : List α} {k : Nat} {e : α} (h : l[k]? = some e) : l.take k ++ [e] = l.take (k + 1) := by rw [List.take_add_one, h]; rfl
theorem take_snoc_eq {α : Type} {xs ys : List α} {k : Nat} {x y : α} (h : xs.take k = ys.take k) (hx : xs[k]? = some x) (hy : ys[k]? = some y) (e : x = y) : xs.take (k + 1) = ys.take (k + 1) := by
  rw [← take_snoc hx, ← take_snoc hy, h, e]
theorem ne_at {α : Type} {xs ys : List α} {k : Nat} {x y : α} (hx : xs[k]? = some x) (hy : ys[k]? = some y) (e : x ≠ y) : xs ≠ ys := fun h => by
  rw [h, hy] at hx; exact e (Option.some.inj hx).symm
theorem pick_eq {x y : TPick} : x = y ↔ x.kind = y.kind ∧ x.t = y.t ∧ x.i = y.i ∧ x.cut = y.cut := by
  cases x; cases y; simp
theorem ev_eq (x y : TEvent) : eqAll (Flat.enc x) (Flat.enc y) = decide (x = y) := by
  obtain ⟨a, b, c, d, e⟩ := x
  obtain ⟨a2, b2, c2, d2, e2⟩ := y
  simp [Flat.enc, eqAll, eqV, Bool.eq_iff_iff]
/-- What goes on sleeping, of the first k. -/
def slTo {α : Type} (l : List α) (v : List TEvent) (d : TEvent) (of : List Int) (st : Int) (k : Nat) : List (α × TEvent) := ((l.zip v).take k).filter fun q => !depB of st q.2 d
section
variable {α β : Type} {l : List α} {v : List TEvent} {d : TEvent} {of : List Int} {st : Int} {k : Nat} {p : α} {e : TEvent}
theorem zip_at (hp : l[k]? = some p) (he : v[k]? = some e) : (l.zip v)[k]? = some (p, e) := by
  rw [List.getElem?_zip_eq_some]; exact ⟨hp, he⟩
theorem slTo_yes (hp : l[k]? = some p) (he : v[k]? = some e) (h : (!depB of st e d) = true) : slTo l v d of st (k + 1) = slTo l v d of st k ++ [(p, e)] := by
  unfold slTo; rw [← take_snoc (zip_at hp he), List.filter_append, List.filter_cons_of_pos (p := fun q : α × TEvent => !depB of st q.2 d) (a := (p, e)) (l := []) h]; rfl
theorem slTo_no (hp : l[k]? = some p) (he : v[k]? = some e) (h : ¬ (!depB of st e d) = true) : slTo l v d of st (k + 1) = slTo l v d of st k := by
  unfold slTo; rw [← take_snoc (zip_at hp he), List.filter_append, List.filter_cons_of_neg (p := fun q : α × TEvent => !depB of st q.2 d) (a := (p, e)) (l := []) h]; simp
theorem slTo_len : (slTo l v d of st k).length ≤ k := Nat.le_trans (List.length_filter_le _ _) (by rw [List.length_take]; omega)
/-- The first parts; the second ones. -/
def slF (l : List α) (v : List TEvent) (d : TEvent) (of : List Int) (st : Int) (k : Nat) : List α := (slTo l v d of st k).map (·.1)
def slS (l : List α) (v : List TEvent) (d : TEvent) (of : List Int) (st : Int) (k : Nat) : List TEvent := (slTo l v d of st k).map (·.2)
theorem slF_yes (hp : l[k]? = some p) (he : v[k]? = some e) (h : (!depB of st e d) = true) : slF l v d of st (k + 1) = slF l v d of st k ++ [p] := by unfold slF; rw [slTo_yes hp he h]; simp
theorem slS_yes (hp : l[k]? = some p) (he : v[k]? = some e) (h : (!depB of st e d) = true) : slS l v d of st (k + 1) = slS l v d of st k ++ [e] := by unfold slS; rw [slTo_yes hp he h]; simp
theorem slF_no (hp : l[k]? = some p) (he : v[k]? = some e) (h : ¬ (!depB of st e d) = true) : slF l v d of st (k + 1) = slF l v d of st k := by unfold slF; rw [slTo_no hp he h]
theorem slS_no (hp : l[k]? = some p) (he : v[k]? = some e) (h : ¬ (!depB of st e d) = true) : slS l v d of st (k + 1) = slS l v d of st k := by unfold slS; rw [slTo_no hp he h]
theorem slF_len : (slF l v d of st k).length ≤ k := by unfold slF; rw [List.length_map]; exact slTo_len
theorem slS_len : (slS l v d of st k).length ≤ k := by unfold slS; rw [List.length_map]; exact slTo_len
end
/-- How many are gone over. -/
def slN {α : Type} (l : List α) (v : List TEvent) : Nat := if l.length = v.length then l.length else 0
theorem drs_slF {ts : List TPickV} {l : List TPick} {v : List TEvent} {d : TEvent} {of : List Int} {st : Int} {w : World} (h : drs ts l w) (hn : l.length = v.length) : ∀ k, k ≤ l.length → drs (slF ts v d of st k) (slF l v d of st k) w
  | 0, _ => by unfold slF slTo; simp; exact drs.nil
  | k + 1, hk => by
    obtain ⟨t, ht⟩ : ∃ t, ts[k]? = some t := ⟨_, List.getElem?_eq_getElem (by have := h.1; omega)⟩
    obtain ⟨x, hx⟩ : ∃ x, l[k]? = some x := ⟨_, List.getElem?_eq_getElem (by omega)⟩
    obtain ⟨e, he⟩ : ∃ e, v[k]? = some e := ⟨_, List.getElem?_eq_getElem (by omega)⟩
    have ih := drs_slF (d := d) (of := of) (st := st) h hn k (by omega)
    by_cases hd : (!depB of st e d) = true
    · rw [slF_yes ht he hd, slF_yes hx he hd]; exact ih.snoc (h.2 k t x ht hx)
    · rw [slF_no ht he hd, slF_no hx he hd]; exact ih

theorem C49 (av bv : Value) (xs ys : List Int) (w : World) (hA : RdL (fun _ => True) w av xs) (hB : RdL (fun _ => True) w bv ys) (hn : xs.length ≤ 17592186043904) : Calls Tryz.prog 49 [av, bv].toArray w (Ret fun v w' => v = .bool (decide (xs = ys)) ∧ Ext w w') := by
  have hs := St.start w
  refine S49_ok _ _ _ _ ?_
  unfold S49
  refine pop_len sl45 (hA.ext hs.chg) ?_
  refine pop_len sl45 (hB.ext hs.chg) ?_
  refine pop_neq ?_
  refine cond_d (fun c_x10 => ?_) (fun c_x10 => ?_)
  · skip
    exact ⟨congrArg Value.bool (decide_eq_false (fun h => by rw [h] at c_x10; exact absurd rfl c_x10)).symm, hs.chg⟩
  · skip
    refine ⟨fun mm i w' => ∃ k : Nat, i = .int .i64 (k : Int) ∧ mm = xs.length - k ∧ k ≤ xs.length ∧ xs.take k = ys.take k ∧ St w none1 [] w', ⟨_, 0, rfl, rfl, Nat.zero_le _, rfl, hs⟩, ?_⟩
    rintro mm _ w1 ⟨k, rfl, rfl, hk, heq, hs⟩ dd1
    refine pop_len sl45 (hA.ext hs.chg) ?_
    refine pop_lss ?_
    refine cond_d (fun c_x14 => ?_) (fun c_x14 => ?_)
    · skip
      obtain ⟨e_x19, he_x19⟩ := gx (xs) (i := ((k : Int)).toNat) (by omega)
      refine pop_idx sl45 hA (by omega) he_x19 (fun q_x19 h_x19 => ?_)
      replace hs := hs.drew
      refine qop_at ty3 (h_x19.ext hs.chg) ?_
      obtain ⟨e_x23, he_x23⟩ := gx (ys) (i := ((k : Int)).toNat) (by omega)
      refine pop_idx sl45 hB (by omega) he_x23 (fun q_x23 h_x23 => ?_)
      refine qop_at ty3 (h_x23.ext hs.chg) ?_
      refine pop_neq ?_
      refine cond_d (fun c_x25 => ?_) (fun c_x25 => ?_)
      · skip
        exact ⟨congrArg Value.bool (decide_eq_false (ne_at he_x19 he_x23 c_x25)).symm, hs.chg⟩
      · skip
        refine pop_add (by omega) ?_
        exact ⟨_, by omega, k + 1, rfl, rfl, by omega, take_snoc_eq heq he_x19 he_x23 (by omega), hs⟩
    · skip
      exact ⟨congrArg Value.bool (decide_eq_true (by rw [List.take_of_length_le (by omega), List.take_of_length_le (by omega)] at heq; exact heq)).symm, hs.chg⟩

theorem C23 (av bv : Value) (xs ys : List TEvent) (w : World) (hA : RdL (fun _ => True) w av xs) (hB : RdL (fun _ => True) w bv ys) (hn : xs.length ≤ 17592186043904) : Calls Tryz.prog 23 [av, bv].toArray w (Ret fun v w' => v = .bool (decide (xs = ys)) ∧ Ext w w') := by
  have hs := St.start w
  refine S23_ok _ _ _ _ ?_
  unfold S23
  refine pop_len sl69 (hA.ext hs.chg) ?_
  refine pop_len sl69 (hB.ext hs.chg) ?_
  refine pop_neq ?_
  refine cond_d (fun c_x10 => ?_) (fun c_x10 => ?_)
  · skip
    exact ⟨congrArg Value.bool (decide_eq_false (fun h => by rw [h] at c_x10; exact absurd rfl c_x10)).symm, hs.chg⟩
  · skip
    refine ⟨fun mm i w' => ∃ k : Nat, i = .int .i64 (k : Int) ∧ mm = xs.length - k ∧ k ≤ xs.length ∧ xs.take k = ys.take k ∧ St w none1 [] w', ⟨_, 0, rfl, rfl, Nat.zero_le _, rfl, hs⟩, ?_⟩
    rintro mm _ w1 ⟨k, rfl, rfl, hk, heq, hs⟩ dd1
    refine pop_len sl69 (hA.ext hs.chg) ?_
    refine pop_lss ?_
    refine cond_d (fun c_x14 => ?_) (fun c_x14 => ?_)
    · skip
      obtain ⟨e_x19, he_x19⟩ := gx (xs) (i := ((k : Int)).toNat) (by omega)
      refine pop_idx sl69 hA (by omega) he_x19 (fun q_x19 h_x19 => ?_)
      replace hs := hs.drew
      refine qop_at ty42 (h_x19.ext hs.chg) ?_
      obtain ⟨e_x23, he_x23⟩ := gx (ys) (i := ((k : Int)).toNat) (by omega)
      refine pop_idx sl69 hB (by omega) he_x23 (fun q_x23 h_x23 => ?_)
      refine qop_at ty42 (h_x23.ext hs.chg) ?_
      refine pop_stneD eqf42 rfl rfl (ev_eq _ _) ?_
      refine cond_d (fun c_x25 => ?_) (fun c_x25 => ?_)
      · skip
        exact ⟨congrArg Value.bool (decide_eq_false (ne_at he_x19 he_x23 (by simpa using c_x25))).symm, hs.chg⟩
      · skip
        refine pop_add (by omega) ?_
        exact ⟨_, by omega, k + 1, rfl, rfl, by omega, take_snoc_eq heq he_x19 he_x23 (by simpa using c_x25), hs⟩
    · skip
      exact ⟨congrArg Value.bool (decide_eq_true (by rw [List.take_of_length_le (by omega), List.take_of_length_le (by omega)] at heq; exact heq)).symm, hs.chg⟩

theorem C56 (sv : Value) (xs : List Int) (w : World) (hL : RdL (fun _ => True) w sv xs) (hn : xs.length ≤ 17592186043904) : Calls Tryz.prog 56 [sv].toArray w (Ret fun v w' => New (ownL v xs) w w') := by
  have hs := St.start w
  refine S56_ok _ _ _ ?_
  unfold S56
  refine pop_slnil Tryz.underlying45 (hL.ext hs.chg) (fun p hp => ?_)
  refine cond_b (fun c_x4 => ?_) (fun c_x4 => ?_)
  · skip
    have hx := hp c_x4
    subst hx
    exact (hs.ownNil (α := Int)).fresh
  · skip
    refine eop_build (([] : List Int)) hs sl45 rfl rfl (leb rfl) (fun s_x5 w1 hs => ?_)
    refine eop_appendB hs sl45 (hL.ext hs.chg) (by simp; omega) (by simp; omega) (fun s_x7 w2 hs => ?_)
    exact hs.fresh

theorem C22 (av bv : Value) (xs ys : List TPick) (w : World) (hA : DL w av xs) (hB : DL w bv ys) (hn : xs.length ≤ 1073741824) (hc : ∀ x ∈ xs, x.cut.length ≤ 17592186043904) : Calls Tryz.prog 22 [av, bv].toArray w (Ret fun v w' => v = .bool (decide (xs = ys)) ∧ Ext w w') := by
  have hs := St.start w
  refine S22_ok _ _ _ _ ?_
  unfold S22
  obtain ⟨ts1, hR1, hD1⟩ := (hA).open
  have hn1 := hD1.1
  refine pop_len sl58 (hR1.ext hs.chg) ?_
  obtain ⟨ts2, hR2, hD2⟩ := (hB).open
  have hn2 := hD2.1
  refine pop_len sl58 (hR2.ext hs.chg) ?_
  refine pop_neq ?_
  refine cond_d (fun c_x10 => ?_) (fun c_x10 => ?_)
  · skip
    exact ⟨congrArg Value.bool (decide_eq_false (fun h => by rw [h] at hn1; omega)).symm, hs.chg⟩
  · skip
    refine ⟨fun mm i w' => ∃ k : Nat, i = .int .i64 (k : Int) ∧ mm = xs.length - k ∧ k ≤ xs.length ∧ xs.take k = ys.take k ∧ St w none1 [] w', ⟨_, 0, rfl, rfl, Nat.zero_le _, rfl, hs⟩, ?_⟩
    rintro mm _ w1 ⟨k, rfl, rfl, hk, heq, hs⟩ dd1
    refine pop_len sl58 (hR1.ext hs.chg) ?_
    refine pop_lss ?_
    refine cond_d (fun c_x14 => ?_) (fun c_x14 => ?_)
    · skip
      obtain ⟨ra, hr_a⟩ : ∃ xx, xs[k]? = some xx := ⟨_, List.getElem?_eq_getElem (by omega)⟩
      obtain ⟨rb, hr_b⟩ : ∃ xx, ys[k]? = some xx := ⟨_, List.getElem?_eq_getElem (by omega)⟩
      refine ⟨fun jv w' => jv = .bool (!decide (ra = rb)) ∧ St w none1 [] w', ?_, ?_⟩
      · skip
        obtain ⟨e_x19, he_x19⟩ := gx ts1 (i := ((k : Int)).toNat) (by omega)
        obtain ⟨r_x19, hr_x19⟩ := gx (xs) (i := ((k : Int)).toNat) (by omega)
        obtain ⟨g_cut_x19, rfl, d_cut_x19⟩ := hD1.2 _ _ _ he_x19 hr_x19
        refine pop_idx sl58 hR1 (by omega) he_x19 (fun q_x19 h_x19 => ?_)
        refine pop_atf (r_x19).kind fld47_0 h_x19 rfl rfl (fun q_x20 h_x20 => ?_)
        replace hs := hs.drew
        refine qop_at ty3 (h_x20.ext hs.chg) ?_
        obtain ⟨e_x24, he_x24⟩ := gx ts2 (i := ((k : Int)).toNat) (by omega)
        obtain ⟨r_x24, hr_x24⟩ := gx (ys) (i := ((k : Int)).toNat) (by omega)
        obtain ⟨g_cut_x24, rfl, d_cut_x24⟩ := hD2.2 _ _ _ he_x24 hr_x24
        refine pop_idx sl58 hR2 (by omega) he_x24 (fun q_x24 h_x24 => ?_)
        refine pop_atf (r_x24).kind fld47_0 h_x24 rfl rfl (fun q_x25 h_x25 => ?_)
        refine qop_at ty3 (h_x25.ext hs.chg) ?_
        have hra : ra = r_x19 := Option.some.inj (hr_a.symm.trans hr_x19)
        have hrb : rb = r_x24 := Option.some.inj (hr_b.symm.trans hr_x24)
        have hcx := hc _ (List.mem_of_getElem? hr_x19)
        refine pop_neq ?_
        refine cond_d (fun c_x27 => ?_) (fun c_x27 => ?_)
        · skip
          exact ⟨congrArg Value.bool (by rw [hra, hrb]; rw [decide_eq_false (fun h => by rw [pick_eq] at h; omega)]; rfl), hs⟩
        · skip
          refine pop_idx sl58 hR1 (by omega) he_x19 (fun q_x31 h_x31 => ?_)
          refine pop_atf (r_x19).t fld47_1 h_x31 rfl rfl (fun q_x32 h_x32 => ?_)
          refine qop_at ty3 (h_x32.ext hs.chg) ?_
          refine pop_idx sl58 hR2 (by omega) he_x24 (fun q_x36 h_x36 => ?_)
          refine pop_atf (r_x24).t fld47_1 h_x36 rfl rfl (fun q_x37 h_x37 => ?_)
          refine qop_at ty3 (h_x37.ext hs.chg) ?_
          refine pop_neq ?_
          refine cond_d (fun c_x39 => ?_) (fun c_x39 => ?_)
          · skip
            exact ⟨congrArg Value.bool (by rw [hra, hrb]; rw [decide_eq_false (fun h => by rw [pick_eq] at h; omega)]; rfl), hs⟩
          · skip
            refine pop_idx sl58 hR1 (by omega) he_x19 (fun q_x44 h_x44 => ?_)
            refine pop_atf (r_x19).i fld47_2 h_x44 rfl rfl (fun q_x45 h_x45 => ?_)
            refine qop_at ty3 (h_x45.ext hs.chg) ?_
            refine pop_idx sl58 hR2 (by omega) he_x24 (fun q_x49 h_x49 => ?_)
            refine pop_atf (r_x24).i fld47_2 h_x49 rfl rfl (fun q_x50 h_x50 => ?_)
            refine qop_at ty3 (h_x50.ext hs.chg) ?_
            refine pop_neq ?_
            refine cond_d (fun c_x52 => ?_) (fun c_x52 => ?_)
            · skip
              exact ⟨congrArg Value.bool (by rw [hra, hrb]; rw [decide_eq_false (fun h => by rw [pick_eq] at h; omega)]; rfl), hs⟩
            · skip
              refine pop_idx sl58 hR1 (by omega) he_x19 (fun q_x57 h_x57 => ?_)
              refine pop_atf g_cut_x19 fld47_3 h_x57 rfl rfl (fun q_x58 h_x58 => ?_)
              refine qop_at ty45 (h_x58.ext hs.chg) ?_
              have hf3 := DL.flat (d_cut_x19)
              refine pop_idx sl58 hR2 (by omega) he_x24 (fun q_x62 h_x62 => ?_)
              refine pop_atf g_cut_x24 fld47_3 h_x62 rfl rfl (fun q_x63 h_x63 => ?_)
              refine qop_at ty45 (h_x63.ext hs.chg) ?_
              have hf4 := DL.flat (d_cut_x24)
              refine callP pl49 hs (C49 _ _ (r_x19).cut (r_x24).cut _ (hf3.ext hs.chg) (hf4.ext hs.chg) (hcx)) (fun w2 he hs => ?_)
              refine pop_not ?_
              exact ⟨congrArg Value.bool (by rw [hra, hrb]; exact congrArg (fun b => !b) (decide_eq_decide.2 (by rw [pick_eq]; exact ⟨fun h => ⟨by omega, by omega, by omega, h⟩, fun h => h.2.2.2⟩))), hs⟩
      · skip
        rintro _ w3 ⟨rfl, hs⟩ dd2
        refine cond_b (fun c_x67 => ?_) (fun c_x67 => ?_)
        · skip
          exact ⟨congrArg Value.bool (decide_eq_false (ne_at hr_a hr_b (by simpa using c_x67))).symm, hs.chg⟩
        · skip
          refine pop_add (by omega) ?_
          exact ⟨_, by omega, k + 1, rfl, rfl, by omega, take_snoc_eq heq hr_a hr_b (by simpa using c_x67), hs⟩
    · skip
      exact ⟨congrArg Value.bool (decide_eq_true (by rw [List.take_of_length_le (by omega), List.take_of_length_le (by omega)] at heq; exact heq)).symm, hs.chg⟩

end Go.Proofs.YtddeoncipdpkfaaGreatDoor
