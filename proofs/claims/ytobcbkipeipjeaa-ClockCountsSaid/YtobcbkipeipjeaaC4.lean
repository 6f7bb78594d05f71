/-
  The document's clocks; races.
-/
import Derived.Test.YtobcbkipeipjeaaC3
namespace Go.Proofs.Ytobcbkipeipjeaa
open Go.Fw

theorem pop_seql_no {α : Type} [Flat α] {P : Program} {T e : Nat} {cx cy : Bool} {v : Value} {w : World} {S : Nat → Prop} {xs : List α} {K : Value → Prop} (h : P.underlying T = some (.slice e)) (hr : RdL S w v xs) (hn : 0 < xs.length) (k : K (.bool false)) :
    Pop P (binS .eql T cx cy v (.slice none 0 0)) K := by
  obtain ⟨a, c, rfl, _, h3⟩ := hr
  rcases h3 with ⟨h, _⟩ | ⟨b, o, rfl, _⟩
  · rw [h] at hn; cases hn
  · exact pop_seql h (fun h0 => by cases h0) k
def rcB_prog (D : Event → Event → Bool) (l : List Event) (c : List (List Int)) : Nat → Nat → Bool := rcB D l (clkB l c)

theorem C12 (sv ov : Value) (xs : List Event) (of : List Int) (stays : Int) (w : World) (hL : RdL (fun _ => True) w sv xs) (hO : RdL (fun _ => True) w ov of) (hn : xs.length ≤ 1000) : Calls Try.prog 12 [sv, ov, .int .i64 stays].toArray w (Ret fun v w' => New (ownLL v (if thr xs = 0 then [] else rclkTo (thr xs).toNat xs (hapTo (depB of stays) xs xs.length) xs.length)) w w') := by
  have htl := thr_le xs
  have hs := St.start w
  refine S12_ok _ _ _ _ _ ?_
  unfold S12
  refine callF pl19 (C19 _ xs _ (hL.ext hs.chg) (by omega)) ?_
  rintro _ w1 ⟨rfl, he⟩
  replace hs := hs.ext he
  refine eop_build (([] : List SV)) hs sl26 rfl rfl (Nat.le_of_ble_eq_true rfl) (fun s_x15 w2 hs => ?_)
  replace hs := (hs.rowsNil (α := Int)).p1
  refine pop_eql ?_
  refine cond_d (fun c_x17 => ?_) (fun c_x17 => ?_)
  · skip
    rw [if_pos c_x17]
    exact (ownLL.shut hs).fresh
  · skip
    refine callF pl26 (C26 _ _ _ _ _ _ (hL.ext hs.chg) (hO.ext hs.chg) (by omega)) ?_
    rintro x22 w3 hnew
    replace hs := hs.made hnew
    obtain ⟨ss_x22, hs⟩ := ownLL.open hs
    replace hs := hs.p1
    replace hs := hs.p1
    replace hs := hs.p3
    replace hs := hs.p3
    refine ⟨fun m y x w1 => ∃ (k : Nat) (ss : List SV), x = .int .i64 (k : Int) ∧ m = xs.length - k ∧ k ≤ xs.length ∧ St w none1 [ownL y ss, rows ss (rclkTo (thr xs).toNat xs (hapTo (depB of stays) xs xs.length) k), ownL x22 ss_x22, rows ss_x22 (hapTo (depB of stays) xs xs.length)] w1, ⟨_, 0, [], rfl, rfl, by omega, hs⟩, ?_⟩
    rintro m out8 _ w4 ⟨k, ss, rfl, rfl, hk, hs⟩ dd1
    refine pop_len sl22 (hL.ext hs.chg) ?_
    refine pop_lss ?_
    refine cond_d (fun c_x26 => ?_) (fun c_x26 => ?_)
    · skip
      refine eop_make (0 : Int) hs sl23 zero3 (by omega) (by omega) (by decide) (fun s_x30 w5 hs => ?_)
      replace hs := hs.p4
      replace hs := hs.p4
      replace hs := hs.p4
      replace hs := hs.p4
      replace hs := hs.p4
      refine ⟨fun m x w1 => ∃ i : Nat, x = .int .i64 (i : Int) ∧ m = k + 1 - i ∧ i ≤ k + 1 ∧ St w none1 [ownL s_x30 (cnt (thr xs).toNat xs (hapTo (depB of stays) xs xs.length) k i), ownL out8 ss, rows ss (rclkTo (thr xs).toNat xs (hapTo (depB of stays) xs xs.length) k), ownL x22 ss_x22, rows ss_x22 (hapTo (depB of stays) xs xs.length)] w1, ⟨_, 0, rfl, rfl, by omega, hs⟩, ?_⟩
      rintro m _ w6 ⟨i, rfl, rfl, hi, hs⟩ dd2
      refine pop_leq ?_
      refine cond_d (fun c_x33 => ?_) (fun c_x33 => ?_)
      · skip
        refine ⟨_, ?_, fun _ h => h⟩
        refine ⟨_, ?_, fun _ _ h => h⟩
        refine pop_eql ?_
        refine cond_d (fun c_x38 => ?_) (fun c_x38 => ?_)
        · skip
          intro dd3
          refine cond_t ?_
          obtain ⟨e_x51, he_x51⟩ : ∃ xx, (xs)[((i : Int)).toNat]? = some xx := ⟨_, List.getElem?_eq_getElem (by omega)⟩
          refine pop_idx sl22 (hL.ext hs.chg) (by omega) he_x51 (fun q_x51 h_x51 => ?_)
          refine pop_atf (e_x51).t fld40_1 h_x51 rfl rfl (fun q_x52 h_x52 => ?_)
          replace hs := hs.drew
          refine qop_at ty3 (h_x52) ?_
          refine pop_idx sl22 (hL.ext hs.chg) (by omega) he_x51 (fun q_x57 h_x57 => ?_)
          refine pop_atf (e_x51).t fld40_1 h_x57 rfl rfl (fun q_x58 h_x58 => ?_)
          refine qop_at ty3 (h_x58) ?_
          have hcl := cnt_len (n := (thr xs).toNat) (l := xs) (hapTo (depB of stays) xs xs.length) k i
          have htb := thr_bound c_x17 (List.mem_of_getElem? he_x51)
          obtain ⟨e_x60, he_x60⟩ : ∃ xx, ((cnt (thr xs).toNat xs (hapTo (depB of stays) xs xs.length) k i))[((e_x51).t).toNat]? = some xx := ⟨_, List.getElem?_eq_getElem (by omega)⟩
          refine pop_own hs sl23 (by omega) (by omega) (fun q_x60 h_x60 => ?_)
          refine qop_own hs ty3 h_x60 he_x60 ?_
          have hle := cnt_le (n := (thr xs).toNat) (l := xs) (hapTo (depB of stays) xs xs.length) k i _ (List.mem_of_getElem? he_x60)
          refine pop_add (by omega) ?_
          refine pop_own hs sl23 (by omega) (by omega) (fun q_x63 h_x63 => ?_)
          refine uop_own _ hs ty3 h_x63 (by omega) (fun w8 hs => ?_)
          intro dd4
          refine pop_add (by omega) ?_
          replace hs := hs.p4
          replace hs := hs.p4
          replace hs := hs.p4
          replace hs := hs.p4
          replace hs := hs.p4
          first | exact ⟨_, by omega, i + 1, rfl, rfl, by omega, by rw [cnt_yes (i := i) he_x51 (.inl (by omega)), bump_at he_x60]; exact hs⟩ | exact ⟨_, by omega, i + 1, rfl, rfl, by omega, by rw [cnt_yes (i := i) he_x51 (.inr ((hat_at (k := k) (i := i) hr_x42 he_x45).trans c_x47)), bump_at he_x60]; exact hs⟩
        · skip
          have hhl := hapTo_len (D := (depB of stays)) (l := xs) (k := xs.length) (by omega)
          have hn_x42 := hs.p4.rowsLen
          obtain ⟨e_x42, he_x42⟩ : ∃ xx, (ss_x22)[((k : Int)).toNat]? = some xx := ⟨_, List.getElem?_eq_getElem (by omega)⟩
          obtain ⟨r_x42, hr_x42⟩ : ∃ xx, ((hapTo (depB of stays) xs xs.length))[((k : Int)).toNat]? = some xx := ⟨_, List.getElem?_eq_getElem (by omega)⟩
          refine pop_own hs.p3 sl45 (by omega) (by omega) (fun q_x42 h_x42 => ?_)
          refine qop_own hs.p3 ty47 h_x42 he_x42 ?_
          have hrl := hapTo_row (D := (depB of stays)) (l := xs) xs.length _ (List.mem_of_getElem? hr_x42)
          obtain ⟨e_x45, he_x45⟩ : ∃ xx, (r_x42)[((i : Int)).toNat]? = some xx := ⟨_, List.getElem?_eq_getElem (by omega)⟩
          refine pop_idx sl47 (hs.p4.rowAt he_x42 hr_x42) (by omega) he_x45 (fun q_x45 h_x45 => ?_)
          refine qop_at ty4 (h_x45) ?_
          intro dd3
          refine cond_b (fun c_x47 => ?_) (fun c_x47 => ?_)
          · skip
            obtain ⟨e_x51, he_x51⟩ : ∃ xx, (xs)[((i : Int)).toNat]? = some xx := ⟨_, List.getElem?_eq_getElem (by omega)⟩
            refine pop_idx sl22 (hL.ext hs.chg) (by omega) he_x51 (fun q_x51 h_x51 => ?_)
            refine pop_atf (e_x51).t fld40_1 h_x51 rfl rfl (fun q_x52 h_x52 => ?_)
            replace hs := hs.drew
            refine qop_at ty3 (h_x52) ?_
            refine pop_idx sl22 (hL.ext hs.chg) (by omega) he_x51 (fun q_x57 h_x57 => ?_)
            refine pop_atf (e_x51).t fld40_1 h_x57 rfl rfl (fun q_x58 h_x58 => ?_)
            refine qop_at ty3 (h_x58) ?_
            have hcl := cnt_len (n := (thr xs).toNat) (l := xs) (hapTo (depB of stays) xs xs.length) k i
            have htb := thr_bound c_x17 (List.mem_of_getElem? he_x51)
            obtain ⟨e_x60, he_x60⟩ : ∃ xx, ((cnt (thr xs).toNat xs (hapTo (depB of stays) xs xs.length) k i))[((e_x51).t).toNat]? = some xx := ⟨_, List.getElem?_eq_getElem (by omega)⟩
            refine pop_own hs sl23 (by omega) (by omega) (fun q_x60 h_x60 => ?_)
            refine qop_own hs ty3 h_x60 he_x60 ?_
            have hle := cnt_le (n := (thr xs).toNat) (l := xs) (hapTo (depB of stays) xs xs.length) k i _ (List.mem_of_getElem? he_x60)
            refine pop_add (by omega) ?_
            refine pop_own hs sl23 (by omega) (by omega) (fun q_x63 h_x63 => ?_)
            refine uop_own _ hs ty3 h_x63 (by omega) (fun w8 hs => ?_)
            intro dd4
            refine pop_add (by omega) ?_
            replace hs := hs.p4
            replace hs := hs.p4
            replace hs := hs.p4
            replace hs := hs.p4
            replace hs := hs.p4
            first | exact ⟨_, by omega, i + 1, rfl, rfl, by omega, by rw [cnt_yes (i := i) he_x51 (.inl (by omega)), bump_at he_x60]; exact hs⟩ | exact ⟨_, by omega, i + 1, rfl, rfl, by omega, by rw [cnt_yes (i := i) he_x51 (.inr ((hat_at (k := k) (i := i) hr_x42 he_x45).trans c_x47)), bump_at he_x60]; exact hs⟩
          · skip
            intro dd4
            refine pop_add (by omega) ?_
            replace hs := hs.p4
            replace hs := hs.p4
            replace hs := hs.p4
            replace hs := hs.p4
            replace hs := hs.p4
            obtain ⟨e_i, he_i⟩ : ∃ xx, xs[i]? = some xx := ⟨_, List.getElem?_eq_getElem (by omega)⟩
            exact ⟨_, by omega, i + 1, rfl, rfl, by omega, by rw [cnt_no (i := i) he_i (fun hh => hh.elim (fun h => by omega) fun h => by rw [hat_at (k := k) (i := i) hr_x42 he_x45, c_x47] at h; cases h)]; exact hs⟩
      · skip
        obtain ⟨sv_x66, rfl⟩ := (hs).isSV
        refine eop_build ([sv_x66]) hs sl26 rfl rfl (Nat.le_of_ble_eq_true rfl) (fun s_x66 w10 hs => ?_)
        have hrc := rclkTo_len (n := (thr xs).toNat) (l := xs) (hapTo (depB of stays) xs xs.length) k
        have hr_x67 := (hs).rd'
        have hn_x67 := hs.p3.rowsLen
        refine eop_append hs.p2 sl26 hr_x67 (by simp <;> omega) (by decide) (fun s_x67 w11 hs => ?_)
        replace hs := hs.p1.drop
        replace hs := hs.p1
        replace hs := hs.p2
        replace hs := hs.rowAdd
        refine pop_add (by omega) ?_
        replace hs := hs.p3
        replace hs := hs.p3
        replace hs := hs.p2
        replace hs := hs.p3
        exact ⟨_, by omega, k + 1, _, rfl, rfl, by omega, by rw [show i = k + 1 from by omega] at hs; exact hs⟩
    · skip
      rw [if_neg c_x17]
      rw [show k = xs.length from by omega] at hs
      exact (ownLL.shut hs.p2.drop.p2.drop).fresh

theorem C14b (sv ov : Value) (xs : List Event) (of : List Int) (stays : Int) (w : World) (hL : RdL (fun _ => True) w sv xs) (hO : RdL (fun _ => True) w ov of) (hn : xs.length ≤ 1000) (h0 : ¬ thr xs = 0) : Calls Try.prog 14 [sv, ov, .int .i64 stays].toArray w (Ret fun v w' => New (ownL v (rto (rcB (depB of stays) xs (clkB xs (clkTo (depB of stays) (thr xs).toNat xs xs.length))) xs.length)) w w') := by
  have hs := St.start w
  refine S14_ok _ _ _ _ _ ?_
  unfold S14
  refine callF pl10 (C10 _ _ _ _ _ _ (hL.ext hs.chg) (hO.ext hs.chg) hn) ?_
  rintro x16 w1 hr
  rcases hr with ⟨h, _⟩ | ⟨_, hnew⟩
  · exact absurd h h0
  replace hs := hs.made hnew
  obtain ⟨ss_x16, hs⟩ := ownLL.open hs
  have hcln := hs.p1.rowsLen
  have hclk := clkTo_len (D := depB of stays) (n := (thr xs).toNat) (l := xs) (k := xs.length) (by omega)
  have hnz : 0 < xs.length := by
    rcases Nat.eq_zero_or_pos xs.length with h | h
    · rw [List.length_eq_zero_iff.1 h] at h0; exact absurd rfl h0
    · exact h
  refine pop_seql_no (slFact_spec sl26).1 hs.rd' (by omega) ?_
  refine cond_f ?_
  refine pop_len sl22 (hL.ext hs.chg) ?_
  refine ⟨fun m y x w1 => ∃ k : Nat, x = .int .i64 (k : Int) ∧ m = xs.length - k ∧ k ≤ xs.length ∧ St w none1 [ownL y (rto (rcB (depB of stays) xs (clkB xs (clkTo (depB of stays) (thr xs).toNat xs xs.length))) k), ownL x16 ss_x16, rows ss_x16 (clkTo (depB of stays) (thr xs).toNat xs xs.length)] w1, ⟨_, 0, rfl, rfl, by omega, hs.ownNil⟩, ?_⟩
  rintro m out8 _ w2 ⟨k, rfl, rfl, hk, hs⟩ dd1
  refine pop_lss ?_
  refine cond_d (fun c_x22 => ?_) (fun c_x22 => ?_)
  · skip
    refine ⟨fun m y x w1 => ∃ i : Nat, x = .int .i64 (i : Int) ∧ m = k - i ∧ i ≤ k ∧ St w none1 [ownL y (rto (rcB (depB of stays) xs (clkB xs (clkTo (depB of stays) (thr xs).toNat xs xs.length))) k ++ rrow (rcB (depB of stays) xs (clkB xs (clkTo (depB of stays) (thr xs).toNat xs xs.length))) k i), ownL x16 ss_x16, rows ss_x16 (clkTo (depB of stays) (thr xs).toNat xs xs.length)] w1, ⟨_, 0, rfl, rfl, by omega, by rw [rrow, List.append_nil]; exact hs⟩, ?_⟩
    rintro m out8_1 _ w3 ⟨i, rfl, rfl, hi, hs⟩ dd2
    refine pop_lss ?_
    refine cond_d (fun c_x26 => ?_) (fun c_x26 => ?_)
    · skip
      obtain ⟨e_i, he_i⟩ : ∃ xx, xs[((i : Int)).toNat]? = some xx := ⟨_, List.getElem?_eq_getElem (by omega)⟩
      obtain ⟨e_k, he_k⟩ : ∃ xx, xs[((k : Int)).toNat]? = some xx := ⟨_, List.getElem?_eq_getElem (by omega)⟩
      refine ⟨_, ?_, fun _ _ h => h⟩
      refine ⟨fun jv w' => jv = .bool (decide (e_i.t = e_k.t) || !depB of stays e_i e_k) ∧ St w none1 [ownL out8_1 (rto (rcB (depB of stays) xs (clkB xs (clkTo (depB of stays) (thr xs).toNat xs xs.length))) k ++ rrow (rcB (depB of stays) xs (clkB xs (clkTo (depB of stays) (thr xs).toNat xs xs.length))) k i), ownL x16 ss_x16, rows ss_x16 (clkTo (depB of stays) (thr xs).toNat xs xs.length)] w', ?_, ?_⟩
      · skip
        refine pop_idx sl22 (hL.ext hs.chg) (by omega) he_i (fun q_x30 h_x30 => ?_)
        refine pop_atf (e_i).t fld40_1 h_x30 rfl rfl (fun q_x31 h_x31 => ?_)
        replace hs := hs.drew
        refine qop_at ty3 (h_x31) ?_
        refine pop_idx sl22 (hL.ext hs.chg) (by omega) he_k (fun q_x35 h_x35 => ?_)
        refine pop_atf (e_k).t fld40_1 h_x35 rfl rfl (fun q_x36 h_x36 => ?_)
        refine qop_at ty3 (h_x36) ?_
        refine pop_eql ?_
        refine cond_d (fun c_x38 => ?_) (fun c_x38 => ?_)
        · skip
          exact ⟨congrArg Value.bool (by rw [decide_eq_true c_x38]; rfl), hs⟩
        · skip
          refine pop_idx sl22 (hL.ext hs.chg) (by omega) he_i (fun q_x42 h_x42 => ?_)
          refine qop_at ty40 (h_x42) ?_
          refine pop_idx sl22 (hL.ext hs.chg) (by omega) he_k (fun q_x46 h_x46 => ?_)
          refine qop_at ty40 (h_x46) ?_
          refine callF pl25 (C25 e_i e_k _ _ _ _ (hO.ext hs.chg)) ?_
          rintro _ w4 ⟨rfl, he⟩
          replace hs := hs.ext he
          refine pop_not ?_
          exact ⟨congrArg Value.bool (by rw [decide_eq_false c_x38]; rfl), hs⟩
      · skip
        rintro _ w5 ⟨rfl, hs⟩ dd3
        refine cond_b (fun c_x52 => ?_) (fun c_x52 => ?_)
        · skip
          intro dd6
          refine pop_add (by omega) ?_
          replace hs := hs.p2
          replace hs := hs.p2
          replace hs := hs.p2
          exact ⟨_, by omega, i + 1, rfl, rfl, by omega, by rw [rrow_no (c := (rcB (depB of stays) xs (clkB xs (clkTo (depB of stays) (thr xs).toNat xs xs.length)))) (i := i) (k := k) (by rw [rcB_at (i := i) (k := k) he_i he_k]; first | (rw [show j = k from by omega] at c_x76; simp_all) | (revert c_x52; cases depB of stays e_i e_k <;> cases hq : decide (e_i.t = e_k.t) <;> simp_all))]; exact hs⟩
        · skip
          refine pop_add (by omega) ?_
          refine ⟨fun m b x w1 => ∃ j : Nat, b = .bool (anyF ((clkB xs (clkTo (depB of stays) (thr xs).toNat xs xs.length)) i k) i j) ∧ x = .int .i64 (j : Int) ∧ m = k - j ∧ i < j ∧ j ≤ k ∧ St w none1 [ownL out8_1 (rto (rcB (depB of stays) xs (clkB xs (clkTo (depB of stays) (thr xs).toNat xs xs.length))) k ++ rrow (rcB (depB of stays) xs (clkB xs (clkTo (depB of stays) (thr xs).toNat xs xs.length))) k i), ownL x16 ss_x16, rows ss_x16 (clkTo (depB of stays) (thr xs).toNat xs xs.length)] w1, ⟨_, i + 1, by rw [anyF_start _ (Nat.le_refl _)], rfl, rfl, by omega, by omega, hs⟩, ?_⟩
          rintro m _ _ w6 ⟨j, rfl, rfl, rfl, hj0, hj, hs⟩ dd4
          refine pop_lss ?_
          refine cond_d (fun c_x57 => ?_) (fun c_x57 => ?_)
          · skip
            refine ⟨fun jv w' => jv = .bool (anyF ((clkB xs (clkTo (depB of stays) (thr xs).toNat xs xs.length)) i k) i (j + 1)) ∧ St w none1 [ownL out8_1 (rto (rcB (depB of stays) xs (clkB xs (clkTo (depB of stays) (thr xs).toNat xs xs.length))) k ++ rrow (rcB (depB of stays) xs (clkB xs (clkTo (depB of stays) (thr xs).toNat xs xs.length))) k i), ownL x16 ss_x16, rows ss_x16 (clkTo (depB of stays) (thr xs).toNat xs xs.length)] w', ?_, ?_⟩
            · skip
              refine cond_b (fun c_between11 => ?_) (fun c_between11 => ?_)
              · skip
                exact ⟨congrArg Value.bool (by rw [anyF_step (by omega), c_between11]; rfl), hs⟩
              · skip
                refine callF pl16 (C16 _ _ _ _ (i : Int) (j : Int) _ (hL.ext hs.chg) (RdLL.of hs.p1 hs.p2)) ?_
                rintro _ w7 ⟨rfl, he⟩
                replace hs := hs.ext he
                refine cond_b (fun c_x66 => ?_) (fun c_x66 => ?_)
                · skip
                  refine callF pl16 (C16 _ _ _ _ (j : Int) (k : Int) _ (hL.ext hs.chg) (RdLL.of hs.p1 hs.p2)) ?_
                  rintro _ w8 ⟨rfl, he⟩
                  replace hs := hs.ext he
                  exact ⟨congrArg Value.bool (by rw [anyF_step (by omega), c_between11, clkB, c_x66]; rfl), hs⟩
                · skip
                  exact ⟨congrArg Value.bool (by rw [anyF_step (by omega), c_between11, clkB, c_x66]; rfl), hs⟩
            · skip
              rintro _ w9 ⟨rfl, hs⟩ dd5
              refine pop_add (by omega) ?_
              exact ⟨_, by omega, j + 1, rfl, rfl, rfl, by omega, by omega, hs⟩
          · skip
            refine pop_not ?_
            refine cond_b (fun c_x76 => ?_) (fun c_x76 => ?_)
            · skip
              refine pop (bld43_0_1 _  _ ) ?_
              refine eop_build ([(⟨(i : Int), (k : Int)⟩ : Two)]) hs sl30 rfl rfl (Nat.le_of_ble_eq_true rfl) (fun s_x81 w10 hs => ?_)
              have hsm := rto_small (c := (rcB (depB of stays) xs (clkB xs (clkTo (depB of stays) (thr xs).toNat xs xs.length)))) (k := k) (m := xs.length) (by omega) hn
              have hsm2 := rrow_len (rcB (depB of stays) xs (clkB xs (clkTo (depB of stays) (thr xs).toNat xs xs.length))) k i
              have hr_x82 := (hs).rd'
              refine eop_append hs.p1 sl30 hr_x82 (by simp <;> omega) (by decide) (fun s_x82 w11 hs => ?_)
              replace hs := hs.p1.drop
              intro dd6
              refine pop_add (by omega) ?_
              replace hs := hs.p2
              replace hs := hs.p2
              replace hs := hs.p2
              exact ⟨_, by omega, i + 1, rfl, rfl, by omega, by rw [rrow_yes (c := (rcB (depB of stays) xs (clkB xs (clkTo (depB of stays) (thr xs).toNat xs xs.length)))) (i := i) (k := k) (by rw [rcB_at (i := i) (k := k) he_i he_k]; rw [show j = k from by omega] at c_x76; revert c_x52 c_x76; cases depB of stays e_i e_k <;> cases hq : decide (e_i.t = e_k.t) <;> simp_all), ← List.append_assoc]; exact hs⟩
            · skip
              intro dd6
              refine pop_add (by omega) ?_
              replace hs := hs.p2
              replace hs := hs.p2
              replace hs := hs.p2
              exact ⟨_, by omega, i + 1, rfl, rfl, by omega, by rw [rrow_no (c := (rcB (depB of stays) xs (clkB xs (clkTo (depB of stays) (thr xs).toNat xs xs.length)))) (i := i) (k := k) (by rw [rcB_at (i := i) (k := k) he_i he_k]; first | (rw [show j = k from by omega] at c_x76; simp_all) | (revert c_x52; cases depB of stays e_i e_k <;> cases hq : decide (e_i.t = e_k.t) <;> simp_all))]; exact hs⟩
    · skip
      refine pop_add (by omega) ?_
      exact ⟨_, by omega, k + 1, rfl, rfl, by omega, by rw [show i = k from by omega] at hs; exact hs⟩
  · skip
    rw [show k = xs.length from by omega] at hs
    exact hs.p1.drop.p1.drop.fresh

theorem C14a (sv ov : Value) (xs : List Event) (of : List Int) (stays : Int) (w : World) (hL : RdL (fun _ => True) w sv xs) (hO : RdL (fun _ => True) w ov of) (hn : xs.length ≤ 1000) (h0 : thr xs = 0) : Calls Try.prog 14 [sv, ov, .int .i64 stays].toArray w (Ret fun v w' => v = .slice none 0 0 ∧ Ext w w') := by
  have hs := St.start w
  refine S14_ok _ _ _ _ _ ?_
  unfold S14
  refine callF pl10 (C10 _ _ _ _ _ _ (hL.ext hs.chg) (hO.ext hs.chg) hn) ?_
  rintro _ w1 hr
  rcases hr with ⟨_, rfl, he⟩ | ⟨h, _⟩
  replace hs := hs.ext he
  rotate_left
  · exact absurd h0 h
  refine pop_seql (slFact_spec sl26).1 (fun _ => ⟨rfl, rfl⟩) ?_
  refine cond_t ?_
  exact ⟨rfl, hs.chg⟩

theorem C14 (sv ov : Value) (xs : List Event) (of : List Int) (stays : Int) (w : World) (hL : RdL (fun _ => True) w sv xs) (hO : RdL (fun _ => True) w ov of) (hn : xs.length ≤ 1000) : Calls Try.prog 14 [sv, ov, .int .i64 stays].toArray w (Ret fun v w' => New (ownL v (if thr xs = 0 then [] else rto (rcB (depB of stays) xs (clkB xs (clkTo (depB of stays) (thr xs).toNat xs xs.length))) xs.length)) w w') := by
  by_cases h0 : thr xs = 0
  · refine (C14a sv ov xs of stays w hL hO hn h0).mono fun e w' h => ?_
    obtain ⟨v, he, hv, hx⟩ := h
    subst hv
    refine ⟨_, he, ?_⟩
    rw [if_pos h0]
    exact ((St.start w).ext hx).ownNil.fresh
  · rw [if_neg h0]; exact C14b sv ov xs of stays w hL hO hn h0

theorem ok_t {A a x y : Bool} (h : (A && !a) = true) (hx : x = true) : (!y) = (A && !(a || (x && y))) := by revert h hx; cases A <;> cases a <;> cases x <;> cases y <;> decide
theorem ok_tf {A a x y : Bool} (h : (A && !a) = true) (hx : x = false) : (!false) = (A && !(a || (x && y))) := by revert h hx; cases A <;> cases a <;> cases x <;> cases y <;> decide
theorem ok_f {A a z : Bool} (h : (A && !a) = false) : false = (A && !(a || z)) := by revert h; cases A <;> cases a <;> cases z <;> decide

theorem C15 (sv ov : Value) (xs : List Event) (of : List Int) (stays : Int) (w : World) (hL : RdL (fun _ => True) w sv xs) (hO : RdL (fun _ => True) w ov of) (hn : xs.length ≤ 1000) : Calls Try.prog 15 [sv, ov, .int .i64 stays].toArray w (Ret fun v w' => New (ownL v (if thr xs = 0 then [] else rto (rcB (depB of stays) xs (hapB (hapTo (depB of stays) xs xs.length))) xs.length)) w w') := by
  have hs := St.start w
  refine S15_ok _ _ _ _ _ ?_
  unfold S15
  refine eop_build (([] : List Two)) hs sl30 rfl rfl (Nat.le_of_ble_eq_true rfl) (fun s_x13 w1 hs => ?_)
  refine callF pl19 (C19 _ xs _ (hL.ext hs.chg) (by omega)) ?_
  rintro _ w2 ⟨rfl, he⟩
  replace hs := hs.ext he
  refine pop_eql ?_
  refine cond_d (fun c_x16 => ?_) (fun c_x16 => ?_)
  · skip
    rw [if_pos c_x16]
    exact hs.fresh
  · skip
    refine callF pl26 (C26 _ _ _ _ _ _ (hL.ext hs.chg) (hO.ext hs.chg) (by omega)) ?_
    rintro x21 w3 hnew
    replace hs := hs.made hnew
    obtain ⟨ss_x21, hs⟩ := ownLL.open hs
    replace hs := hs.p1
    replace hs := hs.p1
    replace hs := hs.p2
    refine ⟨fun m y x w1 => ∃ k : Nat, x = .int .i64 (k : Int) ∧ m = xs.length - k ∧ k ≤ xs.length ∧ St w none1 [ownL y (rto (rcB (depB of stays) xs (hapB (hapTo (depB of stays) xs xs.length))) k), ownL x21 ss_x21, rows ss_x21 (hapTo (depB of stays) xs xs.length)] w1, ⟨_, 0, rfl, rfl, by omega, hs⟩, ?_⟩
    rintro m out7 _ w4 ⟨k, rfl, rfl, hk, hs⟩ dd1
    refine pop_len sl22 (hL.ext hs.chg) ?_
    refine pop_lss ?_
    refine cond_d (fun c_x25 => ?_) (fun c_x25 => ?_)
    · skip
      refine ⟨fun m y x w1 => ∃ i : Nat, x = .int .i64 (i : Int) ∧ m = k - i ∧ i ≤ k ∧ St w none1 [ownL y (rto (rcB (depB of stays) xs (hapB (hapTo (depB of stays) xs xs.length))) k ++ rrow (rcB (depB of stays) xs (hapB (hapTo (depB of stays) xs xs.length))) k i), ownL x21 ss_x21, rows ss_x21 (hapTo (depB of stays) xs xs.length)] w1, ⟨_, 0, rfl, rfl, by omega, by rw [rrow, List.append_nil]; exact hs⟩, ?_⟩
      rintro m out7_1 _ w5 ⟨i, rfl, rfl, hi, hs⟩ dd2
      refine pop_lss ?_
      refine cond_d (fun c_x30 => ?_) (fun c_x30 => ?_)
      · skip
        obtain ⟨e_i, he_i⟩ : ∃ xx, xs[((i : Int)).toNat]? = some xx := ⟨_, List.getElem?_eq_getElem (by omega)⟩
        obtain ⟨e_k, he_k⟩ : ∃ xx, xs[((k : Int)).toNat]? = some xx := ⟨_, List.getElem?_eq_getElem (by omega)⟩
        refine ⟨_, ?_, fun _ _ h => h⟩
        refine ⟨fun jv w' => jv = .bool (decide (¬ e_i.t = e_k.t) && depB of stays e_i e_k) ∧ St w none1 [ownL out7_1 (rto (rcB (depB of stays) xs (hapB (hapTo (depB of stays) xs xs.length))) k ++ rrow (rcB (depB of stays) xs (hapB (hapTo (depB of stays) xs xs.length))) k i), ownL x21 ss_x21, rows ss_x21 (hapTo (depB of stays) xs xs.length)] w', ?_, ?_⟩
        · skip
          refine pop_idx sl22 (hL.ext hs.chg) (by omega) he_i (fun q_x35 h_x35 => ?_)
          refine pop_atf (e_i).t fld40_1 h_x35 rfl rfl (fun q_x36 h_x36 => ?_)
          replace hs := hs.drew
          refine qop_at ty3 (h_x36) ?_
          refine pop_idx sl22 (hL.ext hs.chg) (by omega) he_k (fun q_x40 h_x40 => ?_)
          refine pop_atf (e_k).t fld40_1 h_x40 rfl rfl (fun q_x41 h_x41 => ?_)
          refine qop_at ty3 (h_x41) ?_
          refine pop_neq ?_
          refine cond_d (fun c_x43 => ?_) (fun c_x43 => ?_)
          · skip
            refine pop_idx sl22 (hL.ext hs.chg) (by omega) he_i (fun q_x47 h_x47 => ?_)
            refine qop_at ty40 (h_x47) ?_
            refine pop_idx sl22 (hL.ext hs.chg) (by omega) he_k (fun q_x51 h_x51 => ?_)
            refine qop_at ty40 (h_x51) ?_
            refine callF pl24 (C24 e_i e_k _ _ _ _ (hO.ext hs.chg)) ?_
            rintro _ w6 ⟨rfl, he⟩
            replace hs := hs.ext he
            exact ⟨congrArg Value.bool (by rw [decide_eq_true c_x43]; rfl), hs⟩
          · skip
            exact ⟨congrArg Value.bool (by rw [decide_eq_false c_x43]; rfl), hs⟩
        · skip
          rintro _ w7 ⟨rfl, hs⟩ dd3
          refine pop_add (by omega) ?_
          refine ⟨fun m b x w1 => ∃ j : Nat, b = .bool ((decide (¬ e_i.t = e_k.t) && depB of stays e_i e_k) && !anyF ((hapB (hapTo (depB of stays) xs xs.length)) i k) i j) ∧ x = .int .i64 (j : Int) ∧ m = k - j ∧ i < j ∧ j ≤ k ∧ St w none1 [ownL out7_1 (rto (rcB (depB of stays) xs (hapB (hapTo (depB of stays) xs xs.length))) k ++ rrow (rcB (depB of stays) xs (hapB (hapTo (depB of stays) xs xs.length))) k i), ownL x21 ss_x21, rows ss_x21 (hapTo (depB of stays) xs xs.length)] w1, ⟨_, i + 1, by rw [anyF_start _ (Nat.le_refl _), Bool.not_false, Bool.and_true], rfl, rfl, by omega, by omega, hs⟩, ?_⟩
          rintro m _ _ w8 ⟨j, rfl, rfl, rfl, hj0, hj, hs⟩ dd4
          refine pop_lss ?_
          refine cond_d (fun c_x61 => ?_) (fun c_x61 => ?_)
          · skip
            refine ⟨fun jv w' => jv = .bool ((decide (¬ e_i.t = e_k.t) && depB of stays e_i e_k) && !anyF ((hapB (hapTo (depB of stays) xs xs.length)) i k) i (j + 1)) ∧ St w none1 [ownL out7_1 (rto (rcB (depB of stays) xs (hapB (hapTo (depB of stays) xs xs.length))) k ++ rrow (rcB (depB of stays) xs (hapB (hapTo (depB of stays) xs xs.length))) k i), ownL x21 ss_x21, rows ss_x21 (hapTo (depB of stays) xs xs.length)] w', ?_, ?_⟩
            · skip
              refine cond_b (fun c_ok11_1 => ?_) (fun c_ok11_1 => ?_)
              · skip
                have hhl := hapTo_len (D := (depB of stays)) (l := xs) (k := xs.length) (by omega)
                have hn_x68 := hs.p2.rowsLen
                obtain ⟨e_x68, he_x68⟩ : ∃ xx, (ss_x21)[((j : Int)).toNat]? = some xx := ⟨_, List.getElem?_eq_getElem (by omega)⟩
                obtain ⟨r_x68, hr_x68⟩ : ∃ xx, ((hapTo (depB of stays) xs xs.length))[((j : Int)).toNat]? = some xx := ⟨_, List.getElem?_eq_getElem (by omega)⟩
                refine pop_own hs.p1 sl45 (by omega) (by omega) (fun q_x68 h_x68 => ?_)
                refine qop_own hs.p1 ty47 h_x68 he_x68 ?_
                have hrl := hapTo_row (D := (depB of stays)) (l := xs) xs.length _ (List.mem_of_getElem? hr_x68)
                obtain ⟨e_x71, he_x71⟩ : ∃ xx, (r_x68)[((i : Int)).toNat]? = some xx := ⟨_, List.getElem?_eq_getElem (by omega)⟩
                refine pop_idx sl47 (hs.p2.rowAt he_x68 hr_x68) (by omega) he_x71 (fun q_x71 h_x71 => ?_)
                refine qop_at ty4 (h_x71) ?_
                refine cond_b (fun c_x72 => ?_) (fun c_x72 => ?_)
                · skip
                  have hn_x76 := hs.p2.rowsLen
                  obtain ⟨e_x76, he_x76⟩ : ∃ xx, (ss_x21)[((k : Int)).toNat]? = some xx := ⟨_, List.getElem?_eq_getElem (by omega)⟩
                  obtain ⟨r_x76, hr_x76⟩ : ∃ xx, ((hapTo (depB of stays) xs xs.length))[((k : Int)).toNat]? = some xx := ⟨_, List.getElem?_eq_getElem (by omega)⟩
                  refine pop_own hs.p1 sl45 (by omega) (by omega) (fun q_x76 h_x76 => ?_)
                  refine qop_own hs.p1 ty47 h_x76 he_x76 ?_
                  have hrl2 := hapTo_row (D := (depB of stays)) (l := xs) xs.length _ (List.mem_of_getElem? hr_x76)
                  obtain ⟨e_x79, he_x79⟩ : ∃ xx, (r_x76)[((j : Int)).toNat]? = some xx := ⟨_, List.getElem?_eq_getElem (by omega)⟩
                  refine pop_idx sl47 (hs.p2.rowAt he_x76 hr_x76) (by omega) he_x79 (fun q_x79 h_x79 => ?_)
                  refine qop_at ty4 (h_x79) ?_
                  refine pop_not ?_
                  exact ⟨congrArg Value.bool (by rw [anyF_step (by omega), hapB, hat_at (k := j) (i := i) hr_x68 he_x71, hat_at (k := k) (i := j) hr_x76 he_x79]; exact ok_t c_ok11_1 c_x72), hs⟩
                · skip
                  first | refine pop_notd ?_ | refine pop_not ?_
                  exact ⟨congrArg Value.bool (by rw [anyF_step (by omega), hapB, hat_at (k := j) (i := i) hr_x68 he_x71]; exact ok_tf c_ok11_1 c_x72), hs⟩
              · skip
                exact ⟨congrArg Value.bool (by rw [anyF_step (by omega)]; exact ok_f c_ok11_1), hs⟩
            · skip
              rintro _ w9 ⟨rfl, hs⟩ dd5
              refine pop_add (by omega) ?_
              exact ⟨_, by omega, j + 1, rfl, rfl, rfl, by omega, by omega, hs⟩
          · skip
            refine cond_b (fun c_ok11_1 => ?_) (fun c_ok11_1 => ?_)
            · skip
              refine pop (bld43_0_1 _  _ ) ?_
              refine eop_build ([(⟨(i : Int), (k : Int)⟩ : Two)]) hs sl30 rfl rfl (Nat.le_of_ble_eq_true rfl) (fun s_x89 w10 hs => ?_)
              have hsm := rto_small (c := (rcB (depB of stays) xs (hapB (hapTo (depB of stays) xs xs.length)))) (k := k) (m := xs.length) (by omega) hn
              have hsm2 := rrow_len (rcB (depB of stays) xs (hapB (hapTo (depB of stays) xs xs.length))) k i
              have hr_x90 := (hs).rd'
              refine eop_append hs.p1 sl30 hr_x90 (by simp <;> omega) (by decide) (fun s_x90 w11 hs => ?_)
              replace hs := hs.p1.drop
              intro dd6
              refine pop_add (by omega) ?_
              replace hs := hs.p2
              replace hs := hs.p2
              replace hs := hs.p2
              exact ⟨_, by omega, i + 1, rfl, rfl, by omega, by rw [rrow_yes (c := (rcB (depB of stays) xs (hapB (hapTo (depB of stays) xs xs.length)))) (i := i) (k := k) (by rw [rcB_at (i := i) (k := k) he_i he_k]; rw [show j = k from by omega] at c_ok11_1; exact c_ok11_1), ← List.append_assoc]; exact hs⟩
            · skip
              intro dd6
              refine pop_add (by omega) ?_
              replace hs := hs.p2
              replace hs := hs.p2
              replace hs := hs.p2
              exact ⟨_, by omega, i + 1, rfl, rfl, by omega, by rw [rrow_no (c := (rcB (depB of stays) xs (hapB (hapTo (depB of stays) xs xs.length)))) (i := i) (k := k) (by rw [rcB_at (i := i) (k := k) he_i he_k]; rw [show j = k from by omega] at c_ok11_1; exact c_ok11_1)]; exact hs⟩
      · skip
        refine pop_add (by omega) ?_
        exact ⟨_, by omega, k + 1, rfl, rfl, by omega, by rw [show i = k from by omega] at hs; exact hs⟩
    · skip
      rw [if_neg c_x16]
      rw [show k = xs.length from by omega] at hs
      exact hs.p1.drop.p1.drop.fresh

end Go.Proofs.Ytobcbkipeipjeaa
