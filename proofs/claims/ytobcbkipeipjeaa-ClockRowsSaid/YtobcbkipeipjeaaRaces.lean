/-
  Proved: ClockRaces returns true for every input, and the input reads as it did. No condition.
-/
import Derived.Test.YtobcbkipeipjeaaM
import Derived.Test.YtobcbkipeipjeaaRows
import Derived.KernelRfl
namespace Go.Proofs.Ytobcbkipeipjeaa
open Go.Fw

theorem raceF_eq {of : List Int} {s : Int} {l : List Event} (h : thrOk l) : raceF of s l = rto (raceC of s l) l.length := by
  unfold raceF
  by_cases h0 : thr l = 0
  · rw [if_pos h0]
    cases l with
    | nil => rfl
    | cons v l => exact absurd h0 (thr_nz h (k := 0) (by simp))
  · rw [if_neg h0]
theorem raceC_at {of : List Int} {s : Int} {l : List Event} {i k : Nat} {x v : Event} (h : thrOk l) (hx : l[i]? = some x) (hv : l[k]? = some v) :
    raceC of s l i k = (decide (¬ x.t = v.t) && depB of s x v && !anyF (clkB l (clkF of s l) i k) i k) := by
  unfold raceC
  rw [rcB_at hx hv, clkF_yes (thr_nz h (List.getElem?_eq_some_iff.1 hv).1)]
theorem rto_pre (c : Nat → Nat → Bool) (k : Nat) : ∀ m, k ≤ m → ∃ t, rto c m = rto c k ++ t
  | 0, h => ⟨[], by rw [Nat.le_zero.1 h]; rfl⟩
  | m + 1, h => by
    rcases Nat.lt_or_ge k (m + 1) with h2 | h2
    · obtain ⟨t, ht⟩ := rto_pre c k m (by omega)
      exact ⟨t ++ rrow c m m, by rw [rto, ht, List.append_assoc]⟩
    · obtain rfl : k = m + 1 := by omega
      exact ⟨[], by rw [List.append_nil]⟩
theorem rrow_pre (c : Nat → Nat → Bool) (k i : Nat) : ∀ m, i ≤ m → ∃ t, rrow c k m = rrow c k i ++ t
  | 0, h => ⟨[], by rw [Nat.le_zero.1 h]; rfl⟩
  | m + 1, h => by
    rcases Nat.lt_or_ge i (m + 1) with h2 | h2
    · obtain ⟨t, ht⟩ := rrow_pre c k i m (by omega)
      rw [rrow]
      split
      · exact ⟨t ++ [⟨(m : Int), (k : Int)⟩], by rw [ht, List.append_assoc]⟩
      · exact ⟨t, ht⟩
    · obtain rfl : i = m + 1 := by omega
      exact ⟨[], by rw [List.append_nil]⟩
theorem race_get {c : Nat → Nat → Bool} {i k m : Nat} (hc : c i k = true) (hik : i < k) (hkm : k < m) : (rto c m)[(rto c k ++ rrow c k i).length]? = some ⟨(i : Int), (k : Int)⟩ := by
  obtain ⟨t, ht⟩ := rto_pre c (k + 1) m hkm
  obtain ⟨u, hu⟩ := rrow_pre c k (i + 1) k hik
  rw [ht, rto, hu, rrow_yes hc]
  have : rto c k ++ (rrow c k i ++ [⟨(i : Int), (k : Int)⟩] ++ u) ++ t = (rto c k ++ rrow c k i) ++ (⟨(i : Int), (k : Int)⟩ :: (u ++ t)) := by simp [List.append_assoc]
  rw [this, List.getElem?_append_right (Nat.le_refl _), Nat.sub_self]; rfl
theorem C6 (sv : Value) (xs : List Event) (stays : Int) (w : World) (hL : RdL (fun _ => True) w sv xs) : Calls Try.prog 6 [sv, .int .i64 stays].toArray w (Ret fun v w' => v = .bool true ∧ Ext w w') := by
  have hcl40 : (xs.take 40).length ≤ 40 := by rw [List.length_take]; omega
  have hs := St.start w
  refine S6_ok _ _ _ _ ?_
  unfold S6
  refine callF pl9 (C9 _ xs _ (hL.ext hs.chg)) ?_
  rintro x17 w1 ⟨hq_x17, he⟩
  replace hs := hs.ext he
  have hr_x17 := hq_x17 _ hL
  refine eop_build (([0, 0, 1] : List Int)) hs sl23 rfl rfl (Nat.le_of_ble_eq_true rfl) (fun s_x18 w2 hs => ?_)
  refine eop_build (([] : List Event)) hs sl22 rfl rfl (Nat.le_of_ble_eq_true rfl) (fun s_x19 w3 hs => ?_)
  refine ⟨fun m y x w1 => ∃ k : Nat, x = .int .i64 (k : Int) ∧ m = (xs.take 40).length - k ∧ k ≤ (xs.take 40).length ∧ St w none1 [ownL y (((xs.take 40).take k).map msk), ownL s_x18 ([0, 0, 1] : List Int)] w1, ⟨_, 0, rfl, rfl, by omega, hs⟩, ?_⟩
  rintro m l0_1 _ w4 ⟨k, rfl, rfl, hk0, hs⟩ dd1
  have hmlen : (((xs.take 40).take k).map msk).length = k := by rw [List.length_map, List.length_take]; omega
  refine pop_len sl22 (hr_x17.ext hs.chg) ?_
  refine pop_lss ?_
  refine cond_d (fun c_x23 => ?_) (fun c_x23 => ?_)
  · skip
    obtain ⟨e_x28, he_x28⟩ : ∃ xx, ((xs.take 40))[((k : Int)).toNat]? = some xx := ⟨_, List.getElem?_eq_getElem (by omega)⟩
    refine pop_idx sl22 (hr_x17.ext hs.chg) (by omega) he_x28 (fun q_x28 h_x28 => ?_)
    refine qop_at ty40 (h_x28) ?_
    refine eop_allocA hs zero40 (fun b_v8 w5 hs => ?_)
    refine uop_blkV (x := e_x28) hs ty40 rfl rfl (fun w6 hs => ?_)
    refine pop_field fld40_1 ?_
    refine qop_blk ty3 hs.hb rfl ?_
    refine pop_and (by decide) (by decide) ?_
    refine pop_field fld40_1 ?_
    refine uop_blk hs ty3 (Nat.le_of_ble_eq_true rfl) (rfl) (fun w7 hs => ?_)
    refine qop_blkA ty40 hs.hb rfl ?_
    refine eop_build ([msk e_x28]) hs sl22 rfl rfl (Nat.le_of_ble_eq_true rfl) (fun s_x36 w8 hs => ?_)
    have hr_x37 := (hs).rd'
    refine eop_append hs.p2 sl22 hr_x37 (by simp <;> omega) (by decide) (fun s_x37 w9 hs => ?_)
    replace hs := hs.p1.drop
    refine pop_add (by omega) ?_
    replace hs := (hs.p1).drop
    replace hs := hs.p1
    replace hs := hs.p1
    exact ⟨_, by omega, k + 1, rfl, rfl, by omega, by rw [← map_snoc (k := k) he_x28]; exact hs⟩
  · skip
    have hL0 : (((xs.take 40).take k).map msk) = evs xs := by unfold evs; rw [List.take_of_length_le (by omega)]
    rw [hL0] at hs
    have hel := evs_len xs
    have heo := evs_ok xs
    refine callF pl10 (C10' _ _ (evs xs) [0, 0, 1] stays _ (hs).rd' (hs.p1).rd' (by omega)) ?_
    rintro x41 w10 hnew
    replace hs := hs.made hnew
    obtain ⟨ss_x41, hs⟩ := ownLL.open hs
    have hrln := raceF_len [0, 0, 1] stays (l := evs xs) (by omega)
    refine callF pl14 (C14' _ _ (evs xs) [0, 0, 1] stays _ (hs.p2).rd' (hs.p3).rd' (by omega)) ?_
    rintro x45 w11 hnew
    replace hs := hs.made hnew
    replace hs := hs.p2
    replace hs := hs.p2
    replace hs := hs.p4
    replace hs := hs.p4
    refine ⟨fun m y x w1 => ∃ k : Nat, y = .int .i64 ((rto (raceC [0, 0, 1] stays (evs xs)) k).length : Int) ∧ x = .int .i64 (k : Int) ∧ m = (evs xs).length - k ∧ k ≤ (evs xs).length ∧ St w none1 [ownL l0_1 (evs xs), ownL s_x18 ([0, 0, 1] : List Int), ownL x41 ss_x41, rows ss_x41 (clkF [0, 0, 1] stays (evs xs)), ownL x45 (raceF [0, 0, 1] stays (evs xs))] w1, ⟨_, 0, rfl, rfl, rfl, by omega, hs⟩, ?_⟩
    rintro m _ _ w12 ⟨k, rfl, rfl, rfl, hk, hs⟩ dd2
    refine pop_len sl22 (hs).rd' ?_
    refine pop_lss ?_
    refine cond_d (fun c_x49 => ?_) (fun c_x49 => ?_)
    · skip
      refine ⟨fun m y x w1 => ∃ i : Nat, y = .int .i64 ((rto (raceC [0, 0, 1] stays (evs xs)) k ++ rrow (raceC [0, 0, 1] stays (evs xs)) k i).length : Int) ∧ x = .int .i64 (i : Int) ∧ m = k - i ∧ i ≤ k ∧ St w none1 [ownL l0_1 (evs xs), ownL s_x18 ([0, 0, 1] : List Int), ownL x41 ss_x41, rows ss_x41 (clkF [0, 0, 1] stays (evs xs)), ownL x45 (raceF [0, 0, 1] stays (evs xs))] w1, ⟨_, 0, congrArg (Value.int .i64) (by rw [rrow, List.append_nil]), rfl, rfl, by omega, hs⟩, ?_⟩
      rintro m _ _ w13 ⟨i, rfl, rfl, rfl, hi, hs⟩ dd3
      refine pop_lss ?_
      refine cond_d (fun c_x54 => ?_) (fun c_x54 => ?_)
      · skip
        obtain ⟨e_i, he_i⟩ : ∃ xx, (evs xs)[((i : Int)).toNat]? = some xx := ⟨_, List.getElem?_eq_getElem (by omega)⟩
        obtain ⟨e_k, he_k⟩ : ∃ xx, (evs xs)[((k : Int)).toNat]? = some xx := ⟨_, List.getElem?_eq_getElem (by omega)⟩
        refine ⟨_, ?_, fun _ _ h => h⟩
        refine ⟨fun jv w' => jv = .bool (decide (e_i.t = e_k.t) || !depB [0, 0, 1] stays e_i e_k) ∧ St w none1 [ownL l0_1 (evs xs), ownL s_x18 ([0, 0, 1] : List Int), ownL x41 ss_x41, rows ss_x41 (clkF [0, 0, 1] stays (evs xs)), ownL x45 (raceF [0, 0, 1] stays (evs xs))] w', ?_, ?_⟩
        · skip
          refine pop_own hs sl22 (by omega) (by omega) (fun q_x59 h_x59 => ?_)
          refine pop_ownf fld40_1 h_x59 (fun q_x60 h_x60 => ?_)
          replace hs := hs.drew
          refine qop_ownf (e_i).t hs ty3 h_x60 he_i rfl ?_
          refine pop_own hs sl22 (by omega) (by omega) (fun q_x64 h_x64 => ?_)
          refine pop_ownf fld40_1 h_x64 (fun q_x65 h_x65 => ?_)
          refine qop_ownf (e_k).t hs ty3 h_x65 he_k rfl ?_
          refine pop_eql ?_
          refine cond_d (fun c_x67 => ?_) (fun c_x67 => ?_)
          · skip
            exact ⟨congrArg Value.bool (by rw [decide_eq_true c_x67]; rfl), hs⟩
          · skip
            refine pop_own hs sl22 (by omega) (by omega) (fun q_x71 h_x71 => ?_)
            refine qop_own hs ty40 h_x71 he_i ?_
            refine pop_own hs sl22 (by omega) (by omega) (fun q_x75 h_x75 => ?_)
            refine qop_own hs ty40 h_x75 he_k ?_
            refine callF pl24 (C24 e_i e_k _ [0, 0, 1] stays _ (hs.p1).rd') ?_
            rintro _ w14 ⟨rfl, he⟩
            replace hs := hs.ext he
            refine pop_not ?_
            exact ⟨congrArg Value.bool (by rw [decide_eq_false c_x67]; rfl), hs⟩
        · skip
          rintro _ w15 ⟨rfl, hs⟩ dd4
          refine cond_b (fun c_x81 => ?_) (fun c_x81 => ?_)
          · skip
            intro dd8
            refine pop_add (by omega) ?_
            exact ⟨_, by omega, i + 1, congrArg (Value.int .i64) (by rw [rrow_no (c := (raceC [0, 0, 1] stays (evs xs))) (i := i) (k := k) (by rw [raceC_at (i := i) (k := k) heo he_i he_k]; first | (rw [show j = k from by omega] at c_x105; simp_all) | (revert c_x81; cases depB [0, 0, 1] stays e_i e_k <;> cases hq : decide (e_i.t = e_k.t) <;> simp_all))]), rfl, rfl, by omega, hs⟩
          · skip
            refine pop_add (by omega) ?_
            refine ⟨fun m b x w1 => ∃ j : Nat, b = .bool (anyF (clkB (evs xs) (clkF [0, 0, 1] stays (evs xs)) i k) i j) ∧ x = .int .i64 (j : Int) ∧ m = k - j ∧ i < j ∧ j ≤ k ∧ St w none1 [ownL l0_1 (evs xs), ownL s_x18 ([0, 0, 1] : List Int), ownL x41 ss_x41, rows ss_x41 (clkF [0, 0, 1] stays (evs xs)), ownL x45 (raceF [0, 0, 1] stays (evs xs))] w1, ⟨_, i + 1, by rw [anyF_start _ (Nat.le_refl _)], rfl, rfl, by omega, by omega, hs⟩, ?_⟩
            rintro m _ _ w16 ⟨j, rfl, rfl, rfl, hj0, hj, hs⟩ dd5
            refine pop_lss ?_
            refine cond_d (fun c_x86 => ?_) (fun c_x86 => ?_)
            · skip
              refine ⟨fun jv w' => jv = .bool (anyF (clkB (evs xs) (clkF [0, 0, 1] stays (evs xs)) i k) i (j + 1)) ∧ St w none1 [ownL l0_1 (evs xs), ownL s_x18 ([0, 0, 1] : List Int), ownL x41 ss_x41, rows ss_x41 (clkF [0, 0, 1] stays (evs xs)), ownL x45 (raceF [0, 0, 1] stays (evs xs))] w', ?_, ?_⟩
              · skip
                refine cond_b (fun c_between14 => ?_) (fun c_between14 => ?_)
                · skip
                  exact ⟨congrArg Value.bool (by rw [anyF_step (by omega), c_between14]; rfl), hs⟩
                · skip
                  refine callF pl16 (C16 _ _ (evs xs) (clkF [0, 0, 1] stays (evs xs)) (i : Int) (j : Int) _ (hs).rd' (RdLL.of hs.p2 hs.p3)) ?_
                  rintro _ w17 ⟨rfl, he⟩
                  replace hs := hs.ext he
                  refine cond_b (fun c_x95 => ?_) (fun c_x95 => ?_)
                  · skip
                    refine callF pl16 (C16 _ _ (evs xs) (clkF [0, 0, 1] stays (evs xs)) (j : Int) (k : Int) _ (hs).rd' (RdLL.of hs.p2 hs.p3)) ?_
                    rintro _ w18 ⟨rfl, he⟩
                    replace hs := hs.ext he
                    exact ⟨congrArg Value.bool (by rw [anyF_step (by omega), c_between14, clkB, c_x95]; rfl), hs⟩
                  · skip
                    exact ⟨congrArg Value.bool (by rw [anyF_step (by omega), c_between14, clkB, c_x95]; rfl), hs⟩
              · skip
                rintro _ w19 ⟨rfl, hs⟩ dd6
                refine pop_add (by omega) ?_
                exact ⟨_, by omega, j + 1, rfl, rfl, rfl, by omega, by omega, hs⟩
            · skip
              refine pop_not ?_
              refine cond_b (fun c_x105 => ?_) (fun c_x105 => ?_)
              · skip
                have hrc : (raceC [0, 0, 1] stays (evs xs)) i k = true := by
                  rw [raceC_at (i := i) (k := k) heo he_i he_k]; rw [show j = k from by omega] at c_x105; revert c_x81 c_x105; cases depB [0, 0, 1] stays e_i e_k <;> cases hq : decide (e_i.t = e_k.t) <;> simp_all
                have hget := race_get hrc (by omega) (show k < (evs xs).length from by omega)
                rw [← raceF_eq heo] at hget
                have hlt := (List.getElem?_eq_some_iff.1 hget).1
                refine ⟨fun jv w' => jv = .bool (false) ∧ w16 = w', ?_, ?_⟩
                · skip
                  refine pop_len sl30 (hs.p4).rd' ?_
                  refine pop_geq ?_
                  refine cond_d (fun c_x109 => ?_) (fun c_x109 => ?_)
                  · skip
                    exact absurd c_x109 (by omega)
                  · skip
                    obtain ⟨e_x113, he_x113⟩ : ∃ xx, ((raceF [0, 0, 1] stays (evs xs)))[(((rto (raceC [0, 0, 1] stays (evs xs)) k ++ rrow (raceC [0, 0, 1] stays (evs xs)) k i).length : Int)).toNat]? = some xx := ⟨_, List.getElem?_eq_getElem (by omega)⟩
                    refine pop_own hs.p4 sl30 (by omega) (by omega) (fun q_x113 h_x113 => ?_)
                    refine qop_own hs.p4 ty43 h_x113 he_x113 ?_
                    refine pop (bld43_0_1 _  _ ) ?_
                    refine pop_ar2ne (a := (e_x113).a) (b := (e_x113).b) (c := (i : Int)) (d := (k : Int)) ar43 ?_
                    exact ⟨congrArg Value.bool (decide_eq_false (fun h => h (by rw [← Option.some.inj (hget.symm.trans he_x113)]; exact ⟨rfl, rfl⟩))), rfl⟩
                · skip
                  rintro _ w20 ⟨rfl, hw⟩ dd7
                  subst hw
                  refine cond_f ?_
                  refine pop_add (by omega) ?_
                  intro dd8
                  refine pop_add (by omega) ?_
                  exact ⟨_, by omega, i + 1, congrArg (Value.int .i64) (by rw [rrow_yes hrc, ← List.append_assoc]; simp only [List.length_append, List.length_singleton]; omega), rfl, rfl, by omega, hs⟩
              · skip
                intro dd8
                refine pop_add (by omega) ?_
                exact ⟨_, by omega, i + 1, congrArg (Value.int .i64) (by rw [rrow_no (c := (raceC [0, 0, 1] stays (evs xs))) (i := i) (k := k) (by rw [raceC_at (i := i) (k := k) heo he_i he_k]; first | (rw [show j = k from by omega] at c_x105; simp_all) | (revert c_x81; cases depB [0, 0, 1] stays e_i e_k <;> cases hq : decide (e_i.t = e_k.t) <;> simp_all))]), rfl, rfl, by omega, hs⟩
      · skip
        refine pop_add (by omega) ?_
        exact ⟨_, by omega, k + 1, congrArg (Value.int .i64) (by rw [rto, show i = k from by omega]), rfl, rfl, by omega, hs⟩
    · skip
      refine ⟨_, ?_, fun _ _ h => h⟩
      refine pop_len sl30 (hs.p4).rd' ?_
      refine pop_eql ?_
      refine cond_yb (decide_eq_true (by rw [show k = (evs xs).length from by omega, raceF_eq heo])) ?_
      refine callF pl20 (C20 _) ?_
      rintro _ w22 ⟨rfl, he⟩
      replace hs := hs.ext he
      intro dd9
      exact ⟨rfl, hs.chg⟩

namespace clockRaces
open Go.ChangeShapes Go.WideShapes Go.ChangeAt Go.RowKit
theorem contract (H : Type) (enc : TypeId × Value → H) (W : World) (base : Nat) (args : Array Value) (ds gs : List (DataW H)) (before : List MemPlace)
    (hval : ∀ (j : Nat) t v, Try.f6.params[j]? = some t → args[j]? = some v → Value.okWide Try.prog W .any base t v)
    (hW : DataW.Whole enc Try.prog Try.f6.params.toList Rows.clockRacesSpec.vars false W args.toList ds gs before) :
    Calls Try.prog 6 args W fun e W' => ∃ v, e = .returned v ∧ Rows.clockRacesSpec.post enc Try.prog Try.f6 false true false false W args v W' := by
  have hW' := hW
  obtain ⟨p, q, hA0, hV, _, _, _⟩ := hW
  have hA : DataW.TrodAll enc Try.prog W 0 (fun _ => true) true Try.f6.params.toList args.toList ds p := hA0
  rw [Try.params6] at hA hval
  obtain ⟨v0, vs0, d0, ds0, p0, q0, hargs, hds, _, h0, r0⟩ := trodAll_cons hA
  obtain ⟨v1, vs1, d1, ds1, p1, q1, rfl, rfl, _, h1, r1⟩ := trodAll_cons r0
  obtain ⟨rfl, rfl, _⟩ := trodAll_nil r1
  obtain rfl : args = #[v0, v1] := by cases args; simp_all
  obtain ⟨x, hL_x, ok_x⟩ := open_sl Try.underlying22 rdE (hval 0 22 v0 rfl rfl) h0
  obtain ⟨s, rfl, ok_s⟩ := open_i64 Try.underlying3 (hval 1 3 v1 rfl rfl) h1
  refine (C6 v0 x s W (hL_x.mono fun _ _ => trivial)).mono fun e W' ⟨v, he, hv, hext⟩ => ?_
  subst hv
  refine ⟨_, he, post_true rfl (fun ds h => ?_) rfl Try.underlying4 (by kernel_rfl) (by kernel_rfl) hW' hext.below⟩
  match ds, h with
  | [e0, e1], _ => rfl
set_option maxRecDepth 100000 in
theorem lifted (os : Os) (started : os.Started) (H : Type) (enc : TypeId × Value → H) :
    ReturnsInHanded {} Try.checked os 6 .any (Rows.clockRacesSpec.pre6 enc Try.prog Try.f6 Rows.clockRacesRow.domain false) (Rows.clockRacesSpec.post enc Try.prog Try.f6 false true false false) := by
  refine returnsInHanded_of_change (C := Try.checked) own started (by kernel_rfl) Try.func6
    (ChangeSpec.witness6 (enc := enc) (C := Try.checked) false ⟨#[], #[.slice none 0 0, .int .i64 0], []⟩ 8 (by kernel_rfl) (by kernel_rfl) (by kernel_rfl) (by kernel_rfl)) ?_
  intro W base args ds gs before hval hW _ _
  exact contract H enc W base args ds gs before hval hW
/-- The statement. -/
theorem proved : Rows.ClockRacesSaid :=
  OpenClaim.holds_of_wide 6 Try.f6 rfl rfl rfl rfl rfl rfl rfl ⟨rfl, rfl, rfl, rfl, rfl⟩ rfl rfl rfl rfl rfl (by kernel_rfl) Try.func6 (by kernel_rfl)
    (of_decide_eq_true (by kernel_rfl)) (by unfold Func.isWrapper; first | (rw [if_pos (by decide +kernel)]; kernel_rfl) | (rw [if_neg (by decide +kernel)]; exact ⟨rfl, rfl⟩))
    (fun os started H enc _ => lifted os started H enc)
end clockRaces

end Go.Proofs.Ytobcbkipeipjeaa
