/-
  Proved: ClockBefore returns true for every input, and the input reads as it did. No condition.
-/
import Derived.Test.YtobcbkipeipjeaaM
import Derived.Test.YtobcbkipeipjeaaRows
import Derived.KernelRfl
namespace Go.Proofs.Ytobcbkipeipjeaa
open Go.Fw

theorem C5 (sv : Value) (xs : List Event) (stays : Int) (w : World) (hL : RdL (fun _ => True) w sv xs) : Calls Try.prog 5 [sv, .int .i64 stays].toArray w (Ret fun v w' => v = .bool true ∧ Ext w w') := by
  have hcl40 : (xs.take 40).length ≤ 40 := by rw [List.length_take]; omega
  have hs := St.start w
  refine S5_ok _ _ _ _ ?_
  unfold S5
  refine callF pl9 (C9 _ xs _ (hL.ext hs.chg)) ?_
  rintro x15 w1 ⟨hq_x15, he⟩
  replace hs := hs.ext he
  have hr_x15 := hq_x15 _ hL
  refine eop_build (([0, 0, 1] : List Int)) hs sl23 rfl rfl (Nat.le_of_ble_eq_true rfl) (fun s_x16 w2 hs => ?_)
  refine eop_build (([] : List Event)) hs sl22 rfl rfl (Nat.le_of_ble_eq_true rfl) (fun s_x17 w3 hs => ?_)
  refine ⟨fun m y x w1 => ∃ k : Nat, x = .int .i64 (k : Int) ∧ m = (xs.take 40).length - k ∧ k ≤ (xs.take 40).length ∧ St w none1 [ownL y (((xs.take 40).take k).map msk), ownL s_x16 ([0, 0, 1] : List Int)] w1, ⟨_, 0, rfl, rfl, by omega, hs⟩, ?_⟩
  rintro m l0_1 _ w4 ⟨k, rfl, rfl, hk0, hs⟩ dd1
  have hmlen : (((xs.take 40).take k).map msk).length = k := by rw [List.length_map, List.length_take]; omega
  refine pop_len sl22 (hr_x15.ext hs.chg) ?_
  refine pop_lss ?_
  refine cond_d (fun c_x21 => ?_) (fun c_x21 => ?_)
  · skip
    obtain ⟨e_x26, he_x26⟩ : ∃ xx, ((xs.take 40))[((k : Int)).toNat]? = some xx := ⟨_, List.getElem?_eq_getElem (by omega)⟩
    refine pop_idx sl22 (hr_x15.ext hs.chg) (by omega) he_x26 (fun q_x26 h_x26 => ?_)
    refine qop_at ty40 (h_x26) ?_
    refine eop_allocA hs zero40 (fun b_v8 w5 hs => ?_)
    refine uop_blkV (x := e_x26) hs ty40 rfl rfl (fun w6 hs => ?_)
    refine pop_field fld40_1 ?_
    refine qop_blk ty3 hs.hb rfl ?_
    refine pop_and (by decide) (by decide) ?_
    refine pop_field fld40_1 ?_
    refine uop_blk hs ty3 (Nat.le_of_ble_eq_true rfl) (rfl) (fun w7 hs => ?_)
    refine qop_blkA ty40 hs.hb rfl ?_
    refine eop_build ([msk e_x26]) hs sl22 rfl rfl (Nat.le_of_ble_eq_true rfl) (fun s_x34 w8 hs => ?_)
    have hr_x35 := (hs).rd'
    refine eop_append hs.p2 sl22 hr_x35 (by simp <;> omega) (by decide) (fun s_x35 w9 hs => ?_)
    replace hs := hs.p1.drop
    refine pop_add (by omega) ?_
    replace hs := (hs.p1).drop
    replace hs := hs.p1
    replace hs := hs.p1
    exact ⟨_, by omega, k + 1, rfl, rfl, by omega, by rw [← map_snoc (k := k) he_x26]; exact hs⟩
  · skip
    have hL0 : (((xs.take 40).take k).map msk) = evs xs := by unfold evs; rw [List.take_of_length_le (by omega)]
    rw [hL0] at hs
    have hel := evs_len xs
    have heo := evs_ok xs
    refine callF pl10 (C10' _ _ (evs xs) [0, 0, 1] stays _ (hs).rd' (hs.p1).rd' (by omega)) ?_
    rintro x39 w10 hnew
    replace hs := hs.made hnew
    obtain ⟨ss_x39, hs⟩ := ownLL.open hs
    have hcln := clkF_len (of := [0, 0, 1]) (s := stays) heo
    have hn_x41 := hs.p1.rowsLen
    refine pop_len sl26 (hs).rd' ?_
    refine pop_len sl22 (hs.p2).rd' ?_
    refine pop_neq ?_
    refine cond_nb (decide_eq_false (by omega)) ?_
    replace hs := hs.p1
    replace hs := hs.p1
    replace hs := hs.p3
    replace hs := hs.p3
    refine ⟨fun m x w1 => ∃ k : Nat, x = .int .i64 (k : Int) ∧ m = (evs xs).length - k ∧ k ≤ (evs xs).length ∧ St w none1 [ownL l0_1 (evs xs), ownL s_x16 ([0, 0, 1] : List Int), ownL x39 ss_x39, rows ss_x39 (clkF [0, 0, 1] stays (evs xs))] w1, ⟨_, 0, rfl, rfl, by omega, hs⟩, ?_⟩
    rintro m _ w11 ⟨k, rfl, rfl, hk, hs⟩ dd2
    refine pop_len sl22 (hs).rd' ?_
    refine pop_lss ?_
    refine cond_d (fun c_x48 => ?_) (fun c_x48 => ?_)
    · skip
      refine ⟨fun m x w1 => ∃ i : Nat, x = .int .i64 (i : Int) ∧ m = k - i ∧ i ≤ k ∧ St w none1 [ownL l0_1 (evs xs), ownL s_x16 ([0, 0, 1] : List Int), ownL x39 ss_x39, rows ss_x39 (clkF [0, 0, 1] stays (evs xs))] w1, ⟨_, 0, rfl, rfl, by omega, hs⟩, ?_⟩
      rintro m _ w12 ⟨i, rfl, rfl, hi, hs⟩ dd3
      refine pop_lss ?_
      refine cond_d (fun c_x53 => ?_) (fun c_x53 => ?_)
      · skip
        obtain ⟨e_i, he_i⟩ : ∃ xx, (evs xs)[((i : Int)).toNat]? = some xx := ⟨_, List.getElem?_eq_getElem (by omega)⟩
        obtain ⟨e_k, he_k⟩ : ∃ xx, (evs xs)[((k : Int)).toNat]? = some xx := ⟨_, List.getElem?_eq_getElem (by omega)⟩
        refine pop_own hs sl22 (by omega) (by omega) (fun q_x58 h_x58 => ?_)
        replace hs := hs.drew
        refine qop_own hs ty40 h_x58 he_i ?_
        refine pop_own hs sl22 (by omega) (by omega) (fun q_x62 h_x62 => ?_)
        refine qop_own hs ty40 h_x62 he_k ?_
        refine callF pl24 (C24 e_i e_k _ [0, 0, 1] stays _ (hs.p1).rd') ?_
        rintro _ w13 ⟨rfl, he⟩
        replace hs := hs.ext he
        refine pop_add (by omega) ?_
        refine ⟨fun m b x w1 => ∃ j : Nat, b = .bool (depB [0, 0, 1] stays e_i e_k || anyF (clkB (evs xs) (clkF [0, 0, 1] stays (evs xs)) i k) i j) ∧ x = .int .i64 (j : Int) ∧ m = k - j ∧ i < j ∧ j ≤ k ∧ St w none1 [ownL l0_1 (evs xs), ownL s_x16 ([0, 0, 1] : List Int), ownL x39 ss_x39, rows ss_x39 (clkF [0, 0, 1] stays (evs xs))] w1, ⟨_, i + 1, by rw [anyF_start _ (Nat.le_refl _), Bool.or_false], rfl, rfl, by omega, by omega, hs⟩, ?_⟩
        rintro m _ _ w14 ⟨j, rfl, rfl, rfl, hj0, hj, hs⟩ dd4
        refine ⟨_, ?_, fun _ _ h => h⟩
        refine pop_lss ?_
        refine cond_d (fun c_x71 => ?_) (fun c_x71 => ?_)
        · skip
          refine pop_not ?_
          intro dd5
          refine cond_b (fun c_x75 => ?_) (fun c_x75 => ?_)
          · skip
            refine ⟨fun jv w' => jv = .bool (depB [0, 0, 1] stays e_i e_k || anyF (clkB (evs xs) (clkF [0, 0, 1] stays (evs xs)) i k) i (j + 1)) ∧ St w none1 [ownL l0_1 (evs xs), ownL s_x16 ([0, 0, 1] : List Int), ownL x39 ss_x39, rows ss_x39 (clkF [0, 0, 1] stays (evs xs))] w', ?_, ?_⟩
            · skip
              refine callF pl16 (C16 _ _ (evs xs) (clkF [0, 0, 1] stays (evs xs)) (i : Int) (j : Int) _ (hs).rd' (RdLL.of hs.p2 hs.p3)) ?_
              rintro _ w16 ⟨rfl, he⟩
              replace hs := hs.ext he
              refine cond_b (fun c_x82 => ?_) (fun c_x82 => ?_)
              · skip
                refine callF pl16 (C16 _ _ (evs xs) (clkF [0, 0, 1] stays (evs xs)) (j : Int) (k : Int) _ (hs).rd' (RdLL.of hs.p2 hs.p3)) ?_
                rintro _ w17 ⟨rfl, he⟩
                replace hs := hs.ext he
                exact ⟨congrArg Value.bool (by rw [anyF_step (by omega), clkB, c_x82]; simp only [Bool.true_and]; rw [← Bool.or_assoc, show (depB [0, 0, 1] stays e_i e_k || anyF (clkB (evs xs) (clkF [0, 0, 1] stays (evs xs)) i k) i j) = false from by simpa using c_x75, Bool.false_or]), hs⟩
              · skip
                exact ⟨congrArg Value.bool (by rw [anyF_step (by omega), clkB, c_x82]; simp only [Bool.false_and, Bool.or_false]; exact (show false = (depB [0, 0, 1] stays e_i e_k || anyF (clkB (evs xs) (clkF [0, 0, 1] stays (evs xs)) i k) i j) from by simpa using c_x75.symm)), hs⟩
            · skip
              rintro _ w18 ⟨rfl, hs⟩ dd6
              refine pop_add (by omega) ?_
              exact ⟨_, by omega, j + 1, rfl, rfl, rfl, by omega, by omega, hs⟩
          · skip
            refine ⟨_, ?_, fun _ _ h => h⟩
            refine callF pl16 (C16 _ _ (evs xs) (clkF [0, 0, 1] stays (evs xs)) (i : Int) (k : Int) _ (hs).rd' (RdLL.of hs.p2 hs.p3)) ?_
            rintro _ w19 ⟨rfl, he⟩
            replace hs := hs.ext he
            refine pop_bneq und4 ?_
            refine cond_nb (want_done (j := j) heo he_i he_k (by omega) (by omega) (by first | exact .inl (by omega) | exact .inr (not_no c_x75))) ?_
            refine callF pl16 (C16 _ _ (evs xs) (clkF [0, 0, 1] stays (evs xs)) (k : Int) (i : Int) _ (hs).rd' (RdLL.of hs.p2 hs.p3)) ?_
            rintro _ w20 ⟨rfl, he⟩
            replace hs := hs.ext he
            intro dd7
            refine cond_nb (bef_out (by omega)) ?_
            refine pop_add (by omega) ?_
            exact ⟨_, by omega, i + 1, rfl, rfl, by omega, hs⟩
        · skip
          intro dd5
          refine cond_f ?_
          refine ⟨_, ?_, fun _ _ h => h⟩
          refine callF pl16 (C16 _ _ (evs xs) (clkF [0, 0, 1] stays (evs xs)) (i : Int) (k : Int) _ (hs).rd' (RdLL.of hs.p2 hs.p3)) ?_
          rintro _ w19 ⟨rfl, he⟩
          replace hs := hs.ext he
          refine pop_bneq und4 ?_
          refine cond_nb (want_done (j := j) heo he_i he_k (by omega) (by omega) (by first | exact .inl (by omega) | exact .inr (not_no c_x75))) ?_
          refine callF pl16 (C16 _ _ (evs xs) (clkF [0, 0, 1] stays (evs xs)) (k : Int) (i : Int) _ (hs).rd' (RdLL.of hs.p2 hs.p3)) ?_
          rintro _ w20 ⟨rfl, he⟩
          replace hs := hs.ext he
          intro dd7
          refine cond_nb (bef_out (by omega)) ?_
          refine pop_add (by omega) ?_
          exact ⟨_, by omega, i + 1, rfl, rfl, by omega, hs⟩
      · skip
        refine pop_add (by omega) ?_
        exact ⟨_, by omega, k + 1, rfl, rfl, by omega, hs⟩
    · skip
      refine callF pl20 (C20 _) ?_
      rintro _ w22 ⟨rfl, he⟩
      replace hs := hs.ext he
      exact ⟨rfl, hs.chg⟩

namespace clockBefore
open Go.ChangeShapes Go.WideShapes Go.ChangeAt Go.RowKit
theorem contract (H : Type) (enc : TypeId × Value → H) (W : World) (base : Nat) (args : Array Value) (ds gs : List (DataW H)) (before : List MemPlace)
    (hval : ∀ (j : Nat) t v, Try.f5.params[j]? = some t → args[j]? = some v → Value.okWide Try.prog W .any base t v)
    (hW : DataW.Whole enc Try.prog Try.f5.params.toList Rows.clockBeforeSpec.vars false W args.toList ds gs before) :
    Calls Try.prog 5 args W fun e W' => ∃ v, e = .returned v ∧ Rows.clockBeforeSpec.post enc Try.prog Try.f5 false true false false W args v W' := by
  have hW' := hW
  obtain ⟨p, q, hA0, hV, _, _, _⟩ := hW
  have hA : DataW.TrodAll enc Try.prog W 0 (fun _ => true) true Try.f5.params.toList args.toList ds p := hA0
  rw [Try.params5] at hA hval
  obtain ⟨v0, vs0, d0, ds0, p0, q0, hargs, hds, _, h0, r0⟩ := trodAll_cons hA
  obtain ⟨v1, vs1, d1, ds1, p1, q1, rfl, rfl, _, h1, r1⟩ := trodAll_cons r0
  obtain ⟨rfl, rfl, _⟩ := trodAll_nil r1
  obtain rfl : args = #[v0, v1] := by cases args; simp_all
  obtain ⟨x, hL_x, ok_x⟩ := open_sl Try.underlying22 rdE (hval 0 22 v0 rfl rfl) h0
  obtain ⟨s, rfl, ok_s⟩ := open_i64 Try.underlying3 (hval 1 3 v1 rfl rfl) h1
  refine (C5 v0 x s W (hL_x.mono fun _ _ => trivial)).mono fun e W' ⟨v, he, hv, hext⟩ => ?_
  subst hv
  refine ⟨_, he, post_true rfl (fun ds h => ?_) rfl Try.underlying4 (by kernel_rfl) (by kernel_rfl) hW' hext.below⟩
  match ds, h with
  | [e0, e1], _ => rfl
set_option maxRecDepth 100000 in
theorem lifted (os : Os) (started : os.Started) (H : Type) (enc : TypeId × Value → H) :
    ReturnsInHanded {} Try.checked os 5 .any (Rows.clockBeforeSpec.pre6 enc Try.prog Try.f5 Rows.clockBeforeRow.domain false) (Rows.clockBeforeSpec.post enc Try.prog Try.f5 false true false false) := by
  refine returnsInHanded_of_change (C := Try.checked) own started (by kernel_rfl) Try.func5
    (ChangeSpec.witness6 (enc := enc) (C := Try.checked) false ⟨#[], #[.slice none 0 0, .int .i64 0], []⟩ 8 (by kernel_rfl) (by kernel_rfl) (by kernel_rfl) (by kernel_rfl)) ?_
  intro W base args ds gs before hval hW _ _
  exact contract H enc W base args ds gs before hval hW
/-- The statement. -/
theorem proved : Rows.ClockBeforeSaid :=
  OpenClaim.holds_of_wide 5 Try.f5 rfl rfl rfl rfl rfl rfl rfl ⟨rfl, rfl, rfl, rfl, rfl⟩ rfl rfl rfl rfl rfl (by kernel_rfl) Try.func5 (by kernel_rfl)
    (of_decide_eq_true (by kernel_rfl)) (by unfold Func.isWrapper; first | (rw [if_pos (by decide +kernel)]; kernel_rfl) | (rw [if_neg (by decide +kernel)]; exact ⟨rfl, rfl⟩))
    (fun os started H enc _ => lifted os started H enc)
end clockBefore

end Go.Proofs.Ytobcbkipeipjeaa
