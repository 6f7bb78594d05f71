/-
  Proved: BufferRoom returns true for every input, and the input reads as it did. No condition.
-/
import Derived.Test.YtmjijnkndgjdfaaK2
import Derived.Test.YtmjijnkndgjdfaaRows
import Derived.KernelRfl
namespace Go.Proofs.Ytmjijnkndgjdfaa
open Go.Fw

theorem takeE_bne (l : List Entry) : (decide (takeE l 0 = 0) != decide ((l.length : Int) > 0)) = false := by
  rw [takeE_zero]
  cases l with
  | nil => rfl
  | cons x l => exact bne_of (by simp)
theorem putE_bne (r : Int) (l : List Entry) (x : Entry) : (decide (putE r l x = 0) != (right x && decide ((l.length : Int) < r))) = false := by
  unfold putE
  cases hr : right x with
  | false => rfl
  | true =>
    rw [if_pos rfl]
    by_cases h : r ≤ (l.length : Int)
    · rw [if_pos h]; simp <;> omega
    · rw [if_neg h]; simp <;> omega
theorem putE_big {r : Int} {l : List Entry} {x : Entry} (h : putE r l x ≠ 0) : (decide (putE r l x = 2) != right x) = false := by
  unfold putE at *
  cases hr : right x with
  | false => rfl
  | true =>
    rw [hr, if_pos rfl] at h
    by_cases h2 : r ≤ (l.length : Int)
    · rw [if_pos rfl, if_pos h2]; rfl
    · rw [if_neg h2] at h; exact absurd rfl h
theorem putL_yes {r : Int} {l : List Entry} {x : Entry} (h : (right x && decide ((l.length : Int) < r)) = true) : (l.length : Int) + 1 = ((putL r l x).length : Int) := by
  rw [Bool.and_eq_true, decide_eq_true_eq] at h
  rw [putL_ok h.1 (by omega)]; simp
theorem putL_no {r : Int} {l : List Entry} {x : Entry} (h : (right x && decide ((l.length : Int) < r)) = false) : (l.length : Int) = ((putL r l x).length : Int) := by
  have : ¬ (right x = true ∧ ¬ r ≤ (l.length : Int)) := by
    rintro ⟨h1, h2⟩
    rw [h1, Bool.true_and, decide_eq_false_iff_not] at h
    omega
  unfold putL; rw [if_neg this]

theorem C6 (room : Int) (sv : Value) (xs : List Cmd) (w : World) (hL : RdL (fun _ => True) w sv xs) : Calls Try.prog 6 [.int .i64 room, sv].toArray w (Ret fun v w' => v = .bool true ∧ Ext w w') := by
  have hA := andI_range room (b := 7) (by omega) (by omega)
  have hs := St.start w
  refine S6_ok _ _ _ _ ?_
  unfold S6
  refine pop_and (by decide) (by decide) ?_
  refine pop_add (by omega) ?_
  refine callF pl14 (C14 _ _) ?_
  rintro _ w1 hr
  rcases hr with ⟨h, _⟩ | ⟨_, _, b_x19, rfl, hnew⟩
  · exact absurd h (by omega)
  replace hs := hs.made hnew
  refine pop_ext rfl ?_
  refine pop_ext rfl ?_
  refine ⟨_, ?_, fun _ _ h => h⟩
  refine pop_peql und29 ?_
  refine cond_f ?_
  refine pop_neq ?_
  intro dd1
  refine cond_nb (by decide) ?_
  refine ⟨fun m y x w1 => ∃ (k : Nat) (L : List Entry), y = .int .i64 (L.length : Int) ∧ x = .int .i64 (k : Int) ∧ m = 40 - k ∧ k ≤ 40 ∧ (L.length : Int) ≤ (1 + (andI room 7)) ∧ St w none1 [bufO b_x19 (1 + (andI room 7)) L] w1, ⟨_, 0, [], rfl, rfl, rfl, by omega, by simp; omega, hs⟩, ?_⟩
  rintro m _ _ w3 ⟨k, L, rfl, rfl, rfl, hk, hl, hs⟩ dd2
  refine ⟨fun x w' => x = .bool (decide ((k : Int) < xs.length ∧ (k : Int) < 40)) ∧ w' = w3, ?_, ?_⟩
  · skip
    refine pop_len sl44 (hL.ext hs.chg) ?_
    refine pop_lss ?_
    refine cond_d (fun c_x31 => ?_) (fun c_x31 => ?_)
    · skip
      refine pop_lss ?_
      exact ⟨congrArg Value.bool (by first | exact (decide_eq_true (by omega)).symm | exact (decide_eq_false (by omega)).symm | exact decide_eq_decide.2 (by omega)), rfl⟩
    · skip
      exact ⟨congrArg Value.bool (by first | exact (decide_eq_true (by omega)).symm | exact (decide_eq_false (by omega)).symm | exact decide_eq_decide.2 (by omega)), rfl⟩
  · skip
    rintro _ w4 ⟨rfl, hw⟩ dd3
    subst hw
    refine cond_d (fun c_x35 => ?_) (fun c_x35 => ?_)
    · skip
      refine ⟨fun y w' => ∃ L' : List Entry, y = .int .i64 (L'.length : Int) ∧ (L'.length : Int) ≤ (1 + (andI room 7)) ∧ St w none1 [bufO b_x19 (1 + (andI room 7)) L'] w', ?_, ?_⟩
      · skip
        obtain ⟨e_x40, he_x40⟩ : ∃ x, (xs)[((k : Int)).toNat]? = some x := ⟨_, List.getElem?_eq_getElem (by omega)⟩
        refine pop_idx sl44 (hL.ext hs.chg) (by omega) he_x40 (fun q_x40 h_x40 => ?_)
        refine pop_atf (e_x40).kind fld46_0 h_x40 rfl rfl (fun q_x41 h_x41 => ?_)
        refine qop_at ty3 (h_x41) ?_
        refine pop_eql ?_
        refine cond_d (fun c_x43 => ?_) (fun c_x43 => ?_)
        · skip
          refine callMut pl17 hs (H' := fun _ => bufO b_x19 (1 + (andI room 7)) (takeL L 0)) (Φ := fun v _ => v = .tuple #[Flat.val (takeX L 0), .int .i64 (takeE L 0)]) (fun F hF => ?_) ?_
          · exact C17 _ _ _ 0 F _ hF (by first | decide | omega)
          rintro _ w5 rfl hs
          refine pop_ext rfl ?_
          refine pop_ext rfl ?_
          refine eop_allocA hs zero23 (fun b_x10 w6 hs => ?_)
          refine uop_blkV (x := (takeX L 0)) hs ty23 rfl rfl (fun w7 hs => ?_)
          refine pop_eql ?_
          refine pop_gtr ?_
          refine pop_bneq und4 ?_
          refine cond_nb (takeE_bne _) ?_
          refine pop_sub (by omega) ?_
          refine pop_max ?_
          replace hs := hs.drop
          exact ⟨_, congrArg (Value.int .i64) (by rw [takeL_zero, List.length_drop]; omega), by rw [takeL_zero, List.length_drop]; omega, hs⟩
        · skip
          refine pop_idx sl44 (hL.ext hs.chg) (by omega) he_x40 (fun q_x60 h_x60 => ?_)
          refine pop_atfA (e_x40).x fld46_1 h_x60 rfl (fun q_x61 h_x61 => ?_)
          refine qop_at ty23 (h_x61) ?_
          refine callMut pl15 hs (H' := fun _ => bufO b_x19 (1 + (andI room 7)) (putL (1 + (andI room 7)) L (e_x40).x)) (Φ := fun v _ => v = .int .i64 (putE (1 + (andI room 7)) L (e_x40).x)) (fun F hF => ?_) ?_
          · exact C15 _ _ _ (e_x40).x F _ hF (by first | decide | omega)
          rintro _ w8 rfl hs
          refine ⟨fun y w' => y = .bool (right (e_x40).x && decide ((L.length : Int) < (1 + (andI room 7)))) ∧ St w none1 [bufO b_x19 (1 + (andI room 7)) (putL (1 + (andI room 7)) L (e_x40).x)] w', ?_, ?_⟩
          · skip
            refine pop_idx sl44 (hL.ext hs.chg) (by omega) he_x40 (fun q_x66 h_x66 => ?_)
            refine pop_atfA (e_x40).x fld46_1 h_x66 rfl (fun q_x67 h_x67 => ?_)
            refine qop_at ty23 (h_x67) ?_
            refine callF pl11 (C11 (e_x40).x _) ?_
            rintro _ w9 ⟨rfl, he⟩
            replace hs := hs.ext he
            refine cond_b (fun c_x69 => ?_) (fun c_x69 => ?_)
            · skip
              refine pop_lss ?_
              exact ⟨congrArg Value.bool (by rw [c_x69]; rfl), hs⟩
            · skip
              exact ⟨congrArg Value.bool (by rw [c_x69]; rfl), hs⟩
          · skip
            rintro _ w10 ⟨rfl, hs⟩ dd4
            have hpl := putL_room (r := (1 + (andI room 7))) (l := L) (e_x40).x hl
            refine ⟨fun y w' => y = .bool false ∧ St w none1 [bufO b_x19 (1 + (andI room 7)) (putL (1 + (andI room 7)) L (e_x40).x)] w', ?_, ?_⟩
            · skip
              refine pop_eql ?_
              refine pop_bneq und4 ?_
              refine cond_nb (putE_bne _ _ _) ?_
              refine pop_neq ?_
              refine cond_d (fun c_x81 => ?_) (fun c_x81 => ?_)
              · skip
                refine pop_eql ?_
                refine pop_idx sl44 (hL.ext hs.chg) (by omega) he_x40 (fun q_x87 h_x87 => ?_)
                refine pop_atfA (e_x40).x fld46_1 h_x87 rfl (fun q_x88 h_x88 => ?_)
                refine qop_at ty23 (h_x88) ?_
                refine callF pl11 (C11 (e_x40).x _) ?_
                rintro _ w11 ⟨rfl, he⟩
                replace hs := hs.ext he
                refine pop_bneq und4 ?_
                exact ⟨congrArg Value.bool (putE_big c_x81), hs⟩
              · skip
                exact ⟨rfl, hs⟩
            · skip
              rintro _ w12 ⟨rfl, hs⟩ dd5
              refine cond_f ?_
              refine ⟨fun y w' => y = .int .i64 ((putL (1 + (andI room 7)) L (e_x40).x).length : Int) ∧ w' = w12, ?_, ?_⟩
              · skip
                refine cond_b (fun c_ok13 => ?_) (fun c_ok13 => ?_)
                · skip
                  refine pop_add (by omega) ?_
                  exact ⟨congrArg (Value.int .i64) (putL_yes c_ok13), rfl⟩
                · skip
                  exact ⟨congrArg (Value.int .i64) (putL_no c_ok13), rfl⟩
              · skip
                rintro _ w13 ⟨rfl, hw⟩ dd6
                subst hw
                refine ⟨fun y w' => y = .bool false ∧ St w none1 [bufO b_x19 (1 + (andI room 7)) (putL (1 + (andI room 7)) L (e_x40).x)] w', ?_, ?_⟩
                · skip
                  refine callF pl18 (C18 _ _ _ _ (bufR_of hs) (by first | decide | omega)) ?_
                  rintro x98 w14 hnew
                  replace hs := hs.made hnew
                  refine pop_len sl27 (hs).rd' ?_
                  refine pop_neq ?_
                  refine cond_nb (by simp) ?_
                  refine callF pl21 (C21 _ _ _ _ (bufR_of hs.p1)) ?_
                  rintro _ w15 ⟨rfl, he⟩
                  replace hs := hs.ext he
                  refine pop_eql ?_
                  refine pop_bneq und4 ?_
                  exact ⟨congrArg Value.bool (bne_of (by omega)), hs.drop⟩
                · skip
                  rintro _ w16 ⟨rfl, hs⟩ dd7
                  refine cond_f ?_
                  exact ⟨_, rfl, hpl, hs⟩
      · skip
        rintro _ w17 ⟨L2, rfl, hl2, hs⟩ dd8
        refine pop_add (by omega) ?_
        exact ⟨40 - (k + 1), by omega, k + 1, _, rfl, rfl, rfl, by omega, hl2, hs⟩
    · skip
      refine callF pl13 (C13 _) ?_
      rintro _ w18 ⟨rfl, he⟩
      replace hs := hs.ext he
      exact ⟨rfl, hs.chg⟩

namespace bufferRoom
open Go.ChangeShapes Go.WideShapes Go.ChangeAt Go.RowKit
theorem contract (H : Type) (enc : TypeId × Value → H) (W : World) (base : Nat) (args : Array Value) (ds gs : List (DataW H)) (before : List MemPlace)
    (hval : ∀ (j : Nat) t v, Try.f6.params[j]? = some t → args[j]? = some v → Value.okWide Try.prog W .any base t v)
    (hW : DataW.Whole enc Try.prog Try.f6.params.toList Rows.bufferRoomSpec.vars false W args.toList ds gs before) :
    Calls Try.prog 6 args W fun e W' => ∃ v, e = .returned v ∧ Rows.bufferRoomSpec.post enc Try.prog Try.f6 false true false false W args v W' := by
  have hW' := hW
  obtain ⟨p, q, hA0, hV, _, _, _⟩ := hW
  have hA : DataW.TrodAll enc Try.prog W 0 (fun _ => true) true Try.f6.params.toList args.toList ds p := hA0
  rw [Try.params6] at hA hval
  obtain ⟨v0, vs0, d0, ds0, p0, q0, hargs, hds, _, h0, r0⟩ := trodAll_cons hA
  obtain ⟨v1, vs1, d1, ds1, p1, q1, rfl, rfl, _, h1, r1⟩ := trodAll_cons r0
  obtain ⟨rfl, rfl, _⟩ := trodAll_nil r1
  obtain rfl : args = #[v0, v1] := by cases args; simp_all
  obtain ⟨a, rfl, ok_a⟩ := open_i64 Try.underlying3 (hval 0 3 v0 rfl rfl) h0
  obtain ⟨xs, hL_x, ok_x⟩ := open_sl Try.underlying44 rdC (hval 1 44 v1 rfl rfl) h1
  refine (C6 a v1 xs W (hL_x.mono fun _ _ => trivial)).mono fun e W' ⟨v, he, hv, hext⟩ => ?_
  subst hv
  refine ⟨_, he, post_true rfl (fun ds h => ?_) rfl Try.underlying4 (by kernel_rfl) (by kernel_rfl) hW' hext.below⟩
  match ds, h with
  | [e0, e1], _ => rfl
set_option maxRecDepth 100000 in
theorem lifted (os : Os) (started : os.Started) (H : Type) (enc : TypeId × Value → H) :
    ReturnsInHanded {} Try.checked os 6 .any (Rows.bufferRoomSpec.pre6 enc Try.prog Try.f6 Rows.bufferRoomRow.domain false) (Rows.bufferRoomSpec.post enc Try.prog Try.f6 false true false false) := by
  refine returnsInHanded_of_change (C := Try.checked) own started (by kernel_rfl) Try.func6
    (ChangeSpec.witness6 (enc := enc) (C := Try.checked) false ⟨#[], #[.int .i64 0, .slice none 0 0], []⟩ 8 (by kernel_rfl) (by kernel_rfl) (by kernel_rfl) (by kernel_rfl)) ?_
  intro W base args ds gs before hval hW _ _
  exact contract H enc W base args ds gs before hval hW
/-- The statement. -/
theorem proved : Rows.BufferRoomSaid :=
  OpenClaim.holds_of_wide 6 Try.f6 rfl rfl rfl rfl rfl rfl rfl ⟨rfl, rfl, rfl, rfl, rfl⟩ rfl rfl rfl rfl rfl (by kernel_rfl) Try.func6 (by kernel_rfl)
    (of_decide_eq_true (by kernel_rfl)) (by unfold Func.isWrapper; first | (rw [if_pos (by decide +kernel)]; kernel_rfl) | (rw [if_neg (by decide +kernel)]; exact ⟨rfl, rfl⟩))
    (fun os started H enc _ => lifted os started H enc)
end bufferRoom

end Go.Proofs.Ytmjijnkndgjdfaa
