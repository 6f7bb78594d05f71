/-
  Proved: BufferCopies returns true for every input, and the input reads as it did. No condition.
-/
import Derived.Test.YtmjijnkndgjdfaaR
import Derived.Test.YtmjijnkndgjdfaaFw15
import Derived.Test.YtmjijnkndgjdfaaRows
import Derived.KernelRfl
namespace Go.Proofs.Ytmjijnkndgjdfaa
open Go.Fw

theorem takeX_zero (x : Entry) (l : List Entry) : takeX (x :: l) 0 = x := by
  have : canB (x :: l) 0 = true := by unfold canB; simp
  rw [takeX_ok this (by rfl)]
theorem canB_zero {l : List Entry} (h : l ≠ []) : canB l 0 = true := by
  cases l with
  | nil => exact absurd rfl h
  | cons x l => unfold canB; simp
theorem takeL_zero (l : List Entry) : takeL l 0 = l.drop 1 := by
  cases l with
  | nil => rw [takeL_bad (canB_out (by simp))]; rfl
  | cons x l => rw [takeL_ok (canB_zero (by simp))]; rfl
theorem takeE_zero (l : List Entry) : takeE l 0 = if l = [] then 1 else 0 := by
  cases l with
  | nil => rw [takeE_bad (by simp)]; rfl
  | cons x l => rw [takeE_ok (canB_zero (by simp))]; simp
theorem putL_len (r : Int) (l : List Entry) (x : Entry) : (putL r l x).length ≤ l.length + 1 := by
  unfold putL; split <;> simp
theorem putL_room {r : Int} {l : List Entry} (x : Entry) (h : (l.length : Int) ≤ r) : ((putL r l x).length : Int) ≤ r := by
  unfold putL; split
  · rename_i hh; simp; omega
  · exact h
theorem bne_self (b : Bool) : (b != b) = false := by cases b <;> rfl
theorem beq_of {p q : Prop} [Decidable p] [Decidable q] (h : p ↔ q) : (decide p == decide q) = true := by
  by_cases hp : p
  · simp [hp, h.1 hp]
  · have hq : ¬ q := fun hq => hp (h.2 hq)
    simp [hp, hq]
theorem bne_of {p q : Prop} [Decidable p] [Decidable q] (h : p ↔ q) : (decide p != decide q) = false := by
  by_cases hp : p
  · simp [hp, h.1 hp]
  · have hq : ¬ q := fun hq => hp (h.2 hq)
    simp [hp, hq]

theorem C8 (lv : Value) (l : List Entry) (w : World) (hL : RdL (fun _ => True) w lv l) : Calls Try.prog 8 [lv].toArray w (Ret fun v w' => v = .bool true ∧ Ext w w') := by
  have hs := St.start w
  refine S8_ok _ _ _ ?_
  unfold S8
  refine callF pl14 (C14 _ _) ?_
  rintro _ w1 hr
  rcases hr with ⟨h, _⟩ | ⟨_, _, b_x11, rfl, hnew⟩
  · exact absurd h (by omega)
  replace hs := hs.made hnew
  refine pop_ext rfl ?_
  refine pop_ext rfl ?_
  refine ⟨_, ?_, fun _ _ h => h⟩
  refine pop_peql und29 ?_
  refine cond_f ?_
  refine pop_neq ?_
  intro dd1
  refine cond_nb (by decide) ?_
  refine ⟨fun m x w1 => ∃ (k : Nat) (L : List Entry), x = .int .i64 (k : Int) ∧ m = 12 - k ∧ k ≤ 12 ∧ L.length ≤ k ∧ St w none1 [bufO b_x11 12 L] w1, ⟨_, 0, [], rfl, rfl, by omega, Nat.le_refl _, hs⟩, ?_⟩
  rintro m _ w3 ⟨k, L, rfl, rfl, hk, hl, hs⟩ dd2
  refine ⟨fun x w' => x = .bool (decide ((k : Int) < l.length ∧ (k : Int) < 12)) ∧ w' = w3, ?_, ?_⟩
  · skip
    refine pop_len sl27 (hL.ext hs.chg) ?_
    refine pop_lss ?_
    refine cond_d (fun c_x23 => ?_) (fun c_x23 => ?_)
    · skip
      refine pop_lss ?_
      exact ⟨congrArg Value.bool (by first | exact (decide_eq_true (by omega)).symm | exact (decide_eq_false (by omega)).symm | exact decide_eq_decide.2 (by omega)), rfl⟩
    · skip
      exact ⟨congrArg Value.bool (by first | exact (decide_eq_true (by omega)).symm | exact (decide_eq_false (by omega)).symm | exact decide_eq_decide.2 (by omega)), rfl⟩
  · skip
    rintro _ w4 ⟨rfl, hw⟩ dd3
    subst hw
    refine cond_d (fun c_x27 => ?_) (fun c_x27 => ?_)
    · skip
      obtain ⟨e_x33, he_x33⟩ : ∃ x, (l)[((k : Int)).toNat]? = some x := ⟨_, List.getElem?_eq_getElem (by omega)⟩
      refine pop_idx sl27 (hL.ext hs.chg) (by omega) he_x33 (fun q_x33 h_x33 => ?_)
      refine qop_at ty23 (h_x33) ?_
      refine callMut pl15 hs (H' := fun _ => bufO b_x11 12 (putL 12 L e_x33)) (Φ := fun v _ => v = .int .i64 (putE 12 L e_x33)) (fun F hF => ?_) ?_
      · exact C15 _ _ _ e_x33 F _ hF (by first | decide | omega)
      rintro _ w5 rfl hs
      refine pop_add (by omega) ?_
      exact ⟨12 - (k + 1), by omega, k + 1, _, rfl, rfl, by omega, Nat.le_trans (putL_len _ _ _) (by omega), hs⟩
    · skip
      refine callF pl25 (C25 _ _ _ _ (bufR_of hs) (by first | decide | omega)) ?_
      rintro _ w6 ⟨b_x37, rfl, hnew⟩
      replace hs := hs.made hnew
      refine pop_peql und29 ?_
      refine cond_f ?_
      refine callF pl18 (C18 _ _ _ _ (bufR_of hs.p1) (by first | decide | omega)) ?_
      rintro x41 w7 hnew
      replace hs := hs.made hnew
      refine ⟨fun m x w1 => ∃ k : Nat, x = .int .i64 (k : Int) ∧ m = L.length - k ∧ k ≤ L.length ∧ St w none1 [ownL x41 L, bufO b_x37 12 L, bufO b_x11 12 L] w1, ⟨_, 0, rfl, rfl, by omega, hs⟩, ?_⟩
      rintro m _ w8 ⟨k, rfl, rfl, hk2, hs⟩ dd4
      refine pop_len sl27 (hs).rd' ?_
      refine pop_lss ?_
      refine cond_d (fun c_x45 => ?_) (fun c_x45 => ?_)
      · skip
        refine callF pl31 (C31 _ _ _ _ _ (bufR_of hs.p2) (by first | decide | omega)) ?_
        rintro _ w9 ⟨rfl, he⟩
        replace hs := hs.ext he
        refine callF pl31 (C31 _ _ _ _ _ (bufR_of hs.p1) (by first | decide | omega)) ?_
        rintro _ w10 ⟨rfl, he⟩
        replace hs := hs.ext he
        refine pop_bneq und4 ?_
        refine cond_nb (bne_self _) ?_
        refine pop_add (by omega) ?_
        exact ⟨L.length - (k + 1), by omega, k + 1, rfl, rfl, by omega, hs⟩
      · skip
        refine ⟨fun m x w1 => ∃ k : Nat, x = .int .i64 (k : Int) ∧ m = L.length - k ∧ k ≤ L.length ∧ St w none1 [ownL x41 L, bufO b_x37 12 (L.drop k), bufO b_x11 12 L] w1, ⟨_, 0, rfl, rfl, by omega, hs⟩, ?_⟩
        rintro m _ w11 ⟨k, rfl, rfl, hk2, hs⟩ dd5
        have hdl : (L.drop k).length ≤ 12 := by rw [List.length_drop]; omega
        refine pop_len sl27 (hs).rd' ?_
        refine pop_lss ?_
        refine cond_d (fun c_x58 => ?_) (fun c_x58 => ?_)
        · skip
          refine callMut pl17 hs.p1 (H' := fun _ => bufO b_x37 12 (takeL (L.drop k) 0)) (Φ := fun v _ => v = .tuple #[Flat.val (takeX (L.drop k) 0), .int .i64 (takeE (L.drop k) 0)]) (fun F hF => ?_) ?_
          · exact C17 _ _ _ 0 F _ hF (by first | decide | omega)
          rintro _ w12 rfl hs
          refine pop_add (by omega) ?_
          rw [takeL_zero, List.drop_drop] at hs
          exact ⟨L.length - (k + 1), by omega, k + 1, rfl, rfl, by omega, hs.p1⟩
        · skip
          refine ⟨_, ?_, fun _ _ h => h⟩
          refine callF pl18 (C18 _ _ _ _ (bufR_of hs.p1) (by first | decide | omega)) ?_
          rintro x64 w13 hnew
          replace hs := hs.made hnew
          refine pop_len sl27 (hs).rd' ?_
          refine pop_eql ?_
          refine cond_yb (by simp; omega) ?_
          refine callF pl18 (C18 _ _ _ _ (bufR_of hs.p3) (by first | decide | omega)) ?_
          rintro x69 w14 hnew
          replace hs := hs.made hnew
          refine callF pl28 (C28 _ _ _ _ _ (hs).rd' (hs.p2).rd' (by first | decide | omega)) ?_
          rintro _ w15 ⟨rfl, he⟩
          replace hs := hs.ext he
          refine cond_yb (by simp) ?_
          refine callF pl21 (C21 _ _ _ _ (bufR_of hs.p4)) ?_
          rintro _ w16 ⟨rfl, he⟩
          replace hs := hs.ext he
          refine pop_len sl27 (hs.p2).rd' ?_
          refine pop_eql ?_
          refine pop_beql und4 ?_
          refine cond_yb (beq_of (by omega)) ?_
          refine callF pl13 (C13 _) ?_
          rintro _ w17 ⟨rfl, he⟩
          replace hs := hs.ext he
          intro dd6
          exact ⟨rfl, hs.chg⟩

namespace bufferCopies
open Go.ChangeShapes Go.WideShapes Go.ChangeAt Go.RowKit
theorem contract (H : Type) (enc : TypeId × Value → H) (W : World) (base : Nat) (args : Array Value) (ds gs : List (DataW H)) (before : List MemPlace)
    (hval : ∀ (j : Nat) t v, Try.f8.params[j]? = some t → args[j]? = some v → Value.okWide Try.prog W .any base t v)
    (hW : DataW.Whole enc Try.prog Try.f8.params.toList Rows.bufferCopiesSpec.vars false W args.toList ds gs before) :
    Calls Try.prog 8 args W fun e W' => ∃ v, e = .returned v ∧ Rows.bufferCopiesSpec.post enc Try.prog Try.f8 false true false false W args v W' := by
  have hW' := hW
  obtain ⟨p, q, hA0, hV, _, _, _⟩ := hW
  have hA : DataW.TrodAll enc Try.prog W 0 (fun _ => true) true Try.f8.params.toList args.toList ds p := hA0
  rw [Try.params8] at hA hval
  obtain ⟨v0, vs0, d0, ds0, p0, q0, hargs, hds, _, h0, r0⟩ := trodAll_cons hA
  obtain ⟨rfl, rfl, _⟩ := trodAll_nil r0
  obtain rfl : args = #[v0] := by cases args; simp_all
  obtain ⟨x, hL_x, ok_x⟩ := open_sl Try.underlying27 rdE (hval 0 27 v0 rfl rfl) h0
  refine (C8 v0 x W (hL_x.mono fun _ _ => trivial)).mono fun e W' ⟨v, he, hv, hext⟩ => ?_
  subst hv
  refine ⟨_, he, post_true rfl (fun ds h => ?_) rfl Try.underlying4 (by kernel_rfl) (by kernel_rfl) hW' hext.below⟩
  match ds, h with
  | [e0], _ => rfl
set_option maxRecDepth 100000 in
theorem lifted (os : Os) (started : os.Started) (H : Type) (enc : TypeId × Value → H) :
    ReturnsInHanded {} Try.checked os 8 .any (Rows.bufferCopiesSpec.pre6 enc Try.prog Try.f8 Rows.bufferCopiesRow.domain false) (Rows.bufferCopiesSpec.post enc Try.prog Try.f8 false true false false) := by
  refine returnsInHanded_of_change (C := Try.checked) own started (by kernel_rfl) Try.func8
    (ChangeSpec.witness6 (enc := enc) (C := Try.checked) false ⟨#[], #[.slice none 0 0], []⟩ 8 (by kernel_rfl) (by kernel_rfl) (by kernel_rfl) (by kernel_rfl)) ?_
  intro W base args ds gs before hval hW _ _
  exact contract H enc W base args ds gs before hval hW
/-- The statement. -/
theorem proved : Rows.BufferCopiesSaid :=
  OpenClaim.holds_of_wide 8 Try.f8 rfl rfl rfl rfl rfl rfl rfl ⟨rfl, rfl, rfl, rfl, rfl⟩ rfl rfl rfl rfl rfl (by kernel_rfl) Try.func8 (by kernel_rfl)
    (of_decide_eq_true (by kernel_rfl)) (by unfold Func.isWrapper; first | (rw [if_pos (by decide +kernel)]; kernel_rfl) | (rw [if_neg (by decide +kernel)]; exact ⟨rfl, rfl⟩))
    (fun os started H enc _ => lifted os started H enc)
end bufferCopies

end Go.Proofs.Ytmjijnkndgjdfaa
