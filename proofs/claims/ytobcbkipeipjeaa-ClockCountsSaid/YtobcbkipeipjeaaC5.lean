/-
  Some fixed calls.
-/
import Derived.Test.YtobcbkipeipjeaaC4
namespace Go.Proofs.Ytobcbkipeipjeaa
open Go.Fw

theorem C20  (w : World)  : Calls Try.prog 20 [].toArray w (Ret fun v w' => v = .bool true ∧ Ext w w') := by
  have hs := St.start w
  refine S20_ok  _ _ ?_
  unfold S20
  refine eop_build (([0, 1] : List Int)) hs sl23 rfl rfl (Nat.le_of_ble_eq_true rfl) (fun s_x4 w1 hs => ?_)
  refine pop (bld40_0_3 _  _ ) ?_
  refine pop (bld40_0_1_2 _  _  _ ) ?_
  refine pop (bld40_0_1_3 _  _  _ ) ?_
  refine pop (bld40_0 _ ) ?_
  refine eop_build ([(⟨12, 0, 0, 1, 0⟩ : Event), (⟨12, 1, 1, 0, 0⟩ : Event), (⟨1, 1, 0, 1, 0⟩ : Event), (⟨2, 0, 0, 0, 0⟩ : Event)]) hs sl22 rfl rfl (Nat.le_of_ble_eq_true rfl) (fun s_x9 w2 hs => ?_)
  refine callF pl10 (C10 _ _ [(⟨12, 0, 0, 1, 0⟩ : Event), (⟨12, 1, 1, 0, 0⟩ : Event), (⟨1, 1, 0, 1, 0⟩ : Event), (⟨2, 0, 0, 0, 0⟩ : Event)] ([0, 1] : List Int) 2 _ (hs).rd' (hs.p1).rd' (by first | decide | omega)) ?_
  rintro x12 w3 hr
  rcases hr with ⟨h, _⟩ | ⟨_, hnew⟩
  · exact absurd h (show ¬ thr [(⟨12, 0, 0, 1, 0⟩ : Event), (⟨12, 1, 1, 0, 0⟩ : Event), (⟨1, 1, 0, 1, 0⟩ : Event), (⟨2, 0, 0, 0, 0⟩ : Event)] = 0 from by decide +kernel)
  replace hs := hs.made hnew
  obtain ⟨ss_x12, hs⟩ := ownLL.open hs
  refine ⟨_, ?_, fun _ _ h => h⟩
  refine eop_build (([1, 0] : List Int)) hs sl23 rfl rfl (Nat.le_of_ble_eq_true rfl) (fun s_x14 w4 hs => ?_)
  refine eop_build (([0, 1] : List Int)) hs sl23 rfl rfl (Nat.le_of_ble_eq_true rfl) (fun s_x15 w5 hs => ?_)
  refine eop_build (([1, 2] : List Int)) hs sl23 rfl rfl (Nat.le_of_ble_eq_true rfl) (fun s_x16 w6 hs => ?_)
  refine eop_build (([2, 0] : List Int)) hs sl23 rfl rfl (Nat.le_of_ble_eq_true rfl) (fun s_x17 w7 hs => ?_)
  obtain ⟨sv_x18_0, rfl⟩ := (hs.p3).isSV
  obtain ⟨sv_x18_1, rfl⟩ := (hs.p2).isSV
  obtain ⟨sv_x18_2, rfl⟩ := (hs.p1).isSV
  obtain ⟨sv_x18_3, rfl⟩ := (hs).isSV
  refine eop_build ([sv_x18_0, sv_x18_1, sv_x18_2, sv_x18_3]) hs sl26 rfl rfl (Nat.le_of_ble_eq_true rfl) (fun s_x18 w8 hs => ?_)
  replace hs := (hs.rowsNil (α := Int))
  replace hs := hs.p5
  replace hs := hs.p1
  replace hs := hs.rowAdd
  replace hs := hs.p4
  replace hs := hs.p1
  replace hs := hs.rowAdd
  replace hs := hs.p3
  replace hs := hs.p1
  replace hs := hs.rowAdd
  replace hs := hs.p2
  replace hs := hs.p1
  replace hs := hs.rowAdd
  refine callF pl11 (C11 _ _ _ _ _ (RdLL.of hs.p2 hs.p3) (RdLL.of hs.p1 hs) (by decide +kernel) (by decide +kernel)) ?_
  rintro _ w9 ⟨rfl, he⟩
  replace hs := hs.ext he
  refine cond_yb (by decide +kernel) ?_
  refine callF pl16 (C16 _ _ [(⟨12, 0, 0, 1, 0⟩ : Event), (⟨12, 1, 1, 0, 0⟩ : Event), (⟨1, 1, 0, 1, 0⟩ : Event), (⟨2, 0, 0, 0, 0⟩ : Event)] (clkTo (depB ([0, 1] : List Int) 2) (thr [(⟨12, 0, 0, 1, 0⟩ : Event), (⟨12, 1, 1, 0, 0⟩ : Event), (⟨1, 1, 0, 1, 0⟩ : Event), (⟨2, 0, 0, 0, 0⟩ : Event)]).toNat [(⟨12, 0, 0, 1, 0⟩ : Event), (⟨12, 1, 1, 0, 0⟩ : Event), (⟨1, 1, 0, 1, 0⟩ : Event), (⟨2, 0, 0, 0, 0⟩ : Event)] ([(⟨12, 0, 0, 1, 0⟩ : Event), (⟨12, 1, 1, 0, 0⟩ : Event), (⟨1, 1, 0, 1, 0⟩ : Event), (⟨2, 0, 0, 0, 0⟩ : Event)]).length) 0 2 _ (hs.p4).rd' (RdLL.of hs.p2 hs.p3)) ?_
  rintro _ w10 ⟨rfl, he⟩
  replace hs := hs.ext he
  refine cond_yb (by decide +kernel) ?_
  refine callF pl16 (C16 _ _ [(⟨12, 0, 0, 1, 0⟩ : Event), (⟨12, 1, 1, 0, 0⟩ : Event), (⟨1, 1, 0, 1, 0⟩ : Event), (⟨2, 0, 0, 0, 0⟩ : Event)] (clkTo (depB ([0, 1] : List Int) 2) (thr [(⟨12, 0, 0, 1, 0⟩ : Event), (⟨12, 1, 1, 0, 0⟩ : Event), (⟨1, 1, 0, 1, 0⟩ : Event), (⟨2, 0, 0, 0, 0⟩ : Event)]).toNat [(⟨12, 0, 0, 1, 0⟩ : Event), (⟨12, 1, 1, 0, 0⟩ : Event), (⟨1, 1, 0, 1, 0⟩ : Event), (⟨2, 0, 0, 0, 0⟩ : Event)] ([(⟨12, 0, 0, 1, 0⟩ : Event), (⟨12, 1, 1, 0, 0⟩ : Event), (⟨1, 1, 0, 1, 0⟩ : Event), (⟨2, 0, 0, 0, 0⟩ : Event)]).length) 0 1 _ (hs.p4).rd' (RdLL.of hs.p2 hs.p3)) ?_
  rintro _ w11 ⟨rfl, he⟩
  replace hs := hs.ext he
  refine pop_not ?_
  refine cond_yb (by decide +kernel) ?_
  refine callF pl16 (C16 _ _ [(⟨12, 0, 0, 1, 0⟩ : Event), (⟨12, 1, 1, 0, 0⟩ : Event), (⟨1, 1, 0, 1, 0⟩ : Event), (⟨2, 0, 0, 0, 0⟩ : Event)] (clkTo (depB ([0, 1] : List Int) 2) (thr [(⟨12, 0, 0, 1, 0⟩ : Event), (⟨12, 1, 1, 0, 0⟩ : Event), (⟨1, 1, 0, 1, 0⟩ : Event), (⟨2, 0, 0, 0, 0⟩ : Event)]).toNat [(⟨12, 0, 0, 1, 0⟩ : Event), (⟨12, 1, 1, 0, 0⟩ : Event), (⟨1, 1, 0, 1, 0⟩ : Event), (⟨2, 0, 0, 0, 0⟩ : Event)] ([(⟨12, 0, 0, 1, 0⟩ : Event), (⟨12, 1, 1, 0, 0⟩ : Event), (⟨1, 1, 0, 1, 0⟩ : Event), (⟨2, 0, 0, 0, 0⟩ : Event)]).length) 2 0 _ (hs.p4).rd' (RdLL.of hs.p2 hs.p3)) ?_
  rintro _ w12 ⟨rfl, he⟩
  replace hs := hs.ext he
  refine pop_not ?_
  refine cond_yb (by decide +kernel) ?_
  refine callF pl14 (C14 _ _ [(⟨12, 0, 0, 1, 0⟩ : Event), (⟨12, 1, 1, 0, 0⟩ : Event), (⟨1, 1, 0, 1, 0⟩ : Event), (⟨2, 0, 0, 0, 0⟩ : Event)] ([0, 1] : List Int) 2 _ (hs.p4).rd' (hs.p5).rd' (by first | decide | omega)) ?_
  rintro x40 w13 hnew
  replace hs := hs.made hnew
  refine pop (bld43_0_1 _  _ ) ?_
  refine eop_build ([(⟨0, 2⟩ : Two)]) hs sl30 rfl rfl (Nat.le_of_ble_eq_true rfl) (fun s_x42 w14 hs => ?_)
  refine callF pl13 (C13 _ _ _ _ _ (hs.p1).rd' (hs).rd' (by decide +kernel)) ?_
  rintro _ w15 ⟨rfl, he⟩
  replace hs := hs.ext he
  refine cond_yb (by decide +kernel) ?_
  refine eop_build (([1, 5] : List Int)) hs sl23 rfl rfl (Nat.le_of_ble_eq_true rfl) (fun s_x46 w16 hs => ?_)
  refine eop_build (([3] : List Int)) hs sl23 rfl rfl (Nat.le_of_ble_eq_true rfl) (fun s_x47 w17 hs => ?_)
  refine callF pl22 (C22 _ _ _ _ _ (hs.p1).rd' (hs).rd' (by first | decide | omega) (by first | decide | omega)) ?_
  rintro x48 w18 hnew
  replace hs := hs.made hnew
  refine eop_build (([3, 5] : List Int)) hs sl23 rfl rfl (Nat.le_of_ble_eq_true rfl) (fun s_x49 w19 hs => ?_)
  refine callF pl21 (C21 _ _ _ _ _ (hs.p1).rd' (hs).rd' (by decide +kernel)) ?_
  rintro _ w20 ⟨rfl, he⟩
  replace hs := hs.ext he
  refine cond_yb (by decide +kernel) ?_
  refine callF pl18 (C18 _ [(⟨12, 0, 0, 1, 0⟩ : Event), (⟨12, 1, 1, 0, 0⟩ : Event), (⟨1, 1, 0, 1, 0⟩ : Event), (⟨2, 0, 0, 0, 0⟩ : Event)] _ (hs.p10).rd' (by first | decide | omega)) ?_
  rintro _ w21 ⟨rfl, he⟩
  replace hs := hs.ext he
  refine pop_eql ?_
  refine cond_yb (by decide +kernel) ?_
  refine pop (bld40_1 _ ) ?_
  refine eop_build ([(⟨0, 8, 0, 0, 0⟩ : Event)]) hs sl22 rfl rfl (Nat.le_of_ble_eq_true rfl) (fun s_x59 w22 hs => ?_)
  refine callF pl18 (C18 _ [(⟨0, 8, 0, 0, 0⟩ : Event)] _ (hs).rd' (by first | decide | omega)) ?_
  rintro _ w23 ⟨rfl, he⟩
  replace hs := hs.ext he
  refine pop_eql ?_
  refine cond_yb (by decide +kernel) ?_
  refine pop (bld40_1 _ ) ?_
  refine eop_build ([(⟨0, (-1), 0, 0, 0⟩ : Event)]) hs sl22 rfl rfl (Nat.le_of_ble_eq_true rfl) (fun s_x65 w24 hs => ?_)
  refine callF pl10 (C10 _ _ [(⟨0, (-1), 0, 0, 0⟩ : Event)] ([0, 1] : List Int) 2 _ (hs).rd' (hs.p13).rd' (by first | decide | omega)) ?_
  rintro x67 w25 hr
  rcases hr with ⟨_, rfl, he⟩ | ⟨h, _⟩
  rotate_left
  · exact absurd (show thr [(⟨0, (-1), 0, 0, 0⟩ : Event)] = 0 from by decide +kernel) h
  replace hs := hs.ext he
  refine pop_len sl26 (RdL.nil (α := SV) (fun _ => True) w) ?_
  refine pop_eql ?_
  intro dd1
  exact ⟨congrArg Value.bool (by decide), hs.chg⟩

end Go.Proofs.Ytobcbkipeipjeaa
