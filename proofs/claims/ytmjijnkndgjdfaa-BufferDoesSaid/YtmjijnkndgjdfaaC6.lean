/-
  The calls whose answers the document fixes.
-/
import Derived.Test.YtmjijnkndgjdfaaC5
namespace Go.Proofs.Ytmjijnkndgjdfaa
open Go.Fw

theorem C13  (w : World)  : Calls Try.prog 13 [].toArray w (Ret fun v w' => v = .bool true ∧ Ext w w') := by
  have hs := St.start w
  refine S13_ok  _ _ ?_
  unfold S13
  refine callF pl14 (C14 _ _) ?_
  rintro _ w1 hr
  rcases hr with ⟨h, _⟩ | ⟨_, _, b_x22, rfl, hnew⟩
  · exact absurd h (by omega)
  replace hs := hs.made hnew
  refine pop_ext rfl ?_
  refine pop_ext rfl ?_
  refine callF pl14 (C14 _ _) ?_
  rintro _ w2 hr
  rcases hr.symm with ⟨h, h2, _⟩ | ⟨_, rfl, he⟩
  · omega
  replace hs := hs.ext he
  refine pop_ext rfl ?_
  refine pop_ext rfl ?_
  refine ⟨_, ?_, fun _ _ h => h⟩
  refine pop_peql und29 ?_
  refine cond_f ?_
  refine pop_neq ?_
  intro dd1
  refine cond_nb (by decide) ?_
  refine callF pl26 (C26 _ _) ?_
  rintro _ w4 ⟨rfl, he⟩
  replace hs := hs.ext he
  refine callMut pl15 hs (H' := fun _ => bufO b_x22 3 (putL 3 ([] : List Entry) (⟨6, 0, 0, 0⟩ : Entry))) (Φ := fun v _ => v = .int .i64 (putE 3 ([] : List Entry) (⟨6, 0, 0, 0⟩ : Entry))) (fun F hF => ?_) ?_
  · exact C15 _ _ _ (⟨6, 0, 0, 0⟩ : Entry) F _ hF (by first | decide | omega)
  rintro _ w5 rfl hs
  rw [show putL 3 ([] : List Entry) (⟨6, 0, 0, 0⟩ : Entry) = [(⟨6, 0, 0, 0⟩ : Entry)] from by decide] at hs
  refine callF pl19 (C19 _ _ _ _) ?_
  rintro _ w6 ⟨rfl, he⟩
  replace hs := hs.ext he
  refine callMut pl15 hs (H' := fun _ => bufO b_x22 3 (putL 3 [(⟨6, 0, 0, 0⟩ : Entry)] (⟨3, 1, 5, 7⟩ : Entry))) (Φ := fun v _ => v = .int .i64 (putE 3 [(⟨6, 0, 0, 0⟩ : Entry)] (⟨3, 1, 5, 7⟩ : Entry))) (fun F hF => ?_) ?_
  · exact C15 _ _ _ (⟨3, 1, 5, 7⟩ : Entry) F _ hF (by first | decide | omega)
  rintro _ w7 rfl hs
  rw [show putL 3 [(⟨6, 0, 0, 0⟩ : Entry)] (⟨3, 1, 5, 7⟩ : Entry) = [(⟨6, 0, 0, 0⟩ : Entry), (⟨3, 1, 5, 7⟩ : Entry)] from by decide] at hs
  refine callF pl19 (C19 _ _ _ _) ?_
  rintro _ w8 ⟨rfl, he⟩
  replace hs := hs.ext he
  refine callMut pl15 hs (H' := fun _ => bufO b_x22 3 (putL 3 [(⟨6, 0, 0, 0⟩ : Entry), (⟨3, 1, 5, 7⟩ : Entry)] (⟨3, 0, 2, 8⟩ : Entry))) (Φ := fun v _ => v = .int .i64 (putE 3 [(⟨6, 0, 0, 0⟩ : Entry), (⟨3, 1, 5, 7⟩ : Entry)] (⟨3, 0, 2, 8⟩ : Entry))) (fun F hF => ?_) ?_
  · exact C15 _ _ _ (⟨3, 0, 2, 8⟩ : Entry) F _ hF (by first | decide | omega)
  rintro _ w9 rfl hs
  rw [show putL 3 [(⟨6, 0, 0, 0⟩ : Entry), (⟨3, 1, 5, 7⟩ : Entry)] (⟨3, 0, 2, 8⟩ : Entry) = [(⟨6, 0, 0, 0⟩ : Entry), (⟨3, 1, 5, 7⟩ : Entry), (⟨3, 0, 2, 8⟩ : Entry)] from by decide] at hs
  refine callF pl26 (C26 _ _) ?_
  rintro _ w10 ⟨rfl, he⟩
  replace hs := hs.ext he
  refine callMut pl15 hs (H' := fun _ => bufO b_x22 3 (putL 3 [(⟨6, 0, 0, 0⟩ : Entry), (⟨3, 1, 5, 7⟩ : Entry), (⟨3, 0, 2, 8⟩ : Entry)] (⟨6, 1, 0, 0⟩ : Entry))) (Φ := fun v _ => v = .int .i64 (putE 3 [(⟨6, 0, 0, 0⟩ : Entry), (⟨3, 1, 5, 7⟩ : Entry), (⟨3, 0, 2, 8⟩ : Entry)] (⟨6, 1, 0, 0⟩ : Entry))) (fun F hF => ?_) ?_
  · exact C15 _ _ _ (⟨6, 1, 0, 0⟩ : Entry) F _ hF (by first | decide | omega)
  rintro _ w11 rfl hs
  rw [show putL 3 [(⟨6, 0, 0, 0⟩ : Entry), (⟨3, 1, 5, 7⟩ : Entry), (⟨3, 0, 2, 8⟩ : Entry)] (⟨6, 1, 0, 0⟩ : Entry) = [(⟨6, 0, 0, 0⟩ : Entry), (⟨3, 1, 5, 7⟩ : Entry), (⟨3, 0, 2, 8⟩ : Entry)] from by decide] at hs
  refine pop (bld23_) ?_
  refine callMut pl15 hs (H' := fun _ => bufO b_x22 3 (putL 3 [(⟨6, 0, 0, 0⟩ : Entry), (⟨3, 1, 5, 7⟩ : Entry), (⟨3, 0, 2, 8⟩ : Entry)] (⟨0, 0, 0, 0⟩ : Entry))) (Φ := fun v _ => v = .int .i64 (putE 3 [(⟨6, 0, 0, 0⟩ : Entry), (⟨3, 1, 5, 7⟩ : Entry), (⟨3, 0, 2, 8⟩ : Entry)] (⟨0, 0, 0, 0⟩ : Entry))) (fun F hF => ?_) ?_
  · exact C15 _ _ _ (⟨0, 0, 0, 0⟩ : Entry) F _ hF (by first | decide | omega)
  rintro _ w12 rfl hs
  rw [show putL 3 [(⟨6, 0, 0, 0⟩ : Entry), (⟨3, 1, 5, 7⟩ : Entry), (⟨3, 0, 2, 8⟩ : Entry)] (⟨0, 0, 0, 0⟩ : Entry) = [(⟨6, 0, 0, 0⟩ : Entry), (⟨3, 1, 5, 7⟩ : Entry), (⟨3, 0, 2, 8⟩ : Entry)] from by decide] at hs
  refine callF pl16 (C16 _ _ _ _ (bufR_of hs) (by first | decide | omega)) ?_
  rintro x51 w13 hnew
  replace hs := hs.made hnew
  refine callF pl20 (C20 _ _ _ _ _ (bufR_of hs.p1) (by first | decide | omega)) ?_
  rintro _ w14 ⟨rfl, he⟩
  replace hs := hs.ext he
  refine pop_ext rfl ?_
  refine pop_ext rfl ?_
  refine callF pl20 (C20 _ _ _ _ _ (bufR_of hs.p1) (by first | decide | omega)) ?_
  rintro _ w15 ⟨rfl, he⟩
  replace hs := hs.ext he
  refine pop_ext rfl ?_
  refine pop_ext rfl ?_
  refine callMut pl17 hs.p1 (H' := fun _ => bufO b_x22 3 (takeL [(⟨6, 0, 0, 0⟩ : Entry), (⟨3, 1, 5, 7⟩ : Entry), (⟨3, 0, 2, 8⟩ : Entry)] 2)) (Φ := fun v _ => v = .tuple #[Flat.val (takeX [(⟨6, 0, 0, 0⟩ : Entry), (⟨3, 1, 5, 7⟩ : Entry), (⟨3, 0, 2, 8⟩ : Entry)] 2), .int .i64 (takeE [(⟨6, 0, 0, 0⟩ : Entry), (⟨3, 1, 5, 7⟩ : Entry), (⟨3, 0, 2, 8⟩ : Entry)] 2)]) (fun F hF => ?_) ?_
  · exact C17 _ _ _ 2 F _ hF (by first | decide | omega)
  rintro _ w16 hv hs
  rw [show takeL [(⟨6, 0, 0, 0⟩ : Entry), (⟨3, 1, 5, 7⟩ : Entry), (⟨3, 0, 2, 8⟩ : Entry)] 2 = [(⟨6, 0, 0, 0⟩ : Entry), (⟨3, 1, 5, 7⟩ : Entry), (⟨3, 0, 2, 8⟩ : Entry)] from by decide] at hs
  rw [show takeX [(⟨6, 0, 0, 0⟩ : Entry), (⟨3, 1, 5, 7⟩ : Entry), (⟨3, 0, 2, 8⟩ : Entry)] 2 = (⟨0, 0, 0, 0⟩ : Entry) from by decide, show takeE [(⟨6, 0, 0, 0⟩ : Entry), (⟨3, 1, 5, 7⟩ : Entry), (⟨3, 0, 2, 8⟩ : Entry)] 2 = 13 from by decide] at hv
  subst hv
  refine pop_ext rfl ?_
  refine pop_ext rfl ?_
  refine eop_allocA hs zero23 (fun b_x15 w17 hs => ?_)
  refine uop_blkV (x := (⟨0, 0, 0, 0⟩ : Entry)) hs ty23 rfl rfl (fun w18 hs => ?_)
  refine callMut pl17 hs.p1 (H' := fun _ => bufO b_x22 3 (takeL [(⟨6, 0, 0, 0⟩ : Entry), (⟨3, 1, 5, 7⟩ : Entry), (⟨3, 0, 2, 8⟩ : Entry)] 3)) (Φ := fun v _ => v = .tuple #[Flat.val (takeX [(⟨6, 0, 0, 0⟩ : Entry), (⟨3, 1, 5, 7⟩ : Entry), (⟨3, 0, 2, 8⟩ : Entry)] 3), .int .i64 (takeE [(⟨6, 0, 0, 0⟩ : Entry), (⟨3, 1, 5, 7⟩ : Entry), (⟨3, 0, 2, 8⟩ : Entry)] 3)]) (fun F hF => ?_) ?_
  · exact C17 _ _ _ 3 F _ hF (by first | decide | omega)
  rintro _ w19 hv hs
  rw [show takeL [(⟨6, 0, 0, 0⟩ : Entry), (⟨3, 1, 5, 7⟩ : Entry), (⟨3, 0, 2, 8⟩ : Entry)] 3 = [(⟨6, 0, 0, 0⟩ : Entry), (⟨3, 1, 5, 7⟩ : Entry), (⟨3, 0, 2, 8⟩ : Entry)] from by decide] at hs
  rw [show takeX [(⟨6, 0, 0, 0⟩ : Entry), (⟨3, 1, 5, 7⟩ : Entry), (⟨3, 0, 2, 8⟩ : Entry)] 3 = (⟨0, 0, 0, 0⟩ : Entry) from by decide, show takeE [(⟨6, 0, 0, 0⟩ : Entry), (⟨3, 1, 5, 7⟩ : Entry), (⟨3, 0, 2, 8⟩ : Entry)] 3 = 1 from by decide] at hv
  subst hv
  refine pop_ext rfl ?_
  refine pop_ext rfl ?_
  refine eop_allocA hs zero23 (fun b_x17 w20 hs => ?_)
  refine uop_blkV (x := (⟨0, 0, 0, 0⟩ : Entry)) hs ty23 rfl rfl (fun w21 hs => ?_)
  refine callMut pl17 hs.p1 (H' := fun _ => bufO b_x22 3 (takeL [(⟨6, 0, 0, 0⟩ : Entry), (⟨3, 1, 5, 7⟩ : Entry), (⟨3, 0, 2, 8⟩ : Entry)] 1)) (Φ := fun v _ => v = .tuple #[Flat.val (takeX [(⟨6, 0, 0, 0⟩ : Entry), (⟨3, 1, 5, 7⟩ : Entry), (⟨3, 0, 2, 8⟩ : Entry)] 1), .int .i64 (takeE [(⟨6, 0, 0, 0⟩ : Entry), (⟨3, 1, 5, 7⟩ : Entry), (⟨3, 0, 2, 8⟩ : Entry)] 1)]) (fun F hF => ?_) ?_
  · exact C17 _ _ _ 1 F _ hF (by first | decide | omega)
  rintro _ w22 hv hs
  rw [show takeL [(⟨6, 0, 0, 0⟩ : Entry), (⟨3, 1, 5, 7⟩ : Entry), (⟨3, 0, 2, 8⟩ : Entry)] 1 = [(⟨6, 0, 0, 0⟩ : Entry), (⟨3, 0, 2, 8⟩ : Entry)] from by decide] at hs
  rw [show takeX [(⟨6, 0, 0, 0⟩ : Entry), (⟨3, 1, 5, 7⟩ : Entry), (⟨3, 0, 2, 8⟩ : Entry)] 1 = (⟨3, 1, 5, 7⟩ : Entry) from by decide, show takeE [(⟨6, 0, 0, 0⟩ : Entry), (⟨3, 1, 5, 7⟩ : Entry), (⟨3, 0, 2, 8⟩ : Entry)] 1 = 0 from by decide] at hv
  subst hv
  refine pop_ext rfl ?_
  refine pop_ext rfl ?_
  refine eop_allocA hs zero23 (fun b_x19 w23 hs => ?_)
  refine uop_blkV (x := (⟨3, 1, 5, 7⟩ : Entry)) hs ty23 rfl rfl (fun w24 hs => ?_)
  refine ⟨_, ?_, fun _ _ h => h⟩
  refine pop_eql ?_
  refine cond_yb (by decide) ?_
  refine pop_eql ?_
  refine cond_yb (by decide) ?_
  refine pop_eql ?_
  refine cond_yb (by decide) ?_
  refine pop_eql ?_
  refine cond_yb (by decide) ?_
  refine pop_eql ?_
  refine cond_yb (by decide) ?_
  refine pop_eql ?_
  refine cond_yb (by decide) ?_
  replace hs := hs.drew
  refine eop_build ([0, 1] : List Int) hs sl28 rfl rfl (Nat.le_of_ble_eq_true rfl) (fun s_x101 w25 hs => ?_)
  refine callF pl29 (C29 _ _ _ _ _ (hs.p5).rd' (hs).rd' (by first | decide | omega)) ?_
  rintro _ w26 ⟨rfl, he⟩
  replace hs := hs.ext he
  refine cond_yb (by decide) ?_
  refine pop_eql ?_
  refine cond_yb (by decide) ?_
  refine cond_yb (by decide) ?_
  refine pop_not ?_
  refine cond_yb (by decide) ?_
  refine pop_eql ?_
  refine cond_yb (by decide) ?_
  refine pop_eql ?_
  refine cond_yb (by decide) ?_
  refine qop_at ty23 hs.p1.At ?_
  refine callF pl19 (C19 _ _ _ _) ?_
  rintro _ w27 ⟨rfl, he⟩
  replace hs := hs.ext he
  refine ⟨run_at ty23 hs.p1.At, ?_⟩
  refine pop_steqD eqf23 rfl rfl (eqE (⟨3, 1, 5, 7⟩ : Entry) (⟨3, 1, 5, 7⟩ : Entry)) ?_
  refine cond_yb (by decide) ?_
  refine pop_eql ?_
  refine cond_yb (by decide) ?_
  refine callF pl21 (C21 _ _ _ _ (bufR_of hs.p2)) ?_
  rintro _ w28 ⟨rfl, he⟩
  replace hs := hs.ext he
  first | refine pop_notd ?_ | refine pop_not ?_
  refine cond_yb (by decide) ?_
  refine callF pl18 (C18 _ _ _ _ (bufR_of hs.p2) (by first | decide | omega)) ?_
  rintro x139 w29 hnew
  replace hs := hs.made hnew
  refine callF pl26 (C26 _ _) ?_
  rintro _ w30 ⟨rfl, he⟩
  replace hs := hs.ext he
  refine callF pl19 (C19 _ _ _ _) ?_
  rintro _ w31 ⟨rfl, he⟩
  replace hs := hs.ext he
  refine eop_build ([(⟨6, 0, 0, 0⟩ : Entry), (⟨3, 0, 2, 8⟩ : Entry)] : List Entry) hs sl27 rfl rfl (Nat.le_of_ble_eq_true rfl) (fun s_x142 w32 hs => ?_)
  refine callF pl28 (C28 _ _ _ _ _ (hs.p1).rd' (hs).rd' (by first | decide | omega)) ?_
  rintro _ w33 ⟨rfl, he⟩
  replace hs := hs.ext he
  refine cond_yb (by decide) ?_
  refine callF pl26 (C26 _ _) ?_
  rintro _ w34 ⟨rfl, he⟩
  replace hs := hs.ext he
  refine callF pl19 (C19 _ _ _ _) ?_
  rintro _ w35 ⟨rfl, he⟩
  replace hs := hs.ext he
  refine callF pl9 (C9 (⟨6, 1, 0, 0⟩ : Entry) (⟨3, 0, 0, 0⟩ : Entry) _) ?_
  rintro _ w36 ⟨rfl, he⟩
  replace hs := hs.ext he
  refine cond_yb (by decide) ?_
  refine callF pl26 (C26 _ _) ?_
  rintro _ w37 ⟨rfl, he⟩
  replace hs := hs.ext he
  refine callF pl26 (C26 _ _) ?_
  rintro _ w38 ⟨rfl, he⟩
  replace hs := hs.ext he
  refine callF pl9 (C9 (⟨6, 1, 0, 0⟩ : Entry) (⟨6, 1, 0, 0⟩ : Entry) _) ?_
  rintro _ w39 ⟨rfl, he⟩
  replace hs := hs.ext he
  refine pop_not ?_
  refine cond_yb (by decide) ?_
  refine pop (bld23_0 _ ) ?_
  refine callF pl26 (C26 _ _) ?_
  rintro _ w40 ⟨rfl, he⟩
  replace hs := hs.ext he
  refine callF pl9 (C9 (⟨6, 1, 0, 0⟩ : Entry) (⟨7, 0, 0, 0⟩ : Entry) _) ?_
  rintro _ w41 ⟨rfl, he⟩
  replace hs := hs.ext he
  refine pop_not ?_
  refine cond_yb (by decide) ?_
  refine pop (bld23_0_3 _  _ ) ?_
  refine callF pl11 (C11 (⟨5, 0, 0, 1⟩ : Entry) _) ?_
  rintro _ w42 ⟨rfl, he⟩
  replace hs := hs.ext he
  refine pop_not ?_
  refine cond_yb (by decide) ?_
  refine callF pl31 (C31 _ _ _ _ _ (bufR_of hs.p4) (by first | decide | omega)) ?_
  rintro _ w43 ⟨rfl, he⟩
  replace hs := hs.ext he
  refine cond_yb (by decide) ?_
  refine callF pl31 (C31 _ _ _ _ _ (bufR_of hs.p4) (by first | decide | omega)) ?_
  rintro _ w44 ⟨rfl, he⟩
  replace hs := hs.ext he
  refine pop_not ?_
  intro dd2
  exact ⟨congrArg Value.bool (by decide), hs.chg⟩

end Go.Proofs.Ytmjijnkndgjdfaa
