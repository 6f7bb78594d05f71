/-
  Proved: BufferDoes returns true for every input, and the input reads as it did. No condition.
-/
import Derived.Test.YtmjijnkndgjdfaaK2
import Derived.Test.YtmjijnkndgjdfaaFw16
import Derived.Test.YtmjijnkndgjdfaaRows
import Derived.KernelRfl
namespace Go.Proofs.Ytmjijnkndgjdfaa
open Go.Fw

theorem takeL_room {r i : Int} {l : List Entry} (h : (l.length : Int) ≤ r) : ((takeL l i).length : Int) ≤ r := by
  unfold takeL; split
  · have := List.length_eraseIdx_le l i.toNat; omega
  · exact h

theorem C7a (room : Int) (sv : Value) (xs : List Cmd) (w : World) (hL : RdL (fun _ => True) w sv xs) (hR : room < 1 ∨ 16 < room) : Calls Try.prog 7 [.int .i64 room, sv].toArray w (Ret fun v w' => v = .bool true ∧ Ext w w') := by
  have hs := St.start w
  refine S7_ok _ _ _ _ ?_
  unfold S7
  refine callF pl14 (C14 _ _) ?_
  rintro _ w1 hr
  rcases hr.symm with ⟨h, h2, _⟩ | ⟨_, rfl, he⟩
  · omega
  replace hs := hs.ext he
  refine pop_ext rfl ?_
  refine pop_ext rfl ?_
  refine callF pl22 (C22 _ _) ?_
  rintro _ w2 hr
  rcases hr.symm with ⟨h, h2, _⟩ | ⟨_, rfl, he⟩
  · omega
  replace hs := hs.ext he
  refine pop_ext rfl ?_
  refine pop_ext rfl ?_
  refine ⟨fun x w' => x = .bool (false) ∧ w' = w2, ?_, ?_⟩
  · skip
    refine pop_neq ?_
    refine cond_nb (by decide) ?_
    refine pop_peql und29 ?_
    refine pop_peql und48 ?_
    refine pop_bneq und4 ?_
    exact ⟨congrArg Value.bool rfl, rfl⟩
  · skip
    rintro _ w3 ⟨rfl, hw⟩ dd1
    subst hw
    refine cond_f ?_
    refine ⟨_, ?_, fun _ _ h => h⟩
    refine pop_peql und29 ?_
    refine cond_yb (rfl) ?_
    intro dd2
    refine cond_t ?_
    refine callF pl13 (C13 _) ?_
    rintro _ w5 ⟨rfl, he⟩
    replace hs := hs.ext he
    exact ⟨rfl, hs.chg⟩

theorem C7b (room : Int) (sv : Value) (xs : List Cmd) (w : World) (hL : RdL (fun _ => True) w sv xs) (hR : 1 ≤ room ∧ room ≤ 16) : Calls Try.prog 7 [.int .i64 room, sv].toArray w (Ret fun v w' => v = .bool true ∧ Ext w w') := by
  have hs := St.start w
  refine S7_ok _ _ _ _ ?_
  unfold S7
  refine callF pl14 (C14 _ _) ?_
  rintro _ w1 hr
  rcases hr with ⟨h, _⟩ | ⟨_, _, b_x24, rfl, hnew⟩
  · exact absurd h (by omega)
  replace hs := hs.made hnew
  refine pop_ext rfl ?_
  refine pop_ext rfl ?_
  refine callF pl22 (C22 _ _) ?_
  rintro _ w2 hr
  rcases hr with ⟨h, _⟩ | ⟨_, _, b_x29, rfl, hnew⟩
  · exact absurd h (by omega)
  replace hs := hs.made hnew
  refine pop_ext rfl ?_
  refine pop_ext rfl ?_
  refine ⟨fun x w' => x = .bool (false) ∧ w' = w2, ?_, ?_⟩
  · skip
    refine pop_neq ?_
    refine cond_nb (by decide) ?_
    refine pop_peql und29 ?_
    refine pop_peql und48 ?_
    refine pop_bneq und4 ?_
    exact ⟨congrArg Value.bool rfl, rfl⟩
  · skip
    rintro _ w3 ⟨rfl, hw⟩ dd1
    subst hw
    refine cond_f ?_
    refine ⟨_, ?_, fun _ _ h => h⟩
    refine pop_peql und29 ?_
    refine cond_f ?_
    refine pop_peql und48 ?_
    intro dd2
    refine cond_f ?_
    refine ⟨fun m y x w1 => ∃ (i pb : Nat) (L : List Entry), y = .pointer (some ⟨pb, 0, none⟩) ∧ x = .int .i64 (i : Int) ∧ m = 80 - i ∧ i ≤ 80 ∧ (L.length : Int) ≤ room ∧ St w none1 [bufO pb room L, bufO b_x29 room L] w1, ⟨_, 0, b_x24, [], rfl, rfl, rfl, by omega, by simp; omega, hs.p1⟩, ?_⟩
    rintro m _ _ w6 ⟨i, pb, L, rfl, rfl, rfl, hi, hl, hs⟩ dd3
    refine ⟨fun x w' => x = .bool (decide ((i : Int) < xs.length ∧ (i : Int) < 80)) ∧ w' = w6, ?_, ?_⟩
    · skip
      refine pop_len sl44 (hL.ext hs.chg) ?_
      refine pop_lss ?_
      refine cond_d (fun c_x52 => ?_) (fun c_x52 => ?_)
      · skip
        refine pop_lss ?_
        exact ⟨congrArg Value.bool (by first | exact (decide_eq_true (by omega)).symm | exact (decide_eq_false (by omega)).symm | exact decide_eq_decide.2 (by omega)), rfl⟩
      · skip
        exact ⟨congrArg Value.bool (by first | exact (decide_eq_true (by omega)).symm | exact (decide_eq_false (by omega)).symm | exact decide_eq_decide.2 (by omega)), rfl⟩
    · skip
      rintro _ w7 ⟨rfl, hw⟩ dd4
      subst hw
      refine cond_d (fun c_x56 => ?_) (fun c_x56 => ?_)
      · skip
        obtain ⟨e_x61, he_x61⟩ : ∃ x, (xs)[((i : Int)).toNat]? = some x := ⟨_, List.getElem?_eq_getElem (by omega)⟩
        refine pop_idx sl44 (hL.ext hs.chg) (by omega) he_x61 (fun q_x61 h_x61 => ?_)
        refine qop_at ty46 (h_x61) ?_
        refine eop_allocA hs zero46 (fun b_o10 w8 hs => ?_)
        refine uop_blkV (x := e_x61) hs ty46 rfl rfl (fun w9 hs => ?_)
        refine pop (bld23_) ?_
        refine pop (bld23_) ?_
        refine eop_allocA hs zero23 (fun b_p11 w10 hs => ?_)
        refine eop_allocA hs zero23 (fun b_q12 w11 hs => ?_)
        refine uop_blkV (x := (⟨0, 0, 0, 0⟩ : Entry)) hs.p1 ty23 rfl rfl (fun w12 hs => ?_)
        refine uop_blkV (x := (⟨0, 0, 0, 0⟩ : Entry)) hs.p1 ty23 rfl rfl (fun w13 hs => ?_)
        refine ⟨fun b x y w' => ∃ (pb2 : Nat) (L2 : List Entry) (P : Entry) (E : Int), b = .pointer (some ⟨pb2, 0, none⟩) ∧ x = .int .i64 E ∧ y = .int .i64 E ∧ (L2.length : Int) ≤ room ∧ St w none1 [bufO pb2 room L2, bufO b_x29 room L2, blk b_o10 (Flat.enc e_x61), blk b_p11 (Flat.enc P), blk b_q12 (Flat.enc P)] w', ?_, ?_⟩
        · skip
          refine pop_field fld46_0 ?_
          refine qop_blk ty3 hs.p2.hb rfl ?_
          refine pop_eql ?_
          refine cond_d (fun c_x68 => ?_) (fun c_x68 => ?_)
          · skip
            refine pop_field fld46_1 ?_
            refine qop_sub (e_x61).x ty23 hs.p2.hb rfl ?_
            refine callMut pl15 hs.p3 (H' := fun _ => bufO pb room (putL room L (e_x61).x)) (Φ := fun v _ => v = .int .i64 (putE room L (e_x61).x)) (fun F hF => ?_) ?_
            · exact C15 _ _ _ (e_x61).x F _ hF (by first | omega | (have := putL_room (r := room) (l := L) ⟨6, 3, 0, 0⟩ hl; omega))
            rintro _ w14 rfl hs
            refine pop_field fld46_1 ?_
            refine qop_sub (e_x61).x ty23 hs.p3.hb rfl ?_
            refine callMut pl23 hs.p4 (H' := fun _ => bufO b_x29 room (putL room L (e_x61).x)) (Φ := fun v _ => v = .int .i64 (putE room L (e_x61).x)) (fun F hF => ?_) ?_
            · exact C23 _ _ _ (e_x61).x F _ hF (by first | omega | (have := putL_room (r := room) (l := L) ⟨6, 3, 0, 0⟩ hl; omega))
            rintro _ w15 rfl hs
            replace hs := hs.p2
            replace hs := hs.p3
            replace hs := hs.p4
            replace hs := hs.p3
            replace hs := hs.p4
            exact ⟨pb, _, _, _, rfl, rfl, rfl, putL_room _ hl, hs⟩
          · skip
            refine pop_eql ?_
            refine cond_d (fun c_x78 => ?_) (fun c_x78 => ?_)
            · skip
              refine pop_field fld46_2 ?_
              refine qop_blk ty3 hs.p2.hb rfl ?_
              refine callMut pl17 hs.p3 (H' := fun _ => bufO pb room (takeL L (e_x61).i)) (Φ := fun v _ => v = .tuple #[Flat.val (takeX L (e_x61).i), .int .i64 (takeE L (e_x61).i)]) (fun F hF => ?_) ?_
              · exact C17 _ _ _ (e_x61).i F _ hF (by first | omega | (have := putL_room (r := room) (l := L) ⟨6, 3, 0, 0⟩ hl; omega))
              rintro _ w16 rfl hs
              refine pop_ext rfl ?_
              refine pop_ext rfl ?_
              refine uop_blkV (x := (takeX L (e_x61).i)) hs.p2 ty23 rfl rfl (fun w17 hs => ?_)
              refine pop_field fld46_2 ?_
              refine qop_blk ty3 hs.p3.hb rfl ?_
              refine callMut pl24 hs.p4 (H' := fun _ => bufO b_x29 room (takeL L (e_x61).i)) (Φ := fun v _ => v = .tuple #[Flat.val (takeX L (e_x61).i), .int .i64 (takeE L (e_x61).i)]) (fun F hF => ?_) ?_
              · exact C24 _ _ _ (e_x61).i F _ hF (by first | omega | (have := putL_room (r := room) (l := L) ⟨6, 3, 0, 0⟩ hl; omega))
              rintro _ w18 rfl hs
              refine pop_ext rfl ?_
              refine pop_ext rfl ?_
              refine uop_blkV (x := (takeX L (e_x61).i)) hs.p3 ty23 rfl rfl (fun w19 hs => ?_)
              replace hs := hs.p2
              replace hs := hs.p4
              replace hs := hs.p3
              replace hs := hs.p4
              exact ⟨pb, _, _, _, rfl, rfl, rfl, takeL_room hl, hs⟩
            · skip
              refine pop_eql ?_
              refine cond_d (fun c_x94 => ?_) (fun c_x94 => ?_)
              · skip
                refine callF pl25 (C25 _ _ _ _ (bufR_of hs.p3) (by first | omega | (have := putL_room (r := room) (l := L) ⟨6, 3, 0, 0⟩ hl; omega))) ?_
                rintro _ w20 ⟨b_x97, rfl, hnew⟩
                replace hs := hs.made hnew
                refine callF pl26 (C26 _ _) ?_
                rintro _ w21 ⟨rfl, he⟩
                replace hs := hs.ext he
                refine callMut pl15 hs.p4 (H' := fun _ => bufO pb room (putL room L (⟨6, 3, 0, 0⟩ : Entry))) (Φ := fun v _ => v = .int .i64 (putE room L (⟨6, 3, 0, 0⟩ : Entry))) (fun F hF => ?_) ?_
                · exact C15 _ _ _ (⟨6, 3, 0, 0⟩ : Entry) F _ hF (by first | omega | (have := putL_room (r := room) (l := L) ⟨6, 3, 0, 0⟩ hl; omega))
                rintro _ w22 rfl hs
                refine callMut pl17 hs (H' := fun _ => bufO pb room (takeL (putL room L (⟨6, 3, 0, 0⟩ : Entry)) 0)) (Φ := fun v _ => v = .tuple #[Flat.val (takeX (putL room L (⟨6, 3, 0, 0⟩ : Entry)) 0), .int .i64 (takeE (putL room L (⟨6, 3, 0, 0⟩ : Entry)) 0)]) (fun F hF => ?_) ?_
                · exact C17 _ _ _ 0 F _ hF (by first | omega | (have := putL_room (r := room) (l := L) ⟨6, 3, 0, 0⟩ hl; omega))
                rintro _ w23 rfl hs
                refine pop_peql und29 ?_
                refine cond_f ?_
                replace hs := (hs).drop
                replace hs := hs.p1
                replace hs := hs.p2
                replace hs := hs.p3
                replace hs := hs.p4
                replace hs := hs.p4
                exact ⟨b_x97, _, _, _, rfl, rfl, rfl, hl, hs⟩
              · skip
                replace hs := hs.p1
                replace hs := hs.p2
                replace hs := hs.p4
                replace hs := hs.p4
                exact ⟨pb, _, _, _, rfl, rfl, rfl, hl, hs⟩
        · skip
          rintro _ _ _ w24 ⟨pb2, L2, P, E, rfl, rfl, rfl, hl2, hs⟩ dd5
          refine pop_field fld46_1 ?_
          refine pop_field fld23_2 ?_
          refine qop_blk ty3 hs.p2.hb rfl ?_
          refine callF pl20 (C20 _ _ _ _ _ (bufR_of hs) (by first | omega | (have := putL_room (r := room) (l := L) ⟨6, 3, 0, 0⟩ hl; omega))) ?_
          rintro _ w25 ⟨rfl, he⟩
          replace hs := hs.ext he
          refine pop_ext rfl ?_
          refine pop_ext rfl ?_
          refine pop_field fld46_1 ?_
          refine pop_field fld23_2 ?_
          refine qop_blk ty3 hs.p2.hb rfl ?_
          refine callF pl27 (C27 _ _ _ _ _ (bufR_of hs.p1) (by first | omega | (have := putL_room (r := room) (l := L) ⟨6, 3, 0, 0⟩ hl; omega))) ?_
          rintro _ w26 ⟨rfl, he⟩
          replace hs := hs.ext he
          refine pop_ext rfl ?_
          refine pop_ext rfl ?_
          refine callF pl18 (C18 _ _ _ _ (bufR_of hs) (by first | omega | (have := putL_room (r := room) (l := L) ⟨6, 3, 0, 0⟩ hl; omega))) ?_
          rintro x122 w27 hnew
          replace hs := hs.made hnew
          refine ⟨fun x w' => x = .bool false ∧ St w none1 [bufO b_x29 room L2, ownL x122 L2, bufO pb2 room L2] w', ?_, ?_⟩
          · skip
            replace hs := hs.drew
            replace hs := hs.p2
            obtain ⟨svk, hs⟩ := bufO.open hs
            refine qop_at ty23 hs.p5.At ?_
            refine qop_at ty23 hs.p6.At ?_
            refine pop_stneD eqf23 rfl rfl (eqE P P) ?_
            refine cond_nb (decide_eq_false (fun h => h rfl)) ?_
            refine pop_neq ?_
            refine cond_nb (decide_eq_false (fun h => h rfl)) ?_
            refine pop_neq ?_
            refine cond_nb (decide_eq_false (fun h => h rfl)) ?_
            refine pop_bneq und4 ?_
            refine cond_nb (bne_self _) ?_
            refine pop_nil ?_
            refine pop_field fld55_1 ?_
            refine qop_blk ty27 hs.hb rfl ?_
            refine callF pl28 (C28 _ _ _ _ _ (hs.p2).rd' (hs.p1).rd' (by first | omega | (have := putL_room (r := room) (l := L) ⟨6, 3, 0, 0⟩ hl; omega))) ?_
            rintro _ w28 ⟨rfl, he⟩
            replace hs := hs.ext he
            first | refine pop_notd ?_ | refine pop_not ?_
            refine cond_nb (decide_eq_false (fun h => h rfl)) ?_
            refine callF pl16 (C16 _ _ _ _ (bufR_of hs.p3) (by first | omega | (have := putL_room (r := room) (l := L) ⟨6, 3, 0, 0⟩ hl; omega))) ?_
            rintro x152 w29 hnew
            replace hs := hs.made hnew
            refine callF pl30 (C30 _ _ _ _ (BufR.mk' hs.p1.hb hs.p2.rd') (by first | omega | (have := putL_room (r := room) (l := L) ⟨6, 3, 0, 0⟩ hl; omega))) ?_
            rintro x154 w30 hnew
            replace hs := hs.made hnew
            have hcl : (cansL L2).length ≤ L2.length := cansTo_le L2 L2.length
            refine callF pl29 (C29 _ _ _ _ _ (hs.p1).rd' (hs).rd' (by first | omega | (have := putL_room (r := room) (l := L) ⟨6, 3, 0, 0⟩ hl; omega))) ?_
            rintro _ w31 ⟨rfl, he⟩
            replace hs := hs.ext he
            first | refine pop_notd ?_ | refine pop_not ?_
            refine cond_nb (decide_eq_false (fun h => h rfl)) ?_
            refine pop_field fld46_2 ?_
            refine qop_blk ty3 hs.p6.hb rfl ?_
            refine pop_field fld46_2 ?_
            refine qop_blk ty3 hs.p6.hb rfl ?_
            refine callF pl31 (C31 _ _ _ _ _ (bufR_of hs.p5) (by first | omega | (have := putL_room (r := room) (l := L) ⟨6, 3, 0, 0⟩ hl; omega))) ?_
            rintro _ w32 ⟨rfl, he⟩
            replace hs := hs.ext he
            refine ⟨run_loadOne ty3 (hs.p6.hb.cell rfl), ?_⟩
            refine callF pl32 (C32 _ _ _ _ _ (BufR.mk' hs.p2.hb hs.p3.rd') (by first | omega | (have := putL_room (r := room) (l := L) ⟨6, 3, 0, 0⟩ hl; omega))) ?_
            rintro _ w33 ⟨rfl, he⟩
            replace hs := hs.ext he
            refine pop_bneq und4 ?_
            refine cond_nb (bne_self _) ?_
            refine pop_nil ?_
            refine pop_field fld55_1 ?_
            refine qop_blk ty27 hs.p2.hb rfl ?_
            refine pop_len sl27 (hs.p3).rd' ?_
            refine pop_nil ?_
            refine pop_field fld55_0 ?_
            refine qop_blk ty3 hs.p2.hb rfl ?_
            refine pop_geq ?_
            refine callF pl21 (C21 _ _ _ _ (bufR_of hs.p5)) ?_
            rintro _ w34 ⟨rfl, he⟩
            replace hs := hs.ext he
            refine ⟨run_loadOne ty27 (hs.p2.hb.cell rfl), ?_⟩
            refine ⟨run_loadOne ty3 (hs.p2.hb.cell rfl), ?_⟩
            refine pop_bneq und4 ?_
            replace hs := (hs).drop
            replace hs := (hs).drop
            replace hs := (hs.p4).drop
            replace hs := (hs.p4).drop
            replace hs := (hs.p4).drop
            replace hs := hs.p3
            replace hs := hs.p3
            replace hs := hs.p3
            replace hs := hs.p3
            replace hs := bufO.shut hs
            exact ⟨congrArg Value.bool (bne_of Iff.rfl), hs⟩
          · skip
            rintro _ w35 ⟨rfl, hs⟩ dd6
            refine cond_f ?_
            refine ⟨fun m x w1 => ∃ (j : Nat) (l : List Entry), x = .int .i64 (j : Int) ∧ m = L2.length - j ∧ j ≤ L2.length ∧ l.length = L2.length ∧ St w none1 [ownL x122 l, bufO b_x29 room L2, bufO pb2 room L2] w1, ⟨_, 0, L2, rfl, rfl, by omega, rfl, hs.p1⟩, ?_⟩
            rintro m _ w36 ⟨j, l, rfl, rfl, hj, hll, hs⟩ dd7
            refine pop_len sl27 (hs).rd' ?_
            refine pop_lss ?_
            refine cond_d (fun c_x187 => ?_) (fun c_x187 => ?_)
            · skip
              obtain ⟨e_x192, he_x192⟩ : ∃ x, (l)[((j : Int)).toNat]? = some x := ⟨_, List.getElem?_eq_getElem (by omega)⟩
              refine pop_own hs sl27 (by omega) (by omega) (fun q_x192 h_x192 => ?_)
              refine pop_ownf fld23_3 h_x192 (fun q_x193 h_x193 => ?_)
              refine uop_ownf { e_x192 with n := 99 } (99 : Int) hs ty3 h_x193 he_x192 (by decide) rfl (fun w37 hs => ?_)
              refine pop_add (by omega) ?_
              exact ⟨_, by omega, j + 1, _, rfl, rfl, by omega, by rw [List.length_set]; exact hll, hs⟩
            · skip
              refine pop_add (by omega) ?_
              replace hs := (hs).drop
              replace hs := hs.p1
              exact ⟨80 - (i + 1), by omega, i + 1, pb2, _, rfl, rfl, rfl, by omega, hl2, hs⟩
      · skip
        refine callF pl13 (C13 _) ?_
        rintro _ w38 ⟨rfl, he⟩
        replace hs := hs.ext he
        exact ⟨rfl, hs.chg⟩
theorem C7 (room : Int) (sv : Value) (xs : List Cmd) (w : World) (hL : RdL (fun _ => True) w sv xs) : Calls Try.prog 7 [.int .i64 room, sv].toArray w (Ret fun v w' => v = .bool true ∧ Ext w w') := by
  by_cases hR : room < 1 ∨ 16 < room
  · exact C7a room sv xs w hL hR
  · exact C7b room sv xs w hL (by omega)

namespace bufferDoes
open Go.ChangeShapes Go.WideShapes Go.ChangeAt Go.RowKit
theorem contract (H : Type) (enc : TypeId × Value → H) (W : World) (base : Nat) (args : Array Value) (ds gs : List (DataW H)) (before : List MemPlace)
    (hval : ∀ (j : Nat) t v, Try.f7.params[j]? = some t → args[j]? = some v → Value.okWide Try.prog W .any base t v)
    (hW : DataW.Whole enc Try.prog Try.f7.params.toList Rows.bufferDoesSpec.vars false W args.toList ds gs before) :
    Calls Try.prog 7 args W fun e W' => ∃ v, e = .returned v ∧ Rows.bufferDoesSpec.post enc Try.prog Try.f7 false true false false W args v W' := by
  have hW' := hW
  obtain ⟨p, q, hA0, hV, _, _, _⟩ := hW
  have hA : DataW.TrodAll enc Try.prog W 0 (fun _ => true) true Try.f7.params.toList args.toList ds p := hA0
  rw [Try.params7] at hA hval
  obtain ⟨v0, vs0, d0, ds0, p0, q0, hargs, hds, _, h0, r0⟩ := trodAll_cons hA
  obtain ⟨v1, vs1, d1, ds1, p1, q1, rfl, rfl, _, h1, r1⟩ := trodAll_cons r0
  obtain ⟨rfl, rfl, _⟩ := trodAll_nil r1
  obtain rfl : args = #[v0, v1] := by cases args; simp_all
  obtain ⟨a, rfl, ok_a⟩ := open_i64 Try.underlying3 (hval 0 3 v0 rfl rfl) h0
  obtain ⟨xs, hL_x, ok_x⟩ := open_sl Try.underlying44 rdC (hval 1 44 v1 rfl rfl) h1
  refine (C7 a v1 xs W (hL_x.mono fun _ _ => trivial)).mono fun e W' ⟨v, he, hv, hext⟩ => ?_
  subst hv
  refine ⟨_, he, post_true rfl (fun ds h => ?_) rfl Try.underlying4 (by kernel_rfl) (by kernel_rfl) hW' hext.below⟩
  match ds, h with
  | [e0, e1], _ => rfl
set_option maxRecDepth 100000 in
theorem lifted (os : Os) (started : os.Started) (H : Type) (enc : TypeId × Value → H) :
    ReturnsInHanded {} Try.checked os 7 .any (Rows.bufferDoesSpec.pre6 enc Try.prog Try.f7 Rows.bufferDoesRow.domain false) (Rows.bufferDoesSpec.post enc Try.prog Try.f7 false true false false) := by
  refine returnsInHanded_of_change (C := Try.checked) own started (by kernel_rfl) Try.func7
    (ChangeSpec.witness6 (enc := enc) (C := Try.checked) false ⟨#[], #[.int .i64 0, .slice none 0 0], []⟩ 8 (by kernel_rfl) (by kernel_rfl) (by kernel_rfl) (by kernel_rfl)) ?_
  intro W base args ds gs before hval hW _ _
  exact contract H enc W base args ds gs before hval hW
/-- The statement. -/
theorem proved : Rows.BufferDoesSaid :=
  OpenClaim.holds_of_wide 7 Try.f7 rfl rfl rfl rfl rfl rfl rfl ⟨rfl, rfl, rfl, rfl, rfl⟩ rfl rfl rfl rfl rfl (by kernel_rfl) Try.func7 (by kernel_rfl)
    (of_decide_eq_true (by kernel_rfl)) (by unfold Func.isWrapper; first | (rw [if_pos (by decide +kernel)]; kernel_rfl) | (rw [if_neg (by decide +kernel)]; exact ⟨rfl, rfl⟩))
    (fun os started H enc _ => lifted os started H enc)
end bufferDoes

end Go.Proofs.Ytmjijnkndgjdfaa
