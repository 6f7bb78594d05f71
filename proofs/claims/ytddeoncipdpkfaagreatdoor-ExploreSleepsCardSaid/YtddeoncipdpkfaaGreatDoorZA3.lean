/-
  What goes on sleeping, as the document says it.
-/
import Derived.Test.YtddeoncipdpkfaaGreatDoorZA2
import Derived.Test.YtddeoncipdpkfaaGreatDoorZFw11
import Derived.KernelRfl
set_option linter.all false
namespace Go.Proofs.YtddeoncipdpkfaaGreatDoor
open Go.Fw

set_option maxRecDepth 100000

theorem C21 (lv : Value) (ts : List TPickV) (vv : Value) (vs : List TEvent) (d : TEvent) (ov : Value) (of : List Int) (stays : Int) (w : World) (hL : RdL (fun _ => True) w lv ts) (hV : RdL (fun _ => True) w vv vs) (hO : RdL (fun _ => True) w ov of) (hn : ts.length ≤ 1000) : Calls Tryz.prog 21 [lv, vv, Flat.val d, ov, .int .i64 stays].toArray w (Ret fun v w' => ∃ p e, v = .tuple #[p, e] ∧ New (sep (ownL p (slF ts vs d of stays (slN ts vs))) (ownL e (slS ts vs d of stays (slN ts vs)))) w w') := by
  have hs := St.start w
  refine S21_ok _ _ _ _ _ _ _ ?_
  unfold S21
  refine eop_boxV hs (fun b_done7 w1 hs => ?_)
  refine eop_build (([] : List TPickV)) hs sl58 rfl rfl (leb rfl) (fun s_x15 w2 hs => ?_)
  refine eop_build (([] : List TEvent)) hs sl69 rfl rfl (leb rfl) (fun s_x16 w3 hs => ?_)
  replace hs := hs.p2
  replace hs := hs.p1
  replace hs := hs.p2
  refine ⟨fun mm a b i w' => ∃ k : Nat, i = .int .i64 (k : Int) ∧ mm = slN ts vs - k ∧ k ≤ slN ts vs ∧ St w none1 [ownL a (slF ts vs d of stays (k)), ownL b (slS ts vs d of stays (k)), blk b_done7 (Flat.enc d)] w', ⟨_, 0, rfl, rfl, Nat.zero_le _, hs⟩, ?_⟩
  rintro mm a12 b13 _ w4 ⟨k, rfl, rfl, hk, hs⟩ dd1
  refine ⟨fun jv w' => jv = .bool (decide (k < ts.length ∧ ts.length = vs.length)) ∧ w4 = w', ?_, ?_⟩
  · skip
    refine pop_len sl58 (hL.ext hs.chg) ?_
    refine pop_lss ?_
    refine cond_d (fun c_x20 => ?_) (fun c_x20 => ?_)
    · skip
      refine pop_len sl58 (hL.ext hs.chg) ?_
      refine pop_len sl69 (hV.ext hs.chg) ?_
      refine pop_eql ?_
      exact ⟨jvD (by omega), rfl⟩
    · skip
      exact ⟨jvF (by omega), rfl⟩
  · skip
    rintro _ w5 ⟨rfl, hw⟩ dd2
    subst hw
    refine cond_d (fun c_x27 => ?_) (fun c_x27 => ?_)
    · skip
      refine ⟨fun a b w' => St w none1 [ownL a (slF ts vs d of stays (k + 1)), ownL b (slS ts vs d of stays (k + 1)), blk b_done7 (Flat.enc d)] w', ?_, ?_⟩
      · skip
        obtain ⟨hk1, hk2⟩ := c_x27
        have hF := slF_len (l := ts) (v := vs) (d := d) (of := of) (st := stays) (k := k)
        have hS := slS_len (l := ts) (v := vs) (d := d) (of := of) (st := stays) (k := k)
        obtain ⟨e_x32, he_x32⟩ := gx (vs) (i := ((k : Int)).toNat) (by omega)
        refine pop_idx sl69 hV (by omega) he_x32 (fun q_x32 h_x32 => ?_)
        replace hs := hs.drew
        refine qop_at ty42 (h_x32.ext hs.chg) ?_
        refine qop_at ty42 hs.p2.At ?_
        refine callP pl70 hs (C70 e_x32 d _ of stays _ (hO.ext hs.chg)) (fun w6 he hs => ?_)
        refine pop_not ?_
        refine cond_b (fun c_x38 => ?_) (fun c_x38 => ?_)
        · skip
          obtain ⟨e_x42, he_x42⟩ := gx (ts) (i := ((k : Int)).toNat) (by omega)
          refine pop_idx sl58 hL (by omega) he_x42 (fun q_x42 h_x42 => ?_)
          refine qop_at ty47 (h_x42.ext hs.chg) ?_
          refine eop_build ([e_x42]) hs sl58 rfl rfl (leb rfl) (fun s_x44 w7 hs => ?_)
          have hr_x45 := (hs).rd'
          refine eop_append hs.p1 sl58 hr_x45 (by simp; omega) (by decide) (fun s_x45 w8 hs => ?_)
          replace hs := hs.p1.drop
          refine pop_idx sl69 hV (by omega) he_x32 (fun q_x49 h_x49 => ?_)
          refine qop_at ty42 (h_x49.ext hs.chg) ?_
          refine eop_build ([e_x32]) hs sl69 rfl rfl (leb rfl) (fun s_x51 w9 hs => ?_)
          have hr_x52 := (hs).rd'
          refine eop_append hs.p2 sl69 hr_x52 (by simp; omega) (by decide) (fun s_x52 w10 hs => ?_)
          replace hs := hs.p1.drop
          replace hs := hs.p2
          replace hs := hs.p1
          replace hs := hs.p2
          rw [slF_yes (k := k) he_x42 he_x32 (by simpa using c_x38), slS_yes (k := k) he_x42 he_x32 (by simpa using c_x38)]
          exact hs
        · skip
          replace hs := hs.p2
          replace hs := hs.p2
          replace hs := hs.p2
          obtain ⟨e_x42, he_x42⟩ : ∃ e, ts[k]? = some e := ⟨_, List.getElem?_eq_getElem (by omega)⟩
          rw [slF_no (k := k) he_x42 he_x32 (by simpa using c_x38), slS_no (k := k) he_x42 he_x32 (by simpa using c_x38)]
          exact hs
      · skip
        intro a12_1 b13_1 w11 hs dd3
        refine pop_add (by omega) ?_
        replace hs := hs.p2
        replace hs := hs.p2
        replace hs := hs.p2
        have hN : slN ts vs = ts.length := if_pos c_x27.2
        exact ⟨_, by omega, k + 1, rfl, rfl, by omega, hs⟩
    · skip
      replace hs := (hs.p2).drop
      replace hs := hs.p1
      replace hs := hs.p1
      have hN : k = slN ts vs := by unfold slN at hk ⊢; split at hk <;> rename_i h <;> first | (rw [if_pos h]; omega) | (rw [if_neg h]; omega)
      subst hN
      exact ⟨_, _, rfl, (hs.join).fresh⟩

end Go.Proofs.YtddeoncipdpkfaaGreatDoor
