/-
  What goes on sleeping, as the program says it.
-/
import Derived.Test.YtddeoncipdpkfaaGreatDoorZA3
import Derived.KernelRfl
set_option linter.all false
namespace Go.Proofs.YtddeoncipdpkfaaGreatDoor
open Go.Fw

set_option maxRecDepth 100000

set_option maxHeartbeats 1000000 in
theorem C20 (lv : Value) (l : List TPick) (vv : Value) (vs : List TEvent) (d : TEvent) (ov : Value) (of : List Int) (stays : Int) (w : World) (hL : DL w lv l) (hV : RdL (fun _ => True) w vv vs) (hO : RdL (fun _ => True) w ov of) (hn : l.length ≤ 1000) (hc : ∀ x ∈ l, x.cut.length ≤ 17592186043904) : Calls Tryz.prog 20 [lv, vv, Flat.val d, ov, .int .i64 stays].toArray w (Ret fun v w' => ∃ p e, v = .tuple #[p, e] ∧ New (sep (ownD p (slF l vs d of stays (slN l vs))) (ownL e (slS l vs d of stays (slN l vs)))) w w') := by
  have hs := St.start w
  refine S20_ok _ _ _ _ _ _ _ ?_
  unfold S20
  refine eop_boxV hs (fun b_done7 w1 hs => ?_)
  obtain ⟨ts5, hR5, hD5⟩ := (hL).open
  have hn5 := hD5.1
  refine pop_len sl58 (hR5.ext hs.chg) ?_
  refine pop_len sl69 (hV.ext hs.chg) ?_
  refine pop_neq ?_
  refine cond_d (fun c_x20 => ?_) (fun c_x20 => ?_)
  · skip
    have hN : slN l vs = 0 := if_neg (by omega)
    rw [hN]
    unfold slF slS slTo
    exact ⟨_, _, rfl, (hs.drop.ownNil.dNil.join).fresh⟩
  · skip
    refine pop_len sl58 (hR5.ext hs.chg) ?_
    refine ⟨fun mm a b i w' => ∃ k : Nat, i = .int .i64 (k : Int) ∧ mm = l.length - k ∧ k ≤ l.length ∧ St w none1 [ownD a (slF l vs d of stays k), ownL b (slS l vs d of stays k), blk b_done7 (Flat.enc d)] w', ⟨_, 0, rfl, rfl, Nat.zero_le _, by unfold slF slS slTo; exact hs.ownNil.dNil⟩, ?_⟩
    rintro mm picks12 events13 _ w2 ⟨k, rfl, rfl, hk, hs⟩ dd1
    refine pop_lss ?_
    refine cond_d (fun c_x24 => ?_) (fun c_x24 => ?_)
    · skip
      refine ⟨fun a b w' => St w none1 [ownD a (slF l vs d of stays (k + 1)), ownL b (slS l vs d of stays (k + 1)), blk b_done7 (Flat.enc d)] w', ?_, ?_⟩
      · skip
        have hkk : k < l.length := by omega
        have hF := slF_len (l := l) (v := vs) (d := d) (of := of) (st := stays) (k := k)
        have hS := slS_len (l := l) (v := vs) (d := d) (of := of) (st := stays) (k := k)
        obtain ⟨e_x26, he_x26⟩ := gx ts5 (i := ((k : Int)).toNat) (by omega)
        obtain ⟨r_x26, hr_x26⟩ := gx (l) (i := ((k : Int)).toNat) (by omega)
        obtain ⟨g_cut_x26, rfl, d_cut_x26⟩ := hD5.2 _ _ _ he_x26 hr_x26
        refine pop_idx sl58 hR5 (by omega) he_x26 (fun q_x26 h_x26 => ?_)
        refine qop_at ty47 (h_x26.ext hs.chg) ?_
        refine eop_allocA hs zero47 (fun b_p15 w3 hs => ?_)
        replace hs := hs.enc (cs' := Flat.enc (⟨0, 0, 0, ⟨none, 0, 0⟩⟩ : TPickV)) rfl
        refine uop_blkV (x := (⟨(r_x26).kind, (r_x26).t, (r_x26).i, g_cut_x26⟩ : TPickV)) hs ty47 rfl rfl (fun w4 hs => ?_)
        obtain ⟨e_x30, he_x30⟩ := gx (vs) (i := ((k : Int)).toNat) (by omega)
        refine pop_idx sl69 hV (by omega) he_x30 (fun q_x30 h_x30 => ?_)
        replace hs := hs.drew
        refine qop_at ty42 (h_x30.ext hs.chg) ?_
        refine qop_at ty42 hs.p3.At ?_
        refine callP pl69 hs (C69 e_x30 d _ of stays _ (hO.ext hs.chg)) (fun w5 he hs => ?_)
        refine pop_not ?_
        refine cond_b (fun c_x36 => ?_) (fun c_x36 => ?_)
        · skip
          refine pop_field fld47_3 ?_
          refine qop_blk ty45 hs.hb rfl ?_
          have hf6 := DL.flat (d_cut_x26)
          have hcx := hc _ (List.mem_of_getElem? hr_x26)
          refine callN pl56 hs (C56 _ _ _ (hf6.ext hs.chg) hcx) (fun x39 w6 hnew hs => ?_)
          refine pop_field fld47_3 ?_
          obtain ⟨sv_x39, rfl⟩ := (hs).isSV
          refine uop_blk hs.p1 ty45 (leb rfl) (rfl) (fun w7 hs => ?_)
          replace hs := hs.enc (cs' := Flat.enc (⟨(r_x26).kind, (r_x26).t, (r_x26).i, sv_x39⟩ : TPickV)) rfl
          replace hs := hs.drew
          refine qop_at ty47 hs.At ?_
          refine pop_idx sl69 hV (by omega) he_x30 (fun q_x48 h_x48 => ?_)
          refine qop_at ty42 (h_x48.ext hs.chg) ?_
          refine ⟨?_, ?_⟩
          · skip
            replace hs := hs.p1
            replace hs := hs.freeze
            replace hs := hs.frzMono (Ψ := (fun w => Deep.dr w (⟨(r_x26).kind, (r_x26).t, (r_x26).i, sv_x39⟩ : TPickV) (⟨(r_x26).kind, (r_x26).t, (r_x26).i, ((r_x26).cut)⟩ : TPick))) (fun w h => ⟨_, rfl, DL.unflat h⟩)
            refine eop_buildD1 (s := (⟨(r_x26).kind, (r_x26).t, (r_x26).i, sv_x39⟩ : TPickV)) (x := (⟨(r_x26).kind, (r_x26).t, (r_x26).i, ((r_x26).cut)⟩ : TPick)) hs sl58 (by decide) (fun s_x43 w8 hs => ?_)
            refine ⟨run_at ty42 (h_x48.ext hs.chg), ?_⟩
            refine ⟨?_, ?_⟩
            · skip
              replace hs := hs.p2
              refine eop_appendD hs sl58 (by simp; omega) (by decide) (fun s_x44 w9 hs => ?_)
              refine ⟨run_at ty42 (h_x48.ext hs.chg), ?_⟩
              refine eop_build ([e_x30]) hs sl69 rfl rfl (leb rfl) (fun s_x50 w10 hs => ?_)
              refine ⟨run_at ty47 hs.p2.At, ?_⟩
              have hr_x51 := (hs).rd'
              refine eop_append hs.p3 sl69 hr_x51 (by simp; omega) (by decide) (fun s_x51 w11 hs => ?_)
              replace hs := hs.p1.drop
              replace hs := (hs.p2).drop
              replace hs := hs.p2
              replace hs := hs.p1
              replace hs := hs.p2
              rw [slF_yes (k := k) hr_x26 he_x30 (by simpa using c_x36), slS_yes (k := k) hr_x26 he_x30 (by simpa using c_x36)]
              exact hs
            · skip
              refine ⟨?_, ?_⟩
              · skip
                refine eop_build ([e_x30]) hs sl69 rfl rfl (leb rfl) (fun s_x50_1 w12 hs => ?_)
                refine ⟨run_at ty47 hs.p2.At, ?_⟩
                replace hs := hs.p1
                replace hs := hs.p3
                refine eop_appendD hs sl58 (by simp; omega) (by decide) (fun s_x44_1 w13 hs => ?_)
                refine ⟨run_at ty42 (h_x48.ext hs.chg), ?_⟩
                have hr_x51_1 := (hs.p1).rd'
                refine eop_append hs.p3 sl69 hr_x51_1 (by simp; omega) (by decide) (fun s_x51_1 w14 hs => ?_)
                replace hs := hs.p2.drop
                replace hs := (hs.p2).drop
                replace hs := hs.p2
                replace hs := hs.p1
                replace hs := hs.p2
                rw [slF_yes (k := k) hr_x26 he_x30 (by simpa using c_x36), slS_yes (k := k) hr_x26 he_x30 (by simpa using c_x36)]
                exact hs
              · skip
                trivial
          · skip
            refine ⟨?_, ?_⟩
            · skip
              refine eop_build ([e_x30]) hs sl69 rfl rfl (leb rfl) (fun s_x50_2 w15 hs => ?_)
              refine ⟨run_at ty47 hs.p1.At, ?_⟩
              replace hs := hs.p2
              replace hs := hs.freeze
              replace hs := hs.frzMono (Ψ := (fun w => Deep.dr w (⟨(r_x26).kind, (r_x26).t, (r_x26).i, sv_x39⟩ : TPickV) (⟨(r_x26).kind, (r_x26).t, (r_x26).i, ((r_x26).cut)⟩ : TPick))) (fun w h => ⟨_, rfl, DL.unflat h⟩)
              refine eop_buildD1 (s := (⟨(r_x26).kind, (r_x26).t, (r_x26).i, sv_x39⟩ : TPickV)) (x := (⟨(r_x26).kind, (r_x26).t, (r_x26).i, ((r_x26).cut)⟩ : TPick)) hs sl58 (by decide) (fun s_x43_1 w16 hs => ?_)
              refine ⟨run_at ty42 (h_x48.ext hs.chg), ?_⟩
              replace hs := hs.p3
              refine eop_appendD hs sl58 (by simp; omega) (by decide) (fun s_x44_2 w17 hs => ?_)
              refine ⟨run_at ty42 (h_x48.ext hs.chg), ?_⟩
              have hr_x51_2 := (hs.p1).rd'
              refine eop_append hs.p3 sl69 hr_x51_2 (by simp; omega) (by decide) (fun s_x51_2 w18 hs => ?_)
              replace hs := hs.p2.drop
              replace hs := (hs.p2).drop
              replace hs := hs.p2
              replace hs := hs.p1
              replace hs := hs.p2
              rw [slF_yes (k := k) hr_x26 he_x30 (by simpa using c_x36), slS_yes (k := k) hr_x26 he_x30 (by simpa using c_x36)]
              exact hs
            · skip
              trivial
        · skip
          replace hs := (hs).drop
          replace hs := hs.p2
          replace hs := hs.p2
          replace hs := hs.p2
          rw [slF_no (k := k) hr_x26 he_x30 (by simpa using c_x36), slS_no (k := k) hr_x26 he_x30 (by simpa using c_x36)]
          exact hs
      · skip
        intro picks12_1 events13_1 w19 hs dd2
        refine pop_add (by omega) ?_
        replace hs := hs.p2
        replace hs := hs.p2
        replace hs := hs.p2
        exact ⟨_, by omega, k + 1, rfl, rfl, by omega, hs⟩
    · skip
      replace hs := (hs.p2).drop
      replace hs := hs.p1
      replace hs := hs.p1
      have hN : k = slN l vs := by unfold slN; rw [if_pos (by omega)]; omega
      subst hN
      exact ⟨_, _, rfl, (hs.join).fresh⟩

end Go.Proofs.YtddeoncipdpkfaaGreatDoor
