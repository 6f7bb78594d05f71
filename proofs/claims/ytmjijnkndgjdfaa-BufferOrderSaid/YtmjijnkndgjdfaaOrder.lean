/-
  Proved: BufferOrder returns true for every input, and the input reads as it did. No condition.
-/
import Derived.Test.YtmjijnkndgjdfaaK
import Derived.Test.YtmjijnkndgjdfaaRows
import Derived.KernelRfl
namespace Go.Proofs.Ytmjijnkndgjdfaa
open Go.Fw

def ups (k : Nat) : List Int := (List.range k).map fun (k : Nat) => (k : Int)
theorem ups_len (k : Nat) : (ups k).length = k := by simp [ups]
theorem ups_succ (k : Nat) : ups (k + 1) = ups k ++ [(k : Int)] := by unfold ups; rw [List.range_succ, List.map_append]; rfl
theorem ups_get {k i : Nat} (h : i < k) : (ups k)[i]? = some (i : Int) := by simp [ups, h]
/-- What stands at a place; what a buffer holds whose entries are at these places. -/
def atE (L : List Entry) (p : Int) : Entry := (L[p.toNat]?).getD ⟨0, 0, 0, 0⟩
def bufL (L : List Entry) (pl : List Int) : List Entry := pl.map (atE L)
theorem bufL_len (L : List Entry) (pl : List Int) : (bufL L pl).length = pl.length := by simp [bufL]
theorem bufL_get {L : List Entry} {pl : List Int} {i : Nat} {n : Int} {x : Entry} (h : pl[i]? = some n) (hx : L[n.toNat]? = some x) : (bufL L pl)[i]? = some x := by
  unfold bufL; rw [List.getElem?_map, h, Option.map_some]; unfold atE; rw [hx]; rfl
theorem bufL_start {L : List Entry} {k : Nat} (h : k = L.length) : bufL L (ups k) = L := by
  subst h
  refine List.ext_getElem? fun i => ?_
  by_cases hi : i < L.length
  · rw [bufL_get (ups_get hi) (List.getElem?_eq_getElem (by simpa using hi))]; simp
  · rw [List.getElem?_eq_none (by rw [bufL_len, ups_len]; omega), List.getElem?_eq_none (by omega)]
structure Sit (L : List Entry) (pl : List Int) (lf : List Bool) : Prop where
  inc : pl.Pairwise (· < ·)
  rng : ∀ p ∈ pl, 0 ≤ p ∧ p < L.length
  len : lf.length = L.length
  left : ∀ j : Nat, lf[j]? = some false → (j : Int) ∈ pl
theorem Sit.start {L : List Entry} {k : Nat} (h : k = L.length) : Sit L (ups k) (List.replicate (L.length : Int).toNat false) := by
  subst h
  refine ⟨?_, ?_, by simp, ?_⟩
  · unfold ups; rw [List.pairwise_map]; exact List.pairwise_lt_range.imp fun h => by omega
  · intro p hp
    unfold ups at hp
    obtain ⟨q, hq, rfl⟩ := List.mem_map.1 hp
    have := List.mem_range.1 hq
    omega
  · intro j hj
    have := (List.getElem?_eq_some_iff.1 hj).1
    rw [List.length_replicate] at this
    exact List.mem_of_getElem? (ups_get (by omega))
theorem Sit.next {L : List Entry} {pl : List Int} {lf : List Bool} {a : Nat} {n : Int} (S : Sit L pl lf) (hn : pl[a]? = some n) : Sit L (pl.eraseIdx a) (lf.set n.toNat true) := by
  refine ⟨S.inc.sublist (List.eraseIdx_sublist ..), fun p hp => S.rng p (List.mem_of_mem_eraseIdx hp), by rw [List.length_set]; exact S.len, fun j hj => ?_⟩
  rw [List.getElem?_set] at hj
  split at hj
  · split at hj <;> cases hj
  · rename_i hne
    have hm := S.left j hj
    obtain ⟨i, hi⟩ := List.mem_iff_getElem?.1 hm
    refine List.mem_eraseIdx_iff_getElem?.2 ⟨i, fun hia => hne ?_, hi⟩
    subst hia
    rw [hn] at hi
    have := Option.some.inj hi
    omega
theorem cans_cons (x : Entry) (l : List Entry) : ∃ r, cansL (x :: l) = 0 :: r := by
  unfold cansL
  rw [List.length_cons, List.range_succ_eq_map, List.map_cons, List.filter_cons_of_pos (by exact canB_zero (by simp))]
  exact ⟨_, rfl⟩
theorem cans_ne {l : List Entry} (h : 0 < l.length) : 0 < (cansL l).length := by
  cases l with
  | nil => cases h
  | cons x l => obtain ⟨r, h⟩ := cans_cons x l; rw [h]; simp
theorem cans_first {l : List Entry} {e : Int} (h : (cansL l)[(0 : Int).toNat]? = some e) (hl : 0 < l.length) : e = 0 := by
  cases l with
  | nil => cases hl
  | cons x l => obtain ⟨r, h2⟩ := cans_cons x l; rw [h2] at h; exact (Option.some.inj h).symm
theorem cans_mem {l : List Entry} {i : Nat} {e : Int} (h : (cansL l)[i]? = some e) : canB l e = true := by
  have := List.mem_of_getElem? h; unfold cansL at this; exact (List.mem_filter.1 this).2
theorem bufL_takeL {L : List Entry} {pl : List Int} {a : Int} (h : canB (bufL L pl) a = true) : takeL (bufL L pl) a = bufL L (pl.eraseIdx a.toNat) := by
  rw [takeL_ok h]; unfold bufL; rw [List.eraseIdx_eq_take_drop_succ, List.eraseIdx_eq_take_drop_succ, List.map_append, List.map_take, List.map_drop]
theorem Sit.ord {L : List Entry} {pl : List Int} {lf : List Bool} {a j n : Int} {x y : Entry} {b : Bool} (S : Sit L pl lf) (hc : canB (bufL L pl) a = true) (hn : pl[a.toNat]? = some n)
    (hx : L[n.toNat]? = some x) (hy : L[j.toNat]? = some y) (h0 : 0 ≤ j) (hlt : j < n) (hb : lf[j.toNat]? = some b)
    (ho : x.kind = 3 ∧ y.kind = 3 ∨ x.line = y.line ∧ x.kind ≠ 7 ∧ y.kind ≠ 7 ∨ x.kind = 7 ∨ y.kind = 7) : b = true := by
  cases b with
  | true => rfl
  | false =>
    have hm := S.left _ hb
    rw [Int.toNat_of_nonneg h0] at hm
    obtain ⟨i, hi⟩ := List.mem_iff_getElem?.1 hm
    obtain ⟨hil, hi2⟩ := List.getElem?_eq_some_iff.1 hi
    obtain ⟨hal, ha2⟩ := List.getElem?_eq_some_iff.1 hn
    have hia : i < a.toNat := by
      have hp := List.pairwise_iff_getElem.1 S.inc
      rcases Nat.lt_trichotomy i a.toNat with h | h | h
      · exact h
      · subst h; omega
      · have := hp _ _ hal hil h; omega
    have hlen := canB_lt hc
    rw [canB_in hlen.1 hlen.2 (bufL_get hn hx)] at hc
    have hp : passes x y = true := by
      cases hpp : passes x y with
      | true => rfl
      | false =>
        have : ((bufL L pl).take a.toNat).any (fun y => !passes x y) = true := by
          rw [List.any_eq_true]
          exact ⟨y, List.mem_iff_getElem?.2 ⟨i, by rw [List.getElem?_take, if_pos hia]; exact bufL_get hi hy⟩, by rw [hpp]; rfl⟩
        rw [this] at hc; cases hc
    unfold passes at hp
    have := of_decide_eq_true hp
    omega
theorem putL_of0 {r : Int} {l : List Entry} {x : Entry} (h : putE r l x = 0) : putL r l x = l ++ [x] := by
  unfold putE at h
  split at h
  · split at h
    · cases h
    · rename_i h1 h2; exact putL_ok h1 h2
  · cases h
theorem putL_of {r : Int} {l : List Entry} {x : Entry} (h : ¬ putE r l x = 0) : putL r l x = l := by
  unfold putE at h
  split at h
  · split at h
    · rename_i h2; exact putL_full h2
    · exact absurd rfl h
  · rename_i h1; exact putL_bad (by simpa using h1)

theorem C4 (lv hv : Value) (xs : List Entry) (hw : List Int) (w : World) (hL : RdL (fun _ => True) w lv xs) (hH : RdL (fun _ => True) w hv hw) : Calls Try.prog 4 [lv, hv].toArray w (Ret fun v w' => v = .bool true ∧ Ext w w') := by
  have hs := St.start w
  refine S4_ok _ _ _ _ ?_
  unfold S4
  refine callF pl14 (C14 _ _) ?_
  rintro _ w1 hr
  rcases hr with ⟨h, _⟩ | ⟨_, _, b_x25, rfl, hnew⟩
  · exact absurd h (by omega)
  replace hs := hs.made hnew
  refine pop_ext rfl ?_
  refine pop_ext rfl ?_
  refine ⟨_, ?_, fun _ _ h => h⟩
  refine pop_peql und29 ?_
  refine cond_f ?_
  refine pop_neq ?_
  intro dd1
  refine cond_nb (by decide) ?_
  refine eop_build (([] : List Entry)) hs sl27 rfl rfl (Nat.le_of_ble_eq_true rfl) (fun s_x34 w3 hs => ?_)
  refine ⟨fun m y x w1 => ∃ (k : Nat) (L : List Entry), x = .int .i64 (k : Int) ∧ m = 12 - k ∧ k ≤ 12 ∧ L.length ≤ k ∧ St w none1 [ownL y L, bufO b_x25 16 L] w1, ⟨_, 0, [], rfl, rfl, by omega, Nat.le_refl _, hs⟩, ?_⟩
  rintro m in7 _ w4 ⟨k, L, rfl, rfl, hk, hl, hs⟩ dd2
  refine ⟨fun x w' => x = .bool (decide ((k : Int) < xs.length ∧ (k : Int) < 12)) ∧ w' = w4, ?_, ?_⟩
  · skip
    refine pop_len sl27 (hL.ext hs.chg) ?_
    refine pop_lss ?_
    refine cond_d (fun c_x38 => ?_) (fun c_x38 => ?_)
    · skip
      refine pop_lss ?_
      exact ⟨congrArg Value.bool (by first | exact (decide_eq_true (by omega)).symm | exact (decide_eq_false (by omega)).symm | exact decide_eq_decide.2 (by omega)), rfl⟩
    · skip
      exact ⟨congrArg Value.bool (by first | exact (decide_eq_true (by omega)).symm | exact (decide_eq_false (by omega)).symm | exact decide_eq_decide.2 (by omega)), rfl⟩
  · skip
    rintro _ w5 ⟨rfl, hw⟩ dd3
    subst hw
    refine cond_d (fun c_x42 => ?_) (fun c_x42 => ?_)
    · skip
      refine ⟨_, ?_, fun _ _ h => h⟩
      obtain ⟨e_x47, he_x47⟩ : ∃ x, (xs)[((k : Int)).toNat]? = some x := ⟨_, List.getElem?_eq_getElem (by omega)⟩
      refine pop_idx sl27 (hL.ext hs.chg) (by omega) he_x47 (fun q_x47 h_x47 => ?_)
      refine qop_at ty23 (h_x47) ?_
      refine eop_allocA hs zero23 (fun b_x9 w6 hs => ?_)
      refine uop_blkV (x := e_x47) hs ty23 rfl rfl (fun w7 hs => ?_)
      refine qop_at ty23 hs.At ?_
      refine callMut pl15 hs.p2 (H' := fun _ => bufO b_x25 16 (putL 16 L e_x47)) (Φ := fun v _ => v = .int .i64 (putE 16 L e_x47)) (fun F hF => ?_) ?_
      · exact C15 _ _ _ e_x47 F _ hF (by first | decide | omega | (simp [bufL_len] <;> omega))
      rintro _ w8 rfl hs
      refine pop_eql ?_
      refine cond_d (fun c_x52 => ?_) (fun c_x52 => ?_)
      · skip
        refine qop_at ty23 hs.p1.At ?_
        refine eop_build ([e_x47]) hs sl27 rfl rfl (Nat.le_of_ble_eq_true rfl) (fun s_x55 w9 hs => ?_)
        have hr_x56 := (hs).rd'
        refine eop_append hs.p3 sl27 hr_x56 (by simp; omega) (by decide) (fun s_x56 w10 hs => ?_)
        replace hs := hs.p1.drop
        intro dd4
        refine pop_add (by omega) ?_
        replace hs := (hs.p2).drop
        replace hs := hs.p1
        replace hs := hs.p1
        rw [putL_of0 c_x52] at hs
        exact ⟨12 - (k + 1), by omega, k + 1, _, rfl, rfl, by omega, by rw [List.length_append, List.length_singleton]; omega, hs⟩
      · skip
        intro dd4
        refine pop_add (by omega) ?_
        replace hs := (hs.p1).drop
        replace hs := hs.p1
        rw [putL_of c_x52] at hs
        exact ⟨12 - (k + 1), by omega, k + 1, _, rfl, rfl, by omega, by omega, hs⟩
    · skip
      refine pop_len sl27 (hs).rd' ?_
      refine eop_make false hs sl34 zero4 (by omega) (by omega) (by decide) (fun s_x59 w12 hs => ?_)
      refine eop_build (([] : List Int)) hs sl28 rfl rfl (Nat.le_of_ble_eq_true rfl) (fun s_x60 w13 hs => ?_)
      refine ⟨fun m y x w1 => ∃ k : Nat, x = .int .i64 (k : Int) ∧ m = L.length - k ∧ k ≤ L.length ∧ St w none1 [ownL y (ups k), ownL s_x59 (List.replicate (L.length : Int).toNat false), ownL in7 L, bufO b_x25 16 L] w1, ⟨_, 0, rfl, rfl, by omega, hs⟩, ?_⟩
      rintro m place11 _ w14 ⟨k, rfl, rfl, hk3, hs⟩ dd5
      refine pop_len sl27 (hs.p2).rd' ?_
      refine pop_lss ?_
      refine cond_d (fun c_x64 => ?_) (fun c_x64 => ?_)
      · skip
        refine eop_build ([(k : Int)]) hs sl28 rfl rfl (Nat.le_of_ble_eq_true rfl) (fun s_x69 w15 hs => ?_)
        have hr_x70 := (hs).rd'
        refine eop_append hs.p1 sl28 hr_x70 (by rw [ups_len]; simp; omega) (by decide) (fun s_x70 w16 hs => ?_)
        replace hs := hs.p1.drop
        refine pop_add (by omega) ?_
        rw [← ups_succ] at hs
        exact ⟨L.length - (k + 1), by omega, k + 1, rfl, rfl, by omega, hs⟩
      · skip
        refine ⟨fun m y x w1 => ∃ (i : Nat) (pl : List Int) (lf : List Bool), x = .int .i64 (i : Int) ∧ m = L.length - i ∧ i ≤ L.length ∧ pl.length = L.length - i ∧ Sit L pl lf ∧ St w none1 [ownL y pl, ownL s_x59 lf, ownL in7 L, bufO b_x25 16 (bufL L pl)] w1, ⟨_, 0, ups k, _, rfl, rfl, by omega, by rw [ups_len]; omega, Sit.start (by omega), by rw [bufL_start (by omega)]; exact hs⟩, ?_⟩
        rintro m place11_1 _ w17 ⟨i, pl, lf, rfl, rfl, hi, hpl, S, hs⟩ dd6
        refine pop_len sl27 (hs.p2).rd' ?_
        refine pop_lss ?_
        refine cond_d (fun c_x74 => ?_) (fun c_x74 => ?_)
        · skip
          have hcn := cans_ne (l := bufL L pl) (by rw [bufL_len]; omega)
          refine callF pl16 (C16 _ _ _ _ (bufR_of hs.p3) (by first | decide | omega | (simp [bufL_len] <;> omega))) ?_
          rintro x78 w18 hnew
          replace hs := hs.made hnew
          refine ⟨fun x w' => x = .bool (false) ∧ w' = w18, ?_, ?_⟩
          · skip
            refine pop_len sl28 (hs).rd' ?_
            refine pop_eql ?_
            refine cond_nb (decide_eq_false (by omega)) ?_
            obtain ⟨e_x84, he_x84⟩ : ∃ x, ((cansL (bufL L pl)))[((0 : Int)).toNat]? = some x := ⟨_, List.getElem?_eq_getElem (by omega)⟩
            refine pop_own hs sl28 (by omega) (by omega) (fun q_x84 h_x84 => ?_)
            refine qop_own hs ty3 h_x84 he_x84 ?_
            refine pop_neq ?_
            exact ⟨congrArg Value.bool (decide_eq_false (by rw [cans_first he_x84 (by rw [bufL_len]; omega)]; decide)), rfl⟩
          · skip
            rintro _ w19 ⟨rfl, hw⟩ dd7
            subst hw
            refine cond_f ?_
            refine ⟨fun y w' => ∃ kk : Int, y = .int .i64 kk ∧ 0 ≤ kk ∧ kk < (cansL (bufL L pl)).length ∧ w' = w19, ?_, ?_⟩
            · skip
              refine pop_len sl28 (hH.ext hs.chg) ?_
              refine pop_lss ?_
              refine cond_d (fun c_x91 => ?_) (fun c_x91 => ?_)
              · skip
                obtain ⟨e_x94, he_x94⟩ : ∃ x, (hw)[((i : Int)).toNat]? = some x := ⟨_, List.getElem?_eq_getElem (by omega)⟩
                refine pop_idx sl28 (hH.ext hs.chg) (by omega) he_x94 (fun q_x94 h_x94 => ?_)
                refine qop_at ty3 (h_x94) ?_
                have hA := andI_range e_x94 (b := 65535) (by omega) (by omega)
                refine pop_and (by decide) (by decide) ?_
                refine pop_len sl28 (hs).rd' ?_
                refine pop_rem (by omega) (by omega) ?_
                exact ⟨_, rfl, Int.emod_nonneg _ (by omega), Int.emod_lt_of_pos _ (by omega), rfl⟩
              · skip
                exact ⟨_, rfl, by omega, by omega, rfl⟩
            · skip
              rintro _ w20 ⟨kk, rfl, hk1, hk2, hw⟩ dd8
              subst hw
              obtain ⟨e_x102, he_x102⟩ : ∃ x, ((cansL (bufL L pl)))[(kk).toNat]? = some x := ⟨_, List.getElem?_eq_getElem (by omega)⟩
              refine pop_own hs sl28 (by omega) (by omega) (fun q_x102 h_x102 => ?_)
              have hcan := cans_mem he_x102
              have hal := canB_lt hcan
              rw [bufL_len] at hal
              refine qop_own hs ty3 h_x102 he_x102 ?_
              refine ⟨fun x w' => x = .bool (false) ∧ w' = w20, ?_, ?_⟩
              · skip
                refine pop_lss ?_
                refine cond_d (fun c_x105 => ?_) (fun c_x105 => ?_)
                · skip
                  exact absurd c_x105 (by omega)
                · skip
                  refine pop_len sl28 (hs.p1).rd' ?_
                  refine pop_geq ?_
                  exact ⟨congrArg Value.bool (decide_eq_false (by omega)), rfl⟩
              · skip
                rintro _ w21 ⟨rfl, hw⟩ dd9
                subst hw
                refine cond_f ?_
                obtain ⟨e_pn, he_pn⟩ : ∃ n, pl[(e_x102).toNat]? = some n := ⟨_, List.getElem?_eq_getElem (by omega)⟩
                have hpn := S.rng _ (List.mem_of_getElem? he_pn)
                obtain ⟨e_px, he_px⟩ : ∃ x, L[(e_pn).toNat]? = some x := ⟨_, List.getElem?_eq_getElem (by omega)⟩
                refine callMut pl17 hs.p4 (H' := fun _ => bufO b_x25 16 (takeL (bufL L pl) e_x102)) (Φ := fun v _ => v = .tuple #[Flat.val (takeX (bufL L pl) e_x102), .int .i64 (takeE (bufL L pl) e_x102)]) (fun F hF => ?_) ?_
                · exact C17 _ _ _ e_x102 F _ hF (by first | decide | omega | (simp [bufL_len] <;> omega))
                rintro _ w22 hv hs
                rw [show takeL (bufL L pl) e_x102 = (bufL L (pl.eraseIdx (e_x102).toNat)) from bufL_takeL hcan] at hs
                rw [show takeX (bufL L pl) e_x102 = e_px from by rw [takeX_ok hcan (bufL_get he_pn he_px)], show takeE (bufL L pl) e_x102 = 0 from takeE_ok hcan] at hv
                subst hv
                refine pop_ext rfl ?_
                refine pop_ext rfl ?_
                refine eop_allocA hs zero23 (fun b_x17 w23 hs => ?_)
                refine uop_blkV (x := e_px) hs ty23 rfl rfl (fun w24 hs => ?_)
                refine pop_own hs.p3 sl28 (by omega) (by omega) (fun q_x120 h_x120 => ?_)
                refine qop_own hs.p3 ty3 h_x120 he_pn ?_
                refine ⟨fun x w' => x = .bool false ∧ w' = drew w24, ?_, ?_⟩
                · skip
                  refine pop_neq ?_
                  refine cond_nb (by decide) ?_
                  replace hs := hs.drew
                  refine qop_at ty23 hs.At ?_
                  refine pop_own hs.p5 sl27 (by omega) (by omega) (fun q_x128 h_x128 => ?_)
                  refine qop_own hs.p5 ty23 h_x128 he_px ?_
                  refine pop_stneD eqf23 rfl rfl (eqE e_px e_px) ?_
                  exact ⟨congrArg Value.bool (decide_eq_false (fun h => h rfl)), rfl⟩
                · skip
                  rintro _ w25 ⟨rfl, hw⟩ dd10
                  subst hw
                  replace hs := hs.drew
                  refine cond_f ?_
                  refine ⟨fun m x w1 => ∃ j : Nat, x = .int .i64 (j : Int) ∧ m = (e_pn).toNat - j ∧ (j : Int) ≤ e_pn ∧ St w none1 [blk b_x17 (Flat.enc e_px), bufO b_x25 16 (bufL L (pl.eraseIdx (e_x102).toNat)), ownL x78 (cansL (bufL L pl)), ownL place11_1 pl, ownL s_x59 lf, ownL in7 L] w1, ⟨_, 0, rfl, rfl, by omega, hs⟩, ?_⟩
                  rintro m _ w26 ⟨j, rfl, rfl, hj, hs⟩ dd11
                  refine pop_lss ?_
                  refine cond_d (fun c_x134 => ?_) (fun c_x134 => ?_)
                  · skip
                    obtain ⟨e_x139, he_x139⟩ : ∃ x, (L)[((j : Int)).toNat]? = some x := ⟨_, List.getElem?_eq_getElem (by omega)⟩
                    refine pop_own hs.p5 sl27 (by omega) (by omega) (fun q_x139 h_x139 => ?_)
                    refine qop_own hs.p5 ty23 h_x139 he_x139 ?_
                    refine eop_allocA hs zero23 (fun b_y21 w27 hs => ?_)
                    refine uop_blkV (x := e_x139) hs ty23 rfl rfl (fun w28 hs => ?_)
                    refine ⟨fun x w' => x = .bool (decide ((e_px).kind = 3 ∧ (e_x139).kind = 3 ∨ (e_px).line = (e_x139).line ∧ (e_px).kind ≠ 7 ∧ (e_x139).kind ≠ 7 ∨ (e_px).kind = 7 ∨ (e_x139).kind = 7)) ∧ w' = w28, ?_, ?_⟩
                    · skip
                      refine pop_field fld23_0 ?_
                      refine qop_blk ty3 hs.p1.hb rfl ?_
                      refine pop_eql ?_
                      refine cond_d (fun c_x143 => ?_) (fun c_x143 => ?_)
                      · skip
                        refine pop_field fld23_0 ?_
                        refine qop_blk ty3 hs.hb rfl ?_
                        refine pop_eql ?_
                        refine cond_d (fun c_x147 => ?_) (fun c_x147 => ?_)
                        · skip
                          exact ⟨congrArg Value.bool (by first | exact (decide_eq_true (by omega)).symm | exact (decide_eq_false (by omega)).symm | exact decide_eq_decide.2 (by omega)), rfl⟩
                        · skip
                          refine pop_field fld23_1 ?_
                          refine qop_blk ty3 hs.p1.hb rfl ?_
                          refine pop_field fld23_1 ?_
                          refine qop_blk ty3 hs.hb rfl ?_
                          refine pop_eql ?_
                          refine cond_d (fun c_x154 => ?_) (fun c_x154 => ?_)
                          · skip
                            refine pop_field fld23_0 ?_
                            refine qop_blk ty3 hs.p1.hb rfl ?_
                            refine pop_neq ?_
                            refine cond_d (fun c_x158 => ?_) (fun c_x158 => ?_)
                            · skip
                              refine pop_field fld23_0 ?_
                              refine qop_blk ty3 hs.hb rfl ?_
                              refine pop_neq ?_
                              refine cond_d (fun c_x163 => ?_) (fun c_x163 => ?_)
                              · skip
                                exact ⟨congrArg Value.bool (by first | exact (decide_eq_true (by omega)).symm | exact (decide_eq_false (by omega)).symm | exact decide_eq_decide.2 (by omega)), rfl⟩
                              · skip
                                refine pop_field fld23_0 ?_
                                refine qop_blk ty3 hs.p1.hb rfl ?_
                                refine pop_eql ?_
                                refine cond_d (fun c_x169 => ?_) (fun c_x169 => ?_)
                                · skip
                                  exact ⟨congrArg Value.bool (by first | exact (decide_eq_true (by omega)).symm | exact (decide_eq_false (by omega)).symm | exact decide_eq_decide.2 (by omega)), rfl⟩
                                · skip
                                  refine pop_field fld23_0 ?_
                                  refine qop_blk ty3 hs.hb rfl ?_
                                  refine pop_eql ?_
                                  exact ⟨congrArg Value.bool (by first | exact (decide_eq_true (by omega)).symm | exact (decide_eq_false (by omega)).symm | exact decide_eq_decide.2 (by omega)), rfl⟩
                            · skip
                              refine pop_field fld23_0 ?_
                              refine qop_blk ty3 hs.p1.hb rfl ?_
                              refine pop_eql ?_
                              refine cond_d (fun c_x169_1 => ?_) (fun c_x169_1 => ?_)
                              · skip
                                exact ⟨congrArg Value.bool (by first | exact (decide_eq_true (by omega)).symm | exact (decide_eq_false (by omega)).symm | exact decide_eq_decide.2 (by omega)), rfl⟩
                              · skip
                                refine pop_field fld23_0 ?_
                                refine qop_blk ty3 hs.hb rfl ?_
                                refine pop_eql ?_
                                exact ⟨congrArg Value.bool (by first | exact (decide_eq_true (by omega)).symm | exact (decide_eq_false (by omega)).symm | exact decide_eq_decide.2 (by omega)), rfl⟩
                          · skip
                            refine pop_field fld23_0 ?_
                            refine qop_blk ty3 hs.p1.hb rfl ?_
                            refine pop_eql ?_
                            refine cond_d (fun c_x169_2 => ?_) (fun c_x169_2 => ?_)
                            · skip
                              exact ⟨congrArg Value.bool (by first | exact (decide_eq_true (by omega)).symm | exact (decide_eq_false (by omega)).symm | exact decide_eq_decide.2 (by omega)), rfl⟩
                            · skip
                              refine pop_field fld23_0 ?_
                              refine qop_blk ty3 hs.hb rfl ?_
                              refine pop_eql ?_
                              exact ⟨congrArg Value.bool (by first | exact (decide_eq_true (by omega)).symm | exact (decide_eq_false (by omega)).symm | exact decide_eq_decide.2 (by omega)), rfl⟩
                      · skip
                        refine pop_field fld23_1 ?_
                        refine qop_blk ty3 hs.p1.hb rfl ?_
                        refine pop_field fld23_1 ?_
                        refine qop_blk ty3 hs.hb rfl ?_
                        refine pop_eql ?_
                        refine cond_d (fun c_x154_1 => ?_) (fun c_x154_1 => ?_)
                        · skip
                          refine pop_field fld23_0 ?_
                          refine qop_blk ty3 hs.p1.hb rfl ?_
                          refine pop_neq ?_
                          refine cond_d (fun c_x158_1 => ?_) (fun c_x158_1 => ?_)
                          · skip
                            refine pop_field fld23_0 ?_
                            refine qop_blk ty3 hs.hb rfl ?_
                            refine pop_neq ?_
                            refine cond_d (fun c_x163_1 => ?_) (fun c_x163_1 => ?_)
                            · skip
                              exact ⟨congrArg Value.bool (by first | exact (decide_eq_true (by omega)).symm | exact (decide_eq_false (by omega)).symm | exact decide_eq_decide.2 (by omega)), rfl⟩
                            · skip
                              refine pop_field fld23_0 ?_
                              refine qop_blk ty3 hs.p1.hb rfl ?_
                              refine pop_eql ?_
                              refine cond_d (fun c_x169_3 => ?_) (fun c_x169_3 => ?_)
                              · skip
                                exact ⟨congrArg Value.bool (by first | exact (decide_eq_true (by omega)).symm | exact (decide_eq_false (by omega)).symm | exact decide_eq_decide.2 (by omega)), rfl⟩
                              · skip
                                refine pop_field fld23_0 ?_
                                refine qop_blk ty3 hs.hb rfl ?_
                                refine pop_eql ?_
                                exact ⟨congrArg Value.bool (by first | exact (decide_eq_true (by omega)).symm | exact (decide_eq_false (by omega)).symm | exact decide_eq_decide.2 (by omega)), rfl⟩
                          · skip
                            refine pop_field fld23_0 ?_
                            refine qop_blk ty3 hs.p1.hb rfl ?_
                            refine pop_eql ?_
                            refine cond_d (fun c_x169_4 => ?_) (fun c_x169_4 => ?_)
                            · skip
                              exact ⟨congrArg Value.bool (by first | exact (decide_eq_true (by omega)).symm | exact (decide_eq_false (by omega)).symm | exact decide_eq_decide.2 (by omega)), rfl⟩
                            · skip
                              refine pop_field fld23_0 ?_
                              refine qop_blk ty3 hs.hb rfl ?_
                              refine pop_eql ?_
                              exact ⟨congrArg Value.bool (by first | exact (decide_eq_true (by omega)).symm | exact (decide_eq_false (by omega)).symm | exact decide_eq_decide.2 (by omega)), rfl⟩
                        · skip
                          refine pop_field fld23_0 ?_
                          refine qop_blk ty3 hs.p1.hb rfl ?_
                          refine pop_eql ?_
                          refine cond_d (fun c_x169_5 => ?_) (fun c_x169_5 => ?_)
                          · skip
                            exact ⟨congrArg Value.bool (by first | exact (decide_eq_true (by omega)).symm | exact (decide_eq_false (by omega)).symm | exact decide_eq_decide.2 (by omega)), rfl⟩
                          · skip
                            refine pop_field fld23_0 ?_
                            refine qop_blk ty3 hs.hb rfl ?_
                            refine pop_eql ?_
                            exact ⟨congrArg Value.bool (by first | exact (decide_eq_true (by omega)).symm | exact (decide_eq_false (by omega)).symm | exact decide_eq_decide.2 (by omega)), rfl⟩
                    · skip
                      rintro _ w29 ⟨rfl, hw⟩ dd12
                      subst hw
                      refine ⟨fun x w' => x = .bool (false) ∧ w' = w29, ?_, ?_⟩
                      · skip
                        refine cond_d (fun c_ordered22 => ?_) (fun c_ordered22 => ?_)
                        · skip
                          have hll := S.len
                          obtain ⟨e_x180, he_x180⟩ : ∃ x, (lf)[((j : Int)).toNat]? = some x := ⟨_, List.getElem?_eq_getElem (by omega)⟩
                          refine pop_own hs.p5 sl34 (by omega) (by omega) (fun q_x180 h_x180 => ?_)
                          refine qop_own hs.p5 ty4 h_x180 he_x180 ?_
                          refine pop_not ?_
                          exact ⟨congrArg Value.bool (by rw [S.ord hcan he_pn he_px he_x139 (by omega) (by omega) he_x180 c_ordered22]; rfl), rfl⟩
                        · skip
                          exact ⟨rfl, rfl⟩
                      · skip
                        rintro _ w30 ⟨rfl, hw⟩ dd13
                        subst hw
                        refine cond_f ?_
                        refine pop_add (by omega) ?_
                        replace hs := (hs).drop
                        replace hs := hs.p5
                        replace hs := hs.p5
                        replace hs := hs.p5
                        replace hs := hs.p5
                        replace hs := hs.p5
                        replace hs := hs.p5
                        exact ⟨_, by omega, j + 1, rfl, rfl, by omega, hs⟩
                  · skip
                    have hll := S.len
                    obtain ⟨e_x186, he_x186⟩ : ∃ x, (lf)[(e_pn).toNat]? = some x := ⟨_, List.getElem?_eq_getElem (by omega)⟩
                    refine pop_own hs.p4 sl34 (by omega) (by omega) (fun q_x186 h_x186 => ?_)
                    refine uop_own true hs.p4 ty4 h_x186 (by rw [S.len]; omega) (fun w31 hs => ?_)
                    refine eop_build (([] : List Int)) hs sl28 rfl rfl (Nat.le_of_ble_eq_true rfl) (fun s_x187 w32 hs => ?_)
                    refine pop_cutHi sl28 (hs.p5).rd' (by omega) (by omega) (fun s_x190 h_x190 => ?_)
                    have hr_x191 := h_x190
                    refine eop_append hs sl28 hr_x191 (by simp; omega) (by decide) (fun s_x191 w33 hs => ?_)
                    refine pop_add (by omega) ?_
                    refine pop_cutLo sl28 (hs.p5).rd' (by omega) (by omega) (fun s_x196 h_x196 => ?_)
                    have hr_x197 := h_x196
                    refine eop_append hs sl28 hr_x197 (by simp; omega) (by decide) (fun s_x197 w34 hs => ?_)
                    refine pop_add (by omega) ?_
                    replace hs := (hs.p2).drop
                    replace hs := (hs.p3).drop
                    replace hs := (hs.p3).drop
                    replace hs := hs.p2
                    replace hs := hs.p3
                    replace hs := hs.p3
                    replace hs := hs.p3
                    rw [show (e_x102 + 1).toNat = e_x102.toNat + 1 from by omega, eraseIdx_cut] at hs
                    exact ⟨L.length - (i + 1), by omega, i + 1, _, _, rfl, rfl, by omega, by rw [List.length_eraseIdx_of_lt (by omega)]; omega, S.next he_pn, hs⟩
        · skip
          refine ⟨_, ?_, fun _ _ h => h⟩
          refine callF pl18 (C18 _ _ _ _ (bufR_of hs.p3) (by first | decide | omega | (simp [bufL_len] <;> omega))) ?_
          rintro x200 w35 hnew
          replace hs := hs.made hnew
          refine pop_len sl27 (hs).rd' ?_
          refine pop_eql ?_
          refine cond_yb (decide_eq_true (by rw [bufL_len]; omega)) ?_
          refine callF pl13 (C13 _) ?_
          rintro _ w36 ⟨rfl, he⟩
          replace hs := hs.ext he
          intro dd14
          exact ⟨rfl, hs.chg⟩

namespace bufferOrder
open Go.ChangeShapes Go.WideShapes Go.ChangeAt Go.RowKit
theorem contract (H : Type) (enc : TypeId × Value → H) (W : World) (base : Nat) (args : Array Value) (ds gs : List (DataW H)) (before : List MemPlace)
    (hval : ∀ (j : Nat) t v, Try.f4.params[j]? = some t → args[j]? = some v → Value.okWide Try.prog W .any base t v)
    (hW : DataW.Whole enc Try.prog Try.f4.params.toList Rows.bufferOrderSpec.vars false W args.toList ds gs before) :
    Calls Try.prog 4 args W fun e W' => ∃ v, e = .returned v ∧ Rows.bufferOrderSpec.post enc Try.prog Try.f4 false true false false W args v W' := by
  have hW' := hW
  obtain ⟨p, q, hA0, hV, _, _, _⟩ := hW
  have hA : DataW.TrodAll enc Try.prog W 0 (fun _ => true) true Try.f4.params.toList args.toList ds p := hA0
  rw [Try.params4] at hA hval
  obtain ⟨v0, vs0, d0, ds0, p0, q0, hargs, hds, _, h0, r0⟩ := trodAll_cons hA
  obtain ⟨v1, vs1, d1, ds1, p1, q1, rfl, rfl, _, h1, r1⟩ := trodAll_cons r0
  obtain ⟨rfl, rfl, _⟩ := trodAll_nil r1
  obtain rfl : args = #[v0, v1] := by cases args; simp_all
  obtain ⟨x, hL_x, ok_x⟩ := open_sl Try.underlying27 rdE (hval 0 27 v0 rfl rfl) h0
  obtain ⟨y, hL_y, ok_y⟩ := open_sl Try.underlying28 rdI (hval 1 28 v1 rfl rfl) h1
  refine (C4 v0 v1 x y W (hL_x.mono fun _ _ => trivial) (hL_y.mono fun _ _ => trivial)).mono fun e W' ⟨v, he, hv, hext⟩ => ?_
  subst hv
  refine ⟨_, he, post_true rfl (fun ds h => ?_) rfl Try.underlying4 (by kernel_rfl) (by kernel_rfl) hW' hext.below⟩
  match ds, h with
  | [e0, e1], _ => rfl
set_option maxRecDepth 100000 in
theorem lifted (os : Os) (started : os.Started) (H : Type) (enc : TypeId × Value → H) :
    ReturnsInHanded {} Try.checked os 4 .any (Rows.bufferOrderSpec.pre6 enc Try.prog Try.f4 Rows.bufferOrderRow.domain false) (Rows.bufferOrderSpec.post enc Try.prog Try.f4 false true false false) := by
  refine returnsInHanded_of_change (C := Try.checked) own started (by kernel_rfl) Try.func4
    (ChangeSpec.witness6 (enc := enc) (C := Try.checked) false ⟨#[], #[.slice none 0 0, .slice none 0 0], []⟩ 8 (by kernel_rfl) (by kernel_rfl) (by kernel_rfl) (by kernel_rfl)) ?_
  intro W base args ds gs before hval hW _ _
  exact contract H enc W base args ds gs before hval hW
/-- The statement. -/
theorem proved : Rows.BufferOrderSaid :=
  OpenClaim.holds_of_wide 4 Try.f4 rfl rfl rfl rfl rfl rfl rfl ⟨rfl, rfl, rfl, rfl, rfl⟩ rfl rfl rfl rfl rfl (by kernel_rfl) Try.func4 (by kernel_rfl)
    (of_decide_eq_true (by kernel_rfl)) (by unfold Func.isWrapper; first | (rw [if_pos (by decide +kernel)]; kernel_rfl) | (rw [if_neg (by decide +kernel)]; exact ⟨rfl, rfl⟩))
    (fun os started H enc _ => lifted os started H enc)
end bufferOrder

end Go.Proofs.Ytmjijnkndgjdfaa
