/-
  Proved: ClockCounts returns true for every input, and the input reads as it did. No condition.
-/
import Derived.Test.YtobcbkipeipjeaaM
import Derived.Test.YtobcbkipeipjeaaFw20
import Derived.Test.YtobcbkipeipjeaaRows
import Derived.KernelRfl
namespace Go.Proofs.Ytobcbkipeipjeaa
open Go.Fw

/-- How many events of each thread there are among the first k. -/
def rkL (xs : List Event) (k : Nat) : List Int := (List.range 8).map fun (t : Nat) => rank (evs xs) (t : Int) k
theorem rkL_len (xs : List Event) (k : Nat) : (rkL xs k).length = 8 := by simp [rkL]
theorem rk_at (xs : List Event) (k : Nat) {t : Int} (h0 : 0 ≤ t) (h8 : t < 8) : (rkL xs k)[t.toNat]? = some (rank (evs xs) t k) := by
  unfold rkL
  rw [List.getElem?_map, List.getElem?_range (by omega), Option.map_some, Int.toNat_of_nonneg h0]
theorem rk_get {xs : List Event} {k : Nat} {t e : Int} (h0 : 0 ≤ t) (h8 : t < 8) (h : (rkL xs k)[t.toNat]? = some e) : e = rank (evs xs) t k := by
  rw [rk_at xs k h0 h8] at h; exact (Option.some.inj h).symm
theorem rk_set {xs : List Event} {k : Nat} {v : Event} {e : Int} (hv : (evs xs)[((k : Int)).toNat]? = some v) (h0 : 0 ≤ v.t) (h8 : v.t < 8) (he : (rkL xs k)[v.t.toNat]? = some e) : (rkL xs k).set v.t.toNat (e + 1) = rkL xs (k + 1) := by
  have hv' : (evs xs)[k]? = some v := hv
  refine List.ext_getElem? fun i => ?_
  rw [List.getElem?_set]
  rcases Nat.lt_or_ge i 8 with hi | hi
  · have e1 := rk_at xs k (t := (i : Int)) (by omega) (by omega)
    have e2 := rk_at xs (k + 1) (t := (i : Int)) (by omega) (by omega)
    rw [show (i : Int).toNat = i from rfl] at e1 e2
    rw [e1, e2]
    by_cases h : v.t.toNat = i
    · have ht : v.t = (i : Int) := by omega
      rw [if_pos h, if_pos (by rw [rkL_len]; omega), rk_get h0 h8 he, rank_same hv' ht, ht]
    · rw [if_neg h, rank_other hv' (by omega)]
  · rw [if_neg (by omega), List.getElem?_eq_none (by rw [rkL_len]; exact hi), List.getElem?_eq_none (by rw [rkL_len]; exact hi)]
theorem rank_bound (l : List Event) (t : Int) : ∀ k : Nat, 0 ≤ rank l t k ∧ rank l t k ≤ (k : Int)
  | 0 => by rw [rank]; omega
  | k + 1 => by
    have := rank_bound l t k
    rw [rank_succ]
    split
    · split <;> omega
    · omega
theorem rank_find {l : List Event} {t x : Int} (h0 : 0 ≤ x) : ∀ j : Nat, x < rank l t j → ∃ e v, e < j ∧ l[e]? = some v ∧ v.t = t ∧ rank l t e = x
  | 0, h => by rw [rank] at h; omega
  | j + 1, h => by
    rcases (by omega : x < rank l t j ∨ rank l t j ≤ x) with h1 | h1
    · obtain ⟨e, v, a, b⟩ := rank_find h0 j h1; exact ⟨e, v, by omega, b⟩
    · cases hv : l[j]? with
      | none => rw [rank_succ, hv] at h; simp only [] at h; omega
      | some v =>
        by_cases ht : v.t = t
        · rw [rank_same hv ht] at h; exact ⟨j, v, by omega, hv, ht, by omega⟩
        · rw [rank_other hv ht] at h; omega
theorem own_facts {of : List Int} {s : Int} {l : List Event} {k : Nat} {v : Event} {r : List Int} (h : thrOk l) (hv : l[k]? = some v) (hr : (clkF of s l)[k]? = some r) :
    (r.length : Int) = thr l ∧ 0 ≤ v.t ∧ v.t < thr l ∧ r[v.t.toNat]? = some (rank l v.t (k + 1)) := by
  have hk := (List.getElem?_eq_some_iff.1 hv).1
  have h0 := thr_nz h hk
  rw [clkF_yes h0] at hr
  have hb := thr_bound h0 (List.mem_of_getElem? hv)
  have hl := clkTo_row _ r (List.mem_of_getElem? hr)
  have ht := thr_le l
  refine ⟨by omega, hb.1, hb.2, ?_⟩
  obtain ⟨c, hc, x, hx, hi, hx0, hle⟩ := clk_says (dep_same of s) (thr_range h0) hb.1 (by omega : v.t < ((thr l).toNat : Int)) k l.length hk v hv
  rw [hr] at hc
  rw [Option.some.inj hc, hx]
  have e1 := (hi k v (Nat.le_refl _) hv rfl).1 (.inl rfl)
  have e2 := rank_same (t := v.t) hv rfl
  congr 1; omega
theorem jn_hb {of : List Int} {s : Int} {l : List Event} {i k : Nat} {a b : List Int} (h : thrOk l) (hik : i < k) (hk : k < l.length) (hb : bef l (clkF of s l) i k = true) (ha : (clkF of s l)[i]? = some a) (hbk : (clkF of s l)[k]? = some b) : jn a b = b := by
  have h0 := thr_nz h hk
  have hh := (bef_F h hk).1 hb
  rw [clkF_yes h0] at ha hbk
  have la := clkTo_row _ a (List.mem_of_getElem? ha)
  have lb := clkTo_row _ b (List.mem_of_getElem? hbk)
  obtain ⟨x, hx⟩ : ∃ x, l[i]? = some x := ⟨_, List.getElem?_eq_getElem (by omega)⟩
  obtain ⟨v, hv⟩ : ∃ v, l[k]? = some v := ⟨_, List.getElem?_eq_getElem hk⟩
  refine List.ext_getElem? fun t => ?_
  rw [jn_get]
  rcases Nat.lt_or_ge t (thr l).toNat with ht | ht
  · obtain ⟨c, hc, p, hp, hpi, hp0, hple⟩ := clk_says (dep_same of s) (thr_range h0) (t := (t : Int)) (by omega) (by omega) i l.length (by omega) x hx
    obtain ⟨d, hd, q, hq, hqi, hq0, hqle⟩ := clk_says (dep_same of s) (thr_range h0) (t := (t : Int)) (by omega) (by omega) k l.length hk v hv
    rw [ha] at hc; rw [hbk] at hd
    obtain rfl := Option.some.inj hc
    obtain rfl := Option.some.inj hd
    rw [show (t : Int).toNat = t from rfl] at hp hq
    rw [hp, hq]
    simp only []
    congr 1
    rcases (by omega : p ≤ q ∨ q < p) with h1 | h1
    · omega
    · exfalso
      obtain ⟨e, y, he, hy, hyt, hre⟩ := rank_find (l := l) (t := (t : Int)) hq0 (i + 1) (by omega)
      have e1 := (hpi e y (by omega) hy hyt).2 (by omega)
      have e2 : HB (depB of s) l e k := by
        rcases e1 with rfl | e1
        · exact hh
        · exact e1.trans hh
      have := (hqi e y (by omega) hy hyt).1 (.inr e2)
      omega
  · rw [List.getElem?_eq_none (l := a) (by omega), List.getElem?_eq_none (l := b) (by omega)]
theorem C7 (sv : Value) (xs : List Event) (stays : Int) (w : World) (hL : RdL (fun _ => True) w sv xs) : Calls Try.prog 7 [sv, .int .i64 stays].toArray w (Ret fun v w' => v = .bool true ∧ Ext w w') := by
  have hcl40 : (xs.take 40).length ≤ 40 := by rw [List.length_take]; omega
  have hs := St.start w
  refine S7_ok _ _ _ _ ?_
  unfold S7
  refine ⟨fun p q r w' => RdL (fun _ => True) w p (xs.take 40) ∧ St w none1 [ownL q ([0, 0, 1] : List Int), ownL r (rkL xs 0)] w', ?_, ?_⟩
  · skip
    refine ⟨?_, ?_⟩
    · skip
      replace hs := hs.drew
      refine callF pl9 (C9 _ xs _ (hL.ext hs.chg)) ?_
      rintro x15 w1 ⟨hq_x15, he⟩
      replace hs := hs.ext he
      have hr_x15 := hq_x15 _ hL
      refine ⟨?_, ?_⟩
      · skip
        refine eop_build (([0, 0, 1] : List Int)) hs sl23 rfl rfl (Nat.le_of_ble_eq_true rfl) (fun s_x16 w2 hs => ?_)
        refine eop_make (0 : Int) hs sl23 zero3 (by omega) (by omega) (by decide) (fun s_x17 w3 hs => ?_)
        replace hs := hs.p1
        exact ⟨hr_x15, hs⟩
      · skip
        refine ⟨?_, ?_⟩
        · skip
          refine eop_make (0 : Int) hs sl23 zero3 (by omega) (by omega) (by decide) (fun s_x17_1 w4 hs => ?_)
          refine eop_build (([0, 0, 1] : List Int)) hs sl23 rfl rfl (Nat.le_of_ble_eq_true rfl) (fun s_x16_1 w5 hs => ?_)
          replace hs := hs.p1
          replace hs := hs.p1
          exact ⟨hr_x15, hs⟩
        · skip
          trivial
    · skip
      refine ⟨?_, ?_⟩
      · skip
        replace hs := hs.drew
        refine eop_build (([0, 0, 1] : List Int)) hs sl23 rfl rfl (Nat.le_of_ble_eq_true rfl) (fun s_x16_2 w6 hs => ?_)
        refine ⟨?_, ?_⟩
        · skip
          refine callF pl9 (C9 _ xs _ (hL.ext hs.chg)) ?_
          rintro x15_1 w7 ⟨hq_x15_1, he⟩
          replace hs := hs.ext he
          have hr_x15_1 := hq_x15_1 _ hL
          refine eop_make (0 : Int) hs sl23 zero3 (by omega) (by omega) (by decide) (fun s_x17_2 w8 hs => ?_)
          replace hs := hs.p1
          exact ⟨hr_x15_1, hs⟩
        · skip
          refine ⟨?_, ?_⟩
          · skip
            refine eop_make (0 : Int) hs sl23 zero3 (by omega) (by omega) (by decide) (fun s_x17_3 w9 hs => ?_)
            refine callF pl9 (C9 _ xs _ (hL.ext hs.chg)) ?_
            rintro x15_2 w10 ⟨hq_x15_2, he⟩
            replace hs := hs.ext he
            have hr_x15_2 := hq_x15_2 _ hL
            replace hs := hs.p1
            exact ⟨hr_x15_2, hs⟩
          · skip
            trivial
      · skip
        refine ⟨?_, ?_⟩
        · skip
          replace hs := hs.drew
          refine eop_make (0 : Int) hs sl23 zero3 (by omega) (by omega) (by decide) (fun s_x17_4 w11 hs => ?_)
          refine ⟨?_, ?_⟩
          · skip
            refine callF pl9 (C9 _ xs _ (hL.ext hs.chg)) ?_
            rintro x15_3 w12 ⟨hq_x15_3, he⟩
            replace hs := hs.ext he
            have hr_x15_3 := hq_x15_3 _ hL
            refine eop_build (([0, 0, 1] : List Int)) hs sl23 rfl rfl (Nat.le_of_ble_eq_true rfl) (fun s_x16_3 w13 hs => ?_)
            replace hs := hs.p1
            replace hs := hs.p1
            exact ⟨hr_x15_3, hs⟩
          · skip
            refine ⟨?_, ?_⟩
            · skip
              refine eop_build (([0, 0, 1] : List Int)) hs sl23 rfl rfl (Nat.le_of_ble_eq_true rfl) (fun s_x16_4 w14 hs => ?_)
              refine callF pl9 (C9 _ xs _ (hL.ext hs.chg)) ?_
              rintro x15_4 w15 ⟨hq_x15_4, he⟩
              replace hs := hs.ext he
              have hr_x15_4 := hq_x15_4 _ hL
              replace hs := hs.p1
              replace hs := hs.p1
              exact ⟨hr_x15_4, hs⟩
            · skip
              trivial
        · skip
          trivial
  · skip
    rintro m5 of6 n7 w16 ⟨hm5, hs⟩ dd1
    refine eop_build (([] : List Event)) hs sl22 rfl rfl (Nat.le_of_ble_eq_true rfl) (fun s_x18 w17 hs => ?_)
    refine ⟨fun m y x w1 => ∃ k : Nat, x = .int .i64 (k : Int) ∧ m = (xs.take 40).length - k ∧ k ≤ (xs.take 40).length ∧ St w none1 [ownL y (((xs.take 40).take k).map msk), ownL of6 ([0, 0, 1] : List Int), ownL n7 (rkL xs 0)] w1, ⟨_, 0, rfl, rfl, by omega, hs⟩, ?_⟩
    rintro m l0_1 _ w18 ⟨k, rfl, rfl, hk0, hs⟩ dd2
    have hmlen : (((xs.take 40).take k).map msk).length = k := by rw [List.length_map, List.length_take]; omega
    refine pop_len sl22 (hm5.ext hs.chg) ?_
    refine pop_lss ?_
    refine cond_d (fun c_x22 => ?_) (fun c_x22 => ?_)
    · skip
      obtain ⟨e_x27, he_x27⟩ : ∃ xx, ((xs.take 40))[((k : Int)).toNat]? = some xx := ⟨_, List.getElem?_eq_getElem (by omega)⟩
      refine pop_idx sl22 (hm5.ext hs.chg) (by omega) he_x27 (fun q_x27 h_x27 => ?_)
      refine qop_at ty40 (h_x27) ?_
      refine eop_allocA hs zero40 (fun b_v9 w19 hs => ?_)
      refine uop_blkV (x := e_x27) hs ty40 rfl rfl (fun w20 hs => ?_)
      refine pop_field fld40_1 ?_
      refine qop_blk ty3 hs.hb rfl ?_
      refine pop_and (by decide) (by decide) ?_
      refine pop_field fld40_1 ?_
      refine uop_blk hs ty3 (Nat.le_of_ble_eq_true rfl) (rfl) (fun w21 hs => ?_)
      refine qop_blkA ty40 hs.hb rfl ?_
      refine eop_build ([msk e_x27]) hs sl22 rfl rfl (Nat.le_of_ble_eq_true rfl) (fun s_x35 w22 hs => ?_)
      have hr_x36 := (hs).rd'
      refine eop_append hs.p2 sl22 hr_x36 (by simp <;> omega) (by decide) (fun s_x36 w23 hs => ?_)
      replace hs := hs.p1.drop
      refine pop_add (by omega) ?_
      replace hs := (hs.p1).drop
      replace hs := hs.p2
      replace hs := hs.p2
      replace hs := hs.p2
      exact ⟨_, by omega, k + 1, rfl, rfl, by omega, by rw [← map_snoc (k := k) he_x27]; exact hs⟩
    · skip
      have hL0 : (((xs.take 40).take k).map msk) = evs xs := by unfold evs; rw [List.take_of_length_le (by omega)]
      rw [hL0] at hs
      have hel := evs_len xs
      have heo := evs_ok xs
      refine callF pl10 (C10' _ _ (evs xs) [0, 0, 1] stays _ (hs).rd' (hs.p1).rd' (by omega)) ?_
      rintro x40 w24 hnew
      replace hs := hs.made hnew
      obtain ⟨ss_x40, hs⟩ := ownLL.open hs
      have hcln := clkF_len (of := [0, 0, 1]) (s := stays) heo
      have hn_x42 := hs.p1.rowsLen
      refine pop_len sl26 (hs).rd' ?_
      refine pop_len sl22 (hs.p2).rd' ?_
      refine pop_neq ?_
      refine cond_nb (decide_eq_false (by omega)) ?_
      replace hs := hs.p1
      replace hs := hs.p1
      replace hs := hs.p4
      replace hs := hs.p4
      replace hs := hs.p4
      refine ⟨fun m x w1 => ∃ k : Nat, x = .int .i64 (k : Int) ∧ m = (evs xs).length - k ∧ k ≤ (evs xs).length ∧ St w none1 [ownL l0_1 (evs xs), ownL of6 ([0, 0, 1] : List Int), ownL n7 (rkL xs k), ownL x40 ss_x40, rows ss_x40 (clkF [0, 0, 1] stays (evs xs))] w1, ⟨_, 0, rfl, rfl, by omega, hs⟩, ?_⟩
      rintro m _ w25 ⟨k, rfl, rfl, hk, hs⟩ dd3
      refine pop_len sl22 (hs).rd' ?_
      refine pop_lss ?_
      refine cond_d (fun c_x49 => ?_) (fun c_x49 => ?_)
      · skip
        obtain ⟨e_x54, he_x54⟩ : ∃ xx, ((evs xs))[((k : Int)).toNat]? = some xx := ⟨_, List.getElem?_eq_getElem (by omega)⟩
        refine pop_own hs sl22 (by omega) (by omega) (fun q_x54 h_x54 => ?_)
        refine pop_ownf fld40_1 h_x54 (fun q_x55 h_x55 => ?_)
        refine qop_ownf (e_x54).t hs ty3 h_x55 he_x54 rfl ?_
        have hrl := rkL_len xs k
        have hte := heo _ (List.mem_of_getElem? he_x54)
        obtain ⟨e_x61, he_x61⟩ : ∃ xx, ((rkL xs k))[((e_x54).t).toNat]? = some xx := ⟨_, List.getElem?_eq_getElem (by omega)⟩
        refine pop_own hs.p2 sl23 (by omega) (by omega) (fun q_x61 h_x61 => ?_)
        refine qop_own hs.p2 ty3 h_x61 he_x61 ?_
        have hre := rk_get (by omega) (by omega) he_x61
        have hrk := rank_bound (evs xs) e_x54.t k
        refine pop_add (by omega) ?_
        refine pop_own hs.p2 sl23 (by omega) (by omega) (fun q_x64 h_x64 => ?_)
        refine uop_own _ hs.p2 ty3 h_x64 (by omega) (fun w26 hs => ?_)
        rw [rk_set he_x54 (by omega) (by omega) he_x61] at hs
        refine ⟨fun jv w' => jv = .bool false ∧ St w none1 [ownL l0_1 (evs xs), ownL of6 ([0, 0, 1] : List Int), ownL n7 (rkL xs (k + 1)), ownL x40 ss_x40, rows ss_x40 (clkF [0, 0, 1] stays (evs xs))] w', ?_, ?_⟩
        · skip
          have hn_x67 := hs.p4.rowsLen
          obtain ⟨e_x67, he_x67⟩ : ∃ xx, (ss_x40)[((k : Int)).toNat]? = some xx := ⟨_, List.getElem?_eq_getElem (by omega)⟩
          obtain ⟨r_x67, hr_x67⟩ : ∃ xx, ((clkF [0, 0, 1] stays (evs xs)))[((k : Int)).toNat]? = some xx := ⟨_, List.getElem?_eq_getElem (by omega)⟩
          refine pop_own hs.p3 sl26 (by omega) (by omega) (fun q_x67 h_x67 => ?_)
          replace hs := hs.drew
          refine qop_own hs.p3 ty23 h_x67 he_x67 ?_
          have hof := own_facts (k := k) heo he_x54 hr_x67
          obtain ⟨hof1, hof2, hof3, _⟩ := hof
          refine pop_len sl23 (hs.p4.rowAt he_x67 hr_x67) ?_
          refine callF pl18 (C18 _ (evs xs) _ (hs.p1).rd' (by omega)) ?_
          rintro _ w27 ⟨rfl, he⟩
          replace hs := hs.ext he
          refine ⟨run_own hs.p3 ty23 h_x67 he_x67, ?_⟩
          refine pop_neq ?_
          refine cond_d (fun c_x72 => ?_) (fun c_x72 => ?_)
          · skip
            exfalso; omega
          · skip
            have hn_x77 := hs.p4.rowsLen
            refine pop_own hs.p3 sl26 (by omega) (by omega) (fun q_x77 h_x77 => ?_)
            refine qop_own hs.p3 ty23 h_x77 he_x67 ?_
            refine pop_len sl23 (hs.p4.rowAt he_x67 hr_x67) ?_
            refine pop_geq ?_
            refine cond_d (fun c_x80 => ?_) (fun c_x80 => ?_)
            · skip
              exfalso; omega
            · skip
              have hn_x85 := hs.p4.rowsLen
              refine pop_own hs.p3 sl26 (by omega) (by omega) (fun q_x85 h_x85 => ?_)
              refine qop_own hs.p3 ty23 h_x85 he_x67 ?_
              obtain ⟨e_x88, he_x88⟩ : ∃ xx, (r_x67)[((e_x54).t).toNat]? = some xx := ⟨_, List.getElem?_eq_getElem (by omega)⟩
              refine pop_idx sl23 (hs.p4.rowAt he_x67 hr_x67) (by omega) he_x88 (fun q_x88 h_x88 => ?_)
              refine qop_at ty3 (h_x88) ?_
              have hrl2 := rkL_len xs (k + 1)
              obtain ⟨e_x92, he_x92⟩ : ∃ xx, ((rkL xs (k + 1)))[((e_x54).t).toNat]? = some xx := ⟨_, List.getElem?_eq_getElem (by omega)⟩
              refine pop_own hs sl23 (by omega) (by omega) (fun q_x92 h_x92 => ?_)
              refine qop_own hs ty3 h_x92 he_x92 ?_
              refine pop_neq ?_
              replace hs := hs.p4
              replace hs := hs.p4
              replace hs := hs.p2
              replace hs := hs.p4
              replace hs := hs.p4
              exact ⟨congrArg Value.bool (by first | rfl | exact decide_eq_false (fun h => h (by rw [Option.some.inj (he_x88.symm.trans (own_facts (k := k) heo he_x54 hr_x67).2.2.2), rk_get (by omega) (by omega) he_x92]))), hs⟩
        · skip
          rintro _ w28 ⟨rfl, hs⟩ dd4
          refine cond_f ?_
          refine ⟨fun m x w1 => ∃ i : Nat, x = .int .i64 (i : Int) ∧ m = k - i ∧ i ≤ k ∧ St w none1 [ownL l0_1 (evs xs), ownL of6 ([0, 0, 1] : List Int), ownL n7 (rkL xs (k + 1)), ownL x40 ss_x40, rows ss_x40 (clkF [0, 0, 1] stays (evs xs))] w1, ⟨_, 0, rfl, rfl, by omega, hs⟩, ?_⟩
          rintro m _ w29 ⟨i, rfl, rfl, hi, hs⟩ dd5
          refine pop_lss ?_
          refine cond_d (fun c_x98 => ?_) (fun c_x98 => ?_)
          · skip
            refine ⟨fun jv w' => jv = .bool false ∧ St w none1 [ownL l0_1 (evs xs), ownL of6 ([0, 0, 1] : List Int), ownL n7 (rkL xs (k + 1)), ownL x40 ss_x40, rows ss_x40 (clkF [0, 0, 1] stays (evs xs))] w', ?_, ?_⟩
            · skip
              replace hs := hs.drew
              refine callF pl16 (C16 _ _ (evs xs) (clkF [0, 0, 1] stays (evs xs)) (i : Int) (k : Int) _ (hs).rd' (RdLL.of hs.p3 hs.p4)) ?_
              rintro _ w30 ⟨rfl, he⟩
              replace hs := hs.ext he
              refine cond_b (fun c_x105 => ?_) (fun c_x105 => ?_)
              · skip
                have hn_x109 := hs.p4.rowsLen
                obtain ⟨e_x109, he_x109⟩ : ∃ xx, (ss_x40)[((i : Int)).toNat]? = some xx := ⟨_, List.getElem?_eq_getElem (by omega)⟩
                obtain ⟨r_x109, hr_x109⟩ : ∃ xx, ((clkF [0, 0, 1] stays (evs xs)))[((i : Int)).toNat]? = some xx := ⟨_, List.getElem?_eq_getElem (by omega)⟩
                refine pop_own hs.p3 sl26 (by omega) (by omega) (fun q_x109 h_x109 => ?_)
                refine qop_own hs.p3 ty23 h_x109 he_x109 ?_
                have hn_x113 := hs.p4.rowsLen
                obtain ⟨e_x113, he_x113⟩ : ∃ xx, (ss_x40)[((k : Int)).toNat]? = some xx := ⟨_, List.getElem?_eq_getElem (by omega)⟩
                obtain ⟨r_x113, hr_x113⟩ : ∃ xx, ((clkF [0, 0, 1] stays (evs xs)))[((k : Int)).toNat]? = some xx := ⟨_, List.getElem?_eq_getElem (by omega)⟩
                refine pop_own hs.p3 sl26 (by omega) (by omega) (fun q_x113 h_x113 => ?_)
                refine qop_own hs.p3 ty23 h_x113 he_x113 ?_
                have hn_x118 := hs.p4.rowsLen
                refine pop_own hs.p3 sl26 (by omega) (by omega) (fun q_x118 h_x118 => ?_)
                refine qop_own hs.p3 ty23 h_x118 he_x113 ?_
                refine callF pl22 (C22 _ _ _ _ _ (hs.p4.rowAt he_x109 hr_x109) (hs.p4.rowAt he_x113 hr_x113) (by have := clkF_row [0, 0, 1] stays (evs xs) _ (List.mem_of_getElem? hr_x109); omega) (by have := clkF_row [0, 0, 1] stays (evs xs) _ (List.mem_of_getElem? hr_x113); omega)) ?_
                rintro x115 w31 hnew
                replace hs := hs.made hnew
                refine ⟨run_own hs.p4 ty23 h_x118 he_x113, ?_⟩
                refine callF pl21 (C21 _ _ _ _ _ (hs).rd' (hs.p5.rowAt he_x113 hr_x113) (by have h1 := clkF_row [0, 0, 1] stays (evs xs) _ (List.mem_of_getElem? hr_x109); have h2 := clkF_row [0, 0, 1] stays (evs xs) _ (List.mem_of_getElem? hr_x113); rw [jn_len]; omega)) ?_
                rintro _ w32 ⟨rfl, he⟩
                replace hs := hs.ext he
                first | refine pop_notd ?_ | refine pop_not ?_
                replace hs := (hs).drop
                replace hs := hs.p4
                replace hs := hs.p4
                replace hs := hs.p4
                replace hs := hs.p4
                replace hs := hs.p4
                exact ⟨congrArg Value.bool (by first | rfl | exact decide_eq_false (fun h => h (jn_hb heo (by omega) (by omega) c_x105 hr_x109 hr_x113))), hs⟩
              · skip
                replace hs := hs.p4
                replace hs := hs.p4
                replace hs := hs.p4
                replace hs := hs.p4
                replace hs := hs.p4
                exact ⟨congrArg Value.bool (by first | rfl | exact decide_eq_false (fun h => h (jn_hb heo (by omega) (by omega) c_x105 hr_x109 hr_x113))), hs⟩
            · skip
              rintro _ w33 ⟨rfl, hs⟩ dd6
              refine cond_f ?_
              refine pop_add (by omega) ?_
              exact ⟨_, by omega, i + 1, rfl, rfl, by omega, hs⟩
          · skip
            refine pop_add (by omega) ?_
            exact ⟨_, by omega, k + 1, rfl, rfl, by omega, hs⟩
      · skip
        refine callF pl20 (C20 _) ?_
        rintro _ w34 ⟨rfl, he⟩
        replace hs := hs.ext he
        exact ⟨rfl, hs.chg⟩

namespace clockCounts
open Go.ChangeShapes Go.WideShapes Go.ChangeAt Go.RowKit
theorem contract (H : Type) (enc : TypeId × Value → H) (W : World) (base : Nat) (args : Array Value) (ds gs : List (DataW H)) (before : List MemPlace)
    (hval : ∀ (j : Nat) t v, Try.f7.params[j]? = some t → args[j]? = some v → Value.okWide Try.prog W .any base t v)
    (hW : DataW.Whole enc Try.prog Try.f7.params.toList Rows.clockCountsSpec.vars false W args.toList ds gs before) :
    Calls Try.prog 7 args W fun e W' => ∃ v, e = .returned v ∧ Rows.clockCountsSpec.post enc Try.prog Try.f7 false true false false W args v W' := by
  have hW' := hW
  obtain ⟨p, q, hA0, hV, _, _, _⟩ := hW
  have hA : DataW.TrodAll enc Try.prog W 0 (fun _ => true) true Try.f7.params.toList args.toList ds p := hA0
  rw [Try.params7] at hA hval
  obtain ⟨v0, vs0, d0, ds0, p0, q0, hargs, hds, _, h0, r0⟩ := trodAll_cons hA
  obtain ⟨v1, vs1, d1, ds1, p1, q1, rfl, rfl, _, h1, r1⟩ := trodAll_cons r0
  obtain ⟨rfl, rfl, _⟩ := trodAll_nil r1
  obtain rfl : args = #[v0, v1] := by cases args; simp_all
  obtain ⟨x, hL_x, ok_x⟩ := open_sl Try.underlying22 rdE (hval 0 22 v0 rfl rfl) h0
  obtain ⟨s, rfl, ok_s⟩ := open_i64 Try.underlying3 (hval 1 3 v1 rfl rfl) h1
  refine (C7 v0 x s W (hL_x.mono fun _ _ => trivial)).mono fun e W' ⟨v, he, hv, hext⟩ => ?_
  subst hv
  refine ⟨_, he, post_true rfl (fun ds h => ?_) rfl Try.underlying4 (by kernel_rfl) (by kernel_rfl) hW' hext.below⟩
  match ds, h with
  | [e0, e1], _ => rfl
set_option maxRecDepth 100000 in
theorem lifted (os : Os) (started : os.Started) (H : Type) (enc : TypeId × Value → H) :
    ReturnsInHanded {} Try.checked os 7 .any (Rows.clockCountsSpec.pre6 enc Try.prog Try.f7 Rows.clockCountsRow.domain false) (Rows.clockCountsSpec.post enc Try.prog Try.f7 false true false false) := by
  refine returnsInHanded_of_change (C := Try.checked) own started (by kernel_rfl) Try.func7
    (ChangeSpec.witness6 (enc := enc) (C := Try.checked) false ⟨#[], #[.slice none 0 0, .int .i64 0], []⟩ 8 (by kernel_rfl) (by kernel_rfl) (by kernel_rfl) (by kernel_rfl)) ?_
  intro W base args ds gs before hval hW _ _
  exact contract H enc W base args ds gs before hval hW
/-- The statement. -/
theorem proved : Rows.ClockCountsSaid :=
  OpenClaim.holds_of_wide 7 Try.f7 rfl rfl rfl rfl rfl rfl rfl ⟨rfl, rfl, rfl, rfl, rfl⟩ rfl rfl rfl rfl rfl (by kernel_rfl) Try.func7 (by kernel_rfl)
    (of_decide_eq_true (by kernel_rfl)) (by unfold Func.isWrapper; first | (rw [if_pos (by decide +kernel)]; kernel_rfl) | (rw [if_neg (by decide +kernel)]; exact ⟨rfl, rfl⟩))
    (fun os started H enc _ => lifted os started H enc)
end clockCounts

end Go.Proofs.Ytobcbkipeipjeaa
