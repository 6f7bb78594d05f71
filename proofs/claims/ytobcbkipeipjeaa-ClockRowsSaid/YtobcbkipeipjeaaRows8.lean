/-
  Proved: ClockRows returns true for every input, and the input reads as it did. No condition.
-/
import Derived.Test.YtobcbkipeipjeaaRaces
import Derived.Test.YtobcbkipeipjeaaFw19
import Derived.Test.YtobcbkipeipjeaaRows
import Derived.KernelRfl
namespace Go.Proofs.Ytobcbkipeipjeaa
open Go.Fw

def m3 (v : Event) : Event := ⟨v.kind, andI v.t 255 % 3, v.a, v.n, v.m⟩
def evs3 (xs : List Event) : List Event := ⟨2, 2, 0, 0, 0⟩ :: (xs.take 40).map m3
theorem evs3_len (xs : List Event) : 1 ≤ (evs3 xs).length ∧ (evs3 xs).length ≤ 41 := by unfold evs3; rw [List.length_cons, List.length_map, List.length_take]; omega
theorem evs3_t (xs : List Event) : ∀ v ∈ evs3 xs, 0 ≤ v.t ∧ v.t < 3 := by
  intro v hv
  rcases List.mem_cons.1 hv with rfl | hv
  · decide
  · obtain ⟨u, _, rfl⟩ := List.mem_map.1 hv
    have := andI_range u.t (b := 255) (by omega) (by omega)
    change 0 ≤ andI u.t 255 % 3 ∧ andI u.t 255 % 3 < 3
    omega
theorem evs3_ok (xs : List Event) : thrOk (evs3 xs) := fun v hv => by have := evs3_t xs v hv; omega
theorem take_ok (xs : List Event) (n : Nat) : thrOk ((evs3 xs).take n) := fun v hv => evs3_ok xs v (List.mem_of_mem_take hv)
theorem thr_three {l : List Event} (h : ∀ v ∈ l, 0 ≤ v.t ∧ v.t < 3) {v : Event} (hv : v.t = 2) : thr (v :: l) = 3 := by
  have key : ∀ m : List Event, (∀ v ∈ m, v.t < 3) → m.foldl (fun n v => max n (v.t + 1)) (3 : Int) = 3 := by
    intro m
    induction m with
    | nil => intro _; rfl
    | cons y m ih =>
      intro hm
      have := hm y (by simp)
      rw [List.foldl_cons, show max (3 : Int) (y.t + 1) = 3 from by omega]
      exact ih fun v hv => hm v (List.mem_cons_of_mem _ hv)
  unfold thr
  rw [if_pos]
  · unfold thrMax
    rw [List.foldl_cons, hv, show max (0 : Int) (2 + 1) = 3 from by omega]
    exact key l fun v hv => (h v hv).2
  · intro u hu
    rcases List.mem_cons.1 hu with rfl | hu
    · omega
    · have := h u hu; omega
theorem thr_evs3 (xs : List Event) : thr (evs3 xs) = 3 := thr_three (fun v hv => evs3_t xs v (List.mem_cons_of_mem _ hv)) rfl
theorem thr_take (xs : List Event) (q : Nat) : thr ((evs3 xs).take (q + 1)) = 3 := by
  unfold evs3
  rw [List.take_succ_cons]
  exact thr_three (fun v hv => evs3_t xs v (List.mem_cons_of_mem _ (List.mem_of_mem_take hv))) rfl
section
variable {D : Event → Event → Bool} {l : List Event} {n m k : Nat}
theorem rowTo_take {out : List (List Int)} {v : Event} : ∀ i, i ≤ m → rowTo D n (l.take m) out v i = rowTo D n l out v i
  | 0, _ => rfl
  | i + 1, h => by rw [rowTo, rowTo, List.getElem?_take, if_pos (by omega), rowTo_take i (by omega)]
theorem clkTo_take : ∀ k, k ≤ m → clkTo D n (l.take m) k = clkTo D n l k
  | 0, _ => rfl
  | k + 1, h => by rw [clkTo, clkTo, List.getElem?_take, if_pos (by omega), clkTo_take k (by omega)]; cases l[k]? <;> simp only []; rw [rowTo_take k (by omega)]
theorem clkTo_pre (k : Nat) : ∀ m, k ≤ m → m ≤ l.length → (clkTo D n l m).take k = clkTo D n l k
  | 0, h, _ => by rw [Nat.le_zero.1 h]; rfl
  | m + 1, h, hm => by
    rcases Nat.lt_or_ge k (m + 1) with h2 | h2
    · rw [clkTo_yes (List.getElem?_eq_getElem (by omega)), List.take_append_of_le_length (by rw [clkTo_len (by omega)]; omega)]
      exact clkTo_pre k m (by omega) (by omega)
    · obtain rfl : k = m + 1 := by omega
      rw [List.take_of_length_le (by rw [clkTo_len hm]; exact Nat.le_refl _)]
theorem Dep_take {i k : Nat} (hk : k < m) (hik : i < k) : Dep D (l.take m) i k ↔ Dep D l i k := by
  unfold Dep
  rw [List.getElem?_take, List.getElem?_take, if_pos hk, if_pos (by omega)]
theorem HB_take {i k : Nat} (hk : k < m) : HB D (l.take m) i k ↔ HB D l i k := by
  constructor
  · intro h
    induction h with
    | one h1 h2 => exact .one h1 ((Dep_take hk h1).1 h2)
    | more h1 h2 _ ih => exact .more h1 ((Dep_take hk h1).1 h2) (ih (by omega))
  · intro h
    induction h with
    | one h1 h2 => exact .one h1 ((Dep_take hk h1).2 h2)
    | more h1 h2 _ ih => exact .more h1 ((Dep_take hk h1).2 h2) (ih (by omega))
end
theorem clk_pre (of : List Int) (s : Int) (xs : List Event) {q : Nat} (h : q < (evs3 xs).length) : (clkF of s (evs3 xs)).take (q + 1) = clkF of s ((evs3 xs).take (q + 1)) := by
  rw [clkF_yes (by rw [thr_evs3]; decide), clkF_yes (by rw [thr_take]; decide), thr_evs3, thr_take, clkTo_pre _ _ (by omega) (Nat.le_refl _), clkTo_take _ (by rw [List.length_take]; omega), List.length_take, Nat.min_eq_left (by omega)]
theorem raceC_take {of : List Int} {s : Int} {l : List Event} {m i k : Nat} (h : thrOk l) (hk : k < m) (hik : i < k) (hm : m ≤ l.length) : raceC of s (l.take m) i k = raceC of s l i k := by
  have ht : thrOk (l.take m) := fun v hv => h v (List.mem_of_mem_take hv)
  obtain ⟨x, hx⟩ : ∃ x, l[i]? = some x := ⟨_, List.getElem?_eq_getElem (by omega)⟩
  obtain ⟨v, hv⟩ : ∃ v, l[k]? = some v := ⟨_, List.getElem?_eq_getElem (by omega)⟩
  have hx' : (l.take m)[i]? = some x := by rw [List.getElem?_take, if_pos (by omega)]; exact hx
  have hv' : (l.take m)[k]? = some v := by rw [List.getElem?_take, if_pos hk]; exact hv
  have hl : (l.take m).length = m := by rw [List.length_take]; omega
  rw [raceC_at h hx hv, raceC_at ht hx' hv']
  rw [anyF_congr (f := clkB (l.take m) (clkF of s (l.take m)) i k) (g := clkB l (clkF of s l) i k) k fun j h1 h2 => ?_]
  unfold clkB
  have e1 : bef (l.take m) (clkF of s (l.take m)) i j = bef l (clkF of s l) i j := by
    rw [Bool.eq_iff_iff, bef_F ht (by omega), bef_F h (by omega), HB_take (by omega)]
  have e2 : bef (l.take m) (clkF of s (l.take m)) j k = bef l (clkF of s l) j k := by
    rw [Bool.eq_iff_iff, bef_F ht (by omega), bef_F h (by omega), HB_take (by omega)]
  rw [e1, e2]
theorem rrow_b (c : Nat → Nat → Bool) (k : Nat) : ∀ i, ∀ p ∈ rrow c k i, p.b = (k : Int)
  | 0 => by simp [rrow]
  | i + 1 => by
    intro p hp
    unfold rrow at hp
    split at hp
    · rcases List.mem_append.1 hp with hp | hp
      · exact rrow_b c k i p hp
      · rw [List.mem_singleton.1 hp]
    · exact rrow_b c k i p hp
theorem rto_filter (c : Nat → Nat → Bool) (n : Nat) : ∀ m, (rto c m).filter (fun p => decide (p.b < (n : Int))) = rto c (min m n)
  | 0 => by rw [Nat.zero_min]; rfl
  | m + 1 => by
    rw [rto, List.filter_append, rto_filter c n m]
    rcases Nat.lt_or_ge m n with h | h
    · rw [List.filter_eq_self.2 (fun p hp => decide_eq_true (by rw [rrow_b c m m p hp]; omega)), Nat.min_eq_left (by omega), Nat.min_eq_left (by omega), rto]
    · rw [List.filter_eq_nil_iff.2 (fun p hp => by rw [rrow_b c m m p hp]; simp; omega), List.append_nil, Nat.min_eq_right h, Nat.min_eq_right (by omega)]
theorem race_filter (of : List Int) (s : Int) (xs : List Event) {q : Nat} (h : q < (evs3 xs).length) :
    (raceF of s (evs3 xs)).filter (fun p => decide (p.b < 1 + (q : Int))) = raceF of s ((evs3 xs).take (q + 1)) := by
  rw [raceF_eq (evs3_ok xs), raceF_eq (take_ok xs _)]
  have := rto_filter (raceC of s (evs3 xs)) (q + 1) (evs3 xs).length
  rw [show ((q + 1 : Nat) : Int) = 1 + (q : Int) from by omega] at this
  rw [this, List.length_take, Nat.min_comm]
  exact rto_congr _ fun i k hk hi => (raceC_take (evs3_ok xs) (by omega) hi (by omega)).symm
theorem filter_snoc_y {α : Type} {p : α → Bool} {l : List α} {k : Nat} {e : α} (h : l[k]? = some e) (hp : p e = true) : (l.take (k + 1)).filter p = (l.take k).filter p ++ [e] := by
  rw [← take_snoc h, List.filter_append]; simp [hp]
theorem filter_snoc_n {α : Type} {p : α → Bool} {l : List α} {k : Nat} {e : α} (h : l[k]? = some e) (hp : p e = false) : (l.take (k + 1)).filter p = (l.take k).filter p := by
  rw [← take_snoc h, List.filter_append]; simp [hp]
theorem filter_get {α : Type} {p : α → Bool} {l : List α} {k : Nat} {e : α} (h : l[k]? = some e) (hp : p e = true) : (l.filter p)[((l.take k).filter p).length]? = some e := by
  have h1 : l.filter p = (l.take k).filter p ++ e :: (l.drop (k + 1)).filter p := by
    conv => lhs; rw [← List.take_append_drop (k + 1) l]
    rw [List.filter_append, filter_snoc_y h hp, List.append_assoc]; rfl
  rw [h1, List.getElem?_append_right (Nat.le_refl _), Nat.sub_self]; rfl
theorem arr43 : ArrT Try.prog 43 2 3 := ⟨by kernel_rfl, by kernel_rfl⟩
theorem C8 (sv : Value) (xs : List Event) (kk stays : Int) (w : World) (hL : RdL (fun _ => True) w sv xs) : Calls Try.prog 8 [sv, .int .i64 kk, .int .i64 stays].toArray w (Ret fun v w' => v = .bool true ∧ Ext w w') := by
  have hcl40 : (xs.take 40).length ≤ 40 := by rw [List.length_take]; omega
  have hAk := andI_range kk (b := 65535) (by omega) (by omega)
  have hs := St.start w
  refine S8_ok _ _ _ _ _ ?_
  unfold S8
  refine callF pl9 (C9 _ xs _ (hL.ext hs.chg)) ?_
  rintro x19 w1 ⟨hq_x19, he⟩
  replace hs := hs.ext he
  have hr_x19 := hq_x19 _ hL
  refine eop_build (([0, 0, 1] : List Int)) hs sl23 rfl rfl (Nat.le_of_ble_eq_true rfl) (fun s_x20 w2 hs => ?_)
  refine pop (bld40_0_1 _  _ ) ?_
  refine eop_build ([(⟨2, 2, 0, 0, 0⟩ : Event)]) hs sl22 rfl rfl (Nat.le_of_ble_eq_true rfl) (fun s_x22 w3 hs => ?_)
  refine ⟨fun m y x w1 => ∃ k : Nat, x = .int .i64 (k : Int) ∧ m = (xs.take 40).length - k ∧ k ≤ (xs.take 40).length ∧ St w none1 [ownL y (⟨2, 2, 0, 0, 0⟩ :: ((xs.take 40).take k).map m3), ownL s_x20 ([0, 0, 1] : List Int)] w1, ⟨_, 0, rfl, rfl, by omega, hs⟩, ?_⟩
  rintro m l0_1 _ w4 ⟨k, rfl, rfl, hk0, hs⟩ dd1
  have hmlen : (⟨2, 2, 0, 0, 0⟩ :: ((xs.take 40).take k).map m3).length = k + 1 := by rw [List.length_cons, List.length_map, List.length_take]; omega
  refine pop_len sl22 (hr_x19.ext hs.chg) ?_
  refine pop_lss ?_
  refine cond_d (fun c_x26 => ?_) (fun c_x26 => ?_)
  · skip
    obtain ⟨e_x31, he_x31⟩ : ∃ xx, ((xs.take 40))[((k : Int)).toNat]? = some xx := ⟨_, List.getElem?_eq_getElem (by omega)⟩
    refine pop_idx sl22 (hr_x19.ext hs.chg) (by omega) he_x31 (fun q_x31 h_x31 => ?_)
    refine qop_at ty40 (h_x31) ?_
    refine eop_allocA hs zero40 (fun b_v10 w5 hs => ?_)
    refine uop_blkV (x := e_x31) hs ty40 rfl rfl (fun w6 hs => ?_)
    refine pop_field fld40_1 ?_
    refine qop_blk ty3 hs.hb rfl ?_
    refine pop_and (by decide) (by decide) ?_
    have hA3 := andI_range e_x31.t (b := 255) (by omega) (by omega)
    refine pop_rem (by omega) (by omega) ?_
    refine pop_field fld40_1 ?_
    refine uop_blk hs ty3 (Nat.le_of_ble_eq_true rfl) (rfl) (fun w7 hs => ?_)
    refine qop_blkA ty40 hs.hb rfl ?_
    refine eop_build ([m3 e_x31]) hs sl22 rfl rfl (Nat.le_of_ble_eq_true rfl) (fun s_x40 w8 hs => ?_)
    have hr_x41 := (hs).rd'
    refine eop_append hs.p2 sl22 hr_x41 (by simp <;> omega) (by decide) (fun s_x41 w9 hs => ?_)
    replace hs := hs.p1.drop
    refine pop_add (by omega) ?_
    replace hs := (hs.p1).drop
    replace hs := hs.p1
    replace hs := hs.p1
    exact ⟨_, by omega, k + 1, rfl, rfl, by omega, by rw [← map_snoc (k := k) he_x31]; exact hs⟩
  · skip
    have hL0 : (⟨2, 2, 0, 0, 0⟩ :: ((xs.take 40).take k).map m3) = evs3 xs := by unfold evs3; rw [List.take_of_length_le (by omega)]
    rw [hL0] at hs
    have hel := evs3_len xs
    have heo := evs3_ok xs
    refine pop_and (by decide) (by decide) ?_
    refine pop_len sl22 (hs).rd' ?_
    refine pop_rem (by omega) (by omega) ?_
    obtain ⟨q, hq⟩ : ∃ q : Nat, andI kk 65535 % ((evs3 xs).length : Int) = (q : Int) := ⟨(andI kk 65535 % ((evs3 xs).length : Int)).toNat, (Int.toNat_of_nonneg (Int.emod_nonneg _ (by omega))).symm⟩
    have hql : q < (evs3 xs).length := by have := Int.emod_lt_of_pos (andI kk 65535) (show 0 < ((evs3 xs).length : Int) by omega); omega
    rw [hq]
    have hq1 : (1 + (q : Int)).toNat = q + 1 := by omega
    have hlt : ((evs3 xs).take (q + 1)).length = q + 1 := by rw [List.length_take]; omega
    have hcl1 := clkF_len (of := [0, 0, 1]) (s := stays) heo
    have hcl2 := clkF_len (of := [0, 0, 1]) (s := stays) (take_ok xs (q + 1))
    have hr1 := raceF_len [0, 0, 1] stays (l := (evs3 xs)) (by omega)
    have hr2 := raceF_len [0, 0, 1] stays (l := ((evs3 xs).take (q + 1))) (by omega)
    have hrf := race_filter [0, 0, 1] stays xs hql
    refine pop_add (by omega) ?_
    refine pop_cutHi' sl22 (hs).rd' (by omega) (by omega) (fun s_x54 hq_x54 => ?_)
    rw [hq1] at hq_x54
    replace hs := hs.drew
    refine callF pl10 (C10' _ _ (evs3 xs) [0, 0, 1] stays _ (hs).rd' (hs.p1).rd' (by omega)) ?_
    rintro x51 w10 hnew
    replace hs := hs.made hnew
    obtain ⟨ss_x51, hs⟩ := ownLL.open hs
    refine callF pl10 (C10' _ _ ((evs3 xs).take (q + 1)) [0, 0, 1] stays _ (hq_x54 _ (hs.p2).rd') (hs.p3).rd' (by omega)) ?_
    rintro x57 w11 hnew
    replace hs := hs.made hnew
    obtain ⟨ss_x57, hs⟩ := ownLL.open hs
    refine ⟨_, ?_, fun _ _ h => h⟩
    have hn_x59 := hs.p3.rowsLen
    refine pop_len sl26 (hs.p2).rd' ?_
    refine pop_len sl22 (hs.p4).rd' ?_
    refine pop_neq ?_
    refine cond_nb (decide_eq_false (by omega)) ?_
    have hn_x65 := hs.p1.rowsLen
    refine pop_len sl26 (hs).rd' ?_
    refine pop_neq ?_
    refine cond_nb (decide_eq_false (by omega)) ?_
    have hnl := hs.p3.rowsLen
    refine pop_cutHi' sl26 (hs.p2).rd' (by omega) (by omega) (fun s_x72 hq_x72 => ?_)
    rw [hq1] at hq_x72
    refine callF pl11 (C11 _ _ _ _ _ (RdLL.take (hq_x72 _ (hs.p2).rd') hnl (fun i s x a b => hs.p3.rowAt a b)) (RdLL.of hs hs.p1) (by rw [List.length_take]; omega) (fun x hx => by have := clkF_row [0, 0, 1] stays (evs3 xs) x (List.mem_of_mem_take hx); omega)) ?_
    rintro _ w12 ⟨rfl, he⟩
    replace hs := hs.ext he
    first | refine pop_notd ?_ | refine pop_not ?_
    intro dd2
    refine cond_nb (decide_eq_false (fun h => h (clk_pre [0, 0, 1] stays xs hql))) ?_
    refine pop_cutHi' sl22 (hs.p4).rd' (by omega) (by omega) (fun s_x83 hq_x83 => ?_)
    rw [hq1] at hq_x83
    replace hs := hs.drew
    refine callF pl14 (C14' _ _ (evs3 xs) [0, 0, 1] stays _ (hs.p4).rd' (hs.p5).rd' (by omega)) ?_
    rintro x80 w14 hnew
    replace hs := hs.made hnew
    refine callF pl14 (C14' _ _ ((evs3 xs).take (q + 1)) [0, 0, 1] stays _ (hq_x83 _ (hs.p5).rd') (hs.p6).rd' (by omega)) ?_
    rintro x86 w15 hnew
    replace hs := hs.made hnew
    replace hs := (hs.p2).drop
    replace hs := (hs.p2).drop
    replace hs := (hs.p2).drop
    replace hs := (hs.p2).drop
    replace hs := (hs.p2).drop
    replace hs := (hs.p2).drop
    replace hs := hs.p1
    refine ⟨fun m y x w1 => ∃ i : Nat, y = .int .i64 ((((raceF [0, 0, 1] stays (evs3 xs)).take i).filter (fun p => decide (p.b < 1 + (q : Int)))).length : Int) ∧ x = .int .i64 (i : Int) ∧ m = (raceF [0, 0, 1] stays (evs3 xs)).length - i ∧ i ≤ (raceF [0, 0, 1] stays (evs3 xs)).length ∧ St w none1 [ownL x80 (raceF [0, 0, 1] stays (evs3 xs)), ownL x86 (raceF [0, 0, 1] stays ((evs3 xs).take (q + 1)))] w1, ⟨_, 0, rfl, rfl, rfl, by omega, hs⟩, ?_⟩
    rintro m _ _ w16 ⟨i, rfl, rfl, rfl, hi, hs⟩ dd3
    have hfl := List.length_filter_le (fun p => decide (p.b < 1 + (q : Int))) ((raceF [0, 0, 1] stays (evs3 xs)).take i)
    rw [List.length_take] at hfl
    refine pop_len sl30 (hs).rd' ?_
    refine pop_lss ?_
    refine cond_d (fun c_x90 => ?_) (fun c_x90 => ?_)
    · skip
      refine ⟨_, ?_, fun _ _ h => h⟩
      obtain ⟨e_x95, he_x95⟩ : ∃ xx, ((raceF [0, 0, 1] stays (evs3 xs)))[((i : Int)).toNat]? = some xx := ⟨_, List.getElem?_eq_getElem (by omega)⟩
      refine pop_own hs sl30 (by omega) (by omega) (fun q_x95 h_x95 => ?_)
      refine pop_ownix arr43 h_x95 (by omega) (by omega) (fun q_x96 h_x96 => ?_)
      refine qop_ownf (e_x95).b hs ty3 h_x96 he_x95 rfl ?_
      refine pop_geq ?_
      refine cond_d (fun c_x99 => ?_) (fun c_x99 => ?_)
      · skip
        intro dd5
        refine pop_add (by omega) ?_
        replace hs := hs.p1
        replace hs := hs.p1
        exact ⟨_, by omega, i + 1, congrArg (Value.int .i64) (by rw [filter_snoc_n (k := i) (p := (fun p => decide (p.b < 1 + (q : Int)))) he_x95 (decide_eq_false (by omega))]), rfl, rfl, by omega, hs⟩
      · skip
        have hpt : (decide ((e_x95).b < 1 + (q : Int))) = true := decide_eq_true (by omega)
        have hget := filter_get (k := i) (p := (fun p => decide (p.b < 1 + (q : Int)))) he_x95 hpt
        rw [hrf] at hget
        have hgl := (List.getElem?_eq_some_iff.1 hget).1
        refine ⟨fun jv w' => jv = .bool false ∧ drew w16 = w', ?_, ?_⟩
        · skip
          refine pop_len sl30 (hs.p1).rd' ?_
          refine pop_geq ?_
          refine cond_d (fun c_x103 => ?_) (fun c_x103 => ?_)
          · skip
            replace hs := hs.drew
            exact absurd c_x103 (by omega)
          · skip
            refine pop_own hs sl30 (by omega) (by omega) (fun q_x107 h_x107 => ?_)
            replace hs := hs.drew
            refine qop_own hs ty43 h_x107 he_x95 ?_
            obtain ⟨e_x111, he_x111⟩ : ∃ xx, ((raceF [0, 0, 1] stays ((evs3 xs).take (q + 1))))[(((((raceF [0, 0, 1] stays (evs3 xs)).take i).filter (fun p => decide (p.b < 1 + (q : Int)))).length : Int)).toNat]? = some xx := ⟨_, List.getElem?_eq_getElem (by omega)⟩
            refine pop_own hs.p1 sl30 (by omega) (by omega) (fun q_x111 h_x111 => ?_)
            refine qop_own hs.p1 ty43 h_x111 he_x111 ?_
            refine pop_ar2ne (a := (e_x95).a) (b := (e_x95).b) (c := (e_x111).a) (d := (e_x111).b) ar43 ?_
            exact ⟨congrArg Value.bool (decide_eq_false (fun h => h (by rw [← Option.some.inj (hget.symm.trans he_x111)]; exact ⟨rfl, rfl⟩))), rfl⟩
        · skip
          rintro _ w17 ⟨rfl, hw⟩ dd4
          subst hw
          replace hs := hs.drew
          refine cond_f ?_
          refine pop_add (by omega) ?_
          intro dd5
          refine pop_add (by omega) ?_
          replace hs := hs.p1
          replace hs := hs.p1
          exact ⟨_, by omega, i + 1, congrArg (Value.int .i64) (by rw [filter_snoc_y (k := i) (p := (fun p => decide (p.b < 1 + (q : Int)))) he_x95 hpt, List.length_append, List.length_singleton]; omega), rfl, rfl, by omega, hs⟩
    · skip
      refine ⟨_, ?_, fun _ _ h => h⟩
      refine pop_len sl30 (hs.p1).rd' ?_
      refine pop_eql ?_
      refine cond_yb (decide_eq_true (by rw [List.take_of_length_le (by omega), hrf])) ?_
      refine callF pl20 (C20 _) ?_
      rintro _ w19 ⟨rfl, he⟩
      replace hs := hs.ext he
      intro dd6
      exact ⟨rfl, hs.chg⟩

namespace clockRows
open Go.ChangeShapes Go.WideShapes Go.ChangeAt Go.RowKit
theorem contract (H : Type) (enc : TypeId × Value → H) (W : World) (base : Nat) (args : Array Value) (ds gs : List (DataW H)) (before : List MemPlace)
    (hval : ∀ (j : Nat) t v, Try.f8.params[j]? = some t → args[j]? = some v → Value.okWide Try.prog W .any base t v)
    (hW : DataW.Whole enc Try.prog Try.f8.params.toList Rows.clockRowsSpec.vars false W args.toList ds gs before) :
    Calls Try.prog 8 args W fun e W' => ∃ v, e = .returned v ∧ Rows.clockRowsSpec.post enc Try.prog Try.f8 false true false false W args v W' := by
  have hW' := hW
  obtain ⟨p, q, hA0, hV, _, _, _⟩ := hW
  have hA : DataW.TrodAll enc Try.prog W 0 (fun _ => true) true Try.f8.params.toList args.toList ds p := hA0
  rw [Try.params8] at hA hval
  obtain ⟨v0, vs0, d0, ds0, p0, q0, hargs, hds, _, h0, r0⟩ := trodAll_cons hA
  obtain ⟨v1, vs1, d1, ds1, p1, q1, rfl, rfl, _, h1, r1⟩ := trodAll_cons r0
  obtain ⟨v2, vs2, d2, ds2, p2, q2, rfl, rfl, _, h2, r2⟩ := trodAll_cons r1
  obtain ⟨rfl, rfl, _⟩ := trodAll_nil r2
  obtain rfl : args = #[v0, v1, v2] := by cases args; simp_all
  obtain ⟨x, hL_x, ok_x⟩ := open_sl Try.underlying22 rdE (hval 0 22 v0 rfl rfl) h0
  obtain ⟨k, rfl, ok_k⟩ := open_i64 Try.underlying3 (hval 1 3 v1 rfl rfl) h1
  obtain ⟨s, rfl, ok_s⟩ := open_i64 Try.underlying3 (hval 2 3 v2 rfl rfl) h2
  refine (C8 v0 x k s W (hL_x.mono fun _ _ => trivial)).mono fun e W' ⟨v, he, hv, hext⟩ => ?_
  subst hv
  refine ⟨_, he, post_true rfl (fun ds h => ?_) rfl Try.underlying4 (by kernel_rfl) (by kernel_rfl) hW' hext.below⟩
  match ds, h with
  | [e0, e1, e2], _ => rfl
set_option maxRecDepth 100000 in
theorem lifted (os : Os) (started : os.Started) (H : Type) (enc : TypeId × Value → H) :
    ReturnsInHanded {} Try.checked os 8 .any (Rows.clockRowsSpec.pre6 enc Try.prog Try.f8 Rows.clockRowsRow.domain false) (Rows.clockRowsSpec.post enc Try.prog Try.f8 false true false false) := by
  refine returnsInHanded_of_change (C := Try.checked) own started (by kernel_rfl) Try.func8
    (ChangeSpec.witness6 (enc := enc) (C := Try.checked) false ⟨#[], #[.slice none 0 0, .int .i64 0, .int .i64 0], []⟩ 8 (by kernel_rfl) (by kernel_rfl) (by kernel_rfl) (by kernel_rfl)) ?_
  intro W base args ds gs before hval hW _ _
  exact contract H enc W base args ds gs before hval hW
/-- The statement. -/
theorem proved : Rows.ClockRowsSaid :=
  OpenClaim.holds_of_wide 8 Try.f8 rfl rfl rfl rfl rfl rfl rfl ⟨rfl, rfl, rfl, rfl, rfl⟩ rfl rfl rfl rfl rfl (by kernel_rfl) Try.func8 (by kernel_rfl)
    (of_decide_eq_true (by kernel_rfl)) (by unfold Func.isWrapper; first | (rw [if_pos (by decide +kernel)]; kernel_rfl) | (rw [if_neg (by decide +kernel)]; exact ⟨rfl, rfl⟩))
    (fun os started H enc _ => lifted os started H enc)
end clockRows

end Go.Proofs.Ytobcbkipeipjeaa
