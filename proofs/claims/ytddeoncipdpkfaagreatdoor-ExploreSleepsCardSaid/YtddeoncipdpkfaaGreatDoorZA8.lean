/-
  ExploreSleeps.
-/
import Derived.Test.YtddeoncipdpkfaaGreatDoorZA7
import Derived.Test.YtddeoncipdpkfaaGreatDoorZA4
import Derived.KernelRfl
set_option linter.all false
namespace Go.Proofs.YtddeoncipdpkfaaGreatDoor
open Go.Fw

set_option maxRecDepth 100000
section
variable {ts : List TPickV} {l : List TPick} {v : List TEvent} {d : TEvent} {of : List Int} {st : Int} {w : World}
theorem slF_mem {x : TPick} {k : Nat} (h : x ∈ slF l v d of st k) : x ∈ l := by
  unfold slF slTo at h
  obtain ⟨q, hq, rfl⟩ := List.mem_map.1 h
  exact (List.of_mem_zip (List.mem_of_mem_take (List.mem_filter.1 hq).1)).1
theorem slN_eq (h : ts.length = l.length) : slN ts v = slN l v := by unfold slN; rw [h]
theorem slN_le : slN l v ≤ l.length := by unfold slN; split <;> omega
theorem drs_slN (h : drs ts l w) : drs (slF ts v d of st (slN l v)) (slF l v d of st (slN l v)) w := by
  by_cases hn : l.length = v.length
  · exact drs_slF h hn _ slN_le
  · have : slN l v = 0 := if_neg hn
    rw [this]; exact drs.nil
theorem slS_same (h : ts.length = l.length) : ∀ k, k ≤ l.length → l.length = v.length → slS ts v d of st k = slS l v d of st k
  | 0, _, _ => rfl
  | k + 1, hk, hn => by
    obtain ⟨t, ht⟩ : ∃ t, ts[k]? = some t := ⟨_, List.getElem?_eq_getElem (by omega)⟩
    obtain ⟨x, hx⟩ : ∃ x, l[k]? = some x := ⟨_, List.getElem?_eq_getElem (by omega)⟩
    obtain ⟨e, he⟩ : ∃ e, v[k]? = some e := ⟨_, List.getElem?_eq_getElem (by omega)⟩
    have ih := slS_same h k (by omega) hn
    by_cases hd : (!depB of st e d) = true
    · rw [slS_yes ht he hd, slS_yes hx he hd, ih]
    · rw [slS_no ht he hd, slS_no hx he hd, ih]
theorem slS_sameN (h : ts.length = l.length) : slS l v d of st (slN l v) = slS ts v d of st (slN l v) := by
  by_cases hn : l.length = v.length
  · exact (slS_same h _ slN_le hn).symm
  · have : slN l v = 0 := if_neg hn
    rw [this]; rfl
end
theorem drs_ext {ts : List TPickV} {l : List TPick} {w w' : World} (h : drs ts l w) (e : Ext w w') : drs ts l w' := ⟨h.1, fun i t x a b => Deep.ext (h.2 i t x a b) e⟩

set_option maxHeartbeats 1000000 in
theorem C5 (lv : Value) (l : List TPick) (vv : Value) (vs : List TEvent) (d : TEvent) (w : World) (hL : DL w lv l) (hV : RdL (fun _ => True) w vv vs) (hc : ∀ x ∈ l, x.cut.length ≤ 17592186043904) : Calls Tryz.prog 5 [lv, vv, Flat.val d].toArray w (Ret fun v w' => v = .bool true ∧ Ext w w') := by
  have hs := St.start w
  refine S5_ok _ _ _ _ _ ?_
  unfold S5
  refine eop_boxV hs (fun b_done5 w1 hs => ?_)
  obtain ⟨ts7, hR7, hD7⟩ := (hL).open
  have hn7 := hD7.1
  refine pop_len sl58 (hR7.ext hs.chg) ?_
  refine pop_min  ?_
  refine pop_cutHi' sl58 (hR7.ext hs.chg) (by omega) (by omega) (fun s_x16 hq_x16 => ?_)
  have hc_x16 := DL.cutHi hq_x16 hR7 hD7
  refine pop_len sl69 (hV.ext hs.chg) ?_
  refine pop_min  ?_
  refine pop_cutHi' sl69 (hV.ext hs.chg) (by omega) (by omega) (fun s_x21 hq_x21 => ?_)
  have hc_x21 := hq_x21 _ hV
  refine eop_build (([0, 0, 1] : List Int)) hs sl45 rfl rfl (leb rfl) (fun s_x22 w2 hs => ?_)
  refine qop_at ty42 hs.p1.At ?_
  refine callF pl20 (C20 _ ((l).take ((min (ts7.length : Int) 30)).toNat) _ ((vs).take ((min ((vs).length : Int) 30)).toNat) d _ [0, 0, 1] 3 _ (hc_x16.ext hs.chg) (hc_x21.ext hs.chg) (hs).rd' (by simp; omega) (fun x hx => hc x (List.mem_of_mem_take hx))) ?_
  rintro _ w3 ⟨p28, e28, rfl, hnew⟩
  replace hs := hs.made hnew
  replace hs := hs.split
  refine pop_ext rfl ?_
  refine pop_ext rfl ?_
  refine qop_at ty42 hs.p3.At ?_
  obtain ⟨tz, hRz, hDz⟩ := hc_x16.open
  refine callF pl21 (C21 _ tz _ ((vs).take ((min ((vs).length : Int) 30)).toNat) d _ [0, 0, 1] 3 _ (hRz.ext hs.chg) (hc_x21.ext hs.chg) (hs.p2).rd' (by rw [hDz.1]; simp; omega)) ?_
  rintro _ w4 ⟨p36, e36, rfl, hnew⟩
  replace hs := hs.made hnew
  replace hs := hs.split
  rw [slN_eq hDz.1] at hs
  refine pop_ext rfl ?_
  refine pop_ext rfl ?_
  refine ⟨fun jv w' => jv = .bool true ∧ St w none1 [] w', ?_, ?_⟩
  · skip
    refine callP pl22 hs (C22 _ _ (slF ((l).take ((min (ts7.length : Int) 30)).toNat) ((vs).take ((min ((vs).length : Int) 30)).toNat) d [0, 0, 1] 3 (slN ((l).take ((min (ts7.length : Int) 30)).toNat) ((vs).take ((min ((vs).length : Int) 30)).toNat))) (slF ((l).take ((min (ts7.length : Int) 30)).toNat) ((vs).take ((min ((vs).length : Int) 30)).toNat) d [0, 0, 1] 3 (slN ((l).take ((min (ts7.length : Int) 30)).toNat) ((vs).take ((min ((vs).length : Int) 30)).toNat))) _ (hs.p2).dl (DL.of (hs).rd' (drs_slN (drs_ext hDz hs.chg))) (Nat.le_trans slF_len (Nat.le_trans slN_le (by simp; omega))) (fun x hx => hc x (List.mem_of_mem_take (slF_mem hx)))) (fun w5 he hs => ?_)
    refine cond_yb (by simp) ?_
    refine callP pl23 hs (C23 _ _ (slS ((l).take ((min (ts7.length : Int) 30)).toNat) ((vs).take ((min ((vs).length : Int) 30)).toNat) d [0, 0, 1] 3 (slN ((l).take ((min (ts7.length : Int) 30)).toNat) ((vs).take ((min ((vs).length : Int) 30)).toNat))) (slS tz ((vs).take ((min ((vs).length : Int) 30)).toNat) d [0, 0, 1] 3 (slN ((l).take ((min (ts7.length : Int) 30)).toNat) ((vs).take ((min ((vs).length : Int) 30)).toNat))) _ (hs.p3).rd' (hs.p1).rd' (Nat.le_trans slS_len (Nat.le_trans slN_le (by simp; omega)))) (fun w6 he hs => ?_)
    refine cond_yb (decide_eq_true (slS_sameN hDz.1)) ?_
    refine callP pl24 hs (C24 _) (fun w7 he hs => ?_)
    replace hs := (hs).drop
    replace hs := (hs).drop
    replace hs := (hs).drop
    replace hs := (hs).drop
    replace hs := (hs).drop
    replace hs := (hs).drop
    exact ⟨rfl, hs⟩
  · skip
    rintro _ w8 ⟨rfl, hs⟩ dd1
    exact ⟨rfl, hs.chg⟩

end Go.Proofs.YtddeoncipdpkfaaGreatDoor
