/-
  Clocks joined, threads counted, what happened before what by clocks; lists compared.
-/
import Derived.Test.YtobcbkipeipjeaaC1
import Derived.Test.YtobcbkipeipjeaaFw18
import Derived.Test.YtobcbkipeipjeaaFw14
import Derived.KernelRfl
namespace Go.Proofs.Ytobcbkipeipjeaa
open Go.Fw

theorem ar43 : Ar2 Try.prog 43 3 := ⟨by kernel_rfl, by kernel_rfl, by kernel_rfl, by kernel_rfl⟩
/-- The greater one of two clocks. -/
def jn : List Int → List Int → List Int
  | [], b => b
  | x :: a, [] => x :: a
  | x :: a, y :: b => max x y :: jn a b
theorem jn_nil (a : List Int) : jn a [] = a := by cases a <;> rfl
theorem jn_len : ∀ a b : List Int, (jn a b).length = max a.length b.length
  | [], b => by simp [jn]
  | x :: a, [] => by simp [jn]
  | x :: a, y :: b => by simp only [jn, List.length_cons, jn_len a b]; omega
theorem jn_get : ∀ (a b : List Int) (i : Nat), (jn a b)[i]? = match a[i]?, b[i]? with | some x, some y => some (max x y) | some x, none => some x | none, o => o
  | [], b, i => by simp [jn]
  | x :: a, [], i => by simp only [jn, List.getElem?_nil]; cases (x :: a)[i]? <;> rfl
  | x :: a, y :: b, 0 => by simp [jn]
  | x :: a, y :: b, i + 1 => by simp only [jn, List.getElem?_cons_succ]; exact jn_get a b i
theorem jn_comm (a b : List Int) : jn a b = jn b a := by
  refine List.ext_getElem? fun i => ?_
  rw [jn_get, jn_get]
  cases a[i]? <;> cases b[i]? <;> simp [Int.max_comm]
theorem jn_2 {a b : List Int} {i : Nat} {x y : Int} (h1 : a[i]? = some x) (h2 : b[i]? = some y) : (jn a b)[i]? = some (max x y) := by rw [jn_get, h1, h2]
theorem jn_l {a b : List Int} {i : Nat} {x : Int} (h1 : a[i]? = some x) (h2 : b.length ≤ i) : (jn a b)[i]? = some (x + 0) := by rw [jn_get, h1, List.getElem?_eq_none h2, Int.add_zero]
theorem jn_r {a b : List Int} {i : Nat} {y : Int} (h1 : a.length ≤ i) (h2 : b[i]? = some y) : (jn a b)[i]? = some (0 + y) := by rw [jn_get, h2, List.getElem?_eq_none h1, Int.zero_add]
theorem jn_step {a b : List Int} {k : Nat} {x y : Int} (hx : (jn a (b.take k))[k]? = some x) (hy : b[k]? = some y) (hab : b.length ≤ a.length) : (jn a (b.take k)).set k (max x y) = jn a (b.take (k + 1)) := by
  have hk := (List.getElem?_eq_some_iff.1 hy).1
  refine List.ext_getElem? fun i => ?_
  rw [List.getElem?_set, jn_get, jn_get]
  rw [jn_get] at hx
  have e0 : (b.take k)[k]? = none := List.getElem?_eq_none (by rw [List.length_take]; omega)
  rw [e0] at hx
  by_cases h : k = i
  · subst h
    rw [if_pos rfl, if_pos (by rw [jn_len, List.length_take]; omega), List.getElem?_take, if_pos (by omega), hy]
    cases ha : a[k]? with
    | none => rw [ha] at hx; cases hx
    | some z => rw [ha] at hx; rw [Option.some.inj hx]
  · rw [if_neg h, List.getElem?_take, List.getElem?_take]
    by_cases h2 : i < k
    · rw [if_pos h2, if_pos (by omega)]
    · rw [if_neg h2, if_neg (by omega)]
theorem take_snoc {α : Type} {l : List α} {k : Nat} {e : α} (h : l[k]? = some e) : l.take k ++ [e] = l.take (k + 1) := by rw [List.take_add_one, h]; rfl
theorem take_eq_snoc {α : Type} {xs ys : List α} {k : Nat} {e f : α} (h : xs.take k = ys.take k) (h1 : xs[k]? = some e) (h2 : ys[k]? = some f) (he : e = f) : xs.take (k + 1) = ys.take (k + 1) := by
  rw [List.take_add_one, List.take_add_one, h, h1, h2, he]
theorem ne_of_get {α : Type} {xs ys : List α} {k : Nat} {e f : α} (h1 : xs[k]? = some e) (h2 : ys[k]? = some f) (he : ¬ e = f) : ¬ xs = ys := by
  rintro rfl; rw [h1] at h2; exact he (Option.some.inj h2)
theorem Two.ne {x y : Two} (h : ¬ (x.a = y.a ∧ x.b = y.b)) : ¬ x = y := fun e => h (e ▸ ⟨rfl, rfl⟩)
theorem Two.eq {x y : Two} (h : ¬ ¬ (x.a = y.a ∧ x.b = y.b)) : x = y := Two.ext_iff.2 (Decidable.not_not.1 h)
/-- How many threads a row has. -/
def thrOk (l : List Event) : Prop := ∀ v ∈ l, 0 ≤ v.t ∧ v.t < 8
instance (l : List Event) : Decidable (thrOk l) := by unfold thrOk; infer_instance
def thrMax (l : List Event) : Int := l.foldl (fun n v => max n (v.t + 1)) 0
def thr (l : List Event) : Int := if thrOk l then thrMax l else 0
theorem thrMax_snoc {l : List Event} {k : Nat} {e : Event} (h : l[k]? = some e) : thrMax (l.take (k + 1)) = max (thrMax (l.take k)) (e.t + 1) := by
  unfold thrMax; rw [← take_snoc h, List.foldl_append]; rfl
theorem thr_no {l : List Event} {k : Nat} {e : Event} (h : l[k]? = some e) (hn : e.t < 0 ∨ 8 ≤ e.t) : thr l = 0 := by
  unfold thr; rw [if_neg]; intro hh; have := hh e (List.mem_of_getElem? h); omega
theorem thr_yes {l : List Event} {k : Nat} (h : ∀ v ∈ l.take k, 0 ≤ v.t ∧ v.t < 8) (hk : l.length ≤ k) : thr l = thrMax (l.take k) := by
  rw [List.take_of_length_le hk] at *
  unfold thr; rw [if_pos (show thrOk l from h)]
/-- What happened before what, by clocks. -/
def bef (l : List Event) (c : List (List Int)) (i k : Int) : Bool :=
  if 0 ≤ i ∧ i < k ∧ k < l.length ∧ k < c.length then
    match l[i.toNat]?, c[i.toNat]?, c[k.toNat]? with
    | some v, some a, some b => if 0 ≤ v.t then (match a[v.t.toNat]?, b[v.t.toNat]? with | some p, some q => decide (q ≥ p) | _, _ => false) else false
    | _, _, _ => false
  else false
section
variable {l : List Event} {c : List (List Int)} {i k : Int} {v : Event} {a b : List Int} {p q : Int}
theorem bef_out (h : ¬ (0 ≤ i ∧ i < k ∧ k < l.length ∧ k < c.length)) : bef l c i k = false := by unfold bef; rw [if_neg h]
theorem bef_neg (hv : l[i.toNat]? = some v) (h : v.t < 0) : bef l c i k = false := by
  unfold bef; split
  · rw [hv]; cases c[i.toNat]? <;> cases c[k.toNat]? <;> simp only [] ; rw [if_neg (by omega)]
  · rfl
theorem bef_sa (hv : l[i.toNat]? = some v) (ha : c[i.toNat]? = some a) (h : (a.length : Int) ≤ v.t) : bef l c i k = false := by
  unfold bef; split
  · rw [hv, ha]; cases c[k.toNat]? <;> simp only []
    rw [List.getElem?_eq_none (l := a) (by omega)]; simp
  · rfl
theorem bef_sb (hv : l[i.toNat]? = some v) (ha : c[k.toNat]? = some b) (h : (b.length : Int) ≤ v.t) : bef l c i k = false := by
  unfold bef; split
  · rw [hv, ha]; cases c[i.toNat]? <;> simp only []
    rw [List.getElem?_eq_none (l := b) (by omega)]; simp
  · rfl
theorem bef_at (h : 0 ≤ i ∧ i < k ∧ k < l.length ∧ k < c.length) (hv : l[i.toNat]? = some v) (ha : c[i.toNat]? = some a) (hb : c[k.toNat]? = some b) (ht : 0 ≤ v.t) (hp : a[v.t.toNat]? = some p) (hq : b[v.t.toNat]? = some q) : bef l c i k = decide (q ≥ p) := by
  unfold bef; rw [if_pos h, hv, ha, hb]; simp only []; rw [if_pos ht, hp, hq]
end

theorem C9 (sv : Value) (xs : List Event) (w : World) (hL : RdL (fun _ => True) w sv xs) : Calls Try.prog 9 [sv].toArray w (Ret fun v w' => (∀ w0 : World, RdL (fun _ => True) w0 sv xs → RdL (fun _ => True) w0 v (xs.take 40)) ∧ Ext w w') := by
  have hs := St.start w
  refine S9_ok _ _ _ ?_
  unfold S9
  refine pop_len sl22 (hL.ext hs.chg) ?_
  refine pop_min ?_
  refine pop_cutHi' sl22 hL (by omega) (by omega) (fun s_x7 h_x7 => ?_)
  rw [show xs.take 40 = xs.take (min (xs.length : Int) 40).toNat from List.take_eq_take_iff.2 (by omega)]
  exact ⟨h_x7, hs.chg⟩

theorem C36 (sv : Value) (xs : List Int) (w : World) (hL : RdL (fun _ => True) w sv xs) (hn : xs.length ≤ 1073741824) : Calls Try.prog 36 [sv].toArray w (Ret fun v w' => New (ownL v xs) w w') := by
  have hL0 := hL
  obtain ⟨a, cap, rfl, hcap, h3⟩ := hL
  have hs := St.start w
  refine S36_ok _ _ _ ?_
  unfold S36
  refine pop_seql (slFact_spec sl23).1 (fun h0 => ?_) ?_
  · rcases h3 with ⟨h, hc⟩ | ⟨b, o, h, _⟩
    · exact ⟨by rw [h]; rfl, hc⟩
    · rw [h0] at h; cases h
  refine cond_b (fun c_x4 => ?_) (fun c_x4 => ?_)
  · skip
    have ha : a = none := by cases a with | none => rfl | some _ => cases c_x4
    have hx : xs = [] := by
      rcases h3 with ⟨h, _⟩ | ⟨b, o, h, _⟩
      · exact h
      · rw [ha] at h; cases h
    subst hx
    exact hs.ownNil.fresh
  · skip
    refine eop_build (([] : List Int)) hs sl23 rfl rfl (Nat.le_of_ble_eq_true rfl) (fun s_x5 w1 hs => ?_)
    have hr_x7 := (hL0.ext hs.chg)
    refine eop_append hs sl23 hr_x7 (by simp <;> omega) (by decide) (fun s_x7 w2 hs => ?_)
    exact hs.fresh

theorem C27 (av bv : Value) (xs ys : List Int) (w : World) (hA : RdL (fun _ => True) w av xs) (hB : RdL (fun _ => True) w bv ys) (hn : xs.length ≤ 1048576) (hm : ys.length ≤ 1048576) : Calls Try.prog 27 [av, bv].toArray w (Ret fun v w' => New (ownL v (jn xs ys)) w w') := by
  have hs := St.start w
  refine S27_ok _ _ _ _ ?_
  unfold S27
  refine ⟨fun p q w' => ∃ la lb : List Int, RdL (fun _ => True) w p la ∧ RdL (fun _ => True) w q lb ∧ lb.length ≤ la.length ∧ la.length ≤ 1048576 ∧ jn la lb = jn xs ys ∧ w = w', ?_, ?_⟩
  · skip
    refine pop_len sl23 (hA.ext hs.chg) ?_
    refine pop_len sl23 (hB.ext hs.chg) ?_
    refine pop_lss ?_
    refine cond_d (fun c_x12 => ?_) (fun c_x12 => ?_)
    · skip
      exact ⟨ys, xs, hB, hA, by omega, by omega, jn_comm _ _, rfl⟩
    · skip
      exact ⟨xs, ys, hA, hB, by omega, by omega, rfl, rfl⟩
  · skip
    rintro p q w1 ⟨la, lb, hP, hQ, hle, hlm, hj, hw⟩ dd1
    subst hw
    refine callF pl36 (C36 _ _ _ (hP.ext hs.chg) (by omega)) ?_
    rintro x16 w2 hnew
    replace hs := hs.made hnew
    refine pop_len sl23 (hQ.ext hs.chg) ?_
    refine ⟨fun m x w1 => ∃ k : Nat, x = .int .i64 (k : Int) ∧ m = lb.length - k ∧ k ≤ lb.length ∧ St w none1 [ownL x16 (jn la (lb.take k))] w1, ⟨_, 0, rfl, rfl, by omega, by rw [List.take_zero, jn_nil]; exact hs⟩, ?_⟩
    rintro m _ w3 ⟨k, rfl, rfl, hk, hs⟩ dd2
    refine pop_lss ?_
    refine cond_d (fun c_x20 => ?_) (fun c_x20 => ?_)
    · skip
      obtain ⟨e_x22, he_x22⟩ : ∃ xx, (lb)[((k : Int)).toNat]? = some xx := ⟨_, List.getElem?_eq_getElem (by omega)⟩
      refine pop_idx sl23 (hQ.ext hs.chg) (by omega) he_x22 (fun q_x22 h_x22 => ?_)
      refine qop_at ty3 (h_x22) ?_
      have hjl := jn_len la (lb.take k)
      rw [List.length_take] at hjl
      obtain ⟨e_x28, he_x28⟩ : ∃ xx, ((jn la (lb.take k)))[((k : Int)).toNat]? = some xx := ⟨_, List.getElem?_eq_getElem (by omega)⟩
      refine pop_own hs sl23 (by omega) (by omega) (fun q_x28 h_x28 => ?_)
      refine qop_own hs ty3 h_x28 he_x28 ?_
      refine pop_max ?_
      have hjl2 := jn_len la (lb.take k)
      rw [List.length_take] at hjl2
      refine pop_own hs sl23 (by omega) (by omega) (fun q_x32 h_x32 => ?_)
      refine uop_own _ hs ty3 h_x32 (by omega) (fun w4 hs => ?_)
      rw [show ((k : Int)).toNat = k from rfl, jn_step he_x28 he_x22 hle] at hs
      refine pop_add (by omega) ?_
      exact ⟨_, by omega, k + 1, rfl, rfl, by omega, hs⟩
    · skip
      rw [List.take_of_length_le (by omega), hj] at hs
      exact hs.fresh

theorem C22 (av bv : Value) (xs ys : List Int) (w : World) (hA : RdL (fun _ => True) w av xs) (hB : RdL (fun _ => True) w bv ys) (hn : xs.length ≤ 1048576) (hm : ys.length ≤ 1048576) : Calls Try.prog 22 [av, bv].toArray w (Ret fun v w' => New (ownL v (jn xs ys)) w w') := by
  have hs := St.start w
  refine S22_ok _ _ _ _ ?_
  unfold S22
  refine callF pl27 (C27 _ _ _ _ _ (hA.ext hs.chg) (hB.ext hs.chg) (by omega) (by omega)) ?_
  rintro x7 w1 hnew
  replace hs := hs.made hnew
  exact hs.fresh

theorem C23 (av bv : Value) (xs ys : List Int) (w : World) (hA : RdL (fun _ => True) w av xs) (hB : RdL (fun _ => True) w bv ys) (hn : xs.length ≤ 1048576) (hm : ys.length ≤ 1048576) (hX : ∀ x ∈ xs, i64ok x) (hY : ∀ x ∈ ys, i64ok x) : Calls Try.prog 23 [av, bv].toArray w (Ret fun v w' => New (ownL v (jn xs ys)) w w') := by
  have hs := St.start w
  refine S23_ok _ _ _ _ ?_
  unfold S23
  refine eop_build (([] : List Int)) hs sl23 rfl rfl (Nat.le_of_ble_eq_true rfl) (fun s_x9 w1 hs => ?_)
  refine ⟨fun m y x w1 => ∃ i : Nat, x = .int .i64 (i : Int) ∧ m = (jn xs ys).length - i ∧ i ≤ (jn xs ys).length ∧ St w none1 [ownL y ((jn xs ys).take i)] w1, ⟨_, 0, rfl, rfl, by omega, hs⟩, ?_⟩
  rintro m out5 _ w2 ⟨i, rfl, rfl, hi, hs⟩ dd1
  have hjl := jn_len xs ys
  refine ⟨fun jv w' => jv = .bool (decide ((i : Int) < xs.length ∨ (i : Int) < ys.length)) ∧ w2 = w', ?_, ?_⟩
  · skip
    have hjl0 := jn_len xs ys
    refine pop_len sl23 (hA.ext hs.chg) ?_
    refine pop_lss ?_
    refine cond_d (fun c_x13 => ?_) (fun c_x13 => ?_)
    · skip
      exact ⟨congrArg Value.bool (by first | exact (decide_eq_true (by omega)).symm | exact (decide_eq_false (by omega)).symm | exact decide_eq_decide.2 (by omega)), rfl⟩
    · skip
      refine pop_len sl23 (hB.ext hs.chg) ?_
      refine pop_lss ?_
      exact ⟨congrArg Value.bool (by first | exact (decide_eq_true (by omega)).symm | exact (decide_eq_false (by omega)).symm | exact decide_eq_decide.2 (by omega)), rfl⟩
  · skip
    rintro _ w3 ⟨rfl, hw⟩ dd2
    subst hw
    refine cond_d (fun c_x19 => ?_) (fun c_x19 => ?_)
    · skip
      refine ⟨_, ?_, fun _ _ h => h⟩
      refine ⟨_, ?_, fun _ _ h => h⟩
      refine pop_len sl23 (hA.ext hs.chg) ?_
      refine pop_lss ?_
      refine cond_d (fun c_x25 => ?_) (fun c_x25 => ?_)
      · skip
        obtain ⟨e_x28, he_x28⟩ : ∃ xx, (xs)[((i : Int)).toNat]? = some xx := ⟨_, List.getElem?_eq_getElem (by omega)⟩
        refine pop_idx sl23 (hA.ext hs.chg) (by omega) he_x28 (fun q_x28 h_x28 => ?_)
        refine qop_at ty3 (h_x28) ?_
        intro dd3
        refine ⟨_, ?_, fun _ _ h => h⟩
        refine pop_len sl23 (hB.ext hs.chg) ?_
        refine pop_lss ?_
        refine cond_d (fun c_x33 => ?_) (fun c_x33 => ?_)
        · skip
          obtain ⟨e_x36, he_x36⟩ : ∃ xx, (ys)[((i : Int)).toNat]? = some xx := ⟨_, List.getElem?_eq_getElem (by omega)⟩
          refine pop_idx sl23 (hB.ext hs.chg) (by omega) he_x36 (fun q_x36 h_x36 => ?_)
          refine qop_at ty3 (h_x36) ?_
          intro dd4
          refine ⟨fun jv w' => jv = .bool (decide ((i : Int) < xs.length ∧ (i : Int) < ys.length)) ∧ w2 = w', ?_, ?_⟩
          · skip
            refine pop_len sl23 (hA.ext hs.chg) ?_
            refine pop_lss ?_
            refine cond_d (fun c_x41 => ?_) (fun c_x41 => ?_)
            · skip
              refine pop_len sl23 (hB.ext hs.chg) ?_
              refine pop_lss ?_
              exact ⟨congrArg Value.bool (by first | exact (decide_eq_true (by omega)).symm | exact (decide_eq_false (by omega)).symm | exact decide_eq_decide.2 (by omega)), rfl⟩
            · skip
              exact ⟨congrArg Value.bool (by first | exact (decide_eq_true (by omega)).symm | exact (decide_eq_false (by omega)).symm | exact decide_eq_decide.2 (by omega)), rfl⟩
          · skip
            rintro _ w6 ⟨rfl, hw⟩ dd5
            subst hw
            refine cond_d (fun c_x47 => ?_) (fun c_x47 => ?_)
            · skip
              refine pop_max ?_
              refine eop_build (([(max e_x28 e_x36)] : List Int)) hs sl23 rfl rfl (Nat.le_of_ble_eq_true rfl) (fun s_x52 w7 hs => ?_)
              have hjl := jn_len xs ys
              have hr_x53 := (hs).rd'
              refine eop_append hs.p1 sl23 hr_x53 (by simp <;> omega) (by decide) (fun s_x53 w8 hs => ?_)
              replace hs := hs.p1.drop
              intro dd6
              refine pop_add (by omega) ?_
              first | (exfalso; omega) | exact ⟨_, by omega, i + 1, rfl, rfl, by omega, by rw [← take_snoc (k := i) (jn_2 (i := i) he_x28 he_x36)]; exact hs⟩ | exact ⟨_, by omega, i + 1, rfl, rfl, by omega, by rw [← take_snoc (k := i) (jn_l (i := i) he_x28 (by omega))]; exact hs⟩ | exact ⟨_, by omega, i + 1, rfl, rfl, by omega, by rw [← take_snoc (k := i) (jn_r (i := i) (by omega) he_x36)]; exact hs⟩
            · skip
              have hk_x28 := hX _ (List.mem_of_getElem? he_x28)
              unfold i64ok at hk_x28
              have hk_x36 := hY _ (List.mem_of_getElem? he_x36)
              unfold i64ok at hk_x36
              refine pop_add (by omega) ?_
              refine eop_build (([(e_x28 + e_x36)] : List Int)) hs sl23 rfl rfl (Nat.le_of_ble_eq_true rfl) (fun s_x58 w9 hs => ?_)
              have hjl := jn_len xs ys
              have hr_x59 := (hs).rd'
              refine eop_append hs.p1 sl23 hr_x59 (by simp <;> omega) (by decide) (fun s_x59 w10 hs => ?_)
              replace hs := hs.p1.drop
              intro dd6
              refine pop_add (by omega) ?_
              first | (exfalso; omega) | exact ⟨_, by omega, i + 1, rfl, rfl, by omega, by rw [← take_snoc (k := i) (jn_2 (i := i) he_x28 he_x36)]; exact hs⟩ | exact ⟨_, by omega, i + 1, rfl, rfl, by omega, by rw [← take_snoc (k := i) (jn_l (i := i) he_x28 (by omega))]; exact hs⟩ | exact ⟨_, by omega, i + 1, rfl, rfl, by omega, by rw [← take_snoc (k := i) (jn_r (i := i) (by omega) he_x36)]; exact hs⟩
        · skip
          intro dd4
          refine ⟨fun jv w' => jv = .bool (decide ((i : Int) < xs.length ∧ (i : Int) < ys.length)) ∧ w2 = w', ?_, ?_⟩
          · skip
            refine pop_len sl23 (hA.ext hs.chg) ?_
            refine pop_lss ?_
            refine cond_d (fun c_x41 => ?_) (fun c_x41 => ?_)
            · skip
              refine pop_len sl23 (hB.ext hs.chg) ?_
              refine pop_lss ?_
              exact ⟨congrArg Value.bool (by first | exact (decide_eq_true (by omega)).symm | exact (decide_eq_false (by omega)).symm | exact decide_eq_decide.2 (by omega)), rfl⟩
            · skip
              exact ⟨congrArg Value.bool (by first | exact (decide_eq_true (by omega)).symm | exact (decide_eq_false (by omega)).symm | exact decide_eq_decide.2 (by omega)), rfl⟩
          · skip
            rintro _ w6 ⟨rfl, hw⟩ dd5
            subst hw
            refine cond_d (fun c_x47 => ?_) (fun c_x47 => ?_)
            · skip
              refine pop_max ?_
              refine eop_build (([(max e_x28 0)] : List Int)) hs sl23 rfl rfl (Nat.le_of_ble_eq_true rfl) (fun s_x52 w7 hs => ?_)
              have hjl := jn_len xs ys
              have hr_x53 := (hs).rd'
              refine eop_append hs.p1 sl23 hr_x53 (by simp <;> omega) (by decide) (fun s_x53 w8 hs => ?_)
              replace hs := hs.p1.drop
              intro dd6
              refine pop_add (by omega) ?_
              first | (exfalso; omega) | exact ⟨_, by omega, i + 1, rfl, rfl, by omega, by rw [← take_snoc (k := i) (jn_2 (i := i) he_x28 he_x36)]; exact hs⟩ | exact ⟨_, by omega, i + 1, rfl, rfl, by omega, by rw [← take_snoc (k := i) (jn_l (i := i) he_x28 (by omega))]; exact hs⟩ | exact ⟨_, by omega, i + 1, rfl, rfl, by omega, by rw [← take_snoc (k := i) (jn_r (i := i) (by omega) he_x36)]; exact hs⟩
            · skip
              have hk_x28 := hX _ (List.mem_of_getElem? he_x28)
              unfold i64ok at hk_x28
              refine pop_add (by omega) ?_
              refine eop_build (([(e_x28 + 0)] : List Int)) hs sl23 rfl rfl (Nat.le_of_ble_eq_true rfl) (fun s_x58 w9 hs => ?_)
              have hjl := jn_len xs ys
              have hr_x59 := (hs).rd'
              refine eop_append hs.p1 sl23 hr_x59 (by simp <;> omega) (by decide) (fun s_x59 w10 hs => ?_)
              replace hs := hs.p1.drop
              intro dd6
              refine pop_add (by omega) ?_
              first | (exfalso; omega) | exact ⟨_, by omega, i + 1, rfl, rfl, by omega, by rw [← take_snoc (k := i) (jn_2 (i := i) he_x28 he_x36)]; exact hs⟩ | exact ⟨_, by omega, i + 1, rfl, rfl, by omega, by rw [← take_snoc (k := i) (jn_l (i := i) he_x28 (by omega))]; exact hs⟩ | exact ⟨_, by omega, i + 1, rfl, rfl, by omega, by rw [← take_snoc (k := i) (jn_r (i := i) (by omega) he_x36)]; exact hs⟩
      · skip
        intro dd3
        refine ⟨_, ?_, fun _ _ h => h⟩
        refine pop_len sl23 (hB.ext hs.chg) ?_
        refine pop_lss ?_
        refine cond_d (fun c_x33 => ?_) (fun c_x33 => ?_)
        · skip
          obtain ⟨e_x36, he_x36⟩ : ∃ xx, (ys)[((i : Int)).toNat]? = some xx := ⟨_, List.getElem?_eq_getElem (by omega)⟩
          refine pop_idx sl23 (hB.ext hs.chg) (by omega) he_x36 (fun q_x36 h_x36 => ?_)
          refine qop_at ty3 (h_x36) ?_
          intro dd4
          refine ⟨fun jv w' => jv = .bool (decide ((i : Int) < xs.length ∧ (i : Int) < ys.length)) ∧ w2 = w', ?_, ?_⟩
          · skip
            refine pop_len sl23 (hA.ext hs.chg) ?_
            refine pop_lss ?_
            refine cond_d (fun c_x41 => ?_) (fun c_x41 => ?_)
            · skip
              refine pop_len sl23 (hB.ext hs.chg) ?_
              refine pop_lss ?_
              exact ⟨congrArg Value.bool (by first | exact (decide_eq_true (by omega)).symm | exact (decide_eq_false (by omega)).symm | exact decide_eq_decide.2 (by omega)), rfl⟩
            · skip
              exact ⟨congrArg Value.bool (by first | exact (decide_eq_true (by omega)).symm | exact (decide_eq_false (by omega)).symm | exact decide_eq_decide.2 (by omega)), rfl⟩
          · skip
            rintro _ w6 ⟨rfl, hw⟩ dd5
            subst hw
            refine cond_d (fun c_x47 => ?_) (fun c_x47 => ?_)
            · skip
              refine pop_max ?_
              refine eop_build (([(max 0 e_x36)] : List Int)) hs sl23 rfl rfl (Nat.le_of_ble_eq_true rfl) (fun s_x52 w7 hs => ?_)
              have hjl := jn_len xs ys
              have hr_x53 := (hs).rd'
              refine eop_append hs.p1 sl23 hr_x53 (by simp <;> omega) (by decide) (fun s_x53 w8 hs => ?_)
              replace hs := hs.p1.drop
              intro dd6
              refine pop_add (by omega) ?_
              first | (exfalso; omega) | exact ⟨_, by omega, i + 1, rfl, rfl, by omega, by rw [← take_snoc (k := i) (jn_2 (i := i) he_x28 he_x36)]; exact hs⟩ | exact ⟨_, by omega, i + 1, rfl, rfl, by omega, by rw [← take_snoc (k := i) (jn_l (i := i) he_x28 (by omega))]; exact hs⟩ | exact ⟨_, by omega, i + 1, rfl, rfl, by omega, by rw [← take_snoc (k := i) (jn_r (i := i) (by omega) he_x36)]; exact hs⟩
            · skip
              have hk_x36 := hY _ (List.mem_of_getElem? he_x36)
              unfold i64ok at hk_x36
              refine pop_add (by omega) ?_
              refine eop_build (([(0 + e_x36)] : List Int)) hs sl23 rfl rfl (Nat.le_of_ble_eq_true rfl) (fun s_x58 w9 hs => ?_)
              have hjl := jn_len xs ys
              have hr_x59 := (hs).rd'
              refine eop_append hs.p1 sl23 hr_x59 (by simp <;> omega) (by decide) (fun s_x59 w10 hs => ?_)
              replace hs := hs.p1.drop
              intro dd6
              refine pop_add (by omega) ?_
              first | (exfalso; omega) | exact ⟨_, by omega, i + 1, rfl, rfl, by omega, by rw [← take_snoc (k := i) (jn_2 (i := i) he_x28 he_x36)]; exact hs⟩ | exact ⟨_, by omega, i + 1, rfl, rfl, by omega, by rw [← take_snoc (k := i) (jn_l (i := i) he_x28 (by omega))]; exact hs⟩ | exact ⟨_, by omega, i + 1, rfl, rfl, by omega, by rw [← take_snoc (k := i) (jn_r (i := i) (by omega) he_x36)]; exact hs⟩
        · skip
          intro dd4
          refine ⟨fun jv w' => jv = .bool (decide ((i : Int) < xs.length ∧ (i : Int) < ys.length)) ∧ w2 = w', ?_, ?_⟩
          · skip
            refine pop_len sl23 (hA.ext hs.chg) ?_
            refine pop_lss ?_
            refine cond_d (fun c_x41 => ?_) (fun c_x41 => ?_)
            · skip
              refine pop_len sl23 (hB.ext hs.chg) ?_
              refine pop_lss ?_
              exact ⟨congrArg Value.bool (by first | exact (decide_eq_true (by omega)).symm | exact (decide_eq_false (by omega)).symm | exact decide_eq_decide.2 (by omega)), rfl⟩
            · skip
              exact ⟨congrArg Value.bool (by first | exact (decide_eq_true (by omega)).symm | exact (decide_eq_false (by omega)).symm | exact decide_eq_decide.2 (by omega)), rfl⟩
          · skip
            rintro _ w6 ⟨rfl, hw⟩ dd5
            subst hw
            refine cond_d (fun c_x47 => ?_) (fun c_x47 => ?_)
            · skip
              refine pop_max ?_
              refine eop_build (([(max 0 0)] : List Int)) hs sl23 rfl rfl (Nat.le_of_ble_eq_true rfl) (fun s_x52 w7 hs => ?_)
              have hjl := jn_len xs ys
              have hr_x53 := (hs).rd'
              refine eop_append hs.p1 sl23 hr_x53 (by simp <;> omega) (by decide) (fun s_x53 w8 hs => ?_)
              replace hs := hs.p1.drop
              intro dd6
              refine pop_add (by omega) ?_
              first | (exfalso; omega) | exact ⟨_, by omega, i + 1, rfl, rfl, by omega, by rw [← take_snoc (k := i) (jn_2 (i := i) he_x28 he_x36)]; exact hs⟩ | exact ⟨_, by omega, i + 1, rfl, rfl, by omega, by rw [← take_snoc (k := i) (jn_l (i := i) he_x28 (by omega))]; exact hs⟩ | exact ⟨_, by omega, i + 1, rfl, rfl, by omega, by rw [← take_snoc (k := i) (jn_r (i := i) (by omega) he_x36)]; exact hs⟩
            · skip
              refine pop_add (by omega) ?_
              refine eop_build (([(0 + 0)] : List Int)) hs sl23 rfl rfl (Nat.le_of_ble_eq_true rfl) (fun s_x58 w9 hs => ?_)
              have hjl := jn_len xs ys
              have hr_x59 := (hs).rd'
              refine eop_append hs.p1 sl23 hr_x59 (by simp <;> omega) (by decide) (fun s_x59 w10 hs => ?_)
              replace hs := hs.p1.drop
              intro dd6
              refine pop_add (by omega) ?_
              first | (exfalso; omega) | exact ⟨_, by omega, i + 1, rfl, rfl, by omega, by rw [← take_snoc (k := i) (jn_2 (i := i) he_x28 he_x36)]; exact hs⟩ | exact ⟨_, by omega, i + 1, rfl, rfl, by omega, by rw [← take_snoc (k := i) (jn_l (i := i) he_x28 (by omega))]; exact hs⟩ | exact ⟨_, by omega, i + 1, rfl, rfl, by omega, by rw [← take_snoc (k := i) (jn_r (i := i) (by omega) he_x36)]; exact hs⟩
    · skip
      rw [List.take_of_length_le (by omega)] at hs
      exact hs.fresh

theorem C18 (sv : Value) (xs : List Event) (w : World) (hL : RdL (fun _ => True) w sv xs) (hn : xs.length ≤ 1048576) : Calls Try.prog 18 [sv].toArray w (Ret fun v w' => v = .int .i64 (thr xs) ∧ Ext w w') := by
  have hs := St.start w
  refine S18_ok _ _ _ ?_
  unfold S18
  refine pop_len sl22 (hL.ext hs.chg) ?_
  refine ⟨fun m y x w1 => ∃ k : Nat, y = .int .i64 (thrMax (xs.take k)) ∧ x = .int .i64 (k : Int) ∧ m = xs.length - k ∧ k ≤ xs.length ∧ (∀ v ∈ xs.take k, 0 ≤ v.t ∧ v.t < 8) ∧ St w none1 [] w1, ⟨_, 0, rfl, rfl, rfl, by omega, by simp, hs⟩, ?_⟩
  rintro m _ _ w1 ⟨k, rfl, rfl, rfl, hk, hok, hs⟩ dd1
  refine pop_lss ?_
  refine cond_d (fun c_x9 => ?_) (fun c_x9 => ?_)
  · skip
    obtain ⟨e_x10, he_x10⟩ : ∃ xx, (xs)[((k : Int)).toNat]? = some xx := ⟨_, List.getElem?_eq_getElem (by omega)⟩
    refine pop_idx sl22 (hL.ext hs.chg) (by omega) he_x10 (fun q_x10 h_x10 => ?_)
    refine qop_at ty40 (h_x10) ?_
    refine eop_allocA hs zero40 (fun b_v5 w2 hs => ?_)
    refine uop_blkV (x := e_x10) hs ty40 rfl rfl (fun w3 hs => ?_)
    refine ⟨fun jv w' => jv = .bool (decide ((e_x10).t < 0 ∨ 8 ≤ (e_x10).t)) ∧ w3 = w', ?_, ?_⟩
    · skip
      refine pop_field fld40_1 ?_
      refine qop_blk ty3 hs.hb rfl ?_
      refine pop_lss ?_
      refine cond_d (fun c_x14 => ?_) (fun c_x14 => ?_)
      · skip
        exact ⟨congrArg Value.bool (by first | exact (decide_eq_true (by omega)).symm | exact (decide_eq_false (by omega)).symm | exact decide_eq_decide.2 (by omega)), rfl⟩
      · skip
        refine pop_field fld40_1 ?_
        refine qop_blk ty3 hs.hb rfl ?_
        refine pop_geq ?_
        exact ⟨congrArg Value.bool (by first | exact (decide_eq_true (by omega)).symm | exact (decide_eq_false (by omega)).symm | exact decide_eq_decide.2 (by omega)), rfl⟩
    · skip
      rintro _ w4 ⟨rfl, hw⟩ dd2
      subst hw
      refine cond_d (fun c_x19 => ?_) (fun c_x19 => ?_)
      · skip
        exact ⟨congrArg (Value.int .i64) (thr_no he_x10 (by omega)).symm, hs.chg⟩
      · skip
        refine pop_field fld40_1 ?_
        refine qop_blk ty3 hs.hb rfl ?_
        refine pop_add (by omega) ?_
        refine pop_max ?_
        refine pop_add (by omega) ?_
        exact ⟨_, by omega, k + 1, congrArg (Value.int .i64) (thrMax_snoc he_x10).symm, rfl, rfl, by omega, take_all (φ := fun v : Event => 0 ≤ v.t ∧ v.t < 8) hok he_x10 (by omega), hs.drop⟩
  · skip
    exact ⟨congrArg (Value.int .i64) (thr_yes hok (by omega)).symm, hs.chg⟩

theorem C19 (sv : Value) (xs : List Event) (w : World) (hL : RdL (fun _ => True) w sv xs) (hn : xs.length ≤ 1048576) : Calls Try.prog 19 [sv].toArray w (Ret fun v w' => v = .int .i64 (thr xs) ∧ Ext w w') := by
  have hs := St.start w
  refine S19_ok _ _ _ ?_
  unfold S19
  refine ⟨fun m y x w1 => ∃ k : Nat, y = .int .i64 (thrMax (xs.take k)) ∧ x = .int .i64 (k : Int) ∧ m = xs.length - k ∧ k ≤ xs.length ∧ (∀ v ∈ xs.take k, 0 ≤ v.t ∧ v.t < 8) ∧ St w none1 [] w1, ⟨_, 0, rfl, rfl, rfl, by omega, by simp, hs⟩, ?_⟩
  rintro m _ _ w1 ⟨k, rfl, rfl, rfl, hk, hok, hs⟩ dd1
  refine pop_len sl22 (hL.ext hs.chg) ?_
  refine pop_lss ?_
  refine cond_d (fun c_x8 => ?_) (fun c_x8 => ?_)
  · skip
    refine ⟨_, ?_, fun _ _ h => h⟩
    obtain ⟨e_x13, he_x13⟩ : ∃ xx, (xs)[((k : Int)).toNat]? = some xx := ⟨_, List.getElem?_eq_getElem (by omega)⟩
    refine pop_idx sl22 (hL.ext hs.chg) (by omega) he_x13 (fun q_x13 h_x13 => ?_)
    refine pop_atf (e_x13).t fld40_1 h_x13 rfl rfl (fun q_x14 h_x14 => ?_)
    refine qop_at ty3 (h_x14) ?_
    refine pop_lss ?_
    refine cond_d (fun c_x16 => ?_) (fun c_x16 => ?_)
    · skip
      intro dd2
      refine cond_t ?_
      exact ⟨congrArg (Value.int .i64) (thr_no he_x13 (by omega)).symm, hs.chg⟩
    · skip
      refine pop_idx sl22 (hL.ext hs.chg) (by omega) he_x13 (fun q_x20 h_x20 => ?_)
      refine pop_atf (e_x13).t fld40_1 h_x20 rfl rfl (fun q_x21 h_x21 => ?_)
      refine qop_at ty3 (h_x21) ?_
      refine pop_gtr ?_
      intro dd2
      refine cond_d (fun c_x24 => ?_) (fun c_x24 => ?_)
      · skip
        exact ⟨congrArg (Value.int .i64) (thr_no he_x13 (by omega)).symm, hs.chg⟩
      · skip
        refine pop_idx sl22 (hL.ext hs.chg) (by omega) he_x13 (fun q_x28 h_x28 => ?_)
        refine pop_atf (e_x13).t fld40_1 h_x28 rfl rfl (fun q_x29 h_x29 => ?_)
        refine qop_at ty3 (h_x29) ?_
        refine pop_add (by omega) ?_
        refine pop_max ?_
        refine pop_add (by omega) ?_
        exact ⟨_, by omega, k + 1, congrArg (Value.int .i64) (thrMax_snoc he_x13).symm, rfl, rfl, by omega, take_all (φ := fun v : Event => 0 ≤ v.t ∧ v.t < 8) hok he_x13 (by omega), hs⟩
  · skip
    exact ⟨congrArg (Value.int .i64) (thr_yes hok (by omega)).symm, hs.chg⟩

theorem C16 (sv cv : Value) (xs : List Event) (cs : List (List Int)) (i k : Int) (w : World) (hL : RdL (fun _ => True) w sv xs) (hC : RdLL w cv cs) : Calls Try.prog 16 [sv, cv, .int .i64 i, .int .i64 k].toArray w (Ret fun v w' => v = .bool (bef xs cs i k) ∧ Ext w w') := by
  obtain ⟨ss, hS, hl, hE⟩ := hC
  have hs := St.start w
  refine S16_ok _ _ _ _ _ _ ?_
  unfold S16
  refine ⟨_, ?_, fun _ _ h => h⟩
  refine pop_lss ?_
  refine cond_d (fun c_x11 => ?_) (fun c_x11 => ?_)
  · skip
    intro dd1
    refine cond_t ?_
    first | exact ⟨congrArg Value.bool (bef_out (by omega)).symm, hs.chg⟩ | exact ⟨congrArg Value.bool (bef_neg he_x31 (by omega)).symm, hs.chg⟩ | exact ⟨congrArg Value.bool (bef_sa he_x31 hr_x40 (by omega)).symm, hs.chg⟩ | exact ⟨congrArg Value.bool (bef_sb he_x31 hr_x49 (by omega)).symm, hs.chg⟩
  · skip
    refine pop_geq ?_
    refine cond_d (fun c_x15 => ?_) (fun c_x15 => ?_)
    · skip
      intro dd1
      refine cond_t ?_
      first | exact ⟨congrArg Value.bool (bef_out (by omega)).symm, hs.chg⟩ | exact ⟨congrArg Value.bool (bef_neg he_x31 (by omega)).symm, hs.chg⟩ | exact ⟨congrArg Value.bool (bef_sa he_x31 hr_x40 (by omega)).symm, hs.chg⟩ | exact ⟨congrArg Value.bool (bef_sb he_x31 hr_x49 (by omega)).symm, hs.chg⟩
    · skip
      refine pop_len sl22 (hL.ext hs.chg) ?_
      refine pop_geq ?_
      refine cond_d (fun c_x21 => ?_) (fun c_x21 => ?_)
      · skip
        intro dd1
        refine cond_t ?_
        first | exact ⟨congrArg Value.bool (bef_out (by omega)).symm, hs.chg⟩ | exact ⟨congrArg Value.bool (bef_neg he_x31 (by omega)).symm, hs.chg⟩ | exact ⟨congrArg Value.bool (bef_sa he_x31 hr_x40 (by omega)).symm, hs.chg⟩ | exact ⟨congrArg Value.bool (bef_sb he_x31 hr_x49 (by omega)).symm, hs.chg⟩
      · skip
        refine pop_len sl26 (hS.ext hs.chg) ?_
        refine pop_geq ?_
        intro dd1
        refine cond_d (fun c_x28 => ?_) (fun c_x28 => ?_)
        · skip
          first | exact ⟨congrArg Value.bool (bef_out (by omega)).symm, hs.chg⟩ | exact ⟨congrArg Value.bool (bef_neg he_x31 (by omega)).symm, hs.chg⟩ | exact ⟨congrArg Value.bool (bef_sa he_x31 hr_x40 (by omega)).symm, hs.chg⟩ | exact ⟨congrArg Value.bool (bef_sb he_x31 hr_x49 (by omega)).symm, hs.chg⟩
        · skip
          obtain ⟨e_x31, he_x31⟩ : ∃ xx, (xs)[(i).toNat]? = some xx := ⟨_, List.getElem?_eq_getElem (by omega)⟩
          refine pop_idx sl22 (hL.ext hs.chg) (by omega) he_x31 (fun q_x31 h_x31 => ?_)
          refine pop_atf (e_x31).t fld40_1 h_x31 rfl rfl (fun q_x32 h_x32 => ?_)
          refine qop_at ty3 (h_x32) ?_
          refine ⟨_, ?_, fun _ _ h => h⟩
          refine pop_lss ?_
          refine cond_d (fun c_x35 => ?_) (fun c_x35 => ?_)
          · skip
            intro dd2
            refine cond_t ?_
            first | exact ⟨congrArg Value.bool (bef_out (by omega)).symm, hs.chg⟩ | exact ⟨congrArg Value.bool (bef_neg he_x31 (by omega)).symm, hs.chg⟩ | exact ⟨congrArg Value.bool (bef_sa he_x31 hr_x40 (by omega)).symm, hs.chg⟩ | exact ⟨congrArg Value.bool (bef_sb he_x31 hr_x49 (by omega)).symm, hs.chg⟩
          · skip
            obtain ⟨e_x40, he_x40⟩ : ∃ xx, (ss)[(i).toNat]? = some xx := ⟨_, List.getElem?_eq_getElem (by omega)⟩
            obtain ⟨r_x40, hr_x40⟩ : ∃ xx, (cs)[(i).toNat]? = some xx := ⟨_, List.getElem?_eq_getElem (by omega)⟩
            refine pop_idx sl26 (hS.ext hs.chg) (by omega) he_x40 (fun q_x40 h_x40 => ?_)
            refine qop_at ty23 (h_x40) ?_
            refine pop_len sl23 ((hE _ _ _ he_x40 hr_x40).ext hs.chg) ?_
            refine pop_geq ?_
            refine cond_d (fun c_x43 => ?_) (fun c_x43 => ?_)
            · skip
              intro dd2
              refine cond_t ?_
              first | exact ⟨congrArg Value.bool (bef_out (by omega)).symm, hs.chg⟩ | exact ⟨congrArg Value.bool (bef_neg he_x31 (by omega)).symm, hs.chg⟩ | exact ⟨congrArg Value.bool (bef_sa he_x31 hr_x40 (by omega)).symm, hs.chg⟩ | exact ⟨congrArg Value.bool (bef_sb he_x31 hr_x49 (by omega)).symm, hs.chg⟩
            · skip
              obtain ⟨e_x49, he_x49⟩ : ∃ xx, (ss)[(k).toNat]? = some xx := ⟨_, List.getElem?_eq_getElem (by omega)⟩
              obtain ⟨r_x49, hr_x49⟩ : ∃ xx, (cs)[(k).toNat]? = some xx := ⟨_, List.getElem?_eq_getElem (by omega)⟩
              refine pop_idx sl26 (hS.ext hs.chg) (by omega) he_x49 (fun q_x49 h_x49 => ?_)
              refine qop_at ty23 (h_x49) ?_
              refine pop_len sl23 ((hE _ _ _ he_x49 hr_x49).ext hs.chg) ?_
              refine pop_geq ?_
              intro dd2
              refine cond_d (fun c_x53 => ?_) (fun c_x53 => ?_)
              · skip
                first | exact ⟨congrArg Value.bool (bef_out (by omega)).symm, hs.chg⟩ | exact ⟨congrArg Value.bool (bef_neg he_x31 (by omega)).symm, hs.chg⟩ | exact ⟨congrArg Value.bool (bef_sa he_x31 hr_x40 (by omega)).symm, hs.chg⟩ | exact ⟨congrArg Value.bool (bef_sb he_x31 hr_x49 (by omega)).symm, hs.chg⟩
              · skip
                refine pop_idx sl26 (hS.ext hs.chg) (by omega) he_x49 (fun q_x56 h_x56 => ?_)
                replace hs := hs.drew
                refine qop_at ty23 (h_x56) ?_
                obtain ⟨e_x59, he_x59⟩ : ∃ xx, (r_x49)[((e_x31).t).toNat]? = some xx := ⟨_, List.getElem?_eq_getElem (by omega)⟩
                refine pop_idx sl23 ((hE _ _ _ he_x49 hr_x49).ext hs.chg) (by omega) he_x59 (fun q_x59 h_x59 => ?_)
                refine qop_at ty3 (h_x59) ?_
                refine pop_idx sl26 (hS.ext hs.chg) (by omega) he_x40 (fun q_x63 h_x63 => ?_)
                refine qop_at ty23 (h_x63) ?_
                obtain ⟨e_x66, he_x66⟩ : ∃ xx, (r_x40)[((e_x31).t).toNat]? = some xx := ⟨_, List.getElem?_eq_getElem (by omega)⟩
                refine pop_idx sl23 ((hE _ _ _ he_x40 hr_x40).ext hs.chg) (by omega) he_x66 (fun q_x66 h_x66 => ?_)
                refine qop_at ty3 (h_x66) ?_
                refine pop_geq ?_
                exact ⟨congrArg Value.bool (bef_at (by omega) he_x31 hr_x40 hr_x49 (by omega) he_x66 he_x59).symm, hs.chg⟩

theorem C17 (sv cv : Value) (xs : List Event) (cs : List (List Int)) (i k : Int) (w : World) (hL : RdL (fun _ => True) w sv xs) (hC : RdLL w cv cs) : Calls Try.prog 17 [sv, cv, .int .i64 i, .int .i64 k].toArray w (Ret fun v w' => v = .bool (bef xs cs i k) ∧ Ext w w') := by
  obtain ⟨ss, hS, hl, hE⟩ := hC
  have hs := St.start w
  refine S17_ok _ _ _ _ _ _ ?_
  unfold S17
  refine ⟨_, ?_, fun _ _ h => h⟩
  refine pop_lss ?_
  refine cond_d (fun c_x13 => ?_) (fun c_x13 => ?_)
  · skip
    intro dd1
    refine cond_t ?_
    first | exact ⟨congrArg Value.bool (bef_out (by omega)).symm, hs.chg⟩ | exact ⟨congrArg Value.bool (bef_neg he_x34 (by omega)).symm, hs.chg⟩ | exact ⟨congrArg Value.bool (bef_sa he_x34 hr_x41 (by omega)).symm, hs.chg⟩ | exact ⟨congrArg Value.bool (bef_sb he_x34 hr_x45 (by omega)).symm, hs.chg⟩
  · skip
    refine pop_len sl22 (hL.ext hs.chg) ?_
    refine pop_geq ?_
    refine cond_d (fun c_x18 => ?_) (fun c_x18 => ?_)
    · skip
      intro dd1
      refine cond_t ?_
      first | exact ⟨congrArg Value.bool (bef_out (by omega)).symm, hs.chg⟩ | exact ⟨congrArg Value.bool (bef_neg he_x34 (by omega)).symm, hs.chg⟩ | exact ⟨congrArg Value.bool (bef_sa he_x34 hr_x41 (by omega)).symm, hs.chg⟩ | exact ⟨congrArg Value.bool (bef_sb he_x34 hr_x45 (by omega)).symm, hs.chg⟩
    · skip
      refine pop_geq ?_
      refine cond_d (fun c_x23 => ?_) (fun c_x23 => ?_)
      · skip
        intro dd1
        refine cond_t ?_
        first | exact ⟨congrArg Value.bool (bef_out (by omega)).symm, hs.chg⟩ | exact ⟨congrArg Value.bool (bef_neg he_x34 (by omega)).symm, hs.chg⟩ | exact ⟨congrArg Value.bool (bef_sa he_x34 hr_x41 (by omega)).symm, hs.chg⟩ | exact ⟨congrArg Value.bool (bef_sb he_x34 hr_x45 (by omega)).symm, hs.chg⟩
      · skip
        refine pop_len sl26 (hS.ext hs.chg) ?_
        refine pop_geq ?_
        refine cond_d (fun c_x29 => ?_) (fun c_x29 => ?_)
        · skip
          intro dd1
          refine cond_t ?_
          first | exact ⟨congrArg Value.bool (bef_out (by omega)).symm, hs.chg⟩ | exact ⟨congrArg Value.bool (bef_neg he_x34 (by omega)).symm, hs.chg⟩ | exact ⟨congrArg Value.bool (bef_sa he_x34 hr_x41 (by omega)).symm, hs.chg⟩ | exact ⟨congrArg Value.bool (bef_sb he_x34 hr_x45 (by omega)).symm, hs.chg⟩
        · skip
          obtain ⟨e_x34, he_x34⟩ : ∃ xx, (xs)[(i).toNat]? = some xx := ⟨_, List.getElem?_eq_getElem (by omega)⟩
          refine pop_idx sl22 (hL.ext hs.chg) (by omega) he_x34 (fun q_x34 h_x34 => ?_)
          refine pop_atf (e_x34).t fld40_1 h_x34 rfl rfl (fun q_x35 h_x35 => ?_)
          refine qop_at ty3 (h_x35) ?_
          refine pop_lss ?_
          intro dd1
          refine cond_d (fun c_x38 => ?_) (fun c_x38 => ?_)
          · skip
            first | exact ⟨congrArg Value.bool (bef_out (by omega)).symm, hs.chg⟩ | exact ⟨congrArg Value.bool (bef_neg he_x34 (by omega)).symm, hs.chg⟩ | exact ⟨congrArg Value.bool (bef_sa he_x34 hr_x41 (by omega)).symm, hs.chg⟩ | exact ⟨congrArg Value.bool (bef_sb he_x34 hr_x45 (by omega)).symm, hs.chg⟩
          · skip
            obtain ⟨e_x41, he_x41⟩ : ∃ xx, (ss)[(i).toNat]? = some xx := ⟨_, List.getElem?_eq_getElem (by omega)⟩
            obtain ⟨r_x41, hr_x41⟩ : ∃ xx, (cs)[(i).toNat]? = some xx := ⟨_, List.getElem?_eq_getElem (by omega)⟩
            refine pop_idx sl26 (hS.ext hs.chg) (by omega) he_x41 (fun q_x41 h_x41 => ?_)
            replace hs := hs.drew
            refine qop_at ty23 (h_x41) ?_
            obtain ⟨e_x45, he_x45⟩ : ∃ xx, (ss)[(k).toNat]? = some xx := ⟨_, List.getElem?_eq_getElem (by omega)⟩
            obtain ⟨r_x45, hr_x45⟩ : ∃ xx, (cs)[(k).toNat]? = some xx := ⟨_, List.getElem?_eq_getElem (by omega)⟩
            refine pop_idx sl26 (hS.ext hs.chg) (by omega) he_x45 (fun q_x45 h_x45 => ?_)
            refine qop_at ty23 (h_x45) ?_
            refine pop_idx sl22 (hL.ext hs.chg) (by omega) he_x34 (fun q_x49 h_x49 => ?_)
            refine pop_atf (e_x34).t fld40_1 h_x49 rfl rfl (fun q_x50 h_x50 => ?_)
            refine qop_at ty3 (h_x50) ?_
            refine ⟨_, ?_, fun _ _ h => h⟩
            refine pop_len sl23 ((hE _ _ _ he_x41 hr_x41).ext hs.chg) ?_
            refine pop_lss ?_
            refine cond_d (fun c_x55 => ?_) (fun c_x55 => ?_)
            · skip
              refine pop_len sl23 ((hE _ _ _ he_x45 hr_x45).ext hs.chg) ?_
              refine pop_lss ?_
              refine cond_d (fun c_x60 => ?_) (fun c_x60 => ?_)
              · skip
                obtain ⟨e_x65, he_x65⟩ : ∃ xx, (r_x45)[((e_x34).t).toNat]? = some xx := ⟨_, List.getElem?_eq_getElem (by omega)⟩
                refine pop_idx sl23 ((hE _ _ _ he_x45 hr_x45).ext hs.chg) (by omega) he_x65 (fun q_x65 h_x65 => ?_)
                replace hs := hs.drew
                refine qop_at ty3 (h_x65) ?_
                obtain ⟨e_x69, he_x69⟩ : ∃ xx, (r_x41)[((e_x34).t).toNat]? = some xx := ⟨_, List.getElem?_eq_getElem (by omega)⟩
                refine pop_idx sl23 ((hE _ _ _ he_x41 hr_x41).ext hs.chg) (by omega) he_x69 (fun q_x69 h_x69 => ?_)
                refine qop_at ty3 (h_x69) ?_
                refine pop_geq ?_
                intro dd2
                exact ⟨congrArg Value.bool (bef_at (by omega) he_x34 hr_x41 hr_x45 (by omega) he_x69 he_x65).symm, hs.chg⟩
              · skip
                replace hs := hs.drew
                intro dd2
                first | exact ⟨congrArg Value.bool (bef_out (by omega)).symm, hs.chg⟩ | exact ⟨congrArg Value.bool (bef_neg he_x34 (by omega)).symm, hs.chg⟩ | exact ⟨congrArg Value.bool (bef_sa he_x34 hr_x41 (by omega)).symm, hs.chg⟩ | exact ⟨congrArg Value.bool (bef_sb he_x34 hr_x45 (by omega)).symm, hs.chg⟩
            · skip
              replace hs := hs.drew
              intro dd2
              first | exact ⟨congrArg Value.bool (bef_out (by omega)).symm, hs.chg⟩ | exact ⟨congrArg Value.bool (bef_neg he_x34 (by omega)).symm, hs.chg⟩ | exact ⟨congrArg Value.bool (bef_sa he_x34 hr_x41 (by omega)).symm, hs.chg⟩ | exact ⟨congrArg Value.bool (bef_sb he_x34 hr_x45 (by omega)).symm, hs.chg⟩

theorem C21 (av bv : Value) (xs ys : List Int) (w : World) (hA : RdL (fun _ => True) w av xs) (hB : RdL (fun _ => True) w bv ys) (hn : xs.length ≤ 1073741824) : Calls Try.prog 21 [av, bv].toArray w (Ret fun v w' => v = .bool (decide (xs = ys)) ∧ Ext w w') := by
  have hs := St.start w
  refine S21_ok _ _ _ _ ?_
  unfold S21
  refine pop_len sl23 (hA.ext hs.chg) ?_
  refine pop_len sl23 (hB.ext hs.chg) ?_
  refine pop_neq ?_
  refine cond_d (fun c_x10 => ?_) (fun c_x10 => ?_)
  · skip
    exact ⟨congrArg Value.bool (decide_eq_false (by rintro rfl; omega)).symm, hs.chg⟩
  · skip
    refine ⟨fun m x w1 => ∃ k : Nat, x = .int .i64 (k : Int) ∧ m = xs.length - k ∧ k ≤ xs.length ∧ xs.take k = ys.take k ∧ St w none1 [] w1, ⟨_, 0, rfl, rfl, Nat.zero_le _, rfl, hs⟩, ?_⟩
    rintro m _ w1 ⟨k, rfl, rfl, hk, hsame, hs⟩ dd1
    refine pop_len sl23 (hA.ext hs.chg) ?_
    refine pop_lss ?_
    refine cond_d (fun c_x14 => ?_) (fun c_x14 => ?_)
    · skip
      obtain ⟨e_x19, he_x19⟩ : ∃ xx, (xs)[((k : Int)).toNat]? = some xx := ⟨_, List.getElem?_eq_getElem (by omega)⟩
      refine pop_idx sl23 (hA.ext hs.chg) (by omega) he_x19 (fun q_x19 h_x19 => ?_)
      replace hs := hs.drew
      refine qop_at ty3 (h_x19) ?_
      obtain ⟨e_x23, he_x23⟩ : ∃ xx, (ys)[((k : Int)).toNat]? = some xx := ⟨_, List.getElem?_eq_getElem (by omega)⟩
      refine pop_idx sl23 (hB.ext hs.chg) (by omega) he_x23 (fun q_x23 h_x23 => ?_)
      refine qop_at ty3 (h_x23) ?_
      refine pop_neq ?_
      refine cond_d (fun c_x25 => ?_) (fun c_x25 => ?_)
      · skip
        exact ⟨congrArg Value.bool (decide_eq_false (ne_of_get he_x19 he_x23 c_x25)).symm, hs.chg⟩
      · skip
        refine pop_add (by omega) ?_
        exact ⟨xs.length - (k + 1), by omega, k + 1, rfl, rfl, by omega, take_eq_snoc hsame he_x19 he_x23 (Decidable.not_not.1 c_x25), hs⟩
    · skip
      exact ⟨congrArg Value.bool (decide_eq_true (by rw [List.take_of_length_le (by omega), List.take_of_length_le (by omega)] at hsame; exact hsame)).symm, hs.chg⟩

theorem C13 (av bv : Value) (xs ys : List Two) (w : World) (hA : RdL (fun _ => True) w av xs) (hB : RdL (fun _ => True) w bv ys) (hn : xs.length ≤ 1073741824) : Calls Try.prog 13 [av, bv].toArray w (Ret fun v w' => v = .bool (decide (xs = ys)) ∧ Ext w w') := by
  have hs := St.start w
  refine S13_ok _ _ _ _ ?_
  unfold S13
  refine pop_len sl30 (hA.ext hs.chg) ?_
  refine pop_len sl30 (hB.ext hs.chg) ?_
  refine pop_neq ?_
  refine cond_d (fun c_x10 => ?_) (fun c_x10 => ?_)
  · skip
    exact ⟨congrArg Value.bool (decide_eq_false (by rintro rfl; omega)).symm, hs.chg⟩
  · skip
    refine ⟨fun m x w1 => ∃ k : Nat, x = .int .i64 (k : Int) ∧ m = xs.length - k ∧ k ≤ xs.length ∧ xs.take k = ys.take k ∧ St w none1 [] w1, ⟨_, 0, rfl, rfl, Nat.zero_le _, rfl, hs⟩, ?_⟩
    rintro m _ w1 ⟨k, rfl, rfl, hk, hsame, hs⟩ dd1
    refine pop_len sl30 (hA.ext hs.chg) ?_
    refine pop_lss ?_
    refine cond_d (fun c_x14 => ?_) (fun c_x14 => ?_)
    · skip
      obtain ⟨e_x19, he_x19⟩ : ∃ xx, (xs)[((k : Int)).toNat]? = some xx := ⟨_, List.getElem?_eq_getElem (by omega)⟩
      refine pop_idx sl30 (hA.ext hs.chg) (by omega) he_x19 (fun q_x19 h_x19 => ?_)
      replace hs := hs.drew
      refine qop_at ty43 (h_x19) ?_
      obtain ⟨e_x23, he_x23⟩ : ∃ xx, (ys)[((k : Int)).toNat]? = some xx := ⟨_, List.getElem?_eq_getElem (by omega)⟩
      refine pop_idx sl30 (hB.ext hs.chg) (by omega) he_x23 (fun q_x23 h_x23 => ?_)
      refine qop_at ty43 (h_x23) ?_
      refine pop_ar2ne (a := (e_x19).a) (b := (e_x19).b) (c := (e_x23).a) (d := (e_x23).b) ar43 ?_
      refine cond_d (fun c_x25 => ?_) (fun c_x25 => ?_)
      · skip
        exact ⟨congrArg Value.bool (decide_eq_false (ne_of_get he_x19 he_x23 (Two.ne c_x25))).symm, hs.chg⟩
      · skip
        refine pop_add (by omega) ?_
        exact ⟨xs.length - (k + 1), by omega, k + 1, rfl, rfl, by omega, take_eq_snoc hsame he_x19 he_x23 (Two.eq c_x25), hs⟩
    · skip
      exact ⟨congrArg Value.bool (decide_eq_true (by rw [List.take_of_length_le (by omega), List.take_of_length_le (by omega)] at hsame; exact hsame)).symm, hs.chg⟩

theorem C11 (av bv : Value) (xs ys : List (List Int)) (w : World) (hA : RdLL w av xs) (hB : RdLL w bv ys) (hn : xs.length ≤ 1073741824) (hm : ∀ x ∈ xs, x.length ≤ 1073741824) : Calls Try.prog 11 [av, bv].toArray w (Ret fun v w' => v = .bool (decide (xs = ys)) ∧ Ext w w') := by
  obtain ⟨sa, hSA, hla, hEA⟩ := hA
  obtain ⟨sb, hSB, hlb, hEB⟩ := hB
  have hs := St.start w
  refine S11_ok _ _ _ _ ?_
  unfold S11
  refine pop_len sl26 (hSA.ext hs.chg) ?_
  refine pop_len sl26 (hSB.ext hs.chg) ?_
  refine pop_neq ?_
  refine cond_d (fun c_x10 => ?_) (fun c_x10 => ?_)
  · skip
    exact ⟨congrArg Value.bool (decide_eq_false (by rintro rfl; omega)).symm, hs.chg⟩
  · skip
    refine ⟨fun m x w1 => ∃ k : Nat, x = .int .i64 (k : Int) ∧ m = xs.length - k ∧ k ≤ xs.length ∧ xs.take k = ys.take k ∧ St w none1 [] w1, ⟨_, 0, rfl, rfl, Nat.zero_le _, rfl, hs⟩, ?_⟩
    rintro m _ w1 ⟨k, rfl, rfl, hk, hsame, hs⟩ dd1
    refine pop_len sl26 (hSA.ext hs.chg) ?_
    refine pop_lss ?_
    refine cond_d (fun c_x14 => ?_) (fun c_x14 => ?_)
    · skip
      obtain ⟨e_x19, he_x19⟩ : ∃ xx, (sa)[((k : Int)).toNat]? = some xx := ⟨_, List.getElem?_eq_getElem (by omega)⟩
      obtain ⟨r_x19, hr_x19⟩ : ∃ xx, (xs)[((k : Int)).toNat]? = some xx := ⟨_, List.getElem?_eq_getElem (by omega)⟩
      refine pop_idx sl26 (hSA.ext hs.chg) (by omega) he_x19 (fun q_x19 h_x19 => ?_)
      replace hs := hs.drew
      refine qop_at ty23 (h_x19) ?_
      obtain ⟨e_x23, he_x23⟩ : ∃ xx, (sb)[((k : Int)).toNat]? = some xx := ⟨_, List.getElem?_eq_getElem (by omega)⟩
      obtain ⟨r_x23, hr_x23⟩ : ∃ xx, (ys)[((k : Int)).toNat]? = some xx := ⟨_, List.getElem?_eq_getElem (by omega)⟩
      refine pop_idx sl26 (hSB.ext hs.chg) (by omega) he_x23 (fun q_x23 h_x23 => ?_)
      refine qop_at ty23 (h_x23) ?_
      refine callF pl21 (C21 _ _ _ _ _ ((hEA _ _ _ he_x19 hr_x19).ext hs.chg) ((hEB _ _ _ he_x23 hr_x23).ext hs.chg) (hm _ (List.mem_of_getElem? hr_x19))) ?_
      rintro _ w2 ⟨rfl, he⟩
      replace hs := hs.ext he
      first | refine pop_notd ?_ | refine pop_not ?_
      refine cond_d (fun c_x26 => ?_) (fun c_x26 => ?_)
      · skip
        exact ⟨congrArg Value.bool (decide_eq_false (ne_of_get hr_x19 hr_x23 c_x26)).symm, hs.chg⟩
      · skip
        refine pop_add (by omega) ?_
        exact ⟨xs.length - (k + 1), by omega, k + 1, rfl, rfl, by omega, take_eq_snoc hsame hr_x19 hr_x23 (Decidable.not_not.1 c_x26), hs⟩
    · skip
      exact ⟨congrArg Value.bool (decide_eq_true (by rw [List.take_of_length_le (by omega), List.take_of_length_le (by omega)] at hsame; exact hsame)).symm, hs.chg⟩

end Go.Proofs.Ytobcbkipeipjeaa
