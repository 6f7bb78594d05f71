/-
  Plain: what happened before what, and what clocks tell of it; the program's way and the document's are the same.
-/
import Derived.Test.YtobcbkipeipjeaaC4
namespace Go.Proofs.Ytobcbkipeipjeaa
open Go.Fw

/-! ### What happened before what, and clocks -/
section
variable {D : Event → Event → Bool} {l : List Event} {n : Nat}
/-- k depends on the earlier i. -/
def Dep (D : Event → Event → Bool) (l : List Event) (i k : Nat) : Prop := ∃ x v, l[i]? = some x ∧ l[k]? = some v ∧ D x v = true
inductive HB (D : Event → Event → Bool) (l : List Event) : Nat → Nat → Prop
  | one {i k : Nat} : i < k → Dep D l i k → HB D l i k
  | more {i j k : Nat} : j < k → Dep D l j k → HB D l i j → HB D l i k
theorem HB.lt {i k : Nat} (h : HB D l i k) : i < k := by
  induction h with
  | one h _ => exact h
  | more h _ _ ih => omega
theorem HB.iff {i k : Nat} : HB D l i k ↔ ∃ j, j < k ∧ Dep D l j k ∧ (i = j ∨ HB D l i j) := by
  constructor
  · intro h
    cases h with
    | one h1 h2 => exact ⟨i, h1, h2, .inl rfl⟩
    | more h1 h2 h3 => exact ⟨_, h1, h2, .inr h3⟩
  · rintro ⟨j, h1, h2, rfl | h3⟩
    · exact .one h1 h2
    · exact .more h1 h2 h3
theorem HB.trans {i j k : Nat} (h1 : HB D l i j) (h2 : HB D l j k) : HB D l i k := by
  induction h2 with
  | one a b => exact .more a b h1
  | more a b _ ih => exact .more a b ih
/-- How many of the first j events are of the thread t. -/
def rank (l : List Event) (t : Int) : Nat → Int
  | 0 => 0
  | j + 1 => rank l t j + (match l[j]? with | some v => if v.t = t then 1 else 0 | none => 0)
theorem rank_succ (l : List Event) (t : Int) (j : Nat) : rank l t (j + 1) = rank l t j + (match l[j]? with | some v => if v.t = t then 1 else 0 | none => 0) := rfl
theorem rank_same {t : Int} {j : Nat} {v : Event} (h : l[j]? = some v) (ht : v.t = t) : rank l t (j + 1) = rank l t j + 1 := by rw [rank_succ, h]; simp [ht]
theorem rank_other {t : Int} {j : Nat} {v : Event} (h : l[j]? = some v) (ht : ¬ v.t = t) : rank l t (j + 1) = rank l t j := by rw [rank_succ, h]; simp [ht]
theorem rank_up (t : Int) (j : Nat) : rank l t j ≤ rank l t (j + 1) := by
  rw [rank_succ]; split
  · split <;> omega
  · omega
theorem rank_mono (t : Int) {i j : Nat} (h : i ≤ j) : rank l t i ≤ rank l t j := by
  induction j with
  | zero => rw [Nat.le_zero.1 h]; exact Int.le_refl _
  | succ j ih =>
    rcases Nat.lt_or_ge i (j + 1) with h2 | h2
    · exact Int.le_trans (ih (by omega)) (rank_up t j)
    · rw [show i = j + 1 from by omega]; exact Int.le_refl _
theorem rank_all {t x : Int} (h0 : 0 ≤ x) : ∀ k : Nat, (∀ i v, i < k → l[i]? = some v → v.t = t → rank l t i < x) → rank l t k ≤ x
  | 0, _ => h0
  | k + 1, h => by
    have ih := rank_all h0 k fun i v hi => h i v (by omega)
    cases hk : l[k]? with
    | none => rw [rank_succ, hk]; simp only []; omega
    | some v =>
      by_cases ht : v.t = t
      · have := h k v (by omega) hk ht
        rw [rank_same hk ht]; omega
      · rw [rank_other hk ht]; exact ih

/-- What a clock says of the thread t. -/
def Says (D : Event → Event → Bool) (l : List Event) (k : Nat) (c : List Int) (t : Int) : Prop :=
  ∃ x, c[t.toNat]? = some x ∧ (∀ i v, i ≤ k → l[i]? = some v → v.t = t → ((i = k ∨ HB D l i k) ↔ rank l t i < x)) ∧ 0 ≤ x ∧ x ≤ rank l t (k + 1)
theorem clkTo_at : ∀ {m k : Nat} {v : Event}, k < m → l[k]? = some v → (clkTo D n l m)[k]? = some (bump (rowTo D n l (clkTo D n l k) v k) v.t)
  | 0, _, _, h, _ => by omega
  | m + 1, k, v, h, hv => by
    have hkl := (List.getElem?_eq_some_iff.1 hv).1
    rcases Nat.lt_or_ge k m with h2 | h2
    · have ih := clkTo_at h2 hv
      cases hm : l[m]? with
      | none => rw [clkTo, hm]; exact ih
      | some y =>
        rw [clkTo_yes hm, List.getElem?_append_left (List.getElem?_eq_some_iff.1 ih).1]; exact ih
    · obtain rfl : k = m := by omega
      rw [clkTo_yes hv, List.getElem?_append_right (by rw [clkTo_len (by omega)]; exact Nat.le_refl _), clkTo_len (by omega), Nat.sub_self]; rfl
theorem rowTo_says (hD : ∀ a b : Event, a.t = b.t → D a b = true) {k : Nat} {v : Event} (hv : l[k]? = some v) {t : Int} (ht0 : 0 ≤ t) (htn : t < n)
    (ih : ∀ j, j < k → ∀ c, (clkTo D n l k)[j]? = some c → Says D l j c t) :
    ∀ j, j ≤ k → ∃ x, (rowTo D n l (clkTo D n l k) v j)[t.toNat]? = some x ∧ (∀ i y, i < k → l[i]? = some y → y.t = t → ((∃ i', i' < j ∧ Dep D l i' k ∧ (i = i' ∨ HB D l i i')) ↔ rank l t i < x)) ∧ 0 ≤ x ∧ x ≤ rank l t j
  | 0, _ => by
    refine ⟨0, ?_, fun i y hi hy hyt => ⟨fun ⟨_, h, _⟩ => by omega, fun h => ?_⟩, by omega, Int.le_refl _⟩
    · rw [rowTo, List.getElem?_replicate, if_pos (by omega)]
    · have := rank_mono (l := l) t (Nat.zero_le i)
      have e0 : rank l t 0 = 0 := rfl
      omega
  | j + 1, hj => by
    obtain ⟨x, hx, hiff, h0, hle⟩ := rowTo_says hD hv ht0 htn ih j (by omega)
    have hkl := (List.getElem?_eq_some_iff.1 hv).1
    obtain ⟨y, hy⟩ : ∃ y, l[j]? = some y := ⟨_, List.getElem?_eq_getElem (by omega)⟩
    have hr := clkTo_at (D := D) (n := n) (show j < k from hj) hy
    have hup := rank_up (l := l) t j
    cases hd : D y v with
    | false =>
      refine ⟨x, by rw [rowTo_no hy hd]; exact hx, fun i z hi hz hzt => ?_, h0, by omega⟩
      rw [← hiff i z hi hz hzt]
      constructor
      · rintro ⟨i', h1, h2, h3⟩
        refine ⟨i', ?_, h2, h3⟩
        rcases Nat.lt_or_ge i' j with h | h
        · exact h
        · obtain rfl : i' = j := by omega
          obtain ⟨a, b, ha, hb, hab⟩ := h2
          rw [hy] at ha; rw [hv] at hb
          obtain rfl := Option.some.inj ha
          obtain rfl := Option.some.inj hb
          rw [hd] at hab; cases hab
      · rintro ⟨i', h1, h2, h3⟩; exact ⟨i', by omega, h2, h3⟩
    | true =>
      obtain ⟨z, hz, hziff, hz0, hzle⟩ := ih j hj _ hr
      refine ⟨max x z, by rw [rowTo_yes hy hr hd]; exact jn_2 hx hz, fun i q hi hq hqt => ?_, by omega, by omega⟩
      have hdep : Dep D l j k := ⟨y, v, hy, hv, hd⟩
      have e1 := hiff i q hi hq hqt
      have key : (i = j ∨ HB D l i j) ↔ rank l t i < z := by
        rcases Nat.lt_or_ge j i with h | h
        · have := rank_mono (l := l) t (show j + 1 ≤ i from h)
          constructor
          · rintro (h1 | h1)
            · omega
            · have := h1.lt; omega
          · intro h1; omega
        · exact hziff i q h hq hqt
      constructor
      · rintro ⟨i', h1, h2, h3⟩
        rcases Nat.lt_or_ge i' j with h | h
        · have := e1.1 ⟨i', h, h2, h3⟩; omega
        · obtain rfl : i' = j := by omega
          have := key.1 h3; omega
      · intro h
        rcases (by omega : rank l t i < x ∨ rank l t i < z) with h1 | h1
        · obtain ⟨i', a, b, c⟩ := e1.2 h1; exact ⟨i', by omega, b, c⟩
        · exact ⟨j, by omega, hdep, key.2 h1⟩
theorem bump_get (c : List Int) (a : Int) (i : Nat) : (bump c a)[i]? = if i = a.toNat then (c[i]?).map (· + 1) else c[i]? := by
  unfold bump
  by_cases h : i = a.toNat
  · subst h
    rw [if_pos rfl]
    cases hc : c[a.toNat]? with
    | none => simp only []; rw [hc]; rfl
    | some x => simp only []; rw [List.getElem?_set, if_pos rfl, if_pos (List.getElem?_eq_some_iff.1 hc).1]; rfl
  · rw [if_neg h]
    cases hc : c[a.toNat]? with
    | none => rfl
    | some x => simp only []; rw [List.getElem?_set, if_neg (fun e => h e.symm)]
theorem clk_says (hD : ∀ a b : Event, a.t = b.t → D a b = true) (hT : ∀ v ∈ l, 0 ≤ v.t ∧ v.t < n) {t : Int} (ht0 : 0 ≤ t) (htn : t < n) : ∀ (k m : Nat), k < m → ∀ v, l[k]? = some v → ∃ c, (clkTo D n l m)[k]? = some c ∧ Says D l k c t := by
  intro k
  induction k using Nat.strongRecOn with
  | ind k ihk =>
    intro m hm v hv
    refine ⟨_, clkTo_at hm hv, ?_⟩
    have hkl := (List.getElem?_eq_some_iff.1 hv).1
    have ih : ∀ j, j < k → ∀ c, (clkTo D n l k)[j]? = some c → Says D l j c t := by
      intro j hj c hc
      obtain ⟨y, hy⟩ : ∃ y, l[j]? = some y := ⟨_, List.getElem?_eq_getElem (by omega)⟩
      obtain ⟨c', h1, h2⟩ := ihk j hj k hj y hy
      rw [hc] at h1
      rw [Option.some.inj h1]; exact h2
    obtain ⟨x, hx, hiff, h0, hle⟩ := rowTo_says hD hv ht0 htn ih k (Nat.le_refl _)
    have hvt := hT v (List.mem_of_getElem? hv)
    by_cases hvt2 : v.t = t
    · have hx2 : rank l t k ≤ x := rank_all h0 k fun i y hi hy hyt => (hiff i y hi hy hyt).1 ⟨i, hi, ⟨y, v, hy, hv, hD y v (by omega)⟩, .inl rfl⟩
      have hr := rank_same hv hvt2
      refine ⟨x + 1, ?_, fun i y hi hy hyt => ?_, by omega, by omega⟩
      · rw [bump_get, hvt2, if_pos rfl, hx]; rfl
      · have hm2 := rank_mono (l := l) t hi
        refine ⟨fun _ => by omega, fun _ => ?_⟩
        rcases Nat.lt_or_ge i k with h | h
        · exact .inr (.one h ⟨y, v, hy, hv, hD y v (by omega)⟩)
        · exact .inl (by omega)
    · have hr := rank_other hv hvt2
      refine ⟨x, ?_, fun i y hi hy hyt => ?_, h0, by omega⟩
      · rw [bump_get, if_neg (by omega)]; exact hx
      · have hik : i < k := by
          rcases Nat.lt_or_ge i k with h | h
          · exact h
          · obtain rfl : i = k := by omega
            rw [hv] at hy
            obtain rfl := Option.some.inj hy
            exact absurd hyt hvt2
        rw [← hiff i y hik hy hyt]
        constructor
        · rintro (h | h)
          · omega
          · obtain ⟨j, a, b, c⟩ := HB.iff.1 h; exact ⟨j, a, b, c⟩
        · rintro ⟨j, a, b, c⟩; exact .inr (HB.iff.2 ⟨j, a, b, c⟩)
/-- Before tells what happened before what. -/
theorem bef_HB (hD : ∀ a b : Event, a.t = b.t → D a b = true) (hT : ∀ v ∈ l, 0 ≤ v.t ∧ v.t < n) {i k : Nat} (hk : k < l.length) : bef l (clkTo D n l l.length) i k = true ↔ HB D l i k := by
  rcases Nat.lt_or_ge i k with h | h
  · obtain ⟨x, hx⟩ : ∃ x, l[i]? = some x := ⟨_, List.getElem?_eq_getElem (by omega)⟩
    obtain ⟨v, hv⟩ : ∃ v, l[k]? = some v := ⟨_, List.getElem?_eq_getElem (by omega)⟩
    have ht := hT x (List.mem_of_getElem? hx)
    obtain ⟨a, ha, p, hp, hpi, hp0, hple⟩ := clk_says hD hT ht.1 ht.2 i l.length (by omega) x hx
    obtain ⟨b, hb, q, hq, hqi, hq0, hqle⟩ := clk_says hD hT ht.1 ht.2 k l.length (by omega) v hv
    have hcl := clkTo_len (D := D) (n := n) (l := l) (k := l.length) (Nat.le_refl _)
    rw [bef_at (v := x) (a := a) (b := b) (p := p) (q := q) ⟨by omega, by omega, by omega, by omega⟩ hx ha hb ht.1 hp hq, decide_eq_true_eq]
    have e1 := (hpi i x (Nat.le_refl _) hx rfl).1 (.inl rfl)
    have e2 := rank_same (t := x.t) hx rfl
    have e3 := hqi i x (by omega) hx rfl
    constructor
    · intro h1
      rcases e3.2 (by omega) with h2 | h2
      · omega
      · exact h2
    · intro h1
      have := e3.1 (.inr h1); omega
  · constructor
    · intro h1; rw [bef_out (by omega)] at h1; cases h1
    · intro h1; have := h1.lt; omega

/-! ### The document's way -/
theorem orj_get {row r : List Bool} {j : Nat} (hj : j < row.length) (hr : j < r.length) (i : Nat) : (orj row r j)[i]? = if i = j then some (row[j] || r[j]) else row[i]? := by
  unfold orj
  rw [List.getElem?_eq_getElem hj, List.getElem?_eq_getElem hr]
  simp only []
  rw [List.getElem?_set]
  by_cases h : j = i
  · subst h; rw [if_pos rfl, if_pos hj, if_pos rfl]
  · rw [if_neg h, if_neg (fun e => h e.symm)]
theorem orTo_get {row r : List Bool} (hrl : row.length = r.length) (i : Nat) : ∀ j, j ≤ row.length → (orTo row r j)[i]? = if i < j then (row[i]?).map (fun b => b || (r[i]?).getD false) else row[i]?
  | 0, _ => rfl
  | j + 1, h => by
    have ih := orTo_get hrl i j (by omega)
    have hl := orTo_len row r j
    have ih2 := orTo_get hrl j j (by omega)
    rw [if_neg (by omega)] at ih2
    rw [orTo, orj_get (by omega) (by omega)]
    by_cases h1 : i = j
    · subst h1
      rw [if_pos rfl, if_pos (by omega), List.getElem?_eq_getElem (show i < row.length by omega), List.getElem?_eq_getElem (show i < r.length by omega)]
      have : (orTo row r i)[i]'(by omega) = row[i]'(by omega) := by
        have e := ih2
        rw [List.getElem?_eq_getElem (by omega), List.getElem?_eq_getElem (by omega)] at e
        exact Option.some.inj e
      rw [this]; rfl
    · rw [if_neg h1, ih]
      by_cases h2 : i < j
      · rw [if_pos h2, if_pos (by omega)]
      · rw [if_neg h2, if_neg (by omega)]
theorem hrow_get {hs : List (List Bool)} {v : Event} {k : Nat} (hv : l[k]? = some v) (hhs : ∀ r ∈ hs, r.length = l.length) (hlen : hs.length = k) (i : Nat) (hi : i < l.length) : ∀ j, j ≤ k →
    ((hrow D l hs v j)[i]? = some true ↔ ∃ i', i' < j ∧ Dep D l i' k ∧ (i = i' ∨ (i < i' ∧ hat hs i' i = true)))
  | 0, _ => by
    rw [hrow, List.getElem?_replicate, if_pos hi]
    constructor
    · intro h; cases h
    · rintro ⟨_, h, _⟩; omega
  | j + 1, hj => by
    have ih := hrow_get hv hhs hlen i hi j (by omega)
    have hkl := (List.getElem?_eq_some_iff.1 hv).1
    obtain ⟨y, hy⟩ : ∃ y, l[j]? = some y := ⟨_, List.getElem?_eq_getElem (by omega)⟩
    obtain ⟨r, hr⟩ : ∃ r, hs[j]? = some r := ⟨_, List.getElem?_eq_getElem (by omega)⟩
    have hrl := hhs r (List.mem_of_getElem? hr)
    have hwl := hrow_len (D := D) (l := l) (hs := hs) (v := v) j
    cases hd : D y v with
    | false =>
      rw [hrow_no hy hd, ih]
      constructor
      · rintro ⟨i', h1, h2, h3⟩; exact ⟨i', by omega, h2, h3⟩
      · rintro ⟨i', h1, h2, h3⟩
        refine ⟨i', ?_, h2, h3⟩
        rcases Nat.lt_or_ge i' j with h | h
        · exact h
        · obtain rfl : i' = j := by omega
          obtain ⟨a, b, ha, hb, hab⟩ := h2
          rw [hy] at ha; rw [hv] at hb
          obtain rfl := Option.some.inj ha
          obtain rfl := Option.some.inj hb
          rw [hd] at hab; cases hab
    | true =>
      have hdep : Dep D l j k := ⟨y, v, hy, hv, hd⟩
      rw [hrow_yes hy hr hd, orTo_get (by rw [List.length_set, hwl, hrl]) i j (by rw [List.length_set, hwl]; omega)]
      have hset : ((hrow D l hs v j).set j true)[i]? = if i = j then some true else (hrow D l hs v j)[i]? := by
        rw [List.getElem?_set]
        by_cases h : j = i
        · rw [if_pos h, if_pos (by omega), if_pos h.symm]
        · rw [if_neg h, if_neg (fun e => h e.symm)]
      rw [hset]
      obtain ⟨b, hb⟩ : ∃ b, (hrow D l hs v j)[i]? = some b := ⟨_, List.getElem?_eq_getElem (by omega)⟩
      rw [hb] at ih
      have hh : hat hs j i = (r[i]?).getD false := by unfold hat; rw [hr]; rfl
      by_cases h1 : i = j
      · subst h1
        rw [if_neg (by omega), if_pos rfl]
        exact ⟨fun _ => ⟨i, by omega, hdep, .inl rfl⟩, fun _ => rfl⟩
      · rw [if_neg h1, hb]
        by_cases h2 : i < j
        · rw [if_pos h2, Option.map_some, ← hh]
          constructor
          · intro h
            rcases (by simpa using h : b = true ∨ hat hs j i = true) with h | h
            · obtain ⟨i', a, c, d⟩ := ih.1 (by rw [h]); exact ⟨i', by omega, c, d⟩
            · exact ⟨j, by omega, hdep, .inr ⟨h2, h⟩⟩
          · rintro ⟨i', a, c, d⟩
            rcases Nat.lt_or_ge i' j with h | h
            · have := ih.2 ⟨i', h, c, d⟩; rw [Option.some.inj this]; rfl
            · obtain rfl : i' = j := by omega
              rcases d with d | d
              · omega
              · rw [d.2, Bool.or_true]
        · rw [if_neg h2, ih]
          constructor
          · rintro ⟨i', a, c, d⟩; exact ⟨i', by omega, c, d⟩
          · rintro ⟨i', a, c, d⟩
            rcases Nat.lt_or_ge i' j with h | h
            · exact ⟨i', h, c, d⟩
            · omega
theorem hapTo_at : ∀ {m k : Nat} {v : Event}, k < m → l[k]? = some v → (hapTo D l m)[k]? = some (hrow D l (hapTo D l k) v k)
  | 0, _, _, h, _ => by omega
  | m + 1, k, v, h, hv => by
    have hkl := (List.getElem?_eq_some_iff.1 hv).1
    rcases Nat.lt_or_ge k m with h2 | h2
    · have ih := hapTo_at h2 hv
      cases hm : l[m]? with
      | none => rw [hapTo, hm]; exact ih
      | some y => rw [hapTo_yes hm, List.getElem?_append_left (List.getElem?_eq_some_iff.1 ih).1]; exact ih
    · obtain rfl : k = m := by omega
      rw [hapTo_yes hv, List.getElem?_append_right (by rw [hapTo_len (by omega)]; exact Nat.le_refl _), hapTo_len (by omega), Nat.sub_self]; rfl
theorem hat_HB : ∀ (k m i : Nat), k < m → k < l.length → i < l.length → (hat (hapTo D l m) k i = true ↔ HB D l i k) := by
  intro k
  induction k using Nat.strongRecOn with
  | ind k ihk =>
    intro m i hm hk hi
    obtain ⟨v, hv⟩ : ∃ v, l[k]? = some v := ⟨_, List.getElem?_eq_getElem hk⟩
    have hg := hrow_get (D := D) (hs := hapTo D l k) hv (hapTo_row k) (hapTo_len (by omega)) i hi k (Nat.le_refl _)
    have : hat (hapTo D l m) k i = true ↔ (hrow D l (hapTo D l k) v k)[i]? = some true := by
      unfold hat
      rw [hapTo_at hm hv]
      obtain ⟨b, hb⟩ : ∃ b, (hrow D l (hapTo D l k) v k)[i]? = some b := ⟨_, List.getElem?_eq_getElem (by rw [hrow_len]; exact hi)⟩
      rw [Option.bind_some, hb]
      simp
    rw [this, hg, HB.iff]
    constructor
    · rintro ⟨j, h1, h2, h3⟩
      refine ⟨j, h1, h2, h3.imp id fun h => (ihk j h1 k i h1 (by omega) hi).1 h.2⟩
    · rintro ⟨j, h1, h2, h3⟩
      exact ⟨j, h1, h2, h3.imp id fun h => ⟨h.lt, (ihk j h1 k i h1 (by omega) hi).2 h⟩⟩

theorem cnt_get {h : List (List Bool)} {k : Nat} {t x : Int} (ht0 : 0 ≤ t) (htn : t < n) (hT : ∀ v ∈ l, 0 ≤ v.t ∧ v.t < n) (h0 : 0 ≤ x) (hk : k < l.length)
    (hx : ∀ i v, i ≤ k → l[i]? = some v → v.t = t → ((i = k ∨ hat h k i = true) ↔ rank l t i < x)) : ∀ i, i ≤ k + 1 → (cnt n l h k i)[t.toNat]? = some (min x (rank l t i))
  | 0, _ => by rw [cnt, List.getElem?_replicate, if_pos (by omega)]; rw [rank]; congr 1; omega
  | i + 1, hi => by
    have ih := cnt_get ht0 htn hT h0 hk hx i (by omega)
    obtain ⟨y, hy⟩ : ∃ y, l[i]? = some y := ⟨_, List.getElem?_eq_getElem (by omega)⟩
    have hyt := hT y (List.mem_of_getElem? hy)
    by_cases hh : i = k ∨ hat h k i = true
    · rw [cnt_yes hy hh, bump_get]
      by_cases ht : y.t = t
      · have e := (hx i y (by omega) hy ht).1 hh
        rw [if_pos (by rw [ht]), ih, Option.map_some, rank_same hy ht]; congr 1; omega
      · rw [if_neg (by omega), ih, rank_other hy ht]
    · rw [cnt_no hy hh, ih]
      by_cases ht : y.t = t
      · have e : ¬ rank l t i < x := fun e => hh ((hx i y (by omega) hy ht).2 e)
        rw [rank_same hy ht]; congr 1; omega
      · rw [rank_other hy ht]
theorem rclkTo_at {h : List (List Bool)} : ∀ {m k : Nat}, k < m → (rclkTo n l h m)[k]? = some (cnt n l h k (k + 1))
  | m + 1, k, hk => by
    have hl := rclkTo_len (n := n) (l := l) h m
    rw [rclkTo]
    rcases Nat.lt_or_ge k m with h2 | h2
    · rw [List.getElem?_append_left (by omega)]; exact rclkTo_at h2
    · obtain rfl : k = m := by omega
      rw [List.getElem?_append_right (by omega), hl, Nat.sub_self]; rfl
/-- The clocks of the program are the document's. -/
theorem clk_doc (hD : ∀ a b : Event, a.t = b.t → D a b = true) (hT : ∀ v ∈ l, 0 ≤ v.t ∧ v.t < n) : rclkTo n l (hapTo D l l.length) l.length = clkTo D n l l.length := by
  refine List.ext_getElem? fun k => ?_
  have hcl := clkTo_len (D := D) (n := n) (l := l) (k := l.length) (Nat.le_refl _)
  have hrl := rclkTo_len (n := n) (l := l) (hapTo D l l.length) l.length
  rcases Nat.lt_or_ge k l.length with hk | hk
  · obtain ⟨v, hv⟩ : ∃ v, l[k]? = some v := ⟨_, List.getElem?_eq_getElem hk⟩
    rw [rclkTo_at hk, clkTo_at hk hv]
    congr 1
    have l1 : (cnt n l (hapTo D l l.length) k (k + 1)).length = n := cnt_len _ _ _
    have l2 : (bump (rowTo D n l (clkTo D n l k) v k) v.t).length = n := by rw [bump_len]; exact rowTo_len (clkTo_row k) k
    refine List.ext_getElem? fun s => ?_
    rcases Nat.lt_or_ge s n with hs | hs
    · obtain ⟨c, hc, x, hx, hi, h0, hle⟩ := clk_says hD hT (t := (s : Int)) (by omega) (by omega) k l.length hk v hv
      rw [clkTo_at hk hv] at hc
      rw [Option.some.inj hc]
      have := cnt_get (h := hapTo D l l.length) (k := k) (t := (s : Int)) (x := x) (by omega) (by omega) hT h0 hk (fun i y hik hy hyt => by
        rw [hat_HB k l.length i hk hk (by omega)]; exact hi i y hik hy hyt) (k + 1) (Nat.le_refl _)
      rw [show (s : Int).toNat = s from rfl] at this hx
      rw [this, hx]; congr 1; omega
    · rw [List.getElem?_eq_none (by omega), List.getElem?_eq_none (by omega)]
  · rw [List.getElem?_eq_none (by omega), List.getElem?_eq_none (by omega)]
theorem anyF_congr {f g : Nat → Bool} {i : Nat} : ∀ j, (∀ q, i < q → q < j → f q = g q) → anyF f i j = anyF g i j
  | 0, _ => rfl
  | j + 1, h => by
    rw [anyF, anyF, anyF_congr j fun q a b => h q a (by omega)]
    by_cases hi : i < j
    · rw [h j hi (by omega)]
    · rw [decide_eq_false hi]; rfl
theorem rrow_congr {c d : Nat → Nat → Bool} {k : Nat} : ∀ i, (∀ q, q < i → c q k = d q k) → rrow c k i = rrow d k i
  | 0, _ => rfl
  | i + 1, h => by rw [rrow, rrow, rrow_congr i fun q a => h q (by omega), h i (by omega)]
theorem rto_congr {c d : Nat → Nat → Bool} : ∀ k, (∀ q p, p < k → q < p → c q p = d q p) → rto c k = rto d k
  | 0, _ => rfl
  | k + 1, h => by rw [rto, rto, rto_congr k fun q p a b => h q p (by omega) b, rrow_congr k fun q a => h q k (by omega) a]
theorem races_doc (hD : ∀ a b : Event, a.t = b.t → D a b = true) (hT : ∀ v ∈ l, 0 ≤ v.t ∧ v.t < n) :
    rto (rcB D l (hapB (hapTo D l l.length))) l.length = rto (rcB D l (clkB l (clkTo D n l l.length))) l.length := by
  refine rto_congr _ fun i k hk hi => ?_
  obtain ⟨x, hx⟩ : ∃ x, l[i]? = some x := ⟨_, List.getElem?_eq_getElem (by omega)⟩
  obtain ⟨v, hv⟩ : ∃ v, l[k]? = some v := ⟨_, List.getElem?_eq_getElem hk⟩
  rw [rcB_at hx hv, rcB_at hx hv]
  rw [anyF_congr (f := hapB (hapTo D l l.length) i k) (g := clkB l (clkTo D n l l.length) i k) k fun j h1 h2 => ?_]
  unfold hapB clkB
  have e1 : hat (hapTo D l l.length) j i = bef l (clkTo D n l l.length) i j := by
    rw [Bool.eq_iff_iff, hat_HB j l.length i (by omega) (by omega) (by omega), bef_HB hD hT (by omega)]
  have e2 : hat (hapTo D l l.length) k j = bef l (clkTo D n l l.length) j k := by
    rw [Bool.eq_iff_iff, hat_HB k l.length j hk hk (by omega), bef_HB hD hT hk]
  rw [e1, e2]
theorem dep_same (of : List Int) (s : Int) : ∀ a b : Event, a.t = b.t → depB of s a b = true := fun _ _ h => depB_y (.inl h)
theorem thr_range {l : List Event} (h : ¬ thr l = 0) : ∀ v ∈ l, 0 ≤ v.t ∧ v.t < ((thr l).toNat : Int) := fun v hv => by
  have := thr_bound h hv; omega
end

end Go.Proofs.Ytobcbkipeipjeaa
