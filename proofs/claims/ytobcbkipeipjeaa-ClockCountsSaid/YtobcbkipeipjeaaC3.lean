/-
  Clocks; which happened before, by the document.
-/
import Derived.Test.YtobcbkipeipjeaaC2
namespace Go.Proofs.Ytobcbkipeipjeaa
open Go.Fw

theorem mem_jn {x : Int} : ∀ {a b : List Int}, x ∈ jn a b → x ∈ a ∨ x ∈ b
  | [], b, h => .inr h
  | y :: a, [], h => .inl h
  | y :: a, z :: b, h => by
    rcases List.mem_cons.1 h with h | h
    · rcases (by omega : x = y ∨ x = z) with rfl | rfl
      · exact .inl (by simp)
      · exact .inr (by simp)
    · rcases mem_jn h with h | h
      · exact .inl (List.mem_cons_of_mem _ h)
      · exact .inr (List.mem_cons_of_mem _ h)
theorem thr_bound {l : List Event} {v : Event} (h : ¬ thr l = 0) (hv : v ∈ l) : 0 ≤ v.t ∧ v.t < thr l := by
  unfold thr at *
  split at h
  · rename_i hok
    rw [if_pos hok]
    refine ⟨(hok v hv).1, ?_⟩
    have key : ∀ (m : List Event) (a : Int), (a ≤ m.foldl (fun n v => max n (v.t + 1)) a) ∧ ∀ v ∈ m, v.t < m.foldl (fun n v => max n (v.t + 1)) a := by
      intro m
      induction m with
      | nil => intro a; simp
      | cons y m ih =>
        intro a
        have h1 := ih (max a (y.t + 1))
        refine ⟨by rw [List.foldl_cons]; omega, fun v hv => ?_⟩
        rw [List.foldl_cons]
        rcases List.mem_cons.1 hv with rfl | hv
        · omega
        · exact h1.2 v hv
    exact (key l 0).2 v hv
  · exact absurd rfl h
theorem thr_le (l : List Event) : 0 ≤ thr l ∧ thr l ≤ 8 := by
  unfold thr
  split
  · rename_i hok
    have key : ∀ (m : List Event) (a : Int), 0 ≤ a → a ≤ 8 → (∀ v ∈ m, 0 ≤ v.t ∧ v.t < 8) → 0 ≤ m.foldl (fun n v => max n (v.t + 1)) a ∧ m.foldl (fun n v => max n (v.t + 1)) a ≤ 8 := by
      intro m
      induction m with
      | nil => intro a h1 h2 _; exact ⟨h1, h2⟩
      | cons y m ih =>
        intro a h1 h2 h3
        have := h3 y (by simp)
        exact ih (max a (y.t + 1)) (by omega) (by omega) fun v hv => h3 v (List.mem_cons_of_mem _ hv)
    exact key l 0 (by omega) (by omega) hok
  · omega

section
variable (D : Event → Event → Bool) (n : Nat) (l : List Event)
def bump (c : List Int) (t : Int) : List Int := match c[t.toNat]? with | some x => c.set t.toNat (x + 1) | none => c
/-- The clock of v, by those before it, as far as i. -/
def rowTo (out : List (List Int)) (v : Event) : Nat → List Int
  | 0 => List.replicate n 0
  | i + 1 => match l[i]?, out[i]? with
    | some x, some r => if D x v = true then jn (rowTo out v i) r else rowTo out v i
    | _, _ => rowTo out v i
def clkTo : Nat → List (List Int)
  | 0 => []
  | k + 1 => match l[k]? with
    | some v => clkTo k ++ [bump (rowTo D n l (clkTo k) v k) v.t]
    | none => clkTo k
/-- Which happened before: by the document. -/
def orj (row r : List Bool) (j : Nat) : List Bool := match row[j]?, r[j]? with | some a, some b => row.set j (a || b) | _, _ => row
def orTo (row r : List Bool) : Nat → List Bool
  | 0 => row
  | j + 1 => orj (orTo row r j) r j
def hrow (hs : List (List Bool)) (v : Event) : Nat → List Bool
  | 0 => List.replicate l.length false
  | i + 1 => match l[i]?, hs[i]? with
    | some x, some r => if D x v = true then orTo ((hrow hs v i).set i true) r i else hrow hs v i
    | _, _ => hrow hs v i
def hapTo : Nat → List (List Bool)
  | 0 => []
  | k + 1 => match l[k]? with
    | some v => hapTo k ++ [hrow D l (hapTo k) v k]
    | none => hapTo k
def hat (h : List (List Bool)) (k i : Nat) : Bool := ((h[k]?).bind (·[i]?)).getD false
/-- A clock by counting. -/
def cnt (h : List (List Bool)) (k : Nat) : Nat → List Int
  | 0 => List.replicate n 0
  | i + 1 => match l[i]? with
    | some v => if i = k ∨ hat h k i = true then bump (cnt h k i) v.t else cnt h k i
    | none => cnt h k i
def rclkTo (h : List (List Bool)) : Nat → List (List Int)
  | 0 => []
  | k + 1 => rclkTo h k ++ [cnt n l h k (k + 1)]
def anyF (f : Nat → Bool) (i : Nat) : Nat → Bool
  | 0 => false
  | j + 1 => anyF f i j || (decide (i < j) && f j)
def rcB (f : Nat → Nat → Nat → Bool) (i k : Nat) : Bool := match l[i]?, l[k]? with
  | some x, some v => decide (¬ x.t = v.t) && D x v && !anyF (f i k) i k
  | _, _ => false
def rrow (c : Nat → Nat → Bool) (k : Nat) : Nat → List Two
  | 0 => []
  | i + 1 => if c i k = true then rrow c k i ++ [⟨(i : Int), (k : Int)⟩] else rrow c k i
def rto (c : Nat → Nat → Bool) : Nat → List Two
  | 0 => []
  | k + 1 => rto c k ++ rrow c k k
end
def clkB (l : List Event) (c : List (List Int)) (i k j : Nat) : Bool := bef l c i j && bef l c j k
def hapB (h : List (List Bool)) (i k j : Nat) : Bool := hat h j i && hat h k j
section
variable {D : Event → Event → Bool} {n : Nat} {l : List Event} {out : List (List Int)} {hs : List (List Bool)} {v x : Event} {k i j : Nat}
theorem bump_at {c : List Int} {t e : Int} (h : c[t.toNat]? = some e) : bump c t = c.set t.toNat (e + 1) := by unfold bump; rw [h]
theorem bump_len (c : List Int) (t : Int) : (bump c t).length = c.length := by unfold bump; split <;> simp
theorem bump_le {c : List Int} {t b : Int} (h : ∀ x ∈ c, 0 ≤ x ∧ x ≤ b) : ∀ x ∈ bump c t, 0 ≤ x ∧ x ≤ b + 1 := by
  intro x hx
  unfold bump at hx
  split at hx
  · rename_i y hy
    rcases List.mem_or_eq_of_mem_set hx with hx | rfl
    · have := h x hx; omega
    · have := h y (List.mem_of_getElem? hy); omega
  · have := h x hx; omega
theorem rowTo_yes {r : List Int} (hx : l[i]? = some x) (hr : out[i]? = some r) (h : D x v = true) : rowTo D n l out v (i + 1) = jn (rowTo D n l out v i) r := by
  rw [rowTo, hx, hr]; simp only []; rw [if_pos h]
theorem rowTo_no (hx : l[i]? = some x) (h : D x v = false) : rowTo D n l out v (i + 1) = rowTo D n l out v i := by
  rw [rowTo, hx]; cases out[i]? <;> simp only []; rw [if_neg (by rw [h]; simp)]
theorem clkTo_yes (hv : l[k]? = some v) : clkTo D n l (k + 1) = clkTo D n l k ++ [bump (rowTo D n l (clkTo D n l k) v k) v.t] := by rw [clkTo, hv]
theorem rowTo_len (h : ∀ r ∈ out, r.length = n) : ∀ i, (rowTo D n l out v i).length = n
  | 0 => by simp [rowTo]
  | i + 1 => by
    have ih := rowTo_len h i
    unfold rowTo
    split
    · rename_i hr
      split
      · rw [jn_len, ih, h _ (List.mem_of_getElem? hr)]; omega
      · exact ih
    · exact ih
theorem clkTo_len : ∀ {k}, k ≤ l.length → (clkTo D n l k).length = k
  | 0, _ => rfl
  | k + 1, h => by
    rw [clkTo_yes (List.getElem?_eq_getElem (by omega)), List.length_append, clkTo_len (by omega)]; rfl
theorem clkTo_row : ∀ k, ∀ r ∈ clkTo D n l k, r.length = n
  | 0 => by simp [clkTo]
  | k + 1 => by
    intro r hr
    unfold clkTo at hr
    split at hr
    · rcases List.mem_append.1 hr with hr | hr
      · exact clkTo_row k r hr
      · rw [List.mem_singleton.1 hr, bump_len]; exact rowTo_len (clkTo_row k) k
    · exact clkTo_row k r hr
theorem rowTo_le {b : Int} (hb : 0 ≤ b) (h : ∀ r ∈ out, ∀ x ∈ r, 0 ≤ x ∧ x ≤ b) : ∀ i, ∀ x ∈ rowTo D n l out v i, 0 ≤ x ∧ x ≤ b
  | 0 => by intro x hx; rw [(List.mem_replicate.1 hx).2]; omega
  | i + 1 => by
    have ih := rowTo_le hb h i
    unfold rowTo
    split
    · rename_i hr
      split
      · intro x hx
        rcases mem_jn hx with hx | hx
        · exact ih x hx
        · exact h _ (List.mem_of_getElem? hr) x hx
      · exact ih
    · exact ih
theorem clkTo_le : ∀ k : Nat, ∀ r ∈ clkTo D n l k, ∀ x ∈ r, 0 ≤ x ∧ x ≤ (k : Int)
  | 0 => by simp [clkTo]
  | k + 1 => by
    have up : ∀ r ∈ clkTo D n l k, ∀ x ∈ r, 0 ≤ x ∧ x ≤ ((k + 1 : Nat) : Int) := fun r hr x hx => by have := clkTo_le k r hr x hx; omega
    intro r hr
    unfold clkTo at hr
    split at hr
    · rcases List.mem_append.1 hr with hr | hr
      · exact up r hr
      · rw [List.mem_singleton.1 hr]
        exact bump_le (rowTo_le (by omega) (clkTo_le k) k)
    · exact up r hr
theorem orj_len (row r : List Bool) (j : Nat) : (orj row r j).length = row.length := by unfold orj; split <;> simp
theorem orTo_len (row r : List Bool) : ∀ j, (orTo row r j).length = row.length
  | 0 => rfl
  | j + 1 => by rw [orTo, orj_len]; exact orTo_len row r j
theorem hrow_len : ∀ i, (hrow D l hs v i).length = l.length
  | 0 => by simp [hrow]
  | i + 1 => by
    unfold hrow
    split
    · split
      · rw [orTo_len, List.length_set]; exact hrow_len i
      · exact hrow_len i
    · exact hrow_len i
theorem hapTo_yes (hv : l[k]? = some v) : hapTo D l (k + 1) = hapTo D l k ++ [hrow D l (hapTo D l k) v k] := by rw [hapTo, hv]
theorem hapTo_len : ∀ {k}, k ≤ l.length → (hapTo D l k).length = k
  | 0, _ => rfl
  | k + 1, h => by rw [hapTo_yes (List.getElem?_eq_getElem (by omega)), List.length_append, hapTo_len (by omega)]; rfl
theorem hapTo_row : ∀ k, ∀ r ∈ hapTo D l k, r.length = l.length
  | 0 => by simp [hapTo]
  | k + 1 => by
    intro r hr
    unfold hapTo at hr
    split at hr
    · rcases List.mem_append.1 hr with hr | hr
      · exact hapTo_row k r hr
      · rw [List.mem_singleton.1 hr]; exact hrow_len k
    · exact hapTo_row k r hr
theorem hrow_yes {r : List Bool} (hx : l[i]? = some x) (hr : hs[i]? = some r) (h : D x v = true) : hrow D l hs v (i + 1) = orTo ((hrow D l hs v i).set i true) r i := by
  rw [hrow, hx, hr]; simp only []; rw [if_pos h]
theorem hrow_no (hx : l[i]? = some x) (h : D x v = false) : hrow D l hs v (i + 1) = hrow D l hs v i := by
  rw [hrow, hx]; cases hs[i]? <;> simp only []; rw [if_neg (by rw [h]; simp)]
theorem orTo_t {row r : List Bool} {a b : Bool} (ha : (orTo row r j)[j]? = some a) (hb : r[j]? = some b) (h : a = true) : (orTo row r j).set j true = orTo row r (j + 1) := by
  rw [orTo, orj, ha, hb, h]; rfl
theorem orTo_f {row r : List Bool} {a b : Bool} (ha : (orTo row r j)[j]? = some a) (hb : r[j]? = some b) (h : a = false) : (orTo row r j).set j b = orTo row r (j + 1) := by
  rw [orTo, orj, ha, hb, h]; rfl
theorem hat_at {h : List (List Bool)} {r : List Bool} {b : Bool} (h1 : h[k]? = some r) (h2 : r[i]? = some b) : hat h k i = b := by unfold hat; rw [h1]; simp [h2]
theorem cnt_yes {h : List (List Bool)} (hx : l[i]? = some x) (hh : i = k ∨ hat h k i = true) : cnt n l h k (i + 1) = bump (cnt n l h k i) x.t := by rw [cnt, hx]; simp only []; rw [if_pos hh]
theorem cnt_no {h : List (List Bool)} (hx : l[i]? = some x) (hh : ¬ (i = k ∨ hat h k i = true)) : cnt n l h k (i + 1) = cnt n l h k i := by rw [cnt, hx]; simp only []; rw [if_neg hh]
theorem cnt_len (h : List (List Bool)) (k : Nat) : ∀ i, (cnt n l h k i).length = n
  | 0 => by simp [cnt]
  | i + 1 => by
    unfold cnt
    split
    · split
      · rw [bump_len]; exact cnt_len h k i
      · exact cnt_len h k i
    · exact cnt_len h k i
theorem cnt_le (h : List (List Bool)) (k : Nat) : ∀ i : Nat, ∀ x ∈ cnt n l h k i, 0 ≤ x ∧ x ≤ (i : Int)
  | 0 => by intro x hx; rw [(List.mem_replicate.1 hx).2]; omega
  | i + 1 => by
    have up : ∀ x ∈ cnt n l h k i, 0 ≤ x ∧ x ≤ ((i + 1 : Nat) : Int) := fun x hx => by have := cnt_le h k i x hx; omega
    unfold cnt
    split
    · split
      · exact bump_le (cnt_le h k i)
      · exact up
    · exact up
theorem rclkTo_len (h : List (List Bool)) : ∀ k, (rclkTo n l h k).length = k
  | 0 => rfl
  | k + 1 => by rw [rclkTo, List.length_append, rclkTo_len h k]; rfl
theorem anyF_start {f : Nat → Bool} : ∀ j, j ≤ i + 1 → anyF f i j = false
  | 0, _ => rfl
  | j + 1, h => by rw [anyF, anyF_start j (by omega), decide_eq_false (by omega)]; rfl
theorem anyF_step {f : Nat → Bool} (h : i < j) : anyF f i (j + 1) = (anyF f i j || f j) := by rw [anyF, decide_eq_true h, Bool.true_and]
theorem rcB_at {f : Nat → Nat → Nat → Bool} (hx : l[i]? = some x) (hv : l[k]? = some v) : rcB D l f i k = (decide (¬ x.t = v.t) && D x v && !anyF (f i k) i k) := by unfold rcB; rw [hx, hv]
theorem rrow_yes {c : Nat → Nat → Bool} (h : c i k = true) : rrow c k (i + 1) = rrow c k i ++ [⟨(i : Int), (k : Int)⟩] := by rw [rrow, if_pos h]
theorem rrow_no {c : Nat → Nat → Bool} (h : c i k = false) : rrow c k (i + 1) = rrow c k i := by rw [rrow, if_neg (by rw [h]; simp)]
theorem rrow_len (c : Nat → Nat → Bool) (k : Nat) : ∀ i, (rrow c k i).length ≤ i
  | 0 => Nat.le_refl _
  | i + 1 => by
    have := rrow_len c k i
    unfold rrow; split
    · rw [List.length_append, List.length_singleton]; omega
    · omega
theorem rto_len (c : Nat → Nat → Bool) (m : Nat) : ∀ k, k ≤ m → (rto c k).length ≤ k * m
  | 0, _ => by simp [rto]
  | k + 1, h => by
    have := rto_len c m k (by omega)
    have h2 := rrow_len c k k
    rw [rto, List.length_append, Nat.succ_mul]; omega
theorem rto_small {c : Nat → Nat → Bool} {k m : Nat} (h : k ≤ m) (hm : m ≤ 1000) : (rto c k).length ≤ 1000000 := by
  have h1 := rto_len c m k h
  have h2 : k * m ≤ 1000 * 1000 := Nat.mul_le_mul (by omega) hm
  omega
end

theorem C10 (sv ov : Value) (xs : List Event) (of : List Int) (stays : Int) (w : World) (hL : RdL (fun _ => True) w sv xs) (hO : RdL (fun _ => True) w ov of) (hn : xs.length ≤ 1000) : Calls Try.prog 10 [sv, ov, .int .i64 stays].toArray w (Ret fun v w' => (thr xs = 0 ∧ v = .slice none 0 0 ∧ Ext w w') ∨ (¬ thr xs = 0 ∧ New (ownLL v (clkTo (depB of stays) (thr xs).toNat xs xs.length)) w w')) := by
  have htl := thr_le xs
  have hs := St.start w
  refine S10_ok _ _ _ _ _ ?_
  unfold S10
  refine callF pl18 (C18 _ xs _ (hL.ext hs.chg) (by omega)) ?_
  rintro _ w1 ⟨rfl, he⟩
  replace hs := hs.ext he
  refine pop_eql ?_
  refine cond_d (fun c_x16 => ?_) (fun c_x16 => ?_)
  · skip
    exact .inl ⟨c_x16, rfl, hs.chg⟩
  · skip
    refine pop_len sl22 (hL.ext hs.chg) ?_
    refine ⟨fun m y x w1 => ∃ (k : Nat) (ss : List SV), x = .int .i64 (k : Int) ∧ m = xs.length - k ∧ k ≤ xs.length ∧ St w none1 [ownL y ss, rows ss (clkTo (depB of stays) (thr xs).toNat xs k)] w1, ⟨_, 0, [], rfl, rfl, by omega, hs.rowsNil.ownNil⟩, ?_⟩
    rintro m out8 _ w2 ⟨k, ss, rfl, rfl, hk, hs⟩ dd1
    refine pop_lss ?_
    refine cond_d (fun c_x20 => ?_) (fun c_x20 => ?_)
    · skip
      obtain ⟨e_x22, he_x22⟩ : ∃ xx, (xs)[((k : Int)).toNat]? = some xx := ⟨_, List.getElem?_eq_getElem (by omega)⟩
      refine pop_idx sl22 (hL.ext hs.chg) (by omega) he_x22 (fun q_x22 h_x22 => ?_)
      refine qop_at ty40 (h_x22) ?_
      refine eop_allocA hs zero40 (fun b_v10 w3 hs => ?_)
      refine uop_blkV (x := e_x22) hs ty40 rfl rfl (fun w4 hs => ?_)
      refine eop_make (0 : Int) hs sl23 zero3 (by omega) (by omega) (by decide) (fun s_x25 w5 hs => ?_)
      replace hs := hs.p3
      replace hs := hs.p3
      replace hs := hs.p3
      replace hs := hs.p3
      refine ⟨fun m y x w1 => ∃ i : Nat, x = .int .i64 (i : Int) ∧ m = k - i ∧ i ≤ k ∧ St w none1 [ownL y (rowTo (depB of stays) (thr xs).toNat xs (clkTo (depB of stays) (thr xs).toNat xs k) e_x22 i), blk b_v10 (Flat.enc e_x22), ownL out8 ss, rows ss (clkTo (depB of stays) (thr xs).toNat xs k)] w1, ⟨_, 0, rfl, rfl, by omega, hs⟩, ?_⟩
      rintro m c11 _ w6 ⟨i, rfl, rfl, hi, hs⟩ dd2
      refine pop_lss ?_
      refine cond_d (fun c_x28 => ?_) (fun c_x28 => ?_)
      · skip
        refine ⟨_, ?_, fun _ _ h => h⟩
        obtain ⟨e_x32, he_x32⟩ : ∃ xx, (xs)[((i : Int)).toNat]? = some xx := ⟨_, List.getElem?_eq_getElem (by omega)⟩
        refine pop_idx sl22 (hL.ext hs.chg) (by omega) he_x32 (fun q_x32 h_x32 => ?_)
        replace hs := hs.drew
        refine qop_at ty40 (h_x32) ?_
        refine qop_at ty40 hs.p1.At ?_
        refine callF pl25 (C25 e_x32 e_x22 _ _ _ _ (hO.ext hs.chg)) ?_
        rintro _ w7 ⟨rfl, he⟩
        replace hs := hs.ext he
        refine cond_b (fun c_x37 => ?_) (fun c_x37 => ?_)
        · skip
          have hcl := clkTo_len (D := depB of stays) (n := (thr xs).toNat) (l := xs) (k := k) (by omega)
          have hn_x41 := hs.p3.rowsLen
          obtain ⟨e_x41, he_x41⟩ : ∃ xx, (ss)[((i : Int)).toNat]? = some xx := ⟨_, List.getElem?_eq_getElem (by omega)⟩
          obtain ⟨r_x41, hr_x41⟩ : ∃ xx, ((clkTo (depB of stays) (thr xs).toNat xs k))[((i : Int)).toNat]? = some xx := ⟨_, List.getElem?_eq_getElem (by omega)⟩
          refine pop_own hs.p2 sl26 (by omega) (by omega) (fun q_x41 h_x41 => ?_)
          refine qop_own hs.p2 ty23 h_x41 he_x41 ?_
          have hl1 := rowTo_len (v := e_x22) (D := depB of stays) (l := xs) (clkTo_row (D := depB of stays) (n := (thr xs).toNat) (l := xs) k) i
          have hl2 := clkTo_row (D := depB of stays) (n := (thr xs).toNat) (l := xs) k _ (List.mem_of_getElem? hr_x41)
          refine callF pl22 (C22 _ _ _ _ _ (hs).rd' (hs.p3.rowAt he_x41 hr_x41) (by omega) (by omega)) ?_
          rintro x43 w8 hnew
          replace hs := hs.made hnew
          intro dd3
          refine pop_add (by omega) ?_
          replace hs := (hs.p1).drop
          replace hs := hs.p3
          replace hs := hs.p3
          replace hs := hs.p3
          replace hs := hs.p3
          exact ⟨_, by omega, i + 1, rfl, rfl, by omega, by rw [rowTo_yes (i := i) he_x32 hr_x41 c_x37]; exact hs⟩
        · skip
          intro dd3
          refine pop_add (by omega) ?_
          replace hs := hs.p3
          replace hs := hs.p3
          replace hs := hs.p3
          replace hs := hs.p3
          exact ⟨_, by omega, i + 1, rfl, rfl, by omega, by rw [rowTo_no (i := i) he_x32 c_x37]; exact hs⟩
      · skip
        refine pop_field fld40_1 ?_
        refine qop_blk ty3 hs.p1.hb rfl ?_
        have hl1 := rowTo_len (v := e_x22) (D := depB of stays) (l := xs) (clkTo_row (D := depB of stays) (n := (thr xs).toNat) (l := xs) k) i
        have htb := thr_bound c_x16 (List.mem_of_getElem? he_x22)
        obtain ⟨e_x48, he_x48⟩ : ∃ xx, ((rowTo (depB of stays) (thr xs).toNat xs (clkTo (depB of stays) (thr xs).toNat xs k) e_x22 i))[((e_x22).t).toNat]? = some xx := ⟨_, List.getElem?_eq_getElem (by omega)⟩
        refine pop_own hs sl23 (by omega) (by omega) (fun q_x48 h_x48 => ?_)
        refine qop_own hs ty3 h_x48 he_x48 ?_
        have hle := rowTo_le (v := e_x22) (D := depB of stays) (l := xs) (by omega) (clkTo_le (D := depB of stays) (n := (thr xs).toNat) (l := xs) k) i _ (List.mem_of_getElem? he_x48)
        refine pop_add (by omega) ?_
        refine pop_own hs sl23 (by omega) (by omega) (fun q_x51 h_x51 => ?_)
        refine uop_own _ hs ty3 h_x51 (by omega) (fun w10 hs => ?_)
        obtain ⟨sv_x54, rfl⟩ := (hs).isSV
        refine eop_build ([sv_x54]) hs sl26 rfl rfl (Nat.le_of_ble_eq_true rfl) (fun s_x54 w11 hs => ?_)
        have hcl := clkTo_len (D := depB of stays) (n := (thr xs).toNat) (l := xs) (k := k) (by omega)
        have hr_x55 := (hs).rd'
        have hn_x55 := hs.p4.rowsLen
        refine eop_append hs.p3 sl26 hr_x55 (by simp <;> omega) (by decide) (fun s_x55 w12 hs => ?_)
        replace hs := hs.p1.drop
        replace hs := hs.p1
        replace hs := hs.p3
        replace hs := hs.rowAdd
        refine pop_add (by omega) ?_
        replace hs := (hs.p2).drop
        replace hs := hs.p1
        have hik : i = k := by omega
        rw [hik] at hs he_x48
        exact ⟨_, by omega, k + 1, _, rfl, rfl, by omega, by rw [clkTo_yes (k := k) he_x22, bump_at he_x48]; exact hs⟩
    · skip
      rw [show k = xs.length from by omega] at hs
      exact .inr ⟨c_x16, (ownLL.shut hs).fresh⟩

theorem C26 (sv ov : Value) (xs : List Event) (of : List Int) (stays : Int) (w : World) (hL : RdL (fun _ => True) w sv xs) (hO : RdL (fun _ => True) w ov of) (hn : xs.length ≤ 1000) : Calls Try.prog 26 [sv, ov, .int .i64 stays].toArray w (Ret fun v w' => New (ownLL v (hapTo (depB of stays) xs xs.length)) w w') := by
  have hs := St.start w
  refine S26_ok _ _ _ _ _ ?_
  unfold S26
  refine eop_build (([] : List SV)) hs sl45 rfl rfl (Nat.le_of_ble_eq_true rfl) (fun s_x12 w1 hs => ?_)
  replace hs := (hs.rowsNil (α := Bool)).p1
  refine ⟨fun m y x w1 => ∃ (k : Nat) (ss : List SV), x = .int .i64 (k : Int) ∧ m = xs.length - k ∧ k ≤ xs.length ∧ St w none1 [ownL y ss, rows ss (hapTo (depB of stays) xs k)] w1, ⟨_, 0, [], rfl, rfl, by omega, hs⟩, ?_⟩
  rintro m out7 _ w2 ⟨k, ss, rfl, rfl, hk, hs⟩ dd1
  obtain ⟨e_vk, hvk⟩ : ∃ xx, (k < xs.length → xs[k]? = some xx) := if h : k < xs.length then ⟨_, fun _ => List.getElem?_eq_getElem h⟩ else ⟨⟨0, 0, 0, 0, 0⟩, fun hh => absurd hh h⟩
  refine pop_len sl22 (hL.ext hs.chg) ?_
  refine pop_lss ?_
  refine cond_d (fun c_x16 => ?_) (fun c_x16 => ?_)
  · skip
    refine pop_len sl22 (hL.ext hs.chg) ?_
    have he_vk := hvk (by omega)
    refine eop_make false hs sl47 zero4 (by omega) (by omega) (by decide) (fun s_x21 w3 hs => ?_)
    refine ⟨fun m x w1 => ∃ i : Nat, x = .int .i64 (i : Int) ∧ m = k - i ∧ i ≤ k ∧ St w none1 [ownL s_x21 (hrow (depB of stays) xs (hapTo (depB of stays) xs k) e_vk i), ownL out7 ss, rows ss (hapTo (depB of stays) xs k)] w1, ⟨_, 0, rfl, rfl, by omega, hs⟩, ?_⟩
    rintro m _ w4 ⟨i, rfl, rfl, hi, hs⟩ dd2
    refine pop_lss ?_
    refine cond_d (fun c_x24 => ?_) (fun c_x24 => ?_)
    · skip
      refine ⟨_, ?_, fun _ h => h⟩
      obtain ⟨e_x29, he_x29⟩ : ∃ xx, (xs)[((i : Int)).toNat]? = some xx := ⟨_, List.getElem?_eq_getElem (by omega)⟩
      refine pop_idx sl22 (hL.ext hs.chg) (by omega) he_x29 (fun q_x29 h_x29 => ?_)
      replace hs := hs.drew
      refine qop_at ty40 (h_x29) ?_
      refine pop_idx sl22 (hL.ext hs.chg) (by omega) he_vk (fun q_x33 h_x33 => ?_)
      refine qop_at ty40 (h_x33) ?_
      refine callF pl24 (C24 e_x29 e_vk _ _ _ _ (hO.ext hs.chg)) ?_
      rintro _ w5 ⟨rfl, he⟩
      replace hs := hs.ext he
      refine cond_b (fun c_x37 => ?_) (fun c_x37 => ?_)
      · skip
        have hcl := hapTo_len (D := depB of stays) (l := xs) (k := k) (by omega)
        have hnh := hs.p2.rowsLen
        obtain ⟨e_hi, he_hi⟩ : ∃ xx, ss[((i : Int)).toNat]? = some xx := ⟨_, List.getElem?_eq_getElem (by omega)⟩
        obtain ⟨r_hi, hr_hi⟩ : ∃ xx, (hapTo (depB of stays) xs k)[((i : Int)).toNat]? = some xx := ⟨_, List.getElem?_eq_getElem (by omega)⟩
        have hrl := hapTo_row (D := depB of stays) (l := xs) k _ (List.mem_of_getElem? hr_hi)
        have hwl := hrow_len (D := depB of stays) (l := xs) (hs := hapTo (depB of stays) xs k) (v := e_vk) i
        obtain ⟨e_x40, he_x40⟩ : ∃ xx, ((hrow (depB of stays) xs (hapTo (depB of stays) xs k) e_vk i))[((i : Int)).toNat]? = some xx := ⟨_, List.getElem?_eq_getElem (by omega)⟩
        refine pop_own hs sl47 (by omega) (by omega) (fun q_x40 h_x40 => ?_)
        refine uop_own true hs ty4 h_x40 (by omega) (fun w6 hs => ?_)
        refine ⟨fun m x w1 => ∃ j : Nat, x = .int .i64 (j : Int) ∧ m = i - j ∧ j ≤ i ∧ St w none1 [ownL s_x21 (orTo ((hrow (depB of stays) xs (hapTo (depB of stays) xs k) e_vk i).set ((i : Int)).toNat true) r_hi j), ownL out7 ss, rows ss (hapTo (depB of stays) xs k)] w1, ⟨_, 0, rfl, rfl, by omega, hs⟩, ?_⟩
        rintro m _ w7 ⟨j, rfl, rfl, hj, hs⟩ dd3
        refine pop_lss ?_
        refine cond_d (fun c_x43 => ?_) (fun c_x43 => ?_)
        · skip
          refine ⟨_, ?_, fun _ h => h⟩
          have hol := orTo_len ((hrow (depB of stays) xs (hapTo (depB of stays) xs k) e_vk i).set ((i : Int)).toNat true) r_hi j
          rw [List.length_set] at hol
          obtain ⟨e_x50, he_x50⟩ : ∃ xx, ((orTo ((hrow (depB of stays) xs (hapTo (depB of stays) xs k) e_vk i).set ((i : Int)).toNat true) r_hi j))[((j : Int)).toNat]? = some xx := ⟨_, List.getElem?_eq_getElem (by omega)⟩
          refine pop_own hs sl47 (by omega) (by omega) (fun q_x50 h_x50 => ?_)
          refine qop_own hs ty4 h_x50 he_x50 ?_
          refine cond_b (fun c_x51 => ?_) (fun c_x51 => ?_)
          · skip
            refine pop_own hs sl47 (by omega) (by omega) (fun q_x61 h_x61 => ?_)
            refine uop_own true hs ty4 h_x61 (by omega) (fun w8 hs => ?_)
            intro dd4
            refine pop_add (by omega) ?_
            obtain ⟨bj, hbj⟩ : ∃ b, r_hi[j]? = some b := ⟨_, List.getElem?_eq_getElem (by omega)⟩
            replace hs := hs.p2
            replace hs := hs.p2
            replace hs := hs.p2
            first | exact ⟨_, by omega, j + 1, rfl, rfl, by omega, by rw [← orTo_t (j := j) he_x50 hbj c_x51]; exact hs⟩ | exact ⟨_, by omega, j + 1, rfl, rfl, by omega, by rw [← orTo_f (j := j) he_x50 he_x58 c_x51]; exact hs⟩
          · skip
            have hn_x55 := hs.p2.rowsLen
            refine pop_own hs.p1 sl45 (by omega) (by omega) (fun q_x55 h_x55 => ?_)
            refine qop_own hs.p1 ty47 h_x55 he_hi ?_
            obtain ⟨e_x58, he_x58⟩ : ∃ xx, (r_hi)[((j : Int)).toNat]? = some xx := ⟨_, List.getElem?_eq_getElem (by omega)⟩
            refine pop_idx sl47 (hs.p2.rowAt he_hi hr_hi) (by omega) he_x58 (fun q_x58 h_x58 => ?_)
            refine qop_at ty4 (h_x58) ?_
            refine pop_own hs sl47 (by omega) (by omega) (fun q_x61_1 h_x61_1 => ?_)
            refine uop_own _ hs ty4 h_x61_1 (by omega) (fun w9 hs => ?_)
            intro dd4
            refine pop_add (by omega) ?_
            obtain ⟨bj, hbj⟩ : ∃ b, r_hi[j]? = some b := ⟨_, List.getElem?_eq_getElem (by omega)⟩
            replace hs := hs.p2
            replace hs := hs.p2
            replace hs := hs.p2
            first | exact ⟨_, by omega, j + 1, rfl, rfl, by omega, by rw [← orTo_t (j := j) he_x50 hbj c_x51]; exact hs⟩ | exact ⟨_, by omega, j + 1, rfl, rfl, by omega, by rw [← orTo_f (j := j) he_x50 he_x58 c_x51]; exact hs⟩
        · skip
          intro dd5
          refine pop_add (by omega) ?_
          replace hs := hs.p2
          replace hs := hs.p2
          replace hs := hs.p2
          first | exact ⟨_, by omega, i + 1, rfl, rfl, by omega, by rw [hrow_no (i := i) he_x29 c_x37]; exact hs⟩ | exact ⟨_, by omega, i + 1, rfl, rfl, by omega, by rw [hrow_yes (i := i) he_x29 hr_hi c_x37]; rw [show j = i from by omega] at hs; exact hs⟩
      · skip
        intro dd5
        refine pop_add (by omega) ?_
        replace hs := hs.p2
        replace hs := hs.p2
        replace hs := hs.p2
        first | exact ⟨_, by omega, i + 1, rfl, rfl, by omega, by rw [hrow_no (i := i) he_x29 c_x37]; exact hs⟩ | exact ⟨_, by omega, i + 1, rfl, rfl, by omega, by rw [hrow_yes (i := i) he_x29 hr_hi c_x37]; rw [show j = i from by omega] at hs; exact hs⟩
    · skip
      obtain ⟨sv_x64, rfl⟩ := (hs).isSV
      refine eop_build ([sv_x64]) hs sl45 rfl rfl (Nat.le_of_ble_eq_true rfl) (fun s_x64 w12 hs => ?_)
      have hcl := hapTo_len (D := depB of stays) (l := xs) (k := k) (by omega)
      have hr_x65 := (hs).rd'
      have hn_x65 := hs.p3.rowsLen
      refine eop_append hs.p2 sl45 hr_x65 (by simp <;> omega) (by decide) (fun s_x65 w13 hs => ?_)
      replace hs := hs.p1.drop
      replace hs := hs.p1
      replace hs := hs.p2
      replace hs := hs.rowAdd
      refine pop_add (by omega) ?_
      replace hs := hs.p1
      exact ⟨_, by omega, k + 1, _, rfl, rfl, by omega, by rw [hapTo_yes (k := k) (hvk (by omega))]; rw [show i = k from by omega] at hs; exact hs⟩
  · skip
    rw [show k = xs.length from by omega] at hs
    exact (ownLL.shut hs).fresh

end Go.Proofs.Ytobcbkipeipjeaa
