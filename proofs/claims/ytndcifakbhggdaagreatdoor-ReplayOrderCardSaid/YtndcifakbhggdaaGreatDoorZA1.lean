/-
  Numbers and lists of numbers, one against another one.
-/
import Derived.Test.YtndcifakbhggdaaGreatDoorZSh0
import Derived.Test.YtndcifakbhggdaaGreatDoorZD
import Derived.Test.YtndcifakbhggdaaGreatDoorZFw23
import Derived.KernelRfl
namespace Go.Proofs.YtndcifakbhggdaaGreatDoor
open Go.Fw

set_option maxRecDepth 100000
theorem drop_get {α : Type} {l : List α} {k : Nat} {e : α} (h : l[k]? = some e) : l.drop k = e :: l.drop (k + 1) := by
  obtain ⟨h1, h2⟩ := List.getElem?_eq_some_iff.1 h
  rw [List.drop_eq_getElem_cons h1, h2]
/-- Is one list ahead of another one? -/
def lessL : List Int → List Int → Bool
  | [], [] => false
  | [], _ :: _ => true
  | _ :: _, [] => false
  | a :: r, b :: s => if a = b then lessL r s else decide (a < b)
theorem lessL_self : ∀ l : List Int, lessL l l = false
  | [] => rfl
  | a :: r => by unfold lessL; rw [if_pos rfl]; exact lessL_self r
theorem lessL_asym : ∀ {a b : List Int}, lessL a b = true → lessL b a = false
  | [], [], h => by cases h
  | [], _ :: _, _ => rfl
  | _ :: _, [], h => by cases h
  | a :: r, b :: s, h => by
    unfold lessL at h ⊢
    by_cases e : a = b
    · rw [if_pos e] at h; rw [if_pos e.symm]; exact lessL_asym h
    · rw [if_neg e] at h; rw [if_neg (fun h => e h.symm)]
      have := of_decide_eq_true h
      exact decide_eq_false (by omega)
theorem lessL_eq : ∀ {a b : List Int}, lessL a b = false → lessL b a = false → a = b
  | [], [], _, _ => rfl
  | [], _ :: _, h, _ => by cases h
  | _ :: _, [], _, h => by cases h
  | a :: r, b :: s, h, h2 => by
    unfold lessL at h h2
    by_cases e : a = b
    · rw [if_pos e] at h; rw [if_pos e.symm] at h2; rw [e, lessL_eq h h2]
    · rw [if_neg e] at h; rw [if_neg (fun h => e h.symm)] at h2
      have := of_decide_eq_false h
      have := of_decide_eq_false h2
      omega
theorem lessL_trans : ∀ {a b c : List Int}, lessL a b = true → lessL b c = true → lessL a c = true
  | [], [], _, h, _ => by cases h
  | _ :: _, [], _, h, _ => by cases h
  | _, _ :: _, [], _, h => by cases h
  | [], _ :: _, _ :: _, _, _ => rfl
  | a :: r, b :: s, c :: t, h, h2 => by
    unfold lessL at h h2 ⊢
    by_cases e : a = b
    · rw [if_pos e] at h
      subst e
      by_cases e2 : a = c
      · rw [if_pos e2] at h2 ⊢; exact lessL_trans h h2
      · rw [if_neg e2] at h2 ⊢; exact h2
    · rw [if_neg e] at h
      have h3 := of_decide_eq_true h
      by_cases e2 : b = c
      · subst e2; rw [if_neg e]; exact h
      · rw [if_neg e2] at h2
        have h4 := of_decide_eq_true h2
        rw [if_neg (by omega)]; exact decide_eq_true (by omega)
/-- Is one end ahead of another one? -/
def lessM (a b : TEnd) : Bool := lessL ([a.kind, a.what, a.crashes] ++ a.cells) ([b.kind, b.what, b.crashes] ++ b.cells)
def sameM (a b : TEnd) : Bool := decide (a = b)
theorem end_eq {a b : TEnd} (h : [a.kind, a.what, a.crashes] ++ a.cells = [b.kind, b.what, b.crashes] ++ b.cells) : a = b := by
  cases a; cases b
  simp only [List.cons_append, List.nil_append, List.cons.injEq] at h
  obtain ⟨h1, h2, h3, h4⟩ := h
  subst h1 h2 h3 h4; rfl
theorem same_less (a b : TEnd) : sameM a b = (!lessM a b && !lessM b a) := by
  unfold sameM
  by_cases e : a = b
  · subst e
    have : lessM a a = false := lessL_self _
    rw [this]; exact decide_eq_true rfl
  · rw [decide_eq_false e]
    cases h1 : lessM a b with
    | true => rfl
    | false =>
      cases h2 : lessM b a with
      | true => rfl
      | false => exact absurd (end_eq (lessL_eq h1 h2)) e
theorem less_trans {a b c : TEnd} (h1 : lessM a b = true) (h2 : lessM b c = true) : lessM a c = true := lessL_trans h1 h2
theorem less_asym {a b : TEnd} (h : lessM a b = true) : lessM b a = false := lessL_asym h
/-- Must it not be? -/
def badM (e : TEnd) : Bool := decide (2 ≤ e.kind ∧ e.kind ≤ 4)

/-- One number against another one. -/
def cmpM (a b : Int) : Int := if a < b then -1 else if b < a then 1 else 0
def ordM : List TPair → Int
  | [] => 0
  | p :: r => if cmpM p.a p.b = 0 then ordM r else cmpM p.a p.b
def orM : List Int → Int
  | [] => 0
  | a :: r => if a = 0 then orM r else a
def cmpL : List Int → List Int → Int
  | [], [] => 0
  | [], _ :: _ => -1
  | _ :: _, [] => 1
  | a :: r, b :: s => if cmpM a b = 0 then cmpL r s else cmpM a b
theorem ordM_go {l : List TPair} {k : Nat} {e : TPair} (h : l[k]? = some e) (hc : cmpM e.a e.b = 0) : ordM (l.drop k) = ordM (l.drop (k + 1)) := by
  rw [drop_get h, ordM, if_pos hc]
theorem ordM_at {l : List TPair} {k : Nat} {e : TPair} (h : l[k]? = some e) (hc : ¬ cmpM e.a e.b = 0) : ordM (l.drop k) = cmpM e.a e.b := by
  rw [drop_get h, ordM, if_neg hc]
theorem orM_go {l : List Int} {k : Nat} {e : Int} (h : l[k]? = some e) (hc : e = 0) : orM (l.drop k) = orM (l.drop (k + 1)) := by
  rw [drop_get h, orM, if_pos hc]
theorem orM_at {l : List Int} {k : Nat} {e : Int} (h : l[k]? = some e) (hc : ¬ e = 0) : orM (l.drop k) = e := by
  rw [drop_get h, orM, if_neg hc]
theorem cmpL_go {l m : List Int} {k : Nat} {a b : Int} (h : l[k]? = some a) (h2 : m[k]? = some b) (hc : cmpM a b = 0) : cmpL (l.drop k) (m.drop k) = cmpL (l.drop (k + 1)) (m.drop (k + 1)) := by
  rw [drop_get h, drop_get h2, cmpL, if_pos hc]
theorem cmpL_at {l m : List Int} {k : Nat} {a b : Int} (h : l[k]? = some a) (h2 : m[k]? = some b) (hc : ¬ cmpM a b = 0) : cmpL (l.drop k) (m.drop k) = cmpM a b := by
  rw [drop_get h, drop_get h2, cmpL, if_neg hc]
theorem cmpL_out {l m : List Int} {k : Nat} {a : Int} (h : l[k]? = some a) (h2 : m.length ≤ k) : cmpL (l.drop k) (m.drop k) = 1 := by
  rw [drop_get h, List.drop_eq_nil_of_le h2, cmpL]
theorem cmpL_end {l m : List Int} {k : Nat} (h : l.length ≤ k) (h1 : k ≤ m.length) (h2 : k ≤ l.length) : cmpL (l.drop k) (m.drop k) = if l.length < m.length then -1 else 0 := by
  rw [List.drop_eq_nil_of_le h]
  by_cases e : l.length < m.length
  · rw [if_pos e]
    obtain ⟨b, hb⟩ : ∃ b, m[k]? = some b := ⟨_, List.getElem?_eq_getElem (by omega)⟩
    rw [drop_get hb, cmpL]
  · rw [if_neg e, List.drop_eq_nil_of_le (by omega), cmpL]
theorem cmpM_zero {a b : Int} : cmpM a b = 0 ↔ a = b := by unfold cmpM; split <;> (try split) <;> omega
theorem cmpM_neg {a b : Int} : cmpM a b < 0 ↔ a < b := by unfold cmpM; split <;> (try split) <;> omega
theorem cmpL_less : ∀ (a b : List Int), decide (cmpL a b < 0) = lessL a b
  | [], [] => rfl
  | [], _ :: _ => rfl
  | _ :: _, [] => rfl
  | a :: r, b :: s => by
    rw [cmpL, lessL]
    by_cases e : a = b
    · rw [if_pos (cmpM_zero.2 e), if_pos e, cmpL_less r s]
    · rw [if_neg (fun h => e (cmpM_zero.1 h)), if_neg e]; exact decide_eq_decide.2 cmpM_neg
def pairs (a b : TEnd) : List TPair := [⟨a.kind, b.kind⟩, ⟨a.what, b.what⟩, ⟨a.crashes, b.crashes⟩]
theorem less_eq (a b : TEnd) : decide (orM [ordM (pairs a b), cmpL a.cells b.cells] < 0) = lessM a b := by
  unfold lessM
  rw [← cmpL_less]
  simp only [List.cons_append, List.nil_append, pairs, orM, ordM, cmpL]
  by_cases h1 : cmpM a.kind b.kind = 0
  · rw [if_pos h1, if_pos h1]
    by_cases h2 : cmpM a.what b.what = 0
    · rw [if_pos h2, if_pos h2]
      by_cases h3 : cmpM a.crashes b.crashes = 0
      · rw [if_pos h3, if_pos h3, if_pos rfl]
        by_cases h4 : cmpL a.cells b.cells = 0
        · rw [if_pos h4, h4]
        · rw [if_neg h4]
      · rw [if_neg h3, if_neg h3, if_neg h3]
    · rw [if_neg h2, if_neg h2, if_neg h2]
  · rw [if_neg h1, if_neg h1, if_neg h1]
theorem take_snoc {α : Type} {l : List α} {k : Nat} {e : α} (h : l[k]? = some e) : l.take k ++ [e] = l.take (k + 1) := by rw [List.take_add_one, h]; rfl
theorem take_snoc_eq {α : Type} {xs ys : List α} {k : Nat} {x y : α} (h : xs.take k = ys.take k) (hx : xs[k]? = some x) (hy : ys[k]? = some y) (e : x = y) : xs.take (k + 1) = ys.take (k + 1) := by
  rw [← take_snoc hx, ← take_snoc hy, h, e]
theorem ne_at {α : Type} {xs ys : List α} {k : Nat} {x y : α} (hx : xs[k]? = some x) (hy : ys[k]? = some y) (e : x ≠ y) : xs ≠ ys := fun h => by
  rw [h, hy] at hx; exact e (Option.some.inj hx).symm

theorem C250 (a : Int) (w : World)  : Calls Tryz.prog 250 [.int .i64 a].toArray w (Ret fun v w' => v = .bool false ∧ Ext w w') := by
  have hs := St.start w
  refine S250_ok _ _ _ ?_
  unfold S250
  refine pop_neq ?_
  exact ⟨congrArg Value.bool (by simp), hs.chg⟩

theorem C194 (x y : Int) (w : World)  : Calls Tryz.prog 194 [.int .i64 x, .int .i64 y].toArray w (Ret fun v w' => v = .int .i64 (cmpM x y) ∧ Ext w w') := by
  have hs := St.start w
  refine S194_ok _ _ _ _ ?_
  unfold S194
  refine callP pl250 hs (C250 _ _) (fun w1 he hs => ?_)
  refine callP pl250 hs (C250 _ _) (fun w2 he hs => ?_)
  refine cond_f ?_
  refine cond_f ?_
  refine pop_lss ?_
  refine cond_d (fun c_x16 => ?_) (fun c_x16 => ?_)
  · skip
    unfold cmpM
    first | (rw [if_pos (show x < y from c_x16)]; exact ⟨rfl, hs.chg⟩) | (rw [if_neg (show ¬ x < y from c_x16), if_pos (show y < x from c_x19)]; exact ⟨rfl, hs.chg⟩) | (rw [if_neg (show ¬ x < y from c_x16), if_neg (show ¬ y < x from c_x19)]; exact ⟨rfl, hs.chg⟩)
  · skip
    refine pop_gtr ?_
    refine cond_d (fun c_x19 => ?_) (fun c_x19 => ?_)
    · skip
      unfold cmpM
      first | (rw [if_pos (show x < y from c_x16)]; exact ⟨rfl, hs.chg⟩) | (rw [if_neg (show ¬ x < y from c_x16), if_pos (show y < x from c_x19)]; exact ⟨rfl, hs.chg⟩) | (rw [if_neg (show ¬ x < y from c_x16), if_neg (show ¬ y < x from c_x19)]; exact ⟨rfl, hs.chg⟩)
    · skip
      unfold cmpM
      first | (rw [if_pos (show x < y from c_x16)]; exact ⟨rfl, hs.chg⟩) | (rw [if_neg (show ¬ x < y from c_x16), if_pos (show y < x from c_x19)]; exact ⟨rfl, hs.chg⟩) | (rw [if_neg (show ¬ x < y from c_x16), if_neg (show ¬ y < x from c_x19)]; exact ⟨rfl, hs.chg⟩)

theorem C123 (lv : Value) (l : List TPair) (w : World) (hL : RdL (fun _ => True) w lv l) (hn : l.length ≤ 1073741824) : Calls Tryz.prog 123 [lv].toArray w (Ret fun v w' => v = .int .i64 (ordM l) ∧ Ext w w') := by
  have hs := St.start w
  refine S123_ok _ _ _ ?_
  unfold S123
  refine pop_len sl255 (hL.ext hs.chg) ?_
  refine ⟨fun mm i w' => ∃ k : Nat, i = .int .i64 (k : Int) ∧ mm = l.length - k ∧ k ≤ l.length ∧ ordM l = ordM (l.drop k) ∧ St w none1 [] w', ⟨_, 0, rfl, rfl, Nat.zero_le _, rfl, hs⟩, ?_⟩
  rintro mm _ w1 ⟨k, rfl, rfl, hk, heq, hs⟩ dd1
  refine pop_lss ?_
  refine cond_d (fun c_x9 => ?_) (fun c_x9 => ?_)
  · skip
    obtain ⟨e_x10, he_x10⟩ := gx (l) (i := ((k : Int)).toNat) (by omega)
    refine pop_idx sl255 hL (by omega) he_x10 (fun q_x10 h_x10 => ?_)
    refine qop_at ty172 (h_x10.ext hs.chg) ?_
    refine eop_allocA hs zero172 (fun b_x4 w2 hs => ?_)
    refine uop_blkV (x := e_x10) hs ty172 rfl rfl (fun w3 hs => ?_)
    refine pop_field fld172_0 ?_
    refine qop_blk (v := .int .i64 ((e_x10).a)) ty3 hs.hb rfl ?_
    refine pop_field fld172_1 ?_
    refine qop_blk (v := .int .i64 ((e_x10).b)) ty3 hs.hb rfl ?_
    refine callP pl194 hs (C194 _ _ _) (fun w4 he hs => ?_)
    refine pop_neq ?_
    refine cond_d (fun c_x18 => ?_) (fun c_x18 => ?_)
    · skip
      exact ⟨congrArg (Value.int .i64) (heq.trans (ordM_at he_x10 (by omega))).symm, hs.drop.chg⟩
    · skip
      refine pop_add (by omega) ?_
      exact ⟨_, by omega, k + 1, rfl, rfl, by omega, heq.trans (ordM_go he_x10 (by omega)), hs.drop⟩
  · skip
    exact ⟨congrArg (Value.int .i64) (by rw [heq, List.drop_eq_nil_of_le (by omega)]; rfl), hs.chg⟩

theorem C124 (lv : Value) (l : List Int) (w : World) (hL : RdL (fun _ => True) w lv l) (hn : l.length ≤ 1073741824) : Calls Tryz.prog 124 [lv].toArray w (Ret fun v w' => v = .int .i64 (orM l) ∧ Ext w w') := by
  have hs := St.start w
  refine S124_ok _ _ _ ?_
  unfold S124
  refine pop_len sl41 (hL.ext hs.chg) ?_
  refine ⟨fun mm i w' => ∃ k : Nat, i = .int .i64 (k : Int) ∧ mm = l.length - k ∧ k ≤ l.length ∧ orM l = orM (l.drop k) ∧ St w none1 [] w', ⟨_, 0, rfl, rfl, Nat.zero_le _, rfl, hs⟩, ?_⟩
  rintro mm _ w1 ⟨k, rfl, rfl, hk, heq, hs⟩ dd1
  refine pop_lss ?_
  refine cond_d (fun c_x9 => ?_) (fun c_x9 => ?_)
  · skip
    obtain ⟨e_x10, he_x10⟩ := gx (l) (i := ((k : Int)).toNat) (by omega)
    refine pop_idx sl41 hL (by omega) he_x10 (fun q_x10 h_x10 => ?_)
    refine qop_at ty3 (h_x10.ext hs.chg) ?_
    refine pop_neq ?_
    refine cond_d (fun c_x14 => ?_) (fun c_x14 => ?_)
    · skip
      exact ⟨congrArg (Value.int .i64) (heq.trans (orM_at he_x10 (by omega))).symm, hs.chg⟩
    · skip
      refine pop_add (by omega) ?_
      exact ⟨_, by omega, k + 1, rfl, rfl, by omega, heq.trans (orM_go he_x10 (by omega)), hs⟩
  · skip
    exact ⟨congrArg (Value.int .i64) (by rw [heq, List.drop_eq_nil_of_le (by omega)]; rfl), hs.chg⟩

theorem C125 (av bv : Value) (xs ys : List Int) (w : World) (hA : RdL (fun _ => True) w av xs) (hB : RdL (fun _ => True) w bv ys) (hn : xs.length ≤ 1073741824) : Calls Tryz.prog 125 [av, bv].toArray w (Ret fun v w' => v = .int .i64 (cmpL xs ys) ∧ Ext w w') := by
  have hs := St.start w
  refine S125_ok _ _ _ _ ?_
  unfold S125
  refine pop_len sl41 (hA.ext hs.chg) ?_
  refine ⟨fun mm i w' => ∃ k : Nat, i = .int .i64 (k : Int) ∧ mm = xs.length - k ∧ k ≤ xs.length ∧ k ≤ ys.length ∧ cmpL xs ys = cmpL (xs.drop k) (ys.drop k) ∧ St w none1 [] w', ⟨_, 0, rfl, rfl, Nat.zero_le _, Nat.zero_le _, rfl, hs⟩, ?_⟩
  rintro mm _ w1 ⟨k, rfl, rfl, hk, hk2, heq, hs⟩ dd1
  refine pop_lss ?_
  refine cond_d (fun c_x12 => ?_) (fun c_x12 => ?_)
  · skip
    obtain ⟨e_x14, he_x14⟩ := gx (xs) (i := ((k : Int)).toNat) (by omega)
    refine pop_idx sl41 hA (by omega) he_x14 (fun q_x14 h_x14 => ?_)
    refine qop_at ty3 (h_x14.ext hs.chg) ?_
    refine pop_len sl41 (hB.ext hs.chg) ?_
    refine pop_geq ?_
    refine cond_d (fun c_x19 => ?_) (fun c_x19 => ?_)
    · skip
      exact ⟨congrArg (Value.int .i64) (heq.trans (cmpL_out he_x14 (by omega))).symm, hs.chg⟩
    · skip
      obtain ⟨e_x22, he_x22⟩ := gx (ys) (i := ((k : Int)).toNat) (by omega)
      refine pop_idx sl41 hB (by omega) he_x22 (fun q_x22 h_x22 => ?_)
      refine qop_at ty3 (h_x22.ext hs.chg) ?_
      refine callP pl194 hs (C194 _ _ _) (fun w2 he hs => ?_)
      refine pop_neq ?_
      refine cond_d (fun c_x28 => ?_) (fun c_x28 => ?_)
      · skip
        exact ⟨congrArg (Value.int .i64) (heq.trans (cmpL_at he_x14 he_x22 (by omega))).symm, hs.chg⟩
      · skip
        refine pop_add (by omega) ?_
        exact ⟨_, by omega, k + 1, rfl, rfl, by omega, by omega, heq.trans (cmpL_go he_x14 he_x22 (by omega)), hs⟩
  · skip
    refine pop_len sl41 (hA.ext hs.chg) ?_
    refine pop_len sl41 (hB.ext hs.chg) ?_
    refine pop_lss ?_
    refine cond_d (fun c_x35 => ?_) (fun c_x35 => ?_)
    · skip
      exact ⟨congrArg (Value.int .i64) (show ((-1) : Int) = cmpL xs ys by rw [heq, cmpL_end (by omega) hk2 hk, if_pos (by omega)]), hs.chg⟩
    · skip
      exact ⟨congrArg (Value.int .i64) (show (0 : Int) = cmpL xs ys by rw [heq, cmpL_end (by omega) hk2 hk, if_neg (by omega)]), hs.chg⟩

theorem C34 (av bv : Value) (xs ys : List Int) (w : World) (hA : RdL (fun _ => True) w av xs) (hB : RdL (fun _ => True) w bv ys) (hn : xs.length ≤ 1073741824) : Calls Tryz.prog 34 [av, bv].toArray w (Ret fun v w' => v = .bool (decide (xs = ys)) ∧ Ext w w') := by
  have hs := St.start w
  refine S34_ok _ _ _ _ ?_
  unfold S34
  refine pop_len sl41 (hA.ext hs.chg) ?_
  refine pop_len sl41 (hB.ext hs.chg) ?_
  refine pop_neq ?_
  refine cond_d (fun c_x10 => ?_) (fun c_x10 => ?_)
  · skip
    exact ⟨congrArg Value.bool (decide_eq_false (fun h => by rw [h] at c_x10; exact absurd rfl c_x10)).symm, hs.chg⟩
  · skip
    refine ⟨fun mm i w' => ∃ k : Nat, i = .int .i64 (k : Int) ∧ mm = xs.length - k ∧ k ≤ xs.length ∧ xs.take k = ys.take k ∧ St w none1 [] w', ⟨_, 0, rfl, rfl, Nat.zero_le _, rfl, hs⟩, ?_⟩
    rintro mm _ w1 ⟨k, rfl, rfl, hk, heq, hs⟩ dd1
    refine pop_len sl41 (hA.ext hs.chg) ?_
    refine pop_lss ?_
    refine cond_d (fun c_x14 => ?_) (fun c_x14 => ?_)
    · skip
      obtain ⟨e_x19, he_x19⟩ := gx (xs) (i := ((k : Int)).toNat) (by omega)
      refine pop_idx sl41 hA (by omega) he_x19 (fun q_x19 h_x19 => ?_)
      replace hs := hs.drew
      refine qop_at ty3 (h_x19.ext hs.chg) ?_
      obtain ⟨e_x23, he_x23⟩ := gx (ys) (i := ((k : Int)).toNat) (by omega)
      refine pop_idx sl41 hB (by omega) he_x23 (fun q_x23 h_x23 => ?_)
      refine qop_at ty3 (h_x23.ext hs.chg) ?_
      refine pop_neq ?_
      refine cond_d (fun c_x25 => ?_) (fun c_x25 => ?_)
      · skip
        exact ⟨congrArg Value.bool (decide_eq_false (ne_at he_x19 he_x23 c_x25)).symm, hs.chg⟩
      · skip
        refine pop_add (by omega) ?_
        exact ⟨_, by omega, k + 1, rfl, rfl, by omega, take_snoc_eq heq he_x19 he_x23 (by omega), hs⟩
    · skip
      exact ⟨congrArg Value.bool (decide_eq_true (by rw [List.take_of_length_le (by omega), List.take_of_length_le (by omega)] at heq; exact heq)).symm, hs.chg⟩

end Go.Proofs.YtndcifakbhggdaaGreatDoor
