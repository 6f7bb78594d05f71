/-
  Events: what they use, which depend on each other.
-/
import Derived.Test.YtddeoncipdpkfaaGreatDoorZSh0
import Derived.Test.YtddeoncipdpkfaaGreatDoorZD
import Derived.Test.YtddeoncipdpkfaaGreatDoorZFw18
import Derived.KernelRfl
set_option linter.all false
namespace Go.Proofs.YtddeoncipdpkfaaGreatDoor
open Go.Fw

set_option maxRecDepth 100000
/-- Do two uses clash? -/
def clash (x y : TUse) : Bool := decide (x.what = 4 ∨ y.what = 4 ∨ (x.what = y.what ∧ x.n = y.n)) && (decide (x.what = 4 ∨ y.what = 4) || x.write || y.write)
theorem clash_4 {x y : TUse} (h : x.what = 4 ∨ y.what = 4) : clash x y = true := by
  unfold clash; rw [decide_eq_true (show x.what = 4 ∨ y.what = 4 ∨ (x.what = y.what ∧ x.n = y.n) from by omega), decide_eq_true h]; rfl
theorem clash_no {x y : TUse} (h : ¬ (x.what = 4 ∨ y.what = 4)) (h2 : ¬ (x.what = y.what ∧ x.n = y.n)) : clash x y = false := by
  unfold clash; rw [decide_eq_false (show ¬ (x.what = 4 ∨ y.what = 4 ∨ (x.what = y.what ∧ x.n = y.n)) from by omega)]; rfl
theorem clash_wr {x y : TUse} (h : ¬ (x.what = 4 ∨ y.what = 4)) (h2 : x.what = y.what ∧ x.n = y.n) : clash x y = (x.write || y.write) := by
  unfold clash; rw [decide_eq_true (show x.what = 4 ∨ y.what = 4 ∨ (x.what = y.what ∧ x.n = y.n) from by omega), decide_eq_false h]; rfl

/-- What an event uses. -/
def usesL (v : TEvent) (of : List Int) (s : Int) : List TUse :=
  if v.kind = 1 ∨ v.kind = 9 then [⟨1, v.a, false⟩]
  else if v.kind = 8 ∨ v.kind = 12 then [⟨1, v.a, true⟩] ++ (if 0 ≤ v.a ∧ v.a < s then (match of[v.a.toNat]? with | some e => [⟨2, e, true⟩] | none => []) else [])
  else if v.kind = 13 then [⟨2, v.a, true⟩]
  else if v.kind = 10 ∨ v.kind = 11 then [⟨3, v.a, true⟩]
  else if v.kind = 15 ∨ v.kind = 16 then [⟨4, 0, true⟩]
  else []
section
variable {v : TEvent} {of : List Int} {s : Int}
theorem usesL_a (h : v.kind = 1 ∨ v.kind = 9) : usesL v of s = [⟨1, v.a, false⟩] := by unfold usesL; rw [if_pos h]
theorem usesL_b (h : v.kind = 8 ∨ v.kind = 12) (h2 : v.a < 0 ∨ s ≤ v.a ∨ (of.length : Int) ≤ v.a) : usesL v of s = [⟨1, v.a, true⟩] := by
  unfold usesL; rw [if_neg (by omega), if_pos h]
  by_cases h3 : 0 ≤ v.a ∧ v.a < s
  · rw [if_pos h3, List.getElem?_eq_none (by omega)]; rfl
  · rw [if_neg h3]; rfl
theorem usesL_c {e : Int} (h : v.kind = 8 ∨ v.kind = 12) (h2 : 0 ≤ v.a ∧ v.a < s) (he : of[v.a.toNat]? = some e) : usesL v of s = [⟨1, v.a, true⟩] ++ [⟨2, e, true⟩] := by
  unfold usesL; rw [if_neg (by omega), if_pos h, if_pos h2, he]
theorem usesL_d (h : v.kind = 13) : usesL v of s = [⟨2, v.a, true⟩] := by unfold usesL; rw [if_neg (by omega), if_neg (by omega), if_pos h]
theorem usesL_e (h : v.kind = 10 ∨ v.kind = 11) : usesL v of s = [⟨3, v.a, true⟩] := by unfold usesL; rw [if_neg (by omega), if_neg (by omega), if_neg (by omega), if_pos h]
theorem usesL_f (h : v.kind = 15 ∨ v.kind = 16) : usesL v of s = [⟨4, 0, true⟩] := by unfold usesL; rw [if_neg (by omega), if_neg (by omega), if_neg (by omega), if_neg (by omega), if_pos h]
theorem usesL_g (h : ¬ (v.kind = 1 ∨ v.kind = 9 ∨ v.kind = 8 ∨ v.kind = 12 ∨ v.kind = 13 ∨ v.kind = 10 ∨ v.kind = 11 ∨ v.kind = 15 ∨ v.kind = 16)) : usesL v of s = [] := by
  unfold usesL; rw [if_neg (by omega), if_neg (by omega), if_neg (by omega), if_neg (by omega), if_neg (by omega)]
theorem usesL_len : (usesL v of s).length ≤ 2 := by
  unfold usesL
  repeat' split
  all_goals simp
end
/-- Do two events depend on each other? -/
def depB (of : List Int) (s : Int) (a b : TEvent) : Bool :=
  if a.t = b.t ∨ a.kind = 15 ∨ a.kind = 16 ∨ b.kind = 15 ∨ b.kind = 16 then true else (usesL a of s).any fun x => (usesL b of s).any (clash x)
theorem depB_y {of : List Int} {s : Int} {a b : TEvent} (h : a.t = b.t ∨ a.kind = 15 ∨ a.kind = 16 ∨ b.kind = 15 ∨ b.kind = 16) : depB of s a b = true := by unfold depB; rw [if_pos h]
theorem depB_n {of : List Int} {s : Int} {a b : TEvent} (h : ¬ (a.t = b.t ∨ a.kind = 15 ∨ a.kind = 16 ∨ b.kind = 15 ∨ b.kind = 16)) : depB of s a b = (usesL a of s).any fun x => (usesL b of s).any (clash x) := by unfold depB; rw [if_neg h]

/-- Where the first one is of which g says yes; -1: nowhere. -/
def idxF {α : Type} (g : α → Bool) (l : List α) : Int := match l.findIdx? g with | some k => k | none => -1
theorem idxF_at {α : Type} {g : α → Bool} {l : List α} {k : Nat} {e : α} (hno : ∀ y ∈ l.take k, g y = false) (he : l[k]? = some e) (hg : g e = true) : idxF g l = k := by
  have : l.findIdx? g = some k := by
    rw [List.findIdx?_eq_some_iff_getElem]
    have hk := (List.getElem?_eq_some_iff.1 he).1
    refine ⟨hk, by rw [(List.getElem?_eq_some_iff.1 he).2]; exact hg, fun j hj => ?_⟩
    have := hno (l[j]'(by omega)) (List.mem_take_iff_getElem.2 ⟨j, by omega, rfl⟩)
    simp [this]
  unfold idxF; rw [this]
theorem idxF_none {α : Type} {g : α → Bool} {l : List α} (hno : ∀ y ∈ l, g y = false) : idxF g l = -1 := by
  have : l.findIdx? g = none := by rw [List.findIdx?_eq_none_iff]; exact hno
  unfold idxF; rw [this]
theorem idxF_any {α : Type} (g : α → Bool) (l : List α) : decide (0 ≤ idxF g l) = l.any g := by
  unfold idxF
  cases h : l.findIdx? g with
  | none =>
    rw [List.findIdx?_eq_none_iff] at h
    have : l.any g = false := by rw [List.any_eq_false]; intro x hx; rw [h x hx]; simp
    rw [this]; rfl
  | some k =>
    have h' := (List.findIdx?_eq_some_iff_getElem.1 h)
    obtain ⟨hk, hg, _⟩ := h'
    have : l.any g = true := List.any_eq_true.2 ⟨_, List.getElem_mem hk, hg⟩
    rw [this]; simp
theorem take_all {α : Type} {φ : α → Prop} {l : List α} {k : Nat} {e : α} (h : ∀ y ∈ l.take k, φ y) (he : l[k]? = some e) (hp : φ e) : ∀ y ∈ l.take (k + 1), φ y := by
  intro y hy
  rw [List.take_add_one, he] at hy
  simp at hy
  rcases hy with hy | rfl
  · exact h y hy
  · exact hp
theorem any_at {α : Type} {g : α → Bool} {l : List α} {k : Nat} {e : α} (he : l[k]? = some e) (hg : g e = true) : l.any g = true := List.any_eq_true.2 ⟨e, List.mem_of_getElem? he, hg⟩
theorem any_no {α : Type} {g : α → Bool} {l : List α} (h : ∀ y ∈ l, g y = false) : l.any g = false := by
  rw [List.any_eq_false]; intro y hy; rw [h y hy]; simp
/-- The function value f answers g of each x, from the world w on, and turns nothing. -/
def FnOn (w : World) (f : Value) (g : TUse → Bool) : Prop := ∃ g0 first cap, f = .func (.func g0) (List.toArray first) (List.toArray cap) ∧ Plain Tryz.prog g0 ∧
  ∀ x w1, Ext w w1 → Calls Tryz.prog g0 (first ++ [Flat.val x] ++ cap).toArray w1 (Ret fun v w2 => v = .bool (g x) ∧ Ext w1 w2)
theorem FnOn.ext {w w' : World} {f : Value} {g : TUse → Bool} (h : FnOn w f g) (e : Ext w w') : FnOn w' f g := by
  obtain ⟨g0, first, cap, h1, h2, h3⟩ := h; exact ⟨g0, first, cap, h1, h2, fun x w1 e1 => h3 x w1 (e.trans e1)⟩

theorem C128 (x : TEvent) (w : World)  : Calls Tryz.prog 128 [Flat.val x].toArray w (Ret fun v w' => v = .bool (decide (x.kind = 15 ∨ x.kind = 16)) ∧ Ext w w') := by
  have hs := St.start w
  refine S128_ok _ _ _ ?_
  unfold S128
  refine eop_boxV hs (fun b_v1 w1 hs => ?_)
  refine ⟨_, ?_, fun _ _ h => h⟩
  refine pop_field fld42_0 ?_
  refine qop_blk (v := .int .i64 ((x).kind)) ty3 hs.hb rfl ?_
  refine pop_eql ?_
  refine cond_d (fun c_x5 => ?_) (fun c_x5 => ?_)
  · skip
    intro dd1
    refine ⟨congrArg Value.bool ?_, hs.chg⟩
    first | exact (decide_eq_true (by omega)).symm | exact (decide_eq_false (by omega)).symm | exact decide_eq_decide.2 (by omega)
  · skip
    refine pop_field fld42_0 ?_
    refine qop_blk (v := .int .i64 ((x).kind)) ty3 hs.hb rfl ?_
    refine pop_eql ?_
    intro dd1
    refine ⟨congrArg Value.bool ?_, hs.chg⟩
    first | exact (decide_eq_true (by omega)).symm | exact (decide_eq_false (by omega)).symm | exact decide_eq_decide.2 (by omega)

theorem C133 (x y : TUse) (w : World)  : Calls Tryz.prog 133 [Flat.val x, Flat.val y].toArray w (Ret fun v w' => v = .bool (clash x y) ∧ Ext w w') := by
  have hs := St.start w
  refine S133_ok _ _ _ _ ?_
  unfold S133
  refine eop_boxV hs (fun b_x2 w1 hs => ?_)
  refine eop_boxV hs (fun b_y3 w2 hs => ?_)
  refine ⟨_, ?_, fun _ _ h => h⟩
  refine pop_field fld229_0 ?_
  refine qop_blk (v := .int .i64 ((x).what)) ty3 hs.p1.hb rfl ?_
  refine pop_eql ?_
  refine cond_d (fun c_x7 => ?_) (fun c_x7 => ?_)
  · skip
    intro dd1
    refine cond_t ?_
    refine ⟨congrArg Value.bool ?_, hs.chg⟩
    first | exact (clash_4 (by omega)).symm | exact (clash_no (by omega) (by omega)).symm | (rw [clash_wr (by omega) (by omega)]; simp [*])
  · skip
    refine pop_field fld229_0 ?_
    refine qop_blk (v := .int .i64 ((y).what)) ty3 hs.hb rfl ?_
    refine pop_eql ?_
    intro dd1
    refine cond_d (fun c_x12 => ?_) (fun c_x12 => ?_)
    · skip
      refine ⟨congrArg Value.bool ?_, hs.chg⟩
      first | exact (clash_4 (by omega)).symm | exact (clash_no (by omega) (by omega)).symm | (rw [clash_wr (by omega) (by omega)]; simp [*])
    · skip
      refine ⟨_, ?_, fun _ _ h => h⟩
      refine pop_field fld229_0 ?_
      refine qop_blk (v := .int .i64 ((x).what)) ty3 hs.p1.hb rfl ?_
      refine pop_field fld229_0 ?_
      refine qop_blk (v := .int .i64 ((y).what)) ty3 hs.hb rfl ?_
      refine pop_eql ?_
      refine cond_d (fun c_x17 => ?_) (fun c_x17 => ?_)
      · skip
        refine pop_field fld229_1 ?_
        refine qop_blk (v := .int .i64 ((x).n)) ty3 hs.p1.hb rfl ?_
        refine pop_field fld229_1 ?_
        refine qop_blk (v := .int .i64 ((y).n)) ty3 hs.hb rfl ?_
        refine pop_eql ?_
        refine cond_d (fun c_x23 => ?_) (fun c_x23 => ?_)
        · skip
          refine pop_field fld229_2 ?_
          refine qop_blk (v := .bool ((x).write)) ty4 hs.p1.hb rfl ?_
          refine cond_b (fun c_x27 => ?_) (fun c_x27 => ?_)
          · skip
            intro dd2
            refine ⟨congrArg Value.bool ?_, hs.chg⟩
            first | exact (clash_4 (by omega)).symm | exact (clash_no (by omega) (by omega)).symm | (rw [clash_wr (by omega) (by omega)]; simp [*])
          · skip
            refine pop_field fld229_2 ?_
            refine qop_blk (v := .bool ((y).write)) ty4 hs.hb rfl ?_
            intro dd2
            refine ⟨congrArg Value.bool ?_, hs.chg⟩
            first | exact (clash_4 (by omega)).symm | exact (clash_no (by omega) (by omega)).symm | (rw [clash_wr (by omega) (by omega)]; simp [*])
        · skip
          intro dd2
          refine ⟨congrArg Value.bool ?_, hs.chg⟩
          first | exact (clash_4 (by omega)).symm | exact (clash_no (by omega) (by omega)).symm | (rw [clash_wr (by omega) (by omega)]; simp [*])
      · skip
        intro dd2
        refine ⟨congrArg Value.bool ?_, hs.chg⟩
        first | exact (clash_4 (by omega)).symm | exact (clash_no (by omega) (by omega)).symm | (rw [clash_wr (by omega) (by omega)]; simp [*])

theorem C135 (x y : TUse) (w : World)  : Calls Tryz.prog 135 [Flat.val x, Flat.val y].toArray w (Ret fun v w' => v = .bool (clash x y) ∧ Ext w w') := by
  have hs := St.start w
  refine S135_ok _ _ _ _ ?_
  unfold S135
  refine eop_boxV hs (fun b_x2 w1 hs => ?_)
  refine eop_boxV hs (fun b_y3 w2 hs => ?_)
  refine ⟨_, ?_, fun _ _ h => h⟩
  refine pop_field fld229_0 ?_
  refine qop_blk (v := .int .i64 ((x).what)) ty3 hs.p1.hb rfl ?_
  refine pop_eql ?_
  refine cond_d (fun c_x7 => ?_) (fun c_x7 => ?_)
  · skip
    intro dd1
    refine ⟨congrArg Value.bool ?_, hs.chg⟩
    first | exact (clash_4 (by omega)).symm | exact (clash_no (by omega) (by omega)).symm | (rw [clash_wr (by omega) (by omega)]; simp [*])
  · skip
    refine pop_field fld229_0 ?_
    refine qop_blk (v := .int .i64 ((y).what)) ty3 hs.hb rfl ?_
    refine pop_eql ?_
    refine cond_d (fun c_x11 => ?_) (fun c_x11 => ?_)
    · skip
      intro dd1
      refine ⟨congrArg Value.bool ?_, hs.chg⟩
      first | exact (clash_4 (by omega)).symm | exact (clash_no (by omega) (by omega)).symm | (rw [clash_wr (by omega) (by omega)]; simp [*])
    · skip
      refine pop_field fld229_0 ?_
      refine qop_blk (v := .int .i64 ((x).what)) ty3 hs.p1.hb rfl ?_
      refine pop_field fld229_0 ?_
      refine qop_blk (v := .int .i64 ((y).what)) ty3 hs.hb rfl ?_
      refine pop_eql ?_
      refine cond_d (fun c_x18 => ?_) (fun c_x18 => ?_)
      · skip
        refine pop_field fld229_1 ?_
        refine qop_blk (v := .int .i64 ((x).n)) ty3 hs.p1.hb rfl ?_
        refine pop_field fld229_1 ?_
        refine qop_blk (v := .int .i64 ((y).n)) ty3 hs.hb rfl ?_
        refine pop_eql ?_
        refine cond_d (fun c_x24 => ?_) (fun c_x24 => ?_)
        · skip
          refine pop_field fld229_2 ?_
          refine qop_blk (v := .bool ((x).write)) ty4 hs.p1.hb rfl ?_
          refine cond_b (fun c_x28 => ?_) (fun c_x28 => ?_)
          · skip
            intro dd1
            refine ⟨congrArg Value.bool ?_, hs.chg⟩
            first | exact (clash_4 (by omega)).symm | exact (clash_no (by omega) (by omega)).symm | (rw [clash_wr (by omega) (by omega)]; simp [*])
          · skip
            refine pop_field fld229_2 ?_
            refine qop_blk (v := .bool ((y).write)) ty4 hs.hb rfl ?_
            intro dd1
            refine ⟨congrArg Value.bool ?_, hs.chg⟩
            first | exact (clash_4 (by omega)).symm | exact (clash_no (by omega) (by omega)).symm | (rw [clash_wr (by omega) (by omega)]; simp [*])
        · skip
          intro dd1
          refine ⟨congrArg Value.bool ?_, hs.chg⟩
          first | exact (clash_4 (by omega)).symm | exact (clash_no (by omega) (by omega)).symm | (rw [clash_wr (by omega) (by omega)]; simp [*])
      · skip
        intro dd1
        refine ⟨congrArg Value.bool ?_, hs.chg⟩
        first | exact (clash_4 (by omega)).symm | exact (clash_no (by omega) (by omega)).symm | (rw [clash_wr (by omega) (by omega)]; simp [*])

theorem C129 (x : TEvent) (ov : Value) (of : List Int) (stays : Int) (w : World) (hO : RdL (fun _ => True) w ov of) : Calls Tryz.prog 129 [Flat.val x, ov, .int .i64 stays].toArray w (Ret fun v w' => New (ownL v (usesL x of stays)) w w') := by
  have hs := St.start w
  refine S129_ok _ _ _ _ _ ?_
  unfold S129
  refine eop_boxV hs (fun b_v3 w1 hs => ?_)
  refine ⟨_, ?_, fun _ _ h => h⟩
  refine pop_field fld42_0 ?_
  refine qop_blk (v := .int .i64 ((x).kind)) ty3 hs.hb rfl ?_
  refine ⟨_, ?_, fun _ _ h => h⟩
  refine ⟨fun jv w' => jv = .bool (decide (x.kind = 1 ∨ x.kind = 9)) ∧ w1 = w', ?_, ?_⟩
  · skip
    refine pop_eql ?_
    refine cond_d (fun c_x11 => ?_) (fun c_x11 => ?_)
    · skip
      exact ⟨jvD (by omega), rfl⟩
    · skip
      refine pop_eql ?_
      exact ⟨jvD (by omega), rfl⟩
  · skip
    rintro _ w2 ⟨rfl, hw⟩ dd1
    subst hw
    refine cond_d (fun c_x10 => ?_) (fun c_x10 => ?_)
    · skip
      refine pop_field fld42_2 ?_
      refine qop_blk (v := .int .i64 ((x).a)) ty3 hs.hb rfl ?_
      refine pop (bld229_0_1 _  _ ) ?_
      refine eop_build (([⟨1, x.a, false⟩] : List TUse)) hs sl225 rfl rfl (leb rfl) (fun s_x28 w3 hs => ?_)
      replace hs := hs.ownNil (α := TUse)
      have hr_x29 := (hs.p1).rd'
      refine eop_append hs sl225 hr_x29 (by simp <;> omega) (by decide) (fun s_x29 w4 hs => ?_)
      replace hs := hs.p1.drop
      intro dd7
      replace hs := (hs.p1).drop
      first | (exfalso; omega) | (rw [usesL_a (by omega)]; exact hs.fresh) | (rw [usesL_d (by omega)]; exact hs.fresh) | (rw [usesL_e (by omega)]; exact hs.fresh) | (rw [usesL_f (by omega)]; exact hs.fresh) | (rw [usesL_g (by omega)]; exact hs.fresh) | (rw [usesL_b (by omega) (by omega)]; exact hs.fresh) | (rw [usesL_c (by omega) (by omega) he_x55]; exact hs.fresh)
    · skip
      refine ⟨fun jv w' => jv = .bool (decide (x.kind = 8 ∨ x.kind = 12)) ∧ w1 = w', ?_, ?_⟩
      · skip
        refine pop_eql ?_
        refine cond_d (fun c_x14 => ?_) (fun c_x14 => ?_)
        · skip
          exact ⟨jvD (by omega), rfl⟩
        · skip
          refine pop_eql ?_
          exact ⟨jvD (by omega), rfl⟩
      · skip
        rintro _ w5 ⟨rfl, hw⟩ dd2
        subst hw
        refine cond_d (fun c_x13 => ?_) (fun c_x13 => ?_)
        · skip
          refine pop_field fld42_2 ?_
          refine qop_blk (v := .int .i64 ((x).a)) ty3 hs.hb rfl ?_
          refine pop (bld229_0_1_2 _  _  _ ) ?_
          refine eop_build (([⟨1, x.a, true⟩] : List TUse)) hs sl225 rfl rfl (leb rfl) (fun s_x34 w6 hs => ?_)
          replace hs := hs.ownNil (α := TUse)
          have hr_x35 := (hs.p1).rd'
          refine eop_append hs sl225 hr_x35 (by simp <;> omega) (by decide) (fun s_x35 w7 hs => ?_)
          replace hs := hs.p1.drop
          refine ⟨fun jv w' => jv = .bool (decide (x.a < 0 ∨ stays ≤ x.a ∨ (of.length : Int) ≤ x.a)) ∧ w7 = w', ?_, ?_⟩
          · skip
            refine pop_field fld42_2 ?_
            refine qop_blk (v := .int .i64 ((x).a)) ty3 hs.p1.hb rfl ?_
            refine pop_lss ?_
            refine cond_d (fun c_x38 => ?_) (fun c_x38 => ?_)
            · skip
              exact ⟨jvT (by omega), rfl⟩
            · skip
              refine pop_field fld42_2 ?_
              refine qop_blk (v := .int .i64 ((x).a)) ty3 hs.p1.hb rfl ?_
              refine pop_geq ?_
              refine cond_d (fun c_x43 => ?_) (fun c_x43 => ?_)
              · skip
                exact ⟨jvT (by omega), rfl⟩
              · skip
                refine pop_field fld42_2 ?_
                refine qop_blk (v := .int .i64 ((x).a)) ty3 hs.p1.hb rfl ?_
                refine pop_len sl45 (hO.ext hs.chg) ?_
                refine pop_geq ?_
                exact ⟨jvD (by omega), rfl⟩
          · skip
            rintro _ w8 ⟨rfl, hw⟩ dd3
            subst hw
            refine cond_d (fun c_x51 => ?_) (fun c_x51 => ?_)
            · skip
              intro dd7
              replace hs := (hs.p1).drop
              first | (exfalso; omega) | (rw [usesL_a (by omega)]; exact hs.fresh) | (rw [usesL_d (by omega)]; exact hs.fresh) | (rw [usesL_e (by omega)]; exact hs.fresh) | (rw [usesL_f (by omega)]; exact hs.fresh) | (rw [usesL_g (by omega)]; exact hs.fresh) | (rw [usesL_b (by omega) (by omega)]; exact hs.fresh) | (rw [usesL_c (by omega) (by omega) he_x55]; exact hs.fresh)
            · skip
              refine pop_field fld42_2 ?_
              refine qop_blk (v := .int .i64 ((x).a)) ty3 hs.p1.hb rfl ?_
              obtain ⟨e_x55, he_x55⟩ := gx (of) (i := ((x).a).toNat) (by omega)
              refine pop_idx sl45 hO (by omega) he_x55 (fun q_x55 h_x55 => ?_)
              refine qop_at ty3 (h_x55.ext hs.chg) ?_
              refine pop_field fld42_2 ?_
              refine uop_blk hs.p1 ty3 (leb rfl) (rfl) (fun w9 hs => ?_)
              replace hs := hs.enc (cs' := Flat.enc ({ x with a := e_x55 } : TEvent)) rfl
              intro dd6
              refine pop_field fld42_2 ?_
              refine qop_blk (v := .int .i64 ((({ x with a := e_x55 } : TEvent)).a)) ty3 hs.hb rfl ?_
              refine pop (bld229_0_1_2 _  _  _ ) ?_
              refine eop_build ([(⟨2, (({ x with a := e_x55 } : TEvent)).a, true⟩ : TUse)]) hs sl225 rfl rfl (leb rfl) (fun s_x62 w17 hs => ?_)
              have hr_x63 := (hs).rd'
              refine eop_append hs.p2 sl225 hr_x63 (by simp <;> omega) (by decide) (fun s_x63 w18 hs => ?_)
              replace hs := hs.p1.drop
              intro dd7
              replace hs := (hs.p1).drop
              first | (exfalso; omega) | (rw [usesL_a (by omega)]; exact hs.fresh) | (rw [usesL_d (by omega)]; exact hs.fresh) | (rw [usesL_e (by omega)]; exact hs.fresh) | (rw [usesL_f (by omega)]; exact hs.fresh) | (rw [usesL_g (by omega)]; exact hs.fresh) | (rw [usesL_b (by omega) (by omega)]; exact hs.fresh) | (rw [usesL_c (by omega) (by omega) he_x55]; exact hs.fresh)
        · skip
          refine pop_eql ?_
          refine cond_d (fun c_x17 => ?_) (fun c_x17 => ?_)
          · skip
            intro dd6
            refine pop_field fld42_2 ?_
            refine qop_blk (v := .int .i64 ((x).a)) ty3 hs.hb rfl ?_
            refine pop (bld229_0_1_2 _  _  _ ) ?_
            refine eop_build ([(⟨2, (x).a, true⟩ : TUse)]) hs sl225 rfl rfl (leb rfl) (fun s_x62 w17 hs => ?_)
            replace hs := hs.ownNil (α := TUse)
            have hr_x63 := (hs.p1).rd'
            refine eop_append hs sl225 hr_x63 (by simp <;> omega) (by decide) (fun s_x63 w18 hs => ?_)
            replace hs := hs.p1.drop
            intro dd7
            replace hs := (hs.p1).drop
            first | (exfalso; omega) | (rw [usesL_a (by omega)]; exact hs.fresh) | (rw [usesL_d (by omega)]; exact hs.fresh) | (rw [usesL_e (by omega)]; exact hs.fresh) | (rw [usesL_f (by omega)]; exact hs.fresh) | (rw [usesL_g (by omega)]; exact hs.fresh) | (rw [usesL_b (by omega) (by omega)]; exact hs.fresh) | (rw [usesL_c (by omega) (by omega) he_x55]; exact hs.fresh)
          · skip
            refine ⟨fun jv w' => jv = .bool (decide (x.kind = 10 ∨ x.kind = 11)) ∧ w1 = w', ?_, ?_⟩
            · skip
              refine pop_eql ?_
              refine cond_d (fun c_x19 => ?_) (fun c_x19 => ?_)
              · skip
                exact ⟨jvD (by omega), rfl⟩
              · skip
                refine pop_eql ?_
                exact ⟨jvD (by omega), rfl⟩
            · skip
              rintro _ w10 ⟨rfl, hw⟩ dd4
              subst hw
              refine cond_d (fun c_x18 => ?_) (fun c_x18 => ?_)
              · skip
                refine pop_field fld42_2 ?_
                refine qop_blk (v := .int .i64 ((x).a)) ty3 hs.hb rfl ?_
                refine pop (bld229_0_1_2 _  _  _ ) ?_
                refine eop_build (([⟨3, x.a, true⟩] : List TUse)) hs sl225 rfl rfl (leb rfl) (fun s_x68 w11 hs => ?_)
                replace hs := hs.ownNil (α := TUse)
                have hr_x69 := (hs.p1).rd'
                refine eop_append hs sl225 hr_x69 (by simp <;> omega) (by decide) (fun s_x69 w12 hs => ?_)
                replace hs := hs.p1.drop
                intro dd7
                replace hs := (hs.p1).drop
                first | (exfalso; omega) | (rw [usesL_a (by omega)]; exact hs.fresh) | (rw [usesL_d (by omega)]; exact hs.fresh) | (rw [usesL_e (by omega)]; exact hs.fresh) | (rw [usesL_f (by omega)]; exact hs.fresh) | (rw [usesL_g (by omega)]; exact hs.fresh) | (rw [usesL_b (by omega) (by omega)]; exact hs.fresh) | (rw [usesL_c (by omega) (by omega) he_x55]; exact hs.fresh)
              · skip
                refine ⟨fun jv w' => jv = .bool (decide (x.kind = 15 ∨ x.kind = 16)) ∧ w1 = w', ?_, ?_⟩
                · skip
                  refine pop_eql ?_
                  refine cond_d (fun c_x22 => ?_) (fun c_x22 => ?_)
                  · skip
                    exact ⟨jvD (by omega), rfl⟩
                  · skip
                    refine pop_eql ?_
                    exact ⟨jvD (by omega), rfl⟩
                · skip
                  rintro _ w13 ⟨rfl, hw⟩ dd5
                  subst hw
                  refine cond_d (fun c_x21 => ?_) (fun c_x21 => ?_)
                  · skip
                    refine pop (bld229_0_2 _  _ ) ?_
                    refine eop_build (([⟨4, 0, true⟩] : List TUse)) hs sl225 rfl rfl (leb rfl) (fun s_x72 w14 hs => ?_)
                    replace hs := hs.ownNil (α := TUse)
                    have hr_x73 := (hs.p1).rd'
                    refine eop_append hs sl225 hr_x73 (by simp <;> omega) (by decide) (fun s_x73 w15 hs => ?_)
                    replace hs := hs.p1.drop
                    intro dd7
                    replace hs := (hs.p1).drop
                    first | (exfalso; omega) | (rw [usesL_a (by omega)]; exact hs.fresh) | (rw [usesL_d (by omega)]; exact hs.fresh) | (rw [usesL_e (by omega)]; exact hs.fresh) | (rw [usesL_f (by omega)]; exact hs.fresh) | (rw [usesL_g (by omega)]; exact hs.fresh) | (rw [usesL_b (by omega) (by omega)]; exact hs.fresh) | (rw [usesL_c (by omega) (by omega) he_x55]; exact hs.fresh)
                  · skip
                    intro dd7
                    replace hs := hs.ownNil (α := TUse)
                    first | (exfalso; omega) | (rw [usesL_a (by omega)]; exact hs.fresh) | (rw [usesL_d (by omega)]; exact hs.fresh) | (rw [usesL_e (by omega)]; exact hs.fresh) | (rw [usesL_f (by omega)]; exact hs.fresh) | (rw [usesL_g (by omega)]; exact hs.fresh) | (rw [usesL_b (by omega) (by omega)]; exact hs.fresh) | (rw [usesL_c (by omega) (by omega) he_x55]; exact hs.fresh)

theorem C134 (x : TEvent) (ov : Value) (of : List Int) (stays : Int) (w : World) (hO : RdL (fun _ => True) w ov of) : Calls Tryz.prog 134 [Flat.val x, ov, .int .i64 stays].toArray w (Ret fun v w' => New (ownL v (usesL x of stays)) w w') := by
  have hs := St.start w
  refine S134_ok _ _ _ _ _ ?_
  unfold S134
  refine eop_boxV hs (fun b_v3 w1 hs => ?_)
  refine pop_field fld42_0 ?_
  refine qop_blk (v := .int .i64 ((x).kind)) ty3 hs.hb rfl ?_
  refine ⟨fun jv w' => jv = .bool (decide (x.kind = 1 ∨ x.kind = 9)) ∧ w1 = w', ?_, ?_⟩
  · skip
    refine pop_eql ?_
    refine cond_d (fun c_x11 => ?_) (fun c_x11 => ?_)
    · skip
      exact ⟨jvD (by omega), rfl⟩
    · skip
      refine pop_eql ?_
      exact ⟨jvD (by omega), rfl⟩
  · skip
    rintro _ w2 ⟨rfl, hw⟩ dd1
    subst hw
    refine cond_d (fun c_x10 => ?_) (fun c_x10 => ?_)
    · skip
      refine pop_field fld42_2 ?_
      refine qop_blk (v := .int .i64 ((x).a)) ty3 hs.hb rfl ?_
      refine pop (bld229_0_1 _  _ ) ?_
      refine eop_build (([⟨1, x.a, false⟩] : List TUse)) hs sl225 rfl rfl (leb rfl) (fun s_x16 w3 hs => ?_)
      replace hs := (hs.p1).drop
      first | (exfalso; omega) | (rw [usesL_a (by omega)]; exact hs.fresh) | (rw [usesL_d (by omega)]; exact hs.fresh) | (rw [usesL_e (by omega)]; exact hs.fresh) | (rw [usesL_f (by omega)]; exact hs.fresh) | (rw [usesL_g (by omega)]; exact hs.fresh) | (rw [usesL_b (by omega) (by omega)]; exact hs.fresh) | (rw [usesL_c (by omega) (by omega) he_x44]; exact hs.fresh)
    · skip
      refine ⟨fun jv w' => jv = .bool (decide (x.kind = 8 ∨ x.kind = 12)) ∧ w1 = w', ?_, ?_⟩
      · skip
        refine pop_eql ?_
        refine cond_d (fun c_x18 => ?_) (fun c_x18 => ?_)
        · skip
          exact ⟨jvD (by omega), rfl⟩
        · skip
          refine pop_eql ?_
          exact ⟨jvD (by omega), rfl⟩
      · skip
        rintro _ w4 ⟨rfl, hw⟩ dd2
        subst hw
        refine cond_d (fun c_x17 => ?_) (fun c_x17 => ?_)
        · skip
          refine pop_field fld42_2 ?_
          refine qop_blk (v := .int .i64 ((x).a)) ty3 hs.hb rfl ?_
          refine pop (bld229_0_1_2 _  _  _ ) ?_
          refine eop_build (([⟨1, x.a, true⟩] : List TUse)) hs sl225 rfl rfl (leb rfl) (fun s_x23 w5 hs => ?_)
          refine ⟨_, ?_, fun _ _ h => h⟩
          refine ⟨fun jv w' => jv = .bool (decide (0 ≤ x.a ∧ x.a < stays ∧ x.a < (of.length : Int))) ∧ w5 = w', ?_, ?_⟩
          · skip
            refine pop_field fld42_2 ?_
            refine qop_blk (v := .int .i64 ((x).a)) ty3 hs.p1.hb rfl ?_
            refine pop_geq ?_
            refine cond_d (fun c_x26 => ?_) (fun c_x26 => ?_)
            · skip
              refine pop_field fld42_2 ?_
              refine qop_blk (v := .int .i64 ((x).a)) ty3 hs.p1.hb rfl ?_
              refine pop_lss ?_
              refine cond_d (fun c_x31 => ?_) (fun c_x31 => ?_)
              · skip
                refine pop_field fld42_2 ?_
                refine qop_blk (v := .int .i64 ((x).a)) ty3 hs.p1.hb rfl ?_
                refine pop_len sl45 (hO.ext hs.chg) ?_
                refine pop_lss ?_
                exact ⟨jvD (by omega), rfl⟩
              · skip
                exact ⟨jvF (by omega), rfl⟩
            · skip
              exact ⟨jvF (by omega), rfl⟩
          · skip
            rintro _ w6 ⟨rfl, hw⟩ dd3
            subst hw
            refine cond_d (fun c_x39 => ?_) (fun c_x39 => ?_)
            · skip
              refine pop_field fld42_2 ?_
              refine qop_blk (v := .int .i64 ((x).a)) ty3 hs.p1.hb rfl ?_
              obtain ⟨e_x44, he_x44⟩ := gx (of) (i := ((x).a).toNat) (by omega)
              refine pop_idx sl45 hO (by omega) he_x44 (fun q_x44 h_x44 => ?_)
              refine qop_at ty3 (h_x44.ext hs.chg) ?_
              refine pop (bld229_0_1_2 _  _  _ ) ?_
              refine eop_build ([(⟨2, e_x44, true⟩ : TUse)]) hs sl225 rfl rfl (leb rfl) (fun s_x47 w7 hs => ?_)
              have hr_x48 := (hs).rd'
              refine eop_append hs.p1 sl225 hr_x48 (by simp <;> omega) (by decide) (fun s_x48 w8 hs => ?_)
              replace hs := hs.p1.drop
              intro dd4
              replace hs := (hs.p1).drop
              first | (exfalso; omega) | (rw [usesL_a (by omega)]; exact hs.fresh) | (rw [usesL_d (by omega)]; exact hs.fresh) | (rw [usesL_e (by omega)]; exact hs.fresh) | (rw [usesL_f (by omega)]; exact hs.fresh) | (rw [usesL_g (by omega)]; exact hs.fresh) | (rw [usesL_b (by omega) (by omega)]; exact hs.fresh) | (rw [usesL_c (by omega) (by omega) he_x44]; exact hs.fresh)
            · skip
              intro dd4
              replace hs := (hs.p1).drop
              first | (exfalso; omega) | (rw [usesL_a (by omega)]; exact hs.fresh) | (rw [usesL_d (by omega)]; exact hs.fresh) | (rw [usesL_e (by omega)]; exact hs.fresh) | (rw [usesL_f (by omega)]; exact hs.fresh) | (rw [usesL_g (by omega)]; exact hs.fresh) | (rw [usesL_b (by omega) (by omega)]; exact hs.fresh) | (rw [usesL_c (by omega) (by omega) he_x44]; exact hs.fresh)
        · skip
          refine pop_eql ?_
          refine cond_d (fun c_x51 => ?_) (fun c_x51 => ?_)
          · skip
            refine pop_field fld42_2 ?_
            refine qop_blk (v := .int .i64 ((x).a)) ty3 hs.hb rfl ?_
            refine pop (bld229_0_1_2 _  _  _ ) ?_
            refine eop_build (([⟨2, x.a, true⟩] : List TUse)) hs sl225 rfl rfl (leb rfl) (fun s_x55 w10 hs => ?_)
            replace hs := (hs.p1).drop
            first | (exfalso; omega) | (rw [usesL_a (by omega)]; exact hs.fresh) | (rw [usesL_d (by omega)]; exact hs.fresh) | (rw [usesL_e (by omega)]; exact hs.fresh) | (rw [usesL_f (by omega)]; exact hs.fresh) | (rw [usesL_g (by omega)]; exact hs.fresh) | (rw [usesL_b (by omega) (by omega)]; exact hs.fresh) | (rw [usesL_c (by omega) (by omega) he_x44]; exact hs.fresh)
          · skip
            refine ⟨fun jv w' => jv = .bool (decide (x.kind = 10 ∨ x.kind = 11)) ∧ w1 = w', ?_, ?_⟩
            · skip
              refine pop_eql ?_
              refine cond_d (fun c_x57 => ?_) (fun c_x57 => ?_)
              · skip
                exact ⟨jvD (by omega), rfl⟩
              · skip
                refine pop_eql ?_
                exact ⟨jvD (by omega), rfl⟩
            · skip
              rintro _ w11 ⟨rfl, hw⟩ dd5
              subst hw
              refine cond_d (fun c_x56 => ?_) (fun c_x56 => ?_)
              · skip
                refine pop_field fld42_2 ?_
                refine qop_blk (v := .int .i64 ((x).a)) ty3 hs.hb rfl ?_
                refine pop (bld229_0_1_2 _  _  _ ) ?_
                refine eop_build (([⟨3, x.a, true⟩] : List TUse)) hs sl225 rfl rfl (leb rfl) (fun s_x62 w12 hs => ?_)
                replace hs := (hs.p1).drop
                first | (exfalso; omega) | (rw [usesL_a (by omega)]; exact hs.fresh) | (rw [usesL_d (by omega)]; exact hs.fresh) | (rw [usesL_e (by omega)]; exact hs.fresh) | (rw [usesL_f (by omega)]; exact hs.fresh) | (rw [usesL_g (by omega)]; exact hs.fresh) | (rw [usesL_b (by omega) (by omega)]; exact hs.fresh) | (rw [usesL_c (by omega) (by omega) he_x44]; exact hs.fresh)
              · skip
                refine ⟨fun jv w' => jv = .bool (decide (x.kind = 15 ∨ x.kind = 16)) ∧ w1 = w', ?_, ?_⟩
                · skip
                  refine pop_eql ?_
                  refine cond_d (fun c_x64 => ?_) (fun c_x64 => ?_)
                  · skip
                    exact ⟨jvD (by omega), rfl⟩
                  · skip
                    refine pop_eql ?_
                    exact ⟨jvD (by omega), rfl⟩
                · skip
                  rintro _ w13 ⟨rfl, hw⟩ dd6
                  subst hw
                  refine cond_d (fun c_x63 => ?_) (fun c_x63 => ?_)
                  · skip
                    refine pop (bld229_0_2 _  _ ) ?_
                    refine eop_build (([⟨4, 0, true⟩] : List TUse)) hs sl225 rfl rfl (leb rfl) (fun s_x67 w14 hs => ?_)
                    replace hs := (hs.p1).drop
                    first | (exfalso; omega) | (rw [usesL_a (by omega)]; exact hs.fresh) | (rw [usesL_d (by omega)]; exact hs.fresh) | (rw [usesL_e (by omega)]; exact hs.fresh) | (rw [usesL_f (by omega)]; exact hs.fresh) | (rw [usesL_g (by omega)]; exact hs.fresh) | (rw [usesL_b (by omega) (by omega)]; exact hs.fresh) | (rw [usesL_c (by omega) (by omega) he_x44]; exact hs.fresh)
                  · skip
                    replace hs := hs.ownNil (α := TUse)
                    first | (exfalso; omega) | (rw [usesL_a (by omega)]; exact hs.fresh) | (rw [usesL_d (by omega)]; exact hs.fresh) | (rw [usesL_e (by omega)]; exact hs.fresh) | (rw [usesL_f (by omega)]; exact hs.fresh) | (rw [usesL_g (by omega)]; exact hs.fresh) | (rw [usesL_b (by omega) (by omega)]; exact hs.fresh) | (rw [usesL_c (by omega) (by omega) he_x44]; exact hs.fresh)

theorem C198 (sv fv : Value) (xs : List TUse) (g : TUse → Bool) (w : World) (hL : RdL (fun _ => True) w sv xs) (hf : FnOn w fv g) (hn : xs.length ≤ 1073741824) : Calls Tryz.prog 198 [sv, fv].toArray w (Ret fun v w' => v = .int .i64 (idxF g xs) ∧ Ext w w') := by
  obtain ⟨g0, first, cap, rfl, hpl, hcall⟩ := hf
  have hs := St.start w
  refine S198_ok _ _ _ _ ?_
  unfold S198
  refine pop_len sl225 (hL.ext hs.chg) ?_
  refine ⟨fun m x w1 => ∃ k : Nat, x = .int .i64 (k : Int) ∧ m = xs.length - k ∧ k ≤ xs.length ∧ (∀ y ∈ xs.take k, g y = false) ∧ St w none1 [] w1, ⟨_, 0, rfl, rfl, Nat.zero_le _, by simp, hs⟩, ?_⟩
  rintro m _ w1 ⟨k, rfl, rfl, hk, hno, hs⟩ dd1
  refine pop_lss ?_
  refine cond_d (fun c_x9 => ?_) (fun c_x9 => ?_)
  · skip
    obtain ⟨e_x14, he_x14⟩ := gx (xs) (i := ((k : Int)).toNat) (by omega)
    refine pop_idx sl225 hL (by omega) he_x14 (fun q_x14 h_x14 => ?_)
    refine qop_at ty229 (h_x14.ext hs.chg) ?_
    refine callV hpl (hcall e_x14 w1 hs.chg) ?_
    rintro _ w2 ⟨rfl, he⟩
    replace hs := hs.ext he
    refine cond_b (fun c_x16 => ?_) (fun c_x16 => ?_)
    · skip
      exact ⟨congrArg (Value.int .i64) (idxF_at hno he_x14 c_x16).symm, hs.chg⟩
    · skip
      refine pop_add (by omega) ?_
      exact ⟨xs.length - (k + 1), by omega, k + 1, rfl, rfl, by omega, take_all hno he_x14 c_x16, hs⟩
  · skip
    exact ⟨congrArg (Value.int .i64) (idxF_none (by rw [List.take_of_length_le (by omega)] at hno; exact hno)).symm, hs.chg⟩

theorem C130 (sv fv : Value) (xs : List TUse) (g : TUse → Bool) (w : World) (hL : RdL (fun _ => True) w sv xs) (hf : FnOn w fv g) (hn : xs.length ≤ 1073741824) : Calls Tryz.prog 130 [sv, fv].toArray w (Ret fun v w' => v = .bool (xs.any g) ∧ Ext w w') := by
  have hs := St.start w
  refine S130_ok _ _ _ _ ?_
  unfold S130
  refine callP pl198 hs (C198 _ _ _ _ _ (hL.ext hs.chg) (hf.ext hs.chg) (by omega)) (fun w1 he hs => ?_)
  refine pop_geq ?_
  exact ⟨congrArg Value.bool (idxF_any _ _), hs.chg⟩

theorem C132 (x y : TUse) (b2 : Nat) (w : World) (h2 : At (fun _ => True) w (.pointer (some ⟨b2, 0, none⟩)) x) : Calls Tryz.prog 132 [Flat.val y, .pointer (some ⟨b2, 0, none⟩)].toArray w (Ret fun v w' => v = .bool (clash x y) ∧ Ext w w') := by
  have hs := St.start w
  refine S132_ok _ _ _ _ ?_
  unfold S132
  refine eop_boxV hs (fun b_y2 w1 hs => ?_)
  refine qop_at ty229 (h2.ext hs.chg) ?_
  refine qop_at ty229 hs.At ?_
  refine callP pl133 hs (C133 x y _) (fun w2 he hs => ?_)
  exact ⟨rfl, hs.chg⟩

theorem C131 (x : TUse) (b2 : Nat) (sv : Value) (ys : List TUse) (w : World) (h2 : Cell w b2 0 sv) (hL : RdL (fun _ => True) w sv ys) (hn : ys.length ≤ 1073741824) : Calls Tryz.prog 131 [Flat.val x, .pointer (some ⟨b2, 0, none⟩)].toArray w (Ret fun v w' => v = .bool (ys.any (clash x)) ∧ Ext w w') := by
  have hs := St.start w
  refine S131_ok _ _ _ _ ?_
  unfold S131
  refine eop_boxV hs (fun b_x2 w1 hs => ?_)
  refine qop_cell ty225 (h2.ext hs.chg) ?_
  have hfn : FnOn _ (.func (.func 132) [].toArray [.pointer (some ⟨b_x2, 0, none⟩)].toArray) (clash x) :=
    ⟨132, [], _, rfl, pl132, fun y w1 e1 => C132 x y b_x2 w1 (hs.At.ext e1)⟩
  refine callP pl130 hs (C130 _ _ _ _ _ (hL.ext hs.chg) hfn (by omega)) (fun w2 he hs => ?_)
  exact ⟨rfl, hs.chg⟩

theorem C69 (a b : TEvent) (ov : Value) (of : List Int) (stays : Int) (w : World) (hO : RdL (fun _ => True) w ov of) : Calls Tryz.prog 69 [Flat.val a, Flat.val b, ov, .int .i64 stays].toArray w (Ret fun v w' => v = .bool (depB of stays a b) ∧ Ext w w') := by
  have hs := St.start w
  refine S69_ok _ _ _ _ _ _ ?_
  unfold S69
  refine eop_boxV hs (fun b_a4 w1 hs => ?_)
  refine eop_boxV hs (fun b_b5 w2 hs => ?_)
  refine ⟨fun x w' => x = .bool (decide (a.t = b.t ∨ a.kind = 15 ∨ a.kind = 16 ∨ b.kind = 15 ∨ b.kind = 16)) ∧ St w none1 [blk b_b5 (Flat.enc b), blk b_a4 (Flat.enc a)] w', ?_, ?_⟩
  · skip
    refine pop_field fld42_1 ?_
    refine qop_blk (v := .int .i64 ((a).t)) ty3 hs.p1.hb rfl ?_
    refine pop_field fld42_1 ?_
    refine qop_blk (v := .int .i64 ((b).t)) ty3 hs.hb rfl ?_
    refine pop_eql ?_
    refine cond_d (fun c_x14 => ?_) (fun c_x14 => ?_)
    · skip
      exact ⟨congrArg Value.bool (by first | exact (decide_eq_true (by omega)).symm | exact (decide_eq_false (by omega)).symm | exact decide_eq_decide.2 (by omega)), hs⟩
    · skip
      refine qop_at ty42 hs.p1.At ?_
      refine callP pl128 hs (C128 a _) (fun w3 he hs => ?_)
      refine cond_d (fun c_x17 => ?_) (fun c_x17 => ?_)
      · skip
        exact ⟨congrArg Value.bool (by first | exact (decide_eq_true (by omega)).symm | exact (decide_eq_false (by omega)).symm | exact decide_eq_decide.2 (by omega)), hs⟩
      · skip
        refine qop_at ty42 hs.At ?_
        refine callP pl128 hs (C128 b _) (fun w4 he hs => ?_)
        exact ⟨congrArg Value.bool (by first | exact (decide_eq_true (by omega)).symm | exact (decide_eq_false (by omega)).symm | exact decide_eq_decide.2 (by omega)), hs⟩
  · skip
    rintro _ w5 ⟨rfl, hs⟩ dd1
    refine cond_d (fun c_x22 => ?_) (fun c_x22 => ?_)
    · skip
      exact ⟨congrArg Value.bool (depB_y c_x22).symm, hs.chg⟩
    · skip
      refine qop_at ty42 hs.At ?_
      refine callN pl129 hs (C129 b _ _ _ _ (hO.ext hs.chg)) (fun x26 w6 hnew hs => ?_)
      refine eop_alloc1  hs zero225 rfl (fun b_theirs9 w7 hs => ?_)
      refine uop_blk hs ty225 (leb rfl) ((hs.p1).rd'.one) (fun w8 hs => ?_)
      refine qop_at ty42 hs.p3.At ?_
      refine callN pl129 hs (C129 a _ _ _ _ (hO.ext hs.chg)) (fun x30 w9 hnew hs => ?_)
      have hul := usesL_len (v := a) (of := of) (s := stays)
      have hul2 := usesL_len (v := b) (of := of) (s := stays)
      have hfn : FnOn _ (.func (.func 131) [].toArray [.pointer (some ⟨b_theirs9, 0, none⟩)].toArray) (fun x => (usesL b of stays).any (clash x)) :=
        ⟨131, [], _, rfl, pl131, fun y w1 e1 => C131 y b_theirs9 x26 (usesL b of stays) w1 ((hs.p1.hb.cell rfl).ext e1) (hs.p2.rd'.ext e1) (by omega)⟩
      refine callP pl130 hs (C130 _ _ _ _ _ (hs).rd' hfn (by omega)) (fun w10 he hs => ?_)
      rw [depB_n c_x22]
      exact ⟨rfl, hs.chg⟩

theorem C70 (a b : TEvent) (ov : Value) (of : List Int) (stays : Int) (w : World) (hO : RdL (fun _ => True) w ov of) : Calls Tryz.prog 70 [Flat.val a, Flat.val b, ov, .int .i64 stays].toArray w (Ret fun v w' => v = .bool (depB of stays a b) ∧ Ext w w') := by
  have hs := St.start w
  refine S70_ok _ _ _ _ _ _ ?_
  unfold S70
  refine eop_boxV hs (fun b_a4 w1 hs => ?_)
  refine eop_boxV hs (fun b_b5 w2 hs => ?_)
  refine ⟨fun x w' => x = .bool (decide (a.t = b.t ∨ a.kind = 15 ∨ a.kind = 16 ∨ b.kind = 15 ∨ b.kind = 16)) ∧ St w none1 [blk b_b5 (Flat.enc b), blk b_a4 (Flat.enc a)] w', ?_, ?_⟩
  · skip
    refine pop_field fld42_1 ?_
    refine qop_blk (v := .int .i64 ((a).t)) ty3 hs.p1.hb rfl ?_
    refine pop_field fld42_1 ?_
    refine qop_blk (v := .int .i64 ((b).t)) ty3 hs.hb rfl ?_
    refine pop_eql ?_
    refine cond_d (fun c_x17 => ?_) (fun c_x17 => ?_)
    · skip
      exact ⟨congrArg Value.bool (by first | exact (decide_eq_true (by omega)).symm | exact (decide_eq_false (by omega)).symm | exact decide_eq_decide.2 (by omega)), hs⟩
    · skip
      refine pop_field fld42_0 ?_
      refine qop_blk (v := .int .i64 ((a).kind)) ty3 hs.p1.hb rfl ?_
      refine pop_geq ?_
      refine cond_d (fun c_x21 => ?_) (fun c_x21 => ?_)
      · skip
        refine pop_field fld42_0 ?_
        refine qop_blk (v := .int .i64 ((a).kind)) ty3 hs.p1.hb rfl ?_
        refine pop_leq ?_
        refine cond_d (fun c_x25 => ?_) (fun c_x25 => ?_)
        · skip
          exact ⟨congrArg Value.bool (by first | exact (decide_eq_true (by omega)).symm | exact (decide_eq_false (by omega)).symm | exact decide_eq_decide.2 (by omega)), hs⟩
        · skip
          refine pop_field fld42_0 ?_
          refine qop_blk (v := .int .i64 ((b).kind)) ty3 hs.hb rfl ?_
          refine pop_geq ?_
          refine cond_d (fun c_x31 => ?_) (fun c_x31 => ?_)
          · skip
            refine pop_field fld42_0 ?_
            refine qop_blk (v := .int .i64 ((b).kind)) ty3 hs.hb rfl ?_
            refine pop_leq ?_
            exact ⟨congrArg Value.bool (by first | exact (decide_eq_true (by omega)).symm | exact (decide_eq_false (by omega)).symm | exact decide_eq_decide.2 (by omega)), hs⟩
          · skip
            exact ⟨congrArg Value.bool (by first | exact (decide_eq_true (by omega)).symm | exact (decide_eq_false (by omega)).symm | exact decide_eq_decide.2 (by omega)), hs⟩
      · skip
        refine pop_field fld42_0 ?_
        refine qop_blk (v := .int .i64 ((b).kind)) ty3 hs.hb rfl ?_
        refine pop_geq ?_
        refine cond_d (fun c_x31_1 => ?_) (fun c_x31_1 => ?_)
        · skip
          refine pop_field fld42_0 ?_
          refine qop_blk (v := .int .i64 ((b).kind)) ty3 hs.hb rfl ?_
          refine pop_leq ?_
          exact ⟨congrArg Value.bool (by first | exact (decide_eq_true (by omega)).symm | exact (decide_eq_false (by omega)).symm | exact decide_eq_decide.2 (by omega)), hs⟩
        · skip
          exact ⟨congrArg Value.bool (by first | exact (decide_eq_true (by omega)).symm | exact (decide_eq_false (by omega)).symm | exact decide_eq_decide.2 (by omega)), hs⟩
  · skip
    rintro _ w3 ⟨rfl, hs⟩ dd1
    refine cond_d (fun c_x37 => ?_) (fun c_x37 => ?_)
    · skip
      exact ⟨congrArg Value.bool (depB_y c_x37).symm, hs.chg⟩
    · skip
      replace hs := hs.drew
      refine qop_at ty42 hs.p1.At ?_
      refine qop_at ty42 hs.At ?_
      refine callN pl134 hs (C134 a _ _ _ _ (hO.ext hs.chg)) (fun x41 w4 hnew hs => ?_)
      refine ⟨run_at ty42 hs.p1.At, ?_⟩
      refine callN pl134 hs (C134 b _ _ _ _ (hO.ext hs.chg)) (fun x45 w5 hnew hs => ?_)
      replace hs := (hs.p2).drop
      replace hs := (hs.p2).drop
      replace hs := hs.p1
      replace hs := hs.p1
      refine ⟨fun m x w1 => ∃ i : Nat, x = .int .i64 (i : Int) ∧ m = (usesL a of stays).length - i ∧ i ≤ (usesL a of stays).length ∧ (∀ x ∈ (usesL a of stays).take i, (usesL b of stays).any (clash x) = false) ∧ St w none1 [ownL x45 (usesL b of stays), ownL x41 (usesL a of stays)] w1, ⟨_, 0, rfl, rfl, by omega, by simp, hs⟩, ?_⟩
      rintro m _ w6 ⟨i, rfl, rfl, hi, hno, hs⟩ dd2
      have hul := usesL_len (v := a) (of := of) (s := stays)
      refine pop_len sl225 (hs.p1).rd' ?_
      refine pop_lss ?_
      refine cond_d (fun c_x49 => ?_) (fun c_x49 => ?_)
      · skip
        refine ⟨fun m x w1 => ∃ k : Nat, x = .int .i64 (k : Int) ∧ m = (usesL b of stays).length - k ∧ k ≤ (usesL b of stays).length ∧ (∀ y ∈ (usesL b of stays).take k, clash ((usesL a of stays)[i]'(by omega)) y = false) ∧ St w none1 [ownL x45 (usesL b of stays), ownL x41 (usesL a of stays)] w1, ⟨_, 0, rfl, rfl, by omega, by simp, hs⟩, ?_⟩
        rintro m _ w7 ⟨k, rfl, rfl, hk, hno2, hs⟩ dd3
        have hul2 := usesL_len (v := b) (of := of) (s := stays)
        refine pop_len sl225 (hs).rd' ?_
        refine pop_lss ?_
        refine cond_d (fun c_x55 => ?_) (fun c_x55 => ?_)
        · skip
          obtain ⟨e_x60, he_x60⟩ := gx ((usesL a of stays)) (i := ((i : Int)).toNat) (by omega)
          refine pop_own hs.p1 sl225 (by omega) (by omega) (fun q_x60 h_x60 => ?_)
          replace hs := hs.drew
          refine qop_own hs.p1 ty229 h_x60 he_x60 ?_
          obtain ⟨e_x64, he_x64⟩ := gx ((usesL b of stays)) (i := ((k : Int)).toNat) (by omega)
          refine pop_own hs sl225 (by omega) (by omega) (fun q_x64 h_x64 => ?_)
          refine qop_own hs ty229 h_x64 he_x64 ?_
          refine callP pl135 hs (C135 e_x60 e_x64 _) (fun w8 he hs => ?_)
          refine cond_b (fun c_x66 => ?_) (fun c_x66 => ?_)
          · skip
            rw [depB_n c_x37]
            exact ⟨congrArg Value.bool (any_at (g := fun x => (usesL b of stays).any (clash x)) he_x60 (any_at he_x64 c_x66)).symm, hs.chg⟩
          · skip
            refine pop_add (by omega) ?_
            exact ⟨_, by omega, k + 1, rfl, rfl, by omega, take_all hno2 he_x64 (by rw [show (usesL a of stays)[i]'(by omega) = e_x60 from (List.getElem?_eq_some_iff.1 he_x60).2]; exact c_x66), hs⟩
        · skip
          refine pop_add (by omega) ?_
          exact ⟨_, by omega, i + 1, rfl, rfl, by omega, take_all hno (List.getElem?_eq_getElem (by omega)) (any_no (by rw [List.take_of_length_le (by omega)] at hno2; exact hno2)), hs⟩
      · skip
        rw [depB_n c_x37]
        exact ⟨congrArg Value.bool (any_no (g := fun x => (usesL b of stays).any (clash x)) (by rw [List.take_of_length_le (by omega)] at hno; exact hno)).symm, hs.chg⟩

end Go.Proofs.YtddeoncipdpkfaaGreatDoor
