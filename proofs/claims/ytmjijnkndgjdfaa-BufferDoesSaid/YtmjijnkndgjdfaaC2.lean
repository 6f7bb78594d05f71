/-
  The methods of a buffer that read it, and what they call.
-/
import Derived.Test.YtmjijnkndgjdfaaC1
import Derived.Test.YtmjijnkndgjdfaaFw11
namespace Go.Proofs.Ytmjijnkndgjdfaa
open Go.Fw

/-- An entry i can leave. -/
def canB (l : List Entry) (i : Int) : Bool := decide (0 ≤ i ∧ i < l.length) && (match l[i.toNat]? with | some x => (l.take i.toNat).all (passes x) | none => false)
/-- Those that can. -/
def cansL (l : List Entry) : List Int := ((List.range l.length).map fun (k : Nat) => (k : Int)).filter (canB l)
theorem canB_out {l : List Entry} {i : Int} (h : i < 0 ∨ (l.length : Int) ≤ i) : canB l i = false := by
  unfold canB
  have : decide (0 ≤ i ∧ i < l.length) = false := by rw [decide_eq_false_iff_not]; omega
  rw [this]; rfl
theorem canB_in {l : List Entry} {i : Int} {x : Entry} (h0 : 0 ≤ i) (h1 : i < l.length) (hx : l[i.toNat]? = some x) : canB l i = !(l.take i.toNat).any fun y => !passes x y := by
  unfold canB
  rw [hx, decide_eq_true (show 0 ≤ i ∧ i < l.length from ⟨h0, h1⟩)]
  simp [List.all_eq_not_any_not]
/-- Those among the first k that can. -/
def cansTo (l : List Entry) (k : Nat) : List Int := ((List.range k).map fun (k : Nat) => (k : Int)).filter (canB l)
theorem cansTo_le (l : List Entry) (k : Nat) : (cansTo l k).length ≤ k := by
  unfold cansTo
  have := List.length_filter_le (canB l) ((List.range k).map fun (k : Nat) => (k : Int)); simpa using this
theorem cansTo_yes {l : List Entry} {k : Nat} (h : canB l k = true) : cansTo l (k + 1) = cansTo l k ++ [(k : Int)] := by
  unfold cansTo; rw [List.range_succ, List.map_append, List.filter_append]; simp [h]
theorem cansTo_no {l : List Entry} {k : Nat} (h : canB l k = false) : cansTo l (k + 1) = cansTo l k := by
  unfold cansTo; rw [List.range_succ, List.map_append, List.filter_append]; simp [h]
theorem cansTo_all (l : List Entry) {k : Nat} (h : k = l.length) : cansTo l k = cansL l := by subst h; rfl
/-- Where the first one is of which g says yes; -1: nowhere. -/
def idxF {α : Type} (g : α → Bool) (l : List α) : Int := match l.findIdx? g with | some k => k | none => -1
theorem idxF_at {α : Type} {g : α → Bool} {l : List α} {k : Nat} {e : α} (hno : ∀ y ∈ l.take k, g y = false) (he : l[k]? = some e) (hg : g e = true) : idxF g l = k := by
  have : l.findIdx? g = some k := by
    rw [List.findIdx?_eq_some_iff_getElem]
    have hk := (List.getElem?_eq_some_iff.1 he).1
    refine ⟨hk, by rw [(List.getElem?_eq_some_iff.1 he).2]; exact hg, fun j hj => ?_⟩
    have := hno (l[j]'(by omega)) (List.mem_take_iff_getElem.2 ⟨j, by omega, rfl⟩)
    simp [this]
  unfold idxF; rw [this]
theorem idxF_none {α : Type} {g : α → Bool} {l : List α} (hno : ∀ y ∈ l, g y = false) : idxF g l = -1 := by
  have : l.findIdx? g = none := by rw [List.findIdx?_eq_none_iff]; exact hno
  unfold idxF; rw [this]
theorem idxF_any {α : Type} (g : α → Bool) (l : List α) : decide (0 ≤ idxF g l) = l.any g := by
  unfold idxF
  cases h : l.findIdx? g with
  | none =>
    rw [List.findIdx?_eq_none_iff] at h
    have : l.any g = false := by rw [List.any_eq_false]; intro x hx; rw [h x hx]; simp
    rw [this]; rfl
  | some k =>
    have h' := (List.findIdx?_eq_some_iff_getElem.1 h)
    obtain ⟨hk, hg, _⟩ := h'
    have : l.any g = true := List.any_eq_true.2 ⟨_, List.getElem_mem hk, hg⟩
    rw [this]; simp
theorem take_all {α : Type} {φ : α → Prop} {l : List α} {k : Nat} {e : α} (h : ∀ y ∈ l.take k, φ y) (he : l[k]? = some e) (hp : φ e) : ∀ y ∈ l.take (k + 1), φ y := by
  intro y hy
  rw [List.take_add_one, he] at hy
  simp at hy
  rcases hy with hy | rfl
  · exact h y hy
  · exact hp

/-- The function value f answers g of each x, from the world w on, and turns nothing. -/
def FnOn (w : World) (f : Value) (g : Entry → Bool) : Prop := ∃ g0 first cap, f = .func (.func g0) (List.toArray first) (List.toArray cap) ∧ Plain Try.prog g0 ∧
  ∀ x w1, Ext w w1 → Calls Try.prog g0 (first ++ [Flat.val x] ++ cap).toArray w1 (Ret fun v w2 => v = .bool (g x) ∧ Ext w1 w2)
theorem FnOn.ext {w w' : World} {f : Value} {g : Entry → Bool} (h : FnOn w f g) (e : Ext w w') : FnOn w' f g := by
  obtain ⟨g0, first, cap, h1, h2, h3⟩ := h; exact ⟨g0, first, cap, h1, h2, fun x w1 e1 => h3 x w1 (e.trans e1)⟩

/-- A buffer is at p, as far as it is read. -/
def BufR (w : World) (p : Nat) (room : Int) (l : List Entry) : Prop := ∃ sv, Cell w p 0 (.int .i64 room) ∧ Cell w p 1 sv ∧ RdL (fun _ => True) w sv l
/-- A buffer is at p, owned. -/
def bufO (p : Nat) (room : Int) (l : List Entry) : HP := exH fun sv => sep (blk p [.int .i64 room, sv]) (ownL sv l)
theorem BufR.ext {w w' : World} {p : Nat} {room : Int} {l : List Entry} (h : BufR w p room l) (e : Ext w w') : BufR w' p room l := by
  obtain ⟨sv, h1, h2, h3⟩ := h; exact ⟨sv, h1.ext e, h2.ext e, h3.ext e⟩
theorem bufO.rd {w : World} {F : Nat → Prop} {p : Nat} {room : Int} {l : List Entry} (h : (bufO p room l).p w F) : BufR w p room l := by
  obtain ⟨sv, F1, F2, h1, h2, _⟩ := h
  exact ⟨sv, h1.1.cell rfl, h1.1.cell rfl, (ownL.rd h2).mono fun _ _ => trivial⟩
theorem Cell.oneC {w : World} {b o : Nat} {v : Value} {l : List Entry} (h : RdL (fun _ => True) w v l) : Go.Fw.oneC v = true := by obtain ⟨a, c, rfl, _⟩ := h; rfl

theorem C39 (sv fv : Value) (xs : List Entry) (g : Entry → Bool) (w : World) (hL : RdL (fun _ => True) w sv xs) (hf : FnOn w fv g) (hn : xs.length ≤ 1073741824) : Calls Try.prog 39 [sv, fv].toArray w (Ret fun v w' => v = .int .i64 (idxF g xs) ∧ Ext w w') := by
  obtain ⟨g0, first, cap, rfl, hpl, hcall⟩ := hf
  have hs := St.start w
  refine S39_ok _ _ _ _ ?_
  unfold S39
  refine pop_len sl27 (hL.ext hs.chg) ?_
  refine ⟨fun m x w1 => ∃ k : Nat, x = .int .i64 (k : Int) ∧ m = xs.length - k ∧ k ≤ xs.length ∧ (∀ y ∈ xs.take k, g y = false) ∧ St w none1 [] w1, ⟨_, 0, rfl, rfl, Nat.zero_le _, by simp, hs⟩, ?_⟩
  rintro m _ w1 ⟨k, rfl, rfl, hk, hno, hs⟩ dd1
  refine pop_lss ?_
  refine cond_d (fun c_x9 => ?_) (fun c_x9 => ?_)
  · skip
    obtain ⟨e_x14, he_x14⟩ : ∃ x, (xs)[((k : Int)).toNat]? = some x := ⟨_, List.getElem?_eq_getElem (by omega)⟩
    refine pop_idx sl27 (hL.ext hs.chg) (by omega) he_x14 (fun q_x14 h_x14 => ?_)
    refine qop_at ty23 (h_x14) ?_
    refine callV hpl (hcall e_x14 w1 hs.chg) ?_
    rintro _ w2 ⟨rfl, he⟩
    replace hs := hs.ext he
    refine cond_b (fun c_x16 => ?_) (fun c_x16 => ?_)
    · skip
      exact ⟨congrArg (Value.int .i64) (idxF_at hno he_x14 c_x16).symm, hs.chg⟩
    · skip
      refine pop_add (by omega) ?_
      exact ⟨xs.length - (k + 1), by omega, k + 1, rfl, rfl, by omega, take_all hno he_x14 c_x16, hs⟩
  · skip
    exact ⟨congrArg (Value.int .i64) (idxF_none (by rw [List.take_of_length_le (by omega)] at hno; exact hno)).symm, hs.chg⟩

theorem C37 (sv fv : Value) (xs : List Entry) (g : Entry → Bool) (w : World) (hL : RdL (fun _ => True) w sv xs) (hf : FnOn w fv g) (hn : xs.length ≤ 1073741824) : Calls Try.prog 37 [sv, fv].toArray w (Ret fun v w' => v = .bool (xs.any g) ∧ Ext w w') := by
  have hs := St.start w
  refine S37_ok _ _ _ _ ?_
  unfold S37
  refine callF pl39 (C39 _ _ _ _ _ (hL.ext hs.chg) (hf.ext hs.chg) (by omega)) ?_
  rintro _ w1 ⟨rfl, he⟩
  replace hs := hs.ext he
  refine pop_geq ?_
  exact ⟨congrArg Value.bool (idxF_any _ _), hs.chg⟩

theorem C36 (x y : Entry) (p b2 b3 : Nat) (i : Int) (room : Int) (l : List Entry) (w : World) (h2 : Cell w b2 0 (.pointer (some ⟨p, 0, none⟩))) (h3 : Cell w b3 0 (.int .i64 i)) (hb : BufR w p room l) (h0 : 0 ≤ i) (hx : l[i.toNat]? = some x) : Calls Try.prog 36 [Flat.val y, .pointer (some ⟨b2, 0, none⟩), .pointer (some ⟨b3, 0, none⟩)].toArray w (Ret fun v w' => v = .bool (!passes x y) ∧ Ext w w') := by
  obtain ⟨sv, hc0, hc1, hL⟩ := hb
  have hlt := (List.getElem?_eq_some_iff.1 hx).1
  have hs := St.start w
  refine S36_ok _ _ _ _ _ ?_
  unfold S36
  refine eop_boxV hs (fun b_ahead3 w1 hs => ?_)
  replace hs := hs.drew
  refine qop_cell ty29 (h2.ext hs.chg) ?_
  refine pop_nil ?_
  refine pop_field fld60_1 ?_
  refine qop_cell ty27 (hc1.ext hs.chg) ?_
  refine qop_cell ty3 (h3.ext hs.chg) ?_
  refine pop_idx sl27 (hL.ext hs.chg) h0 hx (fun q_x10 h_x10 => ?_)
  refine qop_at ty23 (h_x10) ?_
  refine qop_at ty23 hs.At ?_
  refine callF pl9 (C9 x y _) ?_
  rintro _ w2 ⟨rfl, he⟩
  replace hs := hs.ext he
  refine pop_not ?_
  exact ⟨rfl, hs.chg⟩

theorem C31 (p : Nat) (i : Int) (room : Int) (l : List Entry) (w : World) (hb : BufR w p room l) (hn : l.length ≤ 1073741824) : Calls Try.prog 31 [.pointer (some ⟨p, 0, none⟩), .int .i64 i].toArray w (Ret fun v w' => v = .bool (canB l i) ∧ Ext w w') := by
  have hb0 := hb
  obtain ⟨sv, hc0, hc1, hL⟩ := hb
  have hs := St.start w
  refine S31_ok _ _ _ _ ?_
  unfold S31
  refine eop_box1 hs rfl (fun b_b2 w1 hs => ?_)
  refine eop_box1 hs rfl (fun b_i3 w2 hs => ?_)
  refine ⟨_, ?_, fun _ _ h => h⟩
  replace hs := hs.drew
  refine qop_blk ty3 hs.hb rfl ?_
  refine pop_lss ?_
  refine cond_d (fun c_x7 => ?_) (fun c_x7 => ?_)
  · skip
    intro dd1
    refine cond_t ?_
    exact ⟨congrArg Value.bool (canB_out (by omega)).symm, hs.chg⟩
  · skip
    refine qop_blk ty3 hs.hb rfl ?_
    refine qop_blk ty29 hs.p1.hb rfl ?_
    refine pop_nil ?_
    refine pop_field fld60_1 ?_
    refine qop_cell ty27 (hc1.ext hs.chg) ?_
    refine pop_len sl27 (hL.ext hs.chg) ?_
    refine pop_geq ?_
    intro dd1
    refine cond_d (fun c_x16 => ?_) (fun c_x16 => ?_)
    · skip
      exact ⟨congrArg Value.bool (canB_out (by omega)).symm, hs.chg⟩
    · skip
      replace hs := hs.drew
      refine qop_blk ty29 hs.p1.hb rfl ?_
      refine pop_nil ?_
      refine pop_field fld60_1 ?_
      refine qop_cell ty27 (hc1.ext hs.chg) ?_
      refine qop_blk ty3 hs.hb rfl ?_
      refine pop_cutHi sl27 (hL.ext hs.chg) (by omega) (by omega) (fun s_x23 h_x23 => ?_)
      obtain ⟨x, hx⟩ : ∃ x, l[i.toNat]? = some x := ⟨_, List.getElem?_eq_getElem (by omega)⟩
      have hfn : FnOn _ (.func (.func 36) [].toArray [.pointer (some ⟨b_b2, 0, none⟩), .pointer (some ⟨b_i3, 0, none⟩)].toArray) (fun y => !passes x y) :=
        ⟨36, [], _, rfl, pl36, fun y w1 e1 => C36 x y p b_b2 b_i3 i room l w1 ((hs.p1.hb.cell rfl).ext e1) ((hs.hb.cell rfl).ext e1) ((hb0.ext hs.chg).ext e1) (by omega) hx⟩
      refine callF pl37 (C37 _ _ _ _ _ h_x23 hfn (by rw [List.length_take]; omega)) ?_
      rintro _ w4 ⟨rfl, he⟩
      replace hs := hs.ext he
      refine pop_not ?_
      exact ⟨congrArg Value.bool (canB_in (by omega) (by omega) hx).symm, hs.chg⟩

theorem C21 (p : Nat) (room : Int) (l : List Entry) (w : World) (hb : BufR w p room l) : Calls Try.prog 21 [.pointer (some ⟨p, 0, none⟩)].toArray w (Ret fun v w' => v = .bool (decide (room ≤ l.length)) ∧ Ext w w') := by
  obtain ⟨sv, hc0, hc1, hL⟩ := hb
  have hs := St.start w
  refine S21_ok _ _ _ ?_
  unfold S21
  refine pop_nil ?_
  refine pop_field fld60_1 ?_
  replace hs := hs.drew
  refine qop_cell ty27 (hc1.ext hs.chg) ?_
  refine pop_len sl27 (hL.ext hs.chg) ?_
  refine pop_nil ?_
  refine pop_field fld60_0 ?_
  refine qop_cell ty3 (hc0.ext hs.chg) ?_
  refine pop_geq ?_
  exact ⟨rfl, hs.chg⟩

theorem C16 (p : Nat) (room : Int) (l : List Entry) (w : World) (hb : BufR w p room l) (hn : l.length ≤ 1048576) : Calls Try.prog 16 [.pointer (some ⟨p, 0, none⟩)].toArray w (Ret fun v w' => New (ownL v (cansL l)) w w') := by
  have hb0 := hb
  obtain ⟨sv, hc0, hc1, hL⟩ := hb
  have hs := St.start w
  refine S16_ok _ _ _ ?_
  unfold S16
  refine pop_nil ?_
  refine pop_field fld60_1 ?_
  refine qop_cell ty27 (hc1.ext hs.chg) ?_
  refine pop_len sl27 (hL.ext hs.chg) ?_
  refine ⟨fun m o x w1 => ∃ k : Nat, x = .int .i64 (k : Int) ∧ m = l.length - k ∧ k ≤ l.length ∧ St w none1 [ownL o (cansTo l k)] w1, ⟨_, 0, rfl, rfl, Nat.zero_le _, hs.ownNil⟩, ?_⟩
  rintro m o _ w1 ⟨k, rfl, rfl, hk, hs⟩ dd1
  have hcl := cansTo_le l k
  refine pop_lss ?_
  refine cond_d (fun c_x11 => ?_) (fun c_x11 => ?_)
  · skip
    refine ⟨_, ?_, fun _ _ h => h⟩
    refine callF pl31 (C31 _ _ _ _ _ (hb0.ext hs.chg) (by omega)) ?_
    rintro _ w2 ⟨rfl, he⟩
    replace hs := hs.ext he
    refine cond_b (fun c_x15 => ?_) (fun c_x15 => ?_)
    · skip
      refine eop_build ([(k : Int)]) hs sl28 rfl rfl (Nat.le_of_ble_eq_true rfl) (fun s_x18 w3 hs => ?_)
      have hr_x19 := (hs).rd'
      refine eop_append hs.p1 sl28 hr_x19 (by simp; omega) (by decide) (fun s_x19 w4 hs => ?_)
      replace hs := hs.p1.drop
      intro dd2
      refine pop_add (by omega) ?_
      exact ⟨l.length - (k + 1), by omega, k + 1, rfl, rfl, by omega, by rw [cansTo_yes c_x15]; exact hs⟩
    · skip
      intro dd2
      refine pop_add (by omega) ?_
      exact ⟨l.length - (k + 1), by omega, k + 1, rfl, rfl, by omega, by rw [cansTo_no c_x15]; exact hs⟩
  · skip
    rw [cansTo_all l (by omega)] at hs
    exact hs.fresh

end Go.Proofs.Ytmjijnkndgjdfaa
