/-
  Proved: ClockJoins returns true for every input, and the input reads as it did. No condition.
-/
import Derived.Test.YtobcbkipeipjeaaL
import Derived.Test.YtobcbkipeipjeaaRows
import Derived.KernelRfl
namespace Go.Proofs.Ytobcbkipeipjeaa
open Go.Fw

theorem bne_self (b : Bool) : (b != b) = false := by cases b <;> rfl
theorem RdLL.own {w0 w : World} {A : Nat → Prop} {L : List HP} {v : Value} {ss : List SV} {xs : List (List Int)} (h1 : St w0 A (ownL v ss :: L) w) (h2 : ss.length = xs.length) (h3 : ∀ (i : Nat) (s : SV) (x : List Int), ss[i]? = some s → xs[i]? = some x → RdL (fun _ => True) w (Flat.val s) x) : RdLL w v xs := ⟨ss, h1.rd', h2, h3⟩
theorem rd_snoc {w : World} {ss : List SV} {cs : List (List Int)} {s : SV} {x : List Int} (hl : ss.length = cs.length) (h : ∀ (i : Nat) (s : SV) (x : List Int), ss[i]? = some s → cs[i]? = some x → RdL (fun _ => True) w (Flat.val s) x) (hr : RdL (fun _ => True) w (Flat.val s) x) :
    ∀ (i : Nat) (s' : SV) (x' : List Int), (ss ++ [s])[i]? = some s' → (cs ++ [x])[i]? = some x' → RdL (fun _ => True) w (Flat.val s') x' := by
  intro i s' x' h1 h2
  rcases Nat.lt_or_ge i ss.length with hi | hi
  · rw [List.getElem?_append_left hi] at h1
    rw [List.getElem?_append_left (by omega)] at h2
    exact h i s' x' h1 h2
  · have hlt := (List.getElem?_eq_some_iff.1 h1).1
    rw [List.length_append, List.length_singleton] at hlt
    obtain rfl : i = ss.length := by omega
    rw [List.getElem?_append_right (Nat.le_refl _), Nat.sub_self] at h1
    rw [List.getElem?_append_right (by omega), show ss.length - cs.length = 0 from by omega] at h2
    rw [← Option.some.inj h1, ← Option.some.inj h2]; exact hr

theorem C4 (av bv lv : Value) (xs ys : List Int) (l : List Event) (w : World) (hA : RdL (fun _ => True) w av xs) (hB : RdL (fun _ => True) w bv ys) (hL : RdL (fun _ => True) w lv l) (hX : ∀ x ∈ xs, i64ok x) (hY : ∀ x ∈ ys, i64ok x) : Calls Try.prog 4 [av, bv, lv].toArray w (Ret fun v w' => v = .bool true ∧ Ext w w') := by
  have hs := St.start w
  refine S4_ok _ _ _ _ _ ?_
  unfold S4
  refine pop_len sl23 (hA.ext hs.chg) ?_
  refine pop_min ?_
  refine pop_cutHi' sl23 hA (by omega) (by omega) (fun s_x15 hq_x15 => ?_)
  have hr_x15 := hq_x15 _ hA
  obtain ⟨sv_a, rfl⟩ := hr_x15.isSV
  refine pop_len sl23 (hB.ext hs.chg) ?_
  refine pop_min ?_
  refine pop_cutHi' sl23 hB (by omega) (by omega) (fun s_x20 hq_x20 => ?_)
  have hr_x20 := hq_x20 _ hB
  obtain ⟨sv_b, rfl⟩ := hr_x20.isSV
  refine pop_len sl22 (hL.ext hs.chg) ?_
  refine pop_min ?_
  refine pop_cutHi' sl22 hL (by omega) (by omega) (fun s_x25 hq_x25 => ?_)
  have hr_x25 := hq_x25 _ hL
  have hln : (l.take (min (l.length : Int) 10).toNat).length ≤ 10 := by rw [List.length_take]; omega
  refine eop_build ([] : List SV) hs sl26 rfl rfl (Nat.le_of_ble_eq_true rfl) (fun s_x26 w1 hs => ?_)
  refine ⟨fun m y x w1 => ∃ (i : Nat) (ss : List SV) (cs : List (List Int)), x = .int .i64 (i : Int) ∧ m = (l.take (min (l.length : Int) 10).toNat).length - i ∧ i ≤ (l.take (min (l.length : Int) 10).toNat).length ∧ ss.length = i ∧ ss.length = cs.length ∧ (∀ (j : Nat) (s : SV) (x : List Int), ss[j]? = some s → cs[j]? = some x → RdL (fun _ => True) w (Flat.val s) x) ∧ St w none1 [ownL y ss] w1, ⟨_, 0, [], [], rfl, rfl, by omega, rfl, rfl, fun j s x h => by simp at h, hs⟩, ?_⟩
  rintro m clocks7 _ w2 ⟨i, ss, cs, rfl, rfl, hi, hsl, hlen, hE, hs⟩ dd1
  refine pop_len sl22 (hr_x25.ext hs.chg) ?_
  refine pop_lss ?_
  refine cond_d (fun c_x30 => ?_) (fun c_x30 => ?_)
  · skip
    refine ⟨_, ?_, fun _ _ h => h⟩
    refine pop_rem (by omega) (by omega) ?_
    refine pop_eql ?_
    refine cond_d (fun c_x35 => ?_) (fun c_x35 => ?_)
    · skip
      refine eop_build ([sv_a]) hs sl26 rfl rfl (Nat.le_of_ble_eq_true rfl) (fun s_x38 w3 hs => ?_)
      have hr_x39 := (hs).rd'
      refine eop_append hs.p1 sl26 hr_x39 (by simp <;> omega) (by decide) (fun s_x39 w4 hs => ?_)
      replace hs := hs.p1.drop
      intro dd2
      refine pop_add (by omega) ?_
      exact ⟨_, by omega, i + 1, _, cs ++ [(xs.take (min (xs.length : Int) 20).toNat)], rfl, rfl, by omega, by rw [List.length_append, List.length_singleton]; omega, by rw [List.length_append, List.length_append, hlen]; rfl, rd_snoc hlen hE hr_x15, hs⟩
    · skip
      refine eop_build ([sv_b]) hs sl26 rfl rfl (Nat.le_of_ble_eq_true rfl) (fun s_x42 w5 hs => ?_)
      have hr_x43 := (hs).rd'
      refine eop_append hs.p1 sl26 hr_x43 (by simp <;> omega) (by decide) (fun s_x43 w6 hs => ?_)
      replace hs := hs.p1.drop
      intro dd2
      refine pop_add (by omega) ?_
      exact ⟨_, by omega, i + 1, _, cs ++ [(ys.take (min (ys.length : Int) 20).toNat)], rfl, rfl, by omega, by rw [List.length_append, List.length_singleton]; omega, by rw [List.length_append, List.length_append, hlen]; rfl, rd_snoc hlen hE hr_x20, hs⟩
  · skip
    refine ⟨fun m x w1 => ∃ p : Nat, x = .int .i64 ((p : Int) - 1) ∧ m = (l.take (min (l.length : Int) 10).toNat).length + 2 - p ∧ p ≤ (l.take (min (l.length : Int) 10).toNat).length + 2 ∧ St w none1 [ownL clocks7 ss] w1, ⟨_, 0, rfl, rfl, by omega, hs⟩, ?_⟩
    rintro m _ w8 ⟨p, rfl, rfl, hp, hs⟩ dd3
    refine pop_len sl22 (hr_x25.ext hs.chg) ?_
    refine pop_leq ?_
    refine cond_d (fun c_x47 => ?_) (fun c_x47 => ?_)
    · skip
      refine ⟨fun m x w1 => ∃ q : Nat, x = .int .i64 ((q : Int) - 1) ∧ m = (l.take (min (l.length : Int) 10).toNat).length + 2 - q ∧ q ≤ (l.take (min (l.length : Int) 10).toNat).length + 2 ∧ St w none1 [ownL clocks7 ss] w1, ⟨_, 0, rfl, rfl, by omega, hs⟩, ?_⟩
      rintro m _ w9 ⟨q, rfl, rfl, hq, hs⟩ dd4
      refine pop_len sl22 (hr_x25.ext hs.chg) ?_
      refine pop_leq ?_
      refine cond_d (fun c_x53 => ?_) (fun c_x53 => ?_)
      · skip
        refine callF pl16 (C16 _ _ (l.take (min (l.length : Int) 10).toNat) cs ((p : Int) - 1) ((q : Int) - 1) _ (hr_x25.ext hs.chg) (RdLL.own hs hlen (fun j s x a b => (hE j s x a b).ext hs.chg))) ?_
        rintro _ w10 ⟨rfl, he⟩
        replace hs := hs.ext he
        refine callF pl17 (C17 _ _ (l.take (min (l.length : Int) 10).toNat) cs ((p : Int) - 1) ((q : Int) - 1) _ (hr_x25.ext hs.chg) (RdLL.own hs hlen (fun j s x a b => (hE j s x a b).ext hs.chg))) ?_
        rintro _ w11 ⟨rfl, he⟩
        replace hs := hs.ext he
        refine pop_bneq und4 ?_
        refine cond_nb (bne_self _) ?_
        refine pop_add (by omega) ?_
        exact ⟨_, by omega, q + 1, by congr 1; omega, rfl, by omega, hs⟩
      · skip
        refine pop_add (by omega) ?_
        exact ⟨_, by omega, p + 1, by congr 1; omega, rfl, by omega, hs⟩
    · skip
      refine ⟨_, ?_, fun _ _ h => h⟩
      refine callF pl22 (C22 _ _ _ _ _ (hr_x15.ext hs.chg) (hr_x20.ext hs.chg) (by rw [List.length_take]; omega) (by rw [List.length_take]; omega)) ?_
      rintro x69 w12 hnew
      replace hs := hs.made hnew
      refine callF pl23 (C23 _ _ _ _ _ (hr_x15.ext hs.chg) (hr_x20.ext hs.chg) (by rw [List.length_take]; omega) (by rw [List.length_take]; omega) (fun x hx => hX x (List.mem_of_mem_take hx)) (fun x hx => hY x (List.mem_of_mem_take hx))) ?_
      rintro x72 w13 hnew
      replace hs := hs.made hnew
      refine callF pl21 (C21 _ _ _ _ _ (hs.p1).rd' (hs).rd' (by rw [jn_len, List.length_take, List.length_take]; omega)) ?_
      rintro _ w14 ⟨rfl, he⟩
      replace hs := hs.ext he
      refine cond_yb (by simp) ?_
      refine callF pl20 (C20 _) ?_
      rintro _ w15 ⟨rfl, he⟩
      replace hs := hs.ext he
      intro dd5
      exact ⟨rfl, hs.chg⟩

namespace clockJoins
open Go.ChangeShapes Go.WideShapes Go.ChangeAt Go.RowKit
theorem contract (H : Type) (enc : TypeId × Value → H) (W : World) (base : Nat) (args : Array Value) (ds gs : List (DataW H)) (before : List MemPlace)
    (hval : ∀ (j : Nat) t v, Try.f4.params[j]? = some t → args[j]? = some v → Value.okWide Try.prog W .any base t v)
    (hW : DataW.Whole enc Try.prog Try.f4.params.toList Rows.clockJoinsSpec.vars false W args.toList ds gs before) :
    Calls Try.prog 4 args W fun e W' => ∃ v, e = .returned v ∧ Rows.clockJoinsSpec.post enc Try.prog Try.f4 false true false false W args v W' := by
  have hW' := hW
  obtain ⟨p, q, hA0, hV, _, _, _⟩ := hW
  have hA : DataW.TrodAll enc Try.prog W 0 (fun _ => true) true Try.f4.params.toList args.toList ds p := hA0
  rw [Try.params4] at hA hval
  obtain ⟨v0, vs0, d0, ds0, p0, q0, hargs, hds, _, h0, r0⟩ := trodAll_cons hA
  obtain ⟨v1, vs1, d1, ds1, p1, q1, rfl, rfl, _, h1, r1⟩ := trodAll_cons r0
  obtain ⟨v2, vs2, d2, ds2, p2, q2, rfl, rfl, _, h2, r2⟩ := trodAll_cons r1
  obtain ⟨rfl, rfl, _⟩ := trodAll_nil r2
  obtain rfl : args = #[v0, v1, v2] := by cases args; simp_all
  obtain ⟨x, hL_x, ok_x⟩ := open_sl Try.underlying23 rdI (hval 0 23 v0 rfl rfl) h0
  obtain ⟨y, hL_y, ok_y⟩ := open_sl Try.underlying23 rdI (hval 1 23 v1 rfl rfl) h1
  obtain ⟨l, hL_l, ok_l⟩ := open_sl Try.underlying22 rdE (hval 2 22 v2 rfl rfl) h2
  refine (C4 v0 v1 v2 x y l W (hL_x.mono fun _ _ => trivial) (hL_y.mono fun _ _ => trivial) (hL_l.mono fun _ _ => trivial) ok_x ok_y).mono fun e W' ⟨v, he, hv, hext⟩ => ?_
  subst hv
  refine ⟨_, he, post_true rfl (fun ds h => ?_) rfl Try.underlying4 (by kernel_rfl) (by kernel_rfl) hW' hext.below⟩
  match ds, h with
  | [e0, e1, e2], _ => rfl
set_option maxRecDepth 100000 in
theorem lifted (os : Os) (started : os.Started) (H : Type) (enc : TypeId × Value → H) :
    ReturnsInHanded {} Try.checked os 4 .any (Rows.clockJoinsSpec.pre6 enc Try.prog Try.f4 Rows.clockJoinsRow.domain false) (Rows.clockJoinsSpec.post enc Try.prog Try.f4 false true false false) := by
  refine returnsInHanded_of_change (C := Try.checked) own started (by kernel_rfl) Try.func4
    (ChangeSpec.witness6 (enc := enc) (C := Try.checked) false ⟨#[], #[.slice none 0 0, .slice none 0 0, .slice none 0 0], []⟩ 8 (by kernel_rfl) (by kernel_rfl) (by kernel_rfl) (by kernel_rfl)) ?_
  intro W base args ds gs before hval hW _ _
  exact contract H enc W base args ds gs before hval hW
/-- The statement. -/
theorem proved : Rows.ClockJoinsSaid :=
  OpenClaim.holds_of_wide 4 Try.f4 rfl rfl rfl rfl rfl rfl rfl ⟨rfl, rfl, rfl, rfl, rfl⟩ rfl rfl rfl rfl rfl (by kernel_rfl) Try.func4 (by kernel_rfl)
    (of_decide_eq_true (by kernel_rfl)) (by unfold Func.isWrapper; first | (rw [if_pos (by decide +kernel)]; kernel_rfl) | (rw [if_neg (by decide +kernel)]; exact ⟨rfl, rfl⟩))
    (fun os started H enc _ => lifted os started H enc)
end clockJoins

end Go.Proofs.Ytobcbkipeipjeaa
