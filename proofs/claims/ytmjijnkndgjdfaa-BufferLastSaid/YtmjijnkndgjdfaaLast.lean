/-
  Proved: BufferLast returns true for every input, and the input reads as it did. No condition.
-/
import Derived.Test.YtmjijnkndgjdfaaK
import Derived.Test.YtmjijnkndgjdfaaRows
import Derived.KernelRfl
namespace Go.Proofs.Ytmjijnkndgjdfaa
open Go.Fw

/-- The last place among the first n where c was stored to; -1: none. -/
def lastIx (f : Nat → Int) : Nat → Int → Int
  | 0, _ => -1
  | n + 1, c => if f n = c then n else lastIx f n c
theorem lastIx_lt (f : Nat → Int) (c : Int) : ∀ n, lastIx f n c < n
  | 0 => by simp [lastIx]
  | n + 1 => by
    have := lastIx_lt f c n
    unfold lastIx; split <;> omega
def mkL (f : Nat → Int) (n : Nat) : List Entry := (List.range n).map fun (i : Nat) => ⟨3, f i, f i, (i : Int)⟩
theorem mkL_len (f : Nat → Int) (n : Nat) : (mkL f n).length = n := by simp [mkL]
theorem mkL_succ (f : Nat → Int) (n : Nat) : mkL f (n + 1) = mkL f n ++ [⟨3, f n, f n, (n : Int)⟩] := by unfold mkL; rw [List.range_succ, List.map_append]; rfl
theorem mkL_drop {f : Nat → Int} {n t : Nat} (h : t < n) : (mkL f n).drop t = ⟨3, f t, f t, (t : Int)⟩ :: (mkL f n).drop (t + 1) := by
  rw [List.drop_eq_getElem_cons (by rw [mkL_len]; exact h)]
  simp [mkL]
theorem lastO_snoc (l : List Entry) (x : Entry) (c : Int) : lastO (l ++ [x]) c = if x.kind = 3 ∧ x.cell = c then some x.n else lastO l c := by
  unfold lastO
  rw [List.reverse_append, List.reverse_singleton, List.singleton_append, List.find?_cons]
  by_cases h : x.kind = 3 ∧ x.cell = c
  · rw [if_pos h, decide_eq_true h]; rfl
  · rw [if_neg h, decide_eq_false h]
theorem lastO_drop (f : Nat → Int) (c : Int) (i : Nat) : ∀ n, lastO ((mkL f n).drop i) c = if (i : Int) ≤ lastIx f n c then some (lastIx f n c) else none
  | 0 => by rw [if_neg (by unfold lastIx; omega)]; simp [mkL, lastO]
  | n + 1 => by
    by_cases h : i ≤ n
    · rw [mkL_succ, List.drop_append_of_le_length (by rw [mkL_len]; exact h), lastO_snoc, lastO_drop f c i n]
      by_cases hf : f n = c
      · rw [if_pos ⟨rfl, hf⟩]; simp [lastIx, hf]; omega
      · rw [if_neg (fun hh => hf hh.2)]; simp [lastIx, hf]
    · have := lastIx_lt f c (n + 1)
      rw [if_neg (by omega), List.drop_eq_nil_of_le (by rw [mkL_len]; omega)]; rfl
def cellOf (cs : List Int) (i : Nat) : Int := andI (cs.getD i 0) 65535 % 3
theorem cellOf_at {cs : List Int} {i : Nat} {e : Int} (h : cs[((i : Int)).toNat]? = some e) : cellOf cs i = andI e 65535 % 3 := by
  unfold cellOf; rw [List.getD_eq_getElem?_getD, show cs[i]? = some e from h]; rfl
def lst (f : Nat → Int) (k : Nat) : List Int := [lastIx f k 0, lastIx f k 1, lastIx f k 2]
theorem lst_len (f : Nat → Int) (k : Nat) : (lst f k).length = 3 := rfl
theorem lst_get {f : Nat → Int} {k : Nat} {c e : Int} (h0 : 0 ≤ c) (h3 : c < 3) (h : (lst f k)[c.toNat]? = some e) : e = lastIx f k c := by
  obtain rfl | rfl | rfl : c = 0 ∨ c = 1 ∨ c = 2 := by omega
  all_goals simpa [lst] using h.symm
theorem lst_set {f : Nat → Int} {k : Nat} {x : Int} (hx : f k = x) (h0 : 0 ≤ x) (h3 : x < 3) : (lst f k).set x.toNat (k : Int) = lst f (k + 1) := by
  obtain rfl | rfl | rfl : x = 0 ∨ x = 1 ∨ x = 2 := by omega
  all_goals simp [lst, lastIx, hx]
theorem last_is {f : Nat → Int} {k i : Nat} {c e : Int} {p : Prop} [Decidable p] (h0 : 0 ≤ c) (h3 : c < 3) (h : (lst f k)[c.toNat]? = some e) (hp : p ↔ (i : Int) ≤ e) : ((lastO ((mkL f k).drop i) c).isSome != decide p) = false := by
  rw [lst_get h0 h3 h] at hp
  rw [lastO_drop]
  by_cases hh : (i : Int) ≤ lastIx f k c
  · rw [if_pos hh, decide_eq_true (hp.2 hh)]; rfl
  · rw [if_neg hh, decide_eq_false (fun q => hh (hp.1 q))]; rfl
theorem last_n {f : Nat → Int} {k i : Nat} {c e : Int} (h0 : 0 ≤ c) (h3 : c < 3) (h : (lst f k)[c.toNat]? = some e) (hs : (lastO ((mkL f k).drop i) c).isSome = true) : decide ((lastO ((mkL f k).drop i) c).getD 0 ≠ e) = false := by
  rw [lst_get h0 h3 h]
  rw [lastO_drop] at *
  by_cases hh : (i : Int) ≤ lastIx f k c
  · rw [if_pos hh]; simp
  · rw [if_neg hh] at hs; cases hs
theorem last_is0 {f : Nat → Int} {k : Nat} {c e : Int} {p : Prop} [Decidable p] (h0 : 0 ≤ c) (h3 : c < 3) (h : (lst f k)[c.toNat]? = some e) (hp : p ↔ 0 ≤ e) : ((lastO (mkL f k) c).isSome != decide p) = false := last_is (i := 0) h0 h3 h hp
theorem last_n0 {f : Nat → Int} {k : Nat} {c e : Int} (h0 : 0 ≤ c) (h3 : c < 3) (h : (lst f k)[c.toNat]? = some e) (hs : (lastO (mkL f k) c).isSome = true) : decide ((lastO (mkL f k) c).getD 0 ≠ e) = false := last_n (i := 0) h0 h3 h hs
theorem mk_right {x n : Int} (h0 : 0 ≤ x) : right ⟨3, x, x, n⟩ = true := decide_eq_true (.inl ⟨rfl, h0, h0⟩)
theorem mk_putE {f : Nat → Int} {k : Nat} {x : Int} (h0 : 0 ≤ x) (hk : k < 16) : decide (putE 16 (mkL f k) ⟨3, x, x, (k : Int)⟩ ≠ 0) = false := by
  rw [putE_ok (mk_right h0) (by rw [mkL_len]; omega)]; rfl
theorem mk_putL {f : Nat → Int} {k : Nat} {x : Int} (hx : f k = x) (h0 : 0 ≤ x) (hk : k < 16) : putL 16 (mkL f k) ⟨3, x, x, (k : Int)⟩ = mkL f (k + 1) := by
  rw [putL_ok (mk_right h0) (by rw [mkL_len]; omega), mkL_succ, hx]
theorem mk_takeX {f : Nat → Int} {k t : Nat} (h : t < k) : takeX ((mkL f k).drop t) 0 = ⟨3, f t, f t, (t : Int)⟩ := by rw [mkL_drop h, takeX_zero]
theorem mk_takeE {f : Nat → Int} {k t : Nat} (h : t < k) : takeE ((mkL f k).drop t) 0 = 0 := by rw [mkL_drop h, takeE_zero, if_neg (by simp)]
theorem mk_takeL {f : Nat → Int} {k t : Nat} : takeL ((mkL f k).drop t) 0 = (mkL f k).drop (t + 1) := by rw [takeL_zero, List.drop_drop]

theorem C5 (sv : Value) (xs : List Int) (w : World) (hL : RdL (fun _ => True) w sv xs) : Calls Try.prog 5 [sv].toArray w (Ret fun v w' => v = .bool true ∧ Ext w w') := by
  have hs := St.start w
  refine S5_ok _ _ _ ?_
  unfold S5
  refine callF pl14 (C14 _ _) ?_
  rintro _ w1 hr
  rcases hr with ⟨h, _⟩ | ⟨_, _, b_x19, rfl, hnew⟩
  · exact absurd h (by omega)
  replace hs := hs.made hnew
  refine pop_ext rfl ?_
  refine pop_ext rfl ?_
  refine ⟨_, ?_, fun _ _ h => h⟩
  refine pop_peql und29 ?_
  refine cond_f ?_
  refine pop_neq ?_
  intro dd1
  refine cond_nb (by decide) ?_
  refine eop_build ([(-1), (-1), (-1)]) hs sl28 rfl rfl (Nat.le_of_ble_eq_true rfl) (fun s_x28 w3 hs => ?_)
  refine pop_len sl28 (hL.ext hs.chg) ?_
  refine pop_min ?_
  refine ⟨fun m x w1 => ∃ k : Nat, x = .int .i64 (k : Int) ∧ m = 12 - k ∧ k ≤ 12 ∧ k ≤ xs.length ∧ St w none1 [ownL s_x28 (lst (cellOf xs) k), bufO b_x19 16 (mkL (cellOf xs) k)] w1, ⟨_, 0, rfl, rfl, by omega, by omega, hs⟩, ?_⟩
  rintro m _ w4 ⟨k, rfl, rfl, hk, hk2, hs⟩ dd2
  refine pop_lss ?_
  refine cond_d (fun c_x34 => ?_) (fun c_x34 => ?_)
  · skip
    obtain ⟨e_x39, he_x39⟩ : ∃ x, (xs)[((k : Int)).toNat]? = some x := ⟨_, List.getElem?_eq_getElem (by omega)⟩
    refine pop_idx sl28 (hL.ext hs.chg) (by omega) he_x39 (fun q_x39 h_x39 => ?_)
    refine qop_at ty3 (h_x39) ?_
    have hA := andI_range e_x39 (b := 65535) (by omega) (by omega)
    refine pop_and (by decide) (by decide) ?_
    refine pop_rem (by omega) (by omega) ?_
    refine callF pl19 (C19 _ _ _ _) ?_
    rintro _ w5 ⟨rfl, he⟩
    replace hs := hs.ext he
    refine callMut pl15 hs.p1 (H' := fun _ => bufO b_x19 16 (putL 16 (mkL (cellOf xs) k) (⟨3, ((andI e_x39 65535) % 3), ((andI e_x39 65535) % 3), (k : Int)⟩ : Entry))) (Φ := fun v _ => v = .int .i64 (putE 16 (mkL (cellOf xs) k) (⟨3, ((andI e_x39 65535) % 3), ((andI e_x39 65535) % 3), (k : Int)⟩ : Entry))) (fun F hF => ?_) ?_
    · exact C15 _ _ _ (⟨3, ((andI e_x39 65535) % 3), ((andI e_x39 65535) % 3), (k : Int)⟩ : Entry) F _ hF (by simp [mkL_len, List.length_drop] <;> omega)
    rintro _ w6 rfl hs
    rw [show putL 16 (mkL (cellOf xs) k) (⟨3, ((andI e_x39 65535) % 3), ((andI e_x39 65535) % 3), (k : Int)⟩ : Entry) = mkL (cellOf xs) (k + 1) from mk_putL (cellOf_at he_x39) (by omega) (by omega)] at hs
    refine pop_neq ?_
    refine cond_nb (mk_putE (by omega) (by omega)) ?_
    have hll := lst_len (cellOf xs) k
    obtain ⟨e_x53, he_x53⟩ : ∃ x, ((lst (cellOf xs) k))[(((andI e_x39 65535) % 3)).toNat]? = some x := ⟨_, List.getElem?_eq_getElem (by omega)⟩
    refine pop_own hs.p1 sl28 (by omega) (by omega) (fun q_x53 h_x53 => ?_)
    refine uop_own _ hs.p1 ty3 h_x53 (by rw [lst_len]; omega) (fun w7 hs => ?_)
    rw [lst_set (f := cellOf xs) (k := k) (cellOf_at he_x39) (by omega) (by omega)] at hs
    refine ⟨fun m x w1 => ∃ c : Nat, x = .int .i64 (c : Int) ∧ m = 3 - c ∧ c ≤ 3 ∧ St w none1 [ownL s_x28 (lst (cellOf xs) (k + 1)), bufO b_x19 16 (mkL (cellOf xs) (k + 1))] w1, ⟨_, 0, rfl, rfl, by omega, hs⟩, ?_⟩
    rintro m _ w8 ⟨c, rfl, rfl, hc, hs⟩ dd3
    refine pop_lss ?_
    refine cond_d (fun c_x55 => ?_) (fun c_x55 => ?_)
    · skip
      refine callF pl20 (C20 _ _ _ _ _ (bufR_of hs.p1) (by simp [mkL_len, List.length_drop] <;> omega)) ?_
      rintro _ w9 ⟨rfl, he⟩
      replace hs := hs.ext he
      refine pop_ext rfl ?_
      refine pop_ext rfl ?_
      refine ⟨fun x w' => x = .bool (false) ∧ w' = w9, ?_, ?_⟩
      · skip
        have hll := lst_len (cellOf xs) (k + 1)
        obtain ⟨e_x67, he_x67⟩ : ∃ x, ((lst (cellOf xs) (k + 1)))[((c : Int)).toNat]? = some x := ⟨_, List.getElem?_eq_getElem (by omega)⟩
        refine pop_own hs sl28 (by omega) (by omega) (fun q_x67 h_x67 => ?_)
        refine qop_own hs ty3 h_x67 he_x67 ?_
        refine pop_geq ?_
        refine pop_bneq und4 ?_
        refine cond_nb (last_is0 (by omega) (by omega) he_x67 Iff.rfl) ?_
        refine cond_b (fun c_x63 => ?_) (fun c_x63 => ?_)
        · skip
          refine pop_own hs sl28 (by omega) (by omega) (fun q_x77 h_x77 => ?_)
          refine qop_own hs ty3 h_x77 he_x67 ?_
          refine pop_neq ?_
          exact ⟨congrArg Value.bool (last_n0 (by omega) (by omega) he_x67 c_x63), rfl⟩
        · skip
          exact ⟨rfl, rfl⟩
      · skip
        rintro _ w10 ⟨rfl, hw⟩ dd4
        subst hw
        refine cond_f ?_
        refine pop_add (by omega) ?_
        exact ⟨3 - (c + 1), by omega, c + 1, rfl, rfl, by omega, hs⟩
    · skip
      refine pop_add (by omega) ?_
      exact ⟨12 - (k + 1), by omega, k + 1, rfl, rfl, by omega, by omega, hs⟩
  · skip
    refine ⟨fun m x w1 => ∃ t : Nat, x = .int .i64 (t : Int) ∧ m = k - t ∧ t ≤ k ∧ St w none1 [bufO b_x19 16 ((mkL (cellOf xs) k).drop t), ownL s_x28 (lst (cellOf xs) k)] w1, ⟨_, 0, rfl, rfl, by omega, hs.p1⟩, ?_⟩
    rintro m _ w11 ⟨t, rfl, rfl, ht, hs⟩ dd5
    refine pop_lss ?_
    refine cond_d (fun c_x84 => ?_) (fun c_x84 => ?_)
    · skip
      refine callMut pl17 hs (H' := fun _ => bufO b_x19 16 (takeL ((mkL (cellOf xs) k).drop t) 0)) (Φ := fun v _ => v = .tuple #[Flat.val (takeX ((mkL (cellOf xs) k).drop t) 0), .int .i64 (takeE ((mkL (cellOf xs) k).drop t) 0)]) (fun F hF => ?_) ?_
      · exact C17 _ _ _ 0 F _ hF (by simp [mkL_len, List.length_drop] <;> omega)
      rintro _ w12 hv hs
      rw [show takeL ((mkL (cellOf xs) k).drop t) 0 = (mkL (cellOf xs) k).drop (t + 1) from mk_takeL] at hs
      rw [show takeX ((mkL (cellOf xs) k).drop t) 0 = (⟨3, cellOf xs t, cellOf xs t, (t : Int)⟩ : Entry) from mk_takeX (by omega), show takeE ((mkL (cellOf xs) k).drop t) 0 = 0 from mk_takeE (by omega)] at hv
      subst hv
      refine pop_ext rfl ?_
      refine pop_ext rfl ?_
      refine eop_allocA hs zero23 (fun b_x13 w13 hs => ?_)
      refine uop_blkV (x := (⟨3, cellOf xs t, cellOf xs t, (t : Int)⟩ : Entry)) hs ty23 rfl rfl (fun w14 hs => ?_)
      refine ⟨fun x w' => x = .bool (false) ∧ w' = w14, ?_, ?_⟩
      · skip
        refine pop_neq ?_
        refine cond_nb (by decide) ?_
        refine pop_field fld23_3 ?_
        refine qop_blk ty3 hs.hb rfl ?_
        refine pop_neq ?_
        exact ⟨congrArg Value.bool (by simp), rfl⟩
      · skip
        rintro _ w15 ⟨rfl, hw⟩ dd6
        subst hw
        replace hs := hs.drop
        refine cond_f ?_
        refine ⟨fun m x w1 => ∃ c : Nat, x = .int .i64 (c : Int) ∧ m = 3 - c ∧ c ≤ 3 ∧ St w none1 [bufO b_x19 16 ((mkL (cellOf xs) k).drop (t + 1)), ownL s_x28 (lst (cellOf xs) k)] w1, ⟨_, 0, rfl, rfl, by omega, hs⟩, ?_⟩
        rintro m _ w16 ⟨c, rfl, rfl, hc, hs⟩ dd7
        refine pop_lss ?_
        refine cond_d (fun c_x101 => ?_) (fun c_x101 => ?_)
        · skip
          refine callF pl20 (C20 _ _ _ _ _ (bufR_of hs) (by simp [mkL_len, List.length_drop] <;> omega)) ?_
          rintro _ w17 ⟨rfl, he⟩
          replace hs := hs.ext he
          refine pop_ext rfl ?_
          refine pop_ext rfl ?_
          refine ⟨fun x w' => x = .bool (false) ∧ w' = w17, ?_, ?_⟩
          · skip
            have hll := lst_len (cellOf xs) k
            obtain ⟨e_x113, he_x113⟩ : ∃ x, ((lst (cellOf xs) k))[((c : Int)).toNat]? = some x := ⟨_, List.getElem?_eq_getElem (by omega)⟩
            refine pop_own hs.p1 sl28 (by omega) (by omega) (fun q_x113 h_x113 => ?_)
            refine qop_own hs.p1 ty3 h_x113 he_x113 ?_
            refine pop_gtr ?_
            refine pop_bneq und4 ?_
            refine cond_nb (last_is (by omega) (by omega) he_x113 (by omega)) ?_
            refine cond_b (fun c_x109 => ?_) (fun c_x109 => ?_)
            · skip
              refine pop_own hs.p1 sl28 (by omega) (by omega) (fun q_x124 h_x124 => ?_)
              refine qop_own hs.p1 ty3 h_x124 he_x113 ?_
              refine pop_neq ?_
              exact ⟨congrArg Value.bool (last_n (by omega) (by omega) he_x113 c_x109), rfl⟩
            · skip
              exact ⟨rfl, rfl⟩
          · skip
            rintro _ w18 ⟨rfl, hw⟩ dd8
            subst hw
            refine cond_f ?_
            refine pop_add (by omega) ?_
            exact ⟨3 - (c + 1), by omega, c + 1, rfl, rfl, by omega, hs⟩
        · skip
          refine pop_add (by omega) ?_
          exact ⟨k - (t + 1), by omega, t + 1, rfl, rfl, by omega, hs⟩
    · skip
      refine callF pl13 (C13 _) ?_
      rintro _ w19 ⟨rfl, he⟩
      replace hs := hs.ext he
      exact ⟨rfl, hs.chg⟩

namespace bufferLast
open Go.ChangeShapes Go.WideShapes Go.ChangeAt Go.RowKit
theorem contract (H : Type) (enc : TypeId × Value → H) (W : World) (base : Nat) (args : Array Value) (ds gs : List (DataW H)) (before : List MemPlace)
    (hval : ∀ (j : Nat) t v, Try.f5.params[j]? = some t → args[j]? = some v → Value.okWide Try.prog W .any base t v)
    (hW : DataW.Whole enc Try.prog Try.f5.params.toList Rows.bufferLastSpec.vars false W args.toList ds gs before) :
    Calls Try.prog 5 args W fun e W' => ∃ v, e = .returned v ∧ Rows.bufferLastSpec.post enc Try.prog Try.f5 false true false false W args v W' := by
  have hW' := hW
  obtain ⟨p, q, hA0, hV, _, _, _⟩ := hW
  have hA : DataW.TrodAll enc Try.prog W 0 (fun _ => true) true Try.f5.params.toList args.toList ds p := hA0
  rw [Try.params5] at hA hval
  obtain ⟨v0, vs0, d0, ds0, p0, q0, hargs, hds, _, h0, r0⟩ := trodAll_cons hA
  obtain ⟨rfl, rfl, _⟩ := trodAll_nil r0
  obtain rfl : args = #[v0] := by cases args; simp_all
  obtain ⟨x, hL_x, ok_x⟩ := open_sl Try.underlying28 rdI (hval 0 28 v0 rfl rfl) h0
  refine (C5 v0 x W (hL_x.mono fun _ _ => trivial)).mono fun e W' ⟨v, he, hv, hext⟩ => ?_
  subst hv
  refine ⟨_, he, post_true rfl (fun ds h => ?_) rfl Try.underlying4 (by kernel_rfl) (by kernel_rfl) hW' hext.below⟩
  match ds, h with
  | [e0], _ => rfl
set_option maxRecDepth 100000 in
theorem lifted (os : Os) (started : os.Started) (H : Type) (enc : TypeId × Value → H) :
    ReturnsInHanded {} Try.checked os 5 .any (Rows.bufferLastSpec.pre6 enc Try.prog Try.f5 Rows.bufferLastRow.domain false) (Rows.bufferLastSpec.post enc Try.prog Try.f5 false true false false) := by
  refine returnsInHanded_of_change (C := Try.checked) own started (by kernel_rfl) Try.func5
    (ChangeSpec.witness6 (enc := enc) (C := Try.checked) false ⟨#[], #[.slice none 0 0], []⟩ 8 (by kernel_rfl) (by kernel_rfl) (by kernel_rfl) (by kernel_rfl)) ?_
  intro W base args ds gs before hval hW _ _
  exact contract H enc W base args ds gs before hval hW
/-- The statement. -/
theorem proved : Rows.BufferLastSaid :=
  OpenClaim.holds_of_wide 5 Try.f5 rfl rfl rfl rfl rfl rfl rfl ⟨rfl, rfl, rfl, rfl, rfl⟩ rfl rfl rfl rfl rfl (by kernel_rfl) Try.func5 (by kernel_rfl)
    (of_decide_eq_true (by kernel_rfl)) (by unfold Func.isWrapper; first | (rw [if_pos (by decide +kernel)]; kernel_rfl) | (rw [if_neg (by decide +kernel)]; exact ⟨rfl, rfl⟩))
    (fun os started H enc _ => lifted os started H enc)
end bufferLast

end Go.Proofs.Ytmjijnkndgjdfaa
