/-
  The methods of a buffer that turn it.
-/
import Derived.Test.YtmjijnkndgjdfaaC2
import Derived.Test.YtmjijnkndgjdfaaFw13
namespace Go.Proofs.Ytmjijnkndgjdfaa
open Go.Fw

/-- What Put answers; what it leaves. -/
def putE (room : Int) (l : List Entry) (x : Entry) : Int := if right x = true then (if room ≤ l.length then 2 else 0) else 1
def putL (room : Int) (l : List Entry) (x : Entry) : List Entry := if right x = true ∧ ¬ room ≤ l.length then l ++ [x] else l
/-- What Take answers; what it leaves. -/
def takeX (l : List Entry) (i : Int) : Entry := if canB l i = true then (l[i.toNat]?).getD ⟨0, 0, 0, 0⟩ else ⟨0, 0, 0, 0⟩
def takeE (l : List Entry) (i : Int) : Int := if 0 ≤ i ∧ i < l.length then (if canB l i = true then 0 else 13) else 1
def takeL (l : List Entry) (i : Int) : List Entry := if canB l i = true then l.eraseIdx i.toNat else l
theorem canB_lt {l : List Entry} {i : Int} (h : canB l i = true) : 0 ≤ i ∧ i < l.length := by
  unfold canB at h; rw [Bool.and_eq_true, decide_eq_true_eq] at h; exact h.1

theorem BufR.mk' {w : World} {p : Nat} {room : Int} {sv : Value} {l : List Entry} (h1 : Blk w p [.int .i64 room, sv]) (h2 : RdL (fun _ => True) w sv l) : BufR w p room l :=
  ⟨sv, h1.cell rfl, h1.cell rfl, h2⟩

theorem bufO.shut {w0 w : World} {A : Nat → Prop} {R : List HP} {p : Nat} {room : Int} {sv : Value} {l : List Entry} (hs : St w0 A (blk p [.int .i64 room, sv] :: ownL sv l :: R) w) : St w0 A (bufO p room l :: R) w :=
  St.shutEx (H := fun sv => sep (blk p [.int .i64 room, sv]) (ownL sv l)) sv (St.join hs)
theorem bufO.open {w0 w : World} {A : Nat → Prop} {R : List HP} {p : Nat} {room : Int} {l : List Entry} (hs : St w0 A (bufO p room l :: R) w) : ∃ sv, St w0 A (blk p [.int .i64 room, sv] :: ownL sv l :: R) w := by
  obtain ⟨sv, hs⟩ := hs.openEx; exact ⟨sv, hs.split⟩
theorem bufR_of {w0 w : World} {A : Nat → Prop} {R : List HP} {p : Nat} {room : Int} {l : List Entry} (hs : St w0 A (bufO p room l :: R) w) : BufR w p room l := by
  obtain ⟨F, h, _⟩ := hs.head; exact bufO.rd h

/-- slices.Delete of one. -/
theorem C33 (v : Value) (i : Int) (xs : List Entry) (F : Nat → Prop) (w : World) (hv : (ownL v xs).p w F) (h0 : 0 ≤ i) (hi : i < xs.length) (hn : xs.length ≤ 1073741824) :
    Calls Try.prog 33 [v, .int .i64 i, .int .i64 (i + 1)].toArray w (Ret fun v' w' => True ∧ Mut F (ownL v' (xs.eraseIdx i.toNat)) w w') := by
  obtain ⟨i, rfl⟩ := Int.eq_ofNat_of_zero_le h0
  replace hi : i < xs.length := by omega
  rw [Int.toNat_natCast]
  have hrd := ownL.rd hv
  obtain ⟨b, cap, rest, rfl, hb, hl, hF⟩ := own_split hv hi
  have hlen : (flat xs).length = xs.length * 4 := flat_length xs
  have hcap : xs.length ≤ cap := by rw [List.length_append, hlen] at hl; change _ = cap * 4 at hl; omega
  refine S33_ok _ _ _ _ _ ?_
  unfold S33
  refine pop (pr_len sl27) ?_
  refine pop_cut3 sl27 (by omega) (by omega) (by omega) (by omega) (fun _ => ?_)
  refine pop_eql ?_
  refine cond_d (fun c => absurd c (by omega)) (fun _ => ?_)
  refine pop (pr_len sl27) ?_
  have e22 : pr Try.prog (Instr.sliceAt 27 (.slice (some ⟨b, 0, none⟩) xs.length cap) none (some (.int .i64 (i : Int))) none) = some (.slice (some ⟨b, 0, none⟩) i cap) := by
    rw [pr_cut sl27 (l := 0) (h := i) (pr_bounds (.inl ⟨rfl, rfl⟩) (.inr ⟨_, rfl, by omega, by omega⟩) (by omega) (by omega))]
    simp [add_none]
  refine pop e22 ?_
  refine pop_cutLo sl27 hrd (by omega) (by omega) (fun s25 h25 => ?_)
  rw [show ((i : Int) + 1).toNat = i + 1 from by omega] at h25
  have hdl : (xs.drop (i + 1)).length = xs.length - (i + 1) := by simp
  obtain ⟨w1, r1, b1, g1⟩ := run_append_in (P := Try.prog) (R := 27) (n := i) (cap := cap) sl27 (hb.of_eq (w' := drew w) rfl) (h25.ext (Ext.drew w)) (by omega) (by rw [List.length_append, hlen, hdl]; change i * 4 + (xs.length - (i + 1)) * 4 ≤ _; omega)
  rw [hdl, show i + (xs.length - (i + 1)) = xs.length - 1 from by omega] at r1
  refine ⟨_, w1, r1, ?_⟩
  refine pop (pr_len sl27) ?_
  have e31 : pr Try.prog (Instr.sliceAt 27 (.slice (some ⟨b, 0, none⟩) (xs.length - 1) cap) (some (.int .i64 ((xs.length - 1 : Nat) : Int))) (some (.int .i64 (xs.length : Int))) none) = some (.slice (some ⟨b, (xs.length - 1) * 4, none⟩) 1 (cap - (xs.length - 1))) := by
    rw [pr_cut sl27 (l := xs.length - 1) (h := xs.length) (pr_bounds (.inr ⟨_, rfl, by omega, by omega⟩) (.inr ⟨_, rfl, by omega, by omega⟩) (by omega) (by omega)), if_neg (by omega)]
    simp [add_none]; omega
  refine pop e31 ?_
  have hx : xs[i]? = some xs[i] := by simp [hi]
  have hsp := flat_split hx
  have hT : (flat (xs.take i)).length = i * 4 := by rw [flat_length, List.length_take, Nat.min_eq_left (by omega)]; rfl
  have hD : (flat (xs.drop (i + 1))).length = (xs.length - (i + 1)) * 4 := by rw [flat_length, hdl]; rfl
  have hX : (Flat.enc xs[i]).length = 4 := rfl
  have hZ : (flat (List.replicate 1 (⟨0, 0, 0, 0⟩ : Entry))).length = 4 := rfl
  have s1 : setAll (flat xs ++ rest) (i * Flat.sz Entry) (flat (xs.drop (i + 1))) =
      flat (xs.take i) ++ flat (xs.drop (i + 1)) ++ ((Flat.enc xs[i] ++ flat (xs.drop (i + 1))).drop (flat (xs.drop (i + 1))).length ++ rest) := by
    have := setAll_mid (flat (xs.take i)) ((Flat.enc xs[i] ++ flat (xs.drop (i + 1))).take (flat (xs.drop (i + 1))).length)
      ((Flat.enc xs[i] ++ flat (xs.drop (i + 1))).drop (flat (xs.drop (i + 1))).length ++ rest) (flat (xs.drop (i + 1))) (by rw [List.length_take, List.length_append]; omega)
    rw [hT] at this
    change setAll (flat xs ++ rest) (i * 4) _ = _
    rw [← this, hsp]
    congr 1
    simp only [List.append_assoc]
    congr 1
    rw [← List.append_assoc, ← List.append_assoc, List.take_append_drop, List.append_assoc]
  rw [s1] at b1
  obtain ⟨w2, r2, b2, g2⟩ := run_clear (P := Try.prog) (R := 0) (o := (xs.length - 1) * 4) (n := 1) (c := cap - (xs.length - 1)) (z := (⟨0, 0, 0, 0⟩ : Entry)) sl27 zero23 b1
    (by simp only [List.length_append, List.length_drop, hT, hD, hX]; change _ + 1 * 4 ≤ _; omega)
  refine ⟨_, w2, r2, ?_⟩
  have s2 := setAll_mid (flat (xs.take i) ++ flat (xs.drop (i + 1))) ((Flat.enc xs[i] ++ flat (xs.drop (i + 1))).drop (flat (xs.drop (i + 1))).length) rest (flat (List.replicate 1 (⟨0, 0, 0, 0⟩ : Entry)))
    (by rw [List.length_drop, List.length_append, hX, hZ]; omega)
  rw [show (flat (xs.take i) ++ flat (xs.drop (i + 1))).length = (xs.length - 1) * 4 from by rw [List.length_append, hT, hD]; omega, List.append_assoc _ _ rest] at s2
  rw [s2] at b2
  refine ⟨trivial, F, .inr ⟨b, cap, flat (List.replicate 1 (⟨0, 0, 0, 0⟩ : Entry)) ++ rest, ?_, ?_, ?_, hF⟩, fun b hb => .inl hb, ?_⟩
  · rw [List.length_eraseIdx_of_lt hi]
  · rw [List.eraseIdx_eq_take_drop_succ, flat_append, ← List.append_assoc]; exact b2
  · rw [List.eraseIdx_eq_take_drop_succ, flat_append]
    change _ = cap * 4
    change _ = cap * 4 at hl
    rw [List.length_append, hlen] at hl
    simp only [List.length_append, hT, hD, hZ]
    omega
  · exact ((Ext.drew w).chg (A := F)).trans (g1.trans (C := F) g2 (fun k hk => (hF k).2 hk) fun k _ hk => (hF k).2 hk) (fun _ h => h) fun _ _ h => h

theorem C34 (sv : Value) (xs : List Entry) (w : World) (hL : RdL (fun _ => True) w sv xs) (hn : xs.length ≤ 1073741824) : Calls Try.prog 34 [sv].toArray w (Ret fun v w' => New (ownL v xs) w w') := by
  have hL0 := hL
  obtain ⟨a, cap, rfl, hcap, h3⟩ := hL
  have hs := St.start w
  refine S34_ok _ _ _ ?_
  unfold S34
  refine pop_seql (slFact_spec sl27).1 (fun h0 => ?_) ?_
  · rcases h3 with ⟨h, hc⟩ | ⟨b, o, h, _⟩
    · exact ⟨by rw [h]; rfl, hc⟩
    · rw [h0] at h; cases h
  refine cond_b (fun c_x4 => ?_) (fun c_x4 => ?_)
  · skip
    have ha : a = none := by cases a with | none => rfl | some _ => cases c_x4
    have hx : xs = [] := by
      rcases h3 with ⟨h, _⟩ | ⟨b, o, h, _⟩
      · exact h
      · rw [ha] at h; cases h
    subst hx
    exact hs.ownNil.fresh
  · skip
    refine eop_build (([] : List Entry)) hs sl27 rfl rfl (Nat.le_of_ble_eq_true rfl) (fun s_x5 w1 hs => ?_)
    have hr_x7 := (hL0.ext hs.chg)
    refine eop_append hs sl27 hr_x7 (by simp; omega) (by decide) (fun s_x7 w2 hs => ?_)
    exact hs.fresh

theorem C18 (p : Nat) (room : Int) (l : List Entry) (w : World) (hb : BufR w p room l) (hn : l.length ≤ 1073741824) : Calls Try.prog 18 [.pointer (some ⟨p, 0, none⟩)].toArray w (Ret fun v w' => New (ownL v l) w w') := by
  obtain ⟨sv, hc0, hc1, hL⟩ := hb
  have hs := St.start w
  refine S18_ok _ _ _ ?_
  unfold S18
  refine pop_nil ?_
  refine pop_field fld60_1 ?_
  refine qop_cell ty27 (hc1.ext hs.chg) ?_
  refine callF pl34 (C34 _ _ _ (hL.ext hs.chg) (by omega)) ?_
  rintro _ w1 hnew
  replace hs := hs.made hnew
  exact hs.fresh

theorem C19 (a b c : Int) (w : World)  : Calls Try.prog 19 [.int .i64 a, .int .i64 b, .int .i64 c].toArray w (Ret fun v w' => v = Flat.val (⟨3, a, b, c⟩ : Entry) ∧ Ext w w') := by
  have hs := St.start w
  refine S19_ok _ _ _ _ _ ?_
  unfold S19
  refine eop_allocA hs zero23 (fun b_x6 w1 hs => ?_)
  refine pop (bld23_0_1_2_3 _  _  _  _ ) ?_
  refine uop_blkA hs ty23 rfl (by decide) (by simp [oneC, setAll]) (fun w2 hs => ?_)
  refine qop_blkA ty23 hs.hb rfl ?_
  exact ⟨rfl, hs.chg⟩

theorem C26 (a : Int) (w : World)  : Calls Try.prog 26 [.int .i64 a].toArray w (Ret fun v w' => v = Flat.val (⟨6, a, 0, 0⟩ : Entry) ∧ Ext w w') := by
  have hs := St.start w
  refine S26_ok _ _ _ ?_
  unfold S26
  refine eop_allocA hs zero23 (fun b_x2 w1 hs => ?_)
  refine pop (bld23_0_1 _  _ ) ?_
  refine uop_blkA hs ty23 rfl (by decide) (by simp [oneC, setAll]) (fun w2 hs => ?_)
  refine qop_blkA ty23 hs.hb rfl ?_
  exact ⟨rfl, hs.chg⟩

theorem putE_bad {room : Int} {l : List Entry} {x : Entry} (h : right x = false) : putE room l x = 1 := by unfold putE; rw [h]; rfl
theorem putL_bad {room : Int} {l : List Entry} {x : Entry} (h : right x = false) : putL room l x = l := by unfold putL; rw [h]; rfl
theorem putE_full {room : Int} {l : List Entry} {x : Entry} (h : right x = true) (hf : room ≤ l.length) : putE room l x = 2 := by unfold putE; rw [h, if_pos rfl, if_pos hf]
theorem putL_full {room : Int} {l : List Entry} {x : Entry} (hf : room ≤ l.length) : putL room l x = l := by unfold putL; rw [if_neg (fun hh => hh.2 hf)]
theorem putE_ok {room : Int} {l : List Entry} {x : Entry} (h : right x = true) (hf : ¬ room ≤ l.length) : putE room l x = 0 := by unfold putE; rw [h, if_pos rfl, if_neg hf]
theorem putL_ok {room : Int} {l : List Entry} {x : Entry} (h : right x = true) (hf : ¬ room ≤ l.length) : putL room l x = l ++ [x] := by unfold putL; rw [if_pos ⟨h, hf⟩]

theorem C15 (p : Nat) (room : Int) (l : List Entry) (x : Entry) (F : Nat → Prop) (w : World) (hF : (bufO p room l).p w F) (hn : l.length ≤ 1048576) : Calls Try.prog 15 [.pointer (some ⟨p, 0, none⟩), Flat.val x].toArray w (Ret fun v w' => v = .int .i64 (putE room l x) ∧ Mut F (bufO p room (putL room l x)) w w') := by
  have hs := St.begin hF
  obtain ⟨sv, hs⟩ := hs.openEx
  replace hs := hs.split
  refine S15_ok _ _ _ _ ?_
  unfold S15
  refine eop_boxV hs (fun b_x3 w1 hs => ?_)
  refine qop_at ty23 hs.At ?_
  refine callF pl11 (C11 _ _) ?_
  rintro _ w2 ⟨rfl, he⟩
  replace hs := hs.ext he
  refine pop_not ?_
  refine cond_b (fun c_x8 => ?_) (fun c_x8 => ?_)
  · skip
    replace hs := hs.p2
    replace hs := hs.p2
    rw [putE_bad (by simpa using c_x8), putL_bad (by simpa using c_x8)]
    exact ⟨rfl, (bufO.shut hs).mut⟩
  · skip
    refine callF pl21 (C21 _ _ _ _ (BufR.mk' hs.p1.hb hs.p2.rd')) ?_
    rintro _ w3 ⟨rfl, he⟩
    replace hs := hs.ext he
    refine cond_d (fun c_x11 => ?_) (fun c_x11 => ?_)
    · skip
      replace hs := hs.p2
      replace hs := hs.p2
      rw [putE_full (by simpa using c_x8) c_x11, putL_full c_x11]
      exact ⟨rfl, (bufO.shut hs).mut⟩
    · skip
      refine pop_nil ?_
      refine pop_field fld60_1 ?_
      replace hs := hs.drew
      refine qop_blk ty27 hs.p1.hb rfl ?_
      refine qop_at ty23 hs.At ?_
      refine eop_build ([x]) hs sl27 rfl rfl (Nat.le_of_ble_eq_true rfl) (fun s_x18 w4 hs => ?_)
      refine ⟨run_loadOne ty27 (hs.p2.hb.cell rfl), ?_⟩
      have hr_x19 := (hs).rd'
      refine eop_append hs.p3 sl27 hr_x19 (by simp; omega) (by decide) (fun s_x19 w5 hs => ?_)
      replace hs := hs.p1.drop
      refine pop_nil ?_
      refine pop_field fld60_1 ?_
      refine uop_blk hs.p2 ty27 (Nat.le_of_ble_eq_true rfl) ((hs).rd'.one) (fun w6 hs => ?_)
      replace hs := hs.p1
      replace hs := hs.p1
      rw [putE_ok (by simpa using c_x8) c_x11, putL_ok (by simpa using c_x8) c_x11]
      exact ⟨rfl, (bufO.shut hs).mut⟩

theorem takeX_bad {l : List Entry} {i : Int} (h : canB l i = false) : takeX l i = ⟨0, 0, 0, 0⟩ := by unfold takeX; rw [h]; rfl
theorem takeL_bad {l : List Entry} {i : Int} (h : canB l i = false) : takeL l i = l := by unfold takeL; rw [h]; rfl
theorem takeE_bad {l : List Entry} {i : Int} (h : i < 0 ∨ (l.length : Int) ≤ i) : takeE l i = 1 := by unfold takeE; rw [if_neg (by omega)]
theorem takeE_no {l : List Entry} {i : Int} (h0 : 0 ≤ i ∧ i < l.length) (h : canB l i = false) : takeE l i = 13 := by unfold takeE; rw [if_pos h0, h]; rfl
theorem takeE_ok {l : List Entry} {i : Int} (h : canB l i = true) : takeE l i = 0 := by unfold takeE; rw [if_pos (canB_lt h), h]; rfl
theorem takeX_ok {l : List Entry} {i : Int} {x : Entry} (h : canB l i = true) (hx : l[i.toNat]? = some x) : takeX l i = x := by unfold takeX; rw [h, hx]; rfl
theorem takeL_ok {l : List Entry} {i : Int} (h : canB l i = true) : takeL l i = l.eraseIdx i.toNat := by unfold takeL; rw [h]; rfl

theorem C17 (p : Nat) (room : Int) (l : List Entry) (i : Int) (F : Nat → Prop) (w : World) (hF : (bufO p room l).p w F) (hn : l.length ≤ 1048576) : Calls Try.prog 17 [.pointer (some ⟨p, 0, none⟩), .int .i64 i].toArray w (Ret fun v w' => v = .tuple #[Flat.val (takeX l i), .int .i64 (takeE l i)] ∧ Mut F (bufO p room (takeL l i)) w w') := by
  have hs := St.begin hF
  obtain ⟨sv, hs⟩ := hs.openEx
  replace hs := hs.split
  refine S17_ok _ _ _ _ ?_
  unfold S17
  refine eop_allocA hs zero23 (fun b_x4 w1 hs => ?_)
  refine ⟨_, ?_, fun _ _ h => h⟩
  refine pop_lss ?_
  refine cond_d (fun c_x8 => ?_) (fun c_x8 => ?_)
  · skip
    intro dd1
    refine cond_t ?_
    refine pop (bld23_) ?_
    refine uop_blkV (x := (⟨0, 0, 0, 0⟩ : Entry)) hs ty23 rfl rfl (fun w3 hs => ?_)
    refine qop_at ty23 hs.At ?_
    replace hs := hs.p2
    replace hs := hs.p2
    rw [takeX_bad (canB_out (by omega)), takeE_bad (by omega), takeL_bad (canB_out (by omega))]
    exact ⟨rfl, (bufO.shut hs).mut⟩
  · skip
    refine pop_nil ?_
    refine pop_field fld60_1 ?_
    refine qop_blk ty27 hs.p1.hb rfl ?_
    refine pop_len sl27 (hs.p2).rd' ?_
    refine pop_geq ?_
    intro dd1
    refine cond_d (fun c_x17 => ?_) (fun c_x17 => ?_)
    · skip
      refine pop (bld23_) ?_
      refine uop_blkV (x := (⟨0, 0, 0, 0⟩ : Entry)) hs ty23 rfl rfl (fun w3 hs => ?_)
      refine qop_at ty23 hs.At ?_
      replace hs := hs.p2
      replace hs := hs.p2
      rw [takeX_bad (canB_out (by omega)), takeE_bad (by omega), takeL_bad (canB_out (by omega))]
      exact ⟨rfl, (bufO.shut hs).mut⟩
    · skip
      refine callF pl31 (C31 _ _ _ _ _ (BufR.mk' hs.p1.hb hs.p2.rd') (by omega)) ?_
      rintro _ w4 ⟨rfl, he⟩
      replace hs := hs.ext he
      refine pop_not ?_
      refine cond_b (fun c_x22 => ?_) (fun c_x22 => ?_)
      · skip
        refine pop (bld23_) ?_
        refine uop_blkV (x := (⟨0, 0, 0, 0⟩ : Entry)) hs ty23 rfl rfl (fun w5 hs => ?_)
        refine qop_at ty23 hs.At ?_
        replace hs := hs.p2
        replace hs := hs.p2
        rw [takeX_bad (by simpa using c_x22), takeE_no (by omega) (by simpa using c_x22), takeL_bad (by simpa using c_x22)]
        exact ⟨rfl, (bufO.shut hs).mut⟩
      · skip
        refine pop_nil ?_
        refine pop_field fld60_1 ?_
        refine qop_blk ty27 hs.p1.hb rfl ?_
        obtain ⟨e_x29, he_x29⟩ : ∃ x, (l)[(i).toNat]? = some x := ⟨_, List.getElem?_eq_getElem (by omega)⟩
        refine pop_own hs.p2 sl27 (by omega) (by omega) (fun q_x29 h_x29 => ?_)
        refine qop_own hs.p2 ty23 h_x29 he_x29 ?_
        refine eop_allocA hs zero23 (fun b_x6 w6 hs => ?_)
        refine uop_blkV (x := e_x29) hs ty23 rfl rfl (fun w7 hs => ?_)
        refine pop_nil ?_
        refine pop_field fld60_1 ?_
        refine qop_blk ty27 hs.p2.hb rfl ?_
        refine callF pl34 (C34 _ _ _ (hs.p3).rd' (by omega)) ?_
        rintro _ w8 hnew
        replace hs := hs.made hnew
        refine pop_add (by omega) ?_
        refine callMut pl33 hs (H' := fun v => ownL v (l.eraseIdx i.toNat)) (Φ := fun _ _ => True) (fun F hF => ?_) ?_
        · exact C33 _ i _ F _ hF (by omega) (by omega) (by omega)
        rintro x40 w9 _ hs
        refine pop_nil ?_
        refine pop_field fld60_1 ?_
        refine uop_blk hs.p3 ty27 (Nat.le_of_ble_eq_true rfl) ((hs).rd'.one) (fun w10 hs => ?_)
        refine qop_at ty23 hs.p2.At ?_
        refine uop_blkV (x := e_x29) hs.p3 ty23 rfl rfl (fun w11 hs => ?_)
        refine qop_at ty23 hs.At ?_
        replace hs := hs.p2
        replace hs := hs.p2
        rw [takeX_ok (by simpa using c_x22) he_x29, takeE_ok (by simpa using c_x22), takeL_ok (by simpa using c_x22)]
        exact ⟨rfl, (bufO.shut hs).mut⟩

end Go.Proofs.Ytmjijnkndgjdfaa
