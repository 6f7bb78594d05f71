/-
  Entries: what may be, what may leave ahead of what.
-/
import Derived.Test.YtmjijnkndgjdfaaSh
import Derived.Test.YtmjijnkndgjdfaaTy
import Derived.Test.YtmjijnkndgjdfaaFw10
namespace Go.Proofs.Ytmjijnkndgjdfaa
open Go.Fw

@[ext] structure Entry where
  kind : Int
  line : Int
  cell : Int
  n : Int
deriving DecidableEq
instance : Flat Entry where
  agg := true
  sz := 4
  enc e := [.int .i64 e.kind, .int .i64 e.line, .int .i64 e.cell, .int .i64 e.n]
  val e := .agg [.int .i64 e.kind, .int .i64 e.line, .int .i64 e.cell, .int .i64 e.n].toArray
  pos := by decide
  len _ := rfl
  one a v h := by simp at h; rcases h with rfl | rfl | rfl | rfl <;> rfl
  vagg _ _ := rfl
  vone h := by cases h

/-- May x leave ahead of y? -/
def passes (x y : Entry) : Bool := decide (x.kind ≠ 7 ∧ y.kind ≠ 7 ∧ (x.kind = 6 ∨ y.kind = 6) ∧ x.line ≠ y.line)
/-- May it be? -/
def right (x : Entry) : Bool := decide ((x.kind = 3 ∧ 0 ≤ x.line ∧ 0 ≤ x.cell) ∨ ((x.kind = 5 ∨ x.kind = 6) ∧ 0 ≤ x.line ∧ x.cell = 0 ∧ x.n = 0) ∨ (x.kind = 7 ∧ x.line = 0 ∧ x.cell = 0 ∧ x.n = 0))

theorem C9 (x y : Entry) (w : World)  : Calls Try.prog 9 [Flat.val x, Flat.val y].toArray w (Ret fun v w' => v = .bool (passes x y) ∧ Ext w w') := by
  have hs := St.start w
  refine S9_ok _ _ _ _ ?_
  unfold S9
  refine eop_boxV hs (fun b_x2 w1 hs => ?_)
  refine eop_boxV hs (fun b_ahead3 w2 hs => ?_)
  refine ⟨_, ?_, fun _ _ h => h⟩
  refine pop_field fld23_0 ?_
  refine qop_blk ty3 hs.p1.hb rfl ?_
  refine pop_eql ?_
  refine cond_d (fun c_x8 => ?_) (fun c_x8 => ?_)
  · skip
    intro dd1
    refine ⟨_, ?_, fun _ _ h => h⟩
    refine pop_not ?_
    refine cond_f ?_
    intro dd2
    refine ⟨congrArg Value.bool ?_, hs.chg⟩
    unfold passes
    first | exact (decide_eq_true (by omega)).symm | exact (decide_eq_false (by omega)).symm | exact decide_eq_decide.2 (by omega) | exact decide_eq_decide.2 (Entry.ext_iff.trans (by dsimp only; omega))
  · skip
    refine pop_field fld23_0 ?_
    refine qop_blk ty3 hs.hb rfl ?_
    refine pop_eql ?_
    intro dd1
    refine ⟨_, ?_, fun _ _ h => h⟩
    first | refine pop_notd ?_ | refine pop_not ?_
    refine cond_d (fun c_x15 => ?_) (fun c_x15 => ?_)
    · skip
      refine pop_field fld23_0 ?_
      refine qop_blk ty3 hs.p1.hb rfl ?_
      refine pop_eql ?_
      refine cond_d (fun c_x19 => ?_) (fun c_x19 => ?_)
      · skip
        refine pop_field fld23_1 ?_
        refine qop_blk ty3 hs.p1.hb rfl ?_
        refine pop_field fld23_1 ?_
        refine qop_blk ty3 hs.hb rfl ?_
        refine pop_neq ?_
        intro dd2
        refine ⟨congrArg Value.bool ?_, hs.chg⟩
        unfold passes
        first | exact (decide_eq_true (by omega)).symm | exact (decide_eq_false (by omega)).symm | exact decide_eq_decide.2 (by omega) | exact decide_eq_decide.2 (Entry.ext_iff.trans (by dsimp only; omega))
      · skip
        refine pop_field fld23_0 ?_
        refine qop_blk ty3 hs.hb rfl ?_
        refine pop_eql ?_
        refine cond_d (fun c_x23 => ?_) (fun c_x23 => ?_)
        · skip
          refine pop_field fld23_1 ?_
          refine qop_blk ty3 hs.p1.hb rfl ?_
          refine pop_field fld23_1 ?_
          refine qop_blk ty3 hs.hb rfl ?_
          refine pop_neq ?_
          intro dd2
          refine ⟨congrArg Value.bool ?_, hs.chg⟩
          unfold passes
          first | exact (decide_eq_true (by omega)).symm | exact (decide_eq_false (by omega)).symm | exact decide_eq_decide.2 (by omega) | exact decide_eq_decide.2 (Entry.ext_iff.trans (by dsimp only; omega))
        · skip
          intro dd2
          refine ⟨congrArg Value.bool ?_, hs.chg⟩
          unfold passes
          first | exact (decide_eq_true (by omega)).symm | exact (decide_eq_false (by omega)).symm | exact decide_eq_decide.2 (by omega) | exact decide_eq_decide.2 (Entry.ext_iff.trans (by dsimp only; omega))
    · skip
      intro dd2
      refine ⟨congrArg Value.bool ?_, hs.chg⟩
      unfold passes
      first | exact (decide_eq_true (by omega)).symm | exact (decide_eq_false (by omega)).symm | exact decide_eq_decide.2 (by omega) | exact decide_eq_decide.2 (Entry.ext_iff.trans (by dsimp only; omega))

theorem C10 (x y : Entry) (w : World)  : Calls Try.prog 10 [Flat.val x, Flat.val y].toArray w (Ret fun v w' => v = .bool (passes x y) ∧ Ext w w') := by
  have hs := St.start w
  refine S10_ok _ _ _ _ ?_
  unfold S10
  refine eop_boxV hs (fun b_x2 w1 hs => ?_)
  refine eop_boxV hs (fun b_y3 w2 hs => ?_)
  refine ⟨_, ?_, fun _ _ h => h⟩
  refine pop_field fld23_0 ?_
  refine qop_blk ty3 hs.p1.hb rfl ?_
  refine pop_eql ?_
  refine cond_d (fun c_x7 => ?_) (fun c_x7 => ?_)
  · skip
    intro dd1
    refine cond_t ?_
    refine ⟨congrArg Value.bool ?_, hs.chg⟩
    unfold passes
    first | exact (decide_eq_true (by omega)).symm | exact (decide_eq_false (by omega)).symm | exact decide_eq_decide.2 (by omega) | exact decide_eq_decide.2 (Entry.ext_iff.trans (by dsimp only; omega))
  · skip
    refine pop_field fld23_0 ?_
    refine qop_blk ty3 hs.hb rfl ?_
    refine pop_eql ?_
    refine cond_d (fun c_x11 => ?_) (fun c_x11 => ?_)
    · skip
      intro dd1
      refine cond_t ?_
      refine ⟨congrArg Value.bool ?_, hs.chg⟩
      unfold passes
      first | exact (decide_eq_true (by omega)).symm | exact (decide_eq_false (by omega)).symm | exact decide_eq_decide.2 (by omega) | exact decide_eq_decide.2 (Entry.ext_iff.trans (by dsimp only; omega))
    · skip
      refine pop_field fld23_1 ?_
      refine qop_blk ty3 hs.p1.hb rfl ?_
      refine pop_field fld23_1 ?_
      refine qop_blk ty3 hs.hb rfl ?_
      refine pop_eql ?_
      intro dd1
      refine cond_d (fun c_x19 => ?_) (fun c_x19 => ?_)
      · skip
        refine ⟨congrArg Value.bool ?_, hs.chg⟩
        unfold passes
        first | exact (decide_eq_true (by omega)).symm | exact (decide_eq_false (by omega)).symm | exact decide_eq_decide.2 (by omega) | exact decide_eq_decide.2 (Entry.ext_iff.trans (by dsimp only; omega))
      · skip
        refine ⟨_, ?_, fun _ _ h => h⟩
        refine pop_field fld23_0 ?_
        refine qop_blk ty3 hs.p1.hb rfl ?_
        refine pop_eql ?_
        refine cond_d (fun c_x22 => ?_) (fun c_x22 => ?_)
        · skip
          intro dd2
          refine ⟨congrArg Value.bool ?_, hs.chg⟩
          unfold passes
          first | exact (decide_eq_true (by omega)).symm | exact (decide_eq_false (by omega)).symm | exact decide_eq_decide.2 (by omega) | exact decide_eq_decide.2 (Entry.ext_iff.trans (by dsimp only; omega))
        · skip
          refine pop_field fld23_0 ?_
          refine qop_blk ty3 hs.hb rfl ?_
          refine pop_eql ?_
          intro dd2
          refine ⟨congrArg Value.bool ?_, hs.chg⟩
          unfold passes
          first | exact (decide_eq_true (by omega)).symm | exact (decide_eq_false (by omega)).symm | exact decide_eq_decide.2 (by omega) | exact decide_eq_decide.2 (Entry.ext_iff.trans (by dsimp only; omega))

theorem eqE (x y : Entry) : eqAll (Flat.enc x) (Flat.enc y) = decide (x = y) := by
  obtain ⟨a, b, c, d⟩ := x
  obtain ⟨a2, b2, c2, d2⟩ := y
  simp [Flat.enc, eqAll, eqV, Bool.eq_iff_iff]

theorem C11 (x : Entry) (w : World)  : Calls Try.prog 11 [Flat.val x].toArray w (Ret fun v w' => v = .bool (right x) ∧ Ext w w') := by
  have hs := St.start w
  refine S11_ok _ _ _ ?_
  unfold S11
  refine eop_boxV hs (fun b_x1 w1 hs => ?_)
  refine pop_field fld23_0 ?_
  refine qop_blk ty3 hs.hb rfl ?_
  refine pop_eql ?_
  refine cond_d (fun c_x6 => ?_) (fun c_x6 => ?_)
  · skip
    refine ⟨_, ?_, fun _ _ h => h⟩
    refine pop_field fld23_1 ?_
    refine qop_blk ty3 hs.hb rfl ?_
    refine pop_geq ?_
    refine cond_d (fun c_x9 => ?_) (fun c_x9 => ?_)
    · skip
      refine pop_field fld23_2 ?_
      refine qop_blk ty3 hs.hb rfl ?_
      refine pop_geq ?_
      intro dd1
      refine ⟨congrArg Value.bool ?_, hs.chg⟩
      unfold right
      first | exact (decide_eq_true (by omega)).symm | exact (decide_eq_false (by omega)).symm | exact decide_eq_decide.2 (by omega) | exact decide_eq_decide.2 (Entry.ext_iff.trans (by dsimp only; omega))
    · skip
      intro dd1
      refine ⟨congrArg Value.bool ?_, hs.chg⟩
      unfold right
      first | exact (decide_eq_true (by omega)).symm | exact (decide_eq_false (by omega)).symm | exact decide_eq_decide.2 (by omega) | exact decide_eq_decide.2 (Entry.ext_iff.trans (by dsimp only; omega))
  · skip
    refine ⟨_, ?_, fun _ _ h => h⟩
    refine pop_eql ?_
    refine cond_d (fun c_x16 => ?_) (fun c_x16 => ?_)
    · skip
      intro dd2
      refine cond_d (fun c_x15 => ?_) (fun c_x15 => ?_)
      · skip
        refine ⟨_, ?_, fun _ _ h => h⟩
        refine pop_field fld23_1 ?_
        refine qop_blk ty3 hs.hb rfl ?_
        refine pop_geq ?_
        refine cond_d (fun c_x20 => ?_) (fun c_x20 => ?_)
        · skip
          refine pop_field fld23_2 ?_
          refine qop_blk ty3 hs.hb rfl ?_
          refine pop_eql ?_
          refine cond_d (fun c_x24 => ?_) (fun c_x24 => ?_)
          · skip
            refine pop_field fld23_3 ?_
            refine qop_blk ty3 hs.hb rfl ?_
            refine pop_eql ?_
            intro dd3
            refine ⟨congrArg Value.bool ?_, hs.chg⟩
            unfold right
            first | exact (decide_eq_true (by omega)).symm | exact (decide_eq_false (by omega)).symm | exact decide_eq_decide.2 (by omega) | exact decide_eq_decide.2 (Entry.ext_iff.trans (by dsimp only; omega))
          · skip
            intro dd3
            refine ⟨congrArg Value.bool ?_, hs.chg⟩
            unfold right
            first | exact (decide_eq_true (by omega)).symm | exact (decide_eq_false (by omega)).symm | exact decide_eq_decide.2 (by omega) | exact decide_eq_decide.2 (Entry.ext_iff.trans (by dsimp only; omega))
        · skip
          intro dd3
          refine ⟨congrArg Value.bool ?_, hs.chg⟩
          unfold right
          first | exact (decide_eq_true (by omega)).symm | exact (decide_eq_false (by omega)).symm | exact decide_eq_decide.2 (by omega) | exact decide_eq_decide.2 (Entry.ext_iff.trans (by dsimp only; omega))
      · skip
        refine qop_at ty23 hs.At ?_
        refine pop (bld23_0 _ ) ?_
        refine pop_steqD eqf23 rfl rfl (eqE x ⟨7, 0, 0, 0⟩) ?_
        refine ⟨congrArg Value.bool ?_, hs.chg⟩
        unfold right
        first | exact (decide_eq_true (by omega)).symm | exact (decide_eq_false (by omega)).symm | exact decide_eq_decide.2 (by omega) | exact decide_eq_decide.2 (Entry.ext_iff.trans (by dsimp only; omega))
    · skip
      refine pop_eql ?_
      intro dd2
      refine cond_d (fun c_x15 => ?_) (fun c_x15 => ?_)
      · skip
        refine ⟨_, ?_, fun _ _ h => h⟩
        refine pop_field fld23_1 ?_
        refine qop_blk ty3 hs.hb rfl ?_
        refine pop_geq ?_
        refine cond_d (fun c_x20 => ?_) (fun c_x20 => ?_)
        · skip
          refine pop_field fld23_2 ?_
          refine qop_blk ty3 hs.hb rfl ?_
          refine pop_eql ?_
          refine cond_d (fun c_x24 => ?_) (fun c_x24 => ?_)
          · skip
            refine pop_field fld23_3 ?_
            refine qop_blk ty3 hs.hb rfl ?_
            refine pop_eql ?_
            intro dd3
            refine ⟨congrArg Value.bool ?_, hs.chg⟩
            unfold right
            first | exact (decide_eq_true (by omega)).symm | exact (decide_eq_false (by omega)).symm | exact decide_eq_decide.2 (by omega) | exact decide_eq_decide.2 (Entry.ext_iff.trans (by dsimp only; omega))
          · skip
            intro dd3
            refine ⟨congrArg Value.bool ?_, hs.chg⟩
            unfold right
            first | exact (decide_eq_true (by omega)).symm | exact (decide_eq_false (by omega)).symm | exact decide_eq_decide.2 (by omega) | exact decide_eq_decide.2 (Entry.ext_iff.trans (by dsimp only; omega))
        · skip
          intro dd3
          refine ⟨congrArg Value.bool ?_, hs.chg⟩
          unfold right
          first | exact (decide_eq_true (by omega)).symm | exact (decide_eq_false (by omega)).symm | exact decide_eq_decide.2 (by omega) | exact decide_eq_decide.2 (Entry.ext_iff.trans (by dsimp only; omega))
      · skip
        refine qop_at ty23 hs.At ?_
        refine pop (bld23_0 _ ) ?_
        refine pop_steqD eqf23 rfl rfl (eqE x ⟨7, 0, 0, 0⟩) ?_
        refine ⟨congrArg Value.bool ?_, hs.chg⟩
        unfold right
        first | exact (decide_eq_true (by omega)).symm | exact (decide_eq_false (by omega)).symm | exact decide_eq_decide.2 (by omega) | exact decide_eq_decide.2 (Entry.ext_iff.trans (by dsimp only; omega))

theorem C12 (x : Entry) (w : World)  : Calls Try.prog 12 [Flat.val x].toArray w (Ret fun v w' => v = .bool (right x) ∧ Ext w w') := by
  have hs := St.start w
  refine S12_ok _ _ _ ?_
  unfold S12
  refine eop_boxV hs (fun b_x1 w1 hs => ?_)
  refine pop_field fld23_0 ?_
  refine qop_blk ty3 hs.hb rfl ?_
  refine pop_eql ?_
  refine cond_d (fun c_x5 => ?_) (fun c_x5 => ?_)
  · skip
    refine ⟨_, ?_, fun _ _ h => h⟩
    refine pop_field fld23_1 ?_
    refine qop_blk ty3 hs.hb rfl ?_
    refine pop_geq ?_
    refine cond_d (fun c_x8 => ?_) (fun c_x8 => ?_)
    · skip
      refine pop_field fld23_2 ?_
      refine qop_blk ty3 hs.hb rfl ?_
      refine pop_geq ?_
      intro dd1
      refine ⟨congrArg Value.bool ?_, hs.chg⟩
      unfold right
      first | exact (decide_eq_true (by omega)).symm | exact (decide_eq_false (by omega)).symm | exact decide_eq_decide.2 (by omega) | exact decide_eq_decide.2 (Entry.ext_iff.trans (by dsimp only; omega))
    · skip
      intro dd1
      refine ⟨congrArg Value.bool ?_, hs.chg⟩
      unfold right
      first | exact (decide_eq_true (by omega)).symm | exact (decide_eq_false (by omega)).symm | exact decide_eq_decide.2 (by omega) | exact decide_eq_decide.2 (Entry.ext_iff.trans (by dsimp only; omega))
  · skip
    refine ⟨_, ?_, fun _ _ h => h⟩
    refine pop_field fld23_2 ?_
    refine qop_blk ty3 hs.hb rfl ?_
    refine pop_neq ?_
    refine cond_d (fun c_x16 => ?_) (fun c_x16 => ?_)
    · skip
      intro dd2
      refine cond_t ?_
      refine ⟨congrArg Value.bool ?_, hs.chg⟩
      unfold right
      first | exact (decide_eq_true (by omega)).symm | exact (decide_eq_false (by omega)).symm | exact decide_eq_decide.2 (by omega) | exact decide_eq_decide.2 (Entry.ext_iff.trans (by dsimp only; omega))
    · skip
      refine pop_field fld23_3 ?_
      refine qop_blk ty3 hs.hb rfl ?_
      refine pop_neq ?_
      intro dd2
      refine cond_d (fun c_x21 => ?_) (fun c_x21 => ?_)
      · skip
        refine ⟨congrArg Value.bool ?_, hs.chg⟩
        unfold right
        first | exact (decide_eq_true (by omega)).symm | exact (decide_eq_false (by omega)).symm | exact decide_eq_decide.2 (by omega) | exact decide_eq_decide.2 (Entry.ext_iff.trans (by dsimp only; omega))
      · skip
        refine ⟨_, ?_, fun _ _ h => h⟩
        refine pop_field fld23_0 ?_
        refine qop_blk ty3 hs.hb rfl ?_
        refine pop_eql ?_
        refine cond_d (fun c_x24 => ?_) (fun c_x24 => ?_)
        · skip
          refine pop_field fld23_1 ?_
          refine qop_blk ty3 hs.hb rfl ?_
          refine pop_geq ?_
          refine cond_d (fun c_x33 => ?_) (fun c_x33 => ?_)
          · skip
            intro dd3
            refine ⟨congrArg Value.bool ?_, hs.chg⟩
            unfold right
            first | exact (decide_eq_true (by omega)).symm | exact (decide_eq_false (by omega)).symm | exact decide_eq_decide.2 (by omega) | exact decide_eq_decide.2 (Entry.ext_iff.trans (by dsimp only; omega))
          · skip
            refine pop_field fld23_0 ?_
            refine qop_blk ty3 hs.hb rfl ?_
            refine pop_eql ?_
            refine cond_d (fun c_x38 => ?_) (fun c_x38 => ?_)
            · skip
              refine pop_field fld23_1 ?_
              refine qop_blk ty3 hs.hb rfl ?_
              refine pop_eql ?_
              intro dd3
              refine ⟨congrArg Value.bool ?_, hs.chg⟩
              unfold right
              first | exact (decide_eq_true (by omega)).symm | exact (decide_eq_false (by omega)).symm | exact decide_eq_decide.2 (by omega) | exact decide_eq_decide.2 (Entry.ext_iff.trans (by dsimp only; omega))
            · skip
              intro dd3
              refine ⟨congrArg Value.bool ?_, hs.chg⟩
              unfold right
              first | exact (decide_eq_true (by omega)).symm | exact (decide_eq_false (by omega)).symm | exact decide_eq_decide.2 (by omega) | exact decide_eq_decide.2 (Entry.ext_iff.trans (by dsimp only; omega))
        · skip
          refine pop_field fld23_0 ?_
          refine qop_blk ty3 hs.hb rfl ?_
          refine pop_eql ?_
          refine cond_d (fun c_x28 => ?_) (fun c_x28 => ?_)
          · skip
            refine pop_field fld23_1 ?_
            refine qop_blk ty3 hs.hb rfl ?_
            refine pop_geq ?_
            refine cond_d (fun c_x33_1 => ?_) (fun c_x33_1 => ?_)
            · skip
              intro dd3
              refine ⟨congrArg Value.bool ?_, hs.chg⟩
              unfold right
              first | exact (decide_eq_true (by omega)).symm | exact (decide_eq_false (by omega)).symm | exact decide_eq_decide.2 (by omega) | exact decide_eq_decide.2 (Entry.ext_iff.trans (by dsimp only; omega))
            · skip
              refine pop_field fld23_0 ?_
              refine qop_blk ty3 hs.hb rfl ?_
              refine pop_eql ?_
              refine cond_d (fun c_x38_1 => ?_) (fun c_x38_1 => ?_)
              · skip
                refine pop_field fld23_1 ?_
                refine qop_blk ty3 hs.hb rfl ?_
                refine pop_eql ?_
                intro dd3
                refine ⟨congrArg Value.bool ?_, hs.chg⟩
                unfold right
                first | exact (decide_eq_true (by omega)).symm | exact (decide_eq_false (by omega)).symm | exact decide_eq_decide.2 (by omega) | exact decide_eq_decide.2 (Entry.ext_iff.trans (by dsimp only; omega))
              · skip
                intro dd3
                refine ⟨congrArg Value.bool ?_, hs.chg⟩
                unfold right
                first | exact (decide_eq_true (by omega)).symm | exact (decide_eq_false (by omega)).symm | exact decide_eq_decide.2 (by omega) | exact decide_eq_decide.2 (Entry.ext_iff.trans (by dsimp only; omega))
          · skip
            refine pop_field fld23_0 ?_
            refine qop_blk ty3 hs.hb rfl ?_
            refine pop_eql ?_
            refine cond_d (fun c_x38_2 => ?_) (fun c_x38_2 => ?_)
            · skip
              refine pop_field fld23_1 ?_
              refine qop_blk ty3 hs.hb rfl ?_
              refine pop_eql ?_
              intro dd3
              refine ⟨congrArg Value.bool ?_, hs.chg⟩
              unfold right
              first | exact (decide_eq_true (by omega)).symm | exact (decide_eq_false (by omega)).symm | exact decide_eq_decide.2 (by omega) | exact decide_eq_decide.2 (Entry.ext_iff.trans (by dsimp only; omega))
            · skip
              intro dd3
              refine ⟨congrArg Value.bool ?_, hs.chg⟩
              unfold right
              first | exact (decide_eq_true (by omega)).symm | exact (decide_eq_false (by omega)).symm | exact decide_eq_decide.2 (by omega) | exact decide_eq_decide.2 (Entry.ext_iff.trans (by dsimp only; omega))

end Go.Proofs.Ytmjijnkndgjdfaa
