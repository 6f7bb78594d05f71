/-
  Proved: BufferTells returns true for every input, and the input reads as it did. No condition.
-/
import Derived.Test.YtmjijnkndgjdfaaR
import Derived.Test.YtmjijnkndgjdfaaRows
import Derived.KernelRfl
namespace Go.Proofs.Ytmjijnkndgjdfaa
open Go.Fw

theorem C3 (x y : Entry) (w : World)  : Calls Try.prog 3 [Flat.val x, Flat.val y].toArray w (Ret fun v w' => v = .bool true ∧ Ext w w') := by
  have hs := St.start w
  refine S3_ok _ _ _ _ ?_
  unfold S3
  refine eop_boxV hs (fun b_x2 w1 hs => ?_)
  refine eop_boxV hs (fun b_y3 w2 hs => ?_)
  refine ⟨_, ?_, fun _ _ h => h⟩
  replace hs := hs.drew
  refine qop_at ty23 hs.p1.At ?_
  refine qop_at ty23 hs.At ?_
  refine qop_at ty23 hs.p1.At ?_
  refine qop_at ty23 hs.At ?_
  refine callF pl9 (C9 x y _) ?_
  rintro _ w3 ⟨rfl, he⟩
  replace hs := hs.ext he
  refine ⟨run_at ty23 hs.p1.At, ?_⟩
  refine ⟨run_at ty23 hs.At, ?_⟩
  refine callF pl10 (C10 x y _) ?_
  rintro _ w4 ⟨rfl, he⟩
  replace hs := hs.ext he
  refine pop_beql und4 ?_
  refine cond_yb (by simp) ?_
  refine qop_at ty23 hs.p1.At ?_
  refine qop_at ty23 hs.p1.At ?_
  refine callF pl11 (C11 x _) ?_
  rintro _ w5 ⟨rfl, he⟩
  replace hs := hs.ext he
  refine ⟨run_at ty23 hs.p1.At, ?_⟩
  refine callF pl12 (C12 x _) ?_
  rintro _ w6 ⟨rfl, he⟩
  replace hs := hs.ext he
  refine pop_beql und4 ?_
  refine cond_yb (by simp) ?_
  refine callF pl13 (C13 _) ?_
  rintro _ w7 ⟨rfl, he⟩
  replace hs := hs.ext he
  intro dd1
  exact ⟨rfl, hs.chg⟩

namespace bufferTells
open Go.ChangeShapes Go.WideShapes Go.ChangeAt Go.RowKit
theorem contract (H : Type) (enc : TypeId × Value → H) (W : World) (base : Nat) (args : Array Value) (ds gs : List (DataW H)) (before : List MemPlace)
    (hval : ∀ (j : Nat) t v, Try.f3.params[j]? = some t → args[j]? = some v → Value.okWide Try.prog W .any base t v)
    (hW : DataW.Whole enc Try.prog Try.f3.params.toList Rows.bufferTellsSpec.vars false W args.toList ds gs before) :
    Calls Try.prog 3 args W fun e W' => ∃ v, e = .returned v ∧ Rows.bufferTellsSpec.post enc Try.prog Try.f3 false true false false W args v W' := by
  have hW' := hW
  obtain ⟨p, q, hA0, hV, _, _, _⟩ := hW
  have hA : DataW.TrodAll enc Try.prog W 0 (fun _ => true) true Try.f3.params.toList args.toList ds p := hA0
  rw [Try.params3] at hA hval
  obtain ⟨v0, vs0, d0, ds0, p0, q0, hargs, hds, _, h0, r0⟩ := trodAll_cons hA
  obtain ⟨v1, vs1, d1, ds1, p1, q1, rfl, rfl, _, h1, r1⟩ := trodAll_cons r0
  obtain ⟨rfl, rfl, _⟩ := trodAll_nil r1
  obtain rfl : args = #[v0, v1] := by cases args; simp_all
  obtain ⟨x, rfl, ok_x⟩ := open_agg Try.underlying23 rfl rdE (hval 0 23 v0 rfl rfl) h0
  obtain ⟨y, rfl, ok_y⟩ := open_agg Try.underlying23 rfl rdE (hval 1 23 v1 rfl rfl) h1
  refine (C3 x y W).mono fun e W' ⟨v, he, hv, hext⟩ => ?_
  subst hv
  refine ⟨_, he, post_true rfl (fun ds h => ?_) rfl Try.underlying4 (by kernel_rfl) (by kernel_rfl) hW' hext.below⟩
  match ds, h with
  | [e0, e1], _ => rfl
set_option maxRecDepth 100000 in
theorem lifted (os : Os) (started : os.Started) (H : Type) (enc : TypeId × Value → H) :
    ReturnsInHanded {} Try.checked os 3 .any (Rows.bufferTellsSpec.pre6 enc Try.prog Try.f3 Rows.bufferTellsRow.domain false) (Rows.bufferTellsSpec.post enc Try.prog Try.f3 false true false false) := by
  refine returnsInHanded_of_change (C := Try.checked) own started (by kernel_rfl) Try.func3
    (ChangeSpec.witness6 (enc := enc) (C := Try.checked) false ⟨#[], #[.agg [.int .i64 0, .int .i64 0, .int .i64 0, .int .i64 0].toArray, .agg [.int .i64 0, .int .i64 0, .int .i64 0, .int .i64 0].toArray], []⟩ 8 (by kernel_rfl) (by kernel_rfl) (by kernel_rfl) (by kernel_rfl)) ?_
  intro W base args ds gs before hval hW _ _
  exact contract H enc W base args ds gs before hval hW
/-- The statement. -/
theorem proved : Rows.BufferTellsSaid :=
  OpenClaim.holds_of_wide 3 Try.f3 rfl rfl rfl rfl rfl rfl rfl ⟨rfl, rfl, rfl, rfl, rfl⟩ rfl rfl rfl rfl rfl (by kernel_rfl) Try.func3 (by kernel_rfl)
    (of_decide_eq_true (by kernel_rfl)) (by unfold Func.isWrapper; first | (rw [if_pos (by decide +kernel)]; kernel_rfl) | (rw [if_neg (by decide +kernel)]; exact ⟨rfl, rfl⟩))
    (fun os started H enc _ => lifted os started H enc)
end bufferTells

end Go.Proofs.Ytmjijnkndgjdfaa
