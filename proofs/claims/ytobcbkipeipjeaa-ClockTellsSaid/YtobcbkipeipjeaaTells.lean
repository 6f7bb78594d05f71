/-
  Proved: ClockTells returns true for every input, and the input reads as it did. No condition.
-/
import Derived.Test.YtobcbkipeipjeaaL
import Derived.Test.YtobcbkipeipjeaaFw19
import Derived.Test.YtobcbkipeipjeaaRows
import Derived.KernelRfl
namespace Go.Proofs.Ytobcbkipeipjeaa
open Go.Fw

structure Three where
  a : Int
  b : Int
  c : Int
instance : Flat Three where
  agg := true
  sz := 3
  enc e := [.int .i64 e.a, .int .i64 e.b, .int .i64 e.c]
  val e := .agg [.int .i64 e.a, .int .i64 e.b, .int .i64 e.c].toArray
  pos := by decide
  len _ := rfl
  one a v h := by simp at h; rcases h with rfl | rfl | rfl <;> rfl
  vagg _ _ := rfl
  vone h := by cases h
theorem arr24 : ArrT Try.prog 24 3 3 := ⟨by kernel_rfl, by kernel_rfl⟩
def ThreeOk (e : Three) : Prop := i64ok e.a ∧ i64ok e.b ∧ i64ok e.c
theorem rdH : RdT Try.prog 24 Three ThreeOk := ⟨by kernel_rfl, fun enc w base sp held fuel cs x h => by
  obtain ⟨xs, n, _, _, hl, hs, hf⟩ := DataW.trod_array Try.underlying24 h
  have hc : Try.prog.cellsOf 3 = 1 := by kernel_rfl
  have g : ∀ i, i < 3 → ∃ y, DataW.trod enc Try.prog w base sp held n 3 ((cs.drop i).take 1) = some y := fun i hi => by
    have := hf i hi
    rw [hc, Nat.mul_one] at this
    exact ⟨xs[i]'(by omega), by rw [this, List.getElem?_eq_getElem (by omega)]⟩
  obtain ⟨y0, h0⟩ := g 0 (by omega)
  obtain ⟨y1, h1⟩ := g 1 (by omega)
  obtain ⟨y2, h2⟩ := g 2 (by omega)
  obtain ⟨a0, e0, k0⟩ := rdI.rd enc w base sp held n _ _ h0
  obtain ⟨a1, e1, k1⟩ := rdI.rd enc w base sp held n _ _ h1
  obtain ⟨a2, e2, k2⟩ := rdI.rd enc w base sp held n _ _ h2
  have s0 := part_step (s := 1) e0
  have s1 := part_step (s := 1) e1
  have s2 := part_step (s := 1) e2
  have hz : cs.drop 3 = [] := List.drop_eq_nil_iff.2 (by rw [hl]; exact Nat.le_of_eq (by kernel_rfl))
  refine ⟨⟨a0, a1, a2⟩, ?_, k0, k1, k2⟩
  have e : cs = cs.drop 0 := rfl
  rw [e]
  refine s0.trans ?_
  refine (congrArg _ s1).trans ?_
  refine (congrArg _ (congrArg _ s2)).trans ?_
  exact (congrArg _ (congrArg _ (congrArg _ hz)))⟩
theorem C3 (sv ov : Value) (xs : List Event) (of : List Int) (nn : Three) (w : World) (hL : RdL (fun _ => True) w sv xs) (hO : RdL (fun _ => True) w ov of) : Calls Try.prog 3 [sv, ov, Flat.val nn].toArray w (Ret fun v w' => v = .bool true ∧ Ext w w') := by
  have hs := St.start w
  refine S3_ok _ _ _ _ _ ?_
  unfold S3
  refine eop_boxV hs (fun b_n5 w1 hs => ?_)
  refine callF pl9 (C9 _ xs _ (hL.ext hs.chg)) ?_
  rintro x9 w2 ⟨hq_x9, he⟩
  replace hs := hs.ext he
  have hr_x9 := hq_x9 _ hL
  refine pop_len sl23 (hO.ext hs.chg) ?_
  refine pop_min ?_
  refine pop_cutHi' sl23 (hO.ext hs.chg) (by omega) (by omega) (fun s_x14 hq_x14 => ?_)
  have hr_x14 := hq_x14 _ hO
  refine pop_ixA arr24 (by omega) (by omega) ?_
  refine qop_blk ty3 hs.hb rfl ?_
  refine callF pl10 (C10' _ _ (xs.take 40) (of.take (min (of.length : Int) 20).toNat) (nn).a _ (hr_x9.ext hs.chg) (hr_x14.ext hs.chg) (by rw [List.length_take]; omega)) ?_
  rintro x19 w3 hnew
  replace hs := hs.made hnew
  obtain ⟨ss_x19, hs⟩ := ownLL.open hs
  refine ⟨_, ?_, fun _ _ h => h⟩
  refine pop_ixA arr24 (by omega) (by omega) ?_
  replace hs := hs.drew
  refine qop_blk ty3 hs.p2.hb rfl ?_
  refine callF pl12 (C12' _ _ (xs.take 40) (of.take (min (of.length : Int) 20).toNat) (nn).a _ (hr_x9.ext hs.chg) (hr_x14.ext hs.chg) (by rw [List.length_take]; omega)) ?_
  rintro x25 w4 hnew
  replace hs := hs.made hnew
  obtain ⟨ss_x25, hs⟩ := ownLL.open hs
  refine callF pl11 (C11 _ _ _ _ _ (RdLL.of hs.p2 hs.p3) (RdLL.of hs hs.p1) (by have := clkF_bound (of.take (min (of.length : Int) 20).toNat) (nn.a) (xs.take 40); rw [List.length_take] at this; omega) (fun x hx => by have := clkF_row _ _ _ x hx; omega)) ?_
  rintro _ w5 ⟨rfl, he⟩
  replace hs := hs.ext he
  refine cond_yb (by simp) ?_
  refine pop_ixA arr24 (by omega) (by omega) ?_
  refine qop_blk ty3 hs.p4.hb rfl ?_
  refine pop_ixA arr24 (by omega) (by omega) ?_
  refine qop_blk ty3 hs.p4.hb rfl ?_
  refine callF pl14 (C14' _ _ (xs.take 40) (of.take (min (of.length : Int) 20).toNat) (nn).a _ (hr_x9.ext hs.chg) (hr_x14.ext hs.chg) (by rw [List.length_take]; omega)) ?_
  rintro x32 w6 hnew
  replace hs := hs.made hnew
  refine ⟨run_loadOne ty3 (hs.p5.hb.cell rfl), ?_⟩
  refine callF pl15 (C15' _ _ (xs.take 40) (of.take (min (of.length : Int) 20).toNat) (nn).a _ (hr_x9.ext hs.chg) (hr_x14.ext hs.chg) (by rw [List.length_take]; omega)) ?_
  rintro x37 w7 hnew
  replace hs := hs.made hnew
  refine callF pl13 (C13 _ _ _ _ _ (hs.p1).rd' (hs).rd' (by have := raceF_len (of.take (min (of.length : Int) 20).toNat) (nn.a) (l := (xs.take 40)) (by rw [List.length_take]; omega); omega)) ?_
  rintro _ w8 ⟨rfl, he⟩
  replace hs := hs.ext he
  refine cond_yb (by simp) ?_
  refine pop_ixA arr24 (by omega) (by omega) ?_
  refine qop_blk ty3 hs.p6.hb rfl ?_
  refine pop_ixA arr24 (by omega) (by omega) ?_
  refine qop_blk ty3 hs.p6.hb rfl ?_
  refine pop_ixA arr24 (by omega) (by omega) ?_
  refine qop_blk ty3 hs.p6.hb rfl ?_
  refine pop_ixA arr24 (by omega) (by omega) ?_
  refine qop_blk ty3 hs.p6.hb rfl ?_
  refine callF pl16 (C16 _ _ (xs.take 40) (clkF (of.take (min (of.length : Int) 20).toNat) (nn).a (xs.take 40)) (nn).b (nn).c _ (hr_x9.ext hs.chg) (RdLL.of hs.p4 hs.p5)) ?_
  rintro _ w9 ⟨rfl, he⟩
  replace hs := hs.ext he
  refine ⟨run_loadOne ty3 (hs.p6.hb.cell rfl), ?_⟩
  refine ⟨run_loadOne ty3 (hs.p6.hb.cell rfl), ?_⟩
  refine callF pl17 (C17 _ _ (xs.take 40) (clkF (of.take (min (of.length : Int) 20).toNat) (nn).a (xs.take 40)) (nn).b (nn).c _ (hr_x9.ext hs.chg) (RdLL.of hs.p4 hs.p5)) ?_
  rintro _ w10 ⟨rfl, he⟩
  replace hs := hs.ext he
  refine pop_beql und4 ?_
  refine cond_yb (by simp) ?_
  refine callF pl18 (C18 _ (xs.take 40) _ (hr_x9.ext hs.chg) (by rw [List.length_take]; omega)) ?_
  rintro _ w11 ⟨rfl, he⟩
  replace hs := hs.ext he
  refine callF pl19 (C19 _ (xs.take 40) _ (hr_x9.ext hs.chg) (by rw [List.length_take]; omega)) ?_
  rintro _ w12 ⟨rfl, he⟩
  replace hs := hs.ext he
  refine pop_eql ?_
  refine cond_yb (by simp) ?_
  refine callF pl20 (C20 _) ?_
  rintro _ w13 ⟨rfl, he⟩
  replace hs := hs.ext he
  intro dd1
  exact ⟨rfl, hs.chg⟩

namespace clockTells
open Go.ChangeShapes Go.WideShapes Go.ChangeAt Go.RowKit
theorem contract (H : Type) (enc : TypeId × Value → H) (W : World) (base : Nat) (args : Array Value) (ds gs : List (DataW H)) (before : List MemPlace)
    (hval : ∀ (j : Nat) t v, Try.f3.params[j]? = some t → args[j]? = some v → Value.okWide Try.prog W .any base t v)
    (hW : DataW.Whole enc Try.prog Try.f3.params.toList Rows.clockTellsSpec.vars false W args.toList ds gs before) :
    Calls Try.prog 3 args W fun e W' => ∃ v, e = .returned v ∧ Rows.clockTellsSpec.post enc Try.prog Try.f3 false true false false W args v W' := by
  have hW' := hW
  obtain ⟨p, q, hA0, hV, _, _, _⟩ := hW
  have hA : DataW.TrodAll enc Try.prog W 0 (fun _ => true) true Try.f3.params.toList args.toList ds p := hA0
  rw [Try.params3] at hA hval
  obtain ⟨v0, vs0, d0, ds0, p0, q0, hargs, hds, _, h0, r0⟩ := trodAll_cons hA
  obtain ⟨v1, vs1, d1, ds1, p1, q1, rfl, rfl, _, h1, r1⟩ := trodAll_cons r0
  obtain ⟨v2, vs2, d2, ds2, p2, q2, rfl, rfl, _, h2, r2⟩ := trodAll_cons r1
  obtain ⟨rfl, rfl, _⟩ := trodAll_nil r2
  obtain rfl : args = #[v0, v1, v2] := by cases args; simp_all
  obtain ⟨x, hL_x, ok_x⟩ := open_sl Try.underlying22 rdE (hval 0 22 v0 rfl rfl) h0
  obtain ⟨of, hL_of, ok_of⟩ := open_sl Try.underlying23 rdI (hval 1 23 v1 rfl rfl) h1
  obtain ⟨nn, rfl, ok_nn⟩ := open_arr Try.underlying24 rfl rdH (hval 2 24 v2 rfl rfl) h2
  refine (C3 v0 v1 x of nn W (hL_x.mono fun _ _ => trivial) (hL_of.mono fun _ _ => trivial)).mono fun e W' ⟨v, he, hv, hext⟩ => ?_
  subst hv
  refine ⟨_, he, post_true rfl (fun ds h => ?_) rfl Try.underlying4 (by kernel_rfl) (by kernel_rfl) hW' hext.below⟩
  match ds, h with
  | [e0, e1, e2], _ => rfl
set_option maxRecDepth 100000 in
theorem lifted (os : Os) (started : os.Started) (H : Type) (enc : TypeId × Value → H) :
    ReturnsInHanded {} Try.checked os 3 .any (Rows.clockTellsSpec.pre6 enc Try.prog Try.f3 Rows.clockTellsRow.domain false) (Rows.clockTellsSpec.post enc Try.prog Try.f3 false true false false) := by
  refine returnsInHanded_of_change (C := Try.checked) own started (by kernel_rfl) Try.func3
    (ChangeSpec.witness6 (enc := enc) (C := Try.checked) false ⟨#[], #[.slice none 0 0, .slice none 0 0, .agg [.int .i64 0, .int .i64 0, .int .i64 0].toArray], []⟩ 8 (by kernel_rfl) (by kernel_rfl) (by kernel_rfl) (by kernel_rfl)) ?_
  intro W base args ds gs before hval hW _ _
  exact contract H enc W base args ds gs before hval hW
/-- The statement. -/
theorem proved : Rows.ClockTellsSaid :=
  OpenClaim.holds_of_wide 3 Try.f3 rfl rfl rfl rfl rfl rfl rfl ⟨rfl, rfl, rfl, rfl, rfl⟩ rfl rfl rfl rfl rfl (by kernel_rfl) Try.func3 (by kernel_rfl)
    (of_decide_eq_true (by kernel_rfl)) (by unfold Func.isWrapper; first | (rw [if_pos (by decide +kernel)]; kernel_rfl) | (rw [if_neg (by decide +kernel)]; exact ⟨rfl, rfl⟩))
    (fun os started H enc _ => lifted os started H enc)
end clockTells

end Go.Proofs.Ytobcbkipeipjeaa
