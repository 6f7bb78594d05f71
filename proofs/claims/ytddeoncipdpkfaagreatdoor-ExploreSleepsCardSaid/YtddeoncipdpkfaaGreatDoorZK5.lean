/-
  Proved: ExploreSleeps returns true for every input, and the input reads as it did; what the row lists is tied to the text by the card.
-/
import Derived.Test.YtddeoncipdpkfaaGreatDoorZA8
import Derived.Test.YtddeoncipdpkfaaGreatDoorZFw14
import Derived.Test.YtddeoncipdpkfaaGreatDoorZRd
import Derived.Test.YtddeoncipdpkfaaGreatDoorCards
import Derived.Test.YtddeoncipdpkfaaGreatDoorTie
import Derived.Test.YtddeoncipdpkfaaGreatDoorRows
import Derived.Test.YtddeoncipdpkfaaGreatDoorZJ5
import Derived.KernelRfl
import Derived.LaidMore
import Derived.Lay
import Derived.SevenTiedAt
import Derived.Stop.Joined
set_option linter.all false
namespace Go.Proofs.YtddeoncipdpkfaaGreatDoor
open Go.Fw

theorem bz3 : Tryz.prog.bytesOf 3 = 8 := by kernel_rfl
theorem cut_b {x : TPick} (h : TPickOkb x) : x.cut.length ≤ 17592186043904 := by
  have h1 := h.2.2.2.1
  rw [bz3] at h1
  have : reachBytes = 140737488351232 := by decide
  omega
namespace exploreSleeps
open Go.ChangeShapes Go.WideShapes Go.ChangeAt Go.RowKit
set_option maxRecDepth 100000 in
theorem contract (H : Type) (enc : TypeId × Value → H) (W : World) (base : Nat) (args : Array Value) (ds gs : List (DataW H)) (before : List MemPlace)
    (hval : ∀ (j : Nat) t v, Tryz.f5.params[j]? = some t → args[j]? = some v → Value.okWide Tryz.prog W .any base t v)
    (hW : DataW.Whole enc Tryz.prog Tryz.f5.params.toList Rows.exploreSleepsSpec.vars false W args.toList ds gs before)
    (hwt : (DataW.weightsEach Tryz.prog (Tryz.f5.params.toList ++ Rows.exploreSleepsSpec.plain.varTypes Tryz.prog) (ds ++ gs)).all (· ≤ reachBytes) = true) :
    Calls Tryz.prog 5 args W fun e W' => ∃ v, e = .returned v ∧ Rows.exploreSleepsSpec.post enc Tryz.prog Tryz.f5 false true false false W args v W' := by
  have hW' := hW
  obtain ⟨p, q, hA0, hV, _, _, _⟩ := hW
  have hA : DataW.TrodAll enc Tryz.prog W 0 (fun _ => true) true Tryz.f5.params.toList args.toList ds p := hA0
  rw [Tryz.params5] at hA hval hwt
  obtain ⟨v0, vs0, d0, ds0, p0, q0, hargs, hds, _, h0, r0⟩ := trodAll_cons hA
  obtain ⟨v1, vs1, d1, ds1, p1, q1, rfl, rfl, _, h1, r1⟩ := trodAll_cons r0
  obtain ⟨v2, vs2, d2, ds2, p2, q2, rfl, rfl, _, h2, r2⟩ := trodAll_cons r1
  obtain ⟨rfl, rfl, _⟩ := trodAll_nil r2
  obtain rfl : args = #[v0, v1, v2] := by cases args; simp_all
  have hwP := wt_args hwt (i := 0) (d := d0) rfl (by rw [hds]; rfl)
  obtain ⟨l, hD_l, _, ok_l⟩ := open_dlb Tryz.underlying58 rb47 (hval 0 58 v0 rfl rfl) h0 hwP
  obtain ⟨vs, hD_v, ok_v⟩ := open_dl Tryz.underlying69 rd42 (hval 1 69 v1 rfl rfl) h1
  obtain ⟨sd, d, rfl, hD_d, ok_d⟩ := open_dst Tryz.underlying42 rfl rd42 (hval 2 42 v2 rfl rfl) h2
  obtain rfl : sd = d := hD_d
  refine (C5 _ l _ vs _ W hD_l (DL.flat hD_v) (fun x hx => cut_b (ok_l x hx))).mono fun e W' ⟨v, he, hv, hext⟩ => ?_
  subst hv
  refine ⟨_, he, post_true rfl (fun ds h => ?_) rfl Tryz.underlying4 (by kernel_rfl) (by kernel_rfl) hW' hext.below⟩
  match ds, h with
  | [e0, e1, e2], _ => rfl
set_option maxRecDepth 100000 in
theorem lifted (os : Os) (started : os.Started) (H : Type) (enc : TypeId × Value → H) :
    ReturnsInHanded {} Tryz.checked os 5 .any (fun w args => (Rows.exploreSleepsSpec.pre enc Tryz.prog Tryz.f5 Rows.exploreSleepsRow.domain false w args ∧ laidMetH Tryz.prog Rows.exploreSleepsRow.laid w) ∧ sizedMet enc Tryz.prog Tryz.f5 (OpenSpec.ofChange Rows.exploreSleepsSpec) false w args)
      (Rows.exploreSleepsSpec.post enc Tryz.prog Tryz.f5 false true false false) := by
  refine returnsInHanded_of_change_and (C := Tryz.checked) (X := fun w _ => laidMetH Tryz.prog Rows.exploreSleepsRow.laid w) (fun _ _ _ hh h => h.of_heap hh) own started (by kernel_rfl) Tryz.func5
    (ChangeSpec.witness_shaped (enc := enc) (C := Tryz.checked) (os := os) (X := fun w _ => laidMetH Tryz.prog Rows.exploreSleepsRow.laid w) false (World.laidAll Tryz.prog os Rows.exploreSleepsRow.laid) #[.slice none 0 0, .slice none 0 0, .agg #[.int .i64 0, .int .i64 0, .int .i64 0, .int .i64 0, .int .i64 0]] 8 (World.laidAll_os _ _ _)
      (World.shaped_of_ZipB (by kernel_rfl) (by kernel_rfl)) (by kernel_rfl) (by kernel_rfl) (by kernel_rfl)
      (by rw [MakeChecks.laidMetH_plain _ _ _ (by kernel_rfl)]; exact laidMet_laidAll _ (by kernel_rfl) (by kernel_rfl))) ?_
  intro W base args ds gs before hval hW _ hwt _ _
  exact contract H enc W base args ds gs before hval hW hwt
theorem row : Rows.ExploreSleepsSaid :=
  OpenClaim.holds_of_wide 5 Tryz.f5 rfl rfl rfl rfl rfl rfl rfl ⟨rfl, rfl, rfl, rfl, rfl⟩ rfl rfl rfl rfl rfl (by kernel_rfl) Tryz.func5 jf
    (of_decide_eq_true (by kernel_rfl)) (by unfold Func.isWrapper; first | (rw [if_pos (by decide +kernel)]; kernel_rfl) | (rw [if_neg (by decide +kernel)]; exact ⟨rfl, rfl⟩))
    (fun os started H enc _ => lifted os started H enc)
/-- The statement: the tied card. -/
theorem proved : Rows.ExploreSleepsCardSaid :=
  Claim7.holds_tied_plain_at .later [] [.data, .pinned] true (true, "e023bf0417cbc9dce86e4110a0e2ce1e792939371e37faf65a9565b4c4d01313") false row (fun _ h => by cases h) zw (fun _ h => by cases h) exploreSleeps_row_tie rfl ⟨rfl, rfl⟩ zm rfl
    (fun f fn hf hfn => by
      obtain rfl : f = 5 := Option.some.inj (zf.symm.trans hf) |>.symm
      obtain rfl : fn = Tryz.f5 := (Option.some.inj (Tryz.func5.symm.trans hfn)).symm
      exact ⟨zl, fun j t ht => by
        rw [Tryz.params5] at ht
        have hm : t ∈ [58, 69, 42] := by simpa using Array.mem_of_getElem? ht
        exact (show Tryz.prog.wantsStandIn t = false by simpa using List.all_eq_true.1 zs t hm)⟩)
    zg
end exploreSleeps

end Go.Proofs.YtddeoncipdpkfaaGreatDoor
