/-
  Proved: DirectBare returns true for every input, and the input reads as it did; what the row lists is tied to the text by the card.
-/
import Derived.Test.YtfkgkbhbdffckaaGreatDoorVbM8
import Derived.Test.YtfkgkbhbdffckaaGreatDoorCards
import Derived.Test.YtfkgkbhbdffckaaGreatDoorTie
import Derived.Test.YtfkgkbhbdffckaaGreatDoorRows
import Derived.Test.YtfkgkbhbdffckaaGreatDoorVbJ4
import Derived.KernelRfl
import Derived.LaidMore
import Derived.Lay
import Derived.SevenTiedAt
import Derived.Stop.Joined
set_option linter.all false
namespace Go.Proofs.YtfkgkbhbdffckaaGreatDoor
open Go.Fw

namespace directBare
open Go.ChangeShapes Go.WideShapes Go.ChangeAt Go.RowKit
set_option maxRecDepth 100000 in
theorem contract (H : Type) (enc : TypeId × Value → H) (W : World) (base : Nat) (args : Array Value) (ds gs : List (DataW H)) (before : List MemPlace)
    (hval : ∀ (j : Nat) t v, Tryz.f4.params[j]? = some t → args[j]? = some v → Value.okWide Tryz.prog W .any base t v)
    (hW : DataW.Whole enc Tryz.prog Tryz.f4.params.toList Rows.directBareSpec.vars false W args.toList ds gs before) :
    Calls Tryz.prog 4 args W fun e W' => ∃ v, e = .returned v ∧ Rows.directBareSpec.post enc Tryz.prog Tryz.f4 false true false false W args v W' := by
  have hW' := hW
  obtain ⟨p, q, hA0, hV, _, _, _⟩ := hW
  have hA : DataW.TrodAll enc Tryz.prog W 0 (fun _ => true) true Tryz.f4.params.toList args.toList ds p := hA0
  rw [Tryz.params4] at hA hval
  obtain ⟨v0, vs0, d0, ds0, p0, q0, hargs, hds, _, h0, r0⟩ := trodAll_cons hA
  obtain ⟨v1, vs1, d1, ds1, p1, q1, rfl, rfl, _, h1, r1⟩ := trodAll_cons r0
  obtain ⟨rfl, rfl, _⟩ := trodAll_nil r1
  obtain rfl : args = #[v0, v1] := by cases args; simp_all
  obtain ⟨pV, p, rfl, hD_p, ok_p⟩ := open_dst Tryz.underlying40 rfl rd40 (hval 0 40 v0 rfl rfl) h0
  obtain ⟨l, hD_l, ok_l⟩ := open_dl Tryz.underlying53 rd57 (hval 1 53 v1 rfl rfl) h1
  refine (C4 p pV _ l W hD_p hD_l).mono fun e W' ⟨v, he, hv, hext⟩ => ?_
  subst hv
  refine ⟨_, he, post_true rfl (fun ds h => ?_) rfl Tryz.underlying4 (by kernel_rfl) (by kernel_rfl) hW' hext.below⟩
  match ds, h with
  | [e0, e1], _ => rfl
set_option maxRecDepth 100000 in
theorem lifted (os : Os) (started : os.Started) (H : Type) (enc : TypeId × Value → H) :
    ReturnsInHanded {} Tryz.checked os 4 .any (fun w args => (Rows.directBareSpec.pre enc Tryz.prog Tryz.f4 Rows.directBareRow.domain false w args ∧ laidMetH Tryz.prog Rows.directBareRow.laid w) ∧ sizedMet enc Tryz.prog Tryz.f4 (OpenSpec.ofChange Rows.directBareSpec) false w args)
      (Rows.directBareSpec.post enc Tryz.prog Tryz.f4 false true false false) := by
  refine returnsInHanded_of_change_and (C := Tryz.checked) (X := fun w _ => laidMetH Tryz.prog Rows.directBareRow.laid w) (fun _ _ _ hh h => h.of_heap hh) own started (by kernel_rfl) Tryz.func4
    (ChangeSpec.witness_shaped (enc := enc) (C := Tryz.checked) (os := os) (X := fun w _ => laidMetH Tryz.prog Rows.directBareRow.laid w) false (World.laidAll Tryz.prog os Rows.directBareRow.laid) #[.agg #[.slice none 0 0, .slice none 0 0, .slice none 0 0, .slice none 0 0, .slice none 0 0, .slice none 0 0], .slice none 0 0] 8 (World.laidAll_os _ _ _)
      (World.shaped_of_ZipB (by kernel_rfl) (by kernel_rfl)) (by kernel_rfl) (by kernel_rfl) (by kernel_rfl)
      (by rw [MakeChecks.laidMetH_plain _ _ _ (by kernel_rfl)]; exact laidMet_laidAll _ (by kernel_rfl) (by kernel_rfl))) ?_
  intro W base args ds gs before hval hW _ _ _ _
  exact contract H enc W base args ds gs before hval hW
theorem row : Rows.DirectBareSaid :=
  OpenClaim.holds_of_wide 4 Tryz.f4 rfl rfl rfl rfl rfl rfl rfl ⟨rfl, rfl, rfl, rfl, rfl⟩ rfl rfl rfl rfl rfl (by kernel_rfl) Tryz.func4 jf
    (of_decide_eq_true (by kernel_rfl)) (by unfold Func.isWrapper; first | (rw [if_pos (by decide +kernel)]; kernel_rfl) | (rw [if_neg (by decide +kernel)]; exact ⟨rfl, rfl⟩))
    (fun os started H enc _ => lifted os started H enc)
/-- The statement: the tied card. -/
theorem proved : Rows.DirectBareCardSaid :=
  Claim7.holds_tied_plain_at .later [] [.data, .pinned] true (true, "bd62f69bcef6c3c4f9038676cc53cf697742909a8cc0f6120758434aa8333f3f") false row (fun _ h => by cases h) zw (fun _ h => by cases h) directBare_row_tie rfl ⟨rfl, rfl⟩ zm rfl
    (fun f fn hf hfn => by
      obtain rfl : f = 4 := Option.some.inj (zf.symm.trans hf) |>.symm
      obtain rfl : fn = Tryz.f4 := (Option.some.inj (Tryz.func4.symm.trans hfn)).symm
      exact ⟨zl, fun j t ht => by
        rw [Tryz.params4] at ht
        have hm : t ∈ [40, 53] := by simpa using Array.mem_of_getElem? ht
        exact (show Tryz.prog.wantsStandIn t = false by simpa using List.all_eq_true.1 zs t hm)⟩)
    zg
end directBare

end Go.Proofs.YtfkgkbhbdffckaaGreatDoor
