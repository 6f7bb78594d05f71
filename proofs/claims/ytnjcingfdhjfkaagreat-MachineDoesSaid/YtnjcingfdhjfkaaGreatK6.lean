/-
  Proved: MachineDoes returns true for every input, and the input reads as it did. No condition.
-/
import Derived.Test.YtnjcingfdhjfkaaGreatR6x8
import Derived.Test.YtnjcingfdhjfkaaGreatRows
import Derived.KernelRfl
namespace Go.Proofs.YtnjcingfdhjfkaaGreat
open Go.Fw

namespace machineDoes
open Go.ChangeShapes Go.WideShapes Go.ChangeAt Go.RowKit
theorem and2 {a b : Bool} (h1 : a = true) (h2 : b = true) : (a && b) = true := by rw [h1, h2]; rfl
theorem jf0 : (Rows.machineDoesRow.wf (Go.OpenSpec.ofChange Rows.machineDoesSpec)) = true := by kernel_rfl
theorem jf1 : (Go.laidOutB Tryz.prog) = true := by kernel_rfl
theorem jf2 : (Go.mapsRowed Tryz.prog) = true := by kernel_rfl
theorem jf3 : (Tryz.f6.params.all (Tryz.prog.readableRec ·)) = true := by kernel_rfl
theorem jf4 : (Go.namedTie Tryz.prog Rows.machineDoesRow.named Rows.machineDoesSpec.vars) = true := by kernel_rfl
theorem jf5 : ((Rows.machineDoesRow.stops == [])) = true := by kernel_rfl
theorem jf6 : ((Tryz.prog.stops == [])) = true := by kernel_rfl
theorem jf7 : ((Rows.machineDoesRow.knobs == [])) = true := by kernel_rfl
theorem jf8 : ((Tryz.prog.stopKnobs == [])) = true := by kernel_rfl
theorem jf9 : ((Rows.machineDoesRow.inPlace == Tryz.prog.inPlace 6)) = true := by kernel_rfl
theorem jf10 : ((Rows.machineDoesRow.unfollowed == Tryz.prog.unfollowed 6)) = true := by kernel_rfl
theorem jf11 : ((Rows.machineDoesRow.recurses == Tryz.prog.recurses 6)) = true := by kernel_rfl
theorem jf12 : ((Rows.machineDoesRow.named == Tryz.prog.varsNamed 6)) = true := by kernel_rfl
theorem jf13 : ((Rows.machineDoesRow.maps == (Tryz.f6.params.toList ++ Rows.machineDoesSpec.plain.varTypes Tryz.prog).any (Tryz.prog.mapsRec ·))) = true := by kernel_rfl
theorem jf14 : ((Rows.machineDoesRow.ifaces == (Tryz.f6.params.toList ++ Rows.machineDoesSpec.plain.varTypes Tryz.prog).any (Tryz.prog.ifacesRec ·))) = true := by kernel_rfl
theorem jf15 : ((Rows.machineDoesRow.mapsOut == Tryz.prog.mapsAmong Tryz.f6.resultTypes.toList)) = true := by kernel_rfl
theorem jf16 : ((Rows.machineDoesRow.loops == (Tryz.f6.params.toList ++ Rows.machineDoesSpec.plain.varTypes Tryz.prog).any (Tryz.prog.loopsFrom ·))) = true := by kernel_rfl
theorem jf17 : ((Rows.machineDoesRow.wideKeys == (Tryz.f6.params.toList ++ Rows.machineDoesSpec.plain.varTypes Tryz.prog ++ Tryz.f6.resultTypes.toList).any (Tryz.prog.wideKeysFrom ·))) = true := by kernel_rfl
theorem jf18 : (Rows.machineDoesSpec.vars.all (Tryz.prog.varReadable ·)) = true := by kernel_rfl
theorem jf19 : (Tryz.f6.resultTypes.all (fun t => Tryz.prog.readableRec t && decide (t < Tryz.prog.types.size))) = true := by kernel_rfl
theorem jf20 : ((Rows.machineDoesRow.ifacesOut == Tryz.f6.resultTypes.toList.any (Tryz.prog.ifacesRec ·))) = true := by kernel_rfl
theorem jf21 : ((Rows.machineDoesRow.loopsOut == Tryz.f6.resultTypes.toList.any (Tryz.prog.loopsFrom ·))) = true := by kernel_rfl
theorem jf22 : ((Rows.machineDoesRow.plainKeys == Tryz.prog.plainKeys)) = true := by kernel_rfl
theorem jf23 : (Rows.machineDoesRow.shortTexts.isNone) = true := by kernel_rfl
theorem jf24 : (Tryz.prog.stopsHeard) = true := by kernel_rfl
theorem jf25 : (Tryz.prog.mayEnter) = true := by kernel_rfl
theorem jf26 : ((Rows.machineDoesRow.lifted == Tryz.prog.liftsFinal)) = true := by kernel_rfl
theorem jf27 : ((Tryz.prog.make == some Rows.machineDoesRow.make)) = true := by kernel_rfl
theorem jf28 : ((Rows.machineDoesRow.kinds == (if Rows.machineDoesRow.domain.isEmpty then [] else Tryz.f6.params.toList.map fun t => match Tryz.prog.underlying t with | some (.int k) => some k | _ => none))) = true := by kernel_rfl
theorem jf29 : ((Rows.machineDoesRow.pinned == Rows.machineDoesRow.pinnedBy)) = true := by kernel_rfl
theorem jf30 : ((Rows.machineDoesRow.veiled == (Tryz.f6.params.toList ++ Rows.machineDoesSpec.plain.varTypes Tryz.prog ++ Tryz.f6.resultTypes.toList).any (Tryz.prog.veiledRec ·))) = true := by kernel_rfl
theorem jf31 : (Rows.machineDoesRow.veiledFits Tryz.prog Tryz.f6.params.toList (Tryz.f6.params.toList ++ Rows.machineDoesSpec.plain.varTypes Tryz.prog ++ Tryz.f6.resultTypes.toList)) = true := by kernel_rfl
set_option maxRecDepth 1000000 in
theorem jf : Go.joinedFacts Tryz.prog 6 Tryz.f6 Rows.machineDoesSpec Rows.machineDoesRow = true := (and2 (and2 (and2 (and2 (and2 (and2 (and2 (and2 (and2 (and2 (and2 (and2 (and2 (and2 (and2 (and2 (and2 (and2 (and2 (and2 (and2 (and2 (and2 (and2 (and2 (and2 (and2 (and2 (and2 (and2 (and2 jf0 jf1) jf2) jf3) jf4) jf5) jf6) jf7) jf8) jf9) jf10) jf11) jf12) jf13) jf14) jf15) jf16) jf17) jf18) jf19) jf20) jf21) jf22) jf23) jf24) jf25) jf26) jf27) jf28) jf29) jf30) jf31)
set_option maxRecDepth 100000 in
theorem contract (H : Type) (enc : TypeId × Value → H) (W : World) (base : Nat) (args : Array Value) (ds gs : List (DataW H)) (before : List MemPlace)
    (hval : ∀ (j : Nat) t v, Tryz.f6.params[j]? = some t → args[j]? = some v → Value.okWide Tryz.prog W .any base t v)
    (hW : DataW.Whole enc Tryz.prog Tryz.f6.params.toList Rows.machineDoesSpec.vars false W args.toList ds gs before) :
    Calls Tryz.prog 6 args W fun e W' => ∃ v, e = .returned v ∧ Rows.machineDoesSpec.post enc Tryz.prog Tryz.f6 false true false false W args v W' := by
  have hW' := hW
  obtain ⟨p, q, hA0, hV, _, _, _⟩ := hW
  have hA : DataW.TrodAll enc Tryz.prog W 0 (fun _ => true) true Tryz.f6.params.toList args.toList ds p := hA0
  rw [Tryz.params6] at hA hval
  obtain ⟨v0, vs0, d0, ds0, p0, q0, hargs, hds, _, h0, r0⟩ := trodAll_cons hA
  obtain ⟨v1, vs1, d1, ds1, p1, q1, rfl, rfl, _, h1, r1⟩ := trodAll_cons r0
  obtain ⟨v2, vs2, d2, ds2, p2, q2, rfl, rfl, _, h2, r2⟩ := trodAll_cons r1
  obtain ⟨rfl, rfl, _⟩ := trodAll_nil r2
  obtain rfl : args = #[v0, v1, v2] := by cases args; simp_all
  obtain ⟨pV, p, rfl, hD_p, ok_p⟩ := open_dst Tryz.underlying27 rfl rd27 (hval 0 27 v0 rfl rfl) h0
  obtain ⟨room, rfl, ok_room⟩ := open_i64 Tryz.underlying3 (hval 1 3 v1 rfl rfl) h1
  obtain ⟨script, hL_script, ok_script⟩ := open_dl Tryz.underlying57 rd64 (hval 2 57 v2 rfl rfl) h2
  refine (C6 p pV room v2 script W hD_p hL_script).mono fun e W' ⟨v, he, hv, hext⟩ => ?_
  subst hv
  refine ⟨_, he, post_true rfl (fun ds h => ?_) rfl Tryz.underlying4 (by kernel_rfl) (by kernel_rfl) hW' hext.below⟩
  match ds, h with
  | [e0, e1, e2], _ => rfl
set_option maxRecDepth 100000 in
theorem lifted (os : Os) (started : os.Started) (H : Type) (enc : TypeId × Value → H) :
    ReturnsInHanded {} Tryz.checked os 6 .any (Rows.machineDoesSpec.pre6 enc Tryz.prog Tryz.f6 Rows.machineDoesRow.domain false) (Rows.machineDoesSpec.post enc Tryz.prog Tryz.f6 false true false false) := by
  refine returnsInHanded_of_change (C := Tryz.checked) own started (by kernel_rfl) Tryz.func6
    (ChangeSpec.witness6 (enc := enc) (C := Tryz.checked) false ⟨#[], #[.agg #[.slice none 0 0, .slice none 0 0, .slice none 0 0, .slice none 0 0, .slice none 0 0, .slice none 0 0], .int .i64 0, .slice none 0 0], []⟩ 8 (by kernel_rfl) (by kernel_rfl) (by kernel_rfl) (by kernel_rfl)) ?_
  intro W base args ds gs before hval hW _ _
  exact contract H enc W base args ds gs before hval hW
/-- The statement. -/
theorem proved : Rows.MachineDoesSaid :=
  OpenClaim.holds_of_wide 6 Tryz.f6 rfl rfl rfl rfl rfl rfl rfl ⟨rfl, rfl, rfl, rfl, rfl⟩ rfl rfl rfl rfl rfl (by kernel_rfl) Tryz.func6 jf
    (of_decide_eq_true (by kernel_rfl)) (by unfold Func.isWrapper; first | (rw [if_pos (by decide +kernel)]; kernel_rfl) | (rw [if_neg (by decide +kernel)]; exact ⟨rfl, rfl⟩))
    (fun os started H enc _ => lifted os started H enc)
end machineDoes

end Go.Proofs.YtnjcingfdhjfkaaGreat
