/-
  ReplayTells, ReplayOrder.
-/
import Derived.Test.YtndcifakbhggdaaGreatDoorZA2
import Derived.Test.YtndcifakbhggdaaGreatDoorZA4
import Derived.KernelRfl
namespace Go.Proofs.YtndcifakbhggdaaGreatDoor
open Go.Fw

set_option maxRecDepth 100000
def nb (b : Bool) : Int := if b = true then 1 else 0
theorem nb_b (b : Bool) : 0 ≤ nb b ∧ nb b ≤ 1 := by unfold nb; split <;> omega
theorem nb1 {b : Bool} (h : b = true) : nb b = 1 := if_pos h
theorem nb0 {b : Bool} (h : b = false) : nb b = 0 := if_neg (by rw [h]; exact Bool.false_ne_true)
theorem nb_all (a b : TEnd) : nb (lessM a b) + nb (lessM b a) + nb (sameM a b) = 1 := by
  rw [same_less]
  cases h1 : lessM a b with
  | true => rw [less_asym h1]; rfl
  | false => cases h2 : lessM b a <;> rfl

theorem C12 (a : TEnd) (av : TEndV) (b : TEnd) (bv : TEndV) (k : Int) (w : World) (ha : Deep.dr w av a) (hb : Deep.dr w bv b) : Calls Tryz.prog 12 [Flat.val av, Flat.val bv, .int .i64 k].toArray w (Ret fun v w' => v = .bool true ∧ Ext w w') := by
  obtain ⟨g_cells_a, rfl, d_cells_a⟩ := ha
  obtain ⟨g_cells_b, rfl, d_cells_b⟩ := hb
  have hs := St.start w
  refine S12_ok _ _ _ _ _ ?_
  unfold S12
  refine eop_boxV hs (fun b_a3 w1 hs => ?_)
  refine eop_boxV hs (fun b_b4 w2 hs => ?_)
  refine pop_field fld78_3 ?_
  refine qop_blk ty41 hs.p1.hb rfl ?_
  have hf11 := DL.flat (d_cells_a)
  refine pop_field fld78_3 ?_
  refine qop_blk ty41 hs.p1.hb rfl ?_
  refine pop_len sl41 (hf11.ext hs.chg) ?_
  refine pop_min  ?_
  refine pop_cutHi' sl41 (hf11.ext hs.chg) (by omega) (by omega) (fun s_x13 hq_x13 => ?_)
  have hc_x13 := hq_x13 _ hf11
  refine pop_field fld78_3 ?_
  obtain ⟨sv_x13, rfl⟩ := (hc_x13).isSV
  refine uop_blk hs.p1 ty41 (leb rfl) (rfl) (fun w3 hs => ?_)
  replace hs := hs.enc (cs' := Flat.enc (⟨(a).kind, (a).what, (a).crashes, sv_x13⟩ : TEndV)) rfl
  refine pop_field fld78_3 ?_
  refine qop_blk ty41 hs.p1.hb rfl ?_
  have hf12 := DL.flat (d_cells_b)
  refine pop_field fld78_3 ?_
  refine qop_blk ty41 hs.p1.hb rfl ?_
  refine pop_len sl41 (hf12.ext hs.chg) ?_
  refine pop_min  ?_
  refine pop_cutHi' sl41 (hf12.ext hs.chg) (by omega) (by omega) (fun s_x21 hq_x21 => ?_)
  have hc_x21 := hq_x21 _ hf12
  refine pop_field fld78_3 ?_
  obtain ⟨sv_x21, rfl⟩ := (hc_x21).isSV
  refine uop_blk hs.p1 ty41 (leb rfl) (rfl) (fun w4 hs => ?_)
  replace hs := hs.enc (cs' := Flat.enc (⟨(b).kind, (b).what, (b).crashes, sv_x21⟩ : TEndV)) rfl
  refine ⟨fun jv w' => jv = .bool true ∧ St w none1 [] w', ?_, ?_⟩
  · skip
    replace hs := hs.drew
    refine qop_at ty78 hs.p1.At ?_
    refine qop_at ty78 hs.p1.At ?_
    refine callP pl55 hs (C55 (⟨(a).kind, (a).what, (a).crashes, (((a).cells).take ((min (((a).cells).length : Int) 10)).toNat)⟩ : TEnd) _ _ (show Deep.dr _ (⟨(a).kind, (a).what, (a).crashes, sv_x13⟩ : TEndV) (⟨(a).kind, (a).what, (a).crashes, (((a).cells).take ((min (((a).cells).length : Int) 10)).toNat)⟩ : TEnd) from ⟨_, rfl, DL.unflat (hc_x13.ext hs.chg)⟩)) (fun w5 he hs => ?_)
    refine ⟨run_at ty78 hs.p1.At, ?_⟩
    refine callP pl49 hs (C49 (⟨(a).kind, (a).what, (a).crashes, (((a).cells).take ((min (((a).cells).length : Int) 10)).toNat)⟩ : TEnd) _ _ (show Deep.dr _ (⟨(a).kind, (a).what, (a).crashes, sv_x13⟩ : TEndV) (⟨(a).kind, (a).what, (a).crashes, (((a).cells).take ((min (((a).cells).length : Int) 10)).toNat)⟩ : TEnd) from ⟨_, rfl, DL.unflat (hc_x13.ext hs.chg)⟩)) (fun w6 he hs => ?_)
    refine pop_beql und4 ?_
    refine cond_yb (by simp) ?_
    refine qop_at ty78 hs.p1.At ?_
    refine qop_at ty78 hs.At ?_
    refine qop_at ty78 hs.p1.At ?_
    refine qop_at ty78 hs.At ?_
    refine callP pl56 hs (C56 (⟨(a).kind, (a).what, (a).crashes, (((a).cells).take ((min (((a).cells).length : Int) 10)).toNat)⟩ : TEnd) _ (⟨(b).kind, (b).what, (b).crashes, (((b).cells).take ((min (((b).cells).length : Int) 10)).toNat)⟩ : TEnd) _ _ (show Deep.dr _ (⟨(a).kind, (a).what, (a).crashes, sv_x13⟩ : TEndV) (⟨(a).kind, (a).what, (a).crashes, (((a).cells).take ((min (((a).cells).length : Int) 10)).toNat)⟩ : TEnd) from ⟨_, rfl, DL.unflat (hc_x13.ext hs.chg)⟩) (show Deep.dr _ (⟨(b).kind, (b).what, (b).crashes, sv_x21⟩ : TEndV) (⟨(b).kind, (b).what, (b).crashes, (((b).cells).take ((min (((b).cells).length : Int) 10)).toNat)⟩ : TEnd) from ⟨_, rfl, DL.unflat (hc_x21.ext hs.chg)⟩) (by simp; omega)) (fun w7 he hs => ?_)
    refine ⟨run_at ty78 hs.p1.At, ?_⟩
    refine ⟨run_at ty78 hs.At, ?_⟩
    refine callP pl57 hs (C57 (⟨(a).kind, (a).what, (a).crashes, (((a).cells).take ((min (((a).cells).length : Int) 10)).toNat)⟩ : TEnd) _ (⟨(b).kind, (b).what, (b).crashes, (((b).cells).take ((min (((b).cells).length : Int) 10)).toNat)⟩ : TEnd) _ _ (show Deep.dr _ (⟨(a).kind, (a).what, (a).crashes, sv_x13⟩ : TEndV) (⟨(a).kind, (a).what, (a).crashes, (((a).cells).take ((min (((a).cells).length : Int) 10)).toNat)⟩ : TEnd) from ⟨_, rfl, DL.unflat (hc_x13.ext hs.chg)⟩) (show Deep.dr _ (⟨(b).kind, (b).what, (b).crashes, sv_x21⟩ : TEndV) (⟨(b).kind, (b).what, (b).crashes, (((b).cells).take ((min (((b).cells).length : Int) 10)).toNat)⟩ : TEnd) from ⟨_, rfl, DL.unflat (hc_x21.ext hs.chg)⟩) (by simp; omega)) (fun w8 he hs => ?_)
    refine pop_beql und4 ?_
    refine cond_yb (by simp) ?_
    refine qop_at ty78 hs.p1.At ?_
    refine qop_at ty78 hs.At ?_
    refine qop_at ty78 hs.p1.At ?_
    refine qop_at ty78 hs.At ?_
    refine callP pl58 hs (C58 (⟨(a).kind, (a).what, (a).crashes, (((a).cells).take ((min (((a).cells).length : Int) 10)).toNat)⟩ : TEnd) _ (⟨(b).kind, (b).what, (b).crashes, (((b).cells).take ((min (((b).cells).length : Int) 10)).toNat)⟩ : TEnd) _ _ (show Deep.dr _ (⟨(a).kind, (a).what, (a).crashes, sv_x13⟩ : TEndV) (⟨(a).kind, (a).what, (a).crashes, (((a).cells).take ((min (((a).cells).length : Int) 10)).toNat)⟩ : TEnd) from ⟨_, rfl, DL.unflat (hc_x13.ext hs.chg)⟩) (show Deep.dr _ (⟨(b).kind, (b).what, (b).crashes, sv_x21⟩ : TEndV) (⟨(b).kind, (b).what, (b).crashes, (((b).cells).take ((min (((b).cells).length : Int) 10)).toNat)⟩ : TEnd) from ⟨_, rfl, DL.unflat (hc_x21.ext hs.chg)⟩) (by simp; omega) (by simp; omega)) (fun w9 he hs => ?_)
    refine ⟨run_at ty78 hs.p1.At, ?_⟩
    refine ⟨run_at ty78 hs.At, ?_⟩
    refine callP pl39 hs (C39 (⟨(a).kind, (a).what, (a).crashes, (((a).cells).take ((min (((a).cells).length : Int) 10)).toNat)⟩ : TEnd) _ (⟨(b).kind, (b).what, (b).crashes, (((b).cells).take ((min (((b).cells).length : Int) 10)).toNat)⟩ : TEnd) _ _ (show Deep.dr _ (⟨(a).kind, (a).what, (a).crashes, sv_x13⟩ : TEndV) (⟨(a).kind, (a).what, (a).crashes, (((a).cells).take ((min (((a).cells).length : Int) 10)).toNat)⟩ : TEnd) from ⟨_, rfl, DL.unflat (hc_x13.ext hs.chg)⟩) (show Deep.dr _ (⟨(b).kind, (b).what, (b).crashes, sv_x21⟩ : TEndV) (⟨(b).kind, (b).what, (b).crashes, (((b).cells).take ((min (((b).cells).length : Int) 10)).toNat)⟩ : TEnd) from ⟨_, rfl, DL.unflat (hc_x21.ext hs.chg)⟩) (by simp; omega)) (fun w10 he hs => ?_)
    refine pop_beql und4 ?_
    refine cond_yb (by simp) ?_
    refine callP pl59 hs (C59 _ _) (fun w11 he hs => ?_)
    refine callP pl60 hs (C60 _ _) (fun w12 he hs => ?_)
    refine pop_streq ?_
    refine cond_yb (by simp) ?_
    refine callP pl54 hs (C54 _) (fun w13 he hs => ?_)
    replace hs := (hs).drop
    replace hs := (hs).drop
    exact ⟨rfl, hs⟩
  · skip
    rintro _ w14 ⟨rfl, hs⟩ dd1
    exact ⟨rfl, hs.chg⟩

theorem C14 (a : TEnd) (av : TEndV) (b : TEnd) (bv : TEndV) (c : TEnd) (cv : TEndV) (w : World) (ha : Deep.dr w av a) (hb : Deep.dr w bv b) (hc : Deep.dr w cv c) : Calls Tryz.prog 14 [Flat.val av, Flat.val bv, Flat.val cv].toArray w (Ret fun v w' => v = .bool true ∧ Ext w w') := by
  obtain ⟨g_cells_a, rfl, d_cells_a⟩ := ha
  obtain ⟨g_cells_b, rfl, d_cells_b⟩ := hb
  obtain ⟨g_cells_c, rfl, d_cells_c⟩ := hc
  have hs := St.start w
  refine S14_ok _ _ _ _ _ ?_
  unfold S14
  refine eop_boxV hs (fun b_a3 w1 hs => ?_)
  refine eop_boxV hs (fun b_b4 w2 hs => ?_)
  refine eop_boxV hs (fun b_c5 w3 hs => ?_)
  refine pop_field fld78_3 ?_
  refine qop_blk ty41 hs.p2.hb rfl ?_
  have hf13 := DL.flat (d_cells_a)
  refine pop_field fld78_3 ?_
  refine qop_blk ty41 hs.p2.hb rfl ?_
  refine pop_len sl41 (hf13.ext hs.chg) ?_
  refine pop_min  ?_
  refine pop_cutHi' sl41 (hf13.ext hs.chg) (by omega) (by omega) (fun s_x14 hq_x14 => ?_)
  have hc_x14 := hq_x14 _ hf13
  refine pop_field fld78_3 ?_
  obtain ⟨sv_x14, rfl⟩ := (hc_x14).isSV
  refine uop_blk hs.p2 ty41 (leb rfl) (rfl) (fun w4 hs => ?_)
  replace hs := hs.enc (cs' := Flat.enc (⟨(a).kind, (a).what, (a).crashes, sv_x14⟩ : TEndV)) rfl
  refine pop_field fld78_3 ?_
  refine qop_blk ty41 hs.p2.hb rfl ?_
  have hf14 := DL.flat (d_cells_b)
  refine pop_field fld78_3 ?_
  refine qop_blk ty41 hs.p2.hb rfl ?_
  refine pop_len sl41 (hf14.ext hs.chg) ?_
  refine pop_min  ?_
  refine pop_cutHi' sl41 (hf14.ext hs.chg) (by omega) (by omega) (fun s_x22 hq_x22 => ?_)
  have hc_x22 := hq_x22 _ hf14
  refine pop_field fld78_3 ?_
  obtain ⟨sv_x22, rfl⟩ := (hc_x22).isSV
  refine uop_blk hs.p2 ty41 (leb rfl) (rfl) (fun w5 hs => ?_)
  replace hs := hs.enc (cs' := Flat.enc (⟨(b).kind, (b).what, (b).crashes, sv_x22⟩ : TEndV)) rfl
  refine pop_field fld78_3 ?_
  refine qop_blk ty41 hs.p2.hb rfl ?_
  have hf15 := DL.flat (d_cells_c)
  refine pop_field fld78_3 ?_
  refine qop_blk ty41 hs.p2.hb rfl ?_
  refine pop_len sl41 (hf15.ext hs.chg) ?_
  refine pop_min  ?_
  refine pop_cutHi' sl41 (hf15.ext hs.chg) (by omega) (by omega) (fun s_x30 hq_x30 => ?_)
  have hc_x30 := hq_x30 _ hf15
  refine pop_field fld78_3 ?_
  obtain ⟨sv_x30, rfl⟩ := (hc_x30).isSV
  refine uop_blk hs.p2 ty41 (leb rfl) (rfl) (fun w6 hs => ?_)
  replace hs := hs.enc (cs' := Flat.enc (⟨(c).kind, (c).what, (c).crashes, sv_x30⟩ : TEndV)) rfl
  refine ⟨fun jv w' => ∃ n : Int, n = nb (lessM (⟨(a).kind, (a).what, (a).crashes, (((a).cells).take ((min ((a).cells.length : Int) 10)).toNat)⟩ : TEnd) (⟨(b).kind, (b).what, (b).crashes, (((b).cells).take ((min ((b).cells.length : Int) 10)).toNat)⟩ : TEnd)) ∧ 0 ≤ n ∧ n ≤ 1 ∧ jv = .int .i64 n ∧ St w none1 [blk b_a3 (Flat.enc (⟨(a).kind, (a).what, (a).crashes, sv_x14⟩ : TEndV)), blk b_b4 (Flat.enc (⟨(b).kind, (b).what, (b).crashes, sv_x22⟩ : TEndV)), blk b_c5 (Flat.enc (⟨(c).kind, (c).what, (c).crashes, sv_x30⟩ : TEndV))] w', ?_, ?_⟩
  · skip
    refine qop_at ty78 hs.p2.At ?_
    refine qop_at ty78 hs.p1.At ?_
    refine callP pl56 hs (C56 (⟨(a).kind, (a).what, (a).crashes, (((a).cells).take ((min (((a).cells).length : Int) 10)).toNat)⟩ : TEnd) _ (⟨(b).kind, (b).what, (b).crashes, (((b).cells).take ((min (((b).cells).length : Int) 10)).toNat)⟩ : TEnd) _ _ (show Deep.dr _ (⟨(a).kind, (a).what, (a).crashes, sv_x14⟩ : TEndV) (⟨(a).kind, (a).what, (a).crashes, (((a).cells).take ((min (((a).cells).length : Int) 10)).toNat)⟩ : TEnd) from ⟨_, rfl, DL.unflat (hc_x14.ext hs.chg)⟩) (show Deep.dr _ (⟨(b).kind, (b).what, (b).crashes, sv_x22⟩ : TEndV) (⟨(b).kind, (b).what, (b).crashes, (((b).cells).take ((min (((b).cells).length : Int) 10)).toNat)⟩ : TEnd) from ⟨_, rfl, DL.unflat (hc_x22.ext hs.chg)⟩) (by simp; omega)) (fun w7 he hs => ?_)
    refine cond_b (fun c_x34 => ?_) (fun c_x34 => ?_)
    · skip
      refine pop_add (by omega) ?_
      replace hs := hs.p1
      replace hs := hs.p2
      exact ⟨_, by rw [nb1 c_x34]; rfl, by omega, by omega, rfl, hs⟩
    · skip
      replace hs := hs.p1
      replace hs := hs.p2
      exact ⟨_, by rw [nb0 c_x34], by omega, by omega, rfl, hs⟩
  · skip
    rintro _ w8 ⟨n1, hn1, hn1a, hn1b, rfl, hs⟩ dd1
    refine ⟨fun jv w' => ∃ n : Int, n = nb (lessM (⟨(a).kind, (a).what, (a).crashes, (((a).cells).take ((min ((a).cells.length : Int) 10)).toNat)⟩ : TEnd) (⟨(b).kind, (b).what, (b).crashes, (((b).cells).take ((min ((b).cells.length : Int) 10)).toNat)⟩ : TEnd)) + nb (lessM (⟨(b).kind, (b).what, (b).crashes, (((b).cells).take ((min ((b).cells.length : Int) 10)).toNat)⟩ : TEnd) (⟨(a).kind, (a).what, (a).crashes, (((a).cells).take ((min ((a).cells.length : Int) 10)).toNat)⟩ : TEnd)) ∧ 0 ≤ n ∧ n ≤ 2 ∧ jv = .int .i64 n ∧ St w none1 [blk b_a3 (Flat.enc (⟨(a).kind, (a).what, (a).crashes, sv_x14⟩ : TEndV)), blk b_b4 (Flat.enc (⟨(b).kind, (b).what, (b).crashes, sv_x22⟩ : TEndV)), blk b_c5 (Flat.enc (⟨(c).kind, (c).what, (c).crashes, sv_x30⟩ : TEndV))] w', ?_, ?_⟩
    · skip
      refine qop_at ty78 hs.p1.At ?_
      refine qop_at ty78 hs.At ?_
      refine callP pl56 hs (C56 (⟨(b).kind, (b).what, (b).crashes, (((b).cells).take ((min (((b).cells).length : Int) 10)).toNat)⟩ : TEnd) _ (⟨(a).kind, (a).what, (a).crashes, (((a).cells).take ((min (((a).cells).length : Int) 10)).toNat)⟩ : TEnd) _ _ (show Deep.dr _ (⟨(b).kind, (b).what, (b).crashes, sv_x22⟩ : TEndV) (⟨(b).kind, (b).what, (b).crashes, (((b).cells).take ((min (((b).cells).length : Int) 10)).toNat)⟩ : TEnd) from ⟨_, rfl, DL.unflat (hc_x22.ext hs.chg)⟩) (show Deep.dr _ (⟨(a).kind, (a).what, (a).crashes, sv_x14⟩ : TEndV) (⟨(a).kind, (a).what, (a).crashes, (((a).cells).take ((min (((a).cells).length : Int) 10)).toNat)⟩ : TEnd) from ⟨_, rfl, DL.unflat (hc_x14.ext hs.chg)⟩) (by simp; omega)) (fun w9 he hs => ?_)
      refine cond_b (fun c_x39 => ?_) (fun c_x39 => ?_)
      · skip
        refine pop_add (by omega) ?_
        replace hs := hs.p2
        replace hs := hs.p2
        replace hs := hs.p2
        exact ⟨_, by rw [nb1 c_x39]; omega, by omega, by omega, rfl, hs⟩
      · skip
        replace hs := hs.p2
        replace hs := hs.p2
        replace hs := hs.p2
        exact ⟨_, by rw [nb0 c_x39]; omega, by omega, by omega, rfl, hs⟩
    · skip
      rintro _ w10 ⟨n2, hn2, hn2a, hn2b, rfl, hs⟩ dd2
      refine ⟨fun jv w' => ∃ n : Int, n = nb (lessM (⟨(a).kind, (a).what, (a).crashes, (((a).cells).take ((min ((a).cells.length : Int) 10)).toNat)⟩ : TEnd) (⟨(b).kind, (b).what, (b).crashes, (((b).cells).take ((min ((b).cells.length : Int) 10)).toNat)⟩ : TEnd)) + nb (lessM (⟨(b).kind, (b).what, (b).crashes, (((b).cells).take ((min ((b).cells.length : Int) 10)).toNat)⟩ : TEnd) (⟨(a).kind, (a).what, (a).crashes, (((a).cells).take ((min ((a).cells.length : Int) 10)).toNat)⟩ : TEnd)) + nb (sameM (⟨(a).kind, (a).what, (a).crashes, (((a).cells).take ((min ((a).cells.length : Int) 10)).toNat)⟩ : TEnd) (⟨(b).kind, (b).what, (b).crashes, (((b).cells).take ((min ((b).cells.length : Int) 10)).toNat)⟩ : TEnd)) ∧ 0 ≤ n ∧ n ≤ 3 ∧ jv = .int .i64 n ∧ St w none1 [blk b_a3 (Flat.enc (⟨(a).kind, (a).what, (a).crashes, sv_x14⟩ : TEndV)), blk b_b4 (Flat.enc (⟨(b).kind, (b).what, (b).crashes, sv_x22⟩ : TEndV)), blk b_c5 (Flat.enc (⟨(c).kind, (c).what, (c).crashes, sv_x30⟩ : TEndV))] w', ?_, ?_⟩
      · skip
        refine qop_at ty78 hs.At ?_
        refine qop_at ty78 hs.p1.At ?_
        refine callP pl58 hs (C58 (⟨(a).kind, (a).what, (a).crashes, (((a).cells).take ((min (((a).cells).length : Int) 10)).toNat)⟩ : TEnd) _ (⟨(b).kind, (b).what, (b).crashes, (((b).cells).take ((min (((b).cells).length : Int) 10)).toNat)⟩ : TEnd) _ _ (show Deep.dr _ (⟨(a).kind, (a).what, (a).crashes, sv_x14⟩ : TEndV) (⟨(a).kind, (a).what, (a).crashes, (((a).cells).take ((min (((a).cells).length : Int) 10)).toNat)⟩ : TEnd) from ⟨_, rfl, DL.unflat (hc_x14.ext hs.chg)⟩) (show Deep.dr _ (⟨(b).kind, (b).what, (b).crashes, sv_x22⟩ : TEndV) (⟨(b).kind, (b).what, (b).crashes, (((b).cells).take ((min (((b).cells).length : Int) 10)).toNat)⟩ : TEnd) from ⟨_, rfl, DL.unflat (hc_x22.ext hs.chg)⟩) (by simp; omega) (by simp; omega)) (fun w11 he hs => ?_)
        refine cond_b (fun c_x44 => ?_) (fun c_x44 => ?_)
        · skip
          refine pop_add (by omega) ?_
          replace hs := hs.p2
          replace hs := hs.p2
          replace hs := hs.p2
          exact ⟨_, by rw [nb1 c_x44]; omega, by omega, by omega, rfl, hs⟩
        · skip
          replace hs := hs.p2
          replace hs := hs.p2
          replace hs := hs.p2
          exact ⟨_, by rw [nb0 c_x44]; omega, by omega, by omega, rfl, hs⟩
      · skip
        rintro _ w12 ⟨n3, hn3, hn3a, hn3b, rfl, hs⟩ dd3
        refine ⟨fun jv w' => jv = .bool true ∧ St w none1 [] w', ?_, ?_⟩
        · skip
          refine pop_eql ?_
          refine cond_yb (decide_eq_true (by have := nb_all (⟨(a).kind, (a).what, (a).crashes, (((a).cells).take ((min ((a).cells.length : Int) 10)).toNat)⟩ : TEnd) (⟨(b).kind, (b).what, (b).crashes, (((b).cells).take ((min ((b).cells.length : Int) 10)).toNat)⟩ : TEnd); omega)) ?_
          refine qop_at ty78 hs.At ?_
          refine qop_at ty78 hs.p1.At ?_
          refine callP pl56 hs (C56 (⟨(a).kind, (a).what, (a).crashes, (((a).cells).take ((min (((a).cells).length : Int) 10)).toNat)⟩ : TEnd) _ (⟨(b).kind, (b).what, (b).crashes, (((b).cells).take ((min (((b).cells).length : Int) 10)).toNat)⟩ : TEnd) _ _ (show Deep.dr _ (⟨(a).kind, (a).what, (a).crashes, sv_x14⟩ : TEndV) (⟨(a).kind, (a).what, (a).crashes, (((a).cells).take ((min (((a).cells).length : Int) 10)).toNat)⟩ : TEnd) from ⟨_, rfl, DL.unflat (hc_x14.ext hs.chg)⟩) (show Deep.dr _ (⟨(b).kind, (b).what, (b).crashes, sv_x22⟩ : TEndV) (⟨(b).kind, (b).what, (b).crashes, (((b).cells).take ((min (((b).cells).length : Int) 10)).toNat)⟩ : TEnd) from ⟨_, rfl, DL.unflat (hc_x22.ext hs.chg)⟩) (by simp; omega)) (fun w13 he hs => ?_)
          refine pop_not ?_
          refine cond_b (fun c_x53 => ?_) (fun c_x53 => ?_)
          · skip
            refine callP pl54 hs (C54 _) (fun w14 he hs => ?_)
            replace hs := (hs).drop
            replace hs := (hs).drop
            replace hs := (hs).drop
            exact ⟨rfl, hs⟩
          · skip
            refine qop_at ty78 hs.p1.At ?_
            refine qop_at ty78 hs.p2.At ?_
            refine callP pl56 hs (C56 (⟨(b).kind, (b).what, (b).crashes, (((b).cells).take ((min (((b).cells).length : Int) 10)).toNat)⟩ : TEnd) _ (⟨(c).kind, (c).what, (c).crashes, (((c).cells).take ((min (((c).cells).length : Int) 10)).toNat)⟩ : TEnd) _ _ (show Deep.dr _ (⟨(b).kind, (b).what, (b).crashes, sv_x22⟩ : TEndV) (⟨(b).kind, (b).what, (b).crashes, (((b).cells).take ((min (((b).cells).length : Int) 10)).toNat)⟩ : TEnd) from ⟨_, rfl, DL.unflat (hc_x22.ext hs.chg)⟩) (show Deep.dr _ (⟨(c).kind, (c).what, (c).crashes, sv_x30⟩ : TEndV) (⟨(c).kind, (c).what, (c).crashes, (((c).cells).take ((min (((c).cells).length : Int) 10)).toNat)⟩ : TEnd) from ⟨_, rfl, DL.unflat (hc_x30.ext hs.chg)⟩) (by simp; omega)) (fun w15 he hs => ?_)
            refine pop_not ?_
            refine cond_b (fun c_x58 => ?_) (fun c_x58 => ?_)
            · skip
              refine callP pl54 hs (C54 _) (fun w16 he hs => ?_)
              replace hs := (hs).drop
              replace hs := (hs).drop
              replace hs := (hs).drop
              exact ⟨rfl, hs⟩
            · skip
              refine qop_at ty78 hs.At ?_
              refine qop_at ty78 hs.p2.At ?_
              refine callP pl56 hs (C56 (⟨(a).kind, (a).what, (a).crashes, (((a).cells).take ((min (((a).cells).length : Int) 10)).toNat)⟩ : TEnd) _ (⟨(c).kind, (c).what, (c).crashes, (((c).cells).take ((min (((c).cells).length : Int) 10)).toNat)⟩ : TEnd) _ _ (show Deep.dr _ (⟨(a).kind, (a).what, (a).crashes, sv_x14⟩ : TEndV) (⟨(a).kind, (a).what, (a).crashes, (((a).cells).take ((min (((a).cells).length : Int) 10)).toNat)⟩ : TEnd) from ⟨_, rfl, DL.unflat (hc_x14.ext hs.chg)⟩) (show Deep.dr _ (⟨(c).kind, (c).what, (c).crashes, sv_x30⟩ : TEndV) (⟨(c).kind, (c).what, (c).crashes, (((c).cells).take ((min (((c).cells).length : Int) 10)).toNat)⟩ : TEnd) from ⟨_, rfl, DL.unflat (hc_x30.ext hs.chg)⟩) (by simp; omega)) (fun w17 he hs => ?_)
              refine cond_yb (less_trans (by simpa using c_x53) (by simpa using c_x58)) ?_
              refine callP pl54 hs (C54 _) (fun w18 he hs => ?_)
              replace hs := (hs).drop
              replace hs := (hs).drop
              replace hs := (hs).drop
              exact ⟨rfl, hs⟩
        · skip
          rintro _ w19 ⟨rfl, hs⟩ dd4
          exact ⟨rfl, hs.chg⟩

end Go.Proofs.YtndcifakbhggdaaGreatDoor
