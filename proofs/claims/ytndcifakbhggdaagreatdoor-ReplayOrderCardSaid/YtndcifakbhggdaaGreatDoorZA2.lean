/-
  Ends, one against another one.
-/
import Derived.Test.YtndcifakbhggdaaGreatDoorZA1
import Derived.Test.YtndcifakbhggdaaGreatDoorZFw18
import Derived.KernelRfl
namespace Go.Proofs.YtndcifakbhggdaaGreatDoor
open Go.Fw

set_option maxRecDepth 100000
theorem sameL {a b : TEnd} (h1 : a.kind = b.kind) (h2 : a.what = b.what) (h3 : a.crashes = b.crashes) : decide (a.cells = b.cells) = sameM a b := decide_eq_decide.2 ⟨fun h => end_eq (by rw [h1, h2, h3, h]), fun h => by rw [h]⟩
theorem sameN {a b : TEnd} (h : ¬ (a.kind = b.kind ∧ a.what = b.what ∧ a.crashes = b.crashes)) : false = sameM a b := (decide_eq_false (fun e => h (by rw [e]; exact ⟨rfl, rfl, rfl⟩))).symm
theorem less1 {a b : TEnd} (h : ¬ a.kind = b.kind) : decide (a.kind < b.kind) = lessM a b := by
  unfold lessM; simp only [List.cons_append, List.nil_append]; rw [lessL, if_neg h]
theorem less2 {a b : TEnd} (h1 : a.kind = b.kind) (h : ¬ a.what = b.what) : decide (a.what < b.what) = lessM a b := by
  unfold lessM; simp only [List.cons_append, List.nil_append]; rw [lessL, if_pos h1, lessL, if_neg h]
theorem less3 {a b : TEnd} (h1 : a.kind = b.kind) (h2 : a.what = b.what) (h : ¬ a.crashes = b.crashes) : decide (a.crashes < b.crashes) = lessM a b := by
  unfold lessM; simp only [List.cons_append, List.nil_append]; rw [lessL, if_pos h1, lessL, if_pos h2, lessL, if_neg h]
theorem less4 {a b : TEnd} (h1 : a.kind = b.kind) (h2 : a.what = b.what) (h3 : a.crashes = b.crashes) : lessL a.cells b.cells = lessM a b := by
  unfold lessM; simp only [List.cons_append, List.nil_append]; rw [lessL, if_pos h1, lessL, if_pos h2, lessL, if_pos h3]
theorem lessL_go {l m : List Int} {k : Nat} {a b : Int} (h : l[k]? = some a) (h2 : m[k]? = some b) (hc : a = b) : lessL (l.drop k) (m.drop k) = lessL (l.drop (k + 1)) (m.drop (k + 1)) := by
  rw [drop_get h, drop_get h2, lessL, if_pos hc]
theorem lessL_at {l m : List Int} {k : Nat} {a b : Int} (h : l[k]? = some a) (h2 : m[k]? = some b) (hc : ¬ a = b) : lessL (l.drop k) (m.drop k) = decide (a < b) := by
  rw [drop_get h, drop_get h2, lessL, if_neg hc]
theorem lessL_end {l m : List Int} {k : Nat} (h : ¬ (k < l.length ∧ k < m.length)) (h1 : k ≤ l.length) (h2 : k ≤ m.length) : lessL (l.drop k) (m.drop k) = decide (l.length < m.length) := by
  by_cases e : k < l.length
  · obtain ⟨a, ha⟩ : ∃ a, l[k]? = some a := ⟨_, List.getElem?_eq_getElem e⟩
    rw [drop_get ha, List.drop_eq_nil_of_le (show m.length ≤ k by omega), lessL]; exact (decide_eq_false (by omega)).symm
  · rw [List.drop_eq_nil_of_le (show l.length ≤ k by omega)]
    by_cases e2 : k < m.length
    · obtain ⟨b, hb⟩ : ∃ b, m[k]? = some b := ⟨_, List.getElem?_eq_getElem e2⟩
      rw [drop_get hb, lessL]; exact (decide_eq_true (by omega)).symm
    · rw [List.drop_eq_nil_of_le (show m.length ≤ k by omega), lessL]; exact (decide_eq_false (by omega)).symm
/-- The names of the kinds. -/
def nmL : List ByteArray := [ByteArray.mk #[111, 112, 101, 110], ByteArray.mk #[115, 97, 102, 101], ByteArray.mk #[99, 108, 97, 105, 109], ByteArray.mk #[102, 97, 117, 108, 116], ByteArray.mk #[115, 116, 117, 99, 107]]
def nameM (k : Int) : ByteArray := if k < 0 ∨ 5 ≤ k then ByteArray.mk #[] else nmL.getD k.toNat (ByteArray.mk #[])

theorem C55 (e : TEnd) (ev : TEndV) (w : World) (he : Deep.dr w ev e) : Calls Tryz.prog 55 [Flat.val ev].toArray w (Ret fun v w' => v = .bool (badM e) ∧ Ext w w') := by
  obtain ⟨g_cells_e, rfl, d_cells_e⟩ := he
  have hs := St.start w
  refine S55_ok _ _ _ ?_
  unfold S55
  refine eop_boxV hs (fun b_e1 w1 hs => ?_)
  refine ⟨fun jv w' => jv = .bool (decide (2 ≤ e.kind ∧ e.kind ≤ 4)) ∧ w1 = w', ?_, ?_⟩
  · skip
    refine pop_field fld78_0 ?_
    refine qop_blk (v := .int .i64 ((e).kind)) ty3 hs.hb rfl ?_
    refine pop_eql ?_
    refine cond_d (fun c_x5 => ?_) (fun c_x5 => ?_)
    · skip
      exact ⟨jvT (by omega), rfl⟩
    · skip
      refine pop_field fld78_0 ?_
      refine qop_blk (v := .int .i64 ((e).kind)) ty3 hs.hb rfl ?_
      refine pop_eql ?_
      refine cond_d (fun c_x9 => ?_) (fun c_x9 => ?_)
      · skip
        exact ⟨jvT (by omega), rfl⟩
      · skip
        refine pop_field fld78_0 ?_
        refine qop_blk (v := .int .i64 ((e).kind)) ty3 hs.hb rfl ?_
        refine pop_eql ?_
        exact ⟨jvD (by omega), rfl⟩
  · skip
    rintro _ w2 ⟨rfl, hw⟩ dd1
    subst hw
    exact ⟨rfl, hs.drop.chg⟩

theorem C49 (e : TEnd) (ev : TEndV) (w : World) (he : Deep.dr w ev e) : Calls Tryz.prog 49 [Flat.val ev].toArray w (Ret fun v w' => v = .bool (badM e) ∧ Ext w w') := by
  obtain ⟨g_cells_e, rfl, d_cells_e⟩ := he
  have hs := St.start w
  refine S49_ok _ _ _ ?_
  unfold S49
  refine eop_boxV hs (fun b_e1 w1 hs => ?_)
  refine ⟨fun jv w' => jv = .bool (decide (2 ≤ e.kind ∧ e.kind ≤ 4)) ∧ w1 = w', ?_, ?_⟩
  · skip
    refine pop_field fld78_0 ?_
    refine qop_blk (v := .int .i64 ((e).kind)) ty3 hs.hb rfl ?_
    refine pop_geq ?_
    refine cond_d (fun c_x5 => ?_) (fun c_x5 => ?_)
    · skip
      refine pop_field fld78_0 ?_
      refine qop_blk (v := .int .i64 ((e).kind)) ty3 hs.hb rfl ?_
      refine pop_leq ?_
      exact ⟨jvD (by omega), rfl⟩
    · skip
      exact ⟨jvF (by omega), rfl⟩
  · skip
    rintro _ w2 ⟨rfl, hw⟩ dd1
    subst hw
    exact ⟨rfl, hs.drop.chg⟩

theorem C56 (a : TEnd) (av : TEndV) (b : TEnd) (bv : TEndV) (w : World) (ha : Deep.dr w av a) (hb : Deep.dr w bv b) (hn : a.cells.length ≤ 1073741824) : Calls Tryz.prog 56 [Flat.val av, Flat.val bv].toArray w (Ret fun v w' => v = .bool (lessM a b) ∧ Ext w w') := by
  obtain ⟨g_cells_a, rfl, d_cells_a⟩ := ha
  obtain ⟨g_cells_b, rfl, d_cells_b⟩ := hb
  have hs := St.start w
  refine S56_ok _ _ _ _ ?_
  unfold S56
  refine eop_boxV hs (fun b_a2 w1 hs => ?_)
  refine eop_boxV hs (fun b_b3 w2 hs => ?_)
  refine pop_field fld78_0 ?_
  refine qop_blk (v := .int .i64 ((a).kind)) ty3 hs.p1.hb rfl ?_
  refine pop_field fld78_0 ?_
  refine qop_blk (v := .int .i64 ((b).kind)) ty3 hs.hb rfl ?_
  refine pop (bld172_0_1 _  _ ) ?_
  refine pop_field fld78_1 ?_
  refine qop_blk (v := .int .i64 ((a).what)) ty3 hs.p1.hb rfl ?_
  refine pop_field fld78_1 ?_
  refine qop_blk (v := .int .i64 ((b).what)) ty3 hs.hb rfl ?_
  refine pop (bld172_0_1 _  _ ) ?_
  refine pop_field fld78_2 ?_
  refine qop_blk (v := .int .i64 ((a).crashes)) ty3 hs.p1.hb rfl ?_
  refine pop_field fld78_2 ?_
  refine qop_blk (v := .int .i64 ((b).crashes)) ty3 hs.hb rfl ?_
  refine pop (bld172_0_1 _  _ ) ?_
  refine eop_build ([(⟨(a).kind, (b).kind⟩ : TPair), (⟨(a).what, (b).what⟩ : TPair), (⟨(a).crashes, (b).crashes⟩ : TPair)]) hs sl255 rfl rfl (leb rfl) (fun s_x21 w3 hs => ?_)
  refine callP pl123 hs (C123 _ [(⟨(a).kind, (b).kind⟩ : TPair), (⟨(a).what, (b).what⟩ : TPair), (⟨(a).crashes, (b).crashes⟩ : TPair)] _ (hs).rd' (leb rfl)) (fun w4 he hs => ?_)
  refine pop_field fld78_3 ?_
  refine qop_blk ty41 hs.p2.hb rfl ?_
  have hf1 := DL.flat (d_cells_a)
  refine pop_field fld78_3 ?_
  refine qop_blk ty41 hs.p1.hb rfl ?_
  have hf2 := DL.flat (d_cells_b)
  refine callP pl125 hs (C125 _ _ (a).cells (b).cells _ (hf1.ext hs.chg) (hf2.ext hs.chg) (hn)) (fun w5 he hs => ?_)
  refine eop_build (([(ordM [(⟨(a).kind, (b).kind⟩ : TPair), (⟨(a).what, (b).what⟩ : TPair), (⟨(a).crashes, (b).crashes⟩ : TPair)]), (cmpL (a).cells (b).cells)] : List Int)) hs sl41 rfl rfl (leb rfl) (fun s_x29 w6 hs => ?_)
  refine callP pl124 hs (C124 _ ([(ordM [(⟨(a).kind, (b).kind⟩ : TPair), (⟨(a).what, (b).what⟩ : TPair), (⟨(a).crashes, (b).crashes⟩ : TPair)]), (cmpL (a).cells (b).cells)] : List Int) _ (hs).rd' (leb rfl)) (fun w7 he hs => ?_)
  refine pop_lss ?_
  replace hs := (hs).drop
  replace hs := (hs).drop
  replace hs := (hs).drop
  replace hs := (hs).drop
  exact ⟨congrArg Value.bool (less_eq a b), hs.chg⟩

theorem C58 (a : TEnd) (av : TEndV) (b : TEnd) (bv : TEndV) (w : World) (ha : Deep.dr w av a) (hb : Deep.dr w bv b) (hn : a.cells.length ≤ 1073741824) (hm : b.cells.length ≤ 1073741824) : Calls Tryz.prog 58 [Flat.val av, Flat.val bv].toArray w (Ret fun v w' => v = .bool (sameM a b) ∧ Ext w w') := by
  obtain ⟨g_cells_a, rfl, d_cells_a⟩ := ha
  obtain ⟨g_cells_b, rfl, d_cells_b⟩ := hb
  have hs := St.start w
  refine S58_ok _ _ _ _ ?_
  unfold S58
  refine eop_boxV hs (fun b_a2 w1 hs => ?_)
  refine eop_boxV hs (fun b_b3 w2 hs => ?_)
  refine ⟨fun jv w' => jv = .bool (!lessM a b && !lessM b a) ∧ St w none1 [] w', ?_, ?_⟩
  · skip
    refine qop_at ty78 hs.p1.At ?_
    refine qop_at ty78 hs.At ?_
    refine callP pl56 hs (C56 a _ b _ _ ⟨g_cells_a, rfl, (d_cells_a.ext hs.chg)⟩ ⟨g_cells_b, rfl, (d_cells_b.ext hs.chg)⟩ hn) (fun w3 he hs => ?_)
    refine pop_not ?_
    refine cond_b (fun c_x8 => ?_) (fun c_x8 => ?_)
    · skip
      refine qop_at ty78 hs.At ?_
      refine qop_at ty78 hs.p1.At ?_
      refine callP pl56 hs (C56 b _ a _ _ ⟨g_cells_b, rfl, (d_cells_b.ext hs.chg)⟩ ⟨g_cells_a, rfl, (d_cells_a.ext hs.chg)⟩ hm) (fun w4 he hs => ?_)
      refine pop_not ?_
      replace hs := (hs).drop
      replace hs := (hs).drop
      exact ⟨congrArg Value.bool (by rw [Bool.not_eq_true'] at c_x8; rw [c_x8]; rfl), hs⟩
    · skip
      replace hs := (hs).drop
      replace hs := (hs).drop
      exact ⟨congrArg Value.bool (by rw [Bool.not_eq_false'] at c_x8; rw [c_x8]; rfl), hs⟩
  · skip
    rintro _ w5 ⟨rfl, hs⟩ dd1
    exact ⟨congrArg Value.bool ((same_less a b).symm), hs.chg⟩

theorem C39 (a : TEnd) (av : TEndV) (b : TEnd) (bv : TEndV) (w : World) (ha : Deep.dr w av a) (hb : Deep.dr w bv b) (hn : a.cells.length ≤ 1073741824) : Calls Tryz.prog 39 [Flat.val av, Flat.val bv].toArray w (Ret fun v w' => v = .bool (sameM a b) ∧ Ext w w') := by
  obtain ⟨g_cells_a, rfl, d_cells_a⟩ := ha
  obtain ⟨g_cells_b, rfl, d_cells_b⟩ := hb
  have hs := St.start w
  refine S39_ok _ _ _ _ ?_
  unfold S39
  refine eop_boxV hs (fun b_a2 w1 hs => ?_)
  refine eop_boxV hs (fun b_b3 w2 hs => ?_)
  refine ⟨fun jv w' => jv = .bool (sameM a b) ∧ St w none1 [] w', ?_, ?_⟩
  · skip
    refine pop_field fld78_0 ?_
    refine qop_blk (v := .int .i64 ((a).kind)) ty3 hs.p1.hb rfl ?_
    refine pop_field fld78_0 ?_
    refine qop_blk (v := .int .i64 ((b).kind)) ty3 hs.hb rfl ?_
    refine pop_eql ?_
    refine cond_d (fun c_x9 => ?_) (fun c_x9 => ?_)
    · skip
      refine pop_field fld78_1 ?_
      refine qop_blk (v := .int .i64 ((a).what)) ty3 hs.p1.hb rfl ?_
      refine pop_field fld78_1 ?_
      refine qop_blk (v := .int .i64 ((b).what)) ty3 hs.hb rfl ?_
      refine pop_eql ?_
      refine cond_d (fun c_x15 => ?_) (fun c_x15 => ?_)
      · skip
        refine pop_field fld78_2 ?_
        refine qop_blk (v := .int .i64 ((a).crashes)) ty3 hs.p1.hb rfl ?_
        refine pop_field fld78_2 ?_
        refine qop_blk (v := .int .i64 ((b).crashes)) ty3 hs.hb rfl ?_
        refine pop_eql ?_
        refine cond_d (fun c_x22 => ?_) (fun c_x22 => ?_)
        · skip
          refine pop_field fld78_3 ?_
          refine qop_blk ty41 hs.p1.hb rfl ?_
          have hf3 := DL.flat (d_cells_a)
          refine pop_field fld78_3 ?_
          refine qop_blk ty41 hs.hb rfl ?_
          have hf4 := DL.flat (d_cells_b)
          refine callP pl34 hs (C34 _ _ (a).cells (b).cells _ (hf3.ext hs.chg) (hf4.ext hs.chg) (hn)) (fun w3 he hs => ?_)
          replace hs := (hs).drop
          replace hs := (hs).drop
          exact ⟨congrArg Value.bool (sameL c_x9 c_x15 c_x22), hs⟩
        · skip
          replace hs := (hs).drop
          replace hs := (hs).drop
          exact ⟨congrArg Value.bool (sameN (by omega)), hs⟩
      · skip
        replace hs := (hs).drop
        replace hs := (hs).drop
        exact ⟨congrArg Value.bool (sameN (by omega)), hs⟩
    · skip
      replace hs := (hs).drop
      replace hs := (hs).drop
      exact ⟨congrArg Value.bool (sameN (by omega)), hs⟩
  · skip
    rintro _ w4 ⟨rfl, hs⟩ dd1
    exact ⟨rfl, hs.chg⟩

theorem C57 (a : TEnd) (av : TEndV) (b : TEnd) (bv : TEndV) (w : World) (ha : Deep.dr w av a) (hb : Deep.dr w bv b) (hn : a.cells.length ≤ 1073741824) : Calls Tryz.prog 57 [Flat.val av, Flat.val bv].toArray w (Ret fun v w' => v = .bool (lessM a b) ∧ Ext w w') := by
  obtain ⟨g_cells_a, rfl, d_cells_a⟩ := ha
  obtain ⟨g_cells_b, rfl, d_cells_b⟩ := hb
  have hs := St.start w
  refine S57_ok _ _ _ _ ?_
  unfold S57
  refine eop_boxV hs (fun b_a2 w1 hs => ?_)
  refine eop_boxV hs (fun b_b3 w2 hs => ?_)
  refine pop_field fld78_0 ?_
  refine qop_blk (v := .int .i64 ((a).kind)) ty3 hs.p1.hb rfl ?_
  refine pop_field fld78_0 ?_
  refine qop_blk (v := .int .i64 ((b).kind)) ty3 hs.hb rfl ?_
  refine pop_neq ?_
  refine cond_d (fun c_x10 => ?_) (fun c_x10 => ?_)
  · skip
    refine pop_field fld78_0 ?_
    refine qop_blk (v := .int .i64 ((a).kind)) ty3 hs.p1.hb rfl ?_
    refine pop_field fld78_0 ?_
    refine qop_blk (v := .int .i64 ((b).kind)) ty3 hs.hb rfl ?_
    refine pop_lss ?_
    replace hs := (hs).drop
    replace hs := (hs).drop
    exact ⟨congrArg Value.bool (less1 c_x10), hs.chg⟩
  · skip
    refine pop_field fld78_1 ?_
    refine qop_blk (v := .int .i64 ((a).what)) ty3 hs.p1.hb rfl ?_
    refine pop_field fld78_1 ?_
    refine qop_blk (v := .int .i64 ((b).what)) ty3 hs.hb rfl ?_
    refine pop_neq ?_
    refine cond_d (fun c_x20 => ?_) (fun c_x20 => ?_)
    · skip
      refine pop_field fld78_1 ?_
      refine qop_blk (v := .int .i64 ((a).what)) ty3 hs.p1.hb rfl ?_
      refine pop_field fld78_1 ?_
      refine qop_blk (v := .int .i64 ((b).what)) ty3 hs.hb rfl ?_
      refine pop_lss ?_
      replace hs := (hs).drop
      replace hs := (hs).drop
      exact ⟨congrArg Value.bool (less2 (by omega) c_x20), hs.chg⟩
    · skip
      refine pop_field fld78_2 ?_
      refine qop_blk (v := .int .i64 ((a).crashes)) ty3 hs.p1.hb rfl ?_
      refine pop_field fld78_2 ?_
      refine qop_blk (v := .int .i64 ((b).crashes)) ty3 hs.hb rfl ?_
      refine pop_neq ?_
      refine cond_d (fun c_x30 => ?_) (fun c_x30 => ?_)
      · skip
        refine pop_field fld78_2 ?_
        refine qop_blk (v := .int .i64 ((a).crashes)) ty3 hs.p1.hb rfl ?_
        refine pop_field fld78_2 ?_
        refine qop_blk (v := .int .i64 ((b).crashes)) ty3 hs.hb rfl ?_
        refine pop_lss ?_
        replace hs := (hs).drop
        replace hs := (hs).drop
        exact ⟨congrArg Value.bool (less3 (by omega) (by omega) c_x30), hs.chg⟩
      · skip
        replace hs := hs.p1
        refine ⟨fun mm i w' => ∃ k : Nat, i = .int .i64 (k : Int) ∧ mm = a.cells.length - k ∧ k ≤ a.cells.length ∧ k ≤ b.cells.length ∧ lessL a.cells b.cells = lessL (a.cells.drop k) (b.cells.drop k) ∧ St w none1 [blk b_a2 (Flat.enc (⟨(a).kind, (a).what, (a).crashes, g_cells_a⟩ : TEndV)), blk b_b3 (Flat.enc (⟨(b).kind, (b).what, (b).crashes, g_cells_b⟩ : TEndV))] w', ⟨_, 0, rfl, rfl, Nat.zero_le _, Nat.zero_le _, rfl, hs⟩, ?_⟩
        rintro mm _ w3 ⟨k, rfl, rfl, hk, hk2, heq, hs⟩ dd1
        refine ⟨fun jv w' => jv = .bool (decide (k < a.cells.length ∧ k < b.cells.length)) ∧ w3 = w', ?_, ?_⟩
        · skip
          refine pop_field fld78_3 ?_
          refine qop_blk ty41 hs.hb rfl ?_
          have hf5 := DL.flat (d_cells_a)
          refine pop_len sl41 (hf5.ext hs.chg) ?_
          refine pop_lss ?_
          refine cond_d (fun c_x40 => ?_) (fun c_x40 => ?_)
          · skip
            refine pop_field fld78_3 ?_
            refine qop_blk ty41 hs.p1.hb rfl ?_
            have hf6 := DL.flat (d_cells_b)
            refine pop_len sl41 (hf6.ext hs.chg) ?_
            refine pop_lss ?_
            exact ⟨jvD (by omega), rfl⟩
          · skip
            exact ⟨jvF (by omega), rfl⟩
        · skip
          rintro _ w4 ⟨rfl, hw⟩ dd2
          subst hw
          refine cond_d (fun c_x47 => ?_) (fun c_x47 => ?_)
          · skip
            refine pop_field fld78_3 ?_
            replace hs := hs.drew
            refine qop_blk ty41 hs.hb rfl ?_
            have hf7 := DL.flat (d_cells_a)
            obtain ⟨e_x53, he_x53⟩ := gx ((a).cells) (i := ((k : Int)).toNat) (by omega)
            refine pop_idx sl41 hf7 (by omega) he_x53 (fun q_x53 h_x53 => ?_)
            refine qop_at ty3 (h_x53.ext hs.chg) ?_
            refine pop_field fld78_3 ?_
            refine qop_blk ty41 hs.p1.hb rfl ?_
            have hf8 := DL.flat (d_cells_b)
            obtain ⟨e_x58, he_x58⟩ := gx ((b).cells) (i := ((k : Int)).toNat) (by omega)
            refine pop_idx sl41 hf8 (by omega) he_x58 (fun q_x58 h_x58 => ?_)
            refine qop_at ty3 (h_x58.ext hs.chg) ?_
            refine pop_neq ?_
            refine cond_d (fun c_x60 => ?_) (fun c_x60 => ?_)
            · skip
              refine pop_field fld78_3 ?_
              replace hs := hs.drew
              refine qop_blk ty41 hs.hb rfl ?_
              refine pop_idx sl41 hf7 (by omega) he_x53 (fun q_x64 h_x64 => ?_)
              refine qop_at ty3 (h_x64.ext hs.chg) ?_
              refine pop_field fld78_3 ?_
              refine qop_blk ty41 hs.p1.hb rfl ?_
              refine pop_idx sl41 hf8 (by omega) he_x58 (fun q_x69 h_x69 => ?_)
              refine qop_at ty3 (h_x69.ext hs.chg) ?_
              refine pop_lss ?_
              replace hs := (hs).drop
              replace hs := (hs).drop
              exact ⟨congrArg Value.bool (((less4 (by omega) (by omega) (by omega)).symm.trans (heq.trans (lessL_at he_x53 he_x58 c_x60))).symm), hs.chg⟩
            · skip
              refine pop_add (by omega) ?_
              exact ⟨_, by omega, k + 1, rfl, rfl, by omega, by omega, heq.trans (lessL_go he_x53 he_x58 (by omega)), hs⟩
          · skip
            refine pop_field fld78_3 ?_
            refine qop_blk ty41 hs.hb rfl ?_
            have hf9 := DL.flat (d_cells_a)
            refine pop_len sl41 (hf9.ext hs.chg) ?_
            refine pop_field fld78_3 ?_
            refine qop_blk ty41 hs.p1.hb rfl ?_
            have hf10 := DL.flat (d_cells_b)
            refine pop_len sl41 (hf10.ext hs.chg) ?_
            refine pop_lss ?_
            replace hs := (hs).drop
            replace hs := (hs).drop
            exact ⟨congrArg Value.bool (((less4 (by omega) (by omega) (by omega)).symm.trans (heq.trans ((lessL_end c_x47 hk hk2).trans (decide_eq_decide.2 (by omega))))).symm), hs.chg⟩

theorem C59 (k : Int) (w : World)  : Calls Tryz.prog 59 [.int .i64 k].toArray w (Ret fun v w' => v = .string (nameM k) ∧ Ext w w') := by
  have hs := St.start w
  refine S59_ok _ _ _ ?_
  unfold S59
  refine ⟨fun jv w' => jv = .bool (decide (k < 0 ∨ 5 ≤ k)) ∧ w = w', ?_, ?_⟩
  · skip
    refine pop_lss ?_
    refine cond_d (fun c_x4 => ?_) (fun c_x4 => ?_)
    · skip
      exact ⟨jvT (by omega), rfl⟩
    · skip
      refine pop_geq ?_
      exact ⟨jvD (by omega), rfl⟩
  · skip
    rintro _ w1 ⟨rfl, hw⟩ dd1
    subst hw
    refine cond_d (fun c_x8 => ?_) (fun c_x8 => ?_)
    · skip
      exact ⟨congrArg Value.string (by unfold nameM; rw [if_pos c_x8]), hs.chg⟩
    · skip
      refine ⟨_, bld175_0_1_2_3_4 _ _ _ _ _, ?_⟩
      obtain rfl | rfl | rfl | rfl | rfl : k = 0 ∨ k = 1 ∨ k = 2 ∨ k = 3 ∨ k = 4 := by omega
      all_goals exact ⟨.string (nameM _), by kernel_rfl, rfl, hs.chg⟩

theorem C60 (k : Int) (w : World)  : Calls Tryz.prog 60 [.int .i64 k].toArray w (Ret fun v w' => v = .string (nameM k) ∧ Ext w w') := by
  have hs := St.start w
  refine S60_ok _ _ _ ?_
  unfold S60
  refine ⟨fun jv w' => jv = .bool (decide (k < 0 ∨ 5 ≤ k)) ∧ w = w', ?_, ?_⟩
  · skip
    refine pop_lss ?_
    refine cond_d (fun c_x4 => ?_) (fun c_x4 => ?_)
    · skip
      exact ⟨jvT (by omega), rfl⟩
    · skip
      refine pop_gtr ?_
      exact ⟨jvD (by omega), rfl⟩
  · skip
    rintro _ w1 ⟨rfl, hw⟩ dd1
    subst hw
    refine cond_d (fun c_x8 => ?_) (fun c_x8 => ?_)
    · skip
      exact ⟨congrArg Value.string (by unfold nameM; rw [if_pos c_x8]), hs.chg⟩
    · skip
      refine eop_build ([(ByteArray.mk #[111, 112, 101, 110]), (ByteArray.mk #[115, 97, 102, 101]), (ByteArray.mk #[99, 108, 97, 105, 109]), (ByteArray.mk #[102, 97, 117, 108, 116]), (ByteArray.mk #[115, 116, 117, 99, 107])]) hs sl66 rfl rfl (leb rfl) (fun s_x9 w2 hs => ?_)
      have hl5 : ([(ByteArray.mk #[111, 112, 101, 110]), (ByteArray.mk #[115, 97, 102, 101]), (ByteArray.mk #[99, 108, 97, 105, 109]), (ByteArray.mk #[102, 97, 117, 108, 116]), (ByteArray.mk #[115, 116, 117, 99, 107])]).length = 5 := rfl
      obtain ⟨e_x11, he_x11⟩ := gx ([(ByteArray.mk #[111, 112, 101, 110]), (ByteArray.mk #[115, 97, 102, 101]), (ByteArray.mk #[99, 108, 97, 105, 109]), (ByteArray.mk #[102, 97, 117, 108, 116]), (ByteArray.mk #[115, 116, 117, 99, 107])]) (i := (k).toNat) (by omega)
      refine pop_own hs sl66 (by omega) (by omega) (fun q_x11 h_x11 => ?_)
      refine qop_own hs ty9 h_x11 he_x11 ?_
      replace hs := (hs).drop
      exact ⟨congrArg Value.string (by unfold nameM; rw [if_neg c_x8, List.getD_eq_getElem?_getD]; exact (congrArg (fun o => Option.getD o (ByteArray.mk #[])) he_x11).symm), hs.chg⟩

end Go.Proofs.YtndcifakbhggdaaGreatDoor
