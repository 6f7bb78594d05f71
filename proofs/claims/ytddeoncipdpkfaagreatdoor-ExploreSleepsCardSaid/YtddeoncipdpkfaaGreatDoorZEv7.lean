/-
  The evaluator: parts of structs and arrays; slices cut; lengths. Own work; nothing here is trusted.
-/
import Derived.Test.YtddeoncipdpkfaaGreatDoorZEv6
set_option linter.all false
namespace Go.Fw
section
variable {P : Program} {Fr : Fram} {ρ : Rn} {h h' : Hp} {w : World} {v : V} {n n' : Nat} {e : En} {e' : Env}
theorem pr_size {E es : Nat} (hs : sizT P E = es) (h1 : 1 ≤ es) : pr P (sizeOf E) = some es := by
  unfold sizT at hs
  cases hi : P.info? E with
  | none => rw [hi] at hs; simp at hs; omega
  | some inf => rw [hi] at hs; rw [pr_sizeOf hi]; simpa using hs
theorem pr_part1 {T m off : Nat} {xs : List Value} {y : Value} (ht : oneFact P T = some (false, m)) (hy : xs[off]? = some y) : pr P (part T (List.toArray xs) off) = some y := by
  unfold part
  rw [pr_bind, (oneFact_spec ht).1]
  show pr P (match (List.toArray xs)[off]? with | some v => pure v | none => stuck "part: no such cell") = _
  rw [List.getElem?_toArray, hy]; rfl
theorem pr_partA {T m off : Nat} {xs : List Value} (ht : oneFact P T = some (true, m)) : pr P (part T (List.toArray xs) off) = some (.agg (List.toArray ((xs.drop off).take m))) := by
  unfold part
  rw [pr_bind, (oneFact_spec ht).1]
  simp only [Option.bind_some, if_true]
  rw [pr_bind, (oneFact_spec ht).2]
  simp only [Option.bind_some, pr_pure]
  congr 2
  apply Array.ext'
  rw [Array.toList_extract]
  simp [List.extract]
theorem agg_take {l : V} {ys : List Value} (h1 : RLs ρ l ys) (h2 : ∀ z ∈ ys, oneC z = true) (o k : Nat) : RV ρ (.a (takeV (dropV l o) k)) (.agg (List.toArray ((ys.drop o).take k))) :=
  ⟨_, (h1.drop o).take k, fun z hz => h2 z (List.mem_of_mem_drop (List.mem_of_mem_take hz)), rfl⟩
theorem s_fld {q : Oq} {t f m : Nat} {fs : Array Field} {fd : Field} {x : Value} (hu : P.underlying t = some (.struct fs)) (hf : fs[f]? = some fd) (ht : oneFact P fd.type = some (false, m)) (hR : RH P Fr ρ h w) (hx : RV ρ (evq e q) x)
    (hh : evFld e h n fd.offset q = .ok v h' n') : Pop P (Instr.field t x f) fun y => Pst P Fr ρ v h' y w := by
  obtain ⟨l, e1, hh⟩ := okA hh
  rw [e1] at hx
  obtain ⟨ys, h1, _, rfl⟩ := hx
  rcases nthL_spec (k := fun v => .ok v h n) fd.offset h1 with h2 | ⟨u, y, h2, h3, h4⟩
  · rw [h2] at hh; cases hh
  · rw [h2] at hh
    obtain ⟨rfl, rfl, _⟩ := ok_inj hh
    refine popP (y := y) ?_ hR h4
    unfold Instr.field
    rw [pr_bind, pr_underlying hu]
    simp only [Option.bind_some, hf, asAgg]
    exact pr_part1 ht h3
theorem s_flda {q : Oq} {t f m : Nat} {fs : Array Field} {fd : Field} {x : Value} (hu : P.underlying t = some (.struct fs)) (hf : fs[f]? = some fd) (ht : oneFact P fd.type = some (true, m)) (hR : RH P Fr ρ h w) (hx : RV ρ (evq e q) x)
    (hh : evFlda e h n fd.offset m q = .ok v h' n') : Pop P (Instr.field t x f) fun y => Pst P Fr ρ v h' y w := by
  obtain ⟨l, e1, hh⟩ := okA hh
  rw [e1] at hx
  obtain ⟨ys, h1, h2, rfl⟩ := hx
  obtain ⟨rfl, rfl, _⟩ := ok_inj hh
  refine popP ?_ hR (agg_take h1 h2 _ _)
  unfold Instr.field
  rw [pr_bind, pr_underlying hu]
  simp only [Option.bind_some, hf, asAgg]
  exact pr_partA ht
theorem s_idxa {q i : Oq} {t k E es : Nat} {x y : Value} (hu : P.underlying t = some (.array k E)) (ht : oneFact P E = some (false, es)) (hR : RH P Fr ρ h w) (hx : RV ρ (evq e q) x) (hy : RV ρ (evq e i) y)
    (hh : evIdxa e h n k es q i = .ok v h' n') : Pop P (Instr.index t x y) fun y => Pst P Fr ρ v h' y w := by
  obtain ⟨tt, j, e1, hh⟩ := natV_ok hh
  obtain ⟨l, e2, hh⟩ := okA hh
  obtain ⟨hlt, hh⟩ := iffO_ok hh
  have hlt := blt_lt hlt
  rw [e1] at hy
  obtain rfl : y = .int tt (j : Int) := hy
  rw [e2] at hx
  obtain ⟨ys, h1, _, rfl⟩ := hx
  rcases nthL_spec (k := fun v => v.fc fun v => .ok v h n) (j * es) h1 with h2 | ⟨u, y, h2, h3, h4⟩
  · rw [show nthL l (Nat.mul j es) _ = _ from h2] at hh; cases hh
  · rw [show nthL l (Nat.mul j es) _ = _ from h2, V.fc_eq] at hh
    obtain ⟨rfl, rfl, _⟩ := ok_inj hh
    refine popP (y := y) ?_ hR h4
    unfold Instr.index
    simp only [asIntOf, pr_bind, pr_underlying hu, Option.bind_some, pr_pure]
    rw [if_pos (show 0 ≤ (j : Int) ∧ (j : Int) < (k : Int) by omega), pr_bind, (oneFact_spec ht).2]
    exact pr_part1 ht h3
theorem s_idxg {q i : Oq} {t k E es : Nat} {x y : Value} (hu : P.underlying t = some (.array k E)) (ht : oneFact P E = some (true, es)) (hR : RH P Fr ρ h w) (hx : RV ρ (evq e q) x) (hy : RV ρ (evq e i) y)
    (hh : evIdxg e h n k es q i = .ok v h' n') : Pop P (Instr.index t x y) fun y => Pst P Fr ρ v h' y w := by
  obtain ⟨tt, j, e1, hh⟩ := natV_ok hh
  obtain ⟨l, e2, hh⟩ := okA hh
  obtain ⟨hlt, hh⟩ := iffO_ok hh
  have hlt := blt_lt hlt
  rw [e1] at hy
  obtain rfl : y = .int tt (j : Int) := hy
  rw [e2] at hx
  obtain ⟨ys, h1, h2, rfl⟩ := hx
  obtain ⟨rfl, rfl, _⟩ := ok_inj hh
  refine popP ?_ hR (agg_take h1 h2 _ _)
  unfold Instr.index
  simp only [asIntOf, pr_bind, pr_underlying hu, Option.bind_some, pr_pure]
  rw [if_pos (show 0 ≤ (j : Int) ∧ (j : Int) < (k : Int) by omega), pr_bind, (oneFact_spec ht).2]
  exact pr_partA ht

/-! ### Slices cut -/
theorem bnd_spec (hE : RE ρ e e') {o : Option Operand} {q : Oq} {d i : Nat} (ho : oqO o = some q) (hi : (evq e q = .e ∧ i = d) ∨ ∃ t, evq e q = .i t (i : Int)) : (o.map (ev e') = none ∧ o = none ∧ i = d) ∨ ∃ t, o.map (ev e') = some (.int t (i : Int)) := by
  cases o with
  | none =>
    cases ho
    rcases hi with ⟨_, hi⟩ | ⟨t, hi⟩
    · exact .inl ⟨rfl, rfl, hi⟩
    · cases hi
  | some y =>
    have := oq_spec hE (q := q) ho
    rcases hi with ⟨hi, _⟩ | ⟨t, hi⟩
    · rw [hi] at this; exact this.elim
    · rw [hi] at this; exact .inr ⟨t, congrArg some this⟩
theorem pr_sbd {t : IntKind} {y i : Nat} {code : BoundsCode} (hi : i ≤ y) : pr P (Instr.sliceBound (.int t (i : Int)) y code) = some i := by
  show pr P (if 0 ≤ (i : Int) ∧ (i : Int) ≤ (y : Int) then pure ((i : Int)).toNat else _) = _
  rw [if_pos ⟨by omega, by omega⟩]; rfl
theorem pr_sb {l c j k m : Nat} {lo hi mx : Option Value} (hm : (mx = none ∧ m = c) ∨ ∃ t, mx = some (.int t (m : Int)) ∧ m ≤ c) (hk : (hi = none ∧ k = l ∧ mx = none) ∨ ∃ t, hi = some (.int t (k : Int)) ∧ k ≤ m)
    (hj : (lo = none ∧ j = 0) ∨ ∃ t, lo = some (.int t (j : Int)) ∧ j ≤ k) : pr P (Instr.sliceBounds true l c lo hi mx) = some (j, k, m) := by
  rcases hm with ⟨rfl, rfl⟩ | ⟨t1, rfl, hm⟩
  · rcases hk with ⟨rfl, rfl, _⟩ | ⟨t2, rfl, hk⟩
    · rcases hj with ⟨rfl, rfl⟩ | ⟨t3, rfl, hj⟩
      · rfl
      · simp only [Instr.sliceBounds, pr_bind, pr_pure, Option.bind_some, pr_sbd hj]
    · rcases hj with ⟨rfl, rfl⟩ | ⟨t3, rfl, hj⟩
      · simp only [Instr.sliceBounds, pr_bind, pr_pure, Option.bind_some, pr_sbd hk]
      · simp only [Instr.sliceBounds, pr_bind, pr_pure, Option.bind_some, pr_sbd hk, pr_sbd hj]
  · rcases hk with ⟨_, _, hk⟩ | ⟨t2, rfl, hk⟩
    · cases hk
    · rcases hj with ⟨rfl, rfl⟩ | ⟨t3, rfl, hj⟩
      · simp only [Instr.sliceBounds, pr_bind, pr_pure, Option.bind_some, pr_sbd hm, pr_sbd hk]
      · simp only [Instr.sliceBounds, pr_bind, pr_pure, Option.bind_some, pr_sbd hm, pr_sbd hk, pr_sbd hj]
theorem pr_slice {T E es l c j k m : Nat} {a : Option Addr} {lo hi mx : Option Value} (hT : P.underlying T = some (.slice E)) (hs : sizT P E = es) (h1 : 1 ≤ es) (hb : pr P (Instr.sliceBounds true l c lo hi mx) = some (j, k, m)) :
    pr P (Instr.sliceAt T (.slice a l c) lo hi mx) = some (.slice (if m = j then a else a.map (·.add (j * es))) (k - j) (m - j)) := by
  unfold Instr.sliceAt
  rw [pr_bind, pr_underlying hT]
  simp only [Option.bind_some]
  unfold Instr.slice
  rw [pr_bind, pr_underlying hT]
  simp only [Option.bind_some]
  rw [pr_bind, hb]
  simp only [Option.bind_some]
  rw [pr_bind, pr_size hs h1]
  rfl
theorem s_slc {q lo hi mx : Oq} {T E es : Nat} {x : Value} {ol oh om : Option Operand} (hT : P.underlying T = some (.slice E)) (hs : sizT P E = es) (h1 : 1 ≤ es) (hR : RH P Fr ρ h w) (hE : RE ρ e e') (hx : RV ρ (evq e q) x)
    (hlo : oqO ol = some lo) (hhi : oqO oh = some hi) (hmx : oqO om = some mx) (hmh : om.isNone || oh.isSome) (hh : evSlc e h n es q lo hi mx = .ok v h' n') :
    Pop P (Instr.sliceAt T x (ol.map (ev e')) (oh.map (ev e')) (om.map (ev e'))) fun y => Pst P Fr ρ v h' y w := by
  have hmn : om.map (ev e') = none ∨ oh ≠ none := by
    cases om with
    | none => exact .inl rfl
    | some _ => refine .inr fun hh => ?_; rw [hh] at hmh; cases hmh
  -- bounds, with a known capacity
  have cutx : ∀ {b o c l j k m cap : Nat} {q : Pl}, ρ b = some q → cutX h n b o es c j k m = .ok v h' n' → c ≤ cap →
      ((om.map (ev e') = none ∧ m = cap) ∨ ∃ t, om.map (ev e') = some (.int t (m : Int))) → ((evq e hi = .e ∧ k = l) ∨ ∃ t, evq e hi = .i t (k : Int)) → ((evq e lo = .e ∧ j = 0) ∨ ∃ t, evq e lo = .i t (j : Int)) →
      Pop P (Instr.sliceAt T (.slice (some ⟨q.k, q.b + o, none⟩) l cap) (ol.map (ev e')) (oh.map (ev e')) (om.map (ev e'))) fun y => Pst P Fr ρ v h' y w := by
    intro b o c l j k m cap q hb hh hcap hm hk hj
    obtain ⟨hc, hh⟩ := iffO_ok hh
    obtain ⟨c1, hc⟩ := and_ok hc
    obtain ⟨c2, c3⟩ := and_ok hc
    have c1 := ble_le c1
    have c2 := ble_le c2
    have c3 := ble_le c3
    have hb' : pr P (Instr.sliceBounds true l cap (ol.map (ev e')) (oh.map (ev e')) (om.map (ev e'))) = some (j, k, m) := by
      refine pr_sb ?_ ?_ ?_
      · rcases hm with hm | ⟨t, hm⟩
        · exact .inl hm
        · exact .inr ⟨t, hm, by omega⟩
      · rcases bnd_spec hE hhi hk with ⟨k1, k2, k3⟩ | ⟨t, k1⟩
        · exact .inl ⟨k1, k3, hmn.resolve_right fun hh => hh k2⟩
        · exact .inr ⟨t, k1, c2⟩
      · rcases bnd_spec hE hlo hj with ⟨k1, k2, k3⟩ | ⟨t, k1⟩
        · exact .inl ⟨k1, k3⟩
        · exact .inr ⟨t, k1, c1⟩
    have hp := pr_slice (a := some ⟨q.k, q.b + o, none⟩) hT hs h1 hb'
    cases hmj : Nat.beq m j with
    | true =>
      have : m = j := nb_eq hmj
      rw [hmj] at hh
      obtain ⟨rfl, rfl, _⟩ := ok_inj (show OR.ok (.sx b o (k - j) 0) h n = _ from hh)
      rw [if_pos this] at hp
      exact popP hp hR ⟨q, hb, by omega, by rw [show m - j = 0 from by omega]⟩
    | false =>
      have : m ≠ j := fun he => by rw [he, beq_self] at hmj; cases hmj
      rw [hmj] at hh
      obtain ⟨rfl, rfl, _⟩ := ok_inj (show OR.ok (.sx b (o + j * es) (k - j) (m - j)) h n = _ from hh)
      rw [if_neg this, Option.map_some, add_none] at hp
      exact popP hp hR ⟨q, hb, by omega, by rw [Nat.add_assoc]⟩
  rcases okSl hh with hh | ⟨e1, hh⟩ | ⟨b, o, l, d, e1, hh⟩ | ⟨b, o, l, c, e1, hh⟩ | ⟨_, hh⟩
  · cases hh
  · -- nil
    obtain ⟨m, hh, hm⟩ := bndV_ok hh
    obtain ⟨k, hh, hk⟩ := bndV_ok hh
    obtain ⟨j, hh, hj⟩ := bndV_ok hh
    obtain ⟨hc, hh⟩ := iffO_ok hh
    have hc : j + k + m = 0 := nb_eq hc
    obtain rfl : j = 0 := by omega
    obtain rfl : k = 0 := by omega
    obtain rfl : m = 0 := by omega
    obtain ⟨rfl, rfl, _⟩ := ok_inj hh
    rw [e1] at hx
    obtain rfl : x = .slice none 0 0 := hx
    have hb' : pr P (Instr.sliceBounds true 0 0 (ol.map (ev e')) (oh.map (ev e')) (om.map (ev e'))) = some (0, 0, 0) := by
      refine pr_sb ?_ ?_ ?_
      · rcases bnd_spec hE hmx hm with ⟨k1, k2, k3⟩ | ⟨t, k1⟩
        · exact .inl ⟨k1, rfl⟩
        · exact .inr ⟨t, k1, by omega⟩
      · rcases bnd_spec hE hhi hk with ⟨k1, k2, k3⟩ | ⟨t, k1⟩
        · exact .inl ⟨k1, rfl, hmn.resolve_right fun hh => hh k2⟩
        · exact .inr ⟨t, k1, by omega⟩
      · rcases bnd_spec hE hlo hj with ⟨k1, k2, k3⟩ | ⟨t, k1⟩
        · exact .inl ⟨k1, rfl⟩
        · exact .inr ⟨t, k1, by omega⟩
    have hp := pr_slice (a := none) hT hs h1 hb'
    exact popP hp hR (by simp [RV, RP])
  · -- an open one
    obtain ⟨c, es', t, hb, hh⟩ := withC_ok hh
    obtain ⟨he, hh2⟩ := iffO_ok hh
    clear hh
    have he : es = es' := nb_eq he
    subst he
    rw [e1] at hx
    obtain ⟨q, hq, ⟨ho, hl⟩, rfl⟩ := hx
    obtain ⟨q', cs, ty, fz, g1, g2, g3, g4, g5, g6, g7, g8⟩ := hR.cells hb
    rw [hq] at g1; cases g1
    have g6 := g6 (by omega)
    rw [g4] at ho
    have fit : ∀ i, o + i * es ≤ c → i + d ≤ q.c := fun i hi => by
      have : (d + i) * es ≤ q.c * es := by rw [Nat.add_mul]; omega
      have := Nat.le_of_mul_le_mul_right this (by omega : 0 < es)
      omega
    obtain ⟨k, hh, hk⟩ := bndV_ok hh2
    obtain ⟨j, hh, hj⟩ := bndV_ok hh
    rcases okEI hh with ⟨e2, hh⟩ | ⟨t2, m', e2, hh⟩
    · -- no third bound
      have hm0 : om.map (ev e') = none := by
        rcases bnd_spec (d := 0) (i := 0) hE hmx (.inl ⟨e2, rfl⟩) with ⟨k1, _, _⟩ | ⟨t3, k1⟩
        · exact k1
        · cases om with
          | none => rfl
          | some y => have := oq_spec hE (q := mx) hmx; rw [e2] at this; exact this.elim
      obtain ⟨hc, hh⟩ := iffO_ok hh
      obtain ⟨c1, c2⟩ := and_ok hc
      have c1 := ble_le c1
      have c2 : o + k * es ≤ c := ble_le c2
      have hkc := fit k c2
      have hb' : pr P (Instr.sliceBounds true l (q.c - d) (ol.map (ev e')) (oh.map (ev e')) (om.map (ev e'))) = some (j, k, q.c - d) := by
        refine pr_sb (.inl ⟨hm0, rfl⟩) ?_ ?_
        · rcases bnd_spec hE hhi hk with ⟨k1, k2, k3⟩ | ⟨t, k1⟩
          · exact .inl ⟨k1, k3, hm0⟩
          · exact .inr ⟨t, k1, by omega⟩
        · rcases bnd_spec hE hlo hj with ⟨k1, k2, k3⟩ | ⟨t, k1⟩
          · exact .inl ⟨k1, k3⟩
          · exact .inr ⟨t, k1, c1⟩
      have hp := pr_slice (a := some ⟨q.k, q.b + o, none⟩) hT hs h1 hb'
      cases hj0 : Nat.beq j 0 with
      | true =>
        have : j = 0 := nb_eq hj0
        subst this
        rw [hj0] at hh
        obtain ⟨rfl, rfl, _⟩ := ok_inj (show OR.ok (.sl b o k d) h n = _ from hh)
        refine popP (y := .slice (some ⟨q.k, q.b + o, none⟩) k (q.c - d)) ?_ hR ⟨q, hq, ⟨by rw [g4]; exact ho, by omega⟩, rfl⟩
        rw [hp]
        split
        · rfl
        · rw [Option.map_some, add_none]; simp
      | false =>
        rw [hj0] at hh
        have hh : iffO (Nat.blt (o + j * es) c) (.ok (.sl b (o + j * es) (k - j) (d + j)) h n) (.ok .se h n) = .ok v h' n' := hh
        cases hlt : Nat.blt (o + j * es) c with
        | true =>
          rw [hlt] at hh
          obtain ⟨rfl, rfl, _⟩ := ok_inj (show OR.ok (.sl b (o + j * es) (k - j) (d + j)) h n = _ from hh)
          have hlt := blt_lt hlt
          have hne : q.c - d ≠ j := fun hne => by
            have : (d + j) * es < q.c * es := by rw [Nat.add_mul]; omega
            have := Nat.lt_of_mul_lt_mul_right this
            omega
          rw [if_neg hne, Option.map_some, add_none] at hp
          refine popP hp hR ⟨q, hq, ⟨by rw [g4, Nat.add_mul]; omega, by omega⟩, by rw [Nat.add_assoc, Nat.sub_sub]⟩
        | false =>
          rw [hlt] at hh
          obtain ⟨rfl, rfl, _⟩ := ok_inj (show OR.ok .se h n = _ from hh)
          have hge : ¬ (o + j * es < c) := fun hx => by rw [blt_dec, decide_eq_true hx] at hlt; cases hlt
          have hkj : k * es ≤ j * es := by omega
          have hkj := Nat.le_of_mul_le_mul_right hkj (by omega : 0 < es)
          have hk0 : k - j = 0 := by omega
          refine popP hp hR ?_
          rw [hk0]
          split
          · exact ⟨_, _, rfl⟩
          · exact ⟨_, _, rfl⟩
    · obtain ⟨m, e3, hh⟩ := natI_ok hh
      obtain ⟨c1, hh⟩ := iffO_ok hh
      have c1 : o + m * es ≤ c := ble_le c1
      have := fit m c1
      refine cutx hq hh (by omega) ?_ hk hj
      rcases bnd_spec (d := 0) (i := m) hE hmx (.inr ⟨t2, by rw [e2, e3]⟩) with ⟨k1, k2, _⟩ | k1
      · rw [k2] at hmx; cases hmx; cases e2
      · exact .inr k1
  · -- a closed one
    rw [e1] at hx
    obtain ⟨q, hq, hl, rfl⟩ := hx
    obtain ⟨k, hh, hk⟩ := bndV_ok hh
    obtain ⟨j, hh, hj⟩ := bndV_ok hh
    obtain ⟨m, hh, hm⟩ := bndV_ok hh
    refine cutx hq hh (Nat.le_refl _) ?_ hk hj
    rcases bnd_spec hE hmx hm with ⟨k1, k2, k3⟩ | k1
    · exact .inl ⟨k1, k3⟩
    · exact .inr k1
  · cases hh

/-! ### Lengths -/
theorem s_lenS {q : Oq} {T R : Nat} {x : Value} (hT : P.underlying T = some .string) (hR : RH P Fr ρ h w) (hx : RV ρ (evq e q) x) (hh : evLen e h n .no q = .ok v h' n') : Pop P (Builtin.len_ #[T] R [x].toArray) fun y => Pst P Fr ρ v h' y w := by
  obtain ⟨c, l, e1, hh⟩ := okS hh
  obtain ⟨rfl, rfl, _⟩ := ok_inj hh
  rw [e1] at hx
  obtain rfl : x = .string (strOf c l) := hx
  exact pop_slen hT (hR.post (show _ = _ by rw [strOf_size]; rfl))
theorem s_lenL {q : Oq} {T R E m by' : Nat} {z : Option Nat} {x : Value} (hT : slFact P T = some (E, m, by', z)) (hR : RH P Fr ρ h w) (hx : RV ρ (evq e q) x) (hh : evLen e h n .slice q = .ok v h' n') : Pop P (Builtin.len_ #[T] R [x].toArray) fun y => Pst P Fr ρ v h' y w := by
  rcases okSl hh with hh | ⟨e1, hh⟩ | ⟨b, o, l, d, e1, hh⟩ | ⟨b, o, l, c, e1, hh⟩ | ⟨e1, hh⟩
  · cases hh
  all_goals
    obtain ⟨rfl, rfl, _⟩ := ok_inj hh
    rw [e1] at hx
  · obtain rfl : x = .slice none 0 0 := hx
    exact popP (pr_len hT) hR rfl
  · obtain ⟨q, hq, _, rfl⟩ := hx
    exact popP (pr_len hT) hR rfl
  · obtain ⟨q, hq, _, rfl⟩ := hx
    exact popP (pr_len hT) hR rfl
  · obtain ⟨a, c, rfl⟩ := hx
    exact popP (pr_len hT) hR rfl
theorem pr_cap {T R E n by' : Nat} {z : Option Nat} {a : Option Addr} {l c : Nat} (ht : slFact P T = some (E, n, by', z)) : pr P (Builtin.cap_ #[T] R [Value.slice a l c].toArray) = some (.int .i64 c) := by
  show pr P (do
    match ← underlying T, Value.slice a l c with
    | .array n _, _ => pure (goInt n)
    | .pointer arr, _ =>
      let .array n _ ← underlying arr | stuck "cap: pointer to array expected"
      pure (goInt n)
    | .slice _, .slice _ _ n => pure (goInt n)
    | .chan _ _, .chan none => pure (goInt 0)
    | .chan _ _, .chan (some r) =>
      let .chan n _ _ _ _ timer ← getObj r | stuck "cap: channel expected"
      pure (goInt (if timer then 0 else n))
    | _, _ => stuck "cap: array, pointer to array, slice or channel expected") = _
  rw [pr_bind, pr_underlying (slFact_spec ht).1]
  rfl
theorem s_cap {q : Oq} {T R E m by' : Nat} {z : Option Nat} {x : Value} (hT : slFact P T = some (E, m, by', z)) (hR : RH P Fr ρ h w) (hx : RV ρ (evq e q) x) (hh : evLen e h n .func q = .ok v h' n') : Pop P (Builtin.cap_ #[T] R [x].toArray) fun y => Pst P Fr ρ v h' y w := by
  rcases okSl hh with hh | ⟨e1, hh⟩ | ⟨b, o, l, d, e1, hh⟩ | ⟨b, o, l, c, e1, hh⟩ | ⟨e1, hh⟩
  · cases hh
  · obtain ⟨rfl, rfl, _⟩ := ok_inj hh
    rw [e1] at hx
    obtain rfl : x = .slice none 0 0 := hx
    exact popP (pr_cap hT) hR rfl
  · cases hh
  · obtain ⟨rfl, rfl, _⟩ := ok_inj hh
    rw [e1] at hx
    obtain ⟨q, hq, _, rfl⟩ := hx
    exact popP (pr_cap hT) hR rfl
  · cases hh
end
end Go.Fw
