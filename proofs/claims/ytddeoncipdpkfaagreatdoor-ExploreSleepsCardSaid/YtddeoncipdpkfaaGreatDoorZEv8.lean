/-
  The evaluator: what makes and turns memory. Own work; nothing here is trusted.
-/
import Derived.Test.YtddeoncipdpkfaaGreatDoorZEv7
import Derived.Deep.AppendSrc
set_option linter.all false
namespace Go.Fw
section
variable {P : Program} {Fr : Fram} {ρ : Rn} {h h' : Hp} {w : World} {v : V} {n n' : Nat} {e : En} {e' : Env}
theorem RT.app {t : Tr V} {xs ys : List Value} {l : V} (ht : RT ρ t 0 xs) (hl : RLs ρ l ys) : RT ρ (wr1 l xs.length t) 0 (xs ++ ys) := by
  intro j x hj
  obtain ⟨a, c⟩ := wr1_get hl xs.length t (0 + j)
  by_cases h1 : j < xs.length
  · rw [a (.inl (by omega))]
    rw [List.getElem?_append_left h1] at hj
    exact ht j x hj
  · rw [List.getElem?_append_right (by omega)] at hj
    exact c _ x hj (by omega)
theorem one_app {xs ys : List Value} (h1 : ∀ z ∈ xs, oneC z = true) (h2 : ∀ z ∈ ys, oneC z = true) : ∀ z ∈ xs ++ ys, oneC z = true := fun z hz => (List.mem_append.1 hz).elim (h1 z) (h2 z)
/-- A block of new cells. -/
theorem RH.newc {t : Tr V} {cs rest : List Value} {T : TypeId} {c es m : Nat} {w' : World} (hR : RH P Fr ρ h w) (hn : getH h n = .z) (ht : RT ρ t 0 cs) (hone : ∀ z ∈ cs, oneC z = true) (hm : m = cs.length)
    (hc : c * es ≤ (cs ++ rest).length) (hx : 0 < es → m ≤ c * es) (hw : w'.heap = w.heap.push (.cells (List.toArray (cs ++ rest)) T)) (hst : Sm w w' := by exact ⟨rfl, rfl, rfl⟩) :
    Le ρ (ext ρ n ⟨w.heap.size, 0, c, es⟩) ∧ RH P Fr (ext ρ n ⟨w.heap.size, 0, c, es⟩) (putH h (.c m es t) n) w' := by
  have le := ext_le (q := ⟨w.heap.size, 0, c, es⟩) (hR.fresh n hn)
  subst hm
  refine ⟨le, hR.new (hst := hst) hn rfl hw ⟨cs ++ rest, T, (0, 0), rfl, fun j _ => by omega, rfl, by show 0 + c * es ≤ _; omega, hx, by show 0 + cs.length ≤ _; rw [List.length_append]; omega, fun i hi => ?_⟩⟩
  have hg : cs[i]? = some cs[i] := List.getElem?_eq_getElem hi
  refine ⟨cs[i], by show (cs ++ rest)[0 + i]? = _; rw [Nat.zero_add, List.getElem?_append_left hi, hg], ?_, hone _ (List.getElem_mem hi)⟩
  have := ht i _ hg
  rw [Nat.zero_add] at this
  exact this.mono le
/-- Cells stored over a block's. -/
theorem RH.sts {b m es o : Nat} {t : Tr V} {l : V} {vs : List Value} (hR : RH P Fr ρ h w) (hb : getH h b = .c m es t) (hl : RLs ρ l vs) (hone : ∀ z ∈ vs, oneC z = true) (hm : o + vs.length ≤ m) :
    ∃ q w', ρ b = some q ∧ (storeCells ⟨q.k, q.b + o, none⟩ vs 0).run P w = .ok () w' ∧ RH P Fr ρ (putH h (.c m es (wr1 l o t)) b) w' := by
  obtain ⟨q, cs, ty, fz, g1, g2, g3, g4, g5, g6, g7, g8⟩ := hR.cells hb
  obtain ⟨w', k1, k2, k3, k4⟩ := run_sts (P := P) vs (q.b + o) 0 cs w g2 g3 (by omega) hone
  rw [Nat.add_zero] at k2
  refine ⟨q, w', g1, k1, hR.turn (live_c hb) g1 k2 ⟨_, ty, fz, rfl, fun j hj => g3 j (by rwa [setAll_length] at hj), g4, by rw [setAll_length]; exact g5, g6, by rw [setAll_length]; exact g7, body_store g7 g8 hl hone hm⟩ k3 (hst := k4)⟩
theorem postN {q : Pl} {y : Value} {u : V} {hh : Hp} {w' : World} (hh1 : Le ρ (ext ρ n q) ∧ RH P Fr (ext ρ n q) hh w') (hv : RV (ext ρ n q) u y) : Pst P Fr ρ u hh y w' := ⟨_, hh1.1, hh1.2, hv⟩

theorem s_new {q : V} {cs : List Value} {T : TypeId} {m : Sem Value} (hR : RH P Fr ρ h w) (hq : RLs ρ q cs) (hone : ∀ z ∈ cs, oneC z = true) (hm : m.run P w = .ok (.pointer (some ⟨w.heap.size, 0, none⟩)) (push w (.cells (List.toArray cs) T)))
    (hh : evNew h n q = .ok v h' n') : Eop P m w (Pst P Fr ρ v h') := by
  obtain ⟨hn, hh⟩ := alloc_ok hh
  obtain ⟨rfl, rfl, _⟩ := ok_inj hh
  refine ⟨_, _, hm, postN (hR.newc (rest := []) (c := 0) hn (RT.wr0 hq .lf 0) hone hq.len (by omega) (fun hx => by omega) (by rw [List.append_nil]; rfl)) ⟨_, ext_at _ _ _, rfl⟩⟩
theorem s_box {q : Oq} {T : TypeId} {x : Value} (hR : RH P Fr ρ h w) (hx : RV ρ (evq e q) x) (hh : evBox e h n q = .ok v h' n') : Eop P (Instr.box T x) w (Pst P Fr ρ v h') := by
  obtain ⟨l, hh, hl, hone⟩ := cells_ok hx hh
  exact s_new hR hl hone (by rw [run_box]) hh
theorem s_alloc {T : TypeId} {z : V} (hz : zeroC P T = some z) (hR : RH P Fr ρ h w) (hh : evNew h n z = .ok v h' n') : Eop P (Instr.alloc T true (.tuple #[])) w (Pst P Fr ρ v h') := by
  unfold zeroC at hz
  split at hz
  · rename_i zv hzf
    refine s_new (cs := zv.cells.toList) (T := T) hR (ofCells_spec hz) (ofCells_one hz) ?_ hh
    unfold zeroFact at hzf
    cases hi : P.info? T with
    | none => rw [hi] at hzf; cases hzf
    | some inf =>
      rw [hi] at hzf
      simp only [Option.map_some, Option.some.injEq] at hzf
      have h1 : pr P (zeroValue T) = some zv := by unfold zeroValue; rw [pr_bind, pr_typeInfo hi]; simp only [Option.bind_some, hzf]; rfl
      unfold Instr.alloc
      rw [run_bind_ok (run_of_pr h1 w), Array.toArray_toList]
      rfl
  · cases hz
theorem s_st {a q : Oq} {T : TypeId} {x y : Value} {ag : Bool} {k : Nat} (ht : oneFact P T = some (ag, k)) (hR : RH P Fr ρ h w) (hx : RV ρ (evq e a) x) (hy : RV ρ (evq e q) y) (hh : evSt e h n k a q = .ok v h' n') :
    Uop P (Instr.storeAt T x y) w fun w' => Pst P Fr ρ v h' undef w' := by
  obtain ⟨b, o, e1, hh⟩ := okP hh
  obtain ⟨m, es, t, hb, hh⟩ := withC_ok hh
  obtain ⟨l, hh, hl, hone⟩ := cells_ok hy hh
  obtain ⟨hc, hh⟩ := iffO_ok hh
  obtain ⟨c1, c2⟩ := and_ok hc
  have c1 := nb_eq c1
  have c2 : o + k ≤ m := ble_le c2
  obtain ⟨rfl, rfl, _⟩ := ok_inj hh
  have hlen := hl.len
  have hm : o + y.cells.toList.length ≤ m := by rw [← hlen, c1]; exact c2
  obtain ⟨qq, w', g1, g2, g3⟩ := hR.sts hb hl hone hm
  rw [e1] at hx
  obtain ⟨q', h1, rfl⟩ := hx
  rw [g1] at h1; cases h1
  refine ⟨w', ?_, ρ, Le.refl _, g3, und_spec _⟩
  show (storeVar T ⟨qq.k, qq.b + o, none⟩ y).run P w = _
  unfold storeVar
  rw [run_bind_ok (run_of_pr (oneFact_spec ht).2 w), if_neg (by rw [← Array.length_toList]; omega)]
  exact g2

/-! ### Parts -/
def PartsOk (place : Nat → Option (Nat × Nat)) : PL → List (Nat × Operand) → Prop
  | .nil, ps => ps = []
  | .cons o m q l, ps => ∃ i x r, ps = (i, x) :: r ∧ place i = some (o, m) ∧ oq x = some q ∧ PartsOk place l r
theorem fill_spec {place : Nat → Option (Nat × Nat)} (hE : RE ρ e e') : ∀ {ps : PL} {parts : List (Nat × Operand)} {t : Tr V} {m : Nat} {k : Tr V → OR}, PartsOk place ps parts → fillV e ps m t k = .ok v h' n' →
    ∃ t', k t' = .ok v h' n' ∧ ∀ cs : List Value, RT ρ t 0 cs → cs.length = m → (∀ z ∈ cs, oneC z = true) →
      ∃ cs', Instr.fill place (List.toArray cs) (parts.map fun q => (q.1, ev e' q.2)) = some (List.toArray cs') ∧ RT ρ t' 0 cs' ∧ cs'.length = m ∧ ∀ z ∈ cs', oneC z = true := by
  intro ps
  induction ps with
  | nil =>
    intro parts t m k hp hh
    obtain rfl : parts = [] := hp
    exact ⟨t, hh, fun cs h1 h2 h3 => ⟨cs, rfl, h1, h2, h3⟩⟩
  | cons o k q l ih =>
    intro parts t m kk hp hh
    obtain ⟨i, x, r, rfl, hpl, hq, hr⟩ := hp
    obtain ⟨lv, hh, hl, hone⟩ := cells_ok (oq_spec hE hq) (show (evq e q).cells .no (fun lv => iffO (andB (Nat.beq (lenV lv) k) (Nat.ble (Nat.add o k) m)) (fillV e l m (wr1 lv o t) kk) .no) = .ok v h' n' from hh)
    obtain ⟨hc, hh⟩ := iffO_ok hh
    obtain ⟨c1, c2⟩ := and_ok hc
    have c1 := nb_eq c1
    have c2 : o + k ≤ m := ble_le c2
    obtain ⟨t', h1, h2⟩ := ih hr hh
    refine ⟨t', h1, fun cs k1 k2 k3 => ?_⟩
    have hlen := hl.len
    rw [Array.length_toList] at hlen
    have hrt : RT ρ (wr1 lv o t) 0 (setAll cs o (ev e' x).cells.toList) := by
      intro j y hj
      obtain ⟨a, c⟩ := wr1_get hl o t (0 + j)
      obtain ⟨a', c'⟩ := setAll_get (ev e' x).cells.toList cs o j (by rw [Array.length_toList]; omega)
      by_cases hi : j < o ∨ o + (ev e' x).cells.toList.length ≤ j
      · rw [a (by omega)]
        rw [a' hi] at hj
        exact k1 j y hj
      · have := c' (j - o) (by omega)
        rw [show o + (j - o) = j from by omega] at this
        rw [this] at hj
        exact c _ y hj (by omega)
    obtain ⟨cs', g1, g2, g3, g4⟩ := h2 _ hrt (by rw [setAll_length]; exact k2) (fun z hz => by
      obtain ⟨j, hj⟩ := List.getElem?_of_mem hz
      obtain ⟨a', c'⟩ := setAll_get (ev e' x).cells.toList cs o j (by rw [Array.length_toList]; omega)
      by_cases hi : j < o ∨ o + (ev e' x).cells.toList.length ≤ j
      · rw [a' hi] at hj; exact k3 z (List.mem_of_getElem? hj)
      · have := c' (j - o) (by omega)
        rw [show o + (j - o) = j from by omega] at this
        rw [this] at hj
        exact hone z (List.mem_of_getElem? hj))
    refine ⟨cs', ?_, g2, g3, g4⟩
    have step : Instr.fill place (List.toArray cs) ((i, ev e' x) :: r.map fun q => (q.1, ev e' q.2)) = Instr.fill place (List.toArray (setAll cs o (ev e' x).cells.toList)) (r.map fun q => (q.1, ev e' q.2)) := by
      conv => lhs; unfold Instr.fill
      simp only [hpl]
      rw [if_neg]
      · congr 1
        apply Array.ext'
        rw [← Array.foldl_toList, Array.toList_zipIdx]
        exact fold_setAll o (ev e' x).cells.toList 0 (List.toArray cs)
      · simp only [List.size_toArray, Bool.or_eq_true, decide_eq_true_eq]
        omega
    exact step.trans g1
theorem partsL_ok {es : Nat} : ∀ {parts : List (Nat × Operand)} {l : PL}, partsL es parts = some l → PartsOk (fun i => some (i * es, es)) l parts := by
  intro parts
  induction parts with
  | nil => intro l hl; cases hl; exact (show PartsOk _ .nil [] from rfl)
  | cons p r ih =>
    intro l hl
    obtain ⟨i, x⟩ := p
    unfold partsL at hl
    split at hl
    · rename_i q l' h1 h2; cases hl; exact ⟨i, x, r, rfl, rfl, h1, ih h2⟩
    · cases hl
theorem partsS_ok {t : TypeId} {fs : Array Field} (hu : P.underlying t = some (.struct fs)) : ∀ {parts : List (Nat × Operand)} {l : PL}, partsS P t parts = some l →
    PartsOk (fun i => (fs.map fun f => (f.offset, sizT P f.type))[i]?) l parts := by
  intro parts
  induction parts with
  | nil => intro l hl; cases hl; exact (show PartsOk _ .nil [] from rfl)
  | cons p r ih =>
    intro l hl
    obtain ⟨i, x⟩ := p
    unfold partsS at hl
    rw [hu] at hl
    dsimp only at hl
    split at hl
    · rename_i f q l' h0 h1 h2; cases hl; exact ⟨i, x, r, rfl, by show (Array.map _ fs)[i]? = _; rw [Array.getElem?_map, h0]; rfl, h1, ih h2⟩
    · cases hl
theorem pr_mapM {α β : Type} (f : α → Sem β) (g : α → β) : ∀ l : List α, (∀ x ∈ l, pr P (f x) = some (g x)) → pr P (l.mapM f) = some (l.map g) := by
  intro l
  induction l with
  | nil => intro _; rfl
  | cons x r ih =>
    intro hl
    rw [List.mapM_cons, pr_bind, hl x (by simp)]
    simp only [Option.bind_some]
    rw [pr_bind, ih fun y hy => hl y (by simp [hy])]
    rfl
theorem pr_zero {T : TypeId} {z : V} (hz : zeroC P T = some z) : ∃ zv, zeroFact P T = some (some zv) ∧ pr P (zeroValue T) = some zv ∧ RLs ρ z zv.cells.toList ∧ (∀ x ∈ zv.cells.toList, oneC x = true) := by
  unfold zeroC at hz
  split at hz
  · rename_i zv hzf
    refine ⟨zv, hzf, ?_, ofCells_spec hz, ofCells_one hz⟩
    unfold zeroFact at hzf
    cases hi : P.info? T with
    | none => rw [hi] at hzf; cases hzf
    | some inf =>
      rw [hi] at hzf
      simp only [Option.map_some, Option.some.injEq] at hzf
      unfold zeroValue; rw [pr_bind, pr_typeInfo hi]; simp only [Option.bind_some, hzf]; rfl
  · cases hz
theorem map_parts (ps : Array (Nat × Operand)) : (ps.toList.map fun q => (q.1, ev e' q.2)) = ((ps.toList.map fun q => (q.1, ev e' q.2)).toArray).toList := by simp
theorem s_buildS {t : TypeId} {fs : Array Field} {z : V} {l : PL} {ps : Array (Nat × Operand)} (hu : P.underlying t = some (.struct fs)) (hz : zeroC P t = some z) (hl : partsS P t ps.toList = some l)
    (hf : fs.toList.all (fun f => (P.info? f.type).isSome) = true) (hR : RH P Fr ρ h w) (hE : RE ρ e e') (hh : evBuild e h n z l = .ok v h' n') :
    Pop P (Instr.build t (ps.toList.map fun q => (q.1, ev e' q.2)).toArray) fun y => Pst P Fr ρ v h' y w := by
  obtain ⟨zv, _, z1, z2, z3⟩ := pr_zero (ρ := ρ) hz
  obtain ⟨t', h1, h2⟩ := fill_spec hE (partsS_ok hu hl) hh
  obtain ⟨cs', g1, g2, g3, g4⟩ := h2 zv.cells.toList (RT.wr0 z2 .lf 0) z2.len.symm z3
  obtain ⟨rfl, rfl, _⟩ := ok_inj h1
  refine popP (y := .agg (List.toArray cs')) ?_ hR ⟨cs', g2.rd g3, g4, rfl⟩
  unfold Instr.build
  rw [pr_bind, z1]
  simp only [Option.bind_some]
  rw [pr_bind, pr_underlying hu]
  simp only [Option.bind_some]
  have hm : pr P (fs.mapM fun f => (do pure (f.offset, ← sizeOf f.type) : Sem (Nat × Nat))) = some (fs.map fun f => (f.offset, sizT P f.type)) := by
    have := pr_mapM (P := P) (fun f : Field => (do pure (f.offset, ← sizeOf f.type) : Sem (Nat × Nat))) (fun f => (f.offset, sizT P f.type)) fs.toList (fun f hfm => by
      have hs := List.all_eq_true.1 hf f hfm
      cases hi : P.info? f.type with
      | none => rw [hi] at hs; cases hs
      | some inf =>
        rw [pr_bind, pr_sizeOf hi]
        show some _ = _
        unfold sizT; rw [hi]; rfl)
    obtain ⟨l0⟩ := fs
    show pr P ((List.toArray l0).mapM _) = _
    rw [List.mapM_toArray, ← bind_pure_comp, pr_bind, this]
    simp [pr_pure]
  rw [pr_bind, hm]
  simp only [Option.bind_some]
  rw [show Instr.fill _ zv.cells _ = some (List.toArray cs') from by rw [← g1, Array.toArray_toList]]
  rfl
theorem s_buildA {t k E : Nat} {z : V} {l : PL} {ps : Array (Nat × Operand)} (hu : P.underlying t = some (.array k E)) (hz : zeroC P t = some z) (hl : partsL (sizT P E) ps.toList = some l)
    (hf : (P.info? E).isSome = true) (hR : RH P Fr ρ h w) (hE : RE ρ e e') (hh : evBuild e h n z l = .ok v h' n') :
    Pop P (Instr.build t (ps.toList.map fun q => (q.1, ev e' q.2)).toArray) fun y => Pst P Fr ρ v h' y w := by
  obtain ⟨zv, _, z1, z2, z3⟩ := pr_zero (ρ := ρ) hz
  obtain ⟨t', h1, h2⟩ := fill_spec hE (partsL_ok hl) hh
  obtain ⟨cs', g1, g2, g3, g4⟩ := h2 zv.cells.toList (RT.wr0 z2 .lf 0) z2.len.symm z3
  obtain ⟨rfl, rfl, _⟩ := ok_inj h1
  refine popP (y := .agg (List.toArray cs')) ?_ hR ⟨cs', g2.rd g3, g4, rfl⟩
  have hs : pr P (sizeOf E) = some (sizT P E) := by
    cases hi : P.info? E with
    | none => rw [hi] at hf; cases hf
    | some inf => rw [pr_sizeOf hi]; unfold sizT; rw [hi]; rfl
  unfold Instr.build
  rw [pr_bind, z1]
  simp only [Option.bind_some]
  rw [pr_bind, pr_underlying hu]
  simp only [Option.bind_some]
  rw [pr_bind, hs]
  simp only [Option.bind_some]
  rw [show Instr.fill _ zv.cells _ = some (List.toArray cs') from by rw [← g1, Array.toArray_toList]]
  rfl
theorem flat_get' {zs : List Value} : ∀ (k i : Nat), i < k * zs.length → (List.replicate k zs).flatten[i]? = zs[i % zs.length]? := by
  intro k
  induction k with
  | zero => intro i hi; omega
  | succ k ih =>
    intro i hi
    rw [List.replicate_succ, List.flatten_cons]
    by_cases h1 : i < zs.length
    · rw [List.getElem?_append_left h1, Nat.mod_eq_of_lt h1]
    · rw [Nat.succ_mul] at hi
      rw [List.getElem?_append_right (by omega), ih _ (by omega), ← Nat.mod_eq_sub_mod (by omega)]
theorem made_list (zs : List Value) (k : Nat) (hz : 0 < zs.length) : (madeCells (List.toArray zs) (k * zs.length)).toList = (List.replicate k zs).flatten := by
  apply List.ext_getElem?
  intro i
  by_cases hi : i < k * zs.length
  · rw [flat_get' k i hi]
    have h2 : i % zs.length < zs.length := Nat.mod_lt _ hz
    unfold madeCells
    simp [hi, h2]
  · rw [List.getElem?_eq_none (by rw [Array.length_toList, size_madeCells]; omega), List.getElem?_eq_none]
    simp; omega
theorem one_flat {zs : List Value} {k : Nat} (hz : ∀ z ∈ zs, oneC z = true) : ∀ z ∈ (List.replicate k zs).flatten, oneC z = true := fun z h => by
  obtain ⟨l, h1, h2⟩ := List.mem_flatten.1 h
  rw [(List.mem_replicate.1 h1).2] at h2
  exact hz z h2
theorem s_bsl {t E es by' k : Nat} {z : V} {l : PL} {ps : Array (Nat × Operand)} (hf : slFact P t = some (E, es, by', some es)) (hz : zeroC P E = some z) (hl : partsL es ps.toList = some l) (h1 : 1 ≤ es) (hk : k * es ≤ 16777216)
    (hR : RH P Fr ρ h w) (hE : RE ρ e e') (hh : evBsl e h n es k (repV z k) l = .ok v h' n') :
    Eop P (Instr.buildSlice t k (ps.toList.map fun q => (q.1, ev e' q.2)).toArray) w (Pst P Fr ρ v h') := by
  obtain ⟨hu, inf, hi, hsz, hbytes, hzz⟩ := slFact_spec hf
  obtain ⟨zv, hzf, z1, z2, z3⟩ := pr_zero (ρ := ρ) hz
  have hzl : zv.cells.toList.length = es := by
    unfold zeroFact at hzf
    rw [hi] at hzf
    simp only [Option.map_some, Option.some.injEq] at hzf
    rw [hzf] at hzz
    simpa using hzz
  obtain ⟨t', g0, g1⟩ := fill_spec hE (partsL_ok hl) hh
  have hrl : RLs ρ (repV z k) (List.replicate k zv.cells.toList).flatten := z2.rep k
  obtain ⟨cs', k1, k2, k3, k4⟩ := g1 _ (RT.wr0 hrl .lf 0) hrl.len.symm (one_flat z3)
  obtain ⟨hn, g0⟩ := alloc_ok g0
  obtain ⟨rfl, rfl, _⟩ := ok_inj g0
  have hlen : cs'.length = k * es := by rw [k3, hrl.len]; simp [hzl]
  have hm := hR.newc (t := t') (cs := cs') (rest := []) (T := E) (c := k) (es := es) (w' := push w (.cells (List.toArray cs') E)) hn k2 k4 (m := lenV (repV z k)) k3.symm (by rw [List.append_nil, hlen]; exact Nat.le_refl _) (fun _ => by rw [← k3, hlen]; exact Nat.le_refl _) (by rw [List.append_nil]; rfl)
  refine ⟨.slice (some ⟨w.heap.size, 0, none⟩) k k, push w (.cells (List.toArray cs') E), ?_, postN hm ⟨_, ext_at _ _ _, Nat.le_refl _, rfl⟩⟩
  unfold Instr.buildSlice
  rw [run_bind_ok (run_of_pr (pr_underlying hu) w)]
  dsimp only
  rw [run_bind_ok (run_of_pr (pr_sizeOf hi) w), hsz, if_neg (by omega)]
  by_cases h0 : k * es = 0
  · simp only [if_pos h0]
    have hk0 : k = 0 := by
      rcases Nat.mul_eq_zero.1 h0 with h | h
      · exact h
      · omega
    rw [run_bind_ok (run_pure _ w)]
    rw [show Instr.fill _ ((Array.range (k * es)).map _) _ = some (List.toArray cs') from by rw [← k1]; subst hk0; rw [show Array.range (0 * es) = #[] from by rw [Nat.zero_mul]; rfl, Array.map_empty]; rfl]
    rfl
  · simp only [if_neg h0]
    rw [run_bind_ok (run_of_pr z1 w), run_bind_ok (run_pure _ w)]
    have e1 : ((Array.range (k * es)).map (zv.cells[· % zv.cells.size]!)) = List.toArray (List.replicate k zv.cells.toList).flatten := by
      have := made_list zv.cells.toList k (by omega)
      rw [hzl, Array.toArray_toList] at this
      rw [← this, Array.toArray_toList]; rfl
    rw [show Instr.fill _ ((Array.range (k * es)).map (zv.cells[· % zv.cells.size]!)) _ = some (List.toArray cs') from by rw [e1, ← k1]]
    rfl
theorem s_mks {t E es by' : Nat} {z : V} {lq cq : Oq} {x y : Value} (hf : slFact P t = some (E, es, by', some es)) (hz : zeroC P E = some z) (h1 : 1 ≤ es) (hby : by' ≤ 8192) (hR : RH P Fr ρ h w) (hx : RV ρ (evq e lq) x) (hy : RV ρ (evq e cq) y)
    (hh : evMks e h n es z lq cq = .ok v h' n') : Eop P (Instr.makeSlice t x y) w (Pst P Fr ρ v h') := by
  obtain ⟨hu, inf, hi, hsz, hbytes, hzz⟩ := slFact_spec hf
  obtain ⟨zv, hzf, z1, z2, z3⟩ := pr_zero (ρ := ρ) hz
  have hinf : inf.zero = some zv := by
    unfold zeroFact at hzf
    rw [hi] at hzf
    simpa using hzf
  obtain ⟨t1, j, e1, hh⟩ := natV_ok hh
  obtain ⟨t2, k, e2, hh⟩ := natV_ok hh
  rw [e1] at hx
  rw [e2] at hy
  obtain rfl : x = .int t1 (j : Int) := hx
  obtain rfl : y = .int t2 (k : Int) := hy
  obtain ⟨hc, hh⟩ := iffO_ok hh
  obtain ⟨c1, hc⟩ := and_ok hc
  obtain ⟨c2, c3⟩ := and_ok hc
  have c1 := nb_eq c1
  have c2 := ble_le c2
  have c3 := ble_le c3
  obtain ⟨hn, hh⟩ := alloc_ok hh
  obtain ⟨rfl, rfl, _⟩ := ok_inj hh
  have hzl : zv.cells.toList.length = es := by rw [← z2.len]; exact c1
  have hb : (inf.bytes : Int) * (k : Int) ≤ 281474976710656 := by
    have h3 : inf.bytes * k ≤ 8192 * 1073741824 := Nat.mul_le_mul (by omega) c3
    have : ((inf.bytes * k : Nat) : Int) ≤ 281474976710656 := by omega
    rwa [Int.natCast_mul] at this
  have hr := run_make (P := P) w t E inf zv hu hi hinf t1 t2 (j : Int) (k : Int) (by omega) (by omega) hb (by omega)
  rw [hsz] at hr
  simp only [Int.toNat_natCast] at hr
  have hrl : RLs ρ (repV z k) (List.replicate k zv.cells.toList).flatten := z2.rep k
  have hlen : (List.replicate k zv.cells.toList).flatten.length = k * es := by simp [hzl]
  have e3 : madeCells zv.cells (k * es) = List.toArray (List.replicate k zv.cells.toList).flatten := by
    have := made_list zv.cells.toList k (by omega)
    rw [hzl, Array.toArray_toList] at this
    rw [← this, Array.toArray_toList]
  rw [e3] at hr
  refine ⟨_, _, hr, postN (hR.newc (rest := []) (c := k) hn (RT.wr0 hrl .lf 0) (one_flat z3) hlen.symm (by rw [List.append_nil, hlen]; exact Nat.le_refl _) (fun _ => Nat.le_refl _) (by rw [List.append_nil]; rfl)) ⟨_, ext_at _ _ _, c2, rfl⟩⟩
end
end Go.Fw
