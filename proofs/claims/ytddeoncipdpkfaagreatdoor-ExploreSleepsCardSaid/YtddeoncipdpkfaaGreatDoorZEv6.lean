/-
  The evaluator: comparisons, sums; parts of structs and arrays; slices cut. Own work; nothing here is trusted.
-/
import Derived.Test.YtddeoncipdpkfaaGreatDoorZEv5
set_option linter.all false
namespace Go.Fw
section
variable {P : Program} {Fr : Fram} {ρ : Rn} {h h' : Hp} {w : World} {v : V} {n n' : Nat} {e : En} {e' : Env}
theorem kI_eq (k : OK) (t : IntKind) (m : Int) : kI k t m = k (.i t m) := by cases m <;> rfl
theorem kB_eq (k : OK) (b : Bool) : kB k b = k (.b b) := by cases b <;> rfl
theorem kS_eq (k : OK) (a b : Nat) : kS k a b = k (.s a b) := by unfold kS; cases Nat.ble a 0 <;> rfl

/-- An answer of ours is the model's; or the other way was taken. -/
def Ans (P : Program) (ρ : Rn) (m : Sem Value) (d : OR) (c : OK) (r : OR) : Prop := r = d ∨ r = .no ∨ ∃ u y, r = c u ∧ pr P m = some y ∧ RV ρ u y
theorem Ans.yes {m : Sem Value} {d : OR} {c : OK} {u : V} {y : Value} (hp : pr P m = some y) (hv : RV ρ u y) : Ans P ρ m d c (c u) := .inr (.inr ⟨u, y, rfl, hp, hv⟩)
theorem binI_spec {op : BinOp} {t : TypeId} {cx cy : Bool} {k : IntKind} {a b : Int} {d : OR} {c : OK} : Ans P ρ (binS op t cx cy (.int k a) (.int k b)) d c (binI op k a b d c) := by
  have iff' : ∀ {A B : Sem Value}, (if k ≠ k then A else B) = B := fun {A B} => if_neg (by simp)
  cases op <;> try exact .inl rfl
  · show Ans P ρ _ d c (kI c k (addI k a b))
    rw [kI_eq]; exact .yes (y := .int k (k.wrap (a + b))) (by show pr P (if k ≠ k then _ else _) = _; rw [iff']; rfl) (show _ = _ by rw [addI_eq])
  · show Ans P ρ _ d c (kI c k (subI k a b))
    rw [kI_eq]; exact .yes (y := .int k (k.wrap (a - b))) (by show pr P (if k ≠ k then _ else _) = _; rw [iff']; rfl) (show _ = _ by rw [subI_eq])
  · show Ans P ρ _ d c (kB c (eqI a b))
    rw [kB_eq]; exact .yes (y := .bool (a == b)) (by show pr P (if k ≠ k then _ else _) = _; rw [iff']; rfl) (show _ = _ by rw [eqI_dec]; rfl)
  · show Ans P ρ _ d c (kB c (notB (eqI a b)))
    rw [kB_eq]; exact .yes (y := .bool (a != b)) (by show pr P (if k ≠ k then _ else _) = _; rw [iff']; rfl) (show _ = _ by rw [notB_eq, eqI_dec]; rfl)
  · show Ans P ρ _ d c (kB c (ltI a b))
    rw [kB_eq]; exact .yes (y := .bool (decide (a < b))) (by show pr P (if k ≠ k then _ else _) = _; rw [iff']; rfl) (show _ = _ by rw [ltI_dec])
  · show Ans P ρ _ d c (kB c (notB (ltI b a)))
    rw [kB_eq]; exact .yes (y := .bool (decide (a ≤ b))) (by show pr P (if k ≠ k then _ else _) = _; rw [iff']; rfl) (show _ = _ by rw [notB_eq, ltI_dec]; by_cases hh : b < a <;> simp [hh] <;> omega)
  · show Ans P ρ _ d c (kB c (ltI b a))
    rw [kB_eq]; exact .yes (y := .bool (decide (a > b))) (by show pr P (if k ≠ k then _ else _) = _; rw [iff']; rfl) (show _ = _ by rw [ltI_dec])
  · show Ans P ρ _ d c (kB c (notB (ltI a b)))
    rw [kB_eq]; exact .yes (y := .bool (decide (a ≥ b))) (by show pr P (if k ≠ k then _ else _) = _; rw [iff']; rfl) (show _ = _ by rw [notB_eq, ltI_dec]; by_cases hh : a < b <;> simp [hh] <;> omega)
theorem binT_spec {op : BinOp} {t : TypeId} {cx cy : Bool} {a l a' l' : Nat} {d : OR} {c : OK} : Ans P ρ (binS op t cx cy (.string (strOf a l)) (.string (strOf a' l'))) d c (binT op a l a' l' d c) := by
  cases op <;> try exact .inl rfl
  · show Ans P ρ _ d c (iffO (Nat.ble (l + l') 1073741824) _ d)
    cases hl : Nat.ble (l + l') 1073741824 with
    | false => exact .inl rfl
    | true =>
      have hl := ble_le hl
      show Ans P ρ _ d c (kS c _ _)
      rw [kS_eq]
      refine .yes (y := .string (strOf a l ++ strOf a' l')) ?_ (show _ = _ by rw [← strOf_cat]; rfl)
      show pr P (if (((strOf a l).size + (strOf a' l').size : Nat) : Int) > IntKind.i64.max then _ else _) = _
      rw [if_neg]
      · rfl
      · rw [strOf_size, strOf_size, show IntKind.i64.max = 9223372036854775807 from by decide]; omega
  · show Ans P ρ _ d c (kB c (eqS a l a' l'))
    rw [kB_eq]; exact .yes (y := .bool ((strOf a l).toList == (strOf a' l').toList)) rfl (show _ = _ by rw [eqS_dec, toList_iff])
  · show Ans P ρ _ d c (kB c (notB (eqS a l a' l')))
    rw [kB_eq]; exact .yes (y := .bool (!((strOf a l).toList == (strOf a' l').toList))) rfl (show _ = _ by rw [notB_eq, eqS_dec, toList_iff])
/-- Equal, or not. -/
theorem eqn_spec {op : BinOp} {t : TypeId} {x y : Value} {r : Bool} {d : OR} {c : OK} {m : Sem Value} (hp : pr P (Op.equal t x y) = some r)
    (h1 : op = .eql → m = do pure (.bool (← Op.equal t x y))) (h2 : op = .neq → m = do pure (.bool (!(← Op.equal t x y)))) : Ans P ρ m d c (eqn op r d c) := by
  cases op <;> try exact .inl rfl
  · show Ans P ρ _ d c (kB c r)
    rw [kB_eq]; exact .yes (y := .bool r) (by rw [h1 rfl, pr_map', hp]; rfl) rfl
  · show Ans P ρ _ d c (kB c (notB r))
    rw [kB_eq]; exact .yes (y := .bool (!r)) (by rw [h2 rfl, pr_map' _ (fun b => Value.bool (!b)), hp]; rfl) (show _ = _ by rw [notB_eq])
theorem beqBA (a b : ByteArray) : (a == b) = decide (a = b) := by
  obtain ⟨a⟩ := a
  obtain ⟨b⟩ := b
  show (a == b) = _
  rw [Bool.eq_iff_iff, beq_iff_eq, decide_eq_true_eq, ByteArray.mk.injEq]
theorem eqCell_spec {k : Nat} {x y : V} {a b : Value} {d : OR} {c : Bool → OR} (hx : RV ρ x a) (hy : RV ρ y b) : eqCell k x y d c = d ∨ (eqCell k x y d c = c (eqV a b) ∧ kindV a = some k ∧ kindV b = some k) := by
  match k with
  | 0 =>
    show x.onI d _ = d ∨ _
    rcases V.onI_inv x d (fun k a => y.onI d fun k' a' => iffO (andB (Nat.beq (kn k) 3) (Nat.beq (kn k') 3)) (c (eqI a a')) d) with h1 | ⟨t, i, rfl, h1⟩
    · exact .inl h1
    rcases V.onI_inv y d (fun k' a' => iffO (andB (Nat.beq (kn t) 3) (Nat.beq (kn k') 3)) (c (eqI i a')) d) with h2 | ⟨t', i', rfl, h2⟩
    · exact .inl (h1.trans h2)
    obtain rfl : a = .int t i := hx
    obtain rfl : b = .int t' i' := hy
    have e := h1.trans h2
    cases ht : Nat.beq (kn t) 3 with
    | false => exact .inl (e.trans (by rw [ht]; rfl))
    | true => cases ht' : Nat.beq (kn t') 3 with
      | false => exact .inl (e.trans (by rw [ht, ht']; rfl))
      | true =>
        have e1 : t = .i64 := kn_inj (b := .i64) ht
        have e2 : t' = .i64 := kn_inj (b := .i64) ht'
        subst e1; subst e2
        exact .inr ⟨e.trans (by show c (eqI i i') = _; rw [eqI_dec]; rfl), rfl, rfl⟩
  | 1 =>
    show x.onB d _ = d ∨ _
    rcases V.onB_inv x d (fun a => y.onB d fun a' => c (eqB a a')) with h1 | ⟨i, rfl, h1⟩
    · exact .inl h1
    rcases V.onB_inv y d (fun a' => c (eqB i a')) with h2 | ⟨i', rfl, h2⟩
    · exact .inl (h1.trans h2)
    obtain rfl : a = .bool i := hx
    obtain rfl : b = .bool i' := hy
    exact .inr ⟨(h1.trans h2).trans (by rw [eqB_eq]; rfl), rfl, rfl⟩
  | 2 =>
    show x.onS d _ = d ∨ _
    rcases V.onS_inv x d (fun n l => y.onS d fun n' l' => c (eqS n l n' l')) with h1 | ⟨t, i, rfl, h1⟩
    · exact .inl h1
    rcases V.onS_inv y d (fun n' l' => c (eqS t i n' l')) with h2 | ⟨t', i', rfl, h2⟩
    · exact .inl (h1.trans h2)
    obtain rfl : a = .string (strOf t i) := hx
    obtain rfl : b = .string (strOf t' i') := hy
    exact .inr ⟨(h1.trans h2).trans (by rw [eqS_dec]; exact congrArg c (beqBA _ _).symm), rfl, rfl⟩
  | k + 3 => exact .inl rfl
theorem eqCells_spec : ∀ {ks : List Nat} {x y : V} {xs ys : List Value} {d : OR} {c : Bool → OR}, RLs ρ x xs → RLs ρ y ys →
    eqCells ks x y d c = d ∨ (eqCells ks x y d c = c (eqAll xs ys) ∧ xs.map kindV = ks.map some ∧ ys.map kindV = ks.map some) := by
  intro ks
  induction ks with
  | nil =>
    intro x y xs ys d c hx hy
    cases x <;> first | exact hx.elim | exact .inl rfl | skip
    cases y <;> first | exact hy.elim | exact .inl rfl | skip
    rw [RLs.nil_inv hx, RLs.nil_inv hy]
    exact .inr ⟨rfl, rfl, rfl⟩
  | cons k ks ih =>
    intro x y xs ys d c hx hy
    cases x <;> first | exact hx.elim | exact .inl rfl | skip
    cases y <;> first | exact hy.elim | exact .inl rfl | skip
    rename_i hh rr hh' rr'
    obtain ⟨z, zs, rfl, h2, h3⟩ := hx
    obtain ⟨z', zs', rfl, h2', h3'⟩ := hy
    have e : eqCells (k :: ks) (.c hh rr) (.c hh' rr') d c = eqCell k hh hh' d fun b => eqCells ks rr rr' d fun b' => c (andB b b') := rfl
    rcases eqCell_spec (k := k) (d := d) (c := fun b => eqCells ks rr rr' d fun b' => c (andB b b')) h2 h2' with h4 | ⟨h4, h5, h6⟩
    · exact .inl (e.trans h4)
    · rcases ih (d := d) (c := fun b' => c (andB (eqV z z') b')) h3 h3' with h7 | ⟨h7, h8, h9⟩
      · exact .inl ((e.trans h4).trans h7)
      · exact .inr ⟨((e.trans h4).trans h7).trans (by rw [andB_eq]; rfl), by simp [h5, h8], by simp [h6, h9]⟩

theorem Ans.ok {m : Sem Value} {d : OR} {u : V} {hh : Hp} (ha : Ans P ρ m d (fun v => .ok v h n) (.ok u hh n')) (hd : d = .ok u hh n' → ∃ y, pr P m = some y ∧ RV ρ u y ∧ hh = h) : ∃ y, pr P m = some y ∧ RV ρ u y ∧ hh = h := by
  rcases ha with h1 | h1 | ⟨u', y, h1, h2, h3⟩
  · exact hd h1.symm
  · cases h1
  · obtain ⟨rfl, rfl, _⟩ := ok_inj h1; exact ⟨y, h2, h3, rfl⟩
theorem nilEq_spec {f : V → OR → (Bool → OR) → OR} {op : BinOp} {t : TypeId} {x y : V} {a b : Value} {d : OR} {c : OK} {m : Sem Value} {nl : Value → Bool → Prop}
    (hf : ∀ (v : V) (a : Value) (d : OR) (c : Bool → OR), RV ρ v a → f v d c = d ∨ ∃ r, f v d c = c r ∧ nl a r)
    (he : ∀ r r', nl a r → nl b r' → r = true ∨ r' = true → pr P (Op.equal t a b) = some (r && r')) (hx : RV ρ x a) (hy : RV ρ y b)
    (h1 : op = .eql → (∃ r, nl a r) → (∃ r, nl b r) → m = do pure (.bool (← Op.equal t a b))) (h2 : op = .neq → (∃ r, nl a r) → (∃ r, nl b r) → m = do pure (.bool (!(← Op.equal t a b)))) : Ans P ρ m d c (nilEq f op x y d c) := by
  unfold nilEq
  rcases hf x a d (fun a => f y d fun b => iffO a (eqn op b d c) (iffO b (eqn op a d c) d)) hx with e1 | ⟨r, e1, n1⟩
  · exact .inl e1
  rw [e1]
  rcases hf y b d (fun b => iffO r (eqn op b d c) (iffO b (eqn op r d c) d)) hy with e2 | ⟨r', e2, n2⟩
  · exact .inl e2
  rw [e2]
  have key := fun hr => eqn_spec (ρ := ρ) (d := d) (c := c) (he r r' n1 n2 hr) (fun ho => h1 ho ⟨r, n1⟩ ⟨r', n2⟩) (fun ho => h2 ho ⟨r, n1⟩ ⟨r', n2⟩)
  cases r with
  | true => have := key (.inl rfl); rwa [Bool.true_and] at this
  | false => cases r' with
    | true => exact key (.inr rfl)
    | false => exact .inl rfl
def nlP (a : Value) (r : Bool) : Prop := ∃ p, a = .pointer p ∧ r = p.isNone
def nlS (a : Value) (r : Bool) : Prop := ∃ p l c, a = .slice p l c ∧ r = p.isNone
def nlM (a : Value) (r : Bool) : Prop := ∃ p, a = .map p ∧ r = p.isNone
def nlF (a : Value) (r : Bool) : Prop := (a = .nilFunc ∧ r = true) ∨ ∃ g x y, a = .func g x y ∧ r = false
theorem isNilP_spec (v : V) (a : Value) (d : OR) (c : Bool → OR) (hv : RV ρ v a) : isNilP v d c = d ∨ ∃ r, isNilP v d c = c r ∧ nlP a r := by
  cases v <;> try exact .inl rfl
  · exact .inr ⟨true, rfl, none, hv, rfl⟩
  · obtain ⟨q, _, h2⟩ := hv; exact .inr ⟨false, rfl, _, h2, rfl⟩
theorem isNilS_spec (v : V) (a : Value) (d : OR) (c : Bool → OR) (hv : RV ρ v a) : isNilS v d c = d ∨ ∃ r, isNilS v d c = c r ∧ nlS a r := by
  cases v <;> try exact .inl rfl
  · exact .inr ⟨true, rfl, none, _, _, hv, rfl⟩
  · obtain ⟨q, _, _, h2⟩ := hv; exact .inr ⟨false, rfl, _, _, _, h2, rfl⟩
  · obtain ⟨q, _, _, h2⟩ := hv; exact .inr ⟨false, rfl, _, _, _, h2, rfl⟩
  · obtain ⟨q, _, h2⟩ := hv; exact .inr ⟨false, rfl, _, _, _, h2, rfl⟩
theorem isNilM_spec (v : V) (a : Value) (d : OR) (c : Bool → OR) (hv : RV ρ v a) : isNilM v d c = d ∨ ∃ r, isNilM v d c = c r ∧ nlM a r := by
  cases v <;> try exact .inl rfl
  · exact .inr ⟨true, rfl, none, hv, rfl⟩
  · obtain ⟨q, _, h2⟩ := hv; exact .inr ⟨false, rfl, _, h2, rfl⟩
theorem isNilF_spec (v : V) (a : Value) (d : OR) (c : Bool → OR) (hv : RV ρ v a) : isNilF v d c = d ∨ ∃ r, isNilF v d c = c r ∧ nlF a r := by
  cases v <;> try exact .inl rfl
  · exact .inr ⟨true, rfl, .inl ⟨hv, rfl⟩⟩
  · obtain ⟨q, _, h2⟩ := hv; exact .inr ⟨false, rfl, .inr ⟨_, _, _, h2, rfl⟩⟩
  · obtain ⟨q, _, h2⟩ := hv; exact .inr ⟨false, rfl, .inr ⟨_, _, _, h2, rfl⟩⟩
theorem binK_spec {op : BinOp} {t : TypeId} {cx cy : Bool} {x y : V} {a b : Value} {d : OR} {c : OK} (hx : RV ρ x a) (hy : RV ρ y b) : Ans P ρ (binS op t cx cy a b) d c (binK op (kdOf P op t) x y d c) := by
  unfold kdOf
  split
  · rename_i hu
    show Ans P ρ _ d c (x.onB d _)
    rcases V.onB_inv x d (fun a => y.onB d fun b => eqn op (eqB a b) d c) with h1 | ⟨i, rfl, h1⟩
    · exact .inl h1
    rw [h1]
    rcases V.onB_inv y d (fun b => eqn op (eqB i b) d c) with h2 | ⟨i', rfl, h2⟩
    · exact .inl h2
    rw [h2]
    obtain rfl : a = .bool i := hx
    obtain rfl : b = .bool i' := hy
    exact eqn_spec (by rw [eqB_eq]; exact pr_equal_bool hu) (fun ho => by rw [ho]; rfl) (fun ho => by rw [ho]; rfl)
  · rename_i el hu
    refine nilEq_spec (t := t) (nl := nlP) isNilP_spec ?_ hx hy ?_ ?_
    · rintro r r' ⟨p, rfl, rfl⟩ ⟨p', rfl, rfl⟩ hr
      show pr P (Op.equalIn 10000 t _ _) = _
      unfold Op.equalIn
      rw [pr_bind, pr_underlying hu]
      cases p with
      | none => rfl
      | some p => cases p' with
        | none => rfl
        | some p' => rcases hr with hr | hr <;> cases hr
    · rintro ho ⟨_, p, rfl, _⟩ ⟨_, p', rfl, _⟩; rw [ho]; rfl
    · rintro ho ⟨_, p, rfl, _⟩ ⟨_, p', rfl, _⟩; rw [ho]; rfl
  · rename_i el hu
    refine nilEq_spec (t := t) (nl := nlS) isNilS_spec ?_ hx hy ?_ ?_
    · rintro r r' ⟨p, _, _, rfl, rfl⟩ ⟨p', _, _, rfl, rfl⟩ hr
      show pr P (Op.equalIn 10000 t _ _) = _
      unfold Op.equalIn
      rw [pr_bind, pr_underlying hu]
      cases p with
      | none => rfl
      | some p => cases p' with
        | none => rfl
        | some p' => rcases hr with hr | hr <;> cases hr
    · rintro ho ⟨_, p, _, _, rfl, _⟩ ⟨_, p', _, _, rfl, _⟩; rw [ho]; rfl
    · rintro ho ⟨_, p, _, _, rfl, _⟩ ⟨_, p', _, _, rfl, _⟩; rw [ho]; rfl
  · rename_i el hu
    refine nilEq_spec (t := t) (nl := nlM) isNilM_spec ?_ hx hy ?_ ?_
    · rintro r r' ⟨p, rfl, rfl⟩ ⟨p', rfl, rfl⟩ hr
      show pr P (Op.equalIn 10000 t _ _) = _
      unfold Op.equalIn
      rw [pr_bind, pr_underlying hu]
      cases p with
      | none => rfl
      | some p => cases p' with
        | none => rfl
        | some p' => rcases hr with hr | hr <;> cases hr
    · rintro ho ⟨_, p, rfl, _⟩ ⟨_, p', rfl, _⟩; rw [ho]; rfl
    · rintro ho ⟨_, p, rfl, _⟩ ⟨_, p', rfl, _⟩; rw [ho]; rfl
  · rename_i hu
    refine nilEq_spec (t := t) (nl := nlF) isNilF_spec ?_ hx hy ?_ ?_
    · rintro r r' (⟨rfl, rfl⟩ | ⟨g, _, _, rfl, rfl⟩) (⟨rfl, rfl⟩ | ⟨g', _, _, rfl, rfl⟩) hr
      · show pr P (Op.equalIn 10000 t _ _) = _; unfold Op.equalIn; rw [pr_bind, pr_underlying hu]; rfl
      · show pr P (Op.equalIn 10000 t _ _) = _; unfold Op.equalIn; rw [pr_bind, pr_underlying hu]; rfl
      · show pr P (Op.equalIn 10000 t _ _) = _; unfold Op.equalIn; rw [pr_bind, pr_underlying hu]; rfl
      · rcases hr with hr | hr <;> cases hr
    · rintro ho ⟨_, ⟨rfl, _⟩ | ⟨g, _, _, rfl, _⟩⟩ ⟨_, ⟨rfl, _⟩ | ⟨g', _, _, rfl, _⟩⟩ <;> (rw [ho]; rfl)
    · rintro ho ⟨_, ⟨rfl, _⟩ | ⟨g, _, _, rfl, _⟩⟩ ⟨_, ⟨rfl, _⟩ | ⟨g', _, _, rfl, _⟩⟩ <;> (rw [ho]; rfl)
  · split
    · rename_i l hl
      show Ans P ρ _ d c (x.onA d _)
      rcases V.onA_inv x d (fun a => y.onA d fun b => eqCells l a b d fun r => eqn op r d c) with h1 | ⟨i, rfl, h1⟩
      · exact .inl h1
      rw [h1]
      rcases V.onA_inv y d (fun b => eqCells l i b d fun r => eqn op r d c) with h2 | ⟨i', rfl, h2⟩
      · exact .inl h2
      rw [h2]
      obtain ⟨xs, g1, _, rfl⟩ := hx
      obtain ⟨ys, g2, _, rfl⟩ := hy
      rcases eqCells_spec (d := d) (c := fun r => eqn op r d c) g1 g2 with h3 | ⟨h3, h4, h5⟩
      · exact .inl h3
      rw [h3]
      obtain ⟨p1, p2⟩ := pr_struct_eq hl h4 h5
      cases op <;> try exact .inl rfl
      · show Ans P ρ _ d c (kB c _)
        rw [kB_eq]
        obtain ⟨r, q1, q2⟩ := (pop_steql (P := P) (T := t) (cx := cx) (cy := cy) (K := fun y => y = .bool (eqAll xs ys)) hl h4 h5 rfl).ex
        exact .yes q1 (by rw [q2]; rfl)
      · show Ans P ρ _ d c (kB c _)
        rw [kB_eq]
        obtain ⟨r, q1, q2⟩ := (pop_stneq (P := P) (T := t) (cx := cx) (cy := cy) (K := fun y => y = .bool (!eqAll xs ys)) hl h4 h5 rfl).ex
        exact .yes q1 (by rw [q2, notB_eq]; rfl)
    · exact .inl rfl
  · exact .inl rfl
theorem binF_spec {op : BinOp} {t : TypeId} {cx cy : Bool} {x y : V} {a b : Value} {d : OR} {c : OK} (hx : RV ρ x a) (hy : RV ρ y b) : Ans P ρ (binS op t cx cy a b) d c (binF op (kdOf P op t) x y d c) := by
  cases x <;> try exact .inl rfl
  case i k i =>
    show Ans P ρ _ d c (y.onI d fun k' b => iffO (Nat.beq (kn k) (kn k')) (binI op k i b d c) d)
    rcases V.onI_inv y d (fun k' b => iffO (Nat.beq (kn k) (kn k')) (binI op k i b d c) d) with h1 | ⟨k', i', rfl, h1⟩
    · exact .inl h1
    rw [h1]
    obtain rfl : a = .int k i := hx
    obtain rfl : b = .int k' i' := hy
    cases hk : Nat.beq (kn k) (kn k') with
    | false => exact .inl rfl
    | true => have := kn_inj hk; subst this; exact binI_spec
  case s m l =>
    show Ans P ρ _ d c (y.onS d fun n' l' => binT op m l n' l' d c)
    rcases V.onS_inv y d (fun n' l' => binT op m l n' l' d c) with h1 | ⟨m', l', rfl, h1⟩
    · exact .inl h1
    rw [h1]
    obtain rfl : a = .string (strOf m l) := hx
    obtain rfl : b = .string (strOf m' l') := hy
    exact binT_spec
  all_goals exact binK_spec hx hy
/-- Two operands. -/
theorem s_bin {op : BinOp} {t : TypeId} {cx cy : Bool} {p q : Oq} {a b : Value} (hx : RV ρ (evq e p) a) (hy : RV ρ (evq e q) b)
    (hh : (binV P op (binS op t cx cy) (kdOf P op t) (evq e p) (evq e q) fun v => .ok v h n) = .ok v h' n') : ∃ y, pr P (binS op t cx cy a b) = some y ∧ RV ρ v y ∧ h' = h := by
  have := binF_spec (P := P) (ρ := ρ) (op := op) (t := t) (cx := cx) (cy := cy) (d := gen2V P (binS op t cx cy) (evq e p) (evq e q) fun v => .ok v h n) (c := fun v => .ok v h n) hx hy
  rw [show binF op (kdOf P op t) (evq e p) (evq e q) _ _ = _ from hh] at this
  refine this.ok fun hd => ?_
  unfold gen2V at hd
  cases h1 : toV (evq e p) with
  | none => rw [h1] at hd; cases hd
  | some x =>
    rw [h1] at hd
    dsimp only at hd
    have : a = x := (toVP_spec (evq e p)).1 _ _ h1 hx
    subst this
    cases h2 : toV (evq e q) with
    | none => rw [h2] at hd; cases hd
    | some y =>
      rw [h2] at hd
      dsimp only at hd
      have : b = y := (toVP_spec (evq e q)).1 _ _ h2 hy
      subst this
      cases h3 : pr P (binS op t cx cy a b) with
      | none => rw [h3] at hd; cases hd
      | some r =>
        rw [h3] at hd
        dsimp only [okO] at hd
        cases h4 : ofVal r with
        | none => rw [h4] at hd; cases hd
        | some u =>
          rw [h4] at hd
          obtain ⟨rfl, rfl, _⟩ := ok_inj hd
          exact ⟨r, rfl, ofVal_spec h4, rfl⟩
end
end Go.Fw
