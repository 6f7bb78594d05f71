/-
  The evaluator: copy, clear, a text's bytes; maps. Own work; nothing here is trusted.
-/
import Derived.Test.YtddeoncipdpkfaaGreatDoorZEv9
set_option linter.all false
namespace Go.Fw
section
variable {P : Program} {Fr : Fram} {ρ : Rn} {h h' : Hp} {w : World} {v : V} {n n' : Nat} {e : En} {e' : Env}
theorem overV_ok {b o c : Nat} {l u : V} {vs : List Value} (hR : RH P Fr ρ h w) (hl : RLs ρ l vs) (hone : ∀ z ∈ vs, oneC z = true) (hc : vs.length = c) (hh : overV h n b o c l u = .ok v h' n') :
    ∃ q w', ρ b = some q ∧ (storeCells ⟨q.k, q.b + o, none⟩ vs 0).run P w = .ok () w' ∧ RH P Fr ρ h' w' ∧ v = u := by
  obtain ⟨m, es, t, hg, hh⟩ := withC_ok hh
  obtain ⟨hle, hh⟩ := iffO_ok hh
  have hle : o + c ≤ m := ble_le hle
  obtain ⟨rfl, rfl, _⟩ := ok_inj hh
  obtain ⟨q, w', g1, g2, g3⟩ := hR.sts (o := o) hg hl hone (by rw [hc]; exact hle)
  exact ⟨q, w', g1, g2, g3, rfl⟩
theorem goN_spec (k : Nat) : RV ρ (goN k) (goInt (k : Int)) := rfl
theorem minN_eq (a b : Nat) : minN a b = Nat.min a b := by
  unfold minN
  cases h : Nat.ble a b with
  | true => exact (Nat.min_eq_left (ble_le h)).symm
  | false =>
    have : ¬ a ≤ b := fun hh => by rw [Nat.ble_eq_true_of_le hh] at h; cases h
    exact (Nat.min_eq_right (Nat.le_of_not_le this)).symm
theorem srcL_ok {es : Nat} {y : V} {x : Value} {k : V → Nat → OR} (hR : RH P Fr ρ h w) (hy : RV ρ y x) (hh : srcL h es y k = .ok v h' n') :
    ∃ u cnt news, k u cnt = .ok v h' n' ∧ RLs ρ u news ∧ (∀ z ∈ news, oneC z = true) ∧ (∀ w, (Builtin.lenOf x).run P w = .ok cnt w) ∧ news.length = cnt * es ∧ ∀ j, j ≤ cnt → (Builtin.firstCells es j x).run P w = .ok (List.toArray (news.take (j * es))) w := by
  have sl : ∀ {b o l cap : Nat} {q : Pl}, ρ b = some q → srcC h b o l es k = .ok v h' n' → ∃ u cnt news, k u cnt = .ok v h' n' ∧ RLs ρ u news ∧ (∀ z ∈ news, oneC z = true) ∧
      (∀ w, (Builtin.lenOf (.slice (some ⟨q.k, q.b + o, none⟩) l cap)).run P w = .ok cnt w) ∧ news.length = cnt * es ∧ ∀ j, j ≤ cnt → (Builtin.firstCells es j (.slice (some ⟨q.k, q.b + o, none⟩) l cap)).run P w = .ok (List.toArray (news.take (j * es))) w := by
    intro b o l cap q hb hh
    obtain ⟨u, news, h1, h2, h3, h4, h5⟩ := srcC_ok hR hb hh
    refine ⟨u, l, news, h1, h2, h3, fun _ => rfl, h4, fun j hj => ?_⟩
    have hle : j * es ≤ l * es := Nat.mul_le_mul_right _ hj
    exact run_firstCells_some w es j _ l cap (news.take (j * es)) (by rw [List.length_take]; omega) (fun i x hx => by
      have hi : i < j * es := by
        have := (List.getElem?_eq_some_iff.1 hx).1
        rw [List.length_take] at this; omega
      rw [List.getElem?_take_of_lt hi] at hx
      rw [add_none]; exact h5 i x hx)
  have nl : ∀ {a : Option Addr} {cap : Nat}, k .e 0 = .ok v h' n' → ∃ u cnt news, k u cnt = .ok v h' n' ∧ RLs ρ u news ∧ (∀ z ∈ news, oneC z = true) ∧ (∀ w, (Builtin.lenOf (.slice a 0 cap)).run P w = .ok cnt w) ∧ news.length = cnt * es ∧
      ∀ j, j ≤ cnt → (Builtin.firstCells es j (.slice a 0 cap)).run P w = .ok (List.toArray (news.take (j * es))) w := by
    intro a cap hh
    refine ⟨.e, 0, [], hh, (show RLs ρ .e [] from rfl), fun z hz => by simp at hz, fun _ => rfl, by simp, fun j hj => ?_⟩
    obtain rfl : j = 0 := by omega
    cases a <;> simp [Builtin.firstCells, loadCells, loadCellsFrom]
  rcases okSl hh with hh | ⟨rfl, hh⟩ | ⟨b, o, l, d, rfl, hh⟩ | ⟨b, o, l, c, rfl, hh⟩ | ⟨rfl, hh⟩
  · cases hh
  · obtain rfl : x = .slice none 0 0 := hy
    exact nl hh
  · obtain ⟨q, hb, _, rfl⟩ := hy
    exact sl hb hh
  · obtain ⟨q, hb, _, rfl⟩ := hy
    exact sl hb hh
  · obtain ⟨a, c, rfl⟩ := hy
    exact nl hh
theorem s_cpy {T E es by' tx R : Nat} {z : Option Nat} {p q : Oq} {x y : Value} (hf : slFact P T = some (E, es, by', z)) (hR : RH P Fr ρ h w) (hx : RV ρ (evq e p) x) (hy : RV ρ (evq e q) y) (hh : evCpy e h n es p q = .ok v h' n') :
    Eop P (Builtin.copy_ #[T, tx] R [x, y].toArray) w (Pst P Fr ρ v h') := by
  obtain ⟨hu, inf, hi, hsz, _, _⟩ := slFact_spec hf
  obtain ⟨u, cnt, news, hh, hl, hone, hlen, hnl, hfc⟩ := srcL_ok hR hy hh
  have go : ∀ {l cap : Nat} {a : Option Addr} {w' : World}, (match a with | some a => (storeCells a (news.take (Nat.min cnt l * es)) 0).run P w = .ok () w' | none => w' = w) →
      (Builtin.copy_ #[T, tx] R [.slice a l cap, y].toArray).run P w = .ok (goInt (Nat.min cnt l : Nat)) w' := by
    intro l cap a w' hw
    have := hfc (Nat.min cnt l) (Nat.min_le_left _ _)
    cases a with
    | none => subst hw; simp [Builtin.copy_, run_underlying hu, hlen, sizeOf, typeInfo, hi, hsz, this]
    | some a =>
      have hw : (storeCells a (news.take (Nat.min cnt l * es)) 0).run P w = .ok () w' := hw
      simp [Builtin.copy_, run_underlying hu, hlen, sizeOf, typeInfo, hi, hsz, this, hw]
  have sl : ∀ {b o l cap : Nat} {q : Pl}, ρ b = some q → overV h n b o (Nat.mul (minN cnt l) es) (takeV u (Nat.mul (minN cnt l) es)) (goN (minN cnt l)) = .ok v h' n' → Eop P (Builtin.copy_ #[T, tx] R [.slice (some ⟨q.k, q.b + o, none⟩) l cap, y].toArray) w (Pst P Fr ρ v h') := by
    intro b o l cap q hb hh
    have hmin : Nat.min cnt l * es ≤ cnt * es := Nat.mul_le_mul_right _ (Nat.min_le_left _ _)
    rw [minN_eq] at hh
    obtain ⟨q', w', g1, g2, g3, g4⟩ := overV_ok hR (hl.take (Nat.min cnt l * es)) (fun z hz => hone z (List.mem_of_mem_take hz)) (by rw [List.length_take, hnl]; show min (Nat.min cnt l * es) (cnt * es) = Nat.min cnt l * es; omega) hh
    rw [hb] at g1; cases g1
    exact ⟨_, w', go (a := some ⟨q.k, q.b + o, none⟩) g2, ρ, Le.refl _, g3, by rw [g4]; exact goN_spec _⟩
  rcases okSl hh with hh | ⟨e1, hh⟩ | ⟨b, o, l, d, e1, hh⟩ | ⟨b, o, l, c, e1, hh⟩ | ⟨e1, hh⟩
  · cases hh
  · obtain ⟨rfl, rfl, _⟩ := ok_inj hh
    rw [e1] at hx
    obtain rfl : x = .slice none 0 0 := hx
    exact ⟨_, w, go (a := none) rfl, hR.post (by rw [show Nat.min cnt 0 = 0 from Nat.min_zero _]; exact goN_spec 0)⟩
  · rw [e1] at hx
    obtain ⟨q, hb, _, rfl⟩ := hx
    exact sl hb hh
  · rw [e1] at hx
    obtain ⟨q, hb, _, rfl⟩ := hx
    exact sl hb hh
  · obtain ⟨rfl, rfl, _⟩ := ok_inj hh
    rw [e1] at hx
    obtain ⟨a, c, rfl⟩ := hx
    refine ⟨_, w, go (a := some a) ?_, hR.post (by rw [show Nat.min cnt 0 = 0 from Nat.min_zero _]; exact goN_spec 0)⟩
    rw [show Nat.min cnt 0 = 0 from Nat.min_zero _, Nat.zero_mul, List.take_zero]; rfl
theorem s_clr {T E es by' R : Nat} {z : V} {p : Oq} {x : Value} (hf : slFact P T = some (E, es, by', some es)) (hz : zeroC P E = some z) (h1 : 1 ≤ es) (hR : RH P Fr ρ h w) (hx : RV ρ (evq e p) x) (hh : evClr e h n es z p = .ok v h' n') :
    Eop P (Builtin.clear_ #[T] R [x].toArray) w (Pst P Fr ρ v h') := by
  obtain ⟨hu, inf, hi, hsz, _, hzz⟩ := slFact_spec hf
  obtain ⟨zv, hzf, z1, z2, z3⟩ := pr_zero (ρ := ρ) hz
  obtain ⟨hc, hh⟩ := iffO_ok hh
  have hc := nb_eq hc
  have hzl : zv.cells.toList.length = es := by rw [← z2.len]; exact hc
  have e3 : ∀ k, (Builtin.zeroCells zv.cells k).toList = (List.replicate k zv.cells.toList).flatten := by
    intro k
    have := made_list zv.cells.toList k (by omega)
    rw [← this, Array.toArray_toList, Array.length_toList]
    rfl
  have nil : ∀ {a : Option Addr} {l c : Nat} , a = none ∨ l = 0 → (Builtin.clear_ #[T] R [.slice a l c].toArray).run P w = .ok undef w := by
    intro a l c hal
    rcases hal with rfl | rfl
    · simp [Builtin.clear_, run_underlying hu]; rfl
    · cases a <;> (simp [Builtin.clear_, run_underlying hu]; rfl)
  have sl : ∀ {b o l cap : Nat} {q : Pl}, ρ b = some q → overV h n b o (Nat.mul l es) (repV z l) und = .ok v h' n' → Eop P (Builtin.clear_ #[T] R [.slice (some ⟨q.k, q.b + o, none⟩) l cap].toArray) w (Pst P Fr ρ v h') := by
    intro b o l cap q hb hh
    obtain ⟨q', w', g1, g2, g3, g4⟩ := overV_ok hR (z2.rep l) (one_flat z3) (by simp [hzl]) hh
    rw [hb] at g1; cases g1
    refine ⟨undef, w', ?_, ρ, Le.refl _, g3, by rw [g4]; exact und_spec ρ⟩
    cases l with
    | zero =>
      have : w' = w := by
        have g2 : (storeCells ⟨q.k, q.b + o, none⟩ (List.replicate 0 zv.cells.toList).flatten 0).run P w = .ok () w' := g2
        simp [storeCells] at g2
        exact g2.symm
      rw [this]; exact nil (.inr rfl)
    | succ l =>
      rw [← e3] at g2
      have hz1 := run_of_pr z1 w
      simp [Builtin.clear_, run_underlying hu, hz1]
      rw [g2]
      rfl
  rcases okSl hh with hh | ⟨e1, hh⟩ | ⟨b, o, l, d, e1, hh⟩ | ⟨b, o, l, c, e1, hh⟩ | ⟨e1, hh⟩
  · cases hh
  · obtain ⟨rfl, rfl, _⟩ := ok_inj hh
    rw [e1] at hx
    obtain rfl : x = .slice none 0 0 := hx
    exact ⟨_, w, nil (.inl rfl), hR.post (und_spec ρ)⟩
  · rw [e1] at hx
    obtain ⟨q, hb, _, rfl⟩ := hx
    exact sl hb hh
  · rw [e1] at hx
    obtain ⟨q, hb, _, rfl⟩ := hx
    exact sl hb hh
  · obtain ⟨rfl, rfl, _⟩ := ok_inj hh
    rw [e1] at hx
    obtain ⟨a, c, rfl⟩ := hx
    exact ⟨_, w, nil (.inr rfl), hR.post (und_spec ρ)⟩
theorem s_toB {S D E by' : Nat} {p : Oq} {x : Value} (h1 : P.underlying S = some .string) (h2 : P.underlying D = some (.slice E)) (h3 : P.underlying E = some (.int .u8)) (hR : RH P Fr ρ h w) (hx : RV ρ (evq e p) x)
    (hh : evToB e h n p = .ok v h' n') : Eop P (convert S D x) w (Pst P Fr ρ v h') := by
  obtain ⟨c, l, e1, hh⟩ := okS hh
  obtain ⟨hc, hh⟩ := iffO_ok hh
  obtain ⟨hn, hh⟩ := alloc_ok hh
  obtain ⟨rfl, rfl, _⟩ := ok_inj hh
  rw [e1] at hx
  obtain rfl : x = .string (strOf c l) := hx
  have hr := Go.Lib.run_convert_string_bytes (P := P) w S D E (strOf c l) h1 h2 h3
  rw [strOf_size] at hr
  have hge := grownCap_ge w l 0 E
  have le := ext_le (q := ⟨w.heap.size, 0, grownCap w l 0 E, 1⟩) (hR.fresh n hn)
  have hat := Go.Lib.bytesWorld_at_new w E (strOf c l)
  have hcells : Go.Lib.bytesCells w E (strOf c l) = List.toArray (byteCells (strOf c l) ++ List.replicate (grownCap w l 0 E - l) (.int .u8 0)) := by
    unfold Go.Lib.bytesCells byteCells
    rw [strOf_size]
    apply Array.ext'
    simp
  have hbl : (byteCells (strOf c l)).length = l := by rw [byteCells_length, strOf_size]
  have hlen : (byteCells (strOf c l) ++ List.replicate (grownCap w l 0 E - l) (Value.int .u8 0)).length = grownCap w l 0 E := by rw [List.length_append, hbl, List.length_replicate]; omega
  rw [hcells] at hat
  have hrt : RT ρ (wr1 (bytesV c l 0) 0 .lf) 0 (byteCells (strOf c l)) := RT.wr0 (by rw [byteCells_str]; exact bytesV_spec c l 0) .lf 0
  have hRn : RH P Fr (ext ρ n ⟨w.heap.size, 0, grownCap w l 0 E, 1⟩) (putH h (.c (Nat.mul l 1) 1 (wr1 (bytesV c l 0) 0 .lf)) n) (Go.Lib.bytesWorld w E (strOf c l)) := by
    refine hR.add hn (fun b q' k1 k2 => ?_) ?_ (fun r o' hr ho => ?_) hat ⟨_, E, _, rfl, fun j hj => ?_, rfl, by rw [hlen]; show 0 + grownCap w l 0 E * 1 ≤ grownCap w l 0 E; omega, fun _ => by show l * 1 ≤ grownCap w l 0 E * 1; omega, by rw [hlen]; show 0 + l * 1 ≤ grownCap w l 0 E; omega, fun i hi => ?_⟩
    · obtain ⟨q2, o2, j1, j2, _⟩ := hR.lv b k1
      rw [k2] at j1; cases j1
      have := (Array.getElem?_eq_some_iff.1 j2).1
      show q'.k ≠ w.heap.size
      omega
    · cases hF : Fr.f w.heap.size with
      | none => rfl
      | some o' =>
        have := hR.keep _ _ hF
        have := (Array.getElem?_eq_some_iff.1 this).1
        omega
    · have := (Array.getElem?_eq_some_iff.1 ho).1
      rw [Go.Lib.bytesWorld_at_old w E _ r this]; exact ho
    · dsimp only
      rw [List.size_toArray]
      omega
    · have hi : i < l := by simpa using hi
      have hg : (byteCells (strOf c l))[i]? = some (byteCells (strOf c l))[i] := List.getElem?_eq_getElem (by omega)
      refine ⟨(byteCells (strOf c l))[i], ?_, ?_, ?_⟩
      · show (byteCells (strOf c l) ++ _)[0 + i]? = _
        rw [Nat.zero_add, List.getElem?_append_left (by omega), hg]
      · have := hrt i _ hg
        rw [Nat.zero_add] at this
        exact this.mono le
      · obtain ⟨b, _, hb⟩ := List.mem_map.1 (List.mem_of_getElem? hg)
        rw [← hb]; rfl
  exact ⟨_, _, hr, _, le, hRn, ⟨_, ext_at _ _ _, ⟨by simp, by show l + 0 ≤ grownCap w l 0 E; omega⟩, rfl⟩⟩
theorem s_mkf {g : Nat} {l : OL} {xs : List Value} (hR : RH P Fr ρ h w) (hx : RLs ρ (evl e l) xs) (hh : evMkf e h n g l = .ok v h' n') : Pst P Fr ρ v h' (.func (.func g) #[] xs.toArray) w := by
  obtain ⟨rfl, rfl, _⟩ := ok_inj hh
  exact hR.post ⟨xs, hx, rfl⟩

/-! ### Maps -/
def kindOk (s : Bool) (d : TypeDesc) : Prop := match s, d with | false, .int _ => True | true, .string => True | _, _ => False
theorem keyEq_ok {s : Bool} {d : TypeDesc} (hd : kindOk s d) {x y : V} {a b : Value} {k : Bool → OR} (hx : RV ρ x a) (hy : RV ρ y b) (hh0 : keyEq s x y k = .ok v h' n') :
    ∃ r, k r = .ok v h' n' ∧ Instr.sameNow d a b = some r ∧ (r = true → Instr.sameBits 10000 b a = true) := by
  cases s with
  | false =>
    obtain ⟨t, i, rfl, hh1⟩ := okI (show x.onI .no _ = .ok v h' n' from hh0)
    obtain ⟨t', i', rfl, hh2⟩ := okI hh1
    obtain ⟨ht, hh⟩ := iffO_ok hh2
    obtain rfl : a = .int t i := hx
    obtain rfl : b = .int t' i' := hy
    have := kn_inj ht
    subst this
    cases d <;> first | exact hd.elim | skip
    refine ⟨_, hh, ?_, fun hr => ?_⟩
    · show (if t = t then some (i == i') else none) = _
      rw [if_pos rfl, eqI_dec]; rfl
    · rw [eqI_dec] at hr
      have := of_decide_eq_true hr
      subst this
      show (t == t && i == i) = true
      simp
  | true =>
    obtain ⟨t, i, rfl, hh1⟩ := okS (show x.onS .no _ = .ok v h' n' from hh0)
    obtain ⟨t', i', rfl, hh⟩ := okS hh1
    obtain rfl : a = .string (strOf t i) := hx
    obtain rfl : b = .string (strOf t' i') := hy
    cases d <;> first | exact hd.elim | skip
    refine ⟨_, hh, ?_, fun hr => ?_⟩
    · show some (strOf t i == strOf t' i') = _
      rw [beqBA, eqS_dec]
    · rw [eqS_dec] at hr
      have := of_decide_eq_true hr
      show (strOf t' i' == strOf t i) = true
      rw [beqBA, this]; simp
theorem findV_ok {s : Bool} {d : TypeDesc} (hd : kindOk s d) {x : V} {a : Value} (hx : RV ρ x a) {k0 : OR} {k1 : OK} : ∀ {l : ML} {es : List MapEntry} {i : Nat}, RM ρ l es → findV s x l k0 k1 = .ok v h' n' →
    (k0 = .ok v h' n' ∧ Instr.findNow d a es i = some none) ∨ ∃ u j y, k1 u = .ok v h' n' ∧ RV ρ u y ∧ Instr.findNow d a es i = some (some (j, y)) := by
  intro l
  induction l with
  | nil => intro es i hm hh; obtain rfl : es = [] := hm; exact .inl ⟨hh, rfl⟩
  | cons k u b r ih =>
    intro es i hm hh
    obtain ⟨en, es', rfl, h1, h2, _, h4⟩ := hm
    obtain ⟨rr, hh, hs, _⟩ := keyEq_ok hd hx h1 (show keyEq s x k (fun b => iffO b (k1 u) (findV s x r k0 k1)) = .ok v h' n' from hh)
    cases rr with
    | true => exact .inr ⟨u, i, en.val, hh, h2, by unfold Instr.findNow; rw [hs]⟩
    | false =>
      rcases ih (i := i + 1) h4 hh with ⟨g1, g2⟩ | ⟨u', j, y, g1, g2, g3⟩
      · exact .inl ⟨g1, by unfold Instr.findNow; rw [hs]; exact g2⟩
      · exact .inr ⟨u', j, y, g1, g2, by unfold Instr.findNow; rw [hs]; exact g3⟩
theorem setV_ok {s : Bool} {d : TypeDesc} (hd : kindOk s d) {x z : V} {a y : Value} (hx : RV ρ x a) (hz : RV ρ z y) {c : Nat} : ∀ {l : ML} {es : List MapEntry} {i : Nat} {k1 : Nat → ML → OR}, RM ρ l es → setV s x z c l k1 = .ok v h' n' →
    ∃ c' l', k1 c' l' = .ok v h' n' ∧ ((Instr.findNow d a es i = some none ∧ c' = c + 1 ∧ RM ρ l' (es ++ [⟨a, y, c⟩])) ∨
      ∃ j en, Instr.findNow d a es i = some (some (i + j, en.val)) ∧ es[j]? = some en ∧ Instr.sameBits 10000 en.key a = true ∧ c' = c ∧ RM ρ l' (es.modify j fun e => { e with key := a, val := y })) := by
  intro l
  induction l with
  | nil => intro es i k1 hm hh; obtain rfl : es = [] := hm; exact ⟨c + 1, _, hh, .inl ⟨rfl, rfl, ⟨a, y, c⟩, [], rfl, hx, hz, rfl, rfl⟩⟩
  | cons k u b r ih =>
    intro es i k1 hm hh
    obtain ⟨en, es', rfl, h1, h2, h3, h4⟩ := hm
    obtain ⟨rr, hh, hs, hb⟩ := keyEq_ok hd hx h1 (show keyEq s x k (fun t => iffO t (k1 c (.cons x z b r)) (setV s x z c r fun c l => k1 c (.cons k u b l))) = .ok v h' n' from hh)
    cases rr with
    | true =>
      refine ⟨c, _, hh, .inr ⟨0, en, by unfold Instr.findNow; rw [hs]; rfl, rfl, hb rfl, rfl, ?_⟩⟩
      exact ⟨{ en with key := a, val := y }, es', rfl, hx, hz, h3, h4⟩
    | false =>
      obtain ⟨c', l', g1, g2⟩ := ih (i := i + 1) h4 hh
      refine ⟨c', _, g1, ?_⟩
      rcases g2 with ⟨g2, g3, g4⟩ | ⟨j, en', g2, g3, g4, g5, g6⟩
      · exact .inl ⟨by unfold Instr.findNow; rw [hs]; exact g2, g3, ⟨en, _, rfl, h1, h2, h3, g4⟩⟩
      · refine .inr ⟨j + 1, en', by unfold Instr.findNow; rw [hs]; rw [show i + (j + 1) = i + 1 + j from by omega]; exact g2, by simpa using g3, g4, g5, ⟨en, _, ?_, h1, h2, h3, g6⟩⟩
        simp
theorem delV_ok {s : Bool} {d : TypeDesc} (hd : kindOk s d) {x : V} {a : Value} (hx : RV ρ x a) : ∀ {l : ML} {es : List MapEntry} {i : Nat} {k1 : ML → OR}, RM ρ l es → delV s x l k1 = .ok v h' n' →
    ∃ l', k1 l' = .ok v h' n' ∧ ((Instr.findNow d a es i = some none ∧ RM ρ l' es) ∨ ∃ j y, Instr.findNow d a es i = some (some (i + j, y)) ∧ RM ρ l' (es.eraseIdx j)) := by
  intro l
  induction l with
  | nil => intro es i k1 hm hh; obtain rfl : es = [] := hm; exact ⟨_, hh, .inl ⟨rfl, rfl⟩⟩
  | cons k u b r ih =>
    intro es i k1 hm hh
    obtain ⟨en, es', rfl, h1, h2, h3, h4⟩ := hm
    obtain ⟨rr, hh, hs, hb⟩ := keyEq_ok hd hx h1 (show keyEq s x k (fun t => iffO t (k1 r) (delV s x r fun l => k1 (.cons k u b l))) = .ok v h' n' from hh)
    cases rr with
    | true => exact ⟨_, hh, .inr ⟨0, en.val, by unfold Instr.findNow; rw [hs]; rfl, h4⟩⟩
    | false =>
      obtain ⟨l', g1, g2⟩ := ih (i := i + 1) h4 hh
      refine ⟨_, g1, ?_⟩
      rcases g2 with ⟨g2, g4⟩ | ⟨j, y, g2, g6⟩
      · exact .inl ⟨by unfold Instr.findNow; rw [hs]; exact g2, ⟨en, _, rfl, h1, h2, h3, g4⟩⟩
      · exact .inr ⟨j + 1, y, by unfold Instr.findNow; rw [hs]; rw [show i + (j + 1) = i + 1 + j from by omega]; exact g2, ⟨en, _, by simp, h1, h2, h3, g6⟩⟩
theorem pr_check {s : Bool} {d : TypeDesc} (hd : kindOk s d) {kt : TypeId} (hk : P.underlying kt = some d) {em : Bool} {x : Value} : pr P (Instr.checkKey em 10000 kt x) = some () := by
  unfold Instr.checkKey
  rw [pr_bind, pr_underlying hk]
  simp only [Option.bind_some]
  cases s <;> cases d <;> first | exact hd.elim | rfl
theorem pr_find {d : TypeDesc} {kt : TypeId} (hk : P.underlying kt = some d) {a : Value} {es : List MapEntry} {r : Option (Nat × Value)} (hf : Instr.findNow d a es 0 = some r) : pr P (Instr.findKey kt a es) = some r := by
  unfold Instr.findKey
  rw [pr_bind, pr_underlying hk]
  simp only [Option.bind_some, hf]
  rfl
theorem live_m {c : Nat} {l : ML} {b : Nat} (hb : getH h b = .m c l) : live (getH h b) := by rw [hb]; trivial
theorem RH.map0 {b c : Nat} {l : ML} (hR : RH P Fr ρ h w) (hb : getH h b = .m c l) : ∃ q o, ρ b = some q ∧ w.heap[q.k]? = some o ∧ MapO ρ c l o := by
  obtain ⟨q, o, h1, h2, h3⟩ := hR.lv b (live_m hb)
  rw [hb] at h3
  exact ⟨q, o, h1, h2, h3⟩
theorem RH.map {b c : Nat} {l : ML} (hR : RH P Fr ρ h w) (hb : getH h b = .m c l) (hc : c < 4294967296) : ∃ q es, ρ b = some q ∧ w.heap[q.k]? = some (.map (List.toArray es) c) ∧ RM ρ l es := by
  obtain ⟨q, o, h1, h2, h3⟩ := hR.map0 hb
  rcases h3 with ⟨_, es, rfl, h4⟩ | ⟨h4, _⟩
  · exact ⟨q, es, h1, h2, h4⟩
  · omega
theorem len_m : ∀ {l : ML} {es : List MapEntry}, RM ρ l es → lenM l = es.length := by
  intro l
  induction l with
  | nil => intro es hm; obtain rfl : es = [] := hm; rfl
  | cons k u b r ih => intro es ⟨en, es', h1, _, _, _, h4⟩; rw [h1]; show Nat.succ (lenM r) = _; rw [ih h4]; rfl
theorem len_s : ∀ {l : ML} {sl : List (ByteArray × Int)}, RMs l sl → lenM l = sl.length := by
  intro l
  induction l with
  | nil => intro es hm; obtain rfl : es = [] := hm; rfl
  | cons k u b r ih => intro es ⟨_, _, _, es', _, _, h1, h4⟩; rw [h1]; show Nat.succ (lenM r) = _; rw [ih h4]; rfl
/-- What the evaluator finds under a text, where the order is not known. -/
theorem findS_ok {s : Bool} {x : V} {k0 : OR} {k1 : OK} : ∀ {l : ML} {sl : List (ByteArray × Int)}, RMs l sl → findV s x l k0 k1 = .ok v h' n' →
    (k0 = .ok v h' n' ∧ ∀ p ∈ sl, ∃ n m, x = .s n m ∧ p.1 ≠ strOf n m) ∨ ∃ n m p, x = .s n m ∧ p ∈ sl ∧ p.1 = strOf n m ∧ k1 (.i .i64 p.2) = .ok v h' n' := by
  intro l
  induction l with
  | nil => intro sl hm hh; obtain rfl : sl = [] := hm; exact .inl ⟨hh, fun p hp => (by cases hp)⟩
  | cons k u b r ih =>
    intro sl hm hh
    obtain ⟨n1, m1, x1, sl', rfl, rfl, rfl, h4⟩ := hm
    cases s with
    | false =>
      obtain ⟨t, i, rfl, hh1⟩ := okI (show x.onI .no _ = .ok v h' n' from hh)
      cases hh1
    | true =>
      have hh0 : keyEq true x (.s n1 m1) (fun b => iffO b (k1 (.i .i64 x1)) (findV true x r k0 k1)) = .ok v h' n' := hh
      obtain ⟨n2, m2, rfl, hh1⟩ := okS (show x.onS .no _ = .ok v h' n' from hh0)
      obtain ⟨rr, hh2, hs, _⟩ := keyEq_ok (ρ := fun _ => none) (s := true) (d := .string) trivial (show RV (fun _ => none) (.s n2 m2) (.string (strOf n2 m2)) from rfl) (show RV (fun _ => none) (.s n1 m1) (.string (strOf n1 m1)) from rfl) hh0
      obtain ⟨r', hr', hiff⟩ := MapKept.sameNow_of_keys (d := .string) (a := .string (strOf n2 m2)) (b := .string (strOf n1 m1)) (by simp [MapKept.IsKey]) (by simp [MapKept.IsKey])
      rw [hs] at hr'; obtain rfl := Option.some.inj hr'
      cases rr with
      | true =>
        have := hiff.1 rfl
        injection this with this
        exact .inr ⟨n2, m2, _, rfl, List.mem_cons_self, this.symm, hh2⟩
      | false =>
        have hne : strOf n1 m1 ≠ strOf n2 m2 := fun e => by have := hiff.2 (by rw [e]); cases this
        rcases ih h4 hh2 with ⟨g1, g2⟩ | ⟨n, m, p, g1, g2, g3, g4⟩
        · refine .inl ⟨g1, fun p hp => ?_⟩
          rcases List.mem_cons.1 hp with rfl | hp
          · exact ⟨n2, m2, rfl, hne⟩
          · exact g2 p hp
        · exact .inr ⟨n, m, p, g1, List.mem_cons_of_mem _ g2, g3, g4⟩
theorem run_get {r : Nat} {o : Obj} (hw : w.heap[r]? = some o) (ho : ∀ c t f, o ≠ .cells c t f) : (getObj r).run P w = .ok o w := by
  show (Sem.getObj r .pure).run P w = _
  unfold Sem.run
  rw [hw]
  cases o <;> first | rfl | exact absurd rfl (ho _ _ _)
def setO (w : World) (r : Nat) (o : Obj) : World := { w with heap := w.heap.setIfInBounds r o }
theorem run_set {r : Nat} {o o' : Obj} (hw : w.heap[r]? = some o) (ho : ∀ c t f, o ≠ .cells c t f) : (setObj r o').run P w = .ok () (setO w r o') := by
  show (Sem.setObj r o' (.pure ())).run P w = _
  unfold Sem.run
  rw [hw]
  cases o <;> first | rfl | exact absurd rfl (ho _ _ _)
theorem setO_at {r : Nat} {o o' : Obj} (hw : w.heap[r]? = some o) : (setO w r o').heap[r]? = some o' := by
  have := (Array.getElem?_eq_some_iff.1 hw).1
  unfold setO
  rw [Array.getElem?_setIfInBounds_self_of_lt this]
theorem setO_ne {r k : Nat} {o' o : Obj} (hk : k ≠ r) (hw : w.heap[k]? = some o) : (setO w r o').heap[k]? = some o := by
  unfold setO
  rw [Array.getElem?_setIfInBounds_ne (Ne.symm hk)]; exact hw
theorem RH.setM {b : Nat} {q : Pl} {hb : HB} {o o' : Obj} (hR : RH P Fr ρ h w) (hl : live (getH h b)) (hq : ρ b = some q) (ho : w.heap[q.k]? = some o) (hB : Body P ρ hb q o') (hz : hb ≠ .z := by exact fun hh => by cases hh) :
    RH P Fr ρ (putH h hb b) (setO w q.k o') := hR.turn hl hq (setO_at ho) hB (fun r x hr hx => setO_ne hr hx) hz ⟨rfl, rfl, rfl⟩
theorem zeroV_ok {T : TypeId} {z : V} (hz : zeroV P T = some z) : ∃ y, pr P (zeroValue T) = some y ∧ RV ρ z y := by
  have key : ∀ {zv : Value}, zeroFact P T = some (some zv) → pr P (zeroValue T) = some zv := fun {zv} hzf => by
    unfold zeroFact at hzf
    cases hi : P.info? T with
    | none => rw [hi] at hzf; cases hzf
    | some inf =>
      rw [hi] at hzf
      simp only [Option.map_some, Option.some.injEq] at hzf
      unfold zeroValue; rw [pr_bind, pr_typeInfo hi]; simp only [Option.bind_some, hzf]; rfl
  unfold zeroV at hz
  split at hz
  · rename_i c hf
    simp only [Option.map_eq_some_iff] at hz
    obtain ⟨l, h1, rfl⟩ := hz
    exact ⟨_, key hf, c.toList, ofCells_spec h1, ofCells_one h1, by simp⟩
  · rename_i zv _ hf
    exact ⟨_, key hf, ofVal_spec hz⟩
  · cases hz
end
end Go.Fw
