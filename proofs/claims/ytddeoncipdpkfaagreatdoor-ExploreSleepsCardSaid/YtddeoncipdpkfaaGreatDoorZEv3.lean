/-
  The evaluator: numbers, texts, slots. Own work; nothing here is trusted.
-/
import Derived.Test.YtddeoncipdpkfaaGreatDoorZEv2
import Derived.Test.YtddeoncipdpkfaaGreatDoorZFw27
set_option linter.all false
namespace Go.Fw

theorem wrapN_eq (k : IntKind) (n : Nat) : wrapN k n = k.wrap n := by
  unfold wrapN
  cases h : Nat.ble n (maxN k) with
  | false => rfl
  | true =>
    have h := Nat.le_of_ble_eq_true h
    show (n : Int) = k.wrap n
    cases k <;> simp only [maxN] at h <;> simp [IntKind.wrap, IntKind.bits, IntKind.signed] <;> omega
theorem addI_eq (k : IntKind) (a b : Int) : addI k a b = k.wrap (a + b) := by
  cases a with
  | ofNat x => cases b with
    | ofNat y => exact wrapN_eq k (x + y)
    | negSucc y =>
      show Bool.rec (motive := fun _ => Int) _ (wrapN k (x - (y + 1))) (Nat.ble (Nat.succ y) x) = _
      cases h : Nat.ble (Nat.succ y) x with
      | false => rfl
      | true =>
        have h := Nat.le_of_ble_eq_true h
        show wrapN k (x - (y + 1)) = _
        rw [wrapN_eq]
        congr 1
        show ((x - (y + 1) : Nat) : Int) = (x : Int) + Int.negSucc y
        omega
  | negSucc x => rfl
theorem subI_eq (k : IntKind) (a b : Int) : subI k a b = k.wrap (a - b) := by
  cases a with
  | ofNat x => cases b with
    | ofNat y =>
      show Bool.rec (motive := fun _ => Int) _ (wrapN k (x - y)) (Nat.ble y x) = _
      cases h : Nat.ble y x with
      | false => rfl
      | true =>
        have h := Nat.le_of_ble_eq_true h
        show wrapN k (x - y) = _
        rw [wrapN_eq]
        congr 1
        show ((x - y : Nat) : Int) = (x : Int) - (y : Int)
        omega
    | negSucc y => rfl
  | negSucc x => rfl

/-! ### Texts -/
theorem byteAt_val (n i : Nat) : (byteAt n i).toNat = n / 2 ^ (8 * i) % 256 := by
  show (UInt8.ofNat ((n >>> (8 * i)) % 256)).toNat = _
  rw [Nat.shiftRight_eq_div_pow]
  simp [UInt8.toNat_ofNat']
theorem strOf_bytes (n l : Nat) : bts (strOf n l) = (List.range l).map fun i => byteAt n i := by simp [bts, strOf]
theorem strOf_size (n l : Nat) : (strOf n l).size = l := by rw [← bts_len, strOf_bytes]; simp
theorem strOf_get {n l j : Nat} (h : j < l) : (bts (strOf n l))[j]? = some (byteAt n j) := by rw [strOf_bytes]; simp [h]
theorem str_ext {a b : ByteArray} (h : bts a = bts b) : a = b := by
  obtain ⟨a⟩ := a
  obtain ⟨b⟩ := b
  simp only [ByteArray.mk.injEq]
  exact Array.toList_inj.1 h
theorem byteAt_natOf : ∀ (l : List UInt8) (j : Nat) (b : UInt8), l[j]? = some b → byteAt (natOf l) j = b := by
  intro l
  induction l with
  | nil => intro j b h; simp at h
  | cons x r ih =>
    intro j b h
    have hx := x.toNat_lt
    cases j with
    | zero =>
      have : x = b := by simpa using h
      subst this
      apply UInt8.toNat.inj
      rw [byteAt_val]
      show (x.toNat + 256 * natOf r) / 2 ^ (8 * 0) % 256 = x.toNat
      simp only [Nat.mul_zero, Nat.pow_zero, Nat.div_one]
      omega
    | succ j =>
      rw [← ih j b (by simpa using h)]
      apply UInt8.toNat.inj
      rw [byteAt_val, byteAt_val]
      show (x.toNat + 256 * natOf r) / 2 ^ (8 * (j + 1)) % 256 = _
      have e : 2 ^ (8 * (j + 1)) = 256 * 2 ^ (8 * j) := by rw [show 8 * (j + 1) = 8 + 8 * j from by omega, Nat.pow_add]
      rw [e, ← Nat.div_div_eq_div_mul]
      congr 2
      omega
theorem strOf_natOf (s : ByteArray) : strOf (natOf s.data.toList) s.data.toList.length = s := by
  apply str_ext
  apply List.ext_getElem?
  intro j
  by_cases h : j < s.data.toList.length
  · rw [strOf_get h]
    have hs : s.data.toList[j]? = some s.data.toList[j] := List.getElem?_eq_getElem h
    rw [byteAt_natOf _ j _ hs]
    exact hs.symm
  · rw [List.getElem?_eq_none (by rw [bts_len, strOf_size]; omega), List.getElem?_eq_none (by show s.data.toList.length ≤ j; omega)]
theorem byteAt_mod {n l j : Nat} (h : j < l) : byteAt (n % 2 ^ (8 * l)) j = byteAt n j := by
  apply UInt8.toNat.inj
  rw [byteAt_val, byteAt_val]
  apply Nat.eq_of_testBit_eq
  intro i
  rw [show (256 : Nat) = 2 ^ 8 from rfl]
  simp only [Nat.testBit_mod_two_pow, Nat.testBit_div_two_pow]
  by_cases hi : i < 8
  · simp only [hi, decide_true, Bool.true_and]
    rw [decide_eq_true (show i + 8 * j < 8 * l by omega), Bool.true_and]
  · simp [hi]
theorem strOf_mod (n l : Nat) : strOf (n % 2 ^ (8 * l)) l = strOf n l := by
  apply str_ext
  rw [strOf_bytes, strOf_bytes]
  exact List.map_congr_left fun i hi => byteAt_mod (List.mem_range.1 hi)
theorem natOf_lt : ∀ l : List UInt8, natOf l < 2 ^ (8 * l.length) := by
  intro l
  induction l with
  | nil => exact Nat.one_pos
  | cons x r ih =>
    have hx := x.toNat_lt
    show x.toNat + 256 * natOf r < _
    rw [List.length_cons, show 8 * (r.length + 1) = 8 + 8 * r.length from by omega, Nat.pow_add]
    have : 256 * natOf r + 256 ≤ 256 * 2 ^ (8 * r.length) := by rw [← Nat.mul_succ]; exact Nat.mul_le_mul_left _ ih
    omega
theorem mod_of_bytes {n l : Nat} : n % 2 ^ (8 * l) = natOf (bts (strOf n l)) := by
  induction l generalizing n with
  | zero => simp [strOf_bytes, natOf, Nat.mod_one]
  | succ l ih =>
    have e : bts (strOf n (l + 1)) = byteAt n 0 :: bts (strOf (n / 256) l) := by
      rw [strOf_bytes, strOf_bytes, List.range_succ_eq_map, List.map_cons, List.map_map]
      congr 1
      refine List.map_congr_left fun i _ => ?_
      apply UInt8.toNat.inj
      show (byteAt n (i + 1)).toNat = _
      rw [byteAt_val, byteAt_val, Nat.div_div_eq_div_mul, show 8 * (i + 1) = 8 + 8 * i from by omega, Nat.pow_add]
    rw [e]
    show _ = (byteAt n 0).toNat + 256 * natOf (bts (strOf (n / 256) l))
    rw [← ih, byteAt_val, show 8 * (l + 1) = 8 + 8 * l from by omega, Nat.pow_add, Nat.mod_mul]
    simp
theorem eqS_dec (n l n' l' : Nat) : eqS n l n' l' = decide (strOf n l = strOf n' l') := by
  unfold eqS
  show Bool.rec (motive := fun _ => Bool) false (Nat.beq (n % 2 ^ (8 * l)) (n' % 2 ^ (8 * l))) (Nat.beq l l') = _
  rw [beq_dec l l']
  by_cases hl : l = l'
  · subst hl
    rw [decide_eq_true rfl]
    show Nat.beq _ _ = _
    rw [beq_dec]
    refine decide_eq_decide.2 ⟨fun h => ?_, fun h => ?_⟩
    · rw [← strOf_mod n l, ← strOf_mod n' l, h]
    · rw [mod_of_bytes, mod_of_bytes, h]
  · rw [decide_eq_false hl]
    show false = _
    rw [decide_eq_false]
    intro h
    have := congrArg ByteArray.size h
    rw [strOf_size, strOf_size] at this
    exact hl this
theorem strOf_cut {n l j k : Nat} (h1 : j ≤ k) (h2 : k ≤ l) : strOf (n >>> (8 * j)) (k - j) = (strOf n l).extract j k := by
  apply str_ext
  have e : bts ((strOf n l).extract j k) = ((bts (strOf n l)).drop j).take (k - j) := by
    show ((strOf n l).extract j k).data.toList = _
    rw [ByteArray.data_extract, Array.toList_extract]
    rfl
  rw [e]
  apply List.ext_getElem?
  intro i
  by_cases hi : i < k - j
  · rw [strOf_get hi, List.getElem?_take_of_lt hi, List.getElem?_drop, strOf_get (by omega)]
    congr 1
    apply UInt8.toNat.inj
    rw [byteAt_val, byteAt_val, Nat.shiftRight_eq_div_pow, Nat.div_div_eq_div_mul, ← Nat.pow_add, Nat.mul_add]
  · rw [List.getElem?_eq_none (by rw [bts_len, strOf_size]; omega), List.getElem?_eq_none (by rw [List.length_take]; omega)]
theorem strOf_cat (n l n' l' : Nat) : strOf (n % 2 ^ (8 * l) + n' <<< (8 * l)) (l + l') = strOf n l ++ strOf n' l' := by
  apply str_ext
  have e : bts (strOf n l ++ strOf n' l') = bts (strOf n l) ++ bts (strOf n' l') := by
    show (strOf n l ++ strOf n' l').data.toList = _
    rw [ByteArray.data_append, Array.toList_append]; rfl
  rw [e]
  have hm : n % 2 ^ (8 * l) < 2 ^ (8 * l) := Nat.mod_lt _ (Nat.two_pow_pos _)
  apply List.ext_getElem?
  intro i
  by_cases h1 : i < l
  · rw [strOf_get (by omega), List.getElem?_append_left (by rw [bts_len, strOf_size]; exact h1), strOf_get h1]
    congr 1
    rw [← byteAt_mod (n := n % 2 ^ (8 * l) + n' <<< (8 * l)) h1, Nat.shiftLeft_eq, Nat.add_mul_mod_self_right, Nat.mod_mod, byteAt_mod h1]
  · rw [List.getElem?_append_right (by rw [bts_len, strOf_size]; omega), bts_len, strOf_size]
    by_cases h2 : i < l + l'
    · rw [strOf_get h2, strOf_get (by omega)]
      congr 1
      apply UInt8.toNat.inj
      rw [byteAt_val, byteAt_val]
      have e2 : 2 ^ (8 * i) = 2 ^ (8 * l) * 2 ^ (8 * (i - l)) := by rw [← Nat.pow_add]; congr 1; omega
      rw [e2, ← Nat.div_div_eq_div_mul, Nat.shiftLeft_eq, Nat.add_mul_div_right _ _ (Nat.two_pow_pos _), Nat.div_eq_of_lt hm, Nat.zero_add]
    · rw [List.getElem?_eq_none (by rw [bts_len, strOf_size]; omega), List.getElem?_eq_none (by rw [bts_len, strOf_size]; omega)]

/-! ### Values of the model, in ours and back -/
theorem ofVal_spec {ρ : Rn} {x : Value} {v : V} (h : ofVal x = some v) : RV ρ v x := by
  unfold ofVal at h
  split at h <;> first | cases h | skip
  all_goals first | exact (show _ = _ from rfl) | skip
  · rename_i s; show _ = _; rw [strOf_natOf]
theorem ofCells_spec {ρ : Rn} : ∀ {xs : List Value} {l : V}, ofCells xs = some l → RLs ρ l xs := by
  intro xs
  induction xs with
  | nil => intro l h; cases h; exact (show RLs ρ .e [] from rfl)
  | cons x r ih =>
    intro l h
    unfold ofCells at h
    split at h
    · rename_i v l' h1 h2; cases h; exact ⟨x, r, rfl, ofVal_spec h1, ih h2⟩
    · cases h
theorem ofVal_one {x : Value} {v : V} (h : ofVal x = some v) : oneC x = true := by
  unfold ofVal at h
  split at h <;> first | (cases h; rfl) | cases h
theorem ofCells_one : ∀ {xs : List Value} {l : V}, ofCells xs = some l → ∀ z ∈ xs, oneC z = true := by
  intro xs
  induction xs with
  | nil => intro l _ z hz; simp at hz
  | cons x r ih =>
    intro l h z hz
    unfold ofCells at h
    split at h
    · rename_i v l' h1 h2
      rcases List.mem_cons.1 hz with rfl | hz
      · exact ofVal_one h1
      · exact ih h2 z hz
    · cases h
theorem toVP_spec {ρ : Rn} : ∀ v : V, (∀ x y, (toVP v).1 = some x → RV ρ v y → y = x) ∧ ∀ xs ys, (toVP v).2 = some xs → RLs ρ v ys → ys = xs := by
  intro v
  induction v with
  | a c ih =>
    refine ⟨fun x y h h' => ?_, fun xs ys h => (by cases h)⟩
    obtain ⟨ys, h1, _, rfl⟩ := h'
    simp only [toVP, Option.map_eq_some_iff] at h
    obtain ⟨l, h2, rfl⟩ := h
    rw [ih.2 _ _ h2 h1]
  | c x r ih1 ih2 =>
    refine ⟨fun x y h => (by cases h), fun xs ys h h' => ?_⟩
    obtain ⟨z, zs, rfl, h2, h3⟩ := h'
    simp only [toVP] at h
    split at h
    · rename_i x' l h4 h5; cases h; rw [ih1.1 _ _ h4 h2, ih2.2 _ _ h5 h3]
    · cases h
  | e => exact ⟨fun x y h => (by cases h), fun xs ys h h' => (by cases h; exact h')⟩
  | b x => exact ⟨fun x y h h' => (by cases h; exact h'), fun xs ys h => (by cases h)⟩
  | i k n => exact ⟨fun x y h h' => (by cases h; exact h'), fun xs ys h => (by cases h)⟩
  | s k n => exact ⟨fun x y h h' => (by cases h; exact h'), fun xs ys h => (by cases h)⟩
  | np => exact ⟨fun x y h h' => (by cases h; exact h'), fun xs ys h => (by cases h)⟩
  | ns => exact ⟨fun x y h h' => (by cases h; exact h'), fun xs ys h => (by cases h)⟩
  | nm => exact ⟨fun x y h h' => (by cases h; exact h'), fun xs ys h => (by cases h)⟩
  | nf => exact ⟨fun x y h h' => (by cases h; exact h'), fun xs ys h => (by cases h)⟩
  | _ => exact ⟨fun x y h => (by cases h), fun xs ys h => (by cases h)⟩

/-! ### Slots -/
theorem S8.of_inj {a b : Nat} (ha : a < 8) (hb : b < 8) (h : S8.of a = S8.of b) : a = b := by
  have : ∀ a : Fin 8, ∀ b : Fin 8, S8.of a.1 = S8.of b.1 → a = b := by
    intro a b h
    match a, b with
    | ⟨0, _⟩, ⟨0, _⟩ | ⟨1, _⟩, ⟨1, _⟩ | ⟨2, _⟩, ⟨2, _⟩ | ⟨3, _⟩, ⟨3, _⟩ | ⟨4, _⟩, ⟨4, _⟩ | ⟨5, _⟩, ⟨5, _⟩ | ⟨6, _⟩, ⟨6, _⟩ | ⟨7, _⟩, ⟨7, _⟩ => rfl
    | ⟨0, _⟩, ⟨1, _⟩ | ⟨0, _⟩, ⟨2, _⟩ | ⟨0, _⟩, ⟨3, _⟩ | ⟨0, _⟩, ⟨4, _⟩ | ⟨0, _⟩, ⟨5, _⟩ | ⟨0, _⟩, ⟨6, _⟩ | ⟨0, _⟩, ⟨7, _⟩ => cases h
    | ⟨1, _⟩, ⟨0, _⟩ | ⟨1, _⟩, ⟨2, _⟩ | ⟨1, _⟩, ⟨3, _⟩ | ⟨1, _⟩, ⟨4, _⟩ | ⟨1, _⟩, ⟨5, _⟩ | ⟨1, _⟩, ⟨6, _⟩ | ⟨1, _⟩, ⟨7, _⟩ => cases h
    | ⟨2, _⟩, ⟨0, _⟩ | ⟨2, _⟩, ⟨1, _⟩ | ⟨2, _⟩, ⟨3, _⟩ | ⟨2, _⟩, ⟨4, _⟩ | ⟨2, _⟩, ⟨5, _⟩ | ⟨2, _⟩, ⟨6, _⟩ | ⟨2, _⟩, ⟨7, _⟩ => cases h
    | ⟨3, _⟩, ⟨0, _⟩ | ⟨3, _⟩, ⟨1, _⟩ | ⟨3, _⟩, ⟨2, _⟩ | ⟨3, _⟩, ⟨4, _⟩ | ⟨3, _⟩, ⟨5, _⟩ | ⟨3, _⟩, ⟨6, _⟩ | ⟨3, _⟩, ⟨7, _⟩ => cases h
    | ⟨4, _⟩, ⟨0, _⟩ | ⟨4, _⟩, ⟨1, _⟩ | ⟨4, _⟩, ⟨2, _⟩ | ⟨4, _⟩, ⟨3, _⟩ | ⟨4, _⟩, ⟨5, _⟩ | ⟨4, _⟩, ⟨6, _⟩ | ⟨4, _⟩, ⟨7, _⟩ => cases h
    | ⟨5, _⟩, ⟨0, _⟩ | ⟨5, _⟩, ⟨1, _⟩ | ⟨5, _⟩, ⟨2, _⟩ | ⟨5, _⟩, ⟨3, _⟩ | ⟨5, _⟩, ⟨4, _⟩ | ⟨5, _⟩, ⟨6, _⟩ | ⟨5, _⟩, ⟨7, _⟩ => cases h
    | ⟨6, _⟩, ⟨0, _⟩ | ⟨6, _⟩, ⟨1, _⟩ | ⟨6, _⟩, ⟨2, _⟩ | ⟨6, _⟩, ⟨3, _⟩ | ⟨6, _⟩, ⟨4, _⟩ | ⟨6, _⟩, ⟨5, _⟩ | ⟨6, _⟩, ⟨7, _⟩ => cases h
    | ⟨7, _⟩, ⟨0, _⟩ | ⟨7, _⟩, ⟨1, _⟩ | ⟨7, _⟩, ⟨2, _⟩ | ⟨7, _⟩, ⟨3, _⟩ | ⟨7, _⟩, ⟨4, _⟩ | ⟨7, _⟩, ⟨5, _⟩ | ⟨7, _⟩, ⟨6, _⟩ => cases h
  exact congrArg Fin.val (this ⟨a, ha⟩ ⟨b, hb⟩ h)
theorem slOf_inj {i j : Nat} {s : Sl} (hi : slOf i = some s) (hj : slOf j = some s) : i = j := by
  unfold slOf at hi hj
  cases h1 : Nat.blt i 512 with
  | false => rw [h1] at hi; cases hi
  | true => cases h2 : Nat.blt j 512 with
    | false => rw [h2] at hj; cases hj
    | true =>
      rw [h1] at hi
      rw [h2] at hj
      rw [blt_dec] at h1 h2
      have h1 := of_decide_eq_true h1
      have h2 := of_decide_eq_true h2
      have := Option.some.inj (hi.trans hj.symm)
      injection this with a b c
      have a := S8.of_inj (show i / 64 < 8 by omega) (show j / 64 < 8 by omega) a
      have b := S8.of_inj (show i / 8 % 8 < 8 by omega) (show j / 8 % 8 < 8 by omega) b
      have c := S8.of_inj (show i % 8 < 8 by omega) (show j % 8 < 8 by omega) c
      omega
theorem Sl.get_same (s : Sl) (x : V) (e : En) : s.get (s.put x e) = x := by
  cases s with
  | mk a b c => show g81 c (g82 b (g83 a (p83 a (p82 b (p81 c x (g82 b (g83 a e))) (g83 a e)) e))) = x; rw [g8_same3, g8_same2, g8_same1]
theorem Sl.get_ne (s s' : Sl) (x : V) (e : En) (h : s' ≠ s) : s'.get (s.put x e) = s'.get e := by
  cases s with
  | mk a b c => cases s' with
    | mk a' b' c' =>
      show g81 c' (g82 b' (g83 a' (p83 a (p82 b (p81 c x (g82 b (g83 a e))) (g83 a e)) e))) = g81 c' (g82 b' (g83 a' e))
      by_cases h1 : a' = a
      · subst h1
        rw [g8_same3]
        by_cases h2 : b' = b
        · subst h2
          rw [g8_same2]
          by_cases h3 : c' = c
          · subst h3; exact absurd rfl h
          · rw [g8_ne1 _ _ _ _ h3]
        · rw [g8_ne2 _ _ _ _ h2]
      · rw [g8_ne3 _ _ _ _ h1]
/-- A call's slots hold what they should. -/
def RE (ρ : Rn) (e : En) (e' : Env) : Prop := ∀ i s, slOf i = some s → RV ρ (s.get e) (e' i)
theorem RE.mono {ρ ρ' : Rn} {e : En} {e' : Env} (h : RE ρ e e') (k : Le ρ ρ') : RE ρ' e e' := fun i s hs => (h i s hs).mono k
theorem RE.upd {ρ : Rn} {e : En} {e' : Env} (h : RE ρ e e') {d : Nat} {s : Sl} (hd : slOf d = some s) {v : V} {x : Value} (hv : RV ρ v x) : RE ρ (s.put v e) (upd e' d x) := by
  intro i s' hs
  by_cases hi : i = d
  · subst hi
    have : s' = s := Option.some.inj (hs.symm.trans hd)
    subst this
    rw [Sl.get_same, upd_same]; exact hv
  · rw [Sl.get_ne _ _ _ _ fun hh => hi (slOf_inj hs (by rw [hh]; exact hd)), upd_ne _ _ hi]; exact h i s' hs
theorem und_spec (ρ : Rn) : RV ρ und undef := ⟨[], rfl, rfl⟩
theorem RE.pd {ρ : Rn} {e : En} {e' : Env} (h : RE ρ e e') {o : Oper} {d : Ds} (hd : pdst o = some d) {v : V} {x : Value} (hv : RV ρ v x) : RE ρ (pd d v e) (updO e' o.dst x) := by
  unfold pdst at hd
  cases ho : o.dst with
  | none => rw [ho] at hd; cases hd; exact h
  | some k =>
    rw [ho] at hd
    simp only [Option.map_eq_some_iff] at hd
    obtain ⟨s, hs, rfl⟩ := hd
    exact h.upd hs hv
theorem oq_spec {ρ : Rn} {e : En} {e' : Env} (h : RE ρ e e') {x : Operand} {q : Oq} (hq : oq x = some q) : RV ρ (evq e q) (ev e' x) := by
  cases x with
  | tmp t =>
    simp only [oq, Option.map_eq_some_iff] at hq
    obtain ⟨s, hs, rfl⟩ := hq
    exact h t s hs
  | const v =>
    simp only [oq, Option.map_eq_some_iff] at hq
    obtain ⟨s, hs, rfl⟩ := hq
    exact ofVal_spec hs
  | func f => cases hq; exact ⟨[], rfl, rfl⟩
  | global g => cases hq
theorem olq_spec {ρ : Rn} {e : En} {e' : Env} (h : RE ρ e e') : ∀ {xs : List Operand} {l : OL}, olq xs = some l → RLs ρ (evl e l) (xs.map (ev e')) := by
  intro xs
  induction xs with
  | nil => intro l hl; cases hl; exact (show RLs ρ .e [] from rfl)
  | cons x r ih =>
    intro l hl
    unfold olq at hl
    split at hl
    · rename_i q l' h1 h2; cases hl; exact ⟨_, _, rfl, oq_spec h h1, ih h2⟩
    · cases hl
end Go.Fw
