/-
  The evaluator: what its values and its memory have to do with the model's. Own work; nothing here is trusted.
-/
import Derived.Test.YtddeoncipdpkfaaGreatDoorZEv1
set_option linter.all false
namespace Go.Fw

/-- Where a block lies: the block k of the world, from its cell b on; c: the capacity of a slice over all of it, of elements of s cells. -/
structure Pl where
  k : Nat
  b : Nat
  c : Nat
  s : Nat
abbrev Rn := Nat → Option Pl
def Le (ρ ρ' : Rn) : Prop := ∀ b q, ρ b = some q → ρ' b = some q
theorem Le.refl (ρ : Rn) : Le ρ ρ := fun _ _ h => h
theorem Le.trans {a b c : Rn} (h : Le a b) (k : Le b c) : Le a c := fun _ _ x => k _ _ (h _ _ x)

/-- What a value of ours is: a value; a list of values. -/
def RP (ρ : Rn) : V → (Value → Prop) × (List Value → Prop)
  | .b x => (fun y => y = .bool x, fun _ => False)
  | .i k n => (fun y => y = .int k n, fun _ => False)
  | .s n l => (fun y => y = .string (strOf n l), fun _ => False)
  | .np => (fun y => y = .pointer none, fun _ => False)
  | .p b o => (fun y => ∃ q, ρ b = some q ∧ y = .pointer (some ⟨q.k, q.b + o, none⟩), fun _ => False)
  | .ns => (fun y => y = .slice none 0 0, fun _ => False)
  | .sl b o l d => (fun y => ∃ q, ρ b = some q ∧ (o = d * q.s ∧ l + d ≤ q.c) ∧ y = .slice (some ⟨q.k, q.b + o, none⟩) l (q.c - d), fun _ => False)
  | .sx b o l c => (fun y => ∃ q, ρ b = some q ∧ l ≤ c ∧ y = .slice (some ⟨q.k, q.b + o, none⟩) l c, fun _ => False)
  | .se => (fun y => ∃ a c, y = .slice (some a) 0 c, fun _ => False)
  | .nm => (fun y => y = .map none, fun _ => False)
  | .m r => (fun y => ∃ q, ρ r = some q ∧ y = .map (some q.k), fun _ => False)
  | .nf => (fun y => y = .nilFunc, fun _ => False)
  | .f g c => (fun y => ∃ ys, (RP ρ c).2 ys ∧ y = .func (.func g) #[] ys.toArray, fun _ => False)
  | .y l => (fun y => ∃ q, ρ l = some q ∧ y = .func (.yield q.k) #[] #[], fun _ => False)
  | .a c => (fun y => ∃ ys, (RP ρ c).2 ys ∧ (∀ z ∈ ys, oneC z = true) ∧ y = .agg ys.toArray, fun _ => False)
  | .t c => (fun y => ∃ ys, (RP ρ c).2 ys ∧ y = .tuple ys.toArray, fun _ => False)
  | .e => (fun _ => False, fun ys => ys = [])
  | .c h r => (fun _ => False, fun ys => ∃ z zs, ys = z :: zs ∧ (RP ρ h).1 z ∧ (RP ρ r).2 zs)
abbrev RV (ρ : Rn) (v : V) (y : Value) : Prop := (RP ρ v).1 y
abbrev RLs (ρ : Rn) (v : V) (ys : List Value) : Prop := (RP ρ v).2 ys

theorem RP.mono {ρ ρ' : Rn} (h : Le ρ ρ') : ∀ v, (∀ y, RV ρ v y → RV ρ' v y) ∧ ∀ ys, RLs ρ v ys → RLs ρ' v ys := by
  intro v
  induction v with
  | p b o => exact ⟨fun y ⟨q, h1, h2⟩ => ⟨q, h _ _ h1, h2⟩, fun _ h => h.elim⟩
  | sl b o l d => exact ⟨fun y ⟨q, h1, h2⟩ => ⟨q, h _ _ h1, h2⟩, fun _ h => h.elim⟩
  | sx b o l d => exact ⟨fun y ⟨q, h1, h2⟩ => ⟨q, h _ _ h1, h2⟩, fun _ h => h.elim⟩
  | m r => exact ⟨fun y ⟨q, h1, h2⟩ => ⟨q, h _ _ h1, h2⟩, fun _ h => h.elim⟩
  | y r => exact ⟨fun y ⟨q, h1, h2⟩ => ⟨q, h _ _ h1, h2⟩, fun _ h => h.elim⟩
  | f g c ih => exact ⟨fun y ⟨ys, h1, h2⟩ => ⟨ys, ih.2 _ h1, h2⟩, fun _ h => h.elim⟩
  | a c ih => exact ⟨fun y ⟨ys, h1, h2⟩ => ⟨ys, ih.2 _ h1, h2⟩, fun _ h => h.elim⟩
  | t c ih => exact ⟨fun y ⟨ys, h1, h2⟩ => ⟨ys, ih.2 _ h1, h2⟩, fun _ h => h.elim⟩
  | c x r ih1 ih2 => exact ⟨fun _ h => h.elim, fun ys ⟨z, zs, h1, h2, h3⟩ => ⟨z, zs, h1, ih1.1 _ h2, ih2.2 _ h3⟩⟩
  | _ => exact ⟨fun _ h => h, fun _ h => h⟩
theorem RV.mono {ρ ρ' : Rn} {v : V} {y : Value} (h : RV ρ v y) (k : Le ρ ρ') : RV ρ' v y := (RP.mono k v).1 y h
theorem RLs.mono {ρ ρ' : Rn} {v : V} {y : List Value} (h : RLs ρ v y) (k : Le ρ ρ') : RLs ρ' v y := (RP.mono k v).2 y h

theorem kn_inj {a b : IntKind} (h : Nat.beq (kn a) (kn b) = true) : a = b := by cases a <;> cases b <;> first | rfl | cases h
theorem eqB_eq {a b : Bool} : eqB a b = (a == b) := by cases a <;> cases b <;> rfl
theorem notB_eq {a : Bool} : notB a = !a := by cases a <;> rfl
theorem andB_eq {a b : Bool} : andB a b = (a && b) := by cases a <;> rfl
theorem beq_dec (x y : Nat) : Nat.beq x y = decide (x = y) := by
  cases h : Nat.beq x y
  · rw [decide_eq_false fun hh => by rw [hh, beq_self] at h; cases h]
  · rw [decide_eq_true (Nat.eq_of_beq_eq_true h)]
theorem blt_dec (x y : Nat) : Nat.blt x y = decide (x < y) := by
  cases h : Nat.blt x y
  · refine (decide_eq_false fun hh => ?_).symm
    have : Nat.blt x y = true := by rw [Nat.blt_eq]; exact hh
    rw [h] at this; cases this
  · refine (decide_eq_true ?_).symm
    rw [Nat.blt_eq] at h; exact h
theorem eqI_dec (a b : Int) : eqI a b = decide (a = b) := by
  cases a with
  | ofNat x => cases b with
    | ofNat y => show Nat.beq x y = _; rw [beq_dec]; exact decide_eq_decide.2 ⟨fun h => by rw [h], fun h => by cases h; rfl⟩
    | negSucc y => show false = _; rw [decide_eq_false (fun h => by cases h)]
  | negSucc x => cases b with
    | ofNat y => show false = _; rw [decide_eq_false (fun h => by cases h)]
    | negSucc y => show Nat.beq x y = _; rw [beq_dec]; exact decide_eq_decide.2 ⟨fun h => by rw [h], fun h => by cases h; rfl⟩
theorem ltI_dec (a b : Int) : ltI a b = decide (a < b) := by
  cases a with
  | ofNat x => cases b with
    | ofNat y => show Nat.blt x y = _; rw [blt_dec]; exact decide_eq_decide.2 ⟨fun h => by show (x : Int) < y; omega, fun h => by have : (x : Int) < y := h; omega⟩
    | negSucc y => show false = _; rw [decide_eq_false (fun h => by have : (x : Int) < Int.negSucc y := h; omega)]
  | negSucc x => cases b with
    | ofNat y => show true = _; rw [decide_eq_true (by show Int.negSucc x < (y : Int); omega)]
    | negSucc y => show Nat.blt y x = _; rw [blt_dec]; exact decide_eq_decide.2 ⟨fun h => by omega, fun h => by omega⟩

/-- The same, and it is told what it is. -/
theorem eqs_spec {s : Bool} : ∀ v v' : V, V.eqs s v v' = true → v = v' ∧ (s = false → ∀ ρ, (∀ y y', RV ρ v y → RV ρ v y' → y = y') ∧ ∀ ys ys', RLs ρ v ys → RLs ρ v ys' → ys = ys') := by
  intro v
  have and2 : ∀ {a b : Bool}, andB a b = true → a = true ∧ b = true := fun {a b} h => by cases a <;> cases b <;> first | exact ⟨rfl, rfl⟩ | cases h
  have nb : ∀ {a b : Nat}, Nat.beq a b = true → a = b := fun h => Nat.eq_of_beq_eq_true h
  have det : ∀ {ρ : Rn} {b : Nat} {q q' : Pl}, ρ b = some q → ρ b = some q' → q = q' := fun h h' => Option.some.inj (h.symm.trans h')
  induction v with
  | b x =>
    intro v' h; cases v' <;> first | cases h | skip
    rename_i y; have : x = y := by have h : eqB x y = true := h; rw [eqB_eq] at h; exact beq_iff_eq.1 h
    subst this; exact ⟨rfl, fun hs ρ => ⟨fun _ _ h h' => Eq.trans h (Eq.symm h'), fun _ _ h => h.elim⟩⟩
  | i k n =>
    intro v' h; cases v' <;> first | cases h | skip
    rename_i k' n'; obtain ⟨h1, h2⟩ := and2 h; have := kn_inj h1; subst this; rw [eqI_dec] at h2; have := of_decide_eq_true h2; subst this
    exact ⟨rfl, fun hs ρ => ⟨fun _ _ h h' => Eq.trans h (Eq.symm h'), fun _ _ h => h.elim⟩⟩
  | s n l =>
    intro v' h; cases v' <;> first | cases h | skip
    obtain ⟨h1, h2⟩ := and2 h; have := nb h1; subst this; have := nb h2; subst this
    exact ⟨rfl, fun hs ρ => ⟨fun _ _ h h' => Eq.trans h (Eq.symm h'), fun _ _ h => h.elim⟩⟩
  | p b o =>
    intro v' h; cases v' <;> first | cases h | skip
    obtain ⟨h1, h2⟩ := and2 h; have := nb h1; subst this; have := nb h2; subst this
    exact ⟨rfl, fun hs ρ => ⟨fun _ _ ⟨q, a, b⟩ ⟨q', a', b'⟩ => by rw [b, b', det a a'], fun _ _ h => h.elim⟩⟩
  | sl b o l d =>
    intro v' h; cases v' <;> first | cases h | skip
    obtain ⟨h1, h2⟩ := and2 h; obtain ⟨h2, h3⟩ := and2 h2; obtain ⟨h3, h4⟩ := and2 h3
    have := nb h1; subst this; have := nb h2; subst this; have := nb h3; subst this; have := nb h4; subst this
    exact ⟨rfl, fun hs ρ => ⟨fun _ _ ⟨q, a, _, b⟩ ⟨q', a', _, b'⟩ => by rw [b, b', det a a'], fun _ _ h => h.elim⟩⟩
  | sx b o l d =>
    intro v' h; cases v' <;> first | cases h | skip
    obtain ⟨h1, h2⟩ := and2 h; obtain ⟨h2, h3⟩ := and2 h2; obtain ⟨h3, h4⟩ := and2 h3
    have := nb h1; subst this; have := nb h2; subst this; have := nb h3; subst this; have := nb h4; subst this
    exact ⟨rfl, fun hs ρ => ⟨fun _ _ ⟨q, a, _, b⟩ ⟨q', a', _, b'⟩ => by rw [b, b', det a a'], fun _ _ h => h.elim⟩⟩
  | se => intro v' h; cases v' <;> first | (cases h; done) | exact ⟨rfl, fun hs => by subst hs; cases h⟩
  | m r =>
    intro v' h; cases v' <;> first | cases h | skip
    have := nb h; subst this
    exact ⟨rfl, fun hs ρ => ⟨fun _ _ ⟨q, a, b⟩ ⟨q', a', b'⟩ => by rw [b, b', det a a'], fun _ _ h => h.elim⟩⟩
  | y r =>
    intro v' h; cases v' <;> first | cases h | skip
    have := nb h; subst this
    exact ⟨rfl, fun hs ρ => ⟨fun _ _ ⟨q, a, b⟩ ⟨q', a', b'⟩ => by rw [b, b', det a a'], fun _ _ h => h.elim⟩⟩
  | f g c ih =>
    intro v' h; cases v' <;> first | cases h | skip
    obtain ⟨h1, h2⟩ := and2 h; have := nb h1; subst this; obtain ⟨e, hd⟩ := ih _ h2; subst e
    exact ⟨rfl, fun hs ρ => ⟨fun _ _ ⟨ys, a, b⟩ ⟨ys', a', b'⟩ => by rw [b, b', (hd hs ρ).2 _ _ a a'], fun _ _ h => h.elim⟩⟩
  | a c ih =>
    intro v' h; cases v' <;> first | cases h | skip
    obtain ⟨e, hd⟩ := ih _ h; subst e
    exact ⟨rfl, fun hs ρ => ⟨fun _ _ ⟨ys, a, _, b⟩ ⟨ys', a', _, b'⟩ => by rw [b, b', (hd hs ρ).2 _ _ a a'], fun _ _ h => h.elim⟩⟩
  | t c ih =>
    intro v' h; cases v' <;> first | cases h | skip
    obtain ⟨e, hd⟩ := ih _ h; subst e
    exact ⟨rfl, fun hs ρ => ⟨fun _ _ ⟨ys, a, b⟩ ⟨ys', a', b'⟩ => by rw [b, b', (hd hs ρ).2 _ _ a a'], fun _ _ h => h.elim⟩⟩
  | c x r ih1 ih2 =>
    intro v' h; cases v' <;> first | cases h | skip
    obtain ⟨h1, h2⟩ := and2 h; obtain ⟨e, hd⟩ := ih1 _ h1; subst e; obtain ⟨e, hd'⟩ := ih2 _ h2; subst e
    exact ⟨rfl, fun hs ρ => ⟨fun _ _ h => h.elim, fun _ _ ⟨z, zs, a, b, c⟩ ⟨z', zs', a', b', c'⟩ => by rw [a, a', (hd hs ρ).1 _ _ b b', (hd' hs ρ).2 _ _ c c']⟩⟩
  | e => intro v' h; cases v' <;> first | exact ⟨rfl, fun hs ρ => ⟨fun _ _ h => h.elim, fun _ _ h h' => Eq.trans h (Eq.symm h')⟩⟩ | cases h
  | _ => intro v' h; cases v' <;> first | exact ⟨rfl, fun hs ρ => ⟨fun _ _ h h' => Eq.trans h (Eq.symm h'), fun _ _ h => h.elim⟩⟩ | cases h

/-! ### Lists -/
section
variable {ρ : Rn}
theorem RLs.nil_inv {ys : List Value} (h : RLs ρ .e ys) : ys = [] := h
theorem RLs.len : ∀ {v : V} {ys : List Value}, RLs ρ v ys → lenV v = ys.length := by
  intro v
  induction v with
  | e => intro ys h; rw [RLs.nil_inv h]; rfl
  | c x r _ ih => intro ys ⟨z, zs, h1, _, h3⟩; rw [h1]; show Nat.succ (lenV r) = _; rw [ih h3]; rfl
  | _ => intro ys h; exact h.elim
theorem RLs.app : ∀ {l : V} {xs : List Value}, RLs ρ l xs → ∀ {r : V} {ys : List Value}, RLs ρ r ys → RLs ρ (appV l r) (xs ++ ys) := by
  intro l
  induction l with
  | e => intro xs h r ys h'; rw [RLs.nil_inv h]; exact h'
  | c x t _ ih => intro xs ⟨z, zs, h1, h2, h3⟩ r ys h'; rw [h1]; exact ⟨z, zs ++ ys, rfl, h2, ih h3 h'⟩
  | _ => intro xs h; exact h.elim
theorem onCV_c (h r : V) (d : V) (k : V → V → V) : (V.c h r).onCV d k = k h r := rfl
theorem RLs.drop : ∀ (n : Nat) {l : V} {xs : List Value}, RLs ρ l xs → RLs ρ (dropV l n) (xs.drop n) := by
  intro n
  induction n with
  | zero => intro l xs h; exact h
  | succ n ih =>
    intro l xs h
    cases l <;> first | exact h.elim | skip
    · rw [RLs.nil_inv h, List.drop_nil]; exact (show RLs ρ .e [] from rfl)
    · obtain ⟨z, zs, h1, _, h3⟩ := h; rw [h1]; exact ih h3
theorem RLs.take : ∀ (n : Nat) {l : V} {xs : List Value}, RLs ρ l xs → RLs ρ (takeV l n) (xs.take n) := by
  intro n
  induction n with
  | zero => intro l xs h; exact (show RLs ρ .e [] from rfl)
  | succ n ih =>
    intro l xs h
    cases l <;> first | exact h.elim | skip
    · rw [RLs.nil_inv h, List.take_nil]; exact (show RLs ρ .e [] from rfl)
    · obtain ⟨z, zs, h1, h2, h3⟩ := h; rw [h1]; exact ⟨z, zs.take n, rfl, h2, ih h3⟩
theorem nthL_spec {k : OK} : ∀ (n : Nat) {l : V} {xs : List Value}, RLs ρ l xs → nthL l n k = .no ∨ ∃ v x, nthL l n k = k v ∧ xs[n]? = some x ∧ RV ρ v x := by
  intro n
  induction n with
  | zero =>
    intro l xs h
    cases l <;> first | exact h.elim | exact .inl rfl | skip
    obtain ⟨z, zs, h1, h2, _⟩ := h
    exact .inr ⟨_, z, rfl, by rw [h1]; rfl, h2⟩
  | succ n ih =>
    intro l xs h
    cases l <;> first | exact h.elim | exact .inl rfl | skip
    obtain ⟨z, zs, h1, _, h3⟩ := h
    rw [h1]; exact ih h3
theorem RLs.rep {z : V} {zs : List Value} (h : RLs ρ z zs) : ∀ n, RLs ρ (repV z n) (List.replicate n zs).flatten := by
  intro n
  induction n with
  | zero => exact (show RLs ρ .e [] from rfl)
  | succ n ih => rw [List.replicate_succ, List.flatten_cons]; exact h.app ih
theorem RLs.repL {z : V} {zs : List Value} (h : RLs ρ z zs) : ∀ n, RLs ρ (Fw.repL z n) (List.replicate n zs).flatten := by
  intro n
  induction n with
  | zero => exact (show RLs ρ .e [] from rfl)
  | succ n ih => rw [List.replicate_succ, List.flatten_cons]; exact h.app ih

/-- Cells in a tree. -/
def RT (ρ : Rn) (t : Tr V) (o : Nat) (xs : List Value) : Prop := ∀ j x, xs[j]? = some x → RV ρ (getV t (o + j)) x
theorem RT.rd : ∀ {n : Nat} {t : Tr V} {o : Nat} {xs : List Value}, xs.length = n → RT ρ t o xs → RLs ρ (rd t n o) xs := by
  intro n
  induction n with
  | zero => intro t o xs h _; rw [List.length_eq_zero_iff.1 h]; exact (show RLs ρ .e [] from rfl)
  | succ n ih =>
    intro t o xs h hr
    match xs, h with
    | x :: xs, h => exact ⟨x, xs, rfl, hr 0 x rfl, ih (by simpa using h) fun j y hy => by have := hr (j + 1) y (by simpa using hy); rwa [show o + (j + 1) = Nat.succ o + j from by omega] at this⟩
theorem wr1_get : ∀ {l : V} {xs : List Value}, RLs ρ l xs → ∀ (o : Nat) (t : Tr V) (i : Nat), (i < o ∨ o + xs.length ≤ i → getV (wr1 l o t) i = getV t i) ∧ ∀ j x, xs[j]? = some x → i = o + j → RV ρ (getV (wr1 l o t) i) x := by
  intro l
  induction l with
  | e => intro xs h o t i; rw [RLs.nil_inv h]; exact ⟨fun _ => rfl, fun j x hx => by simp at hx⟩
  | c v r _ ih =>
    intro xs ⟨z, zs, h1, h2, h3⟩ o t i
    subst h1
    obtain ⟨a, b⟩ := ih h3 (Nat.succ o) (putV t v o) i
    refine ⟨fun hi => ?_, fun j x hx hi => ?_⟩
    · have hl : (z :: zs).length = zs.length + 1 := rfl
      refine (a (by omega)).trans ?_
      rw [get_putV, if_neg (by omega)]
    · cases j with
      | zero =>
        have : x = z := by simpa using hx.symm
        subst this
        have e := a (.inl (by omega))
        show RV ρ (getV (wr1 r (Nat.succ o) (putV t v o)) i) x
        rw [e, get_putV, if_pos (by omega)]; exact h2
      | succ j => exact b j x (by simpa using hx) (by omega)
  | _ => intro xs h; exact h.elim
theorem RT.wr {l : V} {xs : List Value} (h : RLs ρ l xs) {t : Tr V} {o b : Nat} {ys : List Value} (ht : RT ρ t b ys) (hb : b ≤ o) (ho : o ≤ b + ys.length) (hle : o + xs.length ≤ b + ys.length) :
    RT ρ (wr1 l o t) b (ys.take (o - b) ++ xs ++ ys.drop (o - b + xs.length)) := by
  intro j x hj
  have hl : (ys.take (o - b)).length = o - b := by rw [List.length_take]; omega
  obtain ⟨a, c⟩ := wr1_get h o t (b + j)
  by_cases h1 : j < o - b
  · rw [a (.inl (by omega))]
    rw [List.append_assoc, List.getElem?_append_left (by omega), List.getElem?_take_of_lt h1] at hj
    exact ht j x hj
  · by_cases h2 : j < o - b + xs.length
    · rw [List.append_assoc, List.getElem?_append_right (by omega), List.getElem?_append_left (by omega), hl] at hj
      exact c _ x hj (by omega)
    · rw [a (.inr (by omega))]
      rw [List.getElem?_append_right (by rw [List.length_append]; omega), List.length_append, hl, List.getElem?_drop] at hj
      have := ht _ x hj
      rwa [show b + (o - b + xs.length + (j - (o - b + xs.length))) = b + j from by omega] at this
theorem RT.wr0 {l : V} {xs : List Value} (h : RLs ρ l xs) (t : Tr V) (o : Nat) : RT ρ (wr1 l o t) o xs := fun j x hj => (wr1_get h o t (o + j)).2 j x hj rfl
theorem RT.mono {ρ' : Rn} (h : Le ρ ρ') {t : Tr V} {o : Nat} {xs : List Value} (ht : RT ρ t o xs) : RT ρ' t o xs := fun j x hj => (ht j x hj).mono h
end
end Go.Fw
