/-
  A region's operations in one order, at a plain environment; that this serves for every order. Own work; nothing here is trusted.
-/
import Derived.Test.YtddeoncipdpkfaaGreatDoorZFw2
set_option linter.all false
namespace Go.Fw

def lk (s : Nat) : List (Nat × Option Bool) → Option (Option Bool)
  | [] => none
  | q :: r => bif Nat.beq q.1 s then some q.2 else lk s r
def delK (d : Nat) : List (Nat × Option Bool) → List (Nat × Option Bool)
  | [] => []
  | q :: r => bif Nat.beq q.1 d then delK d r else q :: delK d r
def del (d : Option Nat) (kg : List (Nat × Option Bool)) : List (Nat × Option Bool) := match d with | none => kg | some d => delK d kg
def knownOf (kg : List (Nat × Option Bool)) : Operand → Option Bool
  | .const (.bool b) => some b
  | .tmp t => match lk t kg with | some b => b | none => none
  | _ => none
/-- The operand that is copied. -/
def srcOf (kg : List (Nat × Option Bool)) : Op → Option Operand
  | .move x => some x
  | .assign x => some x
  | .pick (.tmp c) a b => match lk c kg with | some (some t) => some (bif t then a else b) | _ => none
  | _ => none
def kgAft (kg : List (Nat × Option Bool)) (d : Option Nat) (x : Operand) : List (Nat × Option Bool) :=
  match d, knownOf kg x with
  | some d, some b => (d, some b) :: delK d kg
  | d, _ => del d kg

def ofK : Option Bool → Value | some b => .bool b | none => undef
def KgInv (kg : List (Nat × Option Bool)) (e : Env) : Prop := ∀ s b, lk s kg = some b → e s = ofK b

theorem beq_self (n : Nat) : Nat.beq n n = true := Nat.beq_refl n
theorem beq_no {a b : Nat} (h : a ≠ b) : Nat.beq a b = false := by
  cases hh : Nat.beq a b
  · rfl
  · exact absurd (Nat.eq_of_beq_eq_true hh) h

theorem lk_delK (s d : Nat) (kg : List (Nat × Option Bool)) : lk s (delK d kg) = if s = d then none else lk s kg := by
  induction kg with
  | nil => simp [delK, lk]
  | cons q r ih =>
    simp only [delK, lk]
    by_cases h1 : q.1 = d
    · rw [h1, beq_self, cond_true, ih]
      by_cases h2 : s = d
      · simp [h2]
      · rw [if_neg h2, if_neg h2, beq_no (fun hh => h2 hh.symm), cond_false]
    · rw [beq_no h1, cond_false]
      simp only [lk, ih]
      by_cases h2 : q.1 = s
      · rw [h2, beq_self, cond_true, cond_true, if_neg (fun hh => h1 (h2.trans hh))]
      · rw [beq_no h2, cond_false, cond_false]

theorem KgInv.nil (e : Env) : KgInv [] e := fun s b h => by simp [lk] at h
theorem KgInv.del {kg : List (Nat × Option Bool)} {e : Env} (h : KgInv kg e) (d : Option Nat) (v : Value) : KgInv (del d kg) (updO e d v) := by
  cases d with
  | none => exact h
  | some d =>
    intro s b hs
    simp only [Fw.del, lk_delK] at hs
    by_cases hsd : s = d
    · simp [hsd] at hs
    · rw [if_neg hsd] at hs
      simp only [updO, upd_ne _ _ hsd]
      exact h s b hs
theorem KgInv.cons {kg : List (Nat × Option Bool)} {e : Env} (h : KgInv kg e) {s : Nat} {b : Option Bool} (hs : e s = ofK b) : KgInv ((s, b) :: kg) e := by
  intro s' b' hh
  simp only [lk] at hh
  by_cases h1 : s = s'
  · subst h1; rw [beq_self, cond_true] at hh; cases hh; exact hs
  · rw [beq_no h1, cond_false] at hh; exact h _ _ hh
theorem KgInv.known {kg : List (Nat × Option Bool)} {e : Env} (h : KgInv kg e) {x : Operand} {b : Bool} (hx : knownOf kg x = some b) : ev e x = .bool b := by
  cases x with
  | tmp t =>
    have hx' : (match lk t kg with | some b => b | none => none) = some b := hx
    split at hx'
    · rename_i b' hb; subst hx'; exact h t _ hb
    · cases hx'
  | const v => cases v <;> simp [knownOf] at hx; simp [ev, hx]
  | _ => simp [knownOf] at hx
theorem KgInv.aft {kg : List (Nat × Option Bool)} {e : Env} (h : KgInv kg e) (d : Option Nat) (x : Operand) : KgInv (kgAft kg d x) (updO e d (ev e x)) := by
  unfold kgAft
  split
  · rename_i d b hb
    have h1 := h.del (some d) (ev e x)
    exact KgInv.cons (b := some b) h1 (by simp only [updO, upd_same]; exact h.known hb)
  · exact h.del _ _

def keep1 (P : Program) (ops : List Oper) (r : Oper) (e : Env) (w : World) (R : Prop) : Prop :=
  bif wantB ops r e then (match opK P r (ev e), r.dst with | .q m, some d => KeepAnd P m (e d) w R | _, _ => False) else R
def keepAll (P : Program) (ops : List Oper) : List Oper → Env → World → Prop → Prop
  | [], _, _, R => R
  | r :: ks, e, w, R => keep1 P ops r e w (keepAll P ops ks e w R)
theorem keepAll_iff {P : Program} {ops : List Oper} {ks : List Oper} {e : Env} {w : World} {R : Prop} : keepAll P ops ks e w R → (∀ r ∈ ks, keep1 P ops r e w True) ∧ R := by
  induction ks with
  | nil => intro h; exact ⟨by simp, h⟩
  | cons r ks ih =>
    intro h
    have : keep1 P ops r e w True ∧ keepAll P ops ks e w R := by
      simp only [keepAll, keep1] at h ⊢
      cases hw : wantB ops r e with
      | false => rw [hw] at h; exact ⟨trivial, h⟩
      | true =>
        rw [hw] at h
        simp only [cond_true] at h ⊢
        cases hk : opK P r (ev e) <;> rw [hk] at h <;> cases hd : r.dst <;> rw [hd] at h <;> first | exact h.elim | skip
        exact ⟨⟨h.keep, trivial⟩, h.rest⟩
    exact ⟨fun x hx => (List.mem_cons.1 hx).elim (fun h' => h' ▸ this.1) (fun h' => (ih this.2).1 x h'), (ih this.2).2⟩

def dstLt (n : Nat) (o : Oper) : Bool := match o.dst with | none => true | some d => Nat.blt d n

/-- The operation is carried out. -/
def goF (P : Program) (ops : List Oper) (o : Oper) (ks : List Oper) (rec : List (Nat × Option Bool) → Env → World → Prop) (kg : List (Nat × Option Bool)) (e : Env) (w : World) : Prop :=
  match srcOf kg o.op with
  | some x => rec (kgAft kg o.dst x) (updO e o.dst (ev e x)) w
  | none => DOp P (opK P o (ev e)) (fun v w' => keepAll P ops ks (updO e o.dst v) w' (rec (del o.dst kg) (updO e o.dst v) w')) w
/-- It is passed over. -/
def skF (o : Oper) (rec : List (Nat × Option Bool) → Env → World → Prop) (kg : List (Nat × Option Bool)) (e : Env) (w : World) : Prop :=
  rec (match o.dst with | some d => (d, none) :: delK d kg | none => kg) (updO e o.dst undef) w
theorem KgInv.skip {kg : List (Nat × Option Bool)} {e : Env} (h : KgInv kg e) (d : Option Nat) :
    KgInv (match d with | some d => (d, none) :: delK d kg | none => kg) (updO e d undef) := by
  cases d with
  | none => exact h
  | some d => exact KgInv.cons (b := none) (h.del (some d) undef) (by simp only [updO, upd_same]; rfl)

/-- One operation of a region, and what is behind it. -/
def DS (P : Program) (n : Nat) (ops : List Oper) (q : Oper × List Oper) (rec : List (Nat × Option Bool) → Env → World → Prop) (kg : List (Nat × Option Bool)) (e : Env) (w : World) : Prop :=
    bif dstLt n q.1 then
      match q.1.guard with
      | none => goF P ops q.1 q.2 rec kg e w
      | some g => match slotOf ops g.1 with
        | none => False
        | some s => match lk s kg with
          | some none => skF q.1 rec kg e w
          | some (some b') => bif b' == g.2 then goF P ops q.1 q.2 rec kg e w else skF q.1 rec kg e w
          | none => CondV (e s)
              (bif g.2 then goF P ops q.1 q.2 rec ((s, some true) :: kg) (upd e s (.bool true)) w else skF q.1 rec ((s, some true) :: kg) (upd e s (.bool true)) w)
              (bif g.2 then skF q.1 rec ((s, some false) :: kg) (upd e s (.bool false)) w else goF P ops q.1 q.2 rec ((s, some false) :: kg) (upd e s (.bool false)) w)
    else False
def DR (P : Program) (n : Nat) (ops : List Oper) : List (Oper × List Oper) → (Env → World → Prop) → List (Nat × Option Bool) → Env → World → Prop
  | [], Q, _, e, w => Q e w
  | q :: rest, Q, kg, e, w => DS P n ops q (DR P n ops rest Q) kg e w

theorem goF_sound {P : Program} {ops : List Oper} {o : Oper} {ks : List Oper} {rec : List (Nat × Option Bool) → Env → World → Prop} {kg : List (Nat × Option Bool)} {e : Env} {w : World}
    (hk : KgInv kg e) (h : goF P ops o ks rec kg e w) :
    DOp P (opK P o (ev e)) (fun v w' => (w' = w ∨ ∀ r ∈ ks, keep1 P ops r (updO e o.dst v) w' True) ∧ ∃ kg', KgInv kg' (updO e o.dst v) ∧ rec kg' (updO e o.dst v) w') w := by
  unfold goF at h
  split at h
  · rename_i x hx
    have hv : (opK P o (ev e)).has P w (ev e x) := by
      unfold opK
      cases hop : o.op <;> rw [hop] at hx <;> simp only [srcOf] at hx <;> first | cases hx | skip
      case move y => simp only [OpK.has]
      case assign y => simp only [OpK.has]
      case pick c a b =>
        cases c <;> simp only at hx <;> first | cases hx | skip
        rename_i c
        split at hx
        · rename_i t ht
          cases hx
          have hc : e c = .bool t := hk c _ ht
          simp only [OpK.has, ev, hc, pickS]
          cases t <;> rfl
        · cases hx
    exact DOp.of_has hv ⟨.inl rfl, _, hk.aft _ _, h⟩
  · refine h.mono fun v w' hh => ?_
    have := keepAll_iff hh
    exact ⟨.inr this.1, _, hk.del _ _, this.2⟩

theorem DS_step {P : Program} {n : Nat} {ops : List Oper} {q : Oper × List Oper} {rec : List (Nat × Option Bool) → Env → World → Prop} {kg : List (Nat × Option Bool)} {e : Env} {w : World}
    (hk : KgInv kg e) (h : DS P n ops q rec kg e w) :
    (∀ d, q.1.dst = some d → d < n) ∧
    Stp P ops q.1 (fun e' w' => (w' = w ∨ ∀ r ∈ q.2, keep1 P ops r e' w' True) ∧ ∃ kg', KgInv kg' e' ∧ rec kg' e' w') e w := by
  unfold DS at h
  cases hd : dstLt n q.1 with
  | false => rw [hd] at h; exact h.elim
  | true =>
    rw [hd] at h
    refine ⟨fun d hdd => by unfold dstLt at hd; rw [hdd] at hd; exact Nat.blt_eq ▸ hd, ?_⟩
    have sk : ∀ {kg : List (Nat × Option Bool)}, KgInv kg e → skF q.1 rec kg e w →
        (w = w ∨ ∀ r ∈ q.2, keep1 P ops r (updO e q.1.dst undef) w True) ∧ ∃ kg', KgInv kg' (updO e q.1.dst undef) ∧ rec kg' (updO e q.1.dst undef) w :=
      fun hk h => ⟨.inl rfl, _, hk.skip _, h⟩
    simp only [cond_true] at h
    unfold Stp
    cases hg : q.1.guard with
    | none =>
      rw [hg] at h
      have hB : wantB ops q.1 e = true := by unfold wantB; rw [hg]
      rw [if_pos hB]
      exact goF_sound hk h
    | some g =>
      obtain ⟨j, b⟩ := g
      rw [hg] at h
      dsimp only at h
      cases hs : slotOf ops j with
      | none => rw [hs] at h; exact h.elim
      | some s =>
        rw [hs] at h
        dsimp only at h
        have hB : ∀ t, e s = .bool t → wantB ops q.1 e = (t == b) := fun t ht => by unfold wantB; rw [hg]; dsimp only; rw [hs]; dsimp only; rw [ht]
        cases hl : lk s kg with
        | some ob =>
          rw [hl] at h
          cases ob with
          | none =>
            dsimp only at h
            have hu : wantB ops q.1 e = false := by
              unfold wantB; rw [hg]; dsimp only; rw [hs]; dsimp only; rw [hk s none hl]; rfl
            rw [if_neg (by rw [hu]; simp)]
            exact sk hk h
          | some b' =>
            dsimp only at h
            rw [hB b' (hk s _ hl)]
            cases hb : b' == b with
            | true => rw [hb] at h; rw [if_pos rfl]; exact goF_sound hk h
            | false => rw [hb] at h; rw [if_neg (by simp)]; exact sk hk h
        | none =>
          rw [hl] at h
          obtain ⟨t, ht, hA, hA'⟩ := h.ex
          rw [hB t ht]
          have hid : ∀ c, t = c → upd e s (.bool c) = e := fun c hc => upd_id _ _ _ (by rw [ht, hc])
          cases t with
          | true =>
            have hA := hA rfl
            rw [hid true rfl] at hA
            cases b with
            | true => rw [if_pos (by rfl)]; exact goF_sound (hk.cons (b := some _) ht) hA
            | false => rw [if_neg (by simp)]; exact sk (hk.cons (b := some _) ht) hA
          | false =>
            have hA' := hA' rfl
            rw [hid false rfl] at hA'
            cases b with
            | true => rw [if_neg (by simp)]; exact sk (hk.cons (b := some _) ht) hA'
            | false => rw [if_pos (by rfl)]; exact goF_sound (hk.cons (b := some _) ht) hA'

/-! ### In the order of the text -/

theorem DR.list {r : Option Nat} {ds : List Nat} {P : Program} {n : Nat} {ops : List Oper} {Q : Env → World → Prop} {Q' : Exit → Act → World → Prop} {e0 : Env}
    (hQ : ∀ e a w, Agree ds n e a → (∀ k, k ∉ wr ops → e k = e0 k) → Q e w → Q' .normal a w) :
    ∀ (l : List Oper) (kg : List (Nat × Option Bool)) (e : Env) (a : Act) (w : World), (∀ o ∈ l, o ∈ ops) → Agree ds n e a → (∀ k, k ∉ wr ops → e k = e0 k) → KgInv kg e →
      DR P n ops (l.map fun o => (o, [])) Q kg e w → wpListIn (FO r) 0 P ops.toArray Q' l a w := by
  intro l
  induction l with
  | nil => intro kg e a w _ ha hfr _ h; exact hQ e a w ha hfr h
  | cons o l ih =>
    intro kg e a w hm ha hfr hk h
    obtain ⟨hd, hs⟩ := DS_step hk h
    obtain ⟨i, hi⟩ := List.getElem?_of_mem (hm o List.mem_cons_self)
    have hm' : ∀ x ∈ l, x ∈ ops := fun x hx => hm x (List.mem_cons_of_mem _ hx)
    unfold wpListIn
    rw [wanted_eq ha]
    unfold Stp at hs
    split
    · rename_i hw
      rw [if_pos hw] at hs
      exact DOp.wp ha hs fun v w' ⟨_, kg', hk', hv⟩ => ih kg' _ _ w' hm' (ha.put hd v) (frame_updO hfr hi v) hk' hv
    · rename_i hw
      rw [if_neg hw] at hs
      obtain ⟨_, kg', hk', hv⟩ := hs
      exact ⟨FO_about, ih kg' _ _ w hm' (ha.put hd undef) (frame_updO hfr hi undef) hk' hv⟩

theorem DR.region {r : Option Nat} {ds : List Nat} {P : Program} {n : Nat} {id : Nat} {ops : List Oper} {Q : Env → World → Prop} {Q' : Exit → Act → World → Prop} {e : Env} {a : Act} {w : World}
    (ha : Agree ds n e a) (hQ : ∀ e' a w, Agree ds n e' a → (∀ k, k ∉ wr ops → e' k = e k) → Q e' w → Q' .normal a w)
    (h : DR P n ops (ops.map fun o => (o, [])) Q [] e w) : (Code.region id ops.toArray false).wpIn (FO r) 0 P Q' a w :=
  wpIn_region_lit (DR.list hQ ops [] e a w (fun _ h => h) ha (fun _ _ => rfl) (KgInv.nil e) h)

/-- A region in the order of its text, step by step. -/
def DLs (P : Program) (ops : List Oper) : List Oper → (Env → World → Prop) → Env → World → Prop
  | [], Q, e, w => Q e w
  | o :: r, Q, e, w => Stp P ops o (fun e' w' => DLs P ops r Q e' w') e w
theorem DLs.list {r : Option Nat} {ds : List Nat} {P : Program} {n : Nat} {ops : List Oper} {Q : Env → World → Prop} {Q' : Exit → Act → World → Prop} {e0 : Env}
    (hQ : ∀ e a w, Agree ds n e a → (∀ k, k ∉ wr ops → e k = e0 k) → Q e w → Q' .normal a w) :
    ∀ (l : List Oper) (e : Env) (a : Act) (w : World), (∀ o ∈ l, o ∈ ops ∧ ∀ d, o.dst = some d → d < n) → Agree ds n e a → (∀ k, k ∉ wr ops → e k = e0 k) →
      DLs P ops l Q e w → wpListIn (FO r) 0 P ops.toArray Q' l a w := by
  intro l
  induction l with
  | nil => intro e a w _ ha hfr h; exact hQ e a w ha hfr h
  | cons o l ih =>
    intro e a w hm ha hfr hs
    have hd := (hm o List.mem_cons_self).2
    obtain ⟨i, hi⟩ := List.getElem?_of_mem (hm o List.mem_cons_self).1
    have hm' : ∀ x ∈ l, x ∈ ops ∧ ∀ d, x.dst = some d → d < n := fun x hx => hm x (List.mem_cons_of_mem _ hx)
    unfold wpListIn
    rw [wanted_eq ha]
    unfold DLs Stp at hs
    split
    · rename_i hw
      rw [if_pos hw] at hs
      exact DOp.wp ha hs fun v w' hv => ih _ _ w' hm' (ha.put hd v) (frame_updO hfr hi v) hv
    · rename_i hw
      rw [if_neg hw] at hs
      exact ⟨FO_about, ih _ _ w hm' (ha.put hd undef) (frame_updO hfr hi undef) hs⟩

/-! ### In one order, for every order -/

def quietB (P : Program) (o : Oper) : Bool := (opK P o fun _ => undef).quiet
def readsB (P : Program) (o : Oper) : Bool := (opK P o fun _ => undef).reads

theorem opK_kind {P : Program} {o : Oper} (ρ ρ' : Operand → Value) : (opK P o ρ).quiet = (opK P o ρ').quiet ∧ (opK P o ρ).reads = (opK P o ρ').reads := by
  unfold opK
  cases o.op <;> try exact ⟨rfl, rfl⟩
  case binOp op t x y u => dsimp only; split <;> exact ⟨rfl, rfl⟩
  case convert s d x => dsimp only; split <;> exact ⟨rfl, rfl⟩
  case call c =>
    dsimp only
    cases c.callee with
    | value x => cases x <;> exact ⟨rfl, rfl⟩
    | invoke r nm => exact ⟨rfl, rfl⟩
    | builtin b => cases b <;> dsimp only <;> first | exact ⟨rfl, rfl⟩ | (split <;> exact ⟨rfl, rfl⟩)

def memB (d : Nat) : List Nat → Bool
  | [] => false
  | x :: r => Nat.beq x d || memB d r
theorem memB_iff {d : Nat} {l : List Nat} : memB d l = true ↔ d ∈ l := by
  induction l with
  | nil => simp [memB]
  | cons x r ih =>
    simp only [memB, Bool.or_eq_true, ih, List.mem_cons]
    constructor
    · rintro (h | h)
      · exact .inl (Nat.eq_of_beq_eq_true h).symm
      · exact .inr h
    · rintro (rfl | h)
      · exact .inl (beq_self _)
      · exact .inr h
theorem memB_no {d : Nat} {l : List Nat} : memB d l = false ↔ d ∉ l := by
  rw [← memB_iff]; simp

def eqO (d : Nat) : Option Nat → Bool | none => false | some k => Nat.beq k d
theorem eqO_iff {d : Nat} {o : Option Nat} : eqO d o = true ↔ o = some d := by
  cases o with
  | none => simp [eqO]
  | some k => simp only [eqO, Option.some.injEq]; exact ⟨Nat.eq_of_beq_eq_true, fun h => by rw [h]; exact beq_self _⟩

/-- y does not write what x looks at, nor where x writes. -/
def offB (ops : List Oper) (x y : Oper) : Bool := match y.dst with | none => true | some d => !memB d (looks ops x) && !eqO d x.dst
theorem offB_spec {ops : List Oper} {x y : Oper} (h : offB ops x y = true) : ∀ d, y.dst = some d → d ∉ looks ops x ∧ x.dst ≠ some d := by
  intro d hd
  unfold offB at h
  rw [hd] at h
  simp only [Bool.and_eq_true, Bool.not_eq_true'] at h
  exact ⟨memB_no.1 h.1, fun hh => by rw [← eqO_iff] at hh; rw [hh] at h; cases h.2⟩
def apartB (ops : List Oper) (x y : Oper) : Bool := offB ops y x && offB ops x y
theorem apartB_spec {ops : List Oper} {x y : Oper} (h : apartB ops x y = true) : Apart ops x y := by
  simp only [apartB, Bool.and_eq_true] at h
  exact ⟨fun d hd => offB_spec h.1 d hd, fun d hd => (offB_spec h.2 d hd).1⟩

/-- Every operation of the list, with its number. -/
def allN (f : Nat → Oper → Bool) : Nat → List Oper → Bool
  | _, [] => true
  | k, o :: r => f k o && allN f (k + 1) r
theorem allN_spec {f : Nat → Oper → Bool} {l : List Oper} : ∀ {k : Nat}, allN f k l = true → ∀ i o, l[i]? = some o → f (k + i) o = true := by
  induction l with
  | nil => intro k _ i o h; simp at h
  | cons x r ih =>
    intro k h i o ho
    simp only [allN, Bool.and_eq_true] at h
    cases i with
    | zero => simp at ho; subst ho; exact h.1
    | succ i => have := ih h.2 i o (by simpa using ho); rwa [show k + 1 + i = k + (i + 1) from by omega] at this

def nthN : List Nat → Nat → Nat
  | [], _ => 0
  | x :: _, 0 => x
  | _ :: r, n + 1 => nthN r n

def orAll (cls : List Nat) : List Nat → Nat
  | [] => 0
  | p :: r => Nat.lor (Nat.lor (Nat.shiftLeft 1 p) (nthN cls p)) (orAll cls r)
/-- The given list tells of each operation for which ones it waits. -/
def clsOk (ops : List Oper) (cls : List Nat) : Bool :=
  allN (fun j o => (pre o).all (fun p => Nat.blt p j) && Nat.beq (nthN cls j) (orAll cls (pre o))) 0 ops

theorem orAll_bit {cls l : List Nat} {i : Nat} (h : (orAll cls l).testBit i = true) : ∃ p ∈ l, p = i ∨ (nthN cls p).testBit i = true := by
  induction l with
  | nil => simp [orAll] at h
  | cons p r ih =>
    have h' : (((1 <<< p) ||| nthN cls p) ||| orAll cls r).testBit i = true := h
    simp only [Nat.testBit_or, Bool.or_eq_true] at h'
    rcases h' with (h' | h') | h'
    · refine ⟨p, by simp, .inl ?_⟩
      rw [Nat.one_shiftLeft, Nat.testBit_two_pow] at h'
      simpa using h'
    · exact ⟨p, by simp, .inr h'⟩
    · obtain ⟨q, hq, h''⟩ := ih h'
      exact ⟨q, by simp [hq], h''⟩

theorem clsOk_dep {ops : List Oper} {cls : List Nat} (h : clsOk ops cls = true) : ∀ (n j : Nat), j < n → j < ops.length → ∀ i, (nthN cls j).testBit i = true → Dep ops j i := by
  intro n
  induction n with
  | zero => intro j hj; omega
  | succ n ih =>
    intro j hj hlen i hi
    obtain ⟨o, ho⟩ : ∃ o, ops[j]? = some o := ⟨ops[j], by simp [hlen]⟩
    have := allN_spec h j o ho
    simp only [Nat.zero_add, Bool.and_eq_true, List.all_eq_true] at this
    obtain ⟨h1, h2⟩ := this
    have h2 := Nat.eq_of_beq_eq_true h2
    rw [h2] at hi
    obtain ⟨p, hp, hh⟩ := orAll_bit hi
    rcases hh with rfl | hh
    · exact .one ho hp
    · have hpj : p < j := by have := h1 p hp; rwa [Nat.blt_eq] at this
      exact .more ho hp (ih p (by omega) (by omega) i hh)

def bit (m i : Nat) : Bool := Nat.testBit m i

/-- It does not look at where it writes. -/
def selfB (ops : List Oper) (y : Oper) : Bool := match y.dst with | none => false | some d => !memB d (looks ops y)
theorem selfB_spec {ops : List Oper} {y : Oper} (h : selfB ops y = true) : ∃ d, y.dst = some d ∧ d ∉ looks ops y := by
  unfold selfB at h
  cases hd : y.dst with
  | none => rw [hd] at h; cases h
  | some d => rw [hd] at h; exact ⟨d, rfl, memB_no.1 (by simpa using h)⟩

/-- May this operation be the next one in the one order? 'm': the set of those that have been, 'ks': what must be kept. -/
def okStep (P : Program) (ops : List Oper) (cls : List Nat) (m i : Nat) (ks : List Nat) : Bool :=
  match ops[i]? with
  | none => false
  | some o =>
    !bit m i && ((pre o).all (fun p => bit m p) &&
    (bif quietB P o then
      allN (fun j y => Nat.beq j i || (bit m j || (memB i (pre y) || apartB ops o y))) 0 ops
    else
      allN (fun j y => Nat.beq j i || (bit m j || !(pre y).all (fun p => bit m p))) 0 ops &&
      (allN (fun r y => !bit m r || (!readsB P y || (bit (nthN cls i) r || memB r ks))) 0 ops &&
      ks.all (fun r => match ops[r]? with
        | none => false
        | some y => selfB ops y && allN (fun j z => Nat.beq j r || (bit (nthN cls r) j || offB ops y z)) 0 ops))))

/-- A plan: operations one by one; where several may come next, each of them. -/
inductive PT where
  | nil
  | stop
  | op (i : Nat) (ks : List Nat) (r : PT)
  | alt (i : Nat) (ks : List Nat) (r o : PT)
def PT.of : List (Nat × List Nat) → PT
  | [] => .nil
  | q :: r => .op q.1 q.2 (PT.of r)
def PT.ids : PT → List Nat
  | .alt i _ _ o => i :: o.ids
  | _ => []
def PT.many : PT → Bool
  | .alt _ _ _ _ => true
  | .op _ _ r => r.many
  | _ => false
/-- May this operation be one of several next ones? -/
def okAlt (P : Program) (ops : List Oper) (cls : List Nat) (m i : Nat) (ks : List Nat) : Bool :=
  match ops[i]? with
  | none => false
  | some o =>
    !bit m i && ((pre o).all (fun p => bit m p) && (!quietB P o && (
      (allN (fun r y => !bit m r || (!readsB P y || (bit (nthN cls i) r || memB r ks))) 0 ops &&
      ks.all (fun r => match ops[r]? with
        | none => false
        | some y => selfB ops y && allN (fun j z => Nat.beq j r || (bit (nthN cls r) j || offB ops y z)) 0 ops)))))
def okT (P : Program) (ops : List Oper) (cls : List Nat) : Bool → Nat → Nat → PT → Bool
  | c, f, m, .nil => !c && (Nat.beq f 0 && allN (fun j _ => bit m j) 0 ops)
  | c, _, _, .stop => c
  | c, f, m, .op i ks r => !c && (match f with | 0 => false | f' + 1 => okStep P ops cls m i ks && okT P ops cls false f' (Nat.lor m (Nat.shiftLeft 1 i)) r)
  | c, f, m, .alt i ks r o => (c || allN (fun j y => bit m j || (!(pre y).all (fun p => bit m p) || memB j (i :: o.ids))) 0 ops) &&
    ((match f with | 0 => false | f' + 1 => okAlt P ops cls m i ks && okT P ops cls false f' (Nat.lor m (Nat.shiftLeft 1 i)) r) && okT P ops cls true f m o)

/-- For which ones each operation waits. -/
def clsOf (ops : List Oper) : List Nat := ops.foldl (fun acc o => acc ++ [orAll acc (pre o)]) []
def PT.run (k : Nat) : Nat → PT
  | 0 => .nil
  | n + 1 => .op k [] (PT.run (k + 1) n)

def nthO (ops : List Oper) (i : Nat) : Oper := (ops[i]?).getD default
def DT (P : Program) (n : Nat) (ops : List Oper) : PT → (Env → World → Prop) → List (Nat × Option Bool) → Env → World → Prop
  | .nil, Q, _, e, w => Q e w
  | .stop, _, _, _, _ => True
  | .op i ks r, Q, kg, e, w => DS P n ops (nthO ops i, ks.map (nthO ops)) (DT P n ops r Q) kg e w
  | .alt i ks r o, Q, kg, e, w => DS P n ops (nthO ops i, ks.map (nthO ops)) (DT P n ops r Q) kg e w ∧ DT P n ops o Q kg e w

/-- The same without what is known of the guards. -/
def DQ (P : Program) (ops : List Oper) : PT → (Env → World → Prop) → Env → World → Prop
  | .nil, Q, e, w => Q e w
  | .stop, _, _, _ => True
  | .op i ks r, Q, e, w => Stp P ops (nthO ops i) (fun e' w' => (w' = w ∨ ∀ r ∈ ks.map (nthO ops), keep1 P ops r e' w' True) ∧ DQ P ops r Q e' w') e w
  | .alt i ks r o, Q, e, w => Stp P ops (nthO ops i) (fun e' w' => (w' = w ∨ ∀ r ∈ ks.map (nthO ops), keep1 P ops r e' w' True) ∧ DQ P ops r Q e' w') e w ∧ DQ P ops o Q e w
theorem DT.plain {P : Program} {n : Nat} {ops : List Oper} {Q : Env → World → Prop} : ∀ (p : PT) (kg : List (Nat × Option Bool)) (e : Env) (w : World), KgInv kg e → DT P n ops p Q kg e w → DQ P ops p Q e w := by
  intro p
  induction p with
  | nil => intro kg e w _ h; exact h
  | stop => intro kg e w _ _; trivial
  | op i ks p ih => intro kg e w hk h; exact (DS_step hk h).2.mono fun v w' ⟨h1, kg', h2, h3⟩ => ⟨h1, ih kg' _ _ h2 h3⟩
  | alt i ks p o ih ih2 => intro kg e w hk h; exact ⟨(DS_step hk h.1).2.mono fun v w' ⟨h1, kg', h2, h3⟩ => ⟨h1, ih kg' _ _ h2 h3⟩, ih2 kg e w hk h.2⟩

structure Tk where
  idx : Nat
  o : Oper
  b : Bool
  X : OpK
  v : Value

/-- What is known of the quiet operations that have been. -/
structure TkInv (P : Program) (ops : List Oper) (L : Nat → Bool) (T : List Tk) (e : Env) : Prop where
  op : ∀ x ∈ T, ops[x.idx]? = some x.o
  listed : ∀ x ∈ T, L x.idx = true
  kind : ∀ x ∈ T, x.X.reads = readsB P x.o
  still : ∀ x ∈ T, x.X.reads = false → x.b = true → ∀ w, x.X.has P w x.v
  reads : ∀ x ∈ T, x.X.reads = true → (∀ j z, ops[j]? = some z → j ≠ x.idx → Dep ops x.idx j ∨ offB ops x.o z = true) → selfB ops x.o = true →
    opK P x.o (ev e) = x.X ∧ wantB ops x.o e = x.b ∧ ∃ d, x.o.dst = some d ∧ (x.b = true → e d = x.v)

def ST (P : Program) (ops : List Oper) (T : List Tk) : Nat → World → Prop := fun j w => ∀ x ∈ T, Dep ops j x.idx ∨ (x.b = true → x.X.has P w x.v)

theorem bit_set {m i : Nat} : (fun k => bit (Nat.lor m (Nat.shiftLeft 1 i)) k) = setL (fun k => bit m k) i := by
  funext k
  show (m ||| 1 <<< i).testBit k = _
  rw [Nat.testBit_or, Nat.one_shiftLeft, Nat.testBit_two_pow]
  unfold setL bit
  by_cases h : k = i
  · subst h; simp
  · rw [if_neg h]
    have : decide (i = k) = false := by simpa using fun hh : i = k => h hh.symm
    rw [this, Bool.or_false]

theorem TkInv.next {P : Program} {ops : List Oper} {L : Nat → Bool} {T : List Tk} {e : Env} (h : TkInv P ops L T e) (hL : Down ops L) {i : Nat} {o : Oper} (ho : ops[i]? = some o) (hi : L i = false) (v : Value) :
    TkInv P ops (setL L i) T (updO e o.dst v) := by
  refine ⟨h.op, fun x hx => setL_of _ _ (h.listed x hx), h.kind, h.still, fun x hx hr hst hds => ?_⟩
  obtain ⟨h1, h2, d, hd, h3⟩ := h.reads x hx hr hst hds
  have hne : i ≠ x.idx := fun hh => by have := h.listed x hx; rw [← hh, hi] at this; cases this
  have hoff : offB ops x.o o = true := by
    rcases hst i o ho hne with hdep | hoff
    · have : L i = true := hdep.listed hL fun o' ho' p hp => hL x.idx o' (h.listed x hx) ho' p hp
      rw [hi] at this; cases this
    · exact hoff
  have hof := offB_spec hoff
  refine ⟨by rw [opK_upd fun k hk => (hof k hk).1]; exact h1, by rw [wantB_upd fun k hk => (hof k hk).1]; exact h2, d, hd, fun hb => ?_⟩
  have := h3 hb
  cases hod : o.dst with
  | none => exact this
  | some k =>
    have hkd : d ≠ k := fun hh => (hof k hod).2 (by rw [hd, hh])
    simp only [updO, upd_ne _ _ hkd]
    exact this

/-- One step that may turn the world. -/
theorem alt_step {P : Program} {ops : List Oper} {cls : List Nat} (hc : clsOk ops cls = true) {f m i : Nat} {ks : List Nat} {o : Oper} {T : List Tk} {e : Env} {w : World} {Q : Env → World → Prop} {rec : Env → World → Prop}
    (ho : ops[i]? = some o) (hun : bit m i = false) (hL : Down ops (bit m)) (hT : TkInv P ops (bit m) T e)
    (hkeeps : ∀ (r : Nat) (y : Oper), ops[r]? = some y → (!bit m r || (!readsB P y || (bit (nthN cls i) r || memB r ks))) = true)
    (hstab : ∀ r ∈ ks, (match ops[r]? with | none => false | some y => selfB ops y && allN (fun j z => Nat.beq j r || (bit (nthN cls r) j || offB ops y z)) 0 ops) = true)
    (hst : Stp P ops o (fun e' w' => (w' = w ∨ ∀ r ∈ ks.map (nthO ops), keep1 P ops r e' w' True) ∧ rec e' w') e w)
    (hrec : ∀ v w', TkInv P ops (setL (bit m) i) T (updO e o.dst v) → rec (updO e o.dst v) w' → WS P ops Q (ST P ops T) f (setL (bit m) i) (updO e o.dst v) w') :
    Stp P ops o (fun e' w' => (w' = w ∨ ST P ops T i w') ∧ WS P ops Q (ST P ops T) f (setL (bit m) i) e' w') e w := by
  refine hst.mono fun v w' hh => ?_
  obtain ⟨hkp, hrest⟩ := hh
  have hTn := hT.next hL ho hun v
  refine ⟨?_, ?_⟩
  · rcases hkp with hw | hkp
    · exact .inl hw
    · refine .inr fun x hx => ?_
      cases hrd : x.X.reads with
      | false => exact .inr fun hb => hT.still x hx hrd hb w'
      | true =>
        have h1 := hkeeps x.idx x.o (hT.op x hx)
        simp only [Bool.or_eq_true, Bool.not_eq_true'] at h1
        rcases h1 with h1 | h1 | h1 | h1
        · have := hT.listed x hx; rw [h1] at this; cases this
        · have := hT.kind x hx; rw [hrd, h1] at this; cases this
        · have hjl : i < ops.length := (List.getElem?_eq_some_iff.1 ho).1
          exact .inl (clsOk_dep hc (i + 1) i (by omega) hjl _ h1)
        · have hmem := memB_iff.1 h1
          have h2 := hstab x.idx hmem
          rw [hT.op x hx] at h2
          simp only [Bool.and_eq_true] at h2
          obtain ⟨hds, h2⟩ := h2
          have h2 := allN_spec h2
          have hxl : x.idx < ops.length := (List.getElem?_eq_some_iff.1 (hT.op x hx)).1
          obtain ⟨e1, e2, d, hd, e3⟩ := hTn.reads x hx hrd (fun k z hz hne => by
            have := h2 k z hz
            simp only [Nat.zero_add, Bool.or_eq_true] at this
            rcases this with h3 | h3 | h3
            · exact absurd (Nat.eq_of_beq_eq_true h3) hne
            · exact .inl (clsOk_dep hc (x.idx + 1) x.idx (by omega) hxl _ h3)
            · exact .inr h3) hds
          refine .inr fun hb => ?_
          have hk1 := hkp x.o (List.mem_map.2 ⟨x.idx, hmem, by simp [nthO, hT.op x hx]⟩)
          unfold keep1 at hk1
          rw [e2, hb, e1, hd] at hk1
          simp only [cond_true] at hk1
          cases hX : x.X <;> rw [hX] at hk1 hrd <;> first | exact hk1.elim | cases hrd | skip
          have := hk1.keep
          rw [e3 hb] at this
          exact this
  · exact hrec v w' hTn hrest

theorem plan_WS {P : Program} {ops : List Oper} {cls : List Nat} {Q : Env → World → Prop} (hc : clsOk ops cls = true) :
    ∀ (p : PT) (f m : Nat) (T : List Tk) (e : Env) (w : World),
      Down ops (bit m) → TkInv P ops (bit m) T e → DQ P ops p Q e w →
      (okT P ops cls false f m p = true → WS P ops Q (ST P ops T) f (bit m) e w) ∧
      (okT P ops cls true f m p = true → ∀ j ∈ p.ids, ∃ f', f = f' + 1 ∧ Rdy ops (bit m) j ∧ ∀ oj, ops[j]? = some oj → Stp P ops oj (fun e' w' => (w' = w ∨ ST P ops T j w') ∧ WS P ops Q (ST P ops T) f' (setL (bit m) j) e' w') e w) := by
  intro p
  induction p with
  | nil =>
    intro f m T e w hL hT h
    refine ⟨fun hp => ?_, fun _ j hj => by cases hj⟩
    simp only [okT, Bool.not_false, Bool.true_and, Bool.and_eq_true] at hp
    have hall := allN_spec hp.2
    rw [Nat.eq_of_beq_eq_true hp.1]
    refine ⟨fun i hr => ?_, h⟩
    obtain ⟨h0, o, ho, _⟩ := hr
    have := hall i o ho
    rw [Nat.zero_add, h0] at this; cases this
  | stop =>
    intro f m T e w hL hT h
    exact ⟨fun hp => by simp [okT] at hp, fun _ j hj => by cases hj⟩
  | op i ks p ih =>
    intro f m T e w hL hT h
    refine ⟨fun hp => ?_, fun _ j hj => by cases hj⟩
    simp only [okT, Bool.not_false, Bool.true_and] at hp
    cases f with
    | zero => cases hp
    | succ f =>
      simp only [Bool.and_eq_true] at hp
      obtain ⟨hs, hp⟩ := hp
      unfold okStep at hs
      cases ho : ops[i]? with
      | none => rw [ho] at hs; cases hs
      | some o =>
      rw [ho] at hs
      simp only [Bool.and_eq_true, Bool.not_eq_true', List.all_eq_true] at hs
      obtain ⟨hun, hpre, hs⟩ := hs
      have hr : Rdy ops (bit m) i := ⟨hun, o, ho, hpre⟩
      have hno : nthO ops i = o := by simp [nthO, ho]
      have hst : Stp P ops (nthO ops i) (fun e' w' => (w' = w ∨ ∀ r ∈ ks.map (nthO ops), keep1 P ops r e' w' True) ∧ DQ P ops p Q e' w') e w := h
      rw [hno] at hst
      have hset : (bit (Nat.lor m (Nat.shiftLeft 1 i))) = setL (bit m) i := bit_set
      have hL' : Down ops (setL (bit m) i) := hL.set hr
      cases hq : quietB P o with
      | true =>
        rw [hq] at hs
        simp only [cond_true] at hs
        have hfree := allN_spec hs
        have hqq : ∀ ρ, (opK P o ρ).quiet = true := fun ρ => by rw [(opK_kind ρ (fun _ => undef)).1]; exact hq
        -- its value
        obtain ⟨b, v, hb, hn, hy, hrest⟩ : ∃ b v, wantB ops o e = b ∧ (b = false → v = undef) ∧ (b = true → (opK P o (ev e)).has P w v) ∧
            DQ P ops p Q (updO e o.dst v) w := by
          unfold Stp at hst
          cases hb : wantB ops o e with
          | true =>
            rw [if_pos hb] at hst
            obtain ⟨v, hv, _, hrest⟩ := hst.has (hqq _)
            exact ⟨true, v, rfl, by simp, fun _ => hv, hrest⟩
          | false =>
            rw [if_neg (by rw [hb]; simp)] at hst
            obtain ⟨_, hrest⟩ := hst
            exact ⟨false, undef, rfl, fun _ => rfl, by simp, hrest⟩
        refine WS.first (X := opK P o (ev e)) ho hn f (bit m) e w hL hr ?_ rfl hb hy ?_
        · intro j oj hoj hji hjun hno
          have := hfree j oj hoj
          simp only [Nat.zero_add, Bool.or_eq_true] at this
          rcases this with h1 | h1 | h1 | h1
          · exact absurd (Nat.eq_of_beq_eq_true h1) hji
          · rw [hjun] at h1; cases h1
          · exact absurd (memB_iff.1 h1) hno
          · exact apartB_spec h1
        · have hT' : TkInv P ops (setL (bit m) i) (⟨i, o, b, opK P o (ev e), v⟩ :: T) (updO e o.dst v) := by
            have hTn := hT.next hL ho hun v
            constructor
            · intro x hx; rcases List.mem_cons.1 hx with rfl | hx
              · exact ho
              · exact hTn.op x hx
            · intro x hx; rcases List.mem_cons.1 hx with rfl | hx
              · exact setL_same _ _
              · exact hTn.listed x hx
            · intro x hx; rcases List.mem_cons.1 hx with rfl | hx
              · exact (opK_kind _ _).2
              · exact hTn.kind x hx
            · intro x hx; rcases List.mem_cons.1 hx with rfl | hx
              · intro h1 h2 w'; exact OpK.has_still h1 (hy h2)
              · exact hTn.still x hx
            · intro x hx; rcases List.mem_cons.1 hx with rfl | hx
              · intro h1 h2 h3
                obtain ⟨d, hd, hnl⟩ := selfB_spec h3
                dsimp only at hd hnl ⊢
                have hh : ∀ k, o.dst = some k → k ∉ looks ops o := fun k hk => by rw [hd] at hk; cases hk; exact hnl
                refine ⟨opK_upd hh, by rw [wantB_upd hh]; exact hb, d, hd, fun _ => ?_⟩
                rw [hd]; exact upd_same _ _ _
              · exact hTn.reads x hx
          have := (ih f _ _ _ w (by rw [hset]; exact hL') (by rw [hset]; exact hT') hrest).1 hp
          rw [hset] at this
          refine WS.weaken (fun j w' hj => ?_) _ _ _ _ this
          exact ⟨fun x hx => hj x (List.mem_cons_of_mem _ hx), hj _ List.mem_cons_self⟩
      | false =>
        rw [hq] at hs
        simp only [cond_false, Bool.and_eq_true, List.all_eq_true] at hs
        obtain ⟨honly, hkeeps, hstab⟩ := hs
        have honly := allN_spec honly
        have hkeeps := allN_spec hkeeps
        refine ⟨fun hno => absurd hr (hno i), fun j oj hoj hj => ?_⟩
        have hji : j = i := by
          have := honly j oj hoj
          simp only [Nat.zero_add, Bool.or_eq_true, Bool.not_eq_true'] at this
          rcases this with h1 | h1 | h1
          · exact Nat.eq_of_beq_eq_true h1
          · have := hj.1; rw [h1] at this; cases this
          · obtain ⟨_, o', ho', hall⟩ := hj
            rw [hoj] at ho'; cases ho'
            have : (pre oj).all (fun p => bit m p) = true := List.all_eq_true.2 hall
            rw [this] at h1; cases h1
        subst hji
        rw [ho] at hoj; cases hoj
        refine alt_step hc ho hun hL hT (fun r y hy => by have := hkeeps r y hy; rwa [Nat.zero_add] at this) hstab hst fun v w' hTn hrest => ?_
        have := (ih f _ T _ w' (by rw [hset]; exact hL') (by rw [hset]; exact hTn) hrest).1 hp
        rw [hset] at this
        exact this
  | alt i ks p o' ih ih2 =>
    intro f m T e w hL hT h
    obtain ⟨h1, h2⟩ : Stp P ops (nthO ops i) (fun e' w' => (w' = w ∨ ∀ r ∈ ks.map (nthO ops), keep1 P ops r e' w' True) ∧ DQ P ops p Q e' w') e w ∧ DQ P ops o' Q e w := h
    have chain : ∀ c, okT P ops cls c f m (.alt i ks p o') = true → ∀ j ∈ i :: o'.ids, ∃ f', f = f' + 1 ∧ Rdy ops (bit m) j ∧ ∀ oj, ops[j]? = some oj → Stp P ops oj (fun e' w' => (w' = w ∨ ST P ops T j w') ∧ WS P ops Q (ST P ops T) f' (setL (bit m) j) e' w') e w := by
      intro c hp
      simp only [okT, Bool.and_eq_true] at hp
      obtain ⟨_, hp, hp2⟩ := hp
      cases f with
      | zero => cases hp
      | succ f =>
        simp only [Bool.and_eq_true] at hp
        obtain ⟨hs, hp⟩ := hp
        intro j hj
        rcases List.mem_cons.1 hj with rfl | hj
        · unfold okAlt at hs
          cases ho : ops[j]? with
          | none => rw [ho] at hs; cases hs
          | some o =>
            rw [ho] at hs
            simp only [Bool.and_eq_true, Bool.not_eq_true', List.all_eq_true] at hs
            obtain ⟨hun, hpre, _, hkeeps, hstab⟩ := hs
            have hr : Rdy ops (bit m) j := ⟨hun, o, ho, hpre⟩
            refine ⟨f, rfl, hr, fun oj hoj => ?_⟩
            cases hoj
            have hkeeps := allN_spec hkeeps
            have hno : nthO ops j = o := by simp [nthO, ho]
            rw [hno] at h1
            have hst := h1
            have hset : (bit (Nat.lor m (Nat.shiftLeft 1 j))) = setL (bit m) j := bit_set
            have hL' : Down ops (setL (bit m) j) := hL.set hr
            refine alt_step hc ho hun hL hT (fun r y hy => by have := hkeeps r y hy; rwa [Nat.zero_add] at this) hstab hst fun v w' hTn hrest => ?_
            have := (ih f _ T _ w' (by rw [hset]; exact hL') (by rw [hset]; exact hTn) hrest).1 hp
            rw [hset] at this
            exact this
        · exact (ih2 (f + 1) m T e w hL hT h2).2 hp2 j hj
    refine ⟨fun hp => ?_, fun hp => chain true hp⟩
    have hch := chain false hp
    simp only [okT, Bool.false_or, Bool.and_eq_true] at hp
    have hcov := allN_spec hp.1
    obtain ⟨f', rfl, hri, _⟩ := hch i List.mem_cons_self
    refine ⟨fun hno => absurd hri (hno i), fun j oj hoj hj => ?_⟩
    have hmem : j ∈ i :: o'.ids := by
      have := hcov j oj hoj
      simp only [Nat.zero_add, Bool.or_eq_true, Bool.not_eq_true'] at this
      rcases this with h3 | h3 | h3
      · have := hj.1; rw [h3] at this; cases this
      · obtain ⟨_, o2, ho2, hall⟩ := hj
        rw [hoj] at ho2; cases ho2
        have : (pre oj).all (fun p => bit m p) = true := List.all_eq_true.2 hall
        rw [this] at h3; cases h3
      · exact memB_iff.1 h3
    obtain ⟨f2, hf, _, hst⟩ := hch j hmem
    cases hf
    exact hst oj hoj

end Go.Fw
