/-
  Comparisons of bools, pointers, structs; remainders, masks; a cell that is known; a box of a known thing. Own work; nothing here is trusted.
-/
import Derived.Test.YtddeoncipdpkfaaGreatDoorZFw9
set_option linter.all false
namespace Go.Fw
section
variable {P : Program} {w w0 : World} {A S : Nat → Prop} {L : List HP}

theorem qop_cell {T : TypeId} {b o : Nat} {v : Value} {K : Value → Prop} (ht : OneT P T) (hb : Cell w b o v) (k : K v) :
    Qop P (Instr.loadAt T (.pointer (some ⟨b, o, none⟩))) w K := ⟨v, run_loadOne ht hb, k⟩
theorem eop_boxV {α : Type} [Flat α] {T : TypeId} {x : α} {K : Value → World → Prop} (hs : St w0 A L w)
    (k : ∀ b w', St w0 A (blk b (Flat.enc x) :: L) w' → K (.pointer (some ⟨b, 0, none⟩)) w') : Eop P (Instr.box T (Flat.val x)) w K := by
  refine ⟨_, _, run_box T _, k _ _ ?_⟩
  rw [val_cells]
  exact hs.push

theorem pop_rem {T : Nat} {cx cy : Bool} {a b : Int} {K : Value → Prop} (ha : 0 ≤ a) (hb : 0 < b) (k : K (.int .i64 (a % b))) : Pop P (binS .rem T cx cy (.int .i64 a) (.int .i64 b)) K := by
  refine ⟨_, ?_, k⟩
  show pr P (Op.intDiv .rem .i64 a b) = _
  unfold Op.intDiv
  rw [if_neg (by omega)]
  show some (Value.int .i64 (a.tmod b)) = _
  rw [Int.tmod_eq_emod_of_nonneg ha]

/-- The bits that both have. -/
def andI (a b : Int) : Int := ((BitVec.ofInt 64 a &&& BitVec.ofInt 64 b).toNat : Int)
theorem andI_range (a : Int) {b : Int} (h0 : 0 ≤ b) (h1 : b ≤ 9223372036854775807) : 0 ≤ andI a b ∧ andI a b ≤ b := by
  unfold andI
  refine ⟨by omega, ?_⟩
  have h2 : (BitVec.ofInt 64 a &&& BitVec.ofInt 64 b).toNat ≤ (BitVec.ofInt 64 b).toNat := by
    rw [BitVec.toNat_and]; exact Nat.and_le_right
  have h3 : ((BitVec.ofInt 64 b).toNat : Int) = b := by
    rw [BitVec.toNat_ofInt]
    have : b % (2 ^ 64 : Int) = b := Int.emod_eq_of_lt h0 (by omega)
    show ((b % ((2 ^ 64 : Nat) : Int)).toNat : Int) = b
    rw [show (((2 ^ 64 : Nat) : Int)) = (2 ^ 64 : Int) from by norm_cast, this]
    omega
  omega
theorem pop_and {T : Nat} {cx cy : Bool} {a b : Int} {K : Value → Prop} (h0 : 0 ≤ b) (h1 : b ≤ 9223372036854775807) (k : K (.int .i64 (andI a b))) : Pop P (binS .and T cx cy (.int .i64 a) (.int .i64 b)) K := by
  refine ⟨_, ?_, k⟩
  show some (Value.int .i64 (IntKind.i64.wrap ((BitVec.ofInt 64 a &&& BitVec.ofInt 64 b).toNat : Int))) = _
  have := andI_range a h0 h1
  unfold andI at this ⊢
  rw [IntWalk.i64_in _ (by omega)]

theorem pr_equal_bool {T : Nat} {a b : Bool} (h : P.underlying T = some .bool) : pr P (Op.equal T (.bool a) (.bool b)) = some (a == b) := by
  show pr P (Op.equalIn 10000 T (.bool a) (.bool b)) = _
  unfold Op.equalIn
  rw [pr_bind, pr_underlying h]
  rfl
theorem pop_beql {T : Nat} {cx cy : Bool} {a b : Bool} {K : Value → Prop} (h : P.underlying T = some .bool) (k : K (.bool (a == b))) : Pop P (binS .eql T cx cy (.bool a) (.bool b)) K := by
  refine ⟨_, ?_, k⟩
  show pr P (do pure (Value.bool (← Op.equal T (.bool a) (.bool b)))) = _
  rw [pr_map', pr_equal_bool h]; rfl
theorem pop_bneq {T : Nat} {cx cy : Bool} {a b : Bool} {K : Value → Prop} (h : P.underlying T = some .bool) (k : K (.bool (a != b))) : Pop P (binS .neq T cx cy (.bool a) (.bool b)) K := by
  refine ⟨_, ?_, k⟩
  show pr P (do pure (Value.bool (!(← Op.equal T (.bool a) (.bool b))))) = _
  rw [pr_map' _ (fun b => Value.bool (!b)), pr_equal_bool h]; rfl
theorem pr_equal_ptr {T e : Nat} {p : Option Addr} (h : P.underlying T = some (.pointer e)) : pr P (Op.equal T (.pointer p) (.pointer none)) = some p.isNone := by
  show pr P (Op.equalIn 10000 T (.pointer p) (.pointer none)) = _
  unfold Op.equalIn
  rw [pr_bind, pr_underlying h]
  cases p <;> rfl
theorem pop_peql {T e : Nat} {cx cy : Bool} {p : Option Addr} {K : Value → Prop} (h : P.underlying T = some (.pointer e)) (k : K (.bool p.isNone)) : Pop P (binS .eql T cx cy (.pointer p) (.pointer none)) K := by
  refine ⟨_, ?_, k⟩
  show pr P (do pure (Value.bool (← Op.equal T (.pointer p) (.pointer none)))) = _
  rw [pr_map', pr_equal_ptr h]; rfl
theorem pop_pneq {T e : Nat} {cx cy : Bool} {p : Option Addr} {K : Value → Prop} (h : P.underlying T = some (.pointer e)) (k : K (.bool p.isSome)) : Pop P (binS .neq T cx cy (.pointer p) (.pointer none)) K := by
  refine ⟨_, ?_, k⟩
  show pr P (do pure (Value.bool (!(← Op.equal T (.pointer p) (.pointer none))))) = _
  rw [pr_map' _ (fun b => Value.bool (!b)), pr_equal_ptr h]; cases p <;> rfl
theorem pr_equal_snil {T e : Nat} {a : Option Addr} {n c : Nat} (h : P.underlying T = some (.slice e)) (ha : a = none → n = 0 ∧ c = 0) : pr P (Op.equal T (.slice a n c) (.slice none 0 0)) = some a.isNone := by
  show pr P (Op.equalIn 10000 T (.slice a n c) (.slice none 0 0)) = _
  unfold Op.equalIn
  rw [pr_bind, pr_underlying h]
  cases a <;> rfl
theorem pop_seql {T e : Nat} {cx cy : Bool} {a : Option Addr} {n c : Nat} {K : Value → Prop} (h : P.underlying T = some (.slice e)) (ha : a = none → n = 0 ∧ c = 0) (k : K (.bool a.isNone)) : Pop P (binS .eql T cx cy (.slice a n c) (.slice none 0 0)) K := by
  refine ⟨_, ?_, k⟩
  show pr P (do pure (Value.bool (← Op.equal T (.slice a n c) (.slice none 0 0)))) = _
  rw [pr_map', pr_equal_snil h ha]; rfl

/-! ### Structs of numbers, bools and texts, compared -/

def simpleKind : TypeDesc → Option Nat
  | .int .i64 => some 0
  | .bool => some 1
  | .string => some 2
  | _ => none
def kindV : Value → Option Nat
  | .int .i64 _ => some 0
  | .bool _ => some 1
  | .string _ => some 2
  | _ => none
def eqV : Value → Value → Bool
  | .int _ a, .int _ b => decide (a = b)
  | .bool a, .bool b => a == b
  | .string a, .string b => a == b
  | _, _ => false
def eqAll : List Value → List Value → Bool
  | a :: x, b :: y => eqV a b && eqAll x y
  | _, _ => true

def fieldsKinds (P : Program) : Nat → List Field → Option (List Nat)
  | _, [] => some []
  | k, f :: fs =>
    if f.name ≠ "_" ∧ f.offset = k then
      match P.underlying f.type with
      | some d => match simpleKind d, fieldsKinds P (k + 1) fs with
        | some n, some r => some (n :: r)
        | _, _ => none
      | none => none
    else none
/-- The kinds of a struct's fields, if it is one of plain cells, compared field by field. -/
def eqFact (P : Program) (T : TypeId) : Option (List Nat) :=
  match P.underlying T with
  | some (.struct fs) => if P.stoodInHeld T = false ∧ P.eqGuardType P.depth T = false then fieldsKinds P 0 fs.toList else none
  | _ => none

/-- Field by field: the loop of the comparison, as a recursion. -/
def eqFs (d : Nat) (xs ys : Array Value) : List Field → Sem Bool
  | [] => pure true
  | f :: r => if f.name ≠ "_" then do
      let same ← Op.equalIn d f.type (← part f.type xs f.offset) (← part f.type ys f.offset)
      if (!same) = true then pure false else eqFs d xs ys r
    else eqFs d xs ys r
theorem pr_isAgg_simple {T : TypeId} {d : TypeDesc} {n : Nat} (h : P.underlying T = some d) (hs : simpleKind d = some n) : pr P (isAgg T) = some false := by
  unfold isAgg
  rw [pr_bind, pr_underlying h]
  cases d <;> simp [simpleKind] at hs <;> rfl
theorem pr_part {T : TypeId} {d : TypeDesc} {n o : Nat} {cs : Array Value} {v : Value} (h : P.underlying T = some d) (hs : simpleKind d = some n) (hv : cs[o]? = some v) : pr P (part T cs o) = some v := by
  unfold part
  rw [pr_bind, pr_isAgg_simple h hs]
  simp only [Option.bind_some, Bool.false_eq_true, if_false, hv]
  rfl
theorem pr_eqSimple {k : Nat} {T : TypeId} {d : TypeDesc} {n : Nat} {a b : Value} (h : P.underlying T = some d) (hs : simpleKind d = some n) (ha : kindV a = some n) (hb : kindV b = some n) :
    pr P (Op.equalIn (k + 1) T a b) = some (eqV a b) := by
  unfold Op.equalIn
  rw [pr_bind, pr_underlying h]
  simp only [Option.bind_some]
  cases d <;> simp only [simpleKind] at hs <;> try (cases hs; done)
  case int kd =>
    cases kd <;> simp at hs
    subst hs
    cases a <;> simp only [kindV] at ha <;> try (cases ha; done)
    rename_i ka na
    cases b <;> simp only [kindV] at hb <;> try (cases hb; done)
    rename_i kb nb
    cases ka <;> simp at ha
    cases kb <;> simp at hb
    rfl
  case bool =>
    cases hs
    cases a <;> simp only [kindV] at ha <;> first | (rename_i ka na; cases ka <;> simp at ha) | skip
    all_goals try (simp at ha; done)
    cases b <;> simp only [kindV] at hb <;> first | (rename_i kb nb; cases kb <;> simp at hb) | skip
    all_goals try (simp at hb; done)
    rfl
  case string =>
    cases hs
    cases a <;> simp only [kindV] at ha <;> first | (rename_i ka na; cases ka <;> simp at ha) | skip
    all_goals try (simp at ha; done)
    cases b <;> simp only [kindV] at hb <;> first | (rename_i kb nb; cases kb <;> simp at hb) | skip
    all_goals try (simp at hb; done)
    rfl

/-- What the loop over the fields answers. -/
theorem pr_eqFields {k : Nat} {xs ys : List Value} : ∀ (fs : List Field) (i : Nat) (ks : List Nat), fieldsKinds P i fs = some ks → (∀ j n, ks[j]? = some n → ∃ a b, xs[i + j]? = some a ∧ ys[i + j]? = some b ∧ kindV a = some n ∧ kindV b = some n) →
    pr P (eqFs (k + 1) xs.toArray ys.toArray fs) = some (eqAll ((xs.drop i).take ks.length) ((ys.drop i).take ks.length)) := by
  intro fs
  induction fs with
  | nil => intro i ks h _; simp only [fieldsKinds, Option.some.injEq] at h; subst h; simp [eqFs, eqAll]; rfl
  | cons f fs ih =>
    intro i ks h hk
    unfold fieldsKinds at h
    split at h
    · rename_i hf
      cases hu : P.underlying f.type with
      | none => rw [hu] at h; cases h
      | some d =>
        rw [hu] at h
        dsimp only at h
        cases hd : simpleKind d with
        | none => rw [hd] at h; cases h
        | some n =>
          rw [hd] at h
          cases hr : fieldsKinds P (i + 1) fs with
          | none => rw [hr] at h; cases h
          | some r =>
            rw [hr] at h
            simp only [Option.some.injEq] at h
            subst h
            obtain ⟨a, b, ha, hb, ka, kb⟩ := hk 0 n rfl
            rw [Nat.add_zero] at ha hb
            have hxd : xs.drop i = a :: xs.drop (i + 1) := by
              rw [← List.getElem_cons_drop (List.getElem?_eq_some_iff.1 ha).1, (List.getElem?_eq_some_iff.1 ha).2]
            have hyd : ys.drop i = b :: ys.drop (i + 1) := by
              rw [← List.getElem_cons_drop (List.getElem?_eq_some_iff.1 hb).1, (List.getElem?_eq_some_iff.1 hb).2]
            have ih' := ih (i + 1) r hr fun j m hj => by
              obtain ⟨a', b', h1, h2, h3, h4⟩ := hk (j + 1) m (by simpa using hj)
              exact ⟨a', b', by rwa [show i + 1 + j = i + (j + 1) from by omega], by rwa [show i + 1 + j = i + (j + 1) from by omega], h3, h4⟩
            unfold eqFs
            rw [if_pos hf.1, pr_bind, pr_part hu hd (v := a) (by rw [hf.2]; simpa using ha)]
            simp only [Option.bind_some]
            rw [pr_bind, pr_part hu hd (v := b) (by rw [hf.2]; simpa using hb)]
            simp only [Option.bind_some]
            rw [pr_bind, pr_eqSimple hu hd ka kb]
            simp only [Option.bind_some, List.length_cons, hxd, hyd, List.take_succ_cons, eqAll]
            cases he : eqV a b with
            | false => rfl
            | true => simp only [Bool.not_true, Bool.false_eq_true, if_false, Bool.true_and]; exact ih'
    · cases h

theorem pr_equalIn_struct {d : Nat} {t : TypeId} {fs : Array Field} {xs ys : Array Value} (ht : P.underlying t = some (.struct fs)) (hp : P.stoodInHeld t = false) :
    pr P (Op.equalIn (d + 1) t (.agg xs) (.agg ys)) = pr P (eqFs d xs ys fs.toList) := by
  unfold Op.equalIn
  rw [pr_bind, pr_underlying ht]
  simp only [Option.bind_some, pr_bind]
  rw [show pr P program = some P from rfl]
  simp only [Option.bind_some, hp, Bool.false_eq_true, if_false]
  rw [← Array.forIn_toList]
  generalize fs.toList = l
  clear ht
  induction l with
  | nil => rfl
  | cons f l ih =>
    rw [pr_bind] at ih
    simp only [List.forIn_cons, eqFs, pr_bind]
    split
    · simp only [pr_bind]
      cases pr P (part f.type xs f.offset) with
      | none => rfl
      | some a =>
        simp only [Option.bind_some]
        cases pr P (part f.type ys f.offset) with
        | none => rfl
        | some b =>
          simp only [Option.bind_some]
          cases pr P (Op.equalIn d f.type a b) with
          | none => rfl
          | some r =>
            cases r
            · rfl
            · simp only [Option.bind_some, Bool.not_true, Bool.false_eq_true, if_false, pr_pure]
              exact ih
    · simp only [pr_pure, Option.bind_some]
      exact ih

theorem pr_struct_eq {T : TypeId} {ks : List Nat} {xs ys : List Value} (h : eqFact P T = some ks) (hx : xs.map kindV = ks.map some) (hy : ys.map kindV = ks.map some) :
    pr P (Op.equal T (.agg xs.toArray) (.agg ys.toArray)) = some (eqAll xs ys) ∧ P.eqGuardType P.depth T = false := by
  unfold eqFact at h
  split at h
  · rename_i fs hfs
    split at h
    · rename_i hc
      refine ⟨?_, hc.2⟩
      show pr P (Op.equalIn 10000 T _ _) = _
      rw [pr_equalIn_struct hfs hc.1]
      have hlx : xs.length = ks.length := by have := congrArg List.length hx; simpa using this
      have hly : ys.length = ks.length := by have := congrArg List.length hy; simpa using this
      rw [pr_eqFields (xs := xs) (ys := ys) fs.toList 0 ks h fun j n hj => ?_]
      · simp only [List.drop_zero]
        rw [List.take_of_length_le (by omega), List.take_of_length_le (by omega)]
      · have hjl : j < ks.length := (List.getElem?_eq_some_iff.1 hj).1
        refine ⟨xs[j]'(by omega), ys[j]'(by omega), by simp, by simp, ?_, ?_⟩
        · have := congrArg (fun l => l[j]?) hx
          simp only [List.getElem?_map, hj, Option.map_some] at this
          rw [List.getElem?_eq_getElem (by omega)] at this
          simpa using this
        · have := congrArg (fun l => l[j]?) hy
          simp only [List.getElem?_map, hj, Option.map_some] at this
          rw [List.getElem?_eq_getElem (by omega)] at this
          simpa using this
    · cases h
  · cases h

theorem pop_steql {T : Nat} {cx cy : Bool} {ks : List Nat} {xs ys : List Value} {K : Value → Prop} (h : eqFact P T = some ks) (hx : xs.map kindV = ks.map some) (hy : ys.map kindV = ks.map some) (k : K (.bool (eqAll xs ys))) :
    Pop P (binS .eql T cx cy (.agg xs.toArray) (.agg ys.toArray)) K := by
  obtain ⟨h1, h2⟩ := pr_struct_eq h hx hy
  refine ⟨_, ?_, k⟩
  show pr P (if P.eqGuardType P.depth T = true then stuck "an interface in a part" else (do pure (Value.bool (← Op.equal T (.agg xs.toArray) (.agg ys.toArray))) : Sem Value)) = _
  rw [h2, if_neg (by simp), pr_map', h1]; rfl
theorem pop_stneq {T : Nat} {cx cy : Bool} {ks : List Nat} {xs ys : List Value} {K : Value → Prop} (h : eqFact P T = some ks) (hx : xs.map kindV = ks.map some) (hy : ys.map kindV = ks.map some) (k : K (.bool (!eqAll xs ys))) :
    Pop P (binS .neq T cx cy (.agg xs.toArray) (.agg ys.toArray)) K := by
  obtain ⟨h1, h2⟩ := pr_struct_eq h hx hy
  refine ⟨_, ?_, k⟩
  show pr P (if P.eqGuardType P.depth T = true then stuck "an interface in a part" else (do pure (Value.bool (!(← Op.equal T (.agg xs.toArray) (.agg ys.toArray)))) : Sem Value)) = _
  rw [h2, if_neg (by simp), pr_map' _ (fun b => Value.bool (!b)), h1]; rfl

theorem pop_steqD {T : Nat} {cx cy : Bool} {ks : List Nat} {xs ys : List Value} {K : Value → Prop} {p : Prop} [Decidable p] (h : eqFact P T = some ks) (hx : xs.map kindV = ks.map some) (hy : ys.map kindV = ks.map some)
    (hp : eqAll xs ys = decide p) (k : K (.bool (decide p))) : Pop P (binS .eql T cx cy (.agg xs.toArray) (.agg ys.toArray)) K := pop_steql h hx hy (hp ▸ k)
theorem pop_stneD {T : Nat} {cx cy : Bool} {ks : List Nat} {xs ys : List Value} {K : Value → Prop} {p : Prop} [Decidable p] (h : eqFact P T = some ks) (hx : xs.map kindV = ks.map some) (hy : ys.map kindV = ks.map some)
    (hp : eqAll xs ys = decide p) (k : K (.bool (decide (¬ p)))) : Pop P (binS .neq T cx cy (.agg xs.toArray) (.agg ys.toArray)) K := pop_stneq h hx hy (by rw [hp]; by_cases h : p <;> simp_all)

end
end Go.Fw
