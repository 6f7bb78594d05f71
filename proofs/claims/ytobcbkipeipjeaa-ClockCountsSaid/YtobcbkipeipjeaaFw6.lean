/-
  Rules: what each operation asks and gives, over data of a fixed number of cells, slices of them, and blocks that are owned. Own work; nothing here is trusted.
-/
import Derived.Test.YtobcbkipeipjeaaFw5
import Derived.IntWalk
namespace Go.Fw

/-- The value of one cell. -/
def oneC : Value → Bool
  | .agg _ => false
  | .tuple _ => false
  | _ => true

/-! ### Types: closed facts -/

def oneFact (P : Program) (T : TypeId) : Option (Bool × Nat) :=
  match P.underlying T with
  | some d => (P.info? T).map fun i => (match d with | .struct _ | .array _ _ => true | _ => false, i.size)
  | none => none
def fieldFact (P : Program) (T f : Nat) : Option (Nat × Option Bool) :=
  match P.underlying T with
  | some (.struct fs) => (fs[f]?).map fun fd => (fd.offset, (P.info? fd.type).map fun i => i.size != 0)
  | _ => none
def slFact (P : Program) (T : TypeId) : Option (TypeId × Nat × Nat × Option Nat) :=
  match P.underlying T with
  | some (.slice E) => (P.info? E).map fun i => (E, i.size, i.bytes, i.zero.map fun z => z.cells.size)
  | _ => none
def zeroFact (P : Program) (T : TypeId) : Option (Option Value) := (P.info? T).map fun i => i.zero

abbrev OneT (P : Program) (T : TypeId) : Prop := oneFact P T = some (false, 1)
abbrev AggT (P : Program) (T : TypeId) (n : Nat) : Prop := oneFact P T = some (true, n)
abbrev FieldT (P : Program) (T f off : Nat) : Prop := fieldFact P T f = some (off, some true)
abbrev SlT (P : Program) (T E n bytes : Nat) : Prop := slFact P T = some (E, n, bytes, some n)
abbrev ZeroT (P : Program) (T : TypeId) (z : Value) : Prop := zeroFact P T = some (some z)

theorem pr_typeInfo {P : Program} {T : TypeId} {i : TypeInfo} (h : P.info? T = some i) : pr P (typeInfo T) = some i := by
  show pr P (match P.info? T with | some i => pure i | none => stuck "no such type") = _
  rw [h]; rfl
theorem pr_underlying {P : Program} {T : TypeId} {d : TypeDesc} (h : P.underlying T = some d) : pr P (underlying T) = some d := by
  show pr P (match P.underlying T with | some d => pure d | none => stuck "no such type") = _
  rw [h]; rfl
theorem pr_sizeOf {P : Program} {T : TypeId} {i : TypeInfo} (h : P.info? T = some i) : pr P (sizeOf T) = some i.size := by
  unfold sizeOf; rw [pr_bind, pr_typeInfo h]; rfl
theorem pr_map' {P : Program} {α β : Type} (m : Sem α) (f : α → β) : pr P (do pure (f (← m))) = (pr P m).map f := by
  rw [pr_bind]; cases pr P m <;> rfl

theorem oneFact_spec {P : Program} {T : TypeId} {a : Bool} {n : Nat} (h : oneFact P T = some (a, n)) : pr P (isAgg T) = some a ∧ pr P (sizeOf T) = some n := by
  unfold oneFact at h
  cases hd : P.underlying T with
  | none => rw [hd] at h; cases h
  | some d =>
    rw [hd] at h
    cases hi : P.info? T with
    | none => rw [hi] at h; cases h
    | some i =>
      rw [hi] at h
      simp only [Option.map_some, Option.some.injEq, Prod.mk.injEq] at h
      obtain ⟨h1, h2⟩ := h
      refine ⟨?_, by rw [pr_sizeOf hi, h2]⟩
      unfold isAgg
      rw [pr_bind, pr_underlying hd]
      show pr P (match d with | .struct _ | .array _ _ => pure true | _ => pure false) = _
      rw [← h1]
      cases d <;> rfl
theorem slFact_spec {P : Program} {T E n by' : Nat} {z : Option Nat} (h : slFact P T = some (E, n, by', z)) :
    P.underlying T = some (.slice E) ∧ ∃ i, P.info? E = some i ∧ i.size = n ∧ i.bytes = by' ∧ i.zero.map (fun z => z.cells.size) = z := by
  unfold slFact at h
  split at h
  · rename_i E' hE
    cases hi : P.info? E' with
    | none => rw [hi] at h; cases h
    | some i =>
      rw [hi] at h
      simp only [Option.map_some, Option.some.injEq, Prod.mk.injEq] at h
      obtain ⟨rfl, h2, h3, h4⟩ := h
      exact ⟨hE, i, hi, h2, h3, h4⟩
  · cases h

/-! ### Quiet rules -/
section
variable {P : Program} {w : World}

theorem pop {m : Sem Value} {v : Value} {K : Value → Prop} (h : pr P m = some v) (k : K v) : Pop P m K := ⟨v, h, k⟩
theorem qop {m : Sem Value} {v : Value} {K : Value → Prop} (h : m.run P w = .ok v w) (k : K v) : Qop P m w K := ⟨v, h, k⟩

theorem pop_nil {a : Addr} {K : Value → Prop} (k : K (.pointer (some a))) : Pop P (nilS (.pointer (some a))) K := ⟨_, rfl, k⟩
theorem pop_not {b : Bool} {K : Value → Prop} (k : K (.bool (!b))) : Pop P (Op.unary .not (.bool b)) K := ⟨_, rfl, k⟩
theorem pop_notd {p : Prop} [Decidable p] {K : Value → Prop} (k : K (.bool (decide (¬ p)))) : Pop P (Op.unary .not (.bool (decide p))) K := by
  refine pop_not ?_
  by_cases h : p <;> simp_all
theorem pop_ext {vs : List Value} {i : Nat} {v : Value} {K : Value → Prop} (h : vs[i]? = some v) (k : K v) : Pop P (Instr.extract (.tuple vs.toArray) i) K :=
  ⟨v, by simp only [Instr.extract, List.getElem?_toArray, h]; rfl, k⟩
theorem pop_pick {c : Bool} {a b : Value} {K : Value → Prop} (k : K (bif c then a else b)) : Pop P (pickS (.bool c) a b) K := ⟨_, by cases c <;> rfl, k⟩

theorem pop_lss {T : Nat} {cx cy : Bool} {a b : Int} {K : Value → Prop} (k : K (.bool (decide (a < b)))) : Pop P (binS .lss T cx cy (.int .i64 a) (.int .i64 b)) K := ⟨_, rfl, k⟩
theorem pop_leq {T : Nat} {cx cy : Bool} {a b : Int} {K : Value → Prop} (k : K (.bool (decide (a ≤ b)))) : Pop P (binS .leq T cx cy (.int .i64 a) (.int .i64 b)) K := ⟨_, rfl, k⟩
theorem pop_gtr {T : Nat} {cx cy : Bool} {a b : Int} {K : Value → Prop} (k : K (.bool (decide (b < a)))) : Pop P (binS .gtr T cx cy (.int .i64 a) (.int .i64 b)) K := ⟨_, rfl, k⟩
theorem pop_geq {T : Nat} {cx cy : Bool} {a b : Int} {K : Value → Prop} (k : K (.bool (decide (b ≤ a)))) : Pop P (binS .geq T cx cy (.int .i64 a) (.int .i64 b)) K := ⟨_, rfl, k⟩
theorem pop_eql {T : Nat} {cx cy : Bool} {a b : Int} {K : Value → Prop} (k : K (.bool (decide (a = b)))) : Pop P (binS .eql T cx cy (.int .i64 a) (.int .i64 b)) K := ⟨_, rfl, k⟩
theorem pop_neq {T : Nat} {cx cy : Bool} {a b : Int} {K : Value → Prop} (k : K (.bool (decide (a ≠ b)))) : Pop P (binS .neq T cx cy (.int .i64 a) (.int .i64 b)) K :=
  ⟨_, (show pr P (binS .neq T cx cy (.int .i64 a) (.int .i64 b)) = some (.bool (decide (a ≠ b))) from by
    show some (Value.bool (a != b)) = _
    congr 2
    by_cases h : a = b <;> simp [h]), k⟩

theorem pop_add {T : Nat} {cx cy : Bool} {a b : Int} {K : Value → Prop} (h : -9223372036854775808 ≤ a + b ∧ a + b ≤ 9223372036854775807) (k : K (.int .i64 (a + b))) :
    Pop P (binS .add T cx cy (.int .i64 a) (.int .i64 b)) K :=
  ⟨_, (show pr P (binS .add T cx cy (.int .i64 a) (.int .i64 b)) = some (.int .i64 (a + b)) from by
    show some (Value.int .i64 (IntKind.i64.wrap (a + b))) = _
    rw [IntWalk.i64_in _ h]), k⟩
theorem pop_sub {T : Nat} {cx cy : Bool} {a b : Int} {K : Value → Prop} (h : -9223372036854775808 ≤ a - b ∧ a - b ≤ 9223372036854775807) (k : K (.int .i64 (a - b))) :
    Pop P (binS .sub T cx cy (.int .i64 a) (.int .i64 b)) K :=
  ⟨_, (show pr P (binS .sub T cx cy (.int .i64 a) (.int .i64 b)) = some (.int .i64 (a - b)) from by
    show some (Value.int .i64 (IntKind.i64.wrap (a - b))) = _
    rw [IntWalk.i64_in _ h]), k⟩
theorem pop_mul {T : Nat} {cx cy : Bool} {a b : Int} {K : Value → Prop} (h : -9223372036854775808 ≤ a * b ∧ a * b ≤ 9223372036854775807) (k : K (.int .i64 (a * b))) :
    Pop P (binS .mul T cx cy (.int .i64 a) (.int .i64 b)) K :=
  ⟨_, (show pr P (binS .mul T cx cy (.int .i64 a) (.int .i64 b)) = some (.int .i64 (a * b)) from by
    show some (Value.int .i64 (IntKind.i64.wrap (a * b))) = _
    rw [IntWalk.i64_in _ h]), k⟩

theorem cond_d {p : Prop} [Decidable p] {A B : Prop} (h1 : p → A) (h2 : ¬ p → B) : CondV (.bool (decide p)) A B :=
  ⟨_, rfl, fun h => h1 (of_decide_eq_true h), fun h => h2 (of_decide_eq_false h)⟩
theorem cond_t {A B : Prop} (h : A) : CondV (.bool true) A B := ⟨_, rfl, fun _ => h, fun h => by cases h⟩
theorem cond_f {A B : Prop} (h : B) : CondV (.bool false) A B := ⟨_, rfl, fun h => (by cases h), fun _ => h⟩
theorem cond_b {b : Bool} {A B : Prop} (h1 : b = true → A) (h2 : b = false → B) : CondV (.bool b) A B := ⟨_, rfl, h1, h2⟩

/-! ### Calls -/
theorem callF {f : FuncId} {args : List Value} {Φ K : Value → World → Prop} (pl : Plain P f) (h : Calls P f args.toArray w (Ret Φ)) (k : ∀ v w', Φ v w' → K v w') :
    CallF P f args w K := ⟨pl, h.mono fun _ _ r => r.mono k⟩
theorem callV {g : FuncId} {args first cap : List Value} {Φ K : Value → World → Prop} (pl : Plain P g) (h : Calls P g (first ++ args ++ cap).toArray w (Ret Φ)) (k : ∀ v w', Φ v w' → K v w') :
    CallV P (.func (.func g) first.toArray cap.toArray) args w K := ⟨.inl ⟨g, _, _, rfl, pl, by simpa using h.mono fun _ _ r => r.mono k⟩⟩
theorem retOf {f : FuncId} {args : List Value} {Φ Ψ : Value → World → Prop} (h : Calls P f args.toArray w (Ret Φ)) (k : ∀ v w', Φ v w' → Ψ v w') : Calls P f args.toArray w (Ret Ψ) :=
  h.mono fun _ _ r => r.mono k

/-! ### Owned blocks -/
variable {w0 : World} {A : Nat → Prop} {L : List HP}

theorem run_load (a : Addr) (v : Value) (h : w.cell? a = some v) : (load a).run P w = .ok v w := by
  unfold load
  simp only [Sem.run, h]
theorem add_none (b o j : Nat) : (Addr.mk b o none).add j = ⟨b, o + j, none⟩ := by
  unfold Addr.add; split
  · rename_i h; subst h; rfl
  · rfl
theorem run_loadCellsFrom (b o : Nat) : ∀ (n i : Nat) (acc : Array Value) (cs : List Value), cs.length = n → (∀ j c, cs[j]? = some c → Cell w b (o + i + j) c) →
    (loadCellsFrom ⟨b, o, none⟩ i n acc).run P w = .ok (acc ++ cs.toArray) w := by
  intro n
  induction n with
  | zero => intro i acc cs hl _; obtain rfl := List.length_eq_zero_iff.1 hl; simp [loadCellsFrom]
  | succ n ih =>
    intro i acc cs hl h
    match cs, hl with
    | c :: cs, hl =>
      unfold loadCellsFrom
      rw [run_bind_ok (run_load _ c (by rw [add_none]; exact h 0 c rfl))]
      rw [ih (i + 1) (acc.push c) cs (by simpa using hl) (fun j d hd => by have := h (j + 1) d (by simpa using hd); rwa [show o + i + (j + 1) = o + (i + 1) + j from by omega] at this)]
      simp
theorem run_loadCells {b o : Nat} {cs : List Value} (h : ∀ j c, cs[j]? = some c → Cell w b (o + j) c) : (loadCells ⟨b, o, none⟩ cs.length).run P w = .ok cs.toArray w := by
  unfold loadCells
  rw [run_loadCellsFrom b o cs.length 0 #[] cs rfl (fun j c hc => by simpa using h j c hc)]
  simp

theorem run_loadOne {T : TypeId} {b o : Nat} {v : Value} (ht : OneT P T) (h : Cell w b o v) : (Instr.loadAt T (.pointer (some ⟨b, o, none⟩))).run P w = .ok v w := by
  show (loadVar T ⟨b, o, none⟩).run P w = _
  unfold loadVar
  rw [run_bind_ok (run_of_pr (oneFact_spec ht).1 w)]
  exact run_load _ v h
theorem run_loadAgg {T : TypeId} {b o : Nat} {cs : List Value} (ht : AggT P T cs.length) (h : ∀ j c, cs[j]? = some c → Cell w b (o + j) c) :
    (Instr.loadAt T (.pointer (some ⟨b, o, none⟩))).run P w = .ok (.agg cs.toArray) w := by
  show (loadVar T ⟨b, o, none⟩).run P w = _
  unfold loadVar
  rw [run_bind_ok (run_of_pr (oneFact_spec ht).1 w)]
  simp only [if_true]
  rw [run_bind_ok (run_of_pr (oneFact_spec ht).2 w), run_bind_ok (run_loadCells h)]
  rfl

theorem qop_blk {T : TypeId} {b o : Nat} {cs : List Value} {v : Value} {K : Value → Prop} (ht : OneT P T) (hb : Blk w b cs) (hc : cs[o]? = some v) (k : K v) :
    Qop P (Instr.loadAt T (.pointer (some ⟨b, o, none⟩))) w K := ⟨v, run_loadOne ht (hb.cell hc), k⟩
theorem qop_blkA {T : TypeId} {b n : Nat} {cs : List Value} {K : Value → Prop} (ht : AggT P T n) (hb : Blk w b cs) (hn : cs.length = n) (k : K (.agg cs.toArray)) :
    Qop P (Instr.loadAt T (.pointer (some ⟨b, 0, none⟩))) w K := by
  subst hn
  exact ⟨_, run_loadAgg ht fun j c hc => by rw [Nat.zero_add]; exact hb.cell hc, k⟩

theorem pr_fieldAt {T f off b o : Nat} (ht : FieldT P T f off) : pr P (Instr.fieldAt T (.pointer (some ⟨b, o, none⟩)) f) = some (.pointer (some ⟨b, o + off, none⟩)) := by
  unfold FieldT fieldFact at ht
  split at ht
  · rename_i fs hfs
    cases hf : fs[f]? with
    | none => rw [hf] at ht; cases ht
    | some fd =>
      rw [hf] at ht
      simp only [Option.map_some, Option.some.injEq, Prod.mk.injEq] at ht
      obtain ⟨ho, hz⟩ := ht
      cases hi : P.info? fd.type with
      | none => rw [hi] at hz; cases hz
      | some i =>
        rw [hi] at hz
        have hz' : i.size ≠ 0 := by simpa using hz
        unfold Instr.fieldAt
        rw [pr_bind, pr_underlying hfs]
        simp only [Option.bind_some, hf]
        show pr P (do pure (Value.pointer (some (← fieldPlace ⟨b, o, none⟩ fd)))) = _
        rw [pr_map']
        unfold fieldPlace
        rw [pr_bind, pr_sizeOf hi]
        simp only [Option.bind_some, if_neg hz', add_none, ho]
        rfl
  · cases ht
theorem pop_field {T f off b o : Nat} {K : Value → Prop} (ht : FieldT P T f off) (k : K (.pointer (some ⟨b, o + off, none⟩))) :
    Pop P (Instr.fieldAt T (.pointer (some ⟨b, o, none⟩)) f) K := ⟨_, pr_fieldAt ht, k⟩

theorem run_newRow (T : TypeId) (cs : Array Value) : (newRow T cs).run P w = .ok ⟨w.heap.size, 0, none⟩ (push w (.cells cs T)) := rfl
theorem run_box (T : TypeId) (v : Value) : (Instr.box T v).run P w = .ok (.pointer (some ⟨w.heap.size, 0, none⟩)) (push w (.cells v.cells T)) := rfl

/-- A new block at the head. -/
theorem St.push {T : TypeId} {cs : List Value} (hs : St w0 A L w) : St w0 A (blk w.heap.size cs :: L) (push w (.cells cs.toArray T)) :=
  hs.new (Ext.push _ _) (F := fun k => k = w.heap.size) ⟨Blk.push w cs T, fun _ => Iff.rfl⟩ fun b hb => by rw [hb]; exact Nat.le_refl _

theorem eop_box1 {T : TypeId} {v : Value} {K : Value → World → Prop} (hs : St w0 A L w) (hv : oneC v = true)
    (k : ∀ b w', St w0 A (blk b [v] :: L) w' → K (.pointer (some ⟨b, 0, none⟩)) w') : Eop P (Instr.box T v) w K := by
  refine ⟨_, _, run_box T v, k _ _ ?_⟩
  have : v.cells = [v].toArray := by cases v <;> first | rfl | cases hv
  rw [this]
  exact hs.push
theorem eop_boxA {T : TypeId} {cs : List Value} {K : Value → World → Prop} (hs : St w0 A L w)
    (k : ∀ b w', St w0 A (blk b cs :: L) w' → K (.pointer (some ⟨b, 0, none⟩)) w') : Eop P (Instr.box T (.agg cs.toArray)) w K :=
  ⟨_, _, run_box T _, k _ _ hs.push⟩
theorem eop_alloc1 {T : TypeId} {z : Value} {K : Value → World → Prop} (hs : St w0 A L w) (hz : ZeroT P T z) (hv : oneC z = true)
    (k : ∀ b w', St w0 A (blk b [z] :: L) w' → K (.pointer (some ⟨b, 0, none⟩)) w') : Eop P (Instr.alloc T true (.tuple #[])) w K := by
  unfold ZeroT zeroFact at hz
  cases hi : P.info? T with
  | none => rw [hi] at hz; cases hz
  | some i =>
    rw [hi] at hz
    simp only [Option.map_some, Option.some.injEq] at hz
    have h1 : pr P (zeroValue T) = some z := by unfold zeroValue; rw [pr_bind, pr_typeInfo hi]; simp only [Option.bind_some, hz]; rfl
    refine ⟨_, push w (.cells [z].toArray T), ?_, k _ _ (hs.push (T := T))⟩
    unfold Instr.alloc
    rw [run_bind_ok (run_of_pr h1 w)]
    have : z.cells = [z].toArray := by cases z <;> first | rfl | cases hv
    show (do pure (Value.pointer (some (← newVar T z))) : Sem Value).run P w = _
    unfold newVar
    rw [this]
    rfl
theorem eop_allocA {T : TypeId} {cs : List Value} {K : Value → World → Prop} (hs : St w0 A L w) (hz : ZeroT P T (.agg cs.toArray))
    (k : ∀ b w', St w0 A (blk b cs :: L) w' → K (.pointer (some ⟨b, 0, none⟩)) w') : Eop P (Instr.alloc T true (.tuple #[])) w K := by
  unfold ZeroT zeroFact at hz
  cases hi : P.info? T with
  | none => rw [hi] at hz; cases hz
  | some i =>
    rw [hi] at hz
    simp only [Option.map_some, Option.some.injEq] at hz
    have h1 : pr P (zeroValue T) = some (.agg cs.toArray) := by unfold zeroValue; rw [pr_bind, pr_typeInfo hi]; simp only [Option.bind_some, hz]; rfl
    refine ⟨_, push w (.cells cs.toArray T), ?_, k _ _ (hs.push (T := T))⟩
    unfold Instr.alloc
    rw [run_bind_ok (run_of_pr h1 w)]
    rfl

theorem run_store {b o : Nat} {cs : List Value} {v : Value} (hb : Blk w b cs) (ho : o < cs.length) (hv : oneC v = true) :
    (store ⟨b, o, none⟩ v).run P w = .ok () (w.setCell ⟨b, o, none⟩ v) := by
  have h1 : w.cell? ⟨b, o, none⟩ = some cs[o] := hb.cell (by simp [ho])
  have h2 := hb.frozen (o := o)
  unfold store
  cases v <;> first | cases hv | skip
  all_goals
    simp only [Sem.run, h1, h2]
    rfl
theorem blk_turn {b o : Nat} {cs : List Value} {v : Value} (hs : St w0 A (blk b cs :: L) w) : St w0 A (blk b (cs.set o v) :: L) (w.setCell ⟨b, o, none⟩ v) :=
  hs.turn fun F hF => ⟨F, ⟨hF.1.setCell v, hF.2⟩, fun _ h => .inl h, (Chg.setCell w b o v).mono fun k hk => (hF.2 k).2 hk⟩
theorem uop_blk {T : TypeId} {b o : Nat} {cs : List Value} {v : Value} {K : World → Prop} (hs : St w0 A (blk b cs :: L) w) (ht : OneT P T) (ho : o < cs.length) (hv : oneC v = true)
    (k : ∀ w', St w0 A (blk b (cs.set o v) :: L) w' → K w') : Uop P (Instr.storeAt T (.pointer (some ⟨b, o, none⟩)) v) w K := by
  refine ⟨_, ?_, k _ (blk_turn hs)⟩
  show (storeVar T ⟨b, o, none⟩ v).run P w = _
  have hc : v.cells = #[v] := by cases v <;> first | rfl | cases hv
  unfold storeVar
  rw [run_bind_ok (run_of_pr (oneFact_spec ht).2 w), hc]
  simp only [List.size_toArray, List.length_cons, List.length_nil, Nat.zero_add, ne_eq, not_true_eq_false, if_false]
  show (storeCells ⟨b, o, none⟩ [v]).run P w = _
  unfold storeCells
  rw [add_none, Nat.add_zero, run_bind_ok (run_store hs.hb ho hv)]
  rfl

/-- Storing a row of cells. -/
def setAll : List Value → Nat → List Value → List Value
  | cs, _, [] => cs
  | cs, o, v :: r => setAll (cs.set o v) (o + 1) r
theorem setAll_length (cs : List Value) (o : Nat) (vs : List Value) : (setAll cs o vs).length = cs.length := by
  induction vs generalizing cs o with
  | nil => rfl
  | cons v r ih => simp [setAll, ih]
theorem run_storeCells {b o : Nat} : ∀ (vs : List Value) (i : Nat) (cs : List Value) (w : World), St w0 A (blk b cs :: L) w → o + i + vs.length ≤ cs.length → (∀ v ∈ vs, oneC v = true) →
    ∃ w', (storeCells ⟨b, o, none⟩ vs i).run P w = .ok () w' ∧ St w0 A (blk b (setAll cs (o + i) vs) :: L) w' := by
  intro vs
  induction vs with
  | nil => intro i cs w hs _ _; exact ⟨w, rfl, hs⟩
  | cons v r ih =>
    intro i cs w hs hl hv
    have hl' : o + i + (r.length + 1) ≤ cs.length := by simpa using hl
    have h1 := run_store (P := P) hs.hb (o := o + i) (v := v) (by omega) (hv v (by simp))
    obtain ⟨w', h2, h3⟩ := ih (i + 1) (cs.set (o + i) v) _ (blk_turn hs) (by simp; omega) (fun x hx => hv x (by simp [hx]))
    refine ⟨w', ?_, by rw [show o + (i + 1) = o + i + 1 from by omega] at h3; exact h3⟩
    show (do store ((Addr.mk b o none).add i) v; storeCells ⟨b, o, none⟩ r (i + 1) : Sem Unit).run P w = _
    rw [add_none, run_bind_ok h1, h2]
theorem uop_blkA {T : TypeId} {b o n : Nat} {cs vs : List Value} {K : World → Prop} (hs : St w0 A (blk b cs :: L) w) (ht : AggT P T n) (hn : vs.length = n) (ho : o + n ≤ cs.length) (hv : ∀ v ∈ vs, oneC v = true)
    (k : ∀ w', St w0 A (blk b (setAll cs o vs) :: L) w' → K w') : Uop P (Instr.storeAt T (.pointer (some ⟨b, o, none⟩)) (.agg vs.toArray)) w K := by
  subst hn
  obtain ⟨w', h1, h2⟩ := run_storeCells (P := P) (o := o) vs 0 cs w hs (by omega) hv
  refine ⟨w', ?_, k w' h2⟩
  show (storeVar T ⟨b, o, none⟩ (.agg vs.toArray)).run P w = _
  unfold storeVar
  rw [run_bind_ok (run_of_pr (oneFact_spec ht).2 w)]
  simp only [Value.cells, List.size_toArray, ne_eq, not_true_eq_false, if_false]
  exact h1

end
end Go.Fw
