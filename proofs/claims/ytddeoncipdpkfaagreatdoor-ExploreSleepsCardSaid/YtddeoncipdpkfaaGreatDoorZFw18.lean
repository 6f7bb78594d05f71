/-
  A range over a function, over things that are owned. Own work; nothing here is trusted.
-/
import Derived.Test.YtddeoncipdpkfaaGreatDoorZFw12
set_option linter.all false
namespace Go.Fw

/-- A block that is no row of cells. -/
def objH (b : Nat) (o : Obj) : HP where
  p w F := w.heap[b]? = some o ∧ ∀ k, F k ↔ k = b
  loc w w' F h hh := ⟨(hh b ((h.2 b).2 rfl)).trans h.1, h.2⟩
  lt w F b' h hb := by rw [(h.2 b').1 hb]; exact lt_of_heap h.1

section
variable {P : Program} {w w0 w' : World} {A : Nat → Prop} {L : List HP}

theorem St.obj {b : Nat} {o : Obj} (hs : St w0 A (objH b o :: L) w) : w.heap[b]? = some o := by
  obtain ⟨F, h, _⟩ := hs.head; exact h.1
theorem Ext.alloc (w : World) (o : Obj) : Ext w (w.alloc o) := Ext.push w o
theorem St.alloc {o : Obj} (hs : St w0 A L w) : St w0 A (objH w.heap.size o :: L) (w.alloc o) :=
  hs.new (F := (· = w.heap.size)) (Ext.alloc w o) ⟨push_new w o, fun _ => Iff.rfl⟩ fun b hb => Nat.le_of_eq hb.symm
theorem Chg.putObj (w : World) (b : Nat) (o : Obj) : Chg (· = b) w (w.putObj b o) :=
  ⟨rfl, rfl, rfl, by simp, fun k _ hn => World.putObj_heap_other hn⟩
theorem St.putObj {b : Nat} {o : Obj} (o' : Obj) (hs : St w0 A (objH b o :: L) w) : St w0 A (objH b o' :: L) (w.putObj b o') :=
  hs.turn fun F hF => ⟨F, ⟨World.putObj_heap_same (lt_of_heap hF.1), hF.2⟩, fun _ h => .inl h, (Chg.putObj w b o').mono fun k hk => (hF.2 k).2 hk⟩

theorem CallV.mono {fv : Value} {args : List Value} {K K' : Value → World → Prop} (h : CallV P fv args w K) (hk : ∀ v w, K v w → K' v w) : CallV P fv args w K' :=
  DOp.mono (P := P) (k := .callv fv args) h hk

theorem uop_blkV {α : Type} [Flat α] {T : TypeId} {b : Nat} {cs : List Value} {x : α} {K : World → Prop} (hs : St w0 A (blk b cs :: L) w) (ht : AggT P T (Flat.sz α)) (ha : Flat.agg α = true) (hl : cs.length = Flat.sz α)
    (k : ∀ w', St w0 A (blk b (Flat.enc x) :: L) w' → K w') : Uop P (Instr.storeAt T (.pointer (some ⟨b, 0, none⟩)) (Flat.val x)) w K := by
  rw [Flat.vagg ha]
  refine uop_blkA hs ht (Flat.len x) (by rw [Nat.zero_add, hl]; exact Nat.le_refl _) (Flat.one x) fun w' h => k w' ?_
  have := setAll_mid [] cs [] (Flat.enc x) (by rw [Flat.len, hl])
  simp only [List.length_nil, List.nil_append, List.append_nil] at this
  rwa [this] at h
theorem run_at {α : Type} [Flat α] {S : Nat → Prop} {T : TypeId} {p : Value} {x : α} (ht : oneFact P T = some (Flat.agg α, Flat.sz α)) (h : At S w p x) : (Instr.loadAt T p).run P w = .ok (Flat.val x) w := by
  obtain ⟨v, h1, h2⟩ := (qop_at (K := fun v => v = Flat.val x) ht h rfl).ex
  rw [← h2]; exact h1
theorem cond_yb {b : Bool} {A B : Prop} (h : b = true) (a : A) : CondV (.bool b) A B := ⟨⟨_, rfl, fun _ => a, fun hh => by rw [h] at hh; cases hh⟩⟩
theorem cond_nb {b : Bool} {A B : Prop} (h : b = false) (a : B) : CondV (.bool b) A B := ⟨⟨_, rfl, fun hh => (by rw [h] at hh; cases hh), fun _ => a⟩⟩

theorem take1 {D : Nat} {K : World → Prop} (hs : St w0 A (objH D (.deferred (some [])) :: L) w) (k : ∀ w', St w0 A L w' → K w') : takeAll [D] w K :=
  ⟨hs.obj, k _ (hs.putObj (.deferred none)).drop⟩

theorem loop_ready (L0 : Loop) (h1 : L0.state = .ready) (h2 : L0.pending = none) : ({ L0 with state := if (none : Option Code).isNone = true then LoopState.ready else LoopState.done, pending := none } : Loop) = L0 := by
  cases L0; simp only at h1 h2; subst h1; subst h2; rfl

theorem range_st {gf np : Nat} {cap : List Value} {xs : List (List Value)} {round : List Value → World → (World → (World → Prop) → Prop) → (Option Code → World → Prop) → Prop}
    {N R : Nat → World → Prop} {X : Nat → Nat → World → Prop} (pl : Plain P gf) (hs : St w0 A L w) (I : Nat → List HP → Prop) (Ix : Code → List HP → Prop) (h0 : I 0 L) (hnp : ∀ x ∈ xs, x.length = np)
    (hgf : ∀ (y : Value) (J : Nat → World → Prop) (Jx : World → Prop) (W : World), (∀ k W, J k W → ∃ Y M, I k M ∧ St w0 A (Y :: M) W) → (∀ k W W', J k W → Ext W W' → J k W') → J 0 W →
      (∀ k args W', xs[k]? = some args → J k W' → CallV P y args W' (fun v W'' => (v = .bool true ∧ J (k + 1) W'') ∨ (v = .bool false ∧ Jx W''))) →
      Calls P gf ([y] ++ cap).toArray W (Ret fun _ W' => J xs.length W' ∨ Jx W'))
    (hround : ∀ k args (Y1 Y2 : HP) (B : World → (World → Prop) → Prop) (Kr : Option Code → World → Prop) M W, xs[k]? = some args → I k M →
      (∀ M w1 (kk : World → Prop), St w0 A (Y1 :: M) w1 → (∀ w2, St w0 A (Y2 :: M) w2 → kk w2) → B w1 kk) →
      (∀ M w1, St w0 A (Y2 :: M) w1 → I (k + 1) M → Kr none w1) → (∀ c M w1, St w0 A (Y2 :: M) w1 → Ix c M → Kr (some c) w1) →
      St w0 A (Y1 :: M) W → round args W B Kr)
    (hdone : ∀ D M W, I xs.length M → St w0 A (objH D (.deferred (some [])) :: M) W → N D W)
    (hret : ∀ D M W, Ix .ret M → St w0 A (objH D (.deferred (some [])) :: M) W → R D W)
    (hexit : ∀ id D M W, Ix (.exit id) M → St w0 A (objH D (.deferred (some [])) :: M) W → X id D W)
    (hother : ∀ c M, Ix c M → (∃ id, c = .exit id) ∨ c = .ret) :
    RangeFn P (.func (.func gf) #[] cap.toArray) np w round (aft N R X) := by
  refine ⟨gf, cap.toArray, rfl, pl, fun L0 hst hpe hy => ?_⟩
  obtain ⟨l, hl⟩ : ∃ l, l = w.heap.size + 1 := ⟨_, rfl⟩
  obtain ⟨D, hD⟩ : ∃ D, D = w.heap.size := ⟨_, rfl⟩
  rw [← hl] at hy ⊢
  rw [← hD]
  let J : Nat → World → Prop := fun k W => ∃ M, I k M ∧ St w0 A (objH l (.loop L0) :: objH D (.deferred (some [])) :: M) W
  let Jx : World → Prop := fun W => ∃ c M, Ix c M ∧ St w0 A (objH l (.loop { L0 with state := .done, pending := some c }) :: objH D (.deferred (some [])) :: M) W
  have hJ0 : J 0 ((w.alloc (.deferred (some []))).alloc (.loop L0)) := by
    refine ⟨L, h0, ?_⟩
    have h1 := (hs.alloc (o := .deferred (some []))).alloc (o := .loop L0)
    rw [show (w.alloc (.deferred (some []))).heap.size = l from by rw [hl]; exact push_size w _, ← hD] at h1
    exact h1
  have := hgf (.func (.yield l) #[] #[]) J Jx _ (fun k W ⟨M, hI, hS⟩ => ⟨_, M, hI, St.join hS⟩) (fun k W W' ⟨M, hI, hS⟩ e => ⟨M, hI, hS.ext e⟩) hJ0 ?_
  · have e : ([Value.func (.yield l) #[] #[]] ++ cap).toArray = #[.func (.yield l) #[] #[]] ++ cap.toArray := by simp
    rw [e] at this
    refine this.mono fun x W' ⟨v, hx, hv⟩ => ⟨v, hx, ?_⟩
    rcases hv with ⟨M, hI, hS⟩ | ⟨c, M, hI, hS⟩
    · refine ⟨.ready, none, by simp, ?_, ?_⟩
      · rw [← hst, ← hpe]; exact hS.obj
      · exact hdone D M _ hI (hS.putObj _).drop
    · refine ⟨.done, some c, by simp, hS.obj, ?_⟩
      rcases hother c M hI with ⟨id, rfl⟩ | rfl
      · exact hexit id D M _ hI (hS.putObj _).drop
      · exact hret D M _ hI (hS.putObj _).drop
  · intro k args W hk ⟨M, hI, hS⟩
    refine ⟨.inr ⟨l, rfl, ?_⟩⟩
    refine hy args W _ (hnp args (List.mem_of_getElem? hk)) hS.obj ?_
    refine hround k args (sep (objH l (.loop L0)) (objH D (.deferred (some [])))) (sep (objH l (.loop { L0 with state := .busy })) (objH D (.deferred (some [])))) _ _ M W hk hI
      (fun M w1 kk h1 h2 => ?_) (fun M w1 h1 h2 => ?_) (fun c M w1 h1 h2 => ?_) (St.join hS)
    · have h1 := h1.split
      exact ⟨h1.obj, h2 _ (h1.putObj _).join⟩
    · have h1 := h1.split
      refine ⟨h1.obj, .inl ⟨rfl, M, h2, ?_⟩⟩
      have := h1.putObj (.loop { L0 with state := if (none : Option Code).isNone = true then LoopState.ready else LoopState.done, pending := none })
      rw [loop_ready L0 hst hpe] at this ⊢
      exact this
    · have h1 := h1.split
      exact ⟨h1.obj, .inr ⟨rfl, c, M, h2, h1.putObj _⟩⟩
end
end Go.Fw
namespace Go.Fw
section
variable {P : Program} {w w0 : World} {A S : Nat → Prop} {L : List HP}

theorem pop_min {t : Array TypeId} {T : TypeId} {a b : Int} {K : Value → Prop} (k : K (.int .i64 (min a b))) : Pop P (Builtin.min_ t T [.int .i64 a, .int .i64 b].toArray) K := by
  refine ⟨_, ?_, k⟩
  show pr P (Builtin.min2 (.int .i64 a) (.int .i64 b)) = _
  unfold Builtin.min2
  by_cases h : b < a
  · simp [h, pr_pure]; omega
  · simp [h, pr_pure]; omega
theorem pop_max {t : Array TypeId} {T : TypeId} {a b : Int} {K : Value → Prop} (k : K (.int .i64 (max a b))) : Pop P (Builtin.max_ t T [.int .i64 a, .int .i64 b].toArray) K := by
  refine ⟨_, ?_, k⟩
  show pr P (Builtin.max2 (.int .i64 a) (.int .i64 b)) = _
  unfold Builtin.max2
  by_cases h : a < b
  · simp [h, pr_pure]; omega
  · simp [h, pr_pure]; omega

theorem pop_atfA {α β : Type} [Flat α] [Flat β] {T f off : Nat} {p : Value} {x : α} (y : β) {K : Value → Prop} (ht : FieldT P T f off) (h : At S w p x) (hy : ((Flat.enc x).drop off).take (Flat.sz β) = Flat.enc y)
    (k : ∀ q, At S w q y → K q) : Pop P (Instr.fieldAt T p f) K := by
  obtain ⟨b, o, rfl, h2, h3⟩ := h
  refine pop_field ht (k _ ⟨b, o + off, rfl, h2, fun j c hj => ?_⟩)
  rw [← hy, List.getElem?_take] at hj
  split at hj
  · rw [List.getElem?_drop] at hj
    have := h3 _ c hj
    rwa [show o + (off + j) = o + off + j from by omega] at this
  · cases hj
end
end Go.Fw
namespace Go.Fw
section
variable {P : Program} {α : Type} [Flat α] {A : Nat → Prop} {w0 w : World} {L : List HP} {xs : List α}

/-- p is at a field of the thing i. -/
def OwnAtF (α : Type) [Flat α] (v : Value) (i off : Nat) (p : Value) : Prop := ∃ b n c, v = .slice (some ⟨b, 0, none⟩) n c ∧ p = .pointer (some ⟨b, i * Flat.sz α + off, none⟩)

theorem pop_ownf {T f off i : Nat} {v p : Value} {K : Value → Prop} (ht : FieldT P T f off) (h : OwnAt α v i p) (k : ∀ q, OwnAtF α v i off q → K q) : Pop P (Instr.fieldAt T p f) K := by
  obtain ⟨b, n, c, h1, rfl⟩ := h
  exact pop_field ht (k _ ⟨b, n, c, h1, rfl⟩)
theorem pop_ownff {T f off o i : Nat} {v p : Value} {K : Value → Prop} (ht : FieldT P T f off) (h : OwnAtF α v i o p) (k : ∀ q, OwnAtF α v i (o + off) q → K q) : Pop P (Instr.fieldAt T p f) K := by
  obtain ⟨b, n, c, h1, rfl⟩ := h
  exact pop_field ht (k _ ⟨b, n, c, h1, by rw [Nat.add_assoc]⟩)

theorem qop_ownf {β : Type} [Flat β] {T : Nat} {v p : Value} {i off : Nat} {x : α} (y : β) {K : Value → Prop} (hs : St w0 A (ownL v xs :: L) w) (ht : oneFact P T = some (Flat.agg β, Flat.sz β)) (hp : OwnAtF α v i off p) (hx : xs[i]? = some x)
    (hy : ((Flat.enc x).drop off).take (Flat.sz β) = Flat.enc y) (k : K (Flat.val y)) : Qop P (Instr.loadAt T p) w K := by
  obtain ⟨F, h, _⟩ := hs.head
  obtain ⟨b, cap, rest, hv, hb, hl, _⟩ := own_split h (List.getElem?_eq_some_iff.1 hx).1
  obtain ⟨b', n, c, hv', rfl⟩ := hp
  rw [hv] at hv'
  simp only [Value.slice.injEq, Option.some.injEq, Addr.mk.injEq] at hv'
  obtain ⟨⟨rfl, _, _⟩, _, _⟩ := hv'
  refine qop_at (S := fun _ => True) ht ⟨b, i * Flat.sz α + off, rfl, trivial, fun j c hj => hb.cell ?_⟩ k
  rw [← hy, List.getElem?_take] at hj
  split at hj
  · rw [List.getElem?_drop] at hj
    have := flat_get hx hj
    rw [Nat.add_assoc, List.getElem?_append_left (List.getElem?_eq_some_iff.1 this).1]; exact this
  · cases hj

theorem uop_ownf {β : Type} [Flat β] {T : Nat} {v p : Value} {i off : Nat} {K : World → Prop} {x : α} (y : α) (z : β) (hs : St w0 A (ownL v xs :: L) w) (ht : oneFact P T = some (Flat.agg β, Flat.sz β)) (hp : OwnAtF α v i off p) (hx : xs[i]? = some x)
    (hlen : off + Flat.sz β ≤ Flat.sz α) (hy : (Flat.enc x).take off ++ Flat.enc z ++ (Flat.enc x).drop (off + Flat.sz β) = Flat.enc y)
    (k : ∀ w', St w0 A (ownL v (xs.set i y) :: L) w' → K w') : Uop P (Instr.storeAt T p (Flat.val z)) w K := by
  obtain ⟨U, F, U', g1, g2, g3, g4, g5⟩ := hs.seps
  have hi := (List.getElem?_eq_some_iff.1 hx).1
  obtain ⟨b, cap, rest, hv, hb, hl, hF⟩ := own_split g1 hi
  obtain ⟨b', n, c, hv', rfl⟩ := hp
  rw [hv] at hv'
  simp only [Value.slice.injEq, Option.some.injEq, Addr.mk.injEq] at hv'
  obtain ⟨⟨rfl, _, _⟩, _, _⟩ := hv'
  have hsp := flat_split hx
  have htl : (flat (xs.take i)).length = i * Flat.sz α := by rw [flat_length, List.length_take, Nat.min_eq_left (by omega)]
  have hel : i * Flat.sz α + Flat.sz α ≤ (flat xs).length := by
    rw [flat_length, ← Nat.succ_mul]; exact Nat.mul_le_mul_right _ hi
  have hxl : (Flat.enc x).length = Flat.sz α := Flat.len x
  have hzl : (Flat.enc z).length = Flat.sz β := Flat.len z
  obtain ⟨w', h1, h2, h3⟩ := run_storeRow (P := P) (o := i * Flat.sz α + off) (Flat.enc z) 0 (flat xs ++ rest) w hb (by rw [hzl, List.length_append]; omega) (Flat.one z)
  have hset : setAll (flat xs ++ rest) (i * Flat.sz α + off + 0) (Flat.enc z) = flat (xs.set i y) ++ rest := by
    have := setAll_mid (flat (xs.take i) ++ (Flat.enc x).take off) (((Flat.enc x).drop off).take (Flat.sz β)) ((Flat.enc x).drop (off + Flat.sz β) ++ flat (xs.drop (i + 1)) ++ rest) (Flat.enc z)
      (by rw [hzl, List.length_take, List.length_drop]; omega)
    rw [List.length_append, htl, List.length_take, Nat.min_eq_left (by omega)] at this
    rw [Nat.add_zero, flat_set y hi, hsp, ← hy]
    have e1 : Flat.enc x = (Flat.enc x).take off ++ ((Flat.enc x).drop off).take (Flat.sz β) ++ (Flat.enc x).drop (off + Flat.sz β) := by
      rw [← List.drop_drop, List.append_assoc, List.take_append_drop, List.take_append_drop]
    have e2 : flat (xs.take i) ++ Flat.enc x ++ flat (xs.drop (i + 1)) ++ rest = flat (xs.take i) ++ (Flat.enc x).take off ++ ((Flat.enc x).drop off).take (Flat.sz β) ++ ((Flat.enc x).drop (off + Flat.sz β) ++ flat (xs.drop (i + 1)) ++ rest) := by
      conv => lhs; rw [e1]
      simp only [List.append_assoc]
    rw [e2, this]
    simp only [List.append_assoc]
  rw [hset] at h2
  refine ⟨w', ?_, k w' ⟨hs.chg.trans (h3.mono fun k hk => (hF k).2 hk) (fun _ h => h) fun b hb hf => (g2 b hf).elim id fun hh => by omega, U, F, U', ?_, g2, g3, g4,
    g5.loc fun b hb => (h3.mono fun k hk => (hF k).2 hk).blk b (g5.lt b hb) fun hf => g3 b hf hb⟩⟩
  · show (storeVar T ⟨b, i * Flat.sz α + off, none⟩ (Flat.val z)).run P w = _
    unfold storeVar
    rw [run_bind_ok (run_of_pr (oneFact_spec ht).2 w), val_cells]
    simp only [List.size_toArray, Flat.len, ne_eq, not_true_eq_false, if_false]
    exact h1
  · refine .inr ⟨b, cap, rest, by rw [List.length_set]; exact hv, h2, ?_, hF⟩
    rw [← hl, List.length_append, List.length_append, flat_length, flat_length, List.length_set]

/-- A thing within a box. -/
theorem qop_sub {T : Nat} {b o : Nat} {cs : List Value} (x : α) {K : Value → Prop} (ht : oneFact P T = some (Flat.agg α, Flat.sz α)) (hb : Blk w b cs) (hx : (cs.drop o).take (Flat.sz α) = Flat.enc x) (k : K (Flat.val x)) :
    Qop P (Instr.loadAt T (.pointer (some ⟨b, o, none⟩))) w K := by
  refine qop_at (S := fun _ => True) ht ⟨b, o, rfl, trivial, fun j c hj => hb.cell ?_⟩ k
  rw [← hx, List.getElem?_take] at hj
  split at hj
  · rw [List.getElem?_drop] at hj; exact hj
  · cases hj
end
end Go.Fw
namespace Go.Fw
/-- A slice's value. -/
structure SV where
  a : Option Addr
  n : Nat
  cap : Nat
instance : Flat SV where
  agg := false
  sz := 1
  enc s := [.slice s.a s.n s.cap]
  val s := .slice s.a s.n s.cap
  pos := by decide
  len _ := rfl
  one a v h := by rw [List.mem_singleton.1 h]; rfl
  vagg h := by cases h
  vone _ _ := rfl

section
variable {P : Program} {α : Type} [Flat α] {A : Nat → Prop} {w0 w : World} {L L' : List HP} {v : Value}

/-- The rows of a slice of slices, each owned. -/
def rows : List SV → List (List α) → HP
  | [], [] => emp
  | s :: ss, x :: xs => sep (ownL (Flat.val s) x) (rows ss xs)
  | _, _ => fact False emp
theorem rows_len : ∀ {ss : List SV} {xs : List (List α)} {F : Nat → Prop}, (rows ss xs).p w F → ss.length = xs.length
  | [], [], _, _ => rfl
  | s :: ss, x :: xs, F, h => by
    obtain ⟨F1, F2, _, h2, _, _⟩ := h
    rw [List.length_cons, List.length_cons, rows_len h2]
  | [], _ :: _, _, h => h.1.elim
  | _ :: _, [], _, h => h.1.elim
theorem rows_rd : ∀ {ss : List SV} {xs : List (List α)} {F : Nat → Prop} {i : Nat} {s : SV} {x : List α}, (rows ss xs).p w F → ss[i]? = some s → xs[i]? = some x → RdL (fun _ => True) w (Flat.val s) x
  | s :: ss, x :: xs, F, i, s', x', h, hs, hx => by
    obtain ⟨F1, F2, h1, h2, _, _⟩ := h
    cases i with
    | zero =>
      rw [List.getElem?_cons_zero] at hs hx
      obtain rfl := Option.some.inj hs
      obtain rfl := Option.some.inj hx
      exact (ownL.rd h1).mono fun _ _ => trivial
    | succ i =>
      rw [List.getElem?_cons_succ] at hs hx
      exact rows_rd h2 hs hx
  | [], _, _, _, _, _, _, hs, _ => by simp at hs
  | _ :: _, [], _, _, _, _, _, _, hx => by simp at hx
theorem rows_snoc : ∀ {ss : List SV} {xs : List (List α)} {F1 F2 F : Nat → Prop} {s : SV} {x : List α}, (rows ss xs).p w F1 → (ownL (Flat.val s) x).p w F2 → (∀ b, F1 b → ¬ F2 b) → (∀ b, F b ↔ F1 b ∨ F2 b) → (rows (ss ++ [s]) (xs ++ [x])).p w F
  | [], [], F1, F2, F, s, x, h1, h2, _, h4 => by
    refine ⟨F2, F1, h2, h1, fun b hb hb1 => h1 b hb1, fun b => ?_⟩
    rw [h4 b]; exact ⟨fun h => h.symm, fun h => h.symm⟩
  | s' :: ss, x' :: xs, F1, F2, F, s, x, h1, h2, h3, h4 => by
    obtain ⟨G1, G2, g1, g2, g3, g4⟩ := h1
    refine ⟨G1, fun b => G2 b ∨ F2 b, g1, rows_snoc g2 h2 (fun b hb => h3 b ((g4 b).2 (.inr hb))) (fun b => Iff.rfl), fun b hb => ?_, fun b => ?_⟩
    · rintro (hh | hh)
      · exact g3 b hb hh
      · exact h3 b ((g4 b).2 (.inl hb)) hh
    · rw [h4 b, g4 b, or_assoc]
  | [], _ :: _, _, _, _, _, _, h, _, _, _ => h.1.elim
  | _ :: _, [], _, _, _, _, _, h, _, _, _ => h.1.elim

theorem St.rowsLen {ss : List SV} {xs : List (List α)} (hs : St w0 A (rows ss xs :: L) w) : ss.length = xs.length := by
  obtain ⟨F, h, _⟩ := hs.head; exact rows_len h
theorem St.rowAt {ss : List SV} {xs : List (List α)} {i : Nat} {s : SV} {x : List α} (hs : St w0 A (rows ss xs :: L) w) (h1 : ss[i]? = some s) (h2 : xs[i]? = some x) : RdL (fun _ => True) w (Flat.val s) x := by
  obtain ⟨F, h, _⟩ := hs.head; exact rows_rd h h1 h2
theorem St.rowsNil (hs : St w0 A L w) : St w0 A (rows [] ([] : List (List α)) :: L) w :=
  hs.new (Ext.refl w) (F := none1) (fun _ h => h) fun _ h => h.elim
theorem St.rowAdd {ss : List SV} {xs : List (List α)} {s : SV} {x : List α} (hs : St w0 A (rows ss xs :: ownL (Flat.val s) x :: L) w) : St w0 A (rows (ss ++ [s]) (xs ++ [x]) :: L) w := by
  have h := St.join hs
  refine h.turn fun F hF => ?_
  obtain ⟨F1, F2, h1, h2, h3, h4⟩ := hF
  exact ⟨F, rows_snoc h1 h2 h3 h4, fun b hb => .inl hb, Chg.refl _ _⟩
theorem St.isSV {xs : List α} (hs : St w0 A (ownL v xs :: L) w) : ∃ s : SV, v = Flat.val s := by
  obtain ⟨F, h, _⟩ := hs.head
  rcases h with ⟨rfl, _⟩ | ⟨b, cap, _, rfl, _⟩
  · exact ⟨⟨none, 0, 0⟩, rfl⟩
  · exact ⟨⟨_, _, _⟩, rfl⟩
theorem RdL.isSV {S : Nat → Prop} {xs : List α} (h : RdL S w v xs) : ∃ s : SV, v = Flat.val s := by
  obtain ⟨a, cap, rfl, _⟩ := h; exact ⟨⟨_, _, _⟩, rfl⟩

/-- A slice of slices that is read. -/
def RdLL (w : World) (v : Value) (xs : List (List α)) : Prop :=
  ∃ ss : List SV, RdL (fun _ => True) w v ss ∧ ss.length = xs.length ∧ ∀ (i : Nat) (s : SV) (x : List α), ss[i]? = some s → xs[i]? = some x → RdL (fun _ => True) w (Flat.val s) x
theorem RdLL.ext {w' : World} {xs : List (List α)} (h : RdLL w v xs) (e : Ext w w') : RdLL w' v xs := by
  obtain ⟨ss, h1, h2, h3⟩ := h; exact ⟨ss, h1.ext e, h2, fun i s x a b => (h3 i s x a b).ext e⟩
theorem RdLL.of {ss : List SV} {xs : List (List α)} (h1 : St w0 A (ownL v ss :: L) w) (h2 : St w0 A (rows ss xs :: L') w) : RdLL w v xs :=
  ⟨ss, h1.rd', h2.rowsLen, fun _ _ _ a b => h2.rowAt a b⟩
theorem RdLL.take {v' : Value} {ss : List SV} {xs : List (List α)} {k : Nat} (h1 : RdL (fun _ => True) w v' (ss.take k)) (h2 : ss.length = xs.length) (h3 : ∀ (i : Nat) (s : SV) (x : List α), ss[i]? = some s → xs[i]? = some x → RdL (fun _ => True) w (Flat.val s) x) : RdLL w v' (xs.take k) :=
  ⟨ss.take k, h1, by rw [List.length_take, List.length_take, h2], fun i s x a b => by
    rw [List.getElem?_take] at a b
    split at a
    · rename_i hi; rw [if_pos hi] at b; exact h3 i s x a b
    · cases a⟩
/-- A slice of slices, owned with its rows. -/
def ownLL (v : Value) (xs : List (List α)) : HP := exH fun ss => sep (ownL v ss) (rows ss xs)
theorem ownLL.open {xs : List (List α)} (hs : St w0 A (ownLL v xs :: L) w) : ∃ ss, St w0 A (ownL v ss :: rows ss xs :: L) w := by
  obtain ⟨ss, h⟩ := hs.openEx; exact ⟨ss, h.split⟩
theorem ownLL.shut {ss : List SV} {xs : List (List α)} (hs : St w0 A (ownL v ss :: rows ss xs :: L) w) : St w0 A (ownLL v xs :: L) w :=
  St.shutEx (H := fun ss => sep (ownL v ss) (rows ss xs)) ss (St.join hs)
end
end Go.Fw
namespace Go.Fw
section
variable {P : Program}
def Ar2 (P : Program) (T E : Nat) : Prop := P.underlying T = some (.array 2 E) ∧ P.underlying E = some (.int .i64) ∧ pr P (sizeOf E) = some 1 ∧ P.eqGuardType P.depth T = false
theorem pr_arr2 {T E : Nat} {a b c d : Int} (h : Ar2 P T E) :
    pr P (Op.equal T (.agg [.int .i64 a, .int .i64 b].toArray) (.agg [.int .i64 c, .int .i64 d].toArray)) = some (decide (a = c ∧ b = d)) := by
  obtain ⟨ht, he, hs, _⟩ := h
  have e : ∀ x y : Int, pr P (Op.equalIn 9999 E (.int .i64 x) (.int .i64 y)) = some (decide (x = y)) := fun x y => by
    rw [pr_eqSimple (k := 9998) (n := 0) he rfl rfl rfl]; rfl
  have p : ∀ (o : Nat) (x y z : Int), (([.int .i64 x, .int .i64 y] : List Value).toArray)[o]? = some (.int .i64 z) → pr P (part E ([.int .i64 x, .int .i64 y] : List Value).toArray o) = some (.int .i64 z) := fun o x y z hz => pr_part he rfl hz
  show pr P (Op.equalIn (9999 + 1) T _ _) = _
  unfold Op.equalIn
  rw [pr_bind, pr_underlying ht]
  simp only [Option.bind_some, pr_bind, hs]
  simp only [Std.Legacy.Range.forIn_eq_forIn_range', Std.Legacy.Range.size, Nat.sub_zero, Nat.add_sub_cancel, Nat.div_one]
  simp only [List.range', List.forIn_cons, List.forIn_nil, pr_bind, Nat.zero_mul, Nat.one_mul, Nat.add_zero, Nat.zero_add]
  rw [p 0 a b a rfl, p 0 c d c rfl]
  simp only [Option.bind_some, e]
  by_cases h1 : a = c
  · subst h1
    simp only [decide_true, Bool.not_true, Bool.false_eq_true, if_false, pr_pure, Option.bind_some, pr_bind]
    rw [p 1 a b b rfl, p 1 a d d rfl]
    simp only [Option.bind_some, e]
    by_cases h2 : b = d
    · subst h2; simp [pr_pure, pr_bind]
    · simp [h2, pr_pure, pr_bind]
  · simp [h1, pr_pure, pr_bind]
theorem pop_ar2eq {T E : Nat} {cx cy : Bool} {a b c d : Int} {K : Value → Prop} (h : Ar2 P T E) (k : K (.bool (decide (a = c ∧ b = d)))) :
    Pop P (binS .eql T cx cy (.agg [.int .i64 a, .int .i64 b].toArray) (.agg [.int .i64 c, .int .i64 d].toArray)) K := by
  refine ⟨_, ?_, k⟩
  show pr P (if P.eqGuardType P.depth T = true then stuck "an interface in a part" else (do pure (Value.bool (← Op.equal T _ _)) : Sem Value)) = _
  rw [h.2.2.2, if_neg (by simp), pr_map', pr_arr2 h]; rfl
theorem pop_ar2ne {T E : Nat} {cx cy : Bool} {a b c d : Int} {K : Value → Prop} (h : Ar2 P T E) (k : K (.bool (decide (¬ (a = c ∧ b = d))))) :
    Pop P (binS .neq T cx cy (.agg [.int .i64 a, .int .i64 b].toArray) (.agg [.int .i64 c, .int .i64 d].toArray)) K := by
  refine ⟨_, ?_, k⟩
  show pr P (if P.eqGuardType P.depth T = true then stuck "an interface in a part" else (do pure (Value.bool (!(← Op.equal T _ _))) : Sem Value)) = _
  rw [h.2.2.2, if_neg (by simp), pr_map' _ (fun b => Value.bool (!b)), pr_arr2 h]
  simp
/-- s[:i]: what it reads as, wherever s reads as it did. -/
theorem pop_cutHi' {α : Type} [Flat α] {S : Nat → Prop} {w : World} {xs : List α} {T E by' : Nat} {z : Option Nat} {v : Value} {i : Int} {K : Value → Prop} (ht : slFact P T = some (E, Flat.sz α, by', z)) (hr : RdL S w v xs) (h0 : 0 ≤ i) (h2 : i ≤ xs.length)
    (k : ∀ v', (∀ w', RdL S w' v xs → RdL S w' v' (xs.take i.toNat)) → K v') : Pop P (Instr.sliceAt T v none (some (.int .i64 i)) none) K := by
  obtain ⟨a, cap, rfl, hcap, h3⟩ := hr
  refine ⟨_, pr_cut ht (pr_bounds (.inl ⟨rfl, rfl⟩) (.inr ⟨i, rfl, h0, rfl⟩) (Nat.zero_le _) (by omega)), k _ fun w' h => ?_⟩
  have := h.cut rfl (Nat.zero_le i.toNat) (by omega)
  simpa using this
end
end Go.Fw
