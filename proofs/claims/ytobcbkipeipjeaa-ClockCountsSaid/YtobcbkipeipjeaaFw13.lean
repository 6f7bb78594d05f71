/-
  A range over a function, over things that are owned. Own work; nothing here is trusted.
-/
import Derived.Test.YtobcbkipeipjeaaFw12
namespace Go.Fw

/-- A block that is no row of cells. -/
def objH (b : Nat) (o : Obj) : HP where
  p w F := w.heap[b]? = some o ∧ ∀ k, F k ↔ k = b
  loc w w' F h hh := ⟨(hh b ((h.2 b).2 rfl)).trans h.1, h.2⟩
  lt w F b' h hb := by rw [(h.2 b').1 hb]; exact lt_of_heap h.1

section
variable {P : Program} {w w0 w' : World} {A : Nat → Prop} {L : List HP}

theorem St.obj {b : Nat} {o : Obj} (hs : St w0 A (objH b o :: L) w) : w.heap[b]? = some o := by
  obtain ⟨F, h, _⟩ := hs.head; exact h.1
theorem Ext.alloc (w : World) (o : Obj) : Ext w (w.alloc o) := Ext.push w o
theorem St.alloc {o : Obj} (hs : St w0 A L w) : St w0 A (objH w.heap.size o :: L) (w.alloc o) :=
  hs.new (F := (· = w.heap.size)) (Ext.alloc w o) ⟨push_new w o, fun _ => Iff.rfl⟩ fun b hb => Nat.le_of_eq hb.symm
theorem Chg.putObj (w : World) (b : Nat) (o : Obj) : Chg (· = b) w (w.putObj b o) :=
  ⟨rfl, rfl, rfl, by simp, fun k _ hn => World.putObj_heap_other hn⟩
theorem St.putObj {b : Nat} {o : Obj} (o' : Obj) (hs : St w0 A (objH b o :: L) w) : St w0 A (objH b o' :: L) (w.putObj b o') :=
  hs.turn fun F hF => ⟨F, ⟨World.putObj_heap_same (lt_of_heap hF.1), hF.2⟩, fun _ h => .inl h, (Chg.putObj w b o').mono fun k hk => (hF.2 k).2 hk⟩

theorem CallV.mono {fv : Value} {args : List Value} {K K' : Value → World → Prop} (h : CallV P fv args w K) (hk : ∀ v w, K v w → K' v w) : CallV P fv args w K' :=
  DOp.mono (P := P) (k := .callv fv args) h hk

theorem uop_blkV {α : Type} [Flat α] {T : TypeId} {b : Nat} {cs : List Value} {x : α} {K : World → Prop} (hs : St w0 A (blk b cs :: L) w) (ht : AggT P T (Flat.sz α)) (ha : Flat.agg α = true) (hl : cs.length = Flat.sz α)
    (k : ∀ w', St w0 A (blk b (Flat.enc x) :: L) w' → K w') : Uop P (Instr.storeAt T (.pointer (some ⟨b, 0, none⟩)) (Flat.val x)) w K := by
  rw [Flat.vagg ha]
  refine uop_blkA hs ht (Flat.len x) (by rw [Nat.zero_add, hl]; exact Nat.le_refl _) (Flat.one x) fun w' h => k w' ?_
  have := setAll_mid [] cs [] (Flat.enc x) (by rw [Flat.len, hl])
  simp only [List.length_nil, List.nil_append, List.append_nil] at this
  rwa [this] at h
theorem run_at {α : Type} [Flat α] {S : Nat → Prop} {T : TypeId} {p : Value} {x : α} (ht : oneFact P T = some (Flat.agg α, Flat.sz α)) (h : At S w p x) : (Instr.loadAt T p).run P w = .ok (Flat.val x) w := by
  obtain ⟨v, h1, h2⟩ := (qop_at (K := fun v => v = Flat.val x) ht h rfl).ex
  rw [← h2]; exact h1
theorem cond_yb {b : Bool} {A B : Prop} (h : b = true) (a : A) : CondV (.bool b) A B := ⟨⟨_, rfl, fun _ => a, fun hh => by rw [h] at hh; cases hh⟩⟩
theorem cond_nb {b : Bool} {A B : Prop} (h : b = false) (a : B) : CondV (.bool b) A B := ⟨⟨_, rfl, fun hh => (by rw [h] at hh; cases hh), fun _ => a⟩⟩

theorem take1 {D : Nat} {K : World → Prop} (hs : St w0 A (objH D (.deferred (some [])) :: L) w) (k : ∀ w', St w0 A L w' → K w') : takeAll [D] w K :=
  ⟨hs.obj, k _ (hs.putObj (.deferred none)).drop⟩

theorem loop_ready (L0 : Loop) (h1 : L0.state = .ready) (h2 : L0.pending = none) : ({ L0 with state := if (none : Option Code).isNone = true then LoopState.ready else LoopState.done, pending := none } : Loop) = L0 := by
  cases L0; simp only at h1 h2; subst h1; subst h2; rfl

theorem range_st {gf np : Nat} {cap : List Value} {xs : List (List Value)} {round : List Value → World → (World → (World → Prop) → Prop) → (Option Code → World → Prop) → Prop}
    {N R : Nat → World → Prop} {X : Nat → Nat → World → Prop} (pl : Plain P gf) (hs : St w0 A L w) (I : Nat → List HP → Prop) (Ix : Code → List HP → Prop) (h0 : I 0 L) (hnp : ∀ x ∈ xs, x.length = np)
    (hgf : ∀ (y : Value) (J : Nat → World → Prop) (Jx : World → Prop) (W : World), (∀ k W, J k W → ∃ Y M, I k M ∧ St w0 A (Y :: M) W) → (∀ k W W', J k W → Ext W W' → J k W') → J 0 W →
      (∀ k args W', xs[k]? = some args → J k W' → CallV P y args W' (fun v W'' => (v = .bool true ∧ J (k + 1) W'') ∨ (v = .bool false ∧ Jx W''))) →
      Calls P gf ([y] ++ cap).toArray W (Ret fun _ W' => J xs.length W' ∨ Jx W'))
    (hround : ∀ k args (Y1 Y2 : HP) (B : World → (World → Prop) → Prop) (Kr : Option Code → World → Prop) M W, xs[k]? = some args → I k M →
      (∀ M w1 (kk : World → Prop), St w0 A (Y1 :: M) w1 → (∀ w2, St w0 A (Y2 :: M) w2 → kk w2) → B w1 kk) →
      (∀ M w1, St w0 A (Y2 :: M) w1 → I (k + 1) M → Kr none w1) → (∀ c M w1, St w0 A (Y2 :: M) w1 → Ix c M → Kr (some c) w1) →
      St w0 A (Y1 :: M) W → round args W B Kr)
    (hdone : ∀ D M W, I xs.length M → St w0 A (objH D (.deferred (some [])) :: M) W → N D W)
    (hret : ∀ D M W, Ix .ret M → St w0 A (objH D (.deferred (some [])) :: M) W → R D W)
    (hexit : ∀ id D M W, Ix (.exit id) M → St w0 A (objH D (.deferred (some [])) :: M) W → X id D W)
    (hother : ∀ c M, Ix c M → (∃ id, c = .exit id) ∨ c = .ret) :
    RangeFn P (.func (.func gf) #[] cap.toArray) np w round (aft N R X) := by
  refine ⟨gf, cap.toArray, rfl, pl, fun L0 hst hpe hy => ?_⟩
  obtain ⟨l, hl⟩ : ∃ l, l = w.heap.size + 1 := ⟨_, rfl⟩
  obtain ⟨D, hD⟩ : ∃ D, D = w.heap.size := ⟨_, rfl⟩
  rw [← hl] at hy ⊢
  rw [← hD]
  let J : Nat → World → Prop := fun k W => ∃ M, I k M ∧ St w0 A (objH l (.loop L0) :: objH D (.deferred (some [])) :: M) W
  let Jx : World → Prop := fun W => ∃ c M, Ix c M ∧ St w0 A (objH l (.loop { L0 with state := .done, pending := some c }) :: objH D (.deferred (some [])) :: M) W
  have hJ0 : J 0 ((w.alloc (.deferred (some []))).alloc (.loop L0)) := by
    refine ⟨L, h0, ?_⟩
    have h1 := (hs.alloc (o := .deferred (some []))).alloc (o := .loop L0)
    rw [show (w.alloc (.deferred (some []))).heap.size = l from by rw [hl]; exact push_size w _, ← hD] at h1
    exact h1
  have := hgf (.func (.yield l) #[] #[]) J Jx _ (fun k W ⟨M, hI, hS⟩ => ⟨_, M, hI, St.join hS⟩) (fun k W W' ⟨M, hI, hS⟩ e => ⟨M, hI, hS.ext e⟩) hJ0 ?_
  · have e : ([Value.func (.yield l) #[] #[]] ++ cap).toArray = #[.func (.yield l) #[] #[]] ++ cap.toArray := by simp
    rw [e] at this
    refine this.mono fun x W' ⟨v, hx, hv⟩ => ⟨v, hx, ?_⟩
    rcases hv with ⟨M, hI, hS⟩ | ⟨c, M, hI, hS⟩
    · refine ⟨.ready, none, by simp, ?_, ?_⟩
      · rw [← hst, ← hpe]; exact hS.obj
      · exact hdone D M _ hI (hS.putObj _).drop
    · refine ⟨.done, some c, by simp, hS.obj, ?_⟩
      rcases hother c M hI with ⟨id, rfl⟩ | rfl
      · exact hexit id D M _ hI (hS.putObj _).drop
      · exact hret D M _ hI (hS.putObj _).drop
  · intro k args W hk ⟨M, hI, hS⟩
    refine ⟨.inr ⟨l, rfl, ?_⟩⟩
    refine hy args W _ (hnp args (List.mem_of_getElem? hk)) hS.obj ?_
    refine hround k args (sep (objH l (.loop L0)) (objH D (.deferred (some [])))) (sep (objH l (.loop { L0 with state := .busy })) (objH D (.deferred (some [])))) _ _ M W hk hI
      (fun M w1 kk h1 h2 => ?_) (fun M w1 h1 h2 => ?_) (fun c M w1 h1 h2 => ?_) (St.join hS)
    · have h1 := h1.split
      exact ⟨h1.obj, h2 _ (h1.putObj _).join⟩
    · have h1 := h1.split
      refine ⟨h1.obj, .inl ⟨rfl, M, h2, ?_⟩⟩
      have := h1.putObj (.loop { L0 with state := if (none : Option Code).isNone = true then LoopState.ready else LoopState.done, pending := none })
      rw [loop_ready L0 hst hpe] at this ⊢
      exact this
    · have h1 := h1.split
      exact ⟨h1.obj, .inr ⟨rfl, c, M, h2, h1.putObj _⟩⟩
end
end Go.Fw
