/-
  Memory: blocks, what a step has turned, things that are owned side by side. Own work; nothing here is trusted.
-/
import Derived.Test.YtobcbkipeipjeaaFw4
import Derived.Below
namespace Go.Fw

/-! ### Blocks, cells, what has turned -/

def Blk (w : World) (b : Nat) (cs : List Value) : Prop := ∃ ty, w.heap[b]? = some (.cells cs.toArray ty (0, 0))
def Cell (w : World) (b o : Nat) (v : Value) : Prop := w.cell? ⟨b, o, none⟩ = some v

/-- Of the blocks that were there, at most those of A have turned. -/
structure Chg (A : Nat → Prop) (w w' : World) : Prop where
  os : w'.os = w.os
  tape : w'.tape = w.tape
  output : w'.output = w.output
  size : w.heap.size ≤ w'.heap.size
  blk : ∀ b, b < w.heap.size → ¬ A b → w'.heap[b]? = w.heap[b]?
def none1 : Nat → Prop := fun _ => False
/-- Nothing that was there has turned. -/
abbrev Ext (w w' : World) : Prop := Chg none1 w w'

theorem Chg.refl (A : Nat → Prop) (w : World) : Chg A w w := ⟨rfl, rfl, rfl, Nat.le_refl _, fun _ _ _ => rfl⟩
theorem Chg.trans {A B C : Nat → Prop} {w w1 w2 : World} (h : Chg A w w1) (k : Chg B w1 w2) (hA : ∀ b, A b → C b) (hB : ∀ b, b < w.heap.size → B b → C b) : Chg C w w2 :=
  ⟨k.os.trans h.os, k.tape.trans h.tape, k.output.trans h.output, Nat.le_trans h.size k.size, fun b hb hn =>
    (k.blk b (Nat.lt_of_lt_of_le hb h.size) fun hh => hn (hB b hb hh)).trans (h.blk b hb fun hh => hn (hA b hh))⟩
theorem Chg.then {A : Nat → Prop} {w w1 w2 : World} (h : Chg A w w1) (k : Ext w1 w2) : Chg A w w2 := h.trans k (fun _ h => h) fun _ _ h => h.elim
theorem Chg.mono {A B : Nat → Prop} {w w' : World} (h : Chg A w w') (hh : ∀ b, A b → B b) : Chg B w w' := ⟨h.os, h.tape, h.output, h.size, fun b hb hn => h.blk b hb fun x => hn (hh b x)⟩
theorem Ext.refl (w : World) : Ext w w := Chg.refl _ _
theorem Ext.trans {w w1 w2 : World} (h : Ext w w1) (k : Ext w1 w2) : Ext w w2 := Chg.then h k
theorem Ext.chg {A : Nat → Prop} {w w' : World} (h : Ext w w') : Chg A w w' := h.mono fun _ h => h.elim
theorem Ext.drew (w : World) : Ext w (drew w) := ⟨rfl, rfl, rfl, Nat.le_refl _, fun _ _ _ => rfl⟩
theorem Chg.below {w w' : World} (h : Ext w w') : Go.RowKit.Below w.heap.size w w' := ⟨h.os, h.tape, h.output, h.size, fun b hb => h.blk b hb (fun x => x)⟩

theorem lt_of_heap {w : World} {b : Nat} {o : Obj} (h : w.heap[b]? = some o) : b < w.heap.size := (Array.getElem?_eq_some_iff.1 h).1
theorem Blk.lt {w : World} {b : Nat} {cs : List Value} (h : Blk w b cs) : b < w.heap.size := lt_of_heap h.choose_spec
theorem Cell.lt {w : World} {b o : Nat} {v : Value} (h : Cell w b o v) : b < w.heap.size := by
  unfold Cell World.cell? at h
  cases hb : w.heap[b]? with
  | none => rw [hb] at h; simp at h
  | some x => exact lt_of_heap hb
theorem Cell.of_eq {w w' : World} {b o : Nat} {v : Value} (h : Cell w b o v) (hh : w'.heap[b]? = w.heap[b]?) : Cell w' b o v := by
  unfold Cell World.cell? at *
  dsimp only at *
  rw [hh]; exact h
theorem Blk.of_eq {w w' : World} {b : Nat} {cs : List Value} (h : Blk w b cs) (hh : w'.heap[b]? = w.heap[b]?) : Blk w' b cs := by
  obtain ⟨ty, h⟩ := h; exact ⟨ty, hh.trans h⟩
theorem Cell.chg {A : Nat → Prop} {w w' : World} {b o : Nat} {v : Value} (h : Cell w b o v) (hc : Chg A w w') (hn : ¬ A b) : Cell w' b o v := h.of_eq (hc.blk b h.lt hn)
theorem Cell.ext {w w' : World} {b o : Nat} {v : Value} (h : Cell w b o v) (hc : Ext w w') : Cell w' b o v := h.chg hc (fun x => x)
theorem Blk.cell {w : World} {b o : Nat} {cs : List Value} {v : Value} (h : Blk w b cs) (hv : cs[o]? = some v) : Cell w b o v := by
  obtain ⟨ty, h⟩ := h
  unfold Cell World.cell?
  dsimp only
  rw [h]
  simpa using hv
theorem Blk.frozen {w : World} {b o : Nat} {cs : List Value} (h : Blk w b cs) : w.frozen? ⟨b, o, none⟩ = false := by
  obtain ⟨ty, h⟩ := h
  unfold World.frozen?
  dsimp only
  rw [h]
  simp

/-! ### A store, a new block -/

theorem setCell_heap (w : World) (b o : Nat) (v : Value) (k : Nat) (h : k ≠ b) : (w.setCell ⟨b, o, none⟩ v).heap[k]? = w.heap[k]? := by
  simp only [World.setCell, Array.getElem?_modify]
  rw [if_neg (fun hh => h hh.symm)]
theorem Blk.setCell {w : World} {b o : Nat} {cs : List Value} (h : Blk w b cs) (v : Value) : Blk (w.setCell ⟨b, o, none⟩ v) b (cs.set o v) := by
  obtain ⟨ty, h⟩ := h
  refine ⟨ty, ?_⟩
  simp only [World.setCell, Array.getElem?_modify, if_true, h]
  simp
theorem Chg.setCell (w : World) (b o : Nat) (v : Value) : Chg (· = b) w (w.setCell ⟨b, o, none⟩ v) :=
  ⟨rfl, rfl, rfl, by simp [World.setCell], fun k _ hn => setCell_heap w b o v k hn⟩

def push (w : World) (o : Obj) : World := { w with heap := w.heap.push o }
theorem push_heap (w : World) (o : Obj) (k : Nat) (h : k < w.heap.size) : (push w o).heap[k]? = w.heap[k]? := by
  show (w.heap.push o)[k]? = _
  rw [Array.getElem?_push, if_neg (by omega)]
theorem push_new (w : World) (o : Obj) : (push w o).heap[w.heap.size]? = some o := by
  show (w.heap.push o)[_]? = _
  rw [Array.getElem?_push, if_pos rfl]
theorem push_size (w : World) (o : Obj) : (push w o).heap.size = w.heap.size + 1 := by simp [push]
theorem Ext.push (w : World) (o : Obj) : Ext w (push w o) := ⟨rfl, rfl, rfl, by rw [push_size]; omega, fun b hb _ => push_heap w o b hb⟩
theorem Blk.push (w : World) (cs : List Value) (ty : TypeId) : Blk (push w (.cells cs.toArray ty)) w.heap.size cs := ⟨ty, push_new _ _⟩

/-! ### Things that are owned -/

/-- A thing in memory: what it says of a world, and of which blocks; it hangs on these blocks alone. -/
structure HP where
  p : World → (Nat → Prop) → Prop
  loc : ∀ w w' F, p w F → (∀ b, F b → w'.heap[b]? = w.heap[b]?) → p w' F
  lt : ∀ w F b, p w F → F b → b < w.heap.size

def blk (b : Nat) (cs : List Value) : HP where
  p w F := Blk w b cs ∧ ∀ k, F k ↔ k = b
  loc w w' F h hh := ⟨h.1.of_eq (hh b ((h.2 b).2 rfl)), h.2⟩
  lt w F b' h hb := by rw [(h.2 b').1 hb]; exact h.1.lt

def Seps (w0 : World) (A : Nat → Prop) : List HP → World → (Nat → Prop) → Prop
  | [], _, U => ∀ b, ¬ U b
  | H :: L, w, U => ∃ F U', H.p w F ∧ (∀ b, F b → A b ∨ w0.heap.size ≤ b) ∧ (∀ b, F b → ¬ U' b) ∧ (∀ b, U b ↔ F b ∨ U' b) ∧ Seps w0 A L w U'

/-- From the world w0 on, in which the blocks of A may be turned, it has come to w, where these things are owned, side by side. -/
structure St (w0 : World) (A : Nat → Prop) (L : List HP) (w : World) : Prop where
  chg : Chg A w0 w
  seps : ∃ U, Seps w0 A L w U

theorem Seps.lt {w0 : World} {A : Nat → Prop} {L : List HP} {w : World} {U : Nat → Prop} (h : Seps w0 A L w U) : ∀ b, U b → b < w.heap.size := by
  induction L generalizing U with
  | nil => intro b hb; exact (h b hb).elim
  | cons H L ih =>
    obtain ⟨F, U', h1, h2, h3, h4, h5⟩ := h
    intro b hb
    rcases (h4 b).1 hb with hf | hu
    · exact H.lt _ _ _ h1 hf
    · exact ih h5 b hu
theorem Seps.loc {w0 : World} {A : Nat → Prop} {L : List HP} {w w' : World} {U : Nat → Prop} (h : Seps w0 A L w U) (hh : ∀ b, U b → w'.heap[b]? = w.heap[b]?) : Seps w0 A L w' U := by
  induction L generalizing U with
  | nil => exact h
  | cons H L ih =>
    obtain ⟨F, U', h1, h2, h3, h4, h5⟩ := h
    exact ⟨F, U', H.loc _ _ _ h1 fun b hb => hh b ((h4 b).2 (.inl hb)), h2, h3, h4, ih h5 fun b hb => hh b ((h4 b).2 (.inr hb))⟩

theorem St.start (w : World) : St w none1 [] w := ⟨Chg.refl _ _, none1, fun _ h => h⟩
/-- The start of a function that may turn what it is given. -/
theorem St.begin {w : World} {F : Nat → Prop} {H : HP} (h : H.p w F) : St w F [H] w :=
  ⟨Chg.refl _ _, F, F, none1, h, fun _ h => .inl h, fun _ _ h => h, fun _ => ⟨.inl, fun h => h.elim id fun h => h.elim⟩, fun _ h => h⟩

/-- A step that turns nothing that was there. -/
theorem St.ext {w0 : World} {A : Nat → Prop} {L : List HP} {w w' : World} (h : St w0 A L w) (e : Ext w w') : St w0 A L w' := by
  obtain ⟨U, hU⟩ := h.seps
  exact ⟨h.chg.then e, U, hU.loc fun b hb => e.blk b (hU.lt b hb) (fun x => x)⟩
theorem St.drew {w0 : World} {A : Nat → Prop} {L : List HP} {w : World} (h : St w0 A L w) : St w0 A L (drew w) := h.ext (Ext.drew w)

/-- A new thing. -/
theorem St.new {w0 : World} {A : Nat → Prop} {L : List HP} {w w' : World} {H : HP} {F : Nat → Prop} (h : St w0 A L w) (e : Ext w w') (hH : H.p w' F) (hF : ∀ b, F b → w.heap.size ≤ b) : St w0 A (H :: L) w' := by
  obtain ⟨U, hU⟩ := (h.ext e).seps
  obtain ⟨U0, hU0⟩ := h.seps
  have hU0' : Seps w0 A L w' U0 := hU0.loc fun b hb => e.blk b (hU0.lt b hb) (fun x => x)
  refine ⟨(h.ext e).chg, fun b => F b ∨ U0 b, F, U0, hH, fun b hb => .inr ?_, fun b hb hu => ?_, fun b => Iff.rfl, hU0'⟩
  · exact Nat.le_trans h.chg.size (hF b hb)
  · have := hU0.lt b hu; have := hF b hb; omega

/-- The thing at the head turns into another one. -/
theorem St.turn {w0 : World} {A : Nat → Prop} {L : List HP} {w w' : World} {H H' : HP} (h : St w0 A (H :: L) w)
    (hk : ∀ F, H.p w F → ∃ F', H'.p w' F' ∧ (∀ b, F' b → F b ∨ w.heap.size ≤ b) ∧ Chg F w w') : St w0 A (H' :: L) w' := by
  obtain ⟨U, F, U', h1, h2, h3, h4, h5⟩ := h.seps
  obtain ⟨F', g1, g2, g3⟩ := hk F h1
  refine ⟨h.chg.trans g3 (fun _ h => h) fun b hb hf => ?_, fun b => F' b ∨ U' b, F', U', g1, fun b hb => ?_, fun b hb hu => ?_, fun b => Iff.rfl, ?_⟩
  · exact (h2 b hf).elim id fun hh => by omega
  · rcases g2 b hb with hf | hf
    · exact h2 b hf
    · exact .inr (Nat.le_trans h.chg.size hf)
  · rcases g2 b hb with hf | hf
    · exact h3 b hf hu
    · have := h5.lt b hu; omega
  · exact h5.loc fun b hb => g3.blk b (h5.lt b hb) fun hf => h3 b hf hb

theorem St.drop {w0 : World} {A : Nat → Prop} {L : List HP} {w : World} {H : HP} (h : St w0 A (H :: L) w) : St w0 A L w := by
  obtain ⟨U, F, U', h1, h2, h3, h4, h5⟩ := h.seps
  exact ⟨h.chg, U', h5⟩
theorem St.swap {w0 : World} {A : Nat → Prop} {L : List HP} {w : World} {H H' : HP} (h : St w0 A (H :: H' :: L) w) : St w0 A (H' :: H :: L) w := by
  obtain ⟨U, F, U', h1, h2, h3, h4, F2, U2, g1, g2, g3, g4, g5⟩ := h.seps
  refine ⟨h.chg, U, F2, fun b => F b ∨ U2 b, g1, g2, fun b hb => ?_, fun b => ?_, F, U2, h1, h2, fun b hb hu => ?_, fun b => Iff.rfl, g5⟩
  · rintro (hf | hu)
    · exact h3 b hf ((g4 b).2 (.inl hb))
    · exact g3 b hb hu
  · rw [h4 b, g4 b]
    constructor
    · rintro (h | h | h)
      · exact .inr (.inl h)
      · exact .inl h
      · exact .inr (.inr h)
    · rintro (h | h | h)
      · exact .inr (.inl h)
      · exact .inl h
      · exact .inr (.inr h)
  · exact h3 b hb ((g4 b).2 (.inr hu))
theorem St.under {w0 : World} {A : Nat → Prop} {L L' : List HP} {w : World} {H : HP} (hk : ∀ w0 A w U, Seps w0 A L w U → Seps w0 A L' w U) (h : St w0 A (H :: L) w) : St w0 A (H :: L') w := by
  obtain ⟨U, F, U', h1, h2, h3, h4, h5⟩ := h.seps
  exact ⟨h.chg, U, F, U', h1, h2, h3, h4, hk _ _ _ _ h5⟩
theorem Seps.swap {w0 : World} {A : Nat → Prop} {L : List HP} {w : World} {H H' : HP} {U : Nat → Prop} (h : Seps w0 A (H :: H' :: L) w U) : Seps w0 A (H' :: H :: L) w U := by
  obtain ⟨F, U', h1, h2, h3, h4, F2, U2, g1, g2, g3, g4, g5⟩ := h
  refine ⟨F2, fun b => F b ∨ U2 b, g1, g2, fun b hb => ?_, fun b => ?_, F, U2, h1, h2, fun b hb hu => ?_, fun b => Iff.rfl, g5⟩
  · rintro (hf | hu)
    · exact h3 b hf ((g4 b).2 (.inl hb))
    · exact g3 b hb hu
  · rw [h4 b, g4 b]
    constructor
    · rintro (h | h | h)
      · exact .inr (.inl h)
      · exact .inl h
      · exact .inr (.inr h)
    · rintro (h | h | h)
      · exact .inr (.inl h)
      · exact .inl h
      · exact .inr (.inr h)
  · exact h3 b hb ((g4 b).2 (.inr hu))
theorem Seps.under {w0 : World} {A : Nat → Prop} {L L' : List HP} {w : World} {H : HP} {U : Nat → Prop} (hk : ∀ U, Seps w0 A L w U → Seps w0 A L' w U) (h : Seps w0 A (H :: L) w U) : Seps w0 A (H :: L') w U := by
  obtain ⟨F, U', h1, h2, h3, h4, h5⟩ := h
  exact ⟨F, U', h1, h2, h3, h4, hk _ h5⟩
/-- The k-th thing to the front. -/
theorem Seps.pull {w0 : World} {A : Nat → Prop} {L1 L2 : List HP} {w : World} {H : HP} {U : Nat → Prop} (h : Seps w0 A (L1 ++ H :: L2) w U) : Seps w0 A (H :: (L1 ++ L2)) w U := by
  induction L1 generalizing U with
  | nil => exact h
  | cons X L1 ih => exact Seps.swap (Seps.under (fun U h => ih h) h)
theorem St.pull {w0 : World} {A : Nat → Prop} {w : World} (L1 : List HP) {H : HP} {L2 : List HP} (h : St w0 A (L1 ++ H :: L2) w) : St w0 A (H :: (L1 ++ L2)) w := by
  obtain ⟨U, hU⟩ := h.seps
  exact ⟨h.chg, U, hU.pull⟩
theorem St.p1 {w0 : World} {A : Nat → Prop} {w : World} {P0 H : HP} {R : List HP} (h : St w0 A (P0 :: H :: R) w) : St w0 A (H :: P0 :: R) w := St.pull [P0] h
theorem St.p2 {w0 : World} {A : Nat → Prop} {w : World} {P0 P1 H : HP} {R : List HP} (h : St w0 A (P0 :: P1 :: H :: R) w) : St w0 A (H :: P0 :: P1 :: R) w := St.pull [P0, P1] h
theorem St.p3 {w0 : World} {A : Nat → Prop} {w : World} {P0 P1 P2 H : HP} {R : List HP} (h : St w0 A (P0 :: P1 :: P2 :: H :: R) w) : St w0 A (H :: P0 :: P1 :: P2 :: R) w := St.pull [P0, P1, P2] h
theorem St.p4 {w0 : World} {A : Nat → Prop} {w : World} {P0 P1 P2 P3 H : HP} {R : List HP} (h : St w0 A (P0 :: P1 :: P2 :: P3 :: H :: R) w) : St w0 A (H :: P0 :: P1 :: P2 :: P3 :: R) w := St.pull [P0, P1, P2, P3] h
theorem St.p5 {w0 : World} {A : Nat → Prop} {w : World} {P0 P1 P2 P3 P4 H : HP} {R : List HP} (h : St w0 A (P0 :: P1 :: P2 :: P3 :: P4 :: H :: R) w) : St w0 A (H :: P0 :: P1 :: P2 :: P3 :: P4 :: R) w := St.pull [P0, P1, P2, P3, P4] h
theorem St.p6 {w0 : World} {A : Nat → Prop} {w : World} {P0 P1 P2 P3 P4 P5 H : HP} {R : List HP} (h : St w0 A (P0 :: P1 :: P2 :: P3 :: P4 :: P5 :: H :: R) w) : St w0 A (H :: P0 :: P1 :: P2 :: P3 :: P4 :: P5 :: R) w := St.pull [P0, P1, P2, P3, P4, P5] h
theorem St.p7 {w0 : World} {A : Nat → Prop} {w : World} {P0 P1 P2 P3 P4 P5 P6 H : HP} {R : List HP} (h : St w0 A (P0 :: P1 :: P2 :: P3 :: P4 :: P5 :: P6 :: H :: R) w) : St w0 A (H :: P0 :: P1 :: P2 :: P3 :: P4 :: P5 :: P6 :: R) w := St.pull [P0, P1, P2, P3, P4, P5, P6] h
theorem St.p8 {w0 : World} {A : Nat → Prop} {w : World} {P0 P1 P2 P3 P4 P5 P6 P7 H : HP} {R : List HP} (h : St w0 A (P0 :: P1 :: P2 :: P3 :: P4 :: P5 :: P6 :: P7 :: H :: R) w) : St w0 A (H :: P0 :: P1 :: P2 :: P3 :: P4 :: P5 :: P6 :: P7 :: R) w := St.pull [P0, P1, P2, P3, P4, P5, P6, P7] h
theorem St.p9 {w0 : World} {A : Nat → Prop} {w : World} {P0 P1 P2 P3 P4 P5 P6 P7 P8 H : HP} {R : List HP} (h : St w0 A (P0 :: P1 :: P2 :: P3 :: P4 :: P5 :: P6 :: P7 :: P8 :: H :: R) w) : St w0 A (H :: P0 :: P1 :: P2 :: P3 :: P4 :: P5 :: P6 :: P7 :: P8 :: R) w := St.pull [P0, P1, P2, P3, P4, P5, P6, P7, P8] h
theorem St.p10 {w0 : World} {A : Nat → Prop} {w : World} {P0 P1 P2 P3 P4 P5 P6 P7 P8 P9 H : HP} {R : List HP} (h : St w0 A (P0 :: P1 :: P2 :: P3 :: P4 :: P5 :: P6 :: P7 :: P8 :: P9 :: H :: R) w) : St w0 A (H :: P0 :: P1 :: P2 :: P3 :: P4 :: P5 :: P6 :: P7 :: P8 :: P9 :: R) w := St.pull [P0, P1, P2, P3, P4, P5, P6, P7, P8, P9] h
theorem St.p11 {w0 : World} {A : Nat → Prop} {w : World} {P0 P1 P2 P3 P4 P5 P6 P7 P8 P9 P10 H : HP} {R : List HP} (h : St w0 A (P0 :: P1 :: P2 :: P3 :: P4 :: P5 :: P6 :: P7 :: P8 :: P9 :: P10 :: H :: R) w) : St w0 A (H :: P0 :: P1 :: P2 :: P3 :: P4 :: P5 :: P6 :: P7 :: P8 :: P9 :: P10 :: R) w := St.pull [P0, P1, P2, P3, P4, P5, P6, P7, P8, P9, P10] h
theorem St.p12 {w0 : World} {A : Nat → Prop} {w : World} {P0 P1 P2 P3 P4 P5 P6 P7 P8 P9 P10 P11 H : HP} {R : List HP} (h : St w0 A (P0 :: P1 :: P2 :: P3 :: P4 :: P5 :: P6 :: P7 :: P8 :: P9 :: P10 :: P11 :: H :: R) w) : St w0 A (H :: P0 :: P1 :: P2 :: P3 :: P4 :: P5 :: P6 :: P7 :: P8 :: P9 :: P10 :: P11 :: R) w := St.pull [P0, P1, P2, P3, P4, P5, P6, P7, P8, P9, P10, P11] h
theorem St.p13 {w0 : World} {A : Nat → Prop} {w : World} {P0 P1 P2 P3 P4 P5 P6 P7 P8 P9 P10 P11 P12 H : HP} {R : List HP} (h : St w0 A (P0 :: P1 :: P2 :: P3 :: P4 :: P5 :: P6 :: P7 :: P8 :: P9 :: P10 :: P11 :: P12 :: H :: R) w) : St w0 A (H :: P0 :: P1 :: P2 :: P3 :: P4 :: P5 :: P6 :: P7 :: P8 :: P9 :: P10 :: P11 :: P12 :: R) w := St.pull [P0, P1, P2, P3, P4, P5, P6, P7, P8, P9, P10, P11, P12] h
theorem St.p14 {w0 : World} {A : Nat → Prop} {w : World} {P0 P1 P2 P3 P4 P5 P6 P7 P8 P9 P10 P11 P12 P13 H : HP} {R : List HP} (h : St w0 A (P0 :: P1 :: P2 :: P3 :: P4 :: P5 :: P6 :: P7 :: P8 :: P9 :: P10 :: P11 :: P12 :: P13 :: H :: R) w) : St w0 A (H :: P0 :: P1 :: P2 :: P3 :: P4 :: P5 :: P6 :: P7 :: P8 :: P9 :: P10 :: P11 :: P12 :: P13 :: R) w := St.pull [P0, P1, P2, P3, P4, P5, P6, P7, P8, P9, P10, P11, P12, P13] h
theorem St.p15 {w0 : World} {A : Nat → Prop} {w : World} {P0 P1 P2 P3 P4 P5 P6 P7 P8 P9 P10 P11 P12 P13 P14 H : HP} {R : List HP} (h : St w0 A (P0 :: P1 :: P2 :: P3 :: P4 :: P5 :: P6 :: P7 :: P8 :: P9 :: P10 :: P11 :: P12 :: P13 :: P14 :: H :: R) w) : St w0 A (H :: P0 :: P1 :: P2 :: P3 :: P4 :: P5 :: P6 :: P7 :: P8 :: P9 :: P10 :: P11 :: P12 :: P13 :: P14 :: R) w := St.pull [P0, P1, P2, P3, P4, P5, P6, P7, P8, P9, P10, P11, P12, P13, P14] h
theorem St.p0 {w0 : World} {A : Nat → Prop} {w : World} {L : List HP} (h : St w0 A L w) : St w0 A L w := h

/-- What is at the head, as a fact of the world. -/
theorem St.head {w0 : World} {A : Nat → Prop} {L : List HP} {w : World} {H : HP} (h : St w0 A (H :: L) w) : ∃ F, H.p w F ∧ ∀ b, F b → A b ∨ w0.heap.size ≤ b := by
  obtain ⟨U, F, U', h1, h2, _⟩ := h.seps; exact ⟨F, h1, h2⟩
theorem St.hb {w0 : World} {A : Nat → Prop} {L : List HP} {w : World} {b : Nat} {cs : List Value} (h : St w0 A (blk b cs :: L) w) : Blk w b cs := by
  obtain ⟨F, h1, _⟩ := h.head; exact h1.1

end Go.Fw
