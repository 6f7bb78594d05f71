/-
  Memory: blocks, what a step has turned, things that are owned side by side. Own work; nothing here is trusted.
-/
import Derived.Test.YtddeoncipdpkfaaGreatDoorZFw4
import Derived.Below
import Derived.IntWalk
import Derived.Laws.AppendOwn
import Derived.Laws.MakeOwn
set_option linter.all false
namespace Go.Fw

/-! ### Blocks, cells, what has turned -/

def Blk (w : World) (b : Nat) (cs : List Value) : Prop := ∃ ty, w.heap[b]? = some (.cells cs.toArray ty (0, 0))
def Cell (w : World) (b o : Nat) (v : Value) : Prop := w.cell? ⟨b, o, none⟩ = some v

/-- Of the blocks that were there, at most those of A have turned. -/
structure Chg (A : Nat → Prop) (w w' : World) : Prop where
  os : w'.os = w.os
  tape : w'.tape = w.tape
  output : w'.output = w.output
  size : w.heap.size ≤ w'.heap.size
  blk : ∀ b, b < w.heap.size → ¬ A b → w'.heap[b]? = w.heap[b]?
def none1 : Nat → Prop := fun _ => False
/-- Nothing that was there has turned. -/
abbrev Ext (w w' : World) : Prop := Chg none1 w w'

theorem Chg.refl (A : Nat → Prop) (w : World) : Chg A w w := ⟨rfl, rfl, rfl, Nat.le_refl _, fun _ _ _ => rfl⟩
theorem Chg.trans {A B C : Nat → Prop} {w w1 w2 : World} (h : Chg A w w1) (k : Chg B w1 w2) (hA : ∀ b, A b → C b) (hB : ∀ b, b < w.heap.size → B b → C b) : Chg C w w2 :=
  ⟨k.os.trans h.os, k.tape.trans h.tape, k.output.trans h.output, Nat.le_trans h.size k.size, fun b hb hn =>
    (k.blk b (Nat.lt_of_lt_of_le hb h.size) fun hh => hn (hB b hb hh)).trans (h.blk b hb fun hh => hn (hA b hh))⟩
theorem Chg.then {A : Nat → Prop} {w w1 w2 : World} (h : Chg A w w1) (k : Ext w1 w2) : Chg A w w2 := h.trans k (fun _ h => h) fun _ _ h => h.elim
theorem Chg.mono {A B : Nat → Prop} {w w' : World} (h : Chg A w w') (hh : ∀ b, A b → B b) : Chg B w w' := ⟨h.os, h.tape, h.output, h.size, fun b hb hn => h.blk b hb fun x => hn (hh b x)⟩
theorem Ext.refl (w : World) : Ext w w := Chg.refl _ _
theorem Ext.trans {w w1 w2 : World} (h : Ext w w1) (k : Ext w1 w2) : Ext w w2 := Chg.then h k
theorem Ext.chg {A : Nat → Prop} {w w' : World} (h : Ext w w') : Chg A w w' := h.mono fun _ h => h.elim
theorem Ext.drew (w : World) : Ext w (drew w) := ⟨rfl, rfl, rfl, Nat.le_refl _, fun _ _ _ => rfl⟩
theorem Chg.below {w w' : World} (h : Ext w w') : Go.RowKit.Below w.heap.size w w' := ⟨h.os, h.tape, h.output, h.size, fun b hb => h.blk b hb (fun x => x)⟩

theorem lt_of_heap {w : World} {b : Nat} {o : Obj} (h : w.heap[b]? = some o) : b < w.heap.size := (Array.getElem?_eq_some_iff.1 h).1
theorem Blk.lt {w : World} {b : Nat} {cs : List Value} (h : Blk w b cs) : b < w.heap.size := lt_of_heap h.choose_spec
theorem Cell.lt {w : World} {b o : Nat} {v : Value} (h : Cell w b o v) : b < w.heap.size := by
  unfold Cell World.cell? at h
  cases hb : w.heap[b]? with
  | none => rw [hb] at h; simp at h
  | some x => exact lt_of_heap hb
theorem Cell.of_eq {w w' : World} {b o : Nat} {v : Value} (h : Cell w b o v) (hh : w'.heap[b]? = w.heap[b]?) : Cell w' b o v := by
  unfold Cell World.cell? at *
  dsimp only at *
  rw [hh]; exact h
theorem Blk.of_eq {w w' : World} {b : Nat} {cs : List Value} (h : Blk w b cs) (hh : w'.heap[b]? = w.heap[b]?) : Blk w' b cs := by
  obtain ⟨ty, h⟩ := h; exact ⟨ty, hh.trans h⟩
theorem Cell.chg {A : Nat → Prop} {w w' : World} {b o : Nat} {v : Value} (h : Cell w b o v) (hc : Chg A w w') (hn : ¬ A b) : Cell w' b o v := h.of_eq (hc.blk b h.lt hn)
theorem Cell.ext {w w' : World} {b o : Nat} {v : Value} (h : Cell w b o v) (hc : Ext w w') : Cell w' b o v := h.chg hc (fun x => x)
theorem Blk.cell {w : World} {b o : Nat} {cs : List Value} {v : Value} (h : Blk w b cs) (hv : cs[o]? = some v) : Cell w b o v := by
  obtain ⟨ty, h⟩ := h
  unfold Cell World.cell?
  dsimp only
  rw [h]
  simpa using hv
theorem Blk.frozen {w : World} {b o : Nat} {cs : List Value} (h : Blk w b cs) : w.frozen? ⟨b, o, none⟩ = false := by
  obtain ⟨ty, h⟩ := h
  unfold World.frozen?
  dsimp only
  rw [h]
  simp

/-! ### A store, a new block -/

theorem setCell_heap (w : World) (b o : Nat) (v : Value) (k : Nat) (h : k ≠ b) : (w.setCell ⟨b, o, none⟩ v).heap[k]? = w.heap[k]? := by
  simp only [World.setCell, Array.getElem?_modify]
  rw [if_neg (fun hh => h hh.symm)]
theorem Blk.setCell {w : World} {b o : Nat} {cs : List Value} (h : Blk w b cs) (v : Value) : Blk (w.setCell ⟨b, o, none⟩ v) b (cs.set o v) := by
  obtain ⟨ty, h⟩ := h
  refine ⟨ty, ?_⟩
  simp only [World.setCell, Array.getElem?_modify, if_true, h]
  simp
theorem Chg.setCell (w : World) (b o : Nat) (v : Value) : Chg (· = b) w (w.setCell ⟨b, o, none⟩ v) :=
  ⟨rfl, rfl, rfl, by simp [World.setCell], fun k _ hn => setCell_heap w b o v k hn⟩

def push (w : World) (o : Obj) : World := { w with heap := w.heap.push o }
theorem push_heap (w : World) (o : Obj) (k : Nat) (h : k < w.heap.size) : (push w o).heap[k]? = w.heap[k]? := by
  show (w.heap.push o)[k]? = _
  rw [Array.getElem?_push, if_neg (by omega)]
theorem push_new (w : World) (o : Obj) : (push w o).heap[w.heap.size]? = some o := by
  show (w.heap.push o)[_]? = _
  rw [Array.getElem?_push, if_pos rfl]
theorem push_size (w : World) (o : Obj) : (push w o).heap.size = w.heap.size + 1 := by simp [push]
theorem Ext.push (w : World) (o : Obj) : Ext w (push w o) := ⟨rfl, rfl, rfl, by rw [push_size]; omega, fun b hb _ => push_heap w o b hb⟩
theorem Blk.push (w : World) (cs : List Value) (ty : TypeId) : Blk (push w (.cells cs.toArray ty)) w.heap.size cs := ⟨ty, push_new _ _⟩

/-! ### Things that are owned -/

/-- A thing in memory: what it says of a world, and of which blocks; it hangs on these blocks alone. -/
structure HP where
  p : World → (Nat → Prop) → Prop
  loc : ∀ w w' F, p w F → (∀ b, F b → w'.heap[b]? = w.heap[b]?) → p w' F
  lt : ∀ w F b, p w F → F b → b < w.heap.size

def blk (b : Nat) (cs : List Value) : HP where
  p w F := Blk w b cs ∧ ∀ k, F k ↔ k = b
  loc w w' F h hh := ⟨h.1.of_eq (hh b ((h.2 b).2 rfl)), h.2⟩
  lt w F b' h hb := by rw [(h.2 b').1 hb]; exact h.1.lt

def Seps (w0 : World) (A : Nat → Prop) : List HP → World → (Nat → Prop) → Prop
  | [], _, U => ∀ b, ¬ U b
  | H :: L, w, U => ∃ F U', H.p w F ∧ (∀ b, F b → A b ∨ w0.heap.size ≤ b) ∧ (∀ b, F b → ¬ U' b) ∧ (∀ b, U b ↔ F b ∨ U' b) ∧ Seps w0 A L w U'

/-- From the world w0 on, in which the blocks of A may be turned, it has come to w, where these things are owned, side by side. -/
structure St (w0 : World) (A : Nat → Prop) (L : List HP) (w : World) : Prop where
  chg : Chg A w0 w
  seps : ∃ U, Seps w0 A L w U

theorem Seps.lt {w0 : World} {A : Nat → Prop} {L : List HP} {w : World} {U : Nat → Prop} (h : Seps w0 A L w U) : ∀ b, U b → b < w.heap.size := by
  induction L generalizing U with
  | nil => intro b hb; exact (h b hb).elim
  | cons H L ih =>
    obtain ⟨F, U', h1, h2, h3, h4, h5⟩ := h
    intro b hb
    rcases (h4 b).1 hb with hf | hu
    · exact H.lt _ _ _ h1 hf
    · exact ih h5 b hu
theorem Seps.loc {w0 : World} {A : Nat → Prop} {L : List HP} {w w' : World} {U : Nat → Prop} (h : Seps w0 A L w U) (hh : ∀ b, U b → w'.heap[b]? = w.heap[b]?) : Seps w0 A L w' U := by
  induction L generalizing U with
  | nil => exact h
  | cons H L ih =>
    obtain ⟨F, U', h1, h2, h3, h4, h5⟩ := h
    exact ⟨F, U', H.loc _ _ _ h1 fun b hb => hh b ((h4 b).2 (.inl hb)), h2, h3, h4, ih h5 fun b hb => hh b ((h4 b).2 (.inr hb))⟩

theorem St.start (w : World) : St w none1 [] w := ⟨Chg.refl _ _, none1, fun _ h => h⟩
/-- The start of a function that may turn what it is given. -/
theorem St.begin {w : World} {F : Nat → Prop} {H : HP} (h : H.p w F) : St w F [H] w :=
  ⟨Chg.refl _ _, F, F, none1, h, fun _ h => .inl h, fun _ _ h => h, fun _ => ⟨.inl, fun h => h.elim id fun h => h.elim⟩, fun _ h => h⟩

/-- A step that turns nothing that was there. -/
theorem St.ext {w0 : World} {A : Nat → Prop} {L : List HP} {w w' : World} (h : St w0 A L w) (e : Ext w w') : St w0 A L w' := by
  obtain ⟨U, hU⟩ := h.seps
  exact ⟨h.chg.then e, U, hU.loc fun b hb => e.blk b (hU.lt b hb) (fun x => x)⟩
theorem St.drew {w0 : World} {A : Nat → Prop} {L : List HP} {w : World} (h : St w0 A L w) : St w0 A L (drew w) := h.ext (Ext.drew w)

/-- A new thing. -/
theorem St.new {w0 : World} {A : Nat → Prop} {L : List HP} {w w' : World} {H : HP} {F : Nat → Prop} (h : St w0 A L w) (e : Ext w w') (hH : H.p w' F) (hF : ∀ b, F b → w.heap.size ≤ b) : St w0 A (H :: L) w' := by
  obtain ⟨U, hU⟩ := (h.ext e).seps
  obtain ⟨U0, hU0⟩ := h.seps
  have hU0' : Seps w0 A L w' U0 := hU0.loc fun b hb => e.blk b (hU0.lt b hb) (fun x => x)
  refine ⟨(h.ext e).chg, fun b => F b ∨ U0 b, F, U0, hH, fun b hb => .inr ?_, fun b hb hu => ?_, fun b => Iff.rfl, hU0'⟩
  · exact Nat.le_trans h.chg.size (hF b hb)
  · have := hU0.lt b hu; have := hF b hb; omega

/-- The thing at the head turns into another one. -/
theorem St.turn {w0 : World} {A : Nat → Prop} {L : List HP} {w w' : World} {H H' : HP} (h : St w0 A (H :: L) w)
    (hk : ∀ F, H.p w F → ∃ F', H'.p w' F' ∧ (∀ b, F' b → F b ∨ w.heap.size ≤ b) ∧ Chg F w w') : St w0 A (H' :: L) w' := by
  obtain ⟨U, F, U', h1, h2, h3, h4, h5⟩ := h.seps
  obtain ⟨F', g1, g2, g3⟩ := hk F h1
  refine ⟨h.chg.trans g3 (fun _ h => h) fun b hb hf => ?_, fun b => F' b ∨ U' b, F', U', g1, fun b hb => ?_, fun b hb hu => ?_, fun b => Iff.rfl, ?_⟩
  · exact (h2 b hf).elim id fun hh => by omega
  · rcases g2 b hb with hf | hf
    · exact h2 b hf
    · exact .inr (Nat.le_trans h.chg.size hf)
  · rcases g2 b hb with hf | hf
    · exact h3 b hf hu
    · have := h5.lt b hu; omega
  · exact h5.loc fun b hb => g3.blk b (h5.lt b hb) fun hf => h3 b hf hb

theorem St.drop {w0 : World} {A : Nat → Prop} {L : List HP} {w : World} {H : HP} (h : St w0 A (H :: L) w) : St w0 A L w := by
  obtain ⟨U, F, U', h1, h2, h3, h4, h5⟩ := h.seps
  exact ⟨h.chg, U', h5⟩
theorem St.swap {w0 : World} {A : Nat → Prop} {L : List HP} {w : World} {H H' : HP} (h : St w0 A (H :: H' :: L) w) : St w0 A (H' :: H :: L) w := by
  obtain ⟨U, F, U', h1, h2, h3, h4, F2, U2, g1, g2, g3, g4, g5⟩ := h.seps
  refine ⟨h.chg, U, F2, fun b => F b ∨ U2 b, g1, g2, fun b hb => ?_, fun b => ?_, F, U2, h1, h2, fun b hb hu => ?_, fun b => Iff.rfl, g5⟩
  · rintro (hf | hu)
    · exact h3 b hf ((g4 b).2 (.inl hb))
    · exact g3 b hb hu
  · rw [h4 b, g4 b]
    constructor
    · rintro (h | h | h)
      · exact .inr (.inl h)
      · exact .inl h
      · exact .inr (.inr h)
    · rintro (h | h | h)
      · exact .inr (.inl h)
      · exact .inl h
      · exact .inr (.inr h)
  · exact h3 b hb ((g4 b).2 (.inr hu))
theorem St.under {w0 : World} {A : Nat → Prop} {L L' : List HP} {w : World} {H : HP} (hk : ∀ w0 A w U, Seps w0 A L w U → Seps w0 A L' w U) (h : St w0 A (H :: L) w) : St w0 A (H :: L') w := by
  obtain ⟨U, F, U', h1, h2, h3, h4, h5⟩ := h.seps
  exact ⟨h.chg, U, F, U', h1, h2, h3, h4, hk _ _ _ _ h5⟩
theorem Seps.swap {w0 : World} {A : Nat → Prop} {L : List HP} {w : World} {H H' : HP} {U : Nat → Prop} (h : Seps w0 A (H :: H' :: L) w U) : Seps w0 A (H' :: H :: L) w U := by
  obtain ⟨F, U', h1, h2, h3, h4, F2, U2, g1, g2, g3, g4, g5⟩ := h
  refine ⟨F2, fun b => F b ∨ U2 b, g1, g2, fun b hb => ?_, fun b => ?_, F, U2, h1, h2, fun b hb hu => ?_, fun b => Iff.rfl, g5⟩
  · rintro (hf | hu)
    · exact h3 b hf ((g4 b).2 (.inl hb))
    · exact g3 b hb hu
  · rw [h4 b, g4 b]
    constructor
    · rintro (h | h | h)
      · exact .inr (.inl h)
      · exact .inl h
      · exact .inr (.inr h)
    · rintro (h | h | h)
      · exact .inr (.inl h)
      · exact .inl h
      · exact .inr (.inr h)
  · exact h3 b hb ((g4 b).2 (.inr hu))
theorem Seps.under {w0 : World} {A : Nat → Prop} {L L' : List HP} {w : World} {H : HP} {U : Nat → Prop} (hk : ∀ U, Seps w0 A L w U → Seps w0 A L' w U) (h : Seps w0 A (H :: L) w U) : Seps w0 A (H :: L') w U := by
  obtain ⟨F, U', h1, h2, h3, h4, h5⟩ := h
  exact ⟨F, U', h1, h2, h3, h4, hk _ h5⟩
/-- The k-th thing to the front. -/
theorem Seps.pull {w0 : World} {A : Nat → Prop} {L1 L2 : List HP} {w : World} {H : HP} {U : Nat → Prop} (h : Seps w0 A (L1 ++ H :: L2) w U) : Seps w0 A (H :: (L1 ++ L2)) w U := by
  induction L1 generalizing U with
  | nil => exact h
  | cons X L1 ih => exact Seps.swap (Seps.under (fun U h => ih h) h)
theorem St.pull {w0 : World} {A : Nat → Prop} {w : World} (L1 : List HP) {H : HP} {L2 : List HP} (h : St w0 A (L1 ++ H :: L2) w) : St w0 A (H :: (L1 ++ L2)) w := by
  obtain ⟨U, hU⟩ := h.seps
  exact ⟨h.chg, U, hU.pull⟩
theorem St.p1 {w0 : World} {A : Nat → Prop} {w : World} {P0 H : HP} {R : List HP} (h : St w0 A (P0 :: H :: R) w) : St w0 A (H :: P0 :: R) w := St.pull [P0] h
theorem St.p2 {w0 : World} {A : Nat → Prop} {w : World} {P0 P1 H : HP} {R : List HP} (h : St w0 A (P0 :: P1 :: H :: R) w) : St w0 A (H :: P0 :: P1 :: R) w := St.pull [P0, P1] h
theorem St.p3 {w0 : World} {A : Nat → Prop} {w : World} {P0 P1 P2 H : HP} {R : List HP} (h : St w0 A (P0 :: P1 :: P2 :: H :: R) w) : St w0 A (H :: P0 :: P1 :: P2 :: R) w := St.pull [P0, P1, P2] h
theorem St.p4 {w0 : World} {A : Nat → Prop} {w : World} {P0 P1 P2 P3 H : HP} {R : List HP} (h : St w0 A (P0 :: P1 :: P2 :: P3 :: H :: R) w) : St w0 A (H :: P0 :: P1 :: P2 :: P3 :: R) w := St.pull [P0, P1, P2, P3] h
theorem St.p5 {w0 : World} {A : Nat → Prop} {w : World} {P0 P1 P2 P3 P4 H : HP} {R : List HP} (h : St w0 A (P0 :: P1 :: P2 :: P3 :: P4 :: H :: R) w) : St w0 A (H :: P0 :: P1 :: P2 :: P3 :: P4 :: R) w := St.pull [P0, P1, P2, P3, P4] h
theorem St.p6 {w0 : World} {A : Nat → Prop} {w : World} {P0 P1 P2 P3 P4 P5 H : HP} {R : List HP} (h : St w0 A (P0 :: P1 :: P2 :: P3 :: P4 :: P5 :: H :: R) w) : St w0 A (H :: P0 :: P1 :: P2 :: P3 :: P4 :: P5 :: R) w := St.pull [P0, P1, P2, P3, P4, P5] h
theorem St.p7 {w0 : World} {A : Nat → Prop} {w : World} {P0 P1 P2 P3 P4 P5 P6 H : HP} {R : List HP} (h : St w0 A (P0 :: P1 :: P2 :: P3 :: P4 :: P5 :: P6 :: H :: R) w) : St w0 A (H :: P0 :: P1 :: P2 :: P3 :: P4 :: P5 :: P6 :: R) w := St.pull [P0, P1, P2, P3, P4, P5, P6] h
theorem St.p8 {w0 : World} {A : Nat → Prop} {w : World} {P0 P1 P2 P3 P4 P5 P6 P7 H : HP} {R : List HP} (h : St w0 A (P0 :: P1 :: P2 :: P3 :: P4 :: P5 :: P6 :: P7 :: H :: R) w) : St w0 A (H :: P0 :: P1 :: P2 :: P3 :: P4 :: P5 :: P6 :: P7 :: R) w := St.pull [P0, P1, P2, P3, P4, P5, P6, P7] h
theorem St.p9 {w0 : World} {A : Nat → Prop} {w : World} {P0 P1 P2 P3 P4 P5 P6 P7 P8 H : HP} {R : List HP} (h : St w0 A (P0 :: P1 :: P2 :: P3 :: P4 :: P5 :: P6 :: P7 :: P8 :: H :: R) w) : St w0 A (H :: P0 :: P1 :: P2 :: P3 :: P4 :: P5 :: P6 :: P7 :: P8 :: R) w := St.pull [P0, P1, P2, P3, P4, P5, P6, P7, P8] h
theorem St.p10 {w0 : World} {A : Nat → Prop} {w : World} {P0 P1 P2 P3 P4 P5 P6 P7 P8 P9 H : HP} {R : List HP} (h : St w0 A (P0 :: P1 :: P2 :: P3 :: P4 :: P5 :: P6 :: P7 :: P8 :: P9 :: H :: R) w) : St w0 A (H :: P0 :: P1 :: P2 :: P3 :: P4 :: P5 :: P6 :: P7 :: P8 :: P9 :: R) w := St.pull [P0, P1, P2, P3, P4, P5, P6, P7, P8, P9] h
theorem St.p11 {w0 : World} {A : Nat → Prop} {w : World} {P0 P1 P2 P3 P4 P5 P6 P7 P8 P9 P10 H : HP} {R : List HP} (h : St w0 A (P0 :: P1 :: P2 :: P3 :: P4 :: P5 :: P6 :: P7 :: P8 :: P9 :: P10 :: H :: R) w) : St w0 A (H :: P0 :: P1 :: P2 :: P3 :: P4 :: P5 :: P6 :: P7 :: P8 :: P9 :: P10 :: R) w := St.pull [P0, P1, P2, P3, P4, P5, P6, P7, P8, P9, P10] h
theorem St.p12 {w0 : World} {A : Nat → Prop} {w : World} {P0 P1 P2 P3 P4 P5 P6 P7 P8 P9 P10 P11 H : HP} {R : List HP} (h : St w0 A (P0 :: P1 :: P2 :: P3 :: P4 :: P5 :: P6 :: P7 :: P8 :: P9 :: P10 :: P11 :: H :: R) w) : St w0 A (H :: P0 :: P1 :: P2 :: P3 :: P4 :: P5 :: P6 :: P7 :: P8 :: P9 :: P10 :: P11 :: R) w := St.pull [P0, P1, P2, P3, P4, P5, P6, P7, P8, P9, P10, P11] h
theorem St.p13 {w0 : World} {A : Nat → Prop} {w : World} {P0 P1 P2 P3 P4 P5 P6 P7 P8 P9 P10 P11 P12 H : HP} {R : List HP} (h : St w0 A (P0 :: P1 :: P2 :: P3 :: P4 :: P5 :: P6 :: P7 :: P8 :: P9 :: P10 :: P11 :: P12 :: H :: R) w) : St w0 A (H :: P0 :: P1 :: P2 :: P3 :: P4 :: P5 :: P6 :: P7 :: P8 :: P9 :: P10 :: P11 :: P12 :: R) w := St.pull [P0, P1, P2, P3, P4, P5, P6, P7, P8, P9, P10, P11, P12] h
theorem St.p14 {w0 : World} {A : Nat → Prop} {w : World} {P0 P1 P2 P3 P4 P5 P6 P7 P8 P9 P10 P11 P12 P13 H : HP} {R : List HP} (h : St w0 A (P0 :: P1 :: P2 :: P3 :: P4 :: P5 :: P6 :: P7 :: P8 :: P9 :: P10 :: P11 :: P12 :: P13 :: H :: R) w) : St w0 A (H :: P0 :: P1 :: P2 :: P3 :: P4 :: P5 :: P6 :: P7 :: P8 :: P9 :: P10 :: P11 :: P12 :: P13 :: R) w := St.pull [P0, P1, P2, P3, P4, P5, P6, P7, P8, P9, P10, P11, P12, P13] h
theorem St.p15 {w0 : World} {A : Nat → Prop} {w : World} {P0 P1 P2 P3 P4 P5 P6 P7 P8 P9 P10 P11 P12 P13 P14 H : HP} {R : List HP} (h : St w0 A (P0 :: P1 :: P2 :: P3 :: P4 :: P5 :: P6 :: P7 :: P8 :: P9 :: P10 :: P11 :: P12 :: P13 :: P14 :: H :: R) w) : St w0 A (H :: P0 :: P1 :: P2 :: P3 :: P4 :: P5 :: P6 :: P7 :: P8 :: P9 :: P10 :: P11 :: P12 :: P13 :: P14 :: R) w := St.pull [P0, P1, P2, P3, P4, P5, P6, P7, P8, P9, P10, P11, P12, P13, P14] h
theorem St.p0 {w0 : World} {A : Nat → Prop} {w : World} {L : List HP} (h : St w0 A L w) : St w0 A L w := h

/-- What is at the head, as a fact of the world. -/
theorem St.head {w0 : World} {A : Nat → Prop} {L : List HP} {w : World} {H : HP} (h : St w0 A (H :: L) w) : ∃ F, H.p w F ∧ ∀ b, F b → A b ∨ w0.heap.size ≤ b := by
  obtain ⟨U, F, U', h1, h2, _⟩ := h.seps; exact ⟨F, h1, h2⟩
theorem St.hb {w0 : World} {A : Nat → Prop} {L : List HP} {w : World} {b : Nat} {cs : List Value} (h : St w0 A (blk b cs :: L) w) : Blk w b cs := by
  obtain ⟨F, h1, _⟩ := h.head; exact h1.1

end Go.Fw
namespace Go.Fw

/-- The value of one cell. -/
def oneC : Value → Bool
  | .agg _ => false
  | .tuple _ => false
  | _ => true

/-! ### Types: closed facts -/

def oneFact (P : Program) (T : TypeId) : Option (Bool × Nat) :=
  match P.underlying T with
  | some d => (P.info? T).map fun i => (match d with | .struct _ | .array _ _ => true | _ => false, i.size)
  | none => none
def fieldFact (P : Program) (T f : Nat) : Option (Nat × Option Bool) :=
  match P.underlying T with
  | some (.struct fs) => (fs[f]?).map fun fd => (fd.offset, (P.info? fd.type).map fun i => i.size != 0)
  | _ => none
def slFact (P : Program) (T : TypeId) : Option (TypeId × Nat × Nat × Option Nat) :=
  match P.underlying T with
  | some (.slice E) => (P.info? E).map fun i => (E, i.size, i.bytes, i.zero.map fun z => z.cells.size)
  | _ => none
def zeroFact (P : Program) (T : TypeId) : Option (Option Value) := (P.info? T).map fun i => i.zero

abbrev OneT (P : Program) (T : TypeId) : Prop := oneFact P T = some (false, 1)
abbrev AggT (P : Program) (T : TypeId) (n : Nat) : Prop := oneFact P T = some (true, n)
abbrev FieldT (P : Program) (T f off : Nat) : Prop := fieldFact P T f = some (off, some true)
abbrev SlT (P : Program) (T E n bytes : Nat) : Prop := slFact P T = some (E, n, bytes, some n)
abbrev ZeroT (P : Program) (T : TypeId) (z : Value) : Prop := zeroFact P T = some (some z)

theorem pr_typeInfo {P : Program} {T : TypeId} {i : TypeInfo} (h : P.info? T = some i) : pr P (typeInfo T) = some i := by
  show pr P (match P.info? T with | some i => pure i | none => stuck "no such type") = _
  rw [h]; rfl
theorem pr_underlying {P : Program} {T : TypeId} {d : TypeDesc} (h : P.underlying T = some d) : pr P (underlying T) = some d := by
  show pr P (match P.underlying T with | some d => pure d | none => stuck "no such type") = _
  rw [h]; rfl
theorem pr_sizeOf {P : Program} {T : TypeId} {i : TypeInfo} (h : P.info? T = some i) : pr P (sizeOf T) = some i.size := by
  unfold sizeOf; rw [pr_bind, pr_typeInfo h]; rfl
theorem pr_map' {P : Program} {α β : Type} (m : Sem α) (f : α → β) : pr P (do pure (f (← m))) = (pr P m).map f := by
  rw [pr_bind]; cases pr P m <;> rfl

theorem oneFact_spec {P : Program} {T : TypeId} {a : Bool} {n : Nat} (h : oneFact P T = some (a, n)) : pr P (isAgg T) = some a ∧ pr P (sizeOf T) = some n := by
  unfold oneFact at h
  cases hd : P.underlying T with
  | none => rw [hd] at h; cases h
  | some d =>
    rw [hd] at h
    cases hi : P.info? T with
    | none => rw [hi] at h; cases h
    | some i =>
      rw [hi] at h
      simp only [Option.map_some, Option.some.injEq, Prod.mk.injEq] at h
      obtain ⟨h1, h2⟩ := h
      refine ⟨?_, by rw [pr_sizeOf hi, h2]⟩
      unfold isAgg
      rw [pr_bind, pr_underlying hd]
      show pr P (match d with | .struct _ | .array _ _ => pure true | _ => pure false) = _
      rw [← h1]
      cases d <;> rfl
theorem slFact_spec {P : Program} {T E n by' : Nat} {z : Option Nat} (h : slFact P T = some (E, n, by', z)) :
    P.underlying T = some (.slice E) ∧ ∃ i, P.info? E = some i ∧ i.size = n ∧ i.bytes = by' ∧ i.zero.map (fun z => z.cells.size) = z := by
  unfold slFact at h
  split at h
  · rename_i E' hE
    cases hi : P.info? E' with
    | none => rw [hi] at h; cases h
    | some i =>
      rw [hi] at h
      simp only [Option.map_some, Option.some.injEq, Prod.mk.injEq] at h
      obtain ⟨rfl, h2, h3, h4⟩ := h
      exact ⟨hE, i, hi, h2, h3, h4⟩
  · cases h

/-! ### Quiet rules -/
section
variable {P : Program} {w : World}

theorem pop {m : Sem Value} {v : Value} {K : Value → Prop} (h : pr P m = some v) (k : K v) : Pop P m K := ⟨v, h, k⟩
theorem qop {m : Sem Value} {v : Value} {K : Value → Prop} (h : m.run P w = .ok v w) (k : K v) : Qop P m w K := ⟨v, h, k⟩

theorem pop_nil {a : Addr} {K : Value → Prop} (k : K (.pointer (some a))) : Pop P (nilS (.pointer (some a))) K := ⟨_, rfl, k⟩
theorem pop_not {b : Bool} {K : Value → Prop} (k : K (.bool (!b))) : Pop P (Op.unary .not (.bool b)) K := ⟨_, rfl, k⟩
theorem pop_notd {p : Prop} [Decidable p] {K : Value → Prop} (k : K (.bool (decide (¬ p)))) : Pop P (Op.unary .not (.bool (decide p))) K := by
  refine pop_not ?_
  by_cases h : p <;> simp_all
theorem pop_ext {vs : List Value} {i : Nat} {v : Value} {K : Value → Prop} (h : vs[i]? = some v) (k : K v) : Pop P (Instr.extract (.tuple vs.toArray) i) K :=
  ⟨v, by simp only [Instr.extract, List.getElem?_toArray, h]; rfl, k⟩
theorem pop_pick {c : Bool} {a b : Value} {K : Value → Prop} (k : K (bif c then a else b)) : Pop P (pickS (.bool c) a b) K := ⟨_, by cases c <;> rfl, k⟩

theorem pop_lss {T : Nat} {cx cy : Bool} {a b : Int} {K : Value → Prop} (k : K (.bool (decide (a < b)))) : Pop P (binS .lss T cx cy (.int .i64 a) (.int .i64 b)) K := ⟨_, rfl, k⟩
theorem pop_leq {T : Nat} {cx cy : Bool} {a b : Int} {K : Value → Prop} (k : K (.bool (decide (a ≤ b)))) : Pop P (binS .leq T cx cy (.int .i64 a) (.int .i64 b)) K := ⟨_, rfl, k⟩
theorem pop_gtr {T : Nat} {cx cy : Bool} {a b : Int} {K : Value → Prop} (k : K (.bool (decide (b < a)))) : Pop P (binS .gtr T cx cy (.int .i64 a) (.int .i64 b)) K := ⟨_, rfl, k⟩
theorem pop_geq {T : Nat} {cx cy : Bool} {a b : Int} {K : Value → Prop} (k : K (.bool (decide (b ≤ a)))) : Pop P (binS .geq T cx cy (.int .i64 a) (.int .i64 b)) K := ⟨_, rfl, k⟩
theorem pop_eql {T : Nat} {cx cy : Bool} {a b : Int} {K : Value → Prop} (k : K (.bool (decide (a = b)))) : Pop P (binS .eql T cx cy (.int .i64 a) (.int .i64 b)) K := ⟨_, rfl, k⟩
theorem pop_neq {T : Nat} {cx cy : Bool} {a b : Int} {K : Value → Prop} (k : K (.bool (decide (a ≠ b)))) : Pop P (binS .neq T cx cy (.int .i64 a) (.int .i64 b)) K :=
  ⟨_, (show pr P (binS .neq T cx cy (.int .i64 a) (.int .i64 b)) = some (.bool (decide (a ≠ b))) from by
    show some (Value.bool (a != b)) = _
    congr 2
    by_cases h : a = b <;> simp [h]), k⟩

theorem pop_add {T : Nat} {cx cy : Bool} {a b : Int} {K : Value → Prop} (h : -9223372036854775808 ≤ a + b ∧ a + b ≤ 9223372036854775807) (k : K (.int .i64 (a + b))) :
    Pop P (binS .add T cx cy (.int .i64 a) (.int .i64 b)) K :=
  ⟨_, (show pr P (binS .add T cx cy (.int .i64 a) (.int .i64 b)) = some (.int .i64 (a + b)) from by
    show some (Value.int .i64 (IntKind.i64.wrap (a + b))) = _
    rw [IntWalk.i64_in _ h]), k⟩
theorem pop_sub {T : Nat} {cx cy : Bool} {a b : Int} {K : Value → Prop} (h : -9223372036854775808 ≤ a - b ∧ a - b ≤ 9223372036854775807) (k : K (.int .i64 (a - b))) :
    Pop P (binS .sub T cx cy (.int .i64 a) (.int .i64 b)) K :=
  ⟨_, (show pr P (binS .sub T cx cy (.int .i64 a) (.int .i64 b)) = some (.int .i64 (a - b)) from by
    show some (Value.int .i64 (IntKind.i64.wrap (a - b))) = _
    rw [IntWalk.i64_in _ h]), k⟩
theorem pop_mul {T : Nat} {cx cy : Bool} {a b : Int} {K : Value → Prop} (h : -9223372036854775808 ≤ a * b ∧ a * b ≤ 9223372036854775807) (k : K (.int .i64 (a * b))) :
    Pop P (binS .mul T cx cy (.int .i64 a) (.int .i64 b)) K :=
  ⟨_, (show pr P (binS .mul T cx cy (.int .i64 a) (.int .i64 b)) = some (.int .i64 (a * b)) from by
    show some (Value.int .i64 (IntKind.i64.wrap (a * b))) = _
    rw [IntWalk.i64_in _ h]), k⟩

theorem cond_d {p : Prop} [Decidable p] {A B : Prop} (h1 : p → A) (h2 : ¬ p → B) : CondV (.bool (decide p)) A B :=
  ⟨_, rfl, fun h => h1 (of_decide_eq_true h), fun h => h2 (of_decide_eq_false h)⟩
theorem cond_t {A B : Prop} (h : A) : CondV (.bool true) A B := ⟨_, rfl, fun _ => h, fun h => by cases h⟩
theorem cond_f {A B : Prop} (h : B) : CondV (.bool false) A B := ⟨_, rfl, fun h => (by cases h), fun _ => h⟩
theorem cond_b {b : Bool} {A B : Prop} (h1 : b = true → A) (h2 : b = false → B) : CondV (.bool b) A B := ⟨_, rfl, h1, h2⟩

/-! ### Calls -/
theorem gx {α : Type} (l : List α) {i : Nat} (h : i < l.length) : ∃ x, l[i]? = some x := ⟨_, List.getElem?_eq_getElem h⟩
theorem leb {a b : Nat} (h : Nat.ble a b = true) : a ≤ b := Nat.le_of_ble_eq_true h
theorem callF {f : FuncId} {args : List Value} {Φ K : Value → World → Prop} (pl : Plain P f) (h : Calls P f args.toArray w (Ret Φ)) (k : ∀ v w', Φ v w' → K v w') :
    CallF P f args w K := ⟨.inl ⟨pl, h.mono fun _ _ r => r.mono k⟩⟩
theorem callV {g : FuncId} {args first cap : List Value} {Φ K : Value → World → Prop} (pl : Plain P g) (h : Calls P g (first ++ args ++ cap).toArray w (Ret Φ)) (k : ∀ v w', Φ v w' → K v w') :
    CallV P (.func (.func g) first.toArray cap.toArray) args w K := ⟨.inl ⟨g, _, _, rfl, pl, by simpa using h.mono fun _ _ r => r.mono k⟩⟩
theorem retOf {f : FuncId} {args : List Value} {Φ Ψ : Value → World → Prop} (h : Calls P f args.toArray w (Ret Φ)) (k : ∀ v w', Φ v w' → Ψ v w') : Calls P f args.toArray w (Ret Ψ) :=
  h.mono fun _ _ r => r.mono k

/-! ### Owned blocks -/
variable {w0 : World} {A : Nat → Prop} {L : List HP}

theorem run_load (a : Addr) (v : Value) (h : w.cell? a = some v) : (load a).run P w = .ok v w := by
  unfold load
  simp only [Sem.run, h]
theorem add_none (b o j : Nat) : (Addr.mk b o none).add j = ⟨b, o + j, none⟩ := by
  unfold Addr.add; split
  · rename_i h; subst h; rfl
  · rfl
theorem run_loadCellsFrom (b o : Nat) : ∀ (n i : Nat) (acc : Array Value) (cs : List Value), cs.length = n → (∀ j c, cs[j]? = some c → Cell w b (o + i + j) c) →
    (loadCellsFrom ⟨b, o, none⟩ i n acc).run P w = .ok (acc ++ cs.toArray) w := by
  intro n
  induction n with
  | zero => intro i acc cs hl _; obtain rfl := List.length_eq_zero_iff.1 hl; simp [loadCellsFrom]
  | succ n ih =>
    intro i acc cs hl h
    match cs, hl with
    | c :: cs, hl =>
      unfold loadCellsFrom
      rw [run_bind_ok (run_load _ c (by rw [add_none]; exact h 0 c rfl))]
      rw [ih (i + 1) (acc.push c) cs (by simpa using hl) (fun j d hd => by have := h (j + 1) d (by simpa using hd); rwa [show o + i + (j + 1) = o + (i + 1) + j from by omega] at this)]
      simp
theorem run_loadCells {b o : Nat} {cs : List Value} (h : ∀ j c, cs[j]? = some c → Cell w b (o + j) c) : (loadCells ⟨b, o, none⟩ cs.length).run P w = .ok cs.toArray w := by
  unfold loadCells
  rw [run_loadCellsFrom b o cs.length 0 #[] cs rfl (fun j c hc => by simpa using h j c hc)]
  simp

theorem run_loadOne {T : TypeId} {b o : Nat} {v : Value} (ht : OneT P T) (h : Cell w b o v) : (Instr.loadAt T (.pointer (some ⟨b, o, none⟩))).run P w = .ok v w := by
  show (loadVar T ⟨b, o, none⟩).run P w = _
  unfold loadVar
  rw [run_bind_ok (run_of_pr (oneFact_spec ht).1 w)]
  exact run_load _ v h
theorem run_loadAgg {T : TypeId} {b o : Nat} {cs : List Value} (ht : AggT P T cs.length) (h : ∀ j c, cs[j]? = some c → Cell w b (o + j) c) :
    (Instr.loadAt T (.pointer (some ⟨b, o, none⟩))).run P w = .ok (.agg cs.toArray) w := by
  show (loadVar T ⟨b, o, none⟩).run P w = _
  unfold loadVar
  rw [run_bind_ok (run_of_pr (oneFact_spec ht).1 w)]
  simp only [if_true]
  rw [run_bind_ok (run_of_pr (oneFact_spec ht).2 w), run_bind_ok (run_loadCells h)]
  rfl

theorem qop_blk {T : TypeId} {b o : Nat} {cs : List Value} {v : Value} {K : Value → Prop} (ht : OneT P T) (hb : Blk w b cs) (hc : cs[o]? = some v) (k : K v) :
    Qop P (Instr.loadAt T (.pointer (some ⟨b, o, none⟩))) w K := ⟨v, run_loadOne ht (hb.cell hc), k⟩
theorem qop_blkA {T : TypeId} {b n : Nat} {cs : List Value} {K : Value → Prop} (ht : AggT P T n) (hb : Blk w b cs) (hn : cs.length = n) (k : K (.agg cs.toArray)) :
    Qop P (Instr.loadAt T (.pointer (some ⟨b, 0, none⟩))) w K := by
  subst hn
  exact ⟨_, run_loadAgg ht fun j c hc => by rw [Nat.zero_add]; exact hb.cell hc, k⟩

theorem pr_fieldAt {T f off b o : Nat} (ht : FieldT P T f off) : pr P (Instr.fieldAt T (.pointer (some ⟨b, o, none⟩)) f) = some (.pointer (some ⟨b, o + off, none⟩)) := by
  unfold FieldT fieldFact at ht
  split at ht
  · rename_i fs hfs
    cases hf : fs[f]? with
    | none => rw [hf] at ht; cases ht
    | some fd =>
      rw [hf] at ht
      simp only [Option.map_some, Option.some.injEq, Prod.mk.injEq] at ht
      obtain ⟨ho, hz⟩ := ht
      cases hi : P.info? fd.type with
      | none => rw [hi] at hz; cases hz
      | some i =>
        rw [hi] at hz
        have hz' : i.size ≠ 0 := by simpa using hz
        unfold Instr.fieldAt
        rw [pr_bind, pr_underlying hfs]
        simp only [Option.bind_some, hf]
        show pr P (do pure (Value.pointer (some (← fieldPlace ⟨b, o, none⟩ fd)))) = _
        rw [pr_map']
        unfold fieldPlace
        rw [pr_bind, pr_sizeOf hi]
        simp only [Option.bind_some, if_neg hz', add_none, ho]
        rfl
  · cases ht
theorem pop_field {T f off b o : Nat} {K : Value → Prop} (ht : FieldT P T f off) (k : K (.pointer (some ⟨b, o + off, none⟩))) :
    Pop P (Instr.fieldAt T (.pointer (some ⟨b, o, none⟩)) f) K := ⟨_, pr_fieldAt ht, k⟩

theorem run_newRow (T : TypeId) (cs : Array Value) : (newRow T cs).run P w = .ok ⟨w.heap.size, 0, none⟩ (push w (.cells cs T)) := rfl
theorem run_box (T : TypeId) (v : Value) : (Instr.box T v).run P w = .ok (.pointer (some ⟨w.heap.size, 0, none⟩)) (push w (.cells v.cells T)) := rfl

/-- A new block at the head. -/
theorem St.push {T : TypeId} {cs : List Value} (hs : St w0 A L w) : St w0 A (blk w.heap.size cs :: L) (push w (.cells cs.toArray T)) :=
  hs.new (Ext.push _ _) (F := fun k => k = w.heap.size) ⟨Blk.push w cs T, fun _ => Iff.rfl⟩ fun b hb => by rw [hb]; exact Nat.le_refl _

theorem eop_box1 {T : TypeId} {v : Value} {K : Value → World → Prop} (hs : St w0 A L w) (hv : oneC v = true)
    (k : ∀ b w', St w0 A (blk b [v] :: L) w' → K (.pointer (some ⟨b, 0, none⟩)) w') : Eop P (Instr.box T v) w K := by
  refine ⟨_, _, run_box T v, k _ _ ?_⟩
  have : v.cells = [v].toArray := by cases v <;> first | rfl | cases hv
  rw [this]
  exact hs.push
theorem eop_boxA {T : TypeId} {cs : List Value} {K : Value → World → Prop} (hs : St w0 A L w)
    (k : ∀ b w', St w0 A (blk b cs :: L) w' → K (.pointer (some ⟨b, 0, none⟩)) w') : Eop P (Instr.box T (.agg cs.toArray)) w K :=
  ⟨_, _, run_box T _, k _ _ hs.push⟩
theorem eop_alloc1 {T : TypeId} {z : Value} {K : Value → World → Prop} (hs : St w0 A L w) (hz : ZeroT P T z) (hv : oneC z = true)
    (k : ∀ b w', St w0 A (blk b [z] :: L) w' → K (.pointer (some ⟨b, 0, none⟩)) w') : Eop P (Instr.alloc T true (.tuple #[])) w K := by
  unfold ZeroT zeroFact at hz
  cases hi : P.info? T with
  | none => rw [hi] at hz; cases hz
  | some i =>
    rw [hi] at hz
    simp only [Option.map_some, Option.some.injEq] at hz
    have h1 : pr P (zeroValue T) = some z := by unfold zeroValue; rw [pr_bind, pr_typeInfo hi]; simp only [Option.bind_some, hz]; rfl
    refine ⟨_, push w (.cells [z].toArray T), ?_, k _ _ (hs.push (T := T))⟩
    unfold Instr.alloc
    rw [run_bind_ok (run_of_pr h1 w)]
    have : z.cells = [z].toArray := by cases z <;> first | rfl | cases hv
    show (do pure (Value.pointer (some (← newVar T z))) : Sem Value).run P w = _
    unfold newVar
    rw [this]
    rfl
theorem eop_allocA {T : TypeId} {cs : List Value} {K : Value → World → Prop} (hs : St w0 A L w) (hz : ZeroT P T (.agg cs.toArray))
    (k : ∀ b w', St w0 A (blk b cs :: L) w' → K (.pointer (some ⟨b, 0, none⟩)) w') : Eop P (Instr.alloc T true (.tuple #[])) w K := by
  unfold ZeroT zeroFact at hz
  cases hi : P.info? T with
  | none => rw [hi] at hz; cases hz
  | some i =>
    rw [hi] at hz
    simp only [Option.map_some, Option.some.injEq] at hz
    have h1 : pr P (zeroValue T) = some (.agg cs.toArray) := by unfold zeroValue; rw [pr_bind, pr_typeInfo hi]; simp only [Option.bind_some, hz]; rfl
    refine ⟨_, push w (.cells cs.toArray T), ?_, k _ _ (hs.push (T := T))⟩
    unfold Instr.alloc
    rw [run_bind_ok (run_of_pr h1 w)]
    rfl

theorem run_store {b o : Nat} {cs : List Value} {v : Value} (hb : Blk w b cs) (ho : o < cs.length) (hv : oneC v = true) :
    (store ⟨b, o, none⟩ v).run P w = .ok () (w.setCell ⟨b, o, none⟩ v) := by
  have h1 : w.cell? ⟨b, o, none⟩ = some cs[o] := hb.cell (by simp [ho])
  have h2 := hb.frozen (o := o)
  unfold store
  cases v <;> first | cases hv | skip
  all_goals
    simp only [Sem.run, h1, h2]
    rfl
theorem blk_turn {b o : Nat} {cs : List Value} {v : Value} (hs : St w0 A (blk b cs :: L) w) : St w0 A (blk b (cs.set o v) :: L) (w.setCell ⟨b, o, none⟩ v) :=
  hs.turn fun F hF => ⟨F, ⟨hF.1.setCell v, hF.2⟩, fun _ h => .inl h, (Chg.setCell w b o v).mono fun k hk => (hF.2 k).2 hk⟩
theorem uop_blk {T : TypeId} {b o : Nat} {cs : List Value} {v : Value} {K : World → Prop} (hs : St w0 A (blk b cs :: L) w) (ht : OneT P T) (ho : o < cs.length) (hv : oneC v = true)
    (k : ∀ w', St w0 A (blk b (cs.set o v) :: L) w' → K w') : Uop P (Instr.storeAt T (.pointer (some ⟨b, o, none⟩)) v) w K := by
  refine ⟨_, ?_, k _ (blk_turn hs)⟩
  show (storeVar T ⟨b, o, none⟩ v).run P w = _
  have hc : v.cells = #[v] := by cases v <;> first | rfl | cases hv
  unfold storeVar
  rw [run_bind_ok (run_of_pr (oneFact_spec ht).2 w), hc]
  simp only [List.size_toArray, List.length_cons, List.length_nil, Nat.zero_add, ne_eq, not_true_eq_false, if_false]
  show (storeCells ⟨b, o, none⟩ [v]).run P w = _
  unfold storeCells
  rw [add_none, Nat.add_zero, run_bind_ok (run_store hs.hb ho hv)]
  rfl

/-- Storing a row of cells. -/
def setAll : List Value → Nat → List Value → List Value
  | cs, _, [] => cs
  | cs, o, v :: r => setAll (cs.set o v) (o + 1) r
theorem setAll_length (cs : List Value) (o : Nat) (vs : List Value) : (setAll cs o vs).length = cs.length := by
  induction vs generalizing cs o with
  | nil => rfl
  | cons v r ih => simp [setAll, ih]
theorem run_storeCells {b o : Nat} : ∀ (vs : List Value) (i : Nat) (cs : List Value) (w : World), St w0 A (blk b cs :: L) w → o + i + vs.length ≤ cs.length → (∀ v ∈ vs, oneC v = true) →
    ∃ w', (storeCells ⟨b, o, none⟩ vs i).run P w = .ok () w' ∧ St w0 A (blk b (setAll cs (o + i) vs) :: L) w' := by
  intro vs
  induction vs with
  | nil => intro i cs w hs _ _; exact ⟨w, rfl, hs⟩
  | cons v r ih =>
    intro i cs w hs hl hv
    have hl' : o + i + (r.length + 1) ≤ cs.length := by simpa using hl
    have h1 := run_store (P := P) hs.hb (o := o + i) (v := v) (by omega) (hv v (by simp))
    obtain ⟨w', h2, h3⟩ := ih (i + 1) (cs.set (o + i) v) _ (blk_turn hs) (by simp; omega) (fun x hx => hv x (by simp [hx]))
    refine ⟨w', ?_, by rw [show o + (i + 1) = o + i + 1 from by omega] at h3; exact h3⟩
    show (do store ((Addr.mk b o none).add i) v; storeCells ⟨b, o, none⟩ r (i + 1) : Sem Unit).run P w = _
    rw [add_none, run_bind_ok h1, h2]
theorem uop_blkA {T : TypeId} {b o n : Nat} {cs vs : List Value} {K : World → Prop} (hs : St w0 A (blk b cs :: L) w) (ht : AggT P T n) (hn : vs.length = n) (ho : o + n ≤ cs.length) (hv : ∀ v ∈ vs, oneC v = true)
    (k : ∀ w', St w0 A (blk b (setAll cs o vs) :: L) w' → K w') : Uop P (Instr.storeAt T (.pointer (some ⟨b, o, none⟩)) (.agg vs.toArray)) w K := by
  subst hn
  obtain ⟨w', h1, h2⟩ := run_storeCells (P := P) (o := o) vs 0 cs w hs (by omega) hv
  refine ⟨w', ?_, k w' h2⟩
  show (storeVar T ⟨b, o, none⟩ (.agg vs.toArray)).run P w = _
  unfold storeVar
  rw [run_bind_ok (run_of_pr (oneFact_spec ht).2 w)]
  simp only [Value.cells, List.size_toArray, ne_eq, not_true_eq_false, if_false]
  exact h1

end
end Go.Fw
namespace Go.Fw

/-- Data of a fixed number of cells. -/
class Flat (α : Type) where
  agg : Bool
  sz : Nat
  enc : α → List Value
  val : α → Value
  pos : 0 < sz
  len : ∀ a, (enc a).length = sz
  one : ∀ a v, v ∈ enc a → oneC v = true
  vagg : agg = true → ∀ a, val a = .agg (enc a).toArray
  vone : agg = false → ∀ a, enc a = [val a]

instance : Flat Int where
  agg := false
  sz := 1
  enc n := [.int .i64 n]
  val n := .int .i64 n
  pos := by decide
  len _ := rfl
  one a v h := by rw [List.mem_singleton.1 h]; rfl
  vagg h := by cases h
  vone _ _ := rfl
instance : Flat Bool where
  agg := false
  sz := 1
  enc n := [.bool n]
  val n := .bool n
  pos := by decide
  len _ := rfl
  one a v h := by rw [List.mem_singleton.1 h]; rfl
  vagg h := by cases h
  vone _ _ := rfl
instance : Flat ByteArray where
  agg := false
  sz := 1
  enc n := [.string n]
  val n := .string n
  pos := by decide
  len _ := rfl
  one a v h := by rw [List.mem_singleton.1 h]; rfl
  vagg h := by cases h
  vone _ _ := rfl

section
variable {α : Type} [Flat α]

def flat (xs : List α) : List Value := xs.flatMap Flat.enc
theorem flat_nil : flat ([] : List α) = [] := rfl
theorem flat_cons (x : α) (xs : List α) : flat (x :: xs) = Flat.enc x ++ flat xs := by simp [flat]
theorem flat_append (xs ys : List α) : flat (xs ++ ys) = flat xs ++ flat ys := by simp [flat]
theorem flat_length (xs : List α) : (flat xs).length = xs.length * Flat.sz α := by
  induction xs with
  | nil => simp [flat_nil]
  | cons x xs ih => rw [flat_cons, List.length_append, ih, Flat.len, List.length_cons, Nat.succ_mul]; omega
theorem flat_one {xs : List α} : ∀ v ∈ flat xs, oneC v = true := by
  intro v hv
  obtain ⟨x, _, hx⟩ := List.mem_flatMap.1 hv
  exact Flat.one x v hx
theorem flat_get {xs : List α} {i j : Nat} {x : α} {c : Value} (hx : xs[i]? = some x) (hc : (Flat.enc x)[j]? = some c) : (flat xs)[i * Flat.sz α + j]? = some c := by
  induction xs generalizing i with
  | nil => simp at hx
  | cons y ys ih =>
    rw [flat_cons]
    cases i with
    | zero =>
      simp at hx; subst hx
      have hj : j < (Flat.enc y).length := (List.getElem?_eq_some_iff.1 hc).1
      rw [Nat.zero_mul, Nat.zero_add, List.getElem?_append_left hj]; exact hc
    | succ i =>
      have := ih (by simpa using hx)
      rw [List.getElem?_append_right (by rw [Flat.len, Nat.succ_mul]; omega), Flat.len]
      rw [show (i + 1) * Flat.sz α + j - Flat.sz α = i * Flat.sz α + j from by rw [Nat.succ_mul]; omega]
      exact this
theorem flat_take (xs : List α) (n : Nat) : flat (xs.take n) = (flat xs).take (n * Flat.sz α) := by
  induction xs generalizing n with
  | nil => simp [flat_nil]
  | cons x xs ih =>
    cases n with
    | zero => simp [flat_nil]
    | succ n =>
      rw [List.take_succ_cons, flat_cons, flat_cons, ih, List.take_append, Flat.len]
      have h1 : (n + 1) * Flat.sz α - Flat.sz α = n * Flat.sz α := by rw [Nat.succ_mul]; omega
      rw [h1, List.take_of_length_le (i := (n + 1) * Flat.sz α) (l := Flat.enc x) (by rw [Flat.len, Nat.succ_mul]; omega)]
theorem flat_drop (xs : List α) (n : Nat) : flat (xs.drop n) = (flat xs).drop (n * Flat.sz α) := by
  induction xs generalizing n with
  | nil => simp [flat_nil]
  | cons x xs ih =>
    cases n with
    | zero => simp
    | succ n =>
      rw [List.drop_succ_cons, flat_cons, ih, List.drop_append, Flat.len]
      have h1 : (n + 1) * Flat.sz α - Flat.sz α = n * Flat.sz α := by rw [Nat.succ_mul]; omega
      rw [h1, List.drop_of_length_le (i := (n + 1) * Flat.sz α) (l := Flat.enc x) (by rw [Flat.len, Nat.succ_mul]; omega), List.nil_append]

/-! ### Reading -/

/-- At the address p lies x, in blocks of S. -/
def At (S : Nat → Prop) (w : World) (p : Value) (x : α) : Prop :=
  ∃ b o, p = .pointer (some ⟨b, o, none⟩) ∧ S b ∧ ∀ j c, (Flat.enc x)[j]? = some c → Cell w b (o + j) c
/-- The slice v reads as xs, in blocks of S. -/
def RdL (S : Nat → Prop) (w : World) (v : Value) (xs : List α) : Prop :=
  ∃ a cap, v = .slice a xs.length cap ∧ xs.length ≤ cap ∧ ((xs = [] ∧ cap = 0) ∨ ∃ b o, a = some ⟨b, o, none⟩ ∧ (xs ≠ [] → S b) ∧ ∀ j c, (flat xs)[j]? = some c → Cell w b (o + j) c)
/-- The slice v with the things xs is owned: nobody else reads its row. -/
def ownL (v : Value) (xs : List α) : HP where
  p w F := (v = .slice none 0 0 ∧ xs = [] ∧ ∀ b, ¬ F b) ∨
    ∃ b cap rest, v = .slice (some ⟨b, 0, none⟩) xs.length cap ∧ Blk w b (flat xs ++ rest) ∧ (flat xs ++ rest).length = cap * Flat.sz α ∧ ∀ k, F k ↔ k = b
  loc w w' F h hh := by
    rcases h with h | ⟨b, cap, rest, h1, h2, h3, h4⟩
    · exact .inl h
    · exact .inr ⟨b, cap, rest, h1, h2.of_eq (hh b ((h4 b).2 rfl)), h3, h4⟩
  lt w F b h hb := by
    rcases h with h | ⟨b', cap, rest, h1, h2, h3, h4⟩
    · exact (h.2.2 b hb).elim
    · rw [(h4 b).1 hb]; exact h2.lt

variable {P : Program} {w w0 : World} {A S : Nat → Prop} {L : List HP} {xs ys : List α}

theorem At.chg {A : Nat → Prop} {w w' : World} {p : Value} {x : α} (h : At S w p x) (hc : Chg A w w') (hd : ∀ b, S b → ¬ A b) : At S w' p x := by
  obtain ⟨b, o, h1, h2, h3⟩ := h; exact ⟨b, o, h1, h2, fun j c hj => (h3 j c hj).chg hc (hd b h2)⟩
theorem At.ext {w w' : World} {p : Value} {x : α} (h : At S w p x) (hc : Ext w w') : At S w' p x := h.chg hc fun _ _ h => h
theorem At.mono {S' : Nat → Prop} {p : Value} {x : α} (h : At S w p x) (hd : ∀ b, S b → S' b) : At S' w p x := by
  obtain ⟨b, o, h1, h2, h3⟩ := h; exact ⟨b, o, h1, hd b h2, h3⟩
theorem RdL.chg {A : Nat → Prop} {w w' : World} {v : Value} (h : RdL S w v xs) (hc : Chg A w w') (hd : ∀ b, S b → ¬ A b) : RdL S w' v xs := by
  obtain ⟨a, cap, h1, h2, h3⟩ := h
  refine ⟨a, cap, h1, h2, ?_⟩
  rcases h3 with h3 | ⟨b, o, h3, h4, h5⟩
  · exact .inl h3
  · exact .inr ⟨b, o, h3, h4, fun j c hj => (h5 j c hj).chg hc (hd b (h4 fun h => by subst h; simp [flat_nil] at hj))⟩
theorem RdL.ext {w w' : World} {v : Value} (h : RdL S w v xs) (hc : Ext w w') : RdL S w' v xs := h.chg hc fun _ _ h => h
theorem RdL.mono {S' : Nat → Prop} {v : Value} (h : RdL S w v xs) (hd : ∀ b, S b → S' b) : RdL S' w v xs := by
  obtain ⟨a, cap, h1, h2, h3⟩ := h
  exact ⟨a, cap, h1, h2, h3.imp id fun ⟨b, o, h3, h4, h5⟩ => ⟨b, o, h3, fun h => hd b (h4 h), h5⟩⟩
theorem RdL.nil (S : Nat → Prop) (w : World) : RdL S w (.slice none 0 0) ([] : List α) := ⟨none, 0, rfl, Nat.le_refl _, .inl ⟨rfl, rfl⟩⟩

/-- What is owned can be read. -/
theorem ownL.rd {v : Value} {F : Nat → Prop} (h : (ownL v xs).p w F) : RdL F w v xs := by
  rcases h with ⟨h1, h2, h3⟩ | ⟨b, cap, rest, h1, h2, h3, h4⟩
  · subst h1 h2; exact RdL.nil _ _
  · refine ⟨_, cap, h1, ?_, .inr ⟨b, 0, rfl, fun _ => (h4 b).2 rfl, fun j c hj => ?_⟩⟩
    · rw [List.length_append, flat_length] at h3
      exact Nat.le_of_mul_le_mul_right (show xs.length * Flat.sz α ≤ cap * Flat.sz α by omega) (Flat.pos (α := α))
    · rw [Nat.zero_add]
      exact h2.cell (by rw [List.getElem?_append_left (List.getElem?_eq_some_iff.1 hj).1]; exact hj)
theorem St.rd {v : Value} (hs : St w0 A (ownL v xs :: L) w) : ∃ S, (∀ b, S b → A b ∨ w0.heap.size ≤ b) ∧ RdL S w v xs := by
  obtain ⟨F, h1, h2⟩ := hs.head; exact ⟨F, h2, ownL.rd h1⟩
theorem St.rd' {v : Value} (hs : St w0 A (ownL v xs :: L) w) : RdL (fun _ => True) w v xs := by
  obtain ⟨S, _, h⟩ := hs.rd; exact h.mono fun _ _ => trivial

theorem St.ownNil (hs : St w0 A L w) : St w0 A (ownL (.slice none 0 0) ([] : List α) :: L) w :=
  hs.new (Ext.refl w) (F := none1) (.inl ⟨rfl, rfl, fun _ h => h⟩) fun _ h => h.elim

/-- A load from an address at which x lies. -/
theorem qop_at {T : TypeId} {p : Value} {x : α} {K : Value → Prop} (ht : oneFact P T = some (Flat.agg α, Flat.sz α)) (h : At S w p x) (k : K (Flat.val x)) : Qop P (Instr.loadAt T p) w K := by
  obtain ⟨b, o, rfl, _, h3⟩ := h
  cases ha : Flat.agg α with
  | true =>
    rw [ha] at ht
    refine ⟨_, ?_, k⟩
    rw [Flat.vagg ha x]
    exact run_loadAgg (by rw [Flat.len]; exact ht) h3
  | false =>
    rw [ha] at ht
    have h1 := Flat.vone ha x
    have hsz : Flat.sz α = 1 := by rw [← Flat.len x, h1]; rfl
    rw [hsz] at ht
    exact ⟨_, run_loadOne ht (by have := h3 0 (Flat.val x) (by rw [h1]; rfl); simpa using this), k⟩
theorem St.At {b : Nat} {x : α} (hs : St w0 A (Fw.blk b (Flat.enc x) :: L) w) : Fw.At (fun _ => True) w (.pointer (some ⟨b, 0, none⟩)) x :=
  ⟨b, 0, rfl, trivial, fun j c hj => by rw [Nat.zero_add]; exact hs.hb.cell hj⟩
/-- A field of one cell. -/
theorem pop_atf {β : Type} [Flat β] {T f off : Nat} {p : Value} {x : α} (y : β) {K : Value → Prop} (ht : FieldT P T f off) (h : At S w p x) (hy : (Flat.enc x)[off]? = some (Flat.val y)) (ha : Flat.agg β = false)
    (k : ∀ q, At S w q y → K q) : Pop P (Instr.fieldAt T p f) K := by
  obtain ⟨b, o, rfl, h2, h3⟩ := h
  refine pop_field ht (k _ ⟨b, o + off, rfl, h2, fun j c hj => ?_⟩)
  rw [Flat.vone ha] at hj
  cases j with
  | zero => simp at hj; subst hj; exact h3 off _ hy
  | succ j => simp at hj

theorem pr_len {T R E n by' : Nat} {z : Option Nat} {a : Option Addr} {l c : Nat} (ht : slFact P T = some (E, n, by', z)) : pr P (Builtin.len_ #[T] R [Value.slice a l c].toArray) = some (.int .i64 l) := by
  show pr P (do
    match ← underlying T, Value.slice a l c with
    | .string, .string s => pure (goInt s.size)
    | .array n _, _ => pure (goInt n)
    | .pointer arr, _ =>
      let .array n _ ← underlying arr | stuck "len: pointer to array expected"
      pure (goInt n)
    | .slice _, .slice _ n _ => pure (goInt n)
    | .map _ _, .map none | .chan _ _, .chan none => pure (goInt 0)
    | .map _ _, .map (some r) =>
      let .map entries _ ← getObj r | stuck "len: map expected"
      pure (goInt entries.size)
    | .chan _ _, .chan (some r) =>
      let .chan _ buf _ _ _ timer ← getObj r | stuck "len: channel expected"
      pure (goInt (if timer then 0 else buf.size))
    | _, _ => stuck "len: string, array, pointer to array, slice, map or channel expected") = _
  rw [pr_bind, pr_underlying (slFact_spec ht).1]
  rfl
theorem pop_len {T R E n by' : Nat} {z : Option Nat} {v : Value} {K : Value → Prop} (ht : slFact P T = some (E, n, by', z)) (h : RdL S w v xs) (k : K (.int .i64 (xs.length : Int))) :
    Pop P (Builtin.len_ #[T] R [v].toArray) K := by
  obtain ⟨a, cap, rfl, _⟩ := h
  exact ⟨_, pr_len ht, k⟩

theorem pop_idx {T E by' : Nat} {z : Option Nat} {v : Value} {i : Int} {x : α} {K : Value → Prop} (ht : slFact P T = some (E, Flat.sz α, by', z)) (h : RdL S w v xs) (h0 : 0 ≤ i) (hx : xs[i.toNat]? = some x)
    (k : ∀ p, At S w p x → K p) : Pop P (Instr.indexAt T v (.int .i64 i)) K := by
  obtain ⟨a, cap, rfl, hcap, h3⟩ := h
  have hlt : i.toNat < xs.length := (List.getElem?_eq_some_iff.1 hx).1
  rcases h3 with ⟨rfl, _⟩ | ⟨b, o, rfl, h4, h5⟩
  · simp at hx
  · obtain ⟨hu, inf, hi, hsz, _⟩ := slFact_spec ht
    refine ⟨.pointer (some ⟨b, o + i.toNat * Flat.sz α, none⟩), ?_, k _ ⟨b, _, rfl, h4 (by intro h; subst h; simp at hx), fun j c hj => ?_⟩⟩
    · unfold Instr.indexAt
      rw [pr_bind]
      show pr P _ = _
      simp only [asIntOf]
      have e1 : pr P (underlying T) = some (.slice E) := pr_underlying hu
      have e2 : pr P (sizeOf E) = some (Flat.sz α) := by rw [pr_sizeOf hi, hsz]
      simp only [pr_bind, e1, e2, Option.bind_some, pr_pure]
      have hin : 0 ≤ i ∧ i < (xs.length : Int) := ⟨h0, by omega⟩
      simp only [if_pos hin, pr_bind, e2, Option.bind_some, pr_pure, add_none]
    · have := h5 (i.toNat * Flat.sz α + j) c (flat_get hx hj)
      rwa [show o + (i.toNat * Flat.sz α + j) = o + i.toNat * Flat.sz α + j from by omega] at this

end
end Go.Fw
namespace Go.Fw
section
variable {α : Type} [Flat α] {P : Program} {w w0 : World} {A S : Nat → Prop} {L : List HP} {xs ys : List α}

/-! ### Cutting -/

def lowOf : Option Value → Option Nat
  | none => some 0
  | some (.int _ i) => some i.toNat
  | _ => none
theorem pr_bound {y : Nat} {i : Int} {code : BoundsCode} (h0 : 0 ≤ i) (h1 : i ≤ y) : pr P (Instr.sliceBound (.int .i64 i) y code) = some i.toNat := by
  unfold Instr.sliceBound
  rw [pr_bind]
  simp only [asIntOf, pr_pure, Option.bind_some, if_pos (show 0 ≤ i ∧ i ≤ (y : Int) from ⟨h0, h1⟩)]

/-- What a cut answers: the bounds as they are. -/
theorem pr_cut {T E sz by' : Nat} {z : Option Nat} {a : Option Addr} {n cap l h : Nat} {lo hi : Option Value} (ht : slFact P T = some (E, sz, by', z))
    (hb : pr P (Instr.sliceBounds true n cap lo hi none) = some (l, h, cap)) :
    pr P (Instr.sliceAt T (.slice a n cap) lo hi none) = some (.slice (if cap = l then a else a.map (·.add (l * sz))) (h - l) (cap - l)) := by
  obtain ⟨hu, inf, hi', hsz, _⟩ := slFact_spec ht
  unfold Instr.sliceAt
  rw [pr_bind, pr_underlying hu]
  simp only [Option.bind_some]
  unfold Instr.slice
  rw [pr_bind, pr_underlying hu]
  simp only [Option.bind_some]
  rw [pr_bind, hb]
  simp only [Option.bind_some]
  rw [pr_bind, pr_sizeOf hi', hsz]
  rfl

theorem pr_bounds {n cap l h : Nat} {lo hi : Option Value} (hl : lo = none ∧ l = 0 ∨ ∃ i : Int, lo = some (.int .i64 i) ∧ 0 ≤ i ∧ l = i.toNat) (hh : hi = none ∧ h = n ∨ ∃ i : Int, hi = some (.int .i64 i) ∧ 0 ≤ i ∧ h = i.toNat)
    (h1 : l ≤ h) (h2 : h ≤ cap) : pr P (Instr.sliceBounds true n cap lo hi none) = some (l, h, cap) := by
  rcases hl with ⟨rfl, rfl⟩ | ⟨i, rfl, h0, rfl⟩ <;> rcases hh with ⟨rfl, rfl⟩ | ⟨i', rfl, h0', rfl⟩ <;> simp only [Instr.sliceBounds, pr_bind, pr_pure, Option.bind_some]
  · rw [pr_bound h0' (by omega)]; rfl
  · rw [pr_bound h0 (by omega)]; rfl
  · rw [pr_bound h0' (by omega)]; simp only [Option.bind_some]; rw [pr_bound h0 (by omega)]; rfl

theorem RdL.cut {v : Value} {a : Option Addr} {n cap l h : Nat} (hv : v = .slice a n cap) (hr : RdL S w v xs) (h1 : l ≤ h) (h2 : h ≤ xs.length) :
    RdL S w (.slice (if cap = l then a else a.map (·.add (l * Flat.sz α))) (h - l) (cap - l)) ((xs.take h).drop l) := by
  obtain ⟨a', cap', hv', hcap, h3⟩ := hr
  rw [hv'] at hv
  simp only [Value.slice.injEq] at hv
  obtain ⟨rfl, hn, rfl⟩ := hv
  have hlen : ((xs.take h).drop l).length = h - l := by simp; omega
  rcases h3 with ⟨hxs, hc0⟩ | ⟨b, o, rfl, h4, h5⟩
  · subst hxs
    exact ⟨_, cap' - l, by rw [hlen], by simp, .inl ⟨by simp, by omega⟩⟩
  · refine ⟨_, cap' - l, by rw [hlen], by rw [hlen]; omega, .inr ?_⟩
    have hne : (xs.take h).drop l ≠ [] → xs ≠ [] := fun hh hx => hh (by rw [hx]; simp)
    by_cases hh : cap' = l
    · rw [if_pos hh]
      refine ⟨b, o, rfl, fun hx => h4 (hne hx), fun j c hj => ?_⟩
      have : ((xs.take h).drop l) = [] := by rw [← List.length_eq_zero_iff, hlen]; omega
      rw [this] at hj; simp [flat_nil] at hj
    · rw [if_neg hh]
      refine ⟨b, o + l * Flat.sz α, by simp [add_none], fun hx => h4 (hne hx), fun j c hj => ?_⟩
      rw [flat_drop, flat_take, List.getElem?_drop, List.getElem?_take] at hj
      split at hj
      · have := h5 _ c hj
        rwa [show o + (l * Flat.sz α + j) = o + l * Flat.sz α + j from by omega] at this
      · cases hj

theorem pop_cut {T E by' : Nat} {z : Option Nat} {v : Value} {lo hi : Option Value} {l h : Nat} {K : Value → Prop} (ht : slFact P T = some (E, Flat.sz α, by', z)) (hr : RdL S w v xs)
    (hl : lo = none ∧ l = 0 ∨ ∃ i : Int, lo = some (.int .i64 i) ∧ 0 ≤ i ∧ l = i.toNat) (hh : hi = none ∧ h = xs.length ∨ ∃ i : Int, hi = some (.int .i64 i) ∧ 0 ≤ i ∧ h = i.toNat)
    (h1 : l ≤ h) (h2 : h ≤ xs.length) (k : ∀ v', RdL S w v' ((xs.take h).drop l) → K v') : Pop P (Instr.sliceAt T v lo hi none) K := by
  have hr' := hr
  obtain ⟨a, cap, rfl, hcap, h3⟩ := hr
  exact ⟨_, pr_cut ht (pr_bounds hl hh h1 (by omega)), k _ (hr'.cut rfl h1 h2)⟩
/-- s[:i] -/
theorem pop_cutHi {T E by' : Nat} {z : Option Nat} {v : Value} {i : Int} {K : Value → Prop} (ht : slFact P T = some (E, Flat.sz α, by', z)) (hr : RdL S w v xs) (h0 : 0 ≤ i) (h2 : i ≤ xs.length)
    (k : ∀ v', RdL S w v' (xs.take i.toNat) → K v') : Pop P (Instr.sliceAt T v none (some (.int .i64 i)) none) K :=
  pop_cut ht hr (.inl ⟨rfl, rfl⟩) (.inr ⟨i, rfl, h0, rfl⟩) (by omega) (by omega) fun v' h => k v' (by simpa using h)
/-- s[i:] -/
theorem pop_cutLo {T E by' : Nat} {z : Option Nat} {v : Value} {i : Int} {K : Value → Prop} (ht : slFact P T = some (E, Flat.sz α, by', z)) (hr : RdL S w v xs) (h0 : 0 ≤ i) (h2 : i ≤ xs.length)
    (k : ∀ v', RdL S w v' (xs.drop i.toNat) → K v') : Pop P (Instr.sliceAt T v (some (.int .i64 i)) none none) K :=
  pop_cut ht hr (.inr ⟨i, rfl, h0, rfl⟩) (.inl ⟨rfl, rfl⟩) (by omega) (by omega) fun v' h => k v' (by simpa using h)

/-! ### A row of cells is written, below ownership -/

theorem run_storeRow {b o : Nat} : ∀ (vs : List Value) (i : Nat) (cs : List Value) (w : World), Blk w b cs → o + i + vs.length ≤ cs.length → (∀ v ∈ vs, oneC v = true) →
    ∃ w', (storeCells ⟨b, o, none⟩ vs i).run P w = .ok () w' ∧ Blk w' b (setAll cs (o + i) vs) ∧ Chg (· = b) w w' := by
  intro vs
  induction vs with
  | nil => intro i cs w hb _ _; exact ⟨w, rfl, hb, Chg.refl _ _⟩
  | cons v r ih =>
    intro i cs w hb hl hv
    have hl' : o + i + (r.length + 1) ≤ cs.length := by simpa using hl
    have h1 := run_store (P := P) hb (o := o + i) (v := v) (by omega) (hv v (by simp))
    obtain ⟨w', h2, h3, h4⟩ := ih (i + 1) (cs.set (o + i) v) _ (hb.setCell v) (by simp; omega) (fun x hx => hv x (by simp [hx]))
    refine ⟨w', ?_, by rw [show o + (i + 1) = o + i + 1 from by omega] at h3; exact h3, (Chg.setCell w b (o + i) v).trans h4 (fun _ h => h) (fun _ _ h => h)⟩
    show (do store ((Addr.mk b o none).add i) v; storeCells ⟨b, o, none⟩ r (i + 1) : Sem Unit).run P w = _
    rw [add_none, run_bind_ok h1, h2]

theorem setAll_mid (pre mid post vs : List Value) (h : mid.length = vs.length) : setAll (pre ++ mid ++ post) pre.length vs = pre ++ vs ++ post := by
  induction vs generalizing pre mid with
  | nil => obtain rfl := List.length_eq_zero_iff.1 h; simp [setAll]
  | cons v r ih =>
    match mid, h with
    | m :: mid, h =>
      have e : (pre ++ (m :: mid) ++ post).set pre.length v = (pre ++ [v]) ++ mid ++ post := by simp
      simp only [setAll, e]
      have := ih (pre ++ [v]) mid (by simpa using h)
      rw [show (pre ++ [v]).length = pre.length + 1 from by simp] at this
      rw [this]; simp

/-! ### append -/

theorem growBy_le (n : Nat) : ∀ (r c : Nat), Builtin.growBy n r c ≤ max c (n + (n + 768) / 4) := by
  intro r
  induction r with
  | zero => intro c; unfold Builtin.growBy; omega
  | succ r ih =>
    intro c
    unfold Builtin.growBy
    split
    · omega
    · have := ih (c + (c + 768) / 4); omega
theorem next_le {need cap : Nat} (h : cap < need) : Builtin.nextslicecap need cap ≤ 2 * need + 192 := by
  unfold Builtin.nextslicecap
  split
  · omega
  · split
    · omega
    · have := growBy_le need 4 cap; omega

theorem run_first {sz : Nat} {v : Value} (hsz : sz = Flat.sz α) (h : RdL S w v ys) : (Builtin.firstCells sz ys.length v).run P w = .ok (flat ys).toArray w := by
  subst hsz
  obtain ⟨a, cap, rfl, _, h3⟩ := h
  rcases h3 with ⟨rfl, _⟩ | ⟨b, o, rfl, _, h5⟩
  · cases a with
    | none => rfl
    | some a => simp [Builtin.firstCells, loadCells, loadCellsFrom, flat_nil]
  · have := run_loadCells (P := P) h5
    rw [flat_length] at this
    exact this

theorem zeroCells_length (z : Array Value) (n : Nat) : (Builtin.zeroCells z n).size = n * z.size := by simp [Builtin.zeroCells]

theorem cells_add {b o : Nat} {cs : List Value} (h : ∀ j c, cs[j]? = some c → Cell w b (o + j) c) : ∀ j v, cs[j]? = some v → w.cell? ((⟨b, o, none⟩ : Addr).add j) = some v := fun j v hj => by
  rw [add_none]; exact h j v hj

/-- What append asks for: that the sum is small, that no element is great. -/
theorem run_appendB {T E by' R : Nat} {v src : Value} {F : Nat → Prop} (ht : SlT P T E (Flat.sz α) by') (hv : (ownL v xs).p w F) (hsrc : RdL S w src ys)
    (hn : xs.length + ys.length ≤ 17592186044416) (hm : (xs.length + ys.length) * by' ≤ 140737488355328) :
    ∃ v' w' F', (Builtin.append_ #[T, T] R [v, src].toArray).run P w = .ok v' w' ∧ (ownL v' (xs ++ ys)).p w' F' ∧ (∀ b, F' b → F b ∨ w.heap.size ≤ b) ∧ Chg F w w' := by
  obtain ⟨hu, inf, hi, hsz, hbytes, hz⟩ := slFact_spec ht
  obtain ⟨zv, hzv, hzs⟩ : ∃ zv, inf.zero = some zv ∧ zv.cells.size = Flat.sz α := by
    cases hzz : inf.zero with
    | none => rw [hzz] at hz; cases hz
    | some zv => rw [hzz] at hz; exact ⟨zv, rfl, by simpa using hz⟩
  have hmul : (xs.length + ys.length) * inf.bytes ≤ 140737488355328 := by rw [show inf.bytes = by' by omega]; exact hm
  -- a new row
  have made : ∀ (cap : Nat), cap < xs.length + ys.length →
      (ownL (.slice (some ⟨w.heap.size, 0, none⟩) (xs.length + ys.length) (grownCap w (xs.length + ys.length) cap E)) (xs ++ ys)).p
        (w.drew.alloc (.cells ((flat xs).toArray ++ (flat ys).toArray ++ Builtin.zeroCells zv.cells (grownCap w (xs.length + ys.length) cap E - (xs.length + ys.length))) E)) (fun k => k = w.heap.size) := by
    intro cap hc
    have hge := grownCap_ge w (xs.length + ys.length) cap E
    refine .inr ⟨w.heap.size, grownCap w (xs.length + ys.length) cap E, (Builtin.zeroCells zv.cells (grownCap w (xs.length + ys.length) cap E - (xs.length + ys.length))).toList, by simp, ⟨E, ?_⟩, ?_, fun _ => Iff.rfl⟩
    · have := push_new w.drew (.cells ((flat xs).toArray ++ (flat ys).toArray ++ Builtin.zeroCells zv.cells (grownCap w (xs.length + ys.length) cap E - (xs.length + ys.length))) E)
      refine Eq.trans this ?_
      congr 2
      apply Array.ext'
      simp [flat_append]
    · have e : (Builtin.zeroCells zv.cells (grownCap w (xs.length + ys.length) cap E - (xs.length + ys.length))).toList.length = (grownCap w (xs.length + ys.length) cap E - (xs.length + ys.length)) * Flat.sz α := by
        rw [Array.length_toList, size_zeroCells, hzs]
      rw [List.length_append, e, flat_length, List.length_append, ← Nat.add_mul]
      congr 1
      omega
  have chgd : ∀ o, Chg F w (w.drew.alloc o) := fun o => ⟨rfl, rfl, rfl, by simp, fun b hb _ => push_heap w.drew o b hb⟩
  have rd := hsrc
  obtain ⟨sa, scap, rfl, hsc, hs3⟩ := rd
  rcases hv with ⟨rfl, rfl, hF⟩ | ⟨b, cap, rest, rfl, hb, hl, hF⟩
  · -- nothing yet
    simp only [List.length_nil, Nat.zero_add, List.nil_append] at *
    by_cases hm : ys = []
    · subst hm
      refine ⟨.slice none 0 0, w, F, ?_, .inl ⟨rfl, rfl, hF⟩, fun b hb => .inl hb, Chg.refl _ _⟩
      cases sa <;> simp [Builtin.append_, run_underlying hu, sizeOf, typeInfo, hi, Builtin.lenOf, Builtin.firstCells, loadCells, loadCellsFrom]
    · have hpos : 0 < ys.length := List.length_pos_iff.2 hm
      rcases hs3 with ⟨h, _⟩ | ⟨b, o, rfl, _, hcs⟩
      · exact absurd h hm
      · have hr := run_append_nil (P := P) w T R E inf zv hu hi hzv ⟨b, o, none⟩ ys.length scap (flat ys) (by rw [flat_length, hsz]) (cells_add hcs) hpos (by omega) (by omega)
        refine ⟨_, _, fun k => k = w.heap.size, hr, ?_, fun k hk => .inr (by rw [hk]; exact Nat.le_refl _), chgd _⟩
        have := made 0 hpos
        simpa [flat_nil] using this
  · have hcap : xs.length ≤ cap := by
      rw [List.length_append, flat_length] at hl
      exact Nat.le_of_mul_le_mul_right (show xs.length * Flat.sz α ≤ cap * Flat.sz α by omega) (Flat.pos (α := α))
    by_cases hroom : xs.length + ys.length ≤ cap
    · -- there is room
      have hfit : (xs.length + ys.length) * Flat.sz α ≤ cap * Flat.sz α := Nat.mul_le_mul_right _ hroom
      have hfl : (flat xs).length = xs.length * Flat.sz α := flat_length xs
      have hrest : (flat ys).length ≤ rest.length := by
        rw [List.length_append, hfl] at hl; rw [flat_length]; rw [Nat.add_mul] at hfit; omega
      obtain ⟨w', h1, h2, h3⟩ := run_storeRow (P := P) (o := xs.length * Flat.sz α) (flat ys) 0 (flat xs ++ rest) w hb (by rw [List.length_append, hfl]; omega) flat_one
      have hset : setAll (flat xs ++ rest) (xs.length * Flat.sz α + 0) (flat ys) = flat (xs ++ ys) ++ rest.drop (flat ys).length := by
        have := setAll_mid (flat xs) (rest.take (flat ys).length) (rest.drop (flat ys).length) (flat ys) (by simp; omega)
        rw [hfl] at this
        rw [Nat.add_zero, flat_append]
        rw [← this]
        simp
      rw [hset] at h2
      refine ⟨.slice (some ⟨b, 0, none⟩) (xs.length + ys.length) cap, w', F, ?_, .inr ⟨b, cap, _, by simp, h2, ?_, hF⟩, fun b hb => .inl hb, h3.mono fun k hk => (hF k).2 hk⟩
      · have hf := run_first (α := α) (P := P) (sz := Flat.sz α) rfl hsrc
        have hadd : (⟨b, 0, none⟩ : Addr).add (xs.length * Flat.sz α) = ⟨b, xs.length * Flat.sz α, none⟩ := by rw [add_none, Nat.zero_add]
        simp [Builtin.append_, run_underlying hu, sizeOf, typeInfo, hi, Builtin.lenOf, hroom, hf, hsz, hadd, h1]
      · rw [← hl, List.length_append, List.length_append, flat_append, List.length_append, List.length_drop]; omega
    · -- a new row
      have hr := run_append_grow (P := P) w T R E inf zv hu hi hzv ⟨b, 0, none⟩ xs.length cap (flat xs) (by rw [flat_length, hsz])
        (cells_add fun j c hj => by rw [Nat.zero_add]; exact hb.cell (by rw [List.getElem?_append_left (List.getElem?_eq_some_iff.1 hj).1]; exact hj))
      rcases hs3 with ⟨h, _⟩ | ⟨b', o, rfl, _, hcs⟩
      · subst h; simp at hroom; omega
      · have hr := hr ⟨b', o, none⟩ ys.length scap (flat ys) (by rw [flat_length, hsz]) (cells_add hcs) (by omega) (by omega) (growslice_fits (by omega) hmul)
        exact ⟨_, _, fun k => k = w.heap.size, hr, made cap (by omega), fun k hk => .inr (by rw [hk]; exact Nat.le_refl _), chgd _⟩

theorem run_append {T E by' R : Nat} {v src : Value} {F : Nat → Prop} (ht : SlT P T E (Flat.sz α) by') (hv : (ownL v xs).p w F) (hsrc : RdL S w src ys)
    (hn : xs.length + ys.length ≤ 1073741824) (hby : by' ≤ 8192) :
    ∃ v' w' F', (Builtin.append_ #[T, T] R [v, src].toArray).run P w = .ok v' w' ∧ (ownL v' (xs ++ ys)).p w' F' ∧ (∀ b, F' b → F b ∨ w.heap.size ≤ b) ∧ Chg F w w' :=
  run_appendB ht hv hsrc (by omega) (by have := Nat.mul_le_mul hn hby; omega)
theorem eop_appendB {T E by' R : Nat} {v src : Value} {K : Value → World → Prop} (hs : St w0 A (ownL v xs :: L) w) (ht : SlT P T E (Flat.sz α) by') (hsrc : RdL S w src ys)
    (hn : xs.length + ys.length ≤ 17592186044416) (hm : (xs.length + ys.length) * by' ≤ 140737488355328) (k : ∀ v' w', St w0 A (ownL v' (xs ++ ys) :: L) w' → K v' w') : Eop P (Builtin.append_ #[T, T] R [v, src].toArray) w K := by
  obtain ⟨U, F, U', h1, h2, h3, h4, h5⟩ := hs.seps
  obtain ⟨v', w', F', g1, g2, g3, g4⟩ := run_appendB (R := R) ht h1 hsrc hn hm
  refine ⟨v', w', g1, k v' w' ?_⟩
  refine ⟨hs.chg.trans g4 (fun _ h => h) fun b hb hf => (h2 b hf).elim id fun hh => by omega, fun b => F' b ∨ U' b, F', U', g2, fun b hb => ?_, fun b hb hu => ?_, fun b => Iff.rfl, ?_⟩
  · rcases g3 b hb with hf | hf
    · exact h2 b hf
    · exact .inr (Nat.le_trans hs.chg.size hf)
  · rcases g3 b hb with hf | hf
    · exact h3 b hf hu
    · have := h5.lt b hu; omega
  · exact h5.loc fun b hb => g4.blk b (h5.lt b hb) fun hf => h3 b hf hb
theorem eop_append {T E by' R : Nat} {v src : Value} {K : Value → World → Prop} (hs : St w0 A (ownL v xs :: L) w) (ht : SlT P T E (Flat.sz α) by') (hsrc : RdL S w src ys)
    (hn : xs.length + ys.length ≤ 1073741824) (hby : by' ≤ 8192) (k : ∀ v' w', St w0 A (ownL v' (xs ++ ys) :: L) w' → K v' w') : Eop P (Builtin.append_ #[T, T] R [v, src].toArray) w K :=
  eop_appendB hs ht hsrc (by omega) (by have := Nat.mul_le_mul hn hby; omega) k

end
end Go.Fw
