/-
  Things beside one another as one thing; what a call does to a thing, or makes. Own work; nothing here is trusted.
-/
import Derived.Test.YtddeoncipdpkfaaGreatDoorZFw10
set_option linter.all false
namespace Go.Fw

def sep (H1 H2 : HP) : HP where
  p w F := ∃ F1 F2, H1.p w F1 ∧ H2.p w F2 ∧ (∀ b, F1 b → ¬ F2 b) ∧ ∀ b, F b ↔ F1 b ∨ F2 b
  loc w w' F h hh := by
    obtain ⟨F1, F2, h1, h2, h3, h4⟩ := h
    exact ⟨F1, F2, H1.loc _ _ _ h1 fun b hb => hh b ((h4 b).2 (.inl hb)), H2.loc _ _ _ h2 fun b hb => hh b ((h4 b).2 (.inr hb)), h3, h4⟩
  lt w F b h hb := by
    obtain ⟨F1, F2, h1, h2, h3, h4⟩ := h
    rcases (h4 b).1 hb with hf | hf
    · exact H1.lt _ _ _ h1 hf
    · exact H2.lt _ _ _ h2 hf
def exH {α : Type} (H : α → HP) : HP where
  p w F := ∃ x, (H x).p w F
  loc w w' F h hh := by obtain ⟨x, h⟩ := h; exact ⟨x, (H x).loc _ _ _ h hh⟩
  lt w F b h hb := by obtain ⟨x, h⟩ := h; exact (H x).lt _ _ _ h hb
/-- A thing with a fact. -/
def fact (φ : Prop) (H : HP) : HP where
  p w F := φ ∧ H.p w F
  loc w w' F h hh := ⟨h.1, H.loc _ _ _ h.2 hh⟩
  lt w F b h hb := H.lt _ _ _ h.2 hb
def emp : HP where
  p _ F := ∀ b, ¬ F b
  loc _ _ _ h _ := h
  lt _ _ b h hb := (h b hb).elim

section
variable {P : Program} {w w0 w' : World} {A : Nat → Prop} {L : List HP} {H H1 H2 : HP}

theorem St.split (h : St w0 A (sep H1 H2 :: L) w) : St w0 A (H1 :: H2 :: L) w := by
  obtain ⟨U, F, U', ⟨F1, F2, g1, g2, g3, g4⟩, h2, h3, h4, h5⟩ := h.seps
  refine ⟨h.chg, U, F1, fun b => F2 b ∨ U' b, g1, fun b hb => h2 b ((g4 b).2 (.inl hb)), fun b hb hu => ?_, fun b => ?_, F2, U', g2, fun b hb => h2 b ((g4 b).2 (.inr hb)), fun b hb hu => h3 b ((g4 b).2 (.inr hb)) hu, fun b => Iff.rfl, h5⟩
  · rcases hu with hu | hu
    · exact g3 b hb hu
    · exact h3 b ((g4 b).2 (.inl hb)) hu
  · rw [h4 b, g4 b, or_assoc]
theorem St.join (h : St w0 A (H1 :: H2 :: L) w) : St w0 A (sep H1 H2 :: L) w := by
  obtain ⟨U, F, U', h1, h2, h3, h4, F2, U2, g1, g2, g3, g4, g5⟩ := h.seps
  refine ⟨h.chg, U, fun b => F b ∨ F2 b, U2, ⟨F, F2, h1, g1, fun b hb hf => h3 b hb ((g4 b).2 (.inl hf)), fun b => Iff.rfl⟩, fun b hb => hb.elim (h2 b) (g2 b), fun b hb hu => ?_, fun b => ?_, g5⟩
  · rcases hb with hb | hb
    · exact h3 b hb ((g4 b).2 (.inr hu))
    · exact g3 b hb hu
  · rw [h4 b, g4 b, or_assoc]
theorem St.openEx {α : Type} {H : α → HP} (h : St w0 A (exH H :: L) w) : ∃ x, St w0 A (H x :: L) w := by
  obtain ⟨U, F, U', ⟨x, h1⟩, h2⟩ := h.seps; exact ⟨x, h.chg, U, F, U', h1, h2⟩
theorem St.shutEx {α : Type} {H : α → HP} (x : α) (h : St w0 A (H x :: L) w) : St w0 A (exH H :: L) w := by
  obtain ⟨U, F, U', h1, h2⟩ := h.seps; exact ⟨h.chg, U, F, U', ⟨x, h1⟩, h2⟩
theorem St.openF {φ : Prop} (h : St w0 A (fact φ H :: L) w) : φ ∧ St w0 A (H :: L) w := by
  obtain ⟨U, F, U', ⟨x, h1⟩, h2⟩ := h.seps; exact ⟨x, h.chg, U, F, U', h1, h2⟩
theorem St.shutF {φ : Prop} (x : φ) (h : St w0 A (H :: L) w) : St w0 A (fact φ H :: L) w := by
  obtain ⟨U, F, U', h1, h2⟩ := h.seps; exact ⟨h.chg, U, F, U', ⟨x, h1⟩, h2⟩

/-- What was H, in the blocks of F, is H' now; nothing else has turned. -/
def Mut (F : Nat → Prop) (H' : HP) (w w' : World) : Prop := ∃ F', H'.p w' F' ∧ (∀ b, F' b → F b ∨ w.heap.size ≤ b) ∧ Chg F w w'
/-- H has been made; nothing has turned. -/
def New (H : HP) (w w' : World) : Prop := ∃ F, H.p w' F ∧ (∀ b, F b → w.heap.size ≤ b) ∧ Ext w w'

theorem St.mut {F : Nat → Prop} (hs : St w F (H :: L) w') : Mut F H w w' := by
  obtain ⟨F', h1, h2⟩ := hs.head; exact ⟨F', h1, h2, hs.chg⟩
theorem St.fresh (hs : St w none1 (H :: L) w') : New H w w' := by
  obtain ⟨F', h1, h2⟩ := hs.head; exact ⟨F', h1, fun b hb => (h2 b hb).elim (fun h => h.elim) id, hs.chg⟩
theorem St.made (hs : St w0 A L w) (h : New H w w') : St w0 A (H :: L) w' := by
  obtain ⟨F, h1, h2, h3⟩ := h; exact hs.new h3 h1 h2
theorem callP {f : FuncId} {args : List Value} {X : Value} {K : Value → World → Prop} (pl : Plain P f) (hs : St w0 A L w) (hc : Calls P f args.toArray w (Ret fun v w' => v = X ∧ Ext w w')) (k : ∀ w', Ext w w' → St w0 A L w' → K X w') : CallF P f args w K :=
  callF pl hc fun v w' h => by obtain ⟨rfl, h2⟩ := h; exact k w' h2 (hs.ext h2)
theorem callN {f : FuncId} {args : List Value} {H : Value → HP} {K : Value → World → Prop} (pl : Plain P f) (hs : St w0 A L w) (hc : Calls P f args.toArray w (Ret fun v w' => New (H v) w w')) (k : ∀ v w', New (H v) w w' → St w0 A (H v :: L) w' → K v w') : CallF P f args w K :=
  callF pl hc fun v w' h => k v w' h (hs.made h)
theorem St.muted {F : Nat → Prop} {U' : Nat → Prop} {H' : HP} (hs : St w0 A (H :: L) w) (h2 : ∀ b, F b → A b ∨ w0.heap.size ≤ b) (h3 : ∀ b, F b → ¬ U' b) (h5 : Seps w0 A L w U') (h : Mut F H' w w') : St w0 A (H' :: L) w' := by
  obtain ⟨F', g1, g2, g3⟩ := h
  refine ⟨hs.chg.trans g3 (fun _ h => h) fun b hb hf => (h2 b hf).elim id fun hh => by omega, fun b => F' b ∨ U' b, F', U', g1, fun b hb => ?_, fun b hb hu => ?_, fun b => Iff.rfl, ?_⟩
  · rcases g2 b hb with hf | hf
    · exact h2 b hf
    · exact .inr (Nat.le_trans hs.chg.size hf)
  · rcases g2 b hb with hf | hf
    · exact h3 b hf hu
    · have := h5.lt b hu; omega
  · exact h5.loc fun b hb => g3.blk b (h5.lt b hb) fun hf => h3 b hf hb

/-- A call that turns the thing at the head. -/
theorem callMut {f : FuncId} {args : List Value} {H' : Value → HP} {Φ : Value → World → Prop} {K : Value → World → Prop} (pl : Plain P f) (hs : St w0 A (H :: L) w)
    (hc : ∀ F, H.p w F → Calls P f args.toArray w (Ret fun v w' => Φ v w' ∧ Mut F (H' v) w w')) (k : ∀ v w', Φ v w' → St w0 A (H' v :: L) w' → K v w') : CallF P f args w K := by
  obtain ⟨U, F, U', h1, h2, h3, h4, h5⟩ := hs.seps
  exact callF pl (hc F h1) fun v w' ⟨hΦ, hM⟩ => k v w' hΦ (hs.muted h2 h3 h5 hM)
end
end Go.Fw
