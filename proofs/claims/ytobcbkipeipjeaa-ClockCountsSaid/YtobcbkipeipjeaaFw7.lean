/-
  Slices of data of a fixed number of cells: read, owned, appended to. Own work; nothing here is trusted.
-/
import Derived.Test.YtobcbkipeipjeaaFw6
namespace Go.Fw

/-- Data of a fixed number of cells. -/
class Flat (α : Type) where
  agg : Bool
  sz : Nat
  enc : α → List Value
  val : α → Value
  pos : 0 < sz
  len : ∀ a, (enc a).length = sz
  one : ∀ a v, v ∈ enc a → oneC v = true
  vagg : agg = true → ∀ a, val a = .agg (enc a).toArray
  vone : agg = false → ∀ a, enc a = [val a]

instance : Flat Int where
  agg := false
  sz := 1
  enc n := [.int .i64 n]
  val n := .int .i64 n
  pos := by decide
  len _ := rfl
  one a v h := by rw [List.mem_singleton.1 h]; rfl
  vagg h := by cases h
  vone _ _ := rfl
instance : Flat Bool where
  agg := false
  sz := 1
  enc n := [.bool n]
  val n := .bool n
  pos := by decide
  len _ := rfl
  one a v h := by rw [List.mem_singleton.1 h]; rfl
  vagg h := by cases h
  vone _ _ := rfl
instance : Flat ByteArray where
  agg := false
  sz := 1
  enc n := [.string n]
  val n := .string n
  pos := by decide
  len _ := rfl
  one a v h := by rw [List.mem_singleton.1 h]; rfl
  vagg h := by cases h
  vone _ _ := rfl

section
variable {α : Type} [Flat α]

def flat (xs : List α) : List Value := xs.flatMap Flat.enc
theorem flat_nil : flat ([] : List α) = [] := rfl
theorem flat_cons (x : α) (xs : List α) : flat (x :: xs) = Flat.enc x ++ flat xs := by simp [flat]
theorem flat_append (xs ys : List α) : flat (xs ++ ys) = flat xs ++ flat ys := by simp [flat]
theorem flat_length (xs : List α) : (flat xs).length = xs.length * Flat.sz α := by
  induction xs with
  | nil => simp [flat_nil]
  | cons x xs ih => rw [flat_cons, List.length_append, ih, Flat.len, List.length_cons, Nat.succ_mul]; omega
theorem flat_one {xs : List α} : ∀ v ∈ flat xs, oneC v = true := by
  intro v hv
  obtain ⟨x, _, hx⟩ := List.mem_flatMap.1 hv
  exact Flat.one x v hx
theorem flat_get {xs : List α} {i j : Nat} {x : α} {c : Value} (hx : xs[i]? = some x) (hc : (Flat.enc x)[j]? = some c) : (flat xs)[i * Flat.sz α + j]? = some c := by
  induction xs generalizing i with
  | nil => simp at hx
  | cons y ys ih =>
    rw [flat_cons]
    cases i with
    | zero =>
      simp at hx; subst hx
      have hj : j < (Flat.enc y).length := (List.getElem?_eq_some_iff.1 hc).1
      rw [Nat.zero_mul, Nat.zero_add, List.getElem?_append_left hj]; exact hc
    | succ i =>
      have := ih (by simpa using hx)
      rw [List.getElem?_append_right (by rw [Flat.len, Nat.succ_mul]; omega), Flat.len]
      rw [show (i + 1) * Flat.sz α + j - Flat.sz α = i * Flat.sz α + j from by rw [Nat.succ_mul]; omega]
      exact this
theorem flat_take (xs : List α) (n : Nat) : flat (xs.take n) = (flat xs).take (n * Flat.sz α) := by
  induction xs generalizing n with
  | nil => simp [flat_nil]
  | cons x xs ih =>
    cases n with
    | zero => simp [flat_nil]
    | succ n =>
      rw [List.take_succ_cons, flat_cons, flat_cons, ih, List.take_append, Flat.len]
      have h1 : (n + 1) * Flat.sz α - Flat.sz α = n * Flat.sz α := by rw [Nat.succ_mul]; omega
      rw [h1, List.take_of_length_le (i := (n + 1) * Flat.sz α) (l := Flat.enc x) (by rw [Flat.len, Nat.succ_mul]; omega)]
theorem flat_drop (xs : List α) (n : Nat) : flat (xs.drop n) = (flat xs).drop (n * Flat.sz α) := by
  induction xs generalizing n with
  | nil => simp [flat_nil]
  | cons x xs ih =>
    cases n with
    | zero => simp
    | succ n =>
      rw [List.drop_succ_cons, flat_cons, ih, List.drop_append, Flat.len]
      have h1 : (n + 1) * Flat.sz α - Flat.sz α = n * Flat.sz α := by rw [Nat.succ_mul]; omega
      rw [h1, List.drop_of_length_le (i := (n + 1) * Flat.sz α) (l := Flat.enc x) (by rw [Flat.len, Nat.succ_mul]; omega), List.nil_append]

/-! ### Reading -/

/-- At the address p lies x, in blocks of S. -/
def At (S : Nat → Prop) (w : World) (p : Value) (x : α) : Prop :=
  ∃ b o, p = .pointer (some ⟨b, o, none⟩) ∧ S b ∧ ∀ j c, (Flat.enc x)[j]? = some c → Cell w b (o + j) c
/-- The slice v reads as xs, in blocks of S. -/
def RdL (S : Nat → Prop) (w : World) (v : Value) (xs : List α) : Prop :=
  ∃ a cap, v = .slice a xs.length cap ∧ xs.length ≤ cap ∧ ((xs = [] ∧ cap = 0) ∨ ∃ b o, a = some ⟨b, o, none⟩ ∧ (xs ≠ [] → S b) ∧ ∀ j c, (flat xs)[j]? = some c → Cell w b (o + j) c)
/-- The slice v with the things xs is owned: nobody else reads its row. -/
def ownL (v : Value) (xs : List α) : HP where
  p w F := (v = .slice none 0 0 ∧ xs = [] ∧ ∀ b, ¬ F b) ∨
    ∃ b cap rest, v = .slice (some ⟨b, 0, none⟩) xs.length cap ∧ Blk w b (flat xs ++ rest) ∧ (flat xs ++ rest).length = cap * Flat.sz α ∧ ∀ k, F k ↔ k = b
  loc w w' F h hh := by
    rcases h with h | ⟨b, cap, rest, h1, h2, h3, h4⟩
    · exact .inl h
    · exact .inr ⟨b, cap, rest, h1, h2.of_eq (hh b ((h4 b).2 rfl)), h3, h4⟩
  lt w F b h hb := by
    rcases h with h | ⟨b', cap, rest, h1, h2, h3, h4⟩
    · exact (h.2.2 b hb).elim
    · rw [(h4 b).1 hb]; exact h2.lt

variable {P : Program} {w w0 : World} {A S : Nat → Prop} {L : List HP} {xs ys : List α}

theorem At.chg {A : Nat → Prop} {w w' : World} {p : Value} {x : α} (h : At S w p x) (hc : Chg A w w') (hd : ∀ b, S b → ¬ A b) : At S w' p x := by
  obtain ⟨b, o, h1, h2, h3⟩ := h; exact ⟨b, o, h1, h2, fun j c hj => (h3 j c hj).chg hc (hd b h2)⟩
theorem At.ext {w w' : World} {p : Value} {x : α} (h : At S w p x) (hc : Ext w w') : At S w' p x := h.chg hc fun _ _ h => h
theorem At.mono {S' : Nat → Prop} {p : Value} {x : α} (h : At S w p x) (hd : ∀ b, S b → S' b) : At S' w p x := by
  obtain ⟨b, o, h1, h2, h3⟩ := h; exact ⟨b, o, h1, hd b h2, h3⟩
theorem RdL.chg {A : Nat → Prop} {w w' : World} {v : Value} (h : RdL S w v xs) (hc : Chg A w w') (hd : ∀ b, S b → ¬ A b) : RdL S w' v xs := by
  obtain ⟨a, cap, h1, h2, h3⟩ := h
  refine ⟨a, cap, h1, h2, ?_⟩
  rcases h3 with h3 | ⟨b, o, h3, h4, h5⟩
  · exact .inl h3
  · exact .inr ⟨b, o, h3, h4, fun j c hj => (h5 j c hj).chg hc (hd b (h4 fun h => by subst h; simp [flat_nil] at hj))⟩
theorem RdL.ext {w w' : World} {v : Value} (h : RdL S w v xs) (hc : Ext w w') : RdL S w' v xs := h.chg hc fun _ _ h => h
theorem RdL.mono {S' : Nat → Prop} {v : Value} (h : RdL S w v xs) (hd : ∀ b, S b → S' b) : RdL S' w v xs := by
  obtain ⟨a, cap, h1, h2, h3⟩ := h
  exact ⟨a, cap, h1, h2, h3.imp id fun ⟨b, o, h3, h4, h5⟩ => ⟨b, o, h3, fun h => hd b (h4 h), h5⟩⟩
theorem RdL.nil (S : Nat → Prop) (w : World) : RdL S w (.slice none 0 0) ([] : List α) := ⟨none, 0, rfl, Nat.le_refl _, .inl ⟨rfl, rfl⟩⟩

/-- What is owned can be read. -/
theorem ownL.rd {v : Value} {F : Nat → Prop} (h : (ownL v xs).p w F) : RdL F w v xs := by
  rcases h with ⟨h1, h2, h3⟩ | ⟨b, cap, rest, h1, h2, h3, h4⟩
  · subst h1 h2; exact RdL.nil _ _
  · refine ⟨_, cap, h1, ?_, .inr ⟨b, 0, rfl, fun _ => (h4 b).2 rfl, fun j c hj => ?_⟩⟩
    · rw [List.length_append, flat_length] at h3
      exact Nat.le_of_mul_le_mul_right (show xs.length * Flat.sz α ≤ cap * Flat.sz α by omega) (Flat.pos (α := α))
    · rw [Nat.zero_add]
      exact h2.cell (by rw [List.getElem?_append_left (List.getElem?_eq_some_iff.1 hj).1]; exact hj)
theorem St.rd {v : Value} (hs : St w0 A (ownL v xs :: L) w) : ∃ S, (∀ b, S b → A b ∨ w0.heap.size ≤ b) ∧ RdL S w v xs := by
  obtain ⟨F, h1, h2⟩ := hs.head; exact ⟨F, h2, ownL.rd h1⟩
theorem St.rd' {v : Value} (hs : St w0 A (ownL v xs :: L) w) : RdL (fun _ => True) w v xs := by
  obtain ⟨S, _, h⟩ := hs.rd; exact h.mono fun _ _ => trivial

theorem St.ownNil (hs : St w0 A L w) : St w0 A (ownL (.slice none 0 0) ([] : List α) :: L) w :=
  hs.new (Ext.refl w) (F := none1) (.inl ⟨rfl, rfl, fun _ h => h⟩) fun _ h => h.elim

/-- A load from an address at which x lies. -/
theorem qop_at {T : TypeId} {p : Value} {x : α} {K : Value → Prop} (ht : oneFact P T = some (Flat.agg α, Flat.sz α)) (h : At S w p x) (k : K (Flat.val x)) : Qop P (Instr.loadAt T p) w K := by
  obtain ⟨b, o, rfl, _, h3⟩ := h
  cases ha : Flat.agg α with
  | true =>
    rw [ha] at ht
    refine ⟨_, ?_, k⟩
    rw [Flat.vagg ha x]
    exact run_loadAgg (by rw [Flat.len]; exact ht) h3
  | false =>
    rw [ha] at ht
    have h1 := Flat.vone ha x
    have hsz : Flat.sz α = 1 := by rw [← Flat.len x, h1]; rfl
    rw [hsz] at ht
    exact ⟨_, run_loadOne ht (by have := h3 0 (Flat.val x) (by rw [h1]; rfl); simpa using this), k⟩
theorem St.At {b : Nat} {x : α} (hs : St w0 A (Fw.blk b (Flat.enc x) :: L) w) : Fw.At (fun _ => True) w (.pointer (some ⟨b, 0, none⟩)) x :=
  ⟨b, 0, rfl, trivial, fun j c hj => by rw [Nat.zero_add]; exact hs.hb.cell hj⟩
/-- A field of one cell. -/
theorem pop_atf {β : Type} [Flat β] {T f off : Nat} {p : Value} {x : α} (y : β) {K : Value → Prop} (ht : FieldT P T f off) (h : At S w p x) (hy : (Flat.enc x)[off]? = some (Flat.val y)) (ha : Flat.agg β = false)
    (k : ∀ q, At S w q y → K q) : Pop P (Instr.fieldAt T p f) K := by
  obtain ⟨b, o, rfl, h2, h3⟩ := h
  refine pop_field ht (k _ ⟨b, o + off, rfl, h2, fun j c hj => ?_⟩)
  rw [Flat.vone ha] at hj
  cases j with
  | zero => simp at hj; subst hj; exact h3 off _ hy
  | succ j => simp at hj

theorem pr_len {T R E n by' : Nat} {z : Option Nat} {a : Option Addr} {l c : Nat} (ht : slFact P T = some (E, n, by', z)) : pr P (Builtin.len_ #[T] R [Value.slice a l c].toArray) = some (.int .i64 l) := by
  show pr P (do
    match ← underlying T, Value.slice a l c with
    | .string, .string s => pure (goInt s.size)
    | .array n _, _ => pure (goInt n)
    | .pointer arr, _ =>
      let .array n _ ← underlying arr | stuck "len: pointer to array expected"
      pure (goInt n)
    | .slice _, .slice _ n _ => pure (goInt n)
    | .map _ _, .map none | .chan _ _, .chan none => pure (goInt 0)
    | .map _ _, .map (some r) =>
      let .map entries _ ← getObj r | stuck "len: map expected"
      pure (goInt entries.size)
    | .chan _ _, .chan (some r) =>
      let .chan _ buf _ _ _ timer ← getObj r | stuck "len: channel expected"
      pure (goInt (if timer then 0 else buf.size))
    | _, _ => stuck "len: string, array, pointer to array, slice, map or channel expected") = _
  rw [pr_bind, pr_underlying (slFact_spec ht).1]
  rfl
theorem pop_len {T R E n by' : Nat} {z : Option Nat} {v : Value} {K : Value → Prop} (ht : slFact P T = some (E, n, by', z)) (h : RdL S w v xs) (k : K (.int .i64 (xs.length : Int))) :
    Pop P (Builtin.len_ #[T] R [v].toArray) K := by
  obtain ⟨a, cap, rfl, _⟩ := h
  exact ⟨_, pr_len ht, k⟩

theorem pop_idx {T E by' : Nat} {z : Option Nat} {v : Value} {i : Int} {x : α} {K : Value → Prop} (ht : slFact P T = some (E, Flat.sz α, by', z)) (h : RdL S w v xs) (h0 : 0 ≤ i) (hx : xs[i.toNat]? = some x)
    (k : ∀ p, At S w p x → K p) : Pop P (Instr.indexAt T v (.int .i64 i)) K := by
  obtain ⟨a, cap, rfl, hcap, h3⟩ := h
  have hlt : i.toNat < xs.length := (List.getElem?_eq_some_iff.1 hx).1
  rcases h3 with ⟨rfl, _⟩ | ⟨b, o, rfl, h4, h5⟩
  · simp at hx
  · obtain ⟨hu, inf, hi, hsz, _⟩ := slFact_spec ht
    refine ⟨.pointer (some ⟨b, o + i.toNat * Flat.sz α, none⟩), ?_, k _ ⟨b, _, rfl, h4 (by intro h; subst h; simp at hx), fun j c hj => ?_⟩⟩
    · unfold Instr.indexAt
      rw [pr_bind]
      show pr P _ = _
      simp only [asIntOf]
      have e1 : pr P (underlying T) = some (.slice E) := pr_underlying hu
      have e2 : pr P (sizeOf E) = some (Flat.sz α) := by rw [pr_sizeOf hi, hsz]
      simp only [pr_bind, e1, e2, Option.bind_some, pr_pure]
      have hin : 0 ≤ i ∧ i < (xs.length : Int) := ⟨h0, by omega⟩
      simp only [if_pos hin, pr_bind, e2, Option.bind_some, pr_pure, add_none]
    · have := h5 (i.toNat * Flat.sz α + j) c (flat_get hx hj)
      rwa [show o + (i.toNat * Flat.sz α + j) = o + i.toNat * Flat.sz α + j from by omega] at this

end
end Go.Fw
