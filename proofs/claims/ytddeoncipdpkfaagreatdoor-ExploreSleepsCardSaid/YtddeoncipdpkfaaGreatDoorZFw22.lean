/-
  Arrays: a cell of one by index; an argument that is one. Own work; nothing here is trusted.
-/
import Derived.Test.YtddeoncipdpkfaaGreatDoorZFw18
import Derived.Test.YtddeoncipdpkfaaGreatDoorZFw14
set_option linter.all false
namespace Go.Fw
section
variable {P : Program} {α : Type} [Flat α]
/-- An array of n things of one cell. -/
def ArrT (P : Program) (T n E : Nat) : Prop := P.underlying T = some (.array n E) ∧ pr P (sizeOf E) = some 1
theorem pop_ixA {T E n b o : Nat} {i : Int} {K : Value → Prop} (h : ArrT P T n E) (h0 : 0 ≤ i) (h1 : i < n) (k : K (.pointer (some ⟨b, o + i.toNat, none⟩))) :
    Pop P (Instr.indexAt T (.pointer (some ⟨b, o, none⟩)) (.int .i64 i)) K := by
  refine ⟨_, ?_, k⟩
  unfold Instr.indexAt
  have e1 : pr P (underlying T) = some (.array n E) := pr_underlying h.1
  have e3 : pr P (Instr.sureAddr (.pointer (some (⟨b, o, none⟩ : Addr)))) = some ⟨b, o, none⟩ := rfl
  simp only [asIntOf, pr_bind, e1, Option.bind_some, pr_pure, e3]
  simp only [if_pos (show 0 ≤ i ∧ i < (n : Int) from ⟨h0, h1⟩), pr_bind, h.2, Option.bind_some, pr_pure, add_none, Nat.mul_one]
theorem pop_ownix {T E n j : Nat} {i : Int} {v p : Value} {K : Value → Prop} (h : ArrT P T n E) (hp : OwnAt α v j p) (h0 : 0 ≤ i) (h1 : i < n) (k : ∀ q, OwnAtF α v j i.toNat q → K q) : Pop P (Instr.indexAt T p (.int .i64 i)) K := by
  obtain ⟨b, m, c, e, rfl⟩ := hp
  exact pop_ixA h h0 h1 (k _ ⟨b, m, c, e, rfl⟩)
theorem open_arr {H : Type} {enc : TypeId × Value → H} {w : World} {base : Nat} {held : Bool} {φ : α → Prop} {t : TypeId} {n : Nat} {e : TypeId} {r : Reach} {b0 : Nat} {v : Value} {d : DataW H} {ps : List MemPlace} {sp : Nat → Bool} (ht : P.underlying t = some (.array n e)) (ha : Flat.agg α = true)
    (hr : RdT P t α φ) (hval : Value.okWide P w r b0 t v) (hd : DataW.Trod enc P w base sp held t v d ps) : ∃ x : α, v = Flat.val x ∧ φ x := by
  obtain ⟨fuel, hf⟩ := hd
  obtain ⟨x, hx, hp⟩ := hr.rd enc w base _ held fuel _ _ hf
  unfold Value.okWide at hval
  rw [ht] at hval
  obtain ⟨cs, rfl, _⟩ := hval
  refine ⟨x, ?_, hp⟩
  rw [Flat.vagg ha, ← hx]
  simp [Value.cells]
end
end Go.Fw
namespace Go.Fw
theorem run_own {α : Type} [Flat α] {P : Program} {w w0 : World} {A : Nat → Prop} {L : List HP} {xs : List α} {T : Nat} {v p : Value} {i : Nat} {x : α} (hs : St w0 A (ownL v xs :: L) w) (ht : oneFact P T = some (Flat.agg α, Flat.sz α)) (hp : OwnAt α v i p) (hx : xs[i]? = some x) :
    (Instr.loadAt T p).run P w = .ok (Flat.val x) w := by
  obtain ⟨F, h, _⟩ := hs.head
  obtain ⟨b, cap, rest, hv, hb, hl, _⟩ := own_split h (List.getElem?_eq_some_iff.1 hx).1
  obtain ⟨b', n, c, hv', rfl⟩ := hp
  rw [hv] at hv'
  simp only [Value.slice.injEq, Option.some.injEq, Addr.mk.injEq] at hv'
  obtain ⟨⟨rfl, _, _⟩, _, _⟩ := hv'
  refine run_at (S := fun _ => True) ht ⟨b, i * Flat.sz α, rfl, trivial, fun j c hj => hb.cell ?_⟩
  have := flat_get hx hj
  rw [List.getElem?_append_left (List.getElem?_eq_some_iff.1 this).1]; exact this
end Go.Fw
namespace Go.Fw
/-- Things of the type α lie as cells of the shape σ. -/
class Deep (α : Type) (σ : outParam Type) [Flat σ] where
  dr : World → σ → α → Prop
  ext : ∀ {w w' : World} {s : σ} {x : α}, dr w s x → Ext w w' → dr w' s x
/-- The slice v reads as these things. -/
def DL {α σ : Type} [Flat σ] [Deep α σ] (w : World) (v : Value) (xs : List α) : Prop :=
  ∃ ts : List σ, RdL (fun _ => True) w v ts ∧ ts.length = xs.length ∧ ∀ (i : Nat) (t : σ) (x : α), ts[i]? = some t → xs[i]? = some x → Deep.dr w t x
section
variable {P : Program} {α σ : Type} [Flat σ] [Deep α σ] {w w' w0 : World} {v : Value} {A : Nat → Prop} {L : List HP}
theorem DL.ext {xs : List α} (h : DL w v xs) (e : Ext w w') : DL w' v xs := by
  obtain ⟨ts, h1, h2, h3⟩ := h; exact ⟨ts, h1.ext e, h2, fun i t x a b => Deep.ext (h3 i t x a b) e⟩
theorem DL.nil (w : World) : DL w (.slice none 0 0) ([] : List α) := ⟨[], RdL.nil _ _, rfl, fun i t x h => by simp at h⟩
theorem DL.isSV {xs : List α} (h : DL w v xs) : ∃ s : SV, v = Flat.val s := by obtain ⟨_, h, _⟩ := h; exact h.isSV
theorem DL.one {xs : List α} (h : DL w v xs) : oneC v = true := by obtain ⟨_, h, _⟩ := h; exact h.one
instance : Deep (List α) SV where
  dr w s xs := DL w (Flat.val s) xs
  ext h e := DL.ext h e

/-! ### Things that are read and turn no more -/

/-- Some blocks, on which what Φ says hangs. -/
def frz (Φ : World → Prop) : HP where
  p w F := (∀ w' : World, (∀ b, F b → w'.heap[b]? = w.heap[b]?) → Φ w') ∧ ∀ b, F b → b < w.heap.size
  loc w w' F h hh := ⟨fun w2 h2 => h.1 w2 fun b hb => (h2 b hb).trans (hh b hb), fun b hb => by
    have := h.2 b hb
    have h3 := hh b hb
    rw [Array.getElem?_eq_getElem this] at h3
    exact (Array.getElem?_eq_some_iff.1 h3).1⟩
  lt w F b h hb := h.2 b hb
theorem frz.now {Φ : World → Prop} {F : Nat → Prop} (h : (frz Φ).p w F) : Φ w := h.1 w fun _ _ => rfl
theorem St.frz {Φ : World → Prop} (hs : St w0 A (frz Φ :: L) w) : Φ w := by obtain ⟨F, h, _⟩ := hs.head; exact frz.now h
theorem St.frzMono {Φ Ψ : World → Prop} (hs : St w0 A (Fw.frz Φ :: L) w) (hk : ∀ w, Φ w → Ψ w) : St w0 A (Fw.frz Ψ :: L) w :=
  hs.turn fun F hF => ⟨F, ⟨fun w' h => hk _ (hF.1 w' h), hF.2⟩, fun b hb => .inl hb, Chg.refl _ _⟩
theorem St.frzAnd {Φ Ψ : World → Prop} (hs : St w0 A (Fw.frz Φ :: Fw.frz Ψ :: L) w) : St w0 A (Fw.frz (fun w => Φ w ∧ Ψ w) :: L) w := by
  have h := St.join hs
  refine h.turn fun F hF => ?_
  obtain ⟨F1, F2, h1, h2, h3, h4⟩ := hF
  refine ⟨F, ⟨fun w' hh => ⟨h1.1 w' fun b hb => hh b ((h4 b).2 (.inl hb)), h2.1 w' fun b hb => hh b ((h4 b).2 (.inr hb))⟩, fun b hb => ?_⟩, fun b hb => .inl hb, Chg.refl _ _⟩
  rcases (h4 b).1 hb with hb | hb
  · exact h1.2 b hb
  · exact h2.2 b hb
theorem St.frzNil {Φ : World → Prop} (hs : St w0 A L w) (h : ∀ w, Φ w) : St w0 A (Fw.frz Φ :: L) w :=
  hs.new (Ext.refl w) (F := none1) ⟨fun w' _ => h w', fun b hb => hb.elim⟩ fun _ h => h.elim
/-- What is owned turns no more. -/
theorem St.freeze {xs : List σ} (hs : St w0 A (ownL v xs :: L) w) : St w0 A (Fw.frz (fun w => RdL (fun _ => True) w v xs) :: L) w :=
  hs.turn fun F hF => ⟨F, ⟨fun w' h => (ownL.rd ((ownL v xs).loc _ _ _ hF h)).mono fun _ _ => trivial, fun b hb => (ownL v xs).lt _ _ _ hF hb⟩, fun b hb => .inl hb, Chg.refl _ _⟩
theorem St.freezeBlk {b : Nat} {cs : List Value} (hs : St w0 A (blk b cs :: L) w) : St w0 A (Fw.frz (fun w => Blk w b cs) :: L) w :=
  hs.turn fun F hF => ⟨F, ⟨fun w' h => ((blk b cs).loc _ _ _ hF h).1, fun k hk => (blk b cs).lt _ _ _ hF hk⟩, fun b hb => .inl hb, Chg.refl _ _⟩
/-- The parts of a list of things, as they come: the shapes, and what each reads as. -/
def drs (ts : List σ) (xs : List α) (w : World) : Prop := ts.length = xs.length ∧ ∀ (i : Nat) (t : σ) (x : α), ts[i]? = some t → xs[i]? = some x → Deep.dr w t x
theorem drs.nil : drs ([] : List σ) ([] : List α) w := ⟨rfl, fun i t x h => by simp at h⟩
theorem drs.snoc {ts : List σ} {xs : List α} {t : σ} {x : α} (h : drs ts xs w) (ht : Deep.dr w t x) : drs (ts ++ [t]) (xs ++ [x]) w := by
  refine ⟨by rw [List.length_append, List.length_append, h.1]; rfl, fun i t' x' h1 h2 => ?_⟩
  rcases Nat.lt_or_ge i ts.length with hi | hi
  · rw [List.getElem?_append_left hi] at h1
    rw [List.getElem?_append_left (by rw [← h.1]; exact hi)] at h2
    exact h.2 i t' x' h1 h2
  · have hlt := (List.getElem?_eq_some_iff.1 h1).1
    rw [List.length_append, List.length_singleton] at hlt
    obtain rfl : i = ts.length := by omega
    rw [List.getElem?_append_right (Nat.le_refl _), Nat.sub_self] at h1
    rw [List.getElem?_append_right (by rw [h.1]; exact Nat.le_refl _), h.1, Nat.sub_self] at h2
    rw [← Option.some.inj h1, ← Option.some.inj h2]; exact ht
theorem drs.append {ts us : List σ} {xs ys : List α} (h : drs ts xs w) (g : drs us ys w) : drs (ts ++ us) (xs ++ ys) w := by
  refine ⟨by rw [List.length_append, List.length_append, h.1, g.1], fun i t' x' h1 h2 => ?_⟩
  rcases Nat.lt_or_ge i ts.length with hi | hi
  · rw [List.getElem?_append_left hi] at h1
    rw [List.getElem?_append_left (by rw [← h.1]; exact hi)] at h2
    exact h.2 i t' x' h1 h2
  · rw [List.getElem?_append_right hi] at h1
    rw [List.getElem?_append_right (by rw [← h.1]; exact hi), ← h.1] at h2
    exact g.2 _ t' x' h1 h2
theorem drs.ext {ts : List σ} {xs : List α} (h : drs ts xs w) (e : Ext w w') : drs ts xs w' := ⟨h.1, fun i t x a b => Deep.ext (h.2 i t x a b) e⟩
theorem DL.of {ts : List σ} {xs : List α} (h : RdL (fun _ => True) w v ts) (g : drs ts xs w) : DL w v xs := ⟨ts, h, g.1, g.2⟩
theorem DL.open {xs : List α} (h : DL w v xs) : ∃ ts : List σ, RdL (fun _ => True) w v ts ∧ drs ts xs w := by obtain ⟨ts, h1, h2, h3⟩ := h; exact ⟨ts, h1, h2, h3⟩
theorem drs.take {ts : List σ} {xs : List α} (h : drs ts xs w) (k : Nat) : drs (ts.take k) (xs.take k) w := by
  refine ⟨by rw [List.length_take, List.length_take, h.1], fun i t x a b => ?_⟩
  rw [List.getElem?_take] at a b
  split at a
  · rename_i hi; rw [if_pos hi] at b; exact h.2 i t x a b
  · cases a
theorem drs.drop {ts : List σ} {xs : List α} (h : drs ts xs w) (k : Nat) : drs (ts.drop k) (xs.drop k) w := by
  refine ⟨by rw [List.length_drop, List.length_drop, h.1], fun i t x a b => ?_⟩
  rw [List.getElem?_drop] at a b
  exact h.2 _ t x a b
end
section
variable {α : Type} [Flat α]
/-- Plain things are as they lie. -/
abbrev plainDeep : Deep α α := ⟨fun _ s x => s = x, fun h _ => h⟩
theorem drs_plain [D : Deep α α] (hD : ∀ w s x, D.dr w s x ↔ s = x) {w : World} {ts xs : List α} : drs ts xs w ↔ ts = xs := by
  constructor
  · rintro ⟨h1, h2⟩
    refine List.ext_getElem? fun i => ?_
    rcases Nat.lt_or_ge i ts.length with hi | hi
    · have a := List.getElem?_eq_getElem hi
      have b := List.getElem?_eq_getElem (l := xs) (by rw [← h1]; exact hi)
      rw [a, b, (hD _ _ _).1 (h2 i _ _ a b)]
    · rw [List.getElem?_eq_none hi, List.getElem?_eq_none (by rw [← h1]; exact hi)]
  · rintro rfl
    exact ⟨rfl, fun i t x a b => (hD _ _ _).2 (Option.some.inj (a.symm.trans b))⟩
end
instance : Deep Int Int := plainDeep
instance : Deep Bool Bool := plainDeep
instance : Deep ByteArray ByteArray := plainDeep
end Go.Fw
namespace Go.Fw
/-- Things of the type t, in the world w, as the form reads them. -/
structure RdW (P : Program) (w : World) (t : TypeId) (α : Type) [Flat α] (φ : α → Prop) : Prop where
  cells : P.cellsOf t = Flat.sz α
  rd : ∀ {H : Type} (enc : TypeId × Value → H) (base : Nat) (held : Bool) (fuel : Nat) (cs : List Value) (x : DataW H × List MemPlace),
    DataW.trod enc P w base (fun _ => true) held fuel t cs = some x → ∃ a : α, cs = Flat.enc a ∧ φ a
/-- Things that may hold slices. -/
def RdD (P : Program) (t : TypeId) (α : Type) {σ : Type} [Flat σ] [Deep α σ] (φ : α → Prop) : Prop := ∀ w, RdW P w t σ (fun s => ∃ a : α, Deep.dr w s a ∧ φ a)
theorem RdT.deep {P : Program} {t : TypeId} {α : Type} [Flat α] [D : Deep α α] {φ : α → Prop} (h : RdT P t α φ) (hD : ∀ w (x : α), D.dr w x x) : RdD P t α φ :=
  fun w => ⟨h.cells, fun enc base held fuel cs x hx => by
    obtain ⟨a, h1, h2⟩ := h.rd enc w base _ held fuel cs x hx; exact ⟨a, h1, a, hD w a, h2⟩⟩
section
variable {H : Type} {enc : TypeId × Value → H} {P : Program} {w : World} {base : Nat} {held : Bool}
/-- A slice that is read as the form reads it. -/
theorem trod_slW {α : Type} [Flat α] {φ : α → Prop} {t e : TypeId} {fuel : Nat} {cs : List Value} {x : DataW H × List MemPlace} (ht : P.underlying t = some (.slice e)) (hr : RdW P w e α φ)
    (h : DataW.trod enc P w base (fun _ => true) held fuel t cs = some x) : ∃ v, cs = [v] ∧ ∃ xs : List α, RdL (fun b => b < w.heap.size) w v xs ∧ ∀ x ∈ xs, φ x := by
  rcases DataW.trod_slice ht h with ⟨rfl, _⟩ | ⟨a, len, cap, elems, rest, n, _, rfl, _, hb, hl, hm, hlen, hel, hsp, _⟩
  · exact ⟨_, rfl, [], RdL.nil _ _, by simp⟩
  · refine ⟨_, rfl, ?_⟩
    have get : ∀ i, i < len → ∃ x : α, φ x ∧ w.cells? base (a.add (i * P.cellsOf e)) (P.cellsOf e) = some (Flat.enc x) := by
      intro i hi
      have h1 := hel i hi
      rw [List.getElem?_eq_getElem (by omega)] at h1
      obtain ⟨cs', h2, h3⟩ := Option.bind_eq_some_iff.1 h1
      obtain ⟨x, rfl, hx⟩ := hr.rd enc base held n cs' _ h3
      exact ⟨x, hx, h2⟩
    obtain ⟨xs, hxl, hxs⟩ := list_of len get
    have hsz := hr.cells
    have hpos : 0 < Flat.sz α := Flat.pos
    have first : ∀ (c : Nat) (cs' : List Value), w.cells? base (a.add (c * P.cellsOf e)) (P.cellsOf e) = some cs' → c = 0 → a.spot = none := by
      intro c cs' h1 h0
      subst h0
      have := World.cells?_some h1
      have h2 := this.2.2 0 (by rw [hsz]; exact hpos)
      rw [Nat.zero_mul] at h2
      have h3 : w.cell? a = cs'[0]? := by simpa [Addr.add] using h2
      rw [List.getElem?_eq_getElem (by rw [this.2.1, hsz]; exact hpos)] at h3
      unfold World.cell? at h3
      split at h3
      · split at h3
        · cases h3
        · rename_i hs; simpa using hs
      · cases h3
    refine ⟨xs, ⟨some a, cap, by rw [hxl], by omega, ?_⟩, fun x hx => ?_⟩
    · by_cases hc0 : cap = 0
      · exact .inl ⟨List.length_eq_zero_iff.1 (by omega), hc0⟩
      · right
        have hspot : a.spot = none := by
          by_cases h0 : 0 < len
          · obtain ⟨x, _, hx⟩ := get 0 h0
            exact first 0 _ hx rfl
          · obtain ⟨h1, h2⟩ := hsp rfl
            have h3 := h2 0 (by omega)
            rw [List.getElem?_eq_getElem (by omega)] at h3
            obtain ⟨cs', h4, _⟩ := Option.bind_eq_some_iff.1 h3
            exact first (len + 0) _ h4 (by omega)
        have hcell : ∀ j c, (flat xs)[j]? = some c → Cell w a.block (a.off + j) c := by
          intro j c hj
          obtain ⟨i, r, x, hx, hcr, rfl⟩ := flat_index hj
          have h1 := (World.cells?_some (hxs i x hx).2).2.2 r (by rw [hsz]; have := (List.getElem?_eq_some_iff.1 hcr).1; rwa [Flat.len] at this)
          rw [hcr, hsz] at h1
          obtain ⟨b, o, s⟩ := a
          simp only at hspot
          subst hspot
          unfold Cell
          rw [← h1, add_none, add_none, Nat.add_assoc]
        refine ⟨a.block, a.off, by obtain ⟨b, o, s⟩ := a; simp only at hspot; subst hspot; rfl, fun hne => ?_, hcell⟩
        obtain ⟨y, ys, rfl⟩ := List.exists_cons_of_ne_nil hne
        have h0 : (flat (y :: ys))[0]? = some ((Flat.enc y)[0]'(by rw [Flat.len]; exact hpos)) := by
          rw [flat_cons, List.getElem?_append_left (by rw [Flat.len]; exact hpos), List.getElem?_eq_getElem]
        exact (hcell 0 _ h0).lt
    · obtain ⟨i, hi⟩ := List.getElem?_of_mem hx
      exact (hxs i x hi).1


theorem drs_of {α σ : Type} [Flat σ] [Deep α σ] {φ : α → Prop} : ∀ (ts : List σ), (∀ s ∈ ts, ∃ a : α, Deep.dr w s a ∧ φ a) → ∃ xs : List α, drs ts xs w ∧ ∀ x ∈ xs, φ x
  | [], _ => ⟨[], drs.nil, by simp⟩
  | t :: ts, h => by
    obtain ⟨a, h1, h2⟩ := h t (by simp)
    obtain ⟨xs, h3, h4⟩ := drs_of ts fun s hs => h s (List.mem_cons_of_mem _ hs)
    refine ⟨a :: xs, ?_, fun x hx => ?_⟩
    · have : drs ([] ++ [t]) ([] ++ [a]) w := drs.nil.snoc h1
      exact this.append h3
    · rcases List.mem_cons.1 hx with rfl | hx
      · exact h2
      · exact h4 x hx
theorem RdD.slice {α σ : Type} [Flat σ] [Deep α σ] {φ : α → Prop} {t e : TypeId} (ht : P.underlying t = some (.slice e)) (hc : P.cellsOf t = 1) (hr : RdD P e α φ) : RdD P t (List α) (fun xs => ∀ x ∈ xs, φ x) :=
  fun w => ⟨hc, fun enc base held fuel cs x hx => by
    obtain ⟨v, rfl, ts, h1, h2⟩ := trod_slW ht (hr w) hx
    obtain ⟨xs, h3, h4⟩ := drs_of ts h2
    have h1' : RdL (fun _ => True) w v ts := h1.mono fun _ _ => trivial
    obtain ⟨s, rfl⟩ := h1'.isSV
    exact ⟨s, rfl, xs, DL.of h1' h3, h4⟩⟩
/-- An argument that is a slice. -/
theorem open_dl {α σ : Type} [Flat σ] [Deep α σ] {φ : α → Prop} {t e : TypeId} {r : Reach} {b0 : Nat} {v : Value} {d : DataW H} {ps : List MemPlace} (ht : P.underlying t = some (.slice e)) (hr : RdD P e α φ)
    (hval : Value.okWide P w r b0 t v) (hd : DataW.Trod enc P w base (fun _ => true) held t v d ps) : ∃ xs : List α, DL w v xs ∧ ∀ x ∈ xs, φ x := by
  obtain ⟨fuel, hf⟩ := hd
  obtain ⟨u, hu, ts, h1, h2⟩ := trod_slW ht (hr w) hf
  have hv : v = u := by
    have h1 := hval
    unfold Value.okWide at h1
    rw [ht] at h1
    cases v with
    | slice a n c => exact (List.cons.inj (show [Value.slice a n c] = [u] from hu)).1
    | _ =>
      have h2 : Cell.okWide P w r b0 t _ := h1
      unfold Cell.okWide at h2
      rw [ht] at h2
      simp only [Cell.ok, ht] at h2
  subst hv
  obtain ⟨xs, h3, h4⟩ := drs_of ts h2
  exact ⟨xs, DL.of (h1.mono fun _ _ => trivial) h3, h4⟩
/-- An argument that is a struct. -/
theorem open_dst {α σ : Type} [Flat σ] [Deep α σ] {φ : α → Prop} {t : TypeId} {fs : Array Field} {r : Reach} {b0 : Nat} {v : Value} {d : DataW H} {ps : List MemPlace} (ht : P.underlying t = some (.struct fs)) (ha : Flat.agg σ = true)
    (hr : RdD P t α φ) (hval : Value.okWide P w r b0 t v) (hd : DataW.Trod enc P w base (fun _ => true) held t v d ps) : ∃ (s : σ) (x : α), v = Flat.val s ∧ Deep.dr w s x ∧ φ x := by
  obtain ⟨fuel, hf⟩ := hd
  obtain ⟨s, hs, x, h1, h2⟩ := (hr w).rd enc base held fuel _ _ hf
  unfold Value.okWide at hval
  rw [ht] at hval
  obtain ⟨cs, rfl, _⟩ := hval
  refine ⟨s, x, ?_, h1, h2⟩
  rw [Flat.vagg ha, ← hs]
  simp [Value.cells]
end
end Go.Fw
