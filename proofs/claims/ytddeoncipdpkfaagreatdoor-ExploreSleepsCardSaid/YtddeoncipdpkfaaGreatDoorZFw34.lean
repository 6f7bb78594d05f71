/-
  Arguments that hold slices: how great they are, as the form bounds them. Own work; nothing here is trusted.
-/
import Derived.Test.YtddeoncipdpkfaaGreatDoorZFw22
set_option linter.all false
namespace Go.Fw
/-- What is read is within the form's reach. -/
def Wt {H : Type} (P : Program) (t : TypeId) (d : DataW H) : Prop := ∀ n ∈ DataW.weights P t d, n ≤ reachBytes
section
variable {H : Type} {P : Program}
theorem wt_all {e : TypeId} : ∀ {l : List (DataW H)}, (∀ n ∈ DataW.weightsAll P e l, n ≤ reachBytes) → ∀ d ∈ l, Wt P e d
  | [], _, d, h => by cases h
  | x :: r, h, d, hd => by
    rw [DataW.weightsAll] at h
    rcases List.mem_cons.1 hd with rfl | hd
    · exact fun n hn => h n (List.mem_append_left _ hn)
    · exact wt_all (fun n hn => h n (List.mem_append_right _ hn)) d hd
theorem wt_slice {t e : TypeId} {es sp : List (DataW H)} (ht : P.underlying t = some (.slice e)) (h : Wt P t (.slice es sp)) : (es.length + sp.length) * P.bytesOf e ≤ reachBytes ∧ ∀ d ∈ es, Wt P e d := by
  unfold Wt DataW.weights at h
  rw [ht] at h
  exact ⟨h _ List.mem_cons_self, wt_all fun n hn => h n (List.mem_cons_of_mem _ (List.mem_append_left _ hn))⟩
theorem wt_each : ∀ {ts : List TypeId} {l : List (DataW H)}, (∀ n ∈ DataW.weightsEach P ts l, n ≤ reachBytes) → ∀ (i : Nat) t d, ts[i]? = some t → l[i]? = some d → Wt P t d
  | [], _, _, i, t, d, h, _ => by simp at h
  | _ :: _, [], _, i, t, d, _, h => by simp at h
  | t0 :: ts, d0 :: l, h, 0, t, d, h1, h2 => by
    rw [DataW.weightsEach] at h
    simp at h1 h2; subst h1 h2
    exact fun n hn => h n (List.mem_append_left _ hn)
  | t0 :: ts, d0 :: l, h, i + 1, t, d, h1, h2 => by
    rw [DataW.weightsEach] at h
    exact wt_each (fun n hn => h n (List.mem_append_right _ hn)) i t d (by simpa using h1) (by simpa using h2)
theorem wt_args {ts : List TypeId} {l : List (DataW H)} (h : (DataW.weightsEach P ts l).all (· ≤ reachBytes) = true) {i : Nat} {t : TypeId} {d : DataW H} (h1 : ts[i]? = some t) (h2 : l[i]? = some d) : Wt P t d :=
  wt_each (fun n hn => by have := List.all_eq_true.1 h n hn; simpa using this) i t d h1 h2
end
/-- Things of the type t, in the world w, as the form reads them within its reach. -/
structure RdWb (P : Program) (w : World) (t : TypeId) (α : Type) [Flat α] (φ : α → Prop) : Prop where
  cells : P.cellsOf t = Flat.sz α
  rd : ∀ {H : Type} (enc : TypeId × Value → H) (base : Nat) (held : Bool) (fuel : Nat) (cs : List Value) (x : DataW H × List MemPlace),
    DataW.trod enc P w base (fun _ => true) held fuel t cs = some x → Wt P t x.1 → ∃ a : α, cs = Flat.enc a ∧ φ a
def RdDb (P : Program) (t : TypeId) (α : Type) {σ : Type} [Flat σ] [Deep α σ] (φ : α → Prop) : Prop := ∀ w, RdWb P w t σ (fun s => ∃ a : α, Deep.dr w s a ∧ φ a)
theorem RdD.b {P : Program} {t : TypeId} {α σ : Type} [Flat σ] [Deep α σ] {φ : α → Prop} (h : RdD P t α φ) : RdDb P t α φ := fun w => ⟨(h w).cells, fun enc base held fuel cs x hx _ => (h w).rd enc base held fuel cs x hx⟩
theorem trod_partsB {H : Type} {enc : TypeId × Value → H} {P : Program} {w : World} {base : Nat} {sp : Nat → Bool} {held : Bool} {fuel : Nat} {t : TypeId} {fs : Array Field} {cs : List Value} {x : DataW H × List MemPlace}
    (ht : P.underlying t = some (.struct fs)) (h : DataW.trod enc P w base sp held fuel t cs = some x) (hw : Wt P t x.1) :
    cs.length = P.cellsOf t ∧ ∃ n, ∀ (i : Nat) (f : Field), fs[i]? = some f → ∃ y, DataW.trod enc P w base sp held n f.type ((cs.drop f.offset).take (P.cellsOf f.type)) = some y ∧ Wt P f.type y.1 := by
  obtain ⟨xs, n, _, hx, hl, hs, hf⟩ := DataW.trod_struct ht h
  refine ⟨hl, n, fun i f hi => ?_⟩
  have hlt : i < xs.length := by rw [hs]; exact (Array.getElem?_eq_some_iff.1 hi).1
  refine ⟨xs[i], by rw [hf i f hi, List.getElem?_eq_getElem hlt], ?_⟩
  rw [hx] at hw
  unfold Wt DataW.weights at hw
  rw [ht] at hw
  refine wt_each hw i _ _ ?_ ?_
  · rw [List.getElem?_map, Array.getElem?_toList, hi]; rfl
  · rw [List.getElem?_map, List.getElem?_eq_getElem hlt]; rfl
section
variable {H : Type} {enc : TypeId × Value → H} {P : Program} {w : World} {base : Nat} {held : Bool}
/-- A slice that is read as the form reads it. -/
theorem trod_slB {α : Type} [Flat α] {φ : α → Prop} {t e : TypeId} {fuel : Nat} {cs : List Value} {x : DataW H × List MemPlace} (ht : P.underlying t = some (.slice e)) (hr : RdWb P w e α φ)
    (h : DataW.trod enc P w base (fun _ => true) held fuel t cs = some x) (hw : Wt P t x.1) : ∃ v, cs = [v] ∧ ∃ xs : List α, RdL (fun b => b < w.heap.size) w v xs ∧ xs.length * P.bytesOf e ≤ reachBytes ∧ ∀ x ∈ xs, φ x := by
  rcases DataW.trod_slice ht h with ⟨rfl, _⟩ | ⟨a, len, cap, elems, rest, n, _, rfl, hx, hb, hl, hm, hlen, hel, hsp, _⟩
  · exact ⟨_, rfl, [], RdL.nil _ _, by simp, by simp⟩
  · refine ⟨_, rfl, ?_⟩
    rw [hx] at hw
    obtain ⟨hw1, hw2⟩ := wt_slice ht hw
    have get : ∀ i, i < len → ∃ x : α, φ x ∧ w.cells? base (a.add (i * P.cellsOf e)) (P.cellsOf e) = some (Flat.enc x) := by
      intro i hi
      have h1 := hel i hi
      rw [List.getElem?_eq_getElem (by omega)] at h1
      obtain ⟨cs', h2, h3⟩ := Option.bind_eq_some_iff.1 h1
      obtain ⟨x, rfl, hx⟩ := hr.rd enc base held n cs' _ h3 (hw2 _ (List.mem_map.2 ⟨_, List.getElem_mem _, rfl⟩))
      exact ⟨x, hx, h2⟩
    obtain ⟨xs, hxl, hxs⟩ := list_of len get
    have hsz := hr.cells
    have hpos : 0 < Flat.sz α := Flat.pos
    have first : ∀ (c : Nat) (cs' : List Value), w.cells? base (a.add (c * P.cellsOf e)) (P.cellsOf e) = some cs' → c = 0 → a.spot = none := by
      intro c cs' h1 h0
      subst h0
      have := World.cells?_some h1
      have h2 := this.2.2 0 (by rw [hsz]; exact hpos)
      rw [Nat.zero_mul] at h2
      have h3 : w.cell? a = cs'[0]? := by simpa [Addr.add] using h2
      rw [List.getElem?_eq_getElem (by rw [this.2.1, hsz]; exact hpos)] at h3
      unfold World.cell? at h3
      split at h3
      · split at h3
        · cases h3
        · rename_i hs; simpa using hs
      · cases h3
    refine ⟨xs, ⟨some a, cap, by rw [hxl], by omega, ?_⟩, ?_, fun x hx => ?_⟩
    · by_cases hc0 : cap = 0
      · exact .inl ⟨List.length_eq_zero_iff.1 (by omega), hc0⟩
      · right
        have hspot : a.spot = none := by
          by_cases h0 : 0 < len
          · obtain ⟨x, _, hx⟩ := get 0 h0
            exact first 0 _ hx rfl
          · obtain ⟨h1, h2⟩ := hsp rfl
            have h3 := h2 0 (by omega)
            rw [List.getElem?_eq_getElem (by omega)] at h3
            obtain ⟨cs', h4, _⟩ := Option.bind_eq_some_iff.1 h3
            exact first (len + 0) _ h4 (by omega)
        have hcell : ∀ j c, (flat xs)[j]? = some c → Cell w a.block (a.off + j) c := by
          intro j c hj
          obtain ⟨i, r, x, hx, hcr, rfl⟩ := flat_index hj
          have h1 := (World.cells?_some (hxs i x hx).2).2.2 r (by rw [hsz]; have := (List.getElem?_eq_some_iff.1 hcr).1; rwa [Flat.len] at this)
          rw [hcr, hsz] at h1
          obtain ⟨b, o, s⟩ := a
          simp only at hspot
          subst hspot
          unfold Cell
          rw [← h1, add_none, add_none, Nat.add_assoc]
        refine ⟨a.block, a.off, by obtain ⟨b, o, s⟩ := a; simp only at hspot; subst hspot; rfl, fun hne => ?_, hcell⟩
        obtain ⟨y, ys, rfl⟩ := List.exists_cons_of_ne_nil hne
        have h0 : (flat (y :: ys))[0]? = some ((Flat.enc y)[0]'(by rw [Flat.len]; exact hpos)) := by
          rw [flat_cons, List.getElem?_append_left (by rw [Flat.len]; exact hpos), List.getElem?_eq_getElem]
        exact (hcell 0 _ h0).lt
    · rw [hxl, ← hlen]
      refine Nat.le_trans (Nat.mul_le_mul_right _ ?_) hw1
      rw [List.length_map]; omega
    · obtain ⟨i, hi⟩ := List.getElem?_of_mem hx
      exact (hxs i x hi).1


theorem RdDb.slice {α σ : Type} [Flat σ] [Deep α σ] {φ : α → Prop} {t e : TypeId} (ht : P.underlying t = some (.slice e)) (hc : P.cellsOf t = 1) (hr : RdDb P e α φ) : RdDb P t (List α) (fun xs => xs.length * P.bytesOf e ≤ reachBytes ∧ ∀ x ∈ xs, φ x) :=
  fun w => ⟨hc, fun enc base held fuel cs x hx hw => by
    obtain ⟨v, rfl, ts, h1, hb, h2⟩ := trod_slB ht (hr w) hx hw
    obtain ⟨xs, h3, h4⟩ := drs_of ts h2
    have h1' : RdL (fun _ => True) w v ts := h1.mono fun _ _ => trivial
    obtain ⟨s, rfl⟩ := h1'.isSV
    exact ⟨s, rfl, xs, DL.of h1' h3, by rw [← h3.1]; exact hb, h4⟩⟩
/-- An argument that is a slice. -/
theorem open_dlb {α σ : Type} [Flat σ] [Deep α σ] {φ : α → Prop} {t e : TypeId} {r : Reach} {b0 : Nat} {v : Value} {d : DataW H} {ps : List MemPlace} (ht : P.underlying t = some (.slice e)) (hr : RdDb P e α φ)
    (hval : Value.okWide P w r b0 t v) (hd : DataW.Trod enc P w base (fun _ => true) held t v d ps) (hw : Wt P t d) : ∃ xs : List α, DL w v xs ∧ xs.length * P.bytesOf e ≤ reachBytes ∧ ∀ x ∈ xs, φ x := by
  obtain ⟨fuel, hf⟩ := hd
  obtain ⟨u, hu, ts, h1, hb, h2⟩ := trod_slB ht (hr w) hf hw
  have hv : v = u := by
    have h1 := hval
    unfold Value.okWide at h1
    rw [ht] at h1
    cases v with
    | slice a n c => exact (List.cons.inj (show [Value.slice a n c] = [u] from hu)).1
    | _ =>
      have h2 : Cell.okWide P w r b0 t _ := h1
      unfold Cell.okWide at h2
      rw [ht] at h2
      simp only [Cell.ok, ht] at h2
  subst hv
  obtain ⟨xs, h3, h4⟩ := drs_of ts h2
  exact ⟨xs, DL.of (h1.mono fun _ _ => trivial) h3, by rw [← h3.1]; exact hb, h4⟩
/-- An argument that is a struct. -/
theorem open_dstb {α σ : Type} [Flat σ] [Deep α σ] {φ : α → Prop} {t : TypeId} {fs : Array Field} {r : Reach} {b0 : Nat} {v : Value} {d : DataW H} {ps : List MemPlace} (ht : P.underlying t = some (.struct fs)) (ha : Flat.agg σ = true)
    (hr : RdDb P t α φ) (hval : Value.okWide P w r b0 t v) (hd : DataW.Trod enc P w base (fun _ => true) held t v d ps) (hw : Wt P t d) : ∃ (s : σ) (x : α), v = Flat.val s ∧ Deep.dr w s x ∧ φ x := by
  obtain ⟨fuel, hf⟩ := hd
  obtain ⟨s, hs, x, h1, h2⟩ := (hr w).rd enc base held fuel _ _ hf hw
  unfold Value.okWide at hval
  rw [ht] at hval
  obtain ⟨cs, rfl, _⟩ := hval
  refine ⟨s, x, ?_, h1, h2⟩
  rw [Flat.vagg ha, ← hs]
  simp [Value.cells]
end
end Go.Fw
