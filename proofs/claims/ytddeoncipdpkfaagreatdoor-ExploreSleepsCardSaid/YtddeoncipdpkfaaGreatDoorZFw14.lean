/-
  From the form of a statement to the framework's facts, and back. Own work; nothing here is trusted.
-/
import Derived.Test.YtddeoncipdpkfaaGreatDoorZFw18
import Derived.WalkKit
import Derived.ProofKit
import Derived.OpenShut
import Derived.ChangeCalls
set_option linter.all false
namespace Go.Fw
open Go.ChangeShapes Go.WideShapes Go.ChangeAt Go.RowKit

/-- Whatever is read at the type t is data of α, of which φ holds. -/
structure RdT (P : Program) (t : TypeId) (α : Type) [Flat α] (φ : α → Prop) : Prop where
  cells : P.cellsOf t = Flat.sz α
  rd : ∀ {H : Type} (enc : TypeId × Value → H) (w : World) (base : Nat) (sp : Nat → Bool) (held : Bool) (fuel : Nat) (cs : List Value) (x : DataW H × List MemPlace),
    DataW.trod enc P w base sp held fuel t cs = some x → ∃ a : α, cs = Flat.enc a ∧ φ a

/-- What an int64 is. -/
def i64ok (n : Int) : Prop := -9223372036854775808 ≤ n ∧ n ≤ 9223372036854775807

theorem rd_int {P : Program} {t : TypeId} (ht : P.underlying t = some (.int .i64)) (hc : P.cellsOf t = 1) : RdT P t Int i64ok :=
  ⟨hc, fun enc w base sp held fuel cs x h => by
    obtain ⟨n, h1, _, h3⟩ := DataW.trod_int ht h
    refine ⟨n, h1, ?_⟩
    simpa [Lit.wf, IntKind.min, IntKind.max, IntKind.signed, IntKind.bits, i64ok] using h3⟩
theorem rd_bool {P : Program} {t : TypeId} (ht : P.underlying t = some .bool) (hc : P.cellsOf t = 1) : RdT P t Bool (fun _ => True) :=
  ⟨hc, fun enc w base sp held fuel cs x h => by
    obtain ⟨n, h1, _⟩ := DataW.trod_bool ht h
    exact ⟨n, h1, trivial⟩⟩
theorem rd_str {P : Program} {t : TypeId} (ht : P.underlying t = some .string) (hc : P.cellsOf t = 1) : RdT P t ByteArray (fun s => s.size ≤ maxLen) :=
  ⟨hc, fun enc w base sp held fuel cs x h => by
    obtain ⟨n, h1, _, h2⟩ := DataW.trod_string ht h
    exact ⟨n, h1, h2⟩⟩

theorem trod_parts {H : Type} {enc : TypeId × Value → H} {P : Program} {w : World} {base : Nat} {sp : Nat → Bool} {held : Bool} {fuel : Nat} {t : TypeId} {fs : Array Field} {cs : List Value} {x : DataW H × List MemPlace}
    (ht : P.underlying t = some (.struct fs)) (h : DataW.trod enc P w base sp held fuel t cs = some x) :
    cs.length = P.cellsOf t ∧ ∃ n, ∀ (i : Nat) (f : Field), fs[i]? = some f → ∃ y, DataW.trod enc P w base sp held n f.type ((cs.drop f.offset).take (P.cellsOf f.type)) = some y := by
  obtain ⟨xs, n, _, _, hl, hs, hf⟩ := DataW.trod_struct ht h
  refine ⟨hl, n, fun i f hi => ?_⟩
  have hlt : i < xs.length := by rw [hs]; exact (Array.getElem?_eq_some_iff.1 hi).1
  exact ⟨xs[i], by rw [hf i f hi, List.getElem?_eq_getElem hlt]⟩
theorem part_step {cs : List Value} {o s : Nat} {r : List Value} (h : (cs.drop o).take s = r) : cs.drop o = r ++ cs.drop (o + s) := by
  rw [← h, ← List.drop_drop, List.take_append_drop]

theorem list_of {α : Type} {p : Nat → α → Prop} : ∀ n, (∀ i, i < n → ∃ x, p i x) → ∃ xs : List α, xs.length = n ∧ ∀ i x, xs[i]? = some x → p i x := by
  intro n
  induction n with
  | zero => intro _; exact ⟨[], rfl, by simp⟩
  | succ n ih =>
    intro h
    obtain ⟨xs, h1, h2⟩ := ih fun i hi => h i (by omega)
    obtain ⟨x, hx⟩ := h n (by omega)
    refine ⟨xs ++ [x], by simp [h1], fun i y hy => ?_⟩
    by_cases hi : i < n
    · rw [List.getElem?_append_left (by omega)] at hy; exact h2 i y hy
    · have hlt : i < (xs ++ [x]).length := (List.getElem?_eq_some_iff.1 hy).1
      have : i = n := by simp [h1] at hlt; omega
      subst this
      rw [List.getElem?_append_right (by omega), h1] at hy
      simp at hy
      rw [← hy]; exact hx

theorem flat_index {α : Type} [Flat α] {xs : List α} {j : Nat} {c : Value} (h : (flat xs)[j]? = some c) : ∃ i r x, xs[i]? = some x ∧ (Flat.enc x)[r]? = some c ∧ j = i * Flat.sz α + r := by
  have hlt : j < (flat xs).length := (List.getElem?_eq_some_iff.1 h).1
  rw [flat_length] at hlt
  have hp : 0 < Flat.sz α := Flat.pos
  have hi : j / Flat.sz α < xs.length := Nat.div_lt_of_lt_mul (by rw [Nat.mul_comm]; exact hlt)
  have hr : j % Flat.sz α < Flat.sz α := Nat.mod_lt _ hp
  have hj : j = j / Flat.sz α * Flat.sz α + j % Flat.sz α := by rw [Nat.mul_comm]; exact (Nat.div_add_mod _ _).symm
  have hx : xs[j / Flat.sz α]? = some (xs[j / Flat.sz α]) := List.getElem?_eq_getElem hi
  have hc : (Flat.enc (xs[j / Flat.sz α]))[j % Flat.sz α]? = some ((Flat.enc (xs[j / Flat.sz α]))[j % Flat.sz α]'(by rw [Flat.len]; exact hr)) := List.getElem?_eq_getElem _
  have := flat_get hx hc
  rw [← hj, h] at this
  exact ⟨_, _, _, hx, hc.trans this.symm, hj⟩

section
variable {H : Type} {enc : TypeId × Value → H} {P : Program} {w : World} {base : Nat} {held : Bool}

/-- A slice that is read as the form reads it. -/
theorem trod_sl {α : Type} [Flat α] {φ : α → Prop} {t e : TypeId} {fuel : Nat} {cs : List Value} {x : DataW H × List MemPlace} (ht : P.underlying t = some (.slice e)) (hr : RdT P e α φ)
    (h : DataW.trod enc P w base (fun _ => true) held fuel t cs = some x) : ∃ v, cs = [v] ∧ ∃ xs : List α, RdL (fun b => b < w.heap.size) w v xs ∧ ∀ x ∈ xs, φ x := by
  rcases DataW.trod_slice ht h with ⟨rfl, _⟩ | ⟨a, len, cap, elems, rest, n, _, rfl, _, hb, hl, hm, hlen, hel, hsp, _⟩
  · exact ⟨_, rfl, [], RdL.nil _ _, by simp⟩
  · refine ⟨_, rfl, ?_⟩
    have get : ∀ i, i < len → ∃ x : α, φ x ∧ w.cells? base (a.add (i * P.cellsOf e)) (P.cellsOf e) = some (Flat.enc x) := by
      intro i hi
      have h1 := hel i hi
      rw [List.getElem?_eq_getElem (by omega)] at h1
      obtain ⟨cs', h2, h3⟩ := Option.bind_eq_some_iff.1 h1
      obtain ⟨x, rfl, hx⟩ := hr.rd enc w base _ held n cs' _ h3
      exact ⟨x, hx, h2⟩
    obtain ⟨xs, hxl, hxs⟩ := list_of len get
    have hsz := hr.cells
    have hpos : 0 < Flat.sz α := Flat.pos
    have first : ∀ (c : Nat) (cs' : List Value), w.cells? base (a.add (c * P.cellsOf e)) (P.cellsOf e) = some cs' → c = 0 → a.spot = none := by
      intro c cs' h1 h0
      subst h0
      have := World.cells?_some h1
      have h2 := this.2.2 0 (by rw [hsz]; exact hpos)
      rw [Nat.zero_mul] at h2
      have h3 : w.cell? a = cs'[0]? := by simpa [Addr.add] using h2
      rw [List.getElem?_eq_getElem (by rw [this.2.1, hsz]; exact hpos)] at h3
      unfold World.cell? at h3
      split at h3
      · split at h3
        · cases h3
        · rename_i hs; simpa using hs
      · cases h3
    refine ⟨xs, ⟨some a, cap, by rw [hxl], by omega, ?_⟩, fun x hx => ?_⟩
    · by_cases hc0 : cap = 0
      · exact .inl ⟨List.length_eq_zero_iff.1 (by omega), hc0⟩
      · right
        have hspot : a.spot = none := by
          by_cases h0 : 0 < len
          · obtain ⟨x, _, hx⟩ := get 0 h0
            exact first 0 _ hx rfl
          · obtain ⟨h1, h2⟩ := hsp rfl
            have h3 := h2 0 (by omega)
            rw [List.getElem?_eq_getElem (by omega)] at h3
            obtain ⟨cs', h4, _⟩ := Option.bind_eq_some_iff.1 h3
            exact first (len + 0) _ h4 (by omega)
        have hcell : ∀ j c, (flat xs)[j]? = some c → Cell w a.block (a.off + j) c := by
          intro j c hj
          obtain ⟨i, r, x, hx, hcr, rfl⟩ := flat_index hj
          have h1 := (World.cells?_some (hxs i x hx).2).2.2 r (by rw [hsz]; have := (List.getElem?_eq_some_iff.1 hcr).1; rwa [Flat.len] at this)
          rw [hcr, hsz] at h1
          obtain ⟨b, o, s⟩ := a
          simp only at hspot
          subst hspot
          unfold Cell
          rw [← h1, add_none, add_none, Nat.add_assoc]
        refine ⟨a.block, a.off, by obtain ⟨b, o, s⟩ := a; simp only at hspot; subst hspot; rfl, fun hne => ?_, hcell⟩
        obtain ⟨y, ys, rfl⟩ := List.exists_cons_of_ne_nil hne
        have h0 : (flat (y :: ys))[0]? = some ((Flat.enc y)[0]'(by rw [Flat.len]; exact hpos)) := by
          rw [flat_cons, List.getElem?_append_left (by rw [Flat.len]; exact hpos), List.getElem?_eq_getElem]
        exact (hcell 0 _ h0).lt
    · obtain ⟨i, hi⟩ := List.getElem?_of_mem hx
      exact (hxs i x hi).1

theorem open_sl {α : Type} [Flat α] {φ : α → Prop} {t e : TypeId} {r : Reach} {b0 : Nat} {v : Value} {d : DataW H} {ps : List MemPlace} (ht : P.underlying t = some (.slice e)) (hr : RdT P e α φ)
    (hval : Value.okWide P w r b0 t v) (hd : DataW.Trod enc P w base (fun _ => true) held t v d ps) : ∃ xs : List α, RdL (fun b => b < w.heap.size) w v xs ∧ ∀ x ∈ xs, φ x := by
  obtain ⟨fuel, hf⟩ := hd
  obtain ⟨u, hu, h⟩ := trod_sl ht hr hf
  have hv : v = u := by
    have h1 := hval
    unfold Value.okWide at h1
    rw [ht] at h1
    cases v with
    | slice a n c => exact (List.cons.inj (show [Value.slice a n c] = [u] from hu)).1
    | _ =>
      have h2 : Cell.okWide P w r b0 t _ := h1
      unfold Cell.okWide at h2
      rw [ht] at h2
      simp only [Cell.ok, ht] at h2
  subst hv
  exact h
theorem open_agg {α : Type} [Flat α] {φ : α → Prop} {t : TypeId} {fs : Array Field} {r : Reach} {b0 : Nat} {v : Value} {d : DataW H} {ps : List MemPlace} {sp : Nat → Bool} (ht : P.underlying t = some (.struct fs)) (ha : Flat.agg α = true)
    (hr : RdT P t α φ) (hval : Value.okWide P w r b0 t v) (hd : DataW.Trod enc P w base sp held t v d ps) : ∃ x : α, v = Flat.val x ∧ φ x := by
  obtain ⟨fuel, hf⟩ := hd
  obtain ⟨x, hx, hp⟩ := hr.rd enc w base _ held fuel _ _ hf
  unfold Value.okWide at hval
  rw [ht] at hval
  obtain ⟨cs, rfl, _⟩ := hval
  refine ⟨x, ?_, hp⟩
  rw [Flat.vagg ha, ← hx]
  simp [Value.cells]
theorem open_i64 {r : Reach} {b0 : Nat} {t : TypeId} {v : Value} {d : DataW H} {ps : List MemPlace} {sp : Nat → Bool} (ht : P.underlying t = some (.int .i64)) (hval : Value.okWide P w r b0 t v) (hd : DataW.Trod enc P w base sp held t v d ps) :
    ∃ n, v = .int .i64 n ∧ i64ok n := by
  obtain ⟨n, h1, _, _, h4⟩ := open_int ht hval hd
  exact ⟨n, h1, by simpa [Lit.wf, IntKind.min, IntKind.max, IntKind.signed, IntKind.bits, i64ok] using h4⟩
theorem open_i64s {t e : TypeId} {r : Reach} {b0 : Nat} {v : Value} {d : DataW H} {ps : List MemPlace} (ht : P.underlying t = some (.slice e)) (he : P.underlying e = some (.int .i64)) (hc : P.cellsOf e = 1)
    (hval : Value.okWide P w r b0 t v) (hd : DataW.Trod enc P w base (fun _ => true) held t v d ps) : ∃ xs : List Int, RdL (fun b => b < w.heap.size) w v xs ∧ ∀ x ∈ xs, i64ok x :=
  open_sl ht (rd_int he hc) hval hd

/-! ### Back: the law is true, and nothing that was there has turned -/

/-- One closed fact: each parameter's type can be read and is a row of the table. -/
def rowedB (P : Program) (ts : List TypeId) : Bool := ts.all fun t => P.readableRec t && decide (t < P.types.size)

theorem trodAll_below (hl : laidOutB P = true) {W W' : World} (hb : Below W.heap.size W W') {sp : Nat → Bool} : ∀ {ts : List TypeId} {vs : List Value} {ds : List (DataW H)} {ps : List MemPlace}, rowedB P ts = true → (∀ x ∈ ps, x.block < W.heap.size) →
    (∀ x ∈ ps, sp x.block = true) → DataW.TrodAll enc P W 0 (fun _ => true) true ts vs ds ps → DataW.TrodAll enc P W' 0 sp true ts vs ds ps
  | [], vs, ds, ps, _, _, _, h => by obtain ⟨rfl, rfl, rfl⟩ := trodAll_nil h; exact trodAll_mk0
  | t :: ts, vs, ds, ps, hr, hlt, hsp, h => by
    obtain ⟨v, vs1, d, ds1, a, b, rfl, rfl, rfl, h1, h2⟩ := trodAll_cons h
    have hr' : P.readableRec t = true ∧ t < P.types.size ∧ rowedB P ts = true := by
      unfold rowedB at hr
      rw [List.all_cons, Bool.and_eq_true, Bool.and_eq_true, decide_eq_true_eq] at hr
      exact ⟨hr.1.1, hr.1.2, hr.2⟩
    refine trodAll_cons_mk (WideElems.Trod_stays hl hr'.1 hr'.2.1 h1 (fun x hx => hb.same (hlt x (List.mem_append_left _ hx))) (fun x hx => hsp x (List.mem_append_left _ hx))) ?_
    exact trodAll_below hl hb hr'.2.2 (fun x hx => hlt x (List.mem_append_right _ hx)) (fun x hx => hsp x (List.mem_append_right _ hx)) h2

/-- The law returned true; of what was there nothing has turned. -/
theorem post_true {f : Func} {s : ChangeSpec} {apart fresh handsOn again : Bool} {W W' : World} {args : Array Value} {ds gs : List (DataW H)} {before : List MemPlace} {tb : TypeId}
    (hvars : s.vars = []) (hfn : ∀ ds : List (DataW H), ds.length = f.params.size → s.fn H ds = { results := [.lit (.bool true)], args := ds }) (hres : f.resultTypes = #[tb]) (htb : P.underlying tb = some .bool)
    (hl : laidOutB P = true) (hrow : rowedB P f.params.toList = true)
    (hW : DataW.Whole enc P f.params.toList s.vars apart W args.toList ds gs before) (hb : Below W.heap.size W W') :
    s.post enc P f apart fresh handsOn again W args (.bool true) W' := by
  have hW' := hW
  obtain ⟨p, q, hA, hV, hpq, hz, hn⟩ := hW
  have hlt : ∀ x ∈ before, x.block < W.heap.size := hW'.lt
  rw [hvars] at hV
  obtain ⟨rfl, rfl⟩ := trodVars_none hV
  simp only [List.append_nil] at hpq
  have hlen : ds.length = f.params.size := by
    have := (trodAll_length hA).2
    simpa using this
  have hfn' := hfn ds hlen
  have hres' : ∀ (b : Nat) (sp : Nat → Bool) (hd : Bool), DataW.TrodAll enc P W' b sp hd f.resultTypes.toList ((Value.bool true).resultList f.resultTypes.size) (s.fn H (ds ++ [])).results [] := fun b sp hd => by
    rw [List.append_nil, hfn', hres]
    exact trodAll_mk1 (shut_bool htb true)
  have hargs : ∀ sp : Nat → Bool, (∀ p ∈ before, sp p.block = true) → DataW.TrodAll enc P W' 0 sp true f.params.toList args.toList (s.fn H (ds ++ [])).args before := fun sp hsp => by
    rw [List.append_nil, hfn']
    rw [hpq] at hlt hsp ⊢
    exact trodAll_below hl hb hrow hlt hsp hA
  have hvars' : ∀ sp : Nat → Bool, DataW.TrodVars enc P W' sp s.vars (s.fn H (ds ++ [])).vars [] := fun sp => by
    rw [List.append_nil, hfn', hvars]; rfl
  have hok : ∀ (j : Nat) (t : TypeId) (r : Value), f.resultTypes[j]? = some t → ((Value.bool true).resultList f.resultTypes.size)[j]? = some r → Value.okWide P W' .any 0 t r :=
    ok_one hres rfl (okWide_bool_mk htb true)
  have hold : ∀ p ∈ before, (fun b => decide (b < W.heap.size)) p.block = true := fun p hp => by simpa using hlt p hp
  refine ⟨ds, [], before, [], before, [], hW', hres' _ _ _, hargs _ hold, hvars' _, World.keptBut_mono (fun p hp => ⟨hp, ?_⟩) (hb.frame (· ∈ before)), fun _ => ?_⟩
  · simpa using hp
  · refine ⟨hok, _, _, ([] ++ before) ++ [], ⟨[] ++ before, [], trodAll_append (hargs _ (fun _ _ => rfl)) (hres' _ _ _), hvars' _, rfl, ?_, ?_⟩, ?_⟩
    · intro b off hp
      have hp' : MemPlace.cell b off ∈ before := by simpa using hp
      rw [hb.frozen (p := ⟨b, off, none⟩) (hlt _ hp')]
      exact hz b off hp'
    · intro ha; simpa using hn ha
    · intro p hp _; simpa using hp
end
end Go.Fw
