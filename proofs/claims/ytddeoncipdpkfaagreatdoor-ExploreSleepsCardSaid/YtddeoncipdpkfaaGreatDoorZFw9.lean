/-
  Slices made of given things, made of zeros, read and written by index where they are owned. Own work; nothing here is trusted.
-/
import Derived.Test.YtddeoncipdpkfaaGreatDoorZFw8
set_option linter.all false
namespace Go.Fw
section
variable {α : Type} [Flat α] {P : Program} {w w0 : World} {A S : Nat → Prop} {L : List HP} {xs ys : List α}

theorem val_cells (x : α) : (Flat.val x).cells = (Flat.enc x).toArray := by
  cases h : Flat.agg α with
  | true => rw [Flat.vagg h]; rfl
  | false =>
    have h1 := Flat.vone h x
    have h2 := Flat.one x (Flat.val x) (by rw [h1]; simp)
    rw [h1]
    revert h2
    cases Flat.val x <;> simp [oneC, Value.cells]

theorem setAll_set (cs : List Value) (o : Nat) (v : Value) (r : List Value) : setAll cs o (v :: r) = setAll (cs.set o v) (o + 1) r := rfl
theorem fold_setAll (off : Nat) : ∀ (l : List Value) (k : Nat) (cs : Array Value), ((l.zipIdx k).foldl (fun (cs : Array Value) q => cs.setIfInBounds (off + q.2) q.1) cs).toList = setAll cs.toList (off + k) l := by
  intro l
  induction l with
  | nil => intro k cs; rfl
  | cons v r ih =>
    intro k cs
    rw [List.zipIdx_cons, List.foldl_cons, ih (k + 1), setAll_set]
    simp [Nat.add_assoc]
theorem fold_setAll' (off : Nat) (l : List Value) (cs : Array Value) :
    (l.toArray.zipIdx.foldl (fun (cs : Array Value) (q : Value × Nat) => match q with | (c, j) => cs.setIfInBounds (off + j) c) cs).toList = setAll cs.toList off l := by
  rw [← Array.foldl_toList]
  have e : (l.toArray.zipIdx).toList = l.zipIdx 0 := by simp
  rw [e]
  exact fold_setAll off l 0 cs

theorem fill_flat : ∀ (xs : List α) (k : Nat) (pre mid : List Value), pre.length = k * Flat.sz α → mid.length = xs.length * Flat.sz α →
    Instr.fill (fun i => some (i * Flat.sz α, Flat.sz α)) (pre ++ mid).toArray ((xs.zipIdx k).map fun q => (q.2, Flat.val q.1)) = some (pre ++ flat xs).toArray := by
  intro xs
  induction xs with
  | nil => intro k pre mid _ hm; simp at hm; subst hm; simp [Instr.fill, flat_nil]
  | cons x xs ih =>
    intro k pre mid hp hm
    rw [List.zipIdx_cons, List.map_cons]
    unfold Instr.fill
    dsimp only
    have hsz : (Flat.val x).cells.size = Flat.sz α := by rw [val_cells]; simp [Flat.len]
    have hml : mid.length = xs.length * Flat.sz α + Flat.sz α := by rw [hm, List.length_cons, Nat.succ_mul]
    rw [if_neg (by simp only [hsz, ne_eq, not_true_eq_false, decide_false, Bool.false_or, decide_eq_true_eq, List.size_toArray, List.length_append]; omega)]
    have e : ((Flat.val x).cells.zipIdx.foldl (fun (cs : Array Value) (q : Value × Nat) => match q with | (c, j) => cs.setIfInBounds (k * Flat.sz α + j) c) (pre ++ mid).toArray) =
        ((pre ++ Flat.enc x) ++ mid.drop (Flat.sz α)).toArray := by
      apply Array.ext'
      rw [val_cells, fold_setAll']
      have h1 := setAll_mid pre (mid.take (Flat.sz α)) (mid.drop (Flat.sz α)) (Flat.enc x) (by simp [Flat.len]; omega)
      rw [hp] at h1
      rw [← List.take_append_drop (Flat.sz α) mid] at *
      simpa using h1
    rw [e]
    have := ih (k + 1) (pre ++ Flat.enc x) (mid.drop (Flat.sz α)) (by rw [List.length_append, hp, Flat.len, Nat.succ_mul]) (by rw [List.length_drop]; omega)
    rw [this, flat_cons, List.append_assoc]

theorem eop_build {T E by' n : Nat} {parts : List (Nat × Value)} {K : Value → World → Prop} (xs : List α) (hs : St w0 A L w) (ht : SlT P T E (Flat.sz α) by') (hn : xs.length = n)
    (hp : parts = xs.zipIdx.map fun q => (q.2, Flat.val q.1)) (hl : xs.length * Flat.sz α ≤ 16777216) (k : ∀ v w', St w0 A (ownL v xs :: L) w' → K v w') :
    Eop P (Instr.buildSlice T n parts.toArray) w K := by
  subst hn
  obtain ⟨hu, inf, hi, hsz, hbytes, hz⟩ := slFact_spec ht
  obtain ⟨zv, hzv, hzs⟩ : ∃ zv, inf.zero = some zv ∧ zv.cells.size = Flat.sz α := by
    cases hzz : inf.zero with
    | none => rw [hzz] at hz; cases hz
    | some zv => rw [hzz] at hz; exact ⟨zv, rfl, by simpa using hz⟩
  have es : pr P (sizeOf E) = some (Flat.sz α) := by rw [pr_sizeOf hi, hsz]
  have ez : pr P (zeroValue E) = some zv := by unfold zeroValue; rw [pr_bind, pr_typeInfo hi]; simp only [Option.bind_some, hzv]; rfl
  refine ⟨.slice (some ⟨w.heap.size, 0, none⟩) xs.length xs.length, push w (.cells (flat xs).toArray E), ?_, k _ _ ?_⟩
  · have key : ∀ z : Array Value, Instr.fill (fun i => some (i * Flat.sz α, Flat.sz α)) ((Array.range (xs.length * Flat.sz α)).map (z[· % z.size]!)) parts = some (flat xs).toArray := by
      intro z
      have := fill_flat xs 0 [] ((Array.range (xs.length * Flat.sz α)).map (z[· % z.size]!)).toList (by simp) (by simp)
      rw [hp]
      rw [List.nil_append, List.nil_append, Array.toArray_toList] at this
      exact this
    unfold Instr.buildSlice
    rw [run_bind_ok (run_of_pr (pr_underlying hu) w)]
    dsimp only
    rw [run_bind_ok (run_of_pr es w), if_neg (by omega)]
    by_cases h0 : xs.length * Flat.sz α = 0
    · simp only [if_pos h0]
      rw [run_bind_ok (run_pure _ w), key]
      rfl
    · simp only [if_neg h0]
      rw [run_bind_ok (run_of_pr ez w), run_bind_ok (run_pure _ w), key]
      rfl
  · refine hs.new (Ext.push _ _) (F := fun k => k = w.heap.size) (.inr ⟨w.heap.size, xs.length, [], rfl, ⟨E, ?_⟩, by simp [flat_length], fun _ => Iff.rfl⟩) fun b hb => by rw [hb]; exact Nat.le_refl _
    rw [List.append_nil]; exact push_new _ _

theorem flat_replicate (z : α) (n : Nat) : (madeCells (Flat.enc z).toArray (n * Flat.sz α)).toList = flat (List.replicate n z) := by
  apply List.ext_getElem?
  intro i
  have hpos := Flat.pos (α := α)
  by_cases hi : i < n * Flat.sz α
  · have h1 : i / Flat.sz α < n := by rw [Nat.div_lt_iff_lt_mul hpos]; exact hi
    have h2 : i % Flat.sz α < (Flat.enc z).length := by rw [Flat.len]; exact Nat.mod_lt _ hpos
    have := flat_get (xs := List.replicate n z) (i := i / Flat.sz α) (j := i % Flat.sz α) (x := z) (c := (Flat.enc z)[i % Flat.sz α]) (by simp [h1]) (by simp [h2])
    rw [Nat.div_add_mod' i (Flat.sz α)] at this
    rw [this]
    unfold madeCells
    simp [hi, Flat.len]
    rw [Flat.len] at h2
    simp [Flat.len, h2]
  · have e1 : (madeCells (Flat.enc z).toArray (n * Flat.sz α)).toList[i]? = none := by
      rw [List.getElem?_eq_none_iff, Array.length_toList, size_madeCells]; omega
    have e2 : (flat (List.replicate n z))[i]? = none := by
      rw [List.getElem?_eq_none_iff, flat_length, List.length_replicate]; omega
    rw [e1, e2]

/-- make([]T, n) -/
theorem eop_make {T E by' : Nat} {n : Int} {K : Value → World → Prop} (z : α) (hs : St w0 A L w) (ht : SlT P T E (Flat.sz α) by') (hz : ZeroT P E (Flat.val z)) (h0 : 0 ≤ n) (h1 : n ≤ 1073741824) (hby : by' ≤ 8192)
    (k : ∀ v w', St w0 A (ownL v (List.replicate n.toNat z) :: L) w' → K v w') : Eop P (Instr.makeSlice T (.int .i64 n) (.int .i64 n)) w K := by
  obtain ⟨hu, inf, hi, hsz, hbytes, _⟩ := slFact_spec ht
  unfold ZeroT zeroFact at hz
  rw [hi] at hz
  simp only [Option.map_some, Option.some.injEq] at hz
  have hb : (inf.bytes : Int) * n ≤ 281474976710656 := by
    have h2 : (inf.bytes : Int) ≤ 8192 := by omega
    have h3 : (inf.bytes : Int) * n ≤ 8192 * n := Int.mul_le_mul_of_nonneg_right h2 h0
    omega
  have hr := run_make (P := P) w T E inf (Flat.val z) hu hi hz .i64 .i64 n n h0 (Int.le_refl _) hb (by omega)
  rw [hsz, val_cells] at hr
  refine ⟨_, _, hr, k _ _ ?_⟩
  refine hs.new (w' := w.alloc (.cells (madeCells (Flat.enc z).toArray (n.toNat * Flat.sz α)) E)) ⟨rfl, rfl, rfl, by simp, fun b hb _ => push_heap w _ b hb⟩ (F := fun k => k = w.heap.size)
    (.inr ⟨w.heap.size, n.toNat, [], by simp, ⟨E, ?_⟩, by rw [List.append_nil, flat_length, List.length_replicate], fun _ => Iff.rfl⟩) fun b hb => by rw [hb]; exact Nat.le_refl _
  rw [List.append_nil, ← flat_replicate]
  have := push_new w (.cells (madeCells (Flat.enc z).toArray (n.toNat * Flat.sz α)) E)
  rw [Array.toArray_toList]
  exact this

/-! ### By index, where it is owned -/

/-- p is the address of number i of the slice v. -/
def OwnAt (α : Type) [Flat α] (v : Value) (i : Nat) (p : Value) : Prop := ∃ b n c, v = .slice (some ⟨b, 0, none⟩) n c ∧ p = .pointer (some ⟨b, i * Flat.sz α, none⟩)

theorem pop_own {T E by' : Nat} {z : Option Nat} {v : Value} {i : Int} {K : Value → Prop} (hs : St w0 A (ownL v xs :: L) w) (ht : slFact P T = some (E, Flat.sz α, by', z)) (h0 : 0 ≤ i) (h1 : i < xs.length)
    (k : ∀ p, OwnAt α v i.toNat p → K p) : Pop P (Instr.indexAt T v (.int .i64 i)) K := by
  obtain ⟨F, h, _⟩ := hs.head
  rcases h with ⟨rfl, rfl, _⟩ | ⟨b, cap, rest, rfl, hb, hl, _⟩
  · simp at h1; omega
  · obtain ⟨hu, inf, hi, hsz, _⟩ := slFact_spec ht
    refine ⟨.pointer (some ⟨b, i.toNat * Flat.sz α, none⟩), ?_, k _ ⟨b, _, _, rfl, rfl⟩⟩
    unfold Instr.indexAt
    have e1 : pr P (underlying T) = some (.slice E) := pr_underlying hu
    have e2 : pr P (sizeOf E) = some (Flat.sz α) := by rw [pr_sizeOf hi, hsz]
    simp only [asIntOf, pr_bind, e1, e2, Option.bind_some, pr_pure]
    simp only [if_pos (show 0 ≤ i ∧ i < (xs.length : Int) from ⟨h0, h1⟩), pr_bind, e2, Option.bind_some, pr_pure, add_none, Nat.zero_add]

theorem own_split {v : Value} {F : Nat → Prop} {i : Nat} (h : (ownL v xs).p w F) (hi : i < xs.length) : ∃ b cap rest, v = .slice (some ⟨b, 0, none⟩) xs.length cap ∧ Blk w b (flat xs ++ rest) ∧ (flat xs ++ rest).length = cap * Flat.sz α ∧ ∀ k, F k ↔ k = b := by
  rcases h with ⟨rfl, rfl, _⟩ | h
  · simp at hi
  · exact h

theorem qop_own {T : Nat} {v p : Value} {i : Nat} {x : α} {K : Value → Prop} (hs : St w0 A (ownL v xs :: L) w) (ht : oneFact P T = some (Flat.agg α, Flat.sz α)) (hp : OwnAt α v i p) (hx : xs[i]? = some x) (k : K (Flat.val x)) :
    Qop P (Instr.loadAt T p) w K := by
  obtain ⟨F, h, _⟩ := hs.head
  obtain ⟨b, cap, rest, hv, hb, hl, _⟩ := own_split h (List.getElem?_eq_some_iff.1 hx).1
  obtain ⟨b', n, c, hv', rfl⟩ := hp
  rw [hv] at hv'
  simp only [Value.slice.injEq, Option.some.injEq, Addr.mk.injEq] at hv'
  obtain ⟨⟨rfl, _, _⟩, _, _⟩ := hv'
  refine qop_at (S := fun _ => True) ht ⟨b, i * Flat.sz α, rfl, trivial, fun j c hj => hb.cell ?_⟩ k
  have := flat_get hx hj
  rw [List.getElem?_append_left (List.getElem?_eq_some_iff.1 this).1]; exact this

theorem flat_set {i : Nat} (y : α) (h : i < xs.length) : flat (xs.set i y) = flat (xs.take i) ++ Flat.enc y ++ flat (xs.drop (i + 1)) := by
  rw [List.set_eq_take_append_cons_drop, if_pos h, flat_append, flat_cons, List.append_assoc]
theorem flat_split {i : Nat} {x : α} (h : xs[i]? = some x) : flat xs = flat (xs.take i) ++ Flat.enc x ++ flat (xs.drop (i + 1)) := by
  have hi := (List.getElem?_eq_some_iff.1 h).1
  have : xs = xs.take i ++ x :: xs.drop (i + 1) := by
    rw [← (List.getElem?_eq_some_iff.1 h).2, List.getElem_cons_drop, List.take_append_drop]
  conv => lhs; rw [this]
  rw [flat_append, flat_cons, List.append_assoc]

theorem run_setOwn {T : Nat} {v p : Value} {i : Nat} {F : Nat → Prop} (y : α) (h : (ownL v xs).p w F) (ht : oneFact P T = some (Flat.agg α, Flat.sz α)) (hp : OwnAt α v i p) (hi : i < xs.length) :
    ∃ w', (Instr.storeAt T p (Flat.val y)).run P w = .ok () w' ∧ (ownL v (xs.set i y)).p w' F ∧ Chg F w w' := by
  obtain ⟨b, cap, rest, hv, hb, hl, hF⟩ := own_split h hi
  obtain ⟨b', n, c, hv', rfl⟩ := hp
  rw [hv] at hv'
  simp only [Value.slice.injEq, Option.some.injEq, Addr.mk.injEq] at hv'
  obtain ⟨⟨rfl, _, _⟩, _, _⟩ := hv'
  have hx : xs[i]? = some xs[i] := by simp [hi]
  have hsp := flat_split hx
  have htl : (flat (xs.take i)).length = i * Flat.sz α := by rw [flat_length, List.length_take, Nat.min_eq_left (by omega)]
  have hlen : i * Flat.sz α + Flat.sz α ≤ (flat xs).length := by
    rw [flat_length, ← Nat.succ_mul]; exact Nat.mul_le_mul_right _ hi
  obtain ⟨w', h1, h2, h3⟩ := run_storeRow (P := P) (o := i * Flat.sz α) (Flat.enc y) 0 (flat xs ++ rest) w hb (by rw [Flat.len, List.length_append]; omega) (Flat.one y)
  have hset : setAll (flat xs ++ rest) (i * Flat.sz α + 0) (Flat.enc y) = flat (xs.set i y) ++ rest := by
    have := setAll_mid (flat (xs.take i)) (Flat.enc xs[i]) (flat (xs.drop (i + 1)) ++ rest) (Flat.enc y) (by rw [Flat.len, Flat.len])
    rw [htl] at this
    rw [Nat.add_zero, flat_set y hi, hsp]
    simpa using this
  rw [hset] at h2
  refine ⟨w', ?_, .inr ⟨b, cap, rest, by rw [List.length_set]; exact hv, h2, ?_, hF⟩, h3.mono fun k hk => (hF k).2 hk⟩
  · show (storeVar T ⟨b, i * Flat.sz α, none⟩ (Flat.val y)).run P w = _
    unfold storeVar
    rw [run_bind_ok (run_of_pr (oneFact_spec ht).2 w), val_cells]
    simp only [List.size_toArray, Flat.len, ne_eq, not_true_eq_false, if_false]
    exact h1
  · rw [← hl, List.length_append, List.length_append, flat_length, flat_length, List.length_set]

theorem uop_own {T : Nat} {v p : Value} {i : Nat} {K : World → Prop} (y : α) (hs : St w0 A (ownL v xs :: L) w) (ht : oneFact P T = some (Flat.agg α, Flat.sz α)) (hp : OwnAt α v i p) (hi : i < xs.length)
    (k : ∀ w', St w0 A (ownL v (xs.set i y) :: L) w' → K w') : Uop P (Instr.storeAt T p (Flat.val y)) w K := by
  obtain ⟨U, F, U', h1, h2, h3, h4, h5⟩ := hs.seps
  obtain ⟨w', g1, g2, g3⟩ := run_setOwn y h1 ht hp hi
  refine ⟨w', g1, k w' ⟨hs.chg.trans g3 (fun _ h => h) fun b hb hf => (h2 b hf).elim id fun hh => by omega, U, F, U', g2, h2, h3, h4, h5.loc fun b hb => g3.blk b (h5.lt b hb) fun hf => h3 b hf hb⟩⟩

end
end Go.Fw
