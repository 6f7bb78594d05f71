/-
  Slices: cut, built, appended to, written. Own work; nothing here is trusted.
-/
import Derived.Test.YtobcbkipeipjeaaFw7
import Derived.Laws.AppendOwn
import Derived.Laws.MakeOwn
namespace Go.Fw
section
variable {α : Type} [Flat α] {P : Program} {w w0 : World} {A S : Nat → Prop} {L : List HP} {xs ys : List α}

/-! ### Cutting -/

def lowOf : Option Value → Option Nat
  | none => some 0
  | some (.int _ i) => some i.toNat
  | _ => none
theorem pr_bound {y : Nat} {i : Int} {code : BoundsCode} (h0 : 0 ≤ i) (h1 : i ≤ y) : pr P (Instr.sliceBound (.int .i64 i) y code) = some i.toNat := by
  unfold Instr.sliceBound
  rw [pr_bind]
  simp only [asIntOf, pr_pure, Option.bind_some, if_pos (show 0 ≤ i ∧ i ≤ (y : Int) from ⟨h0, h1⟩)]

/-- What a cut answers: the bounds as they are. -/
theorem pr_cut {T E sz by' : Nat} {z : Option Nat} {a : Option Addr} {n cap l h : Nat} {lo hi : Option Value} (ht : slFact P T = some (E, sz, by', z))
    (hb : pr P (Instr.sliceBounds true n cap lo hi none) = some (l, h, cap)) :
    pr P (Instr.sliceAt T (.slice a n cap) lo hi none) = some (.slice (if cap = l then a else a.map (·.add (l * sz))) (h - l) (cap - l)) := by
  obtain ⟨hu, inf, hi', hsz, _⟩ := slFact_spec ht
  unfold Instr.sliceAt
  rw [pr_bind, pr_underlying hu]
  simp only [Option.bind_some]
  unfold Instr.slice
  rw [pr_bind, pr_underlying hu]
  simp only [Option.bind_some]
  rw [pr_bind, hb]
  simp only [Option.bind_some]
  rw [pr_bind, pr_sizeOf hi', hsz]
  rfl

theorem pr_bounds {n cap l h : Nat} {lo hi : Option Value} (hl : lo = none ∧ l = 0 ∨ ∃ i : Int, lo = some (.int .i64 i) ∧ 0 ≤ i ∧ l = i.toNat) (hh : hi = none ∧ h = n ∨ ∃ i : Int, hi = some (.int .i64 i) ∧ 0 ≤ i ∧ h = i.toNat)
    (h1 : l ≤ h) (h2 : h ≤ cap) : pr P (Instr.sliceBounds true n cap lo hi none) = some (l, h, cap) := by
  rcases hl with ⟨rfl, rfl⟩ | ⟨i, rfl, h0, rfl⟩ <;> rcases hh with ⟨rfl, rfl⟩ | ⟨i', rfl, h0', rfl⟩ <;> simp only [Instr.sliceBounds, pr_bind, pr_pure, Option.bind_some]
  · rw [pr_bound h0' (by omega)]; rfl
  · rw [pr_bound h0 (by omega)]; rfl
  · rw [pr_bound h0' (by omega)]; simp only [Option.bind_some]; rw [pr_bound h0 (by omega)]; rfl

theorem RdL.cut {v : Value} {a : Option Addr} {n cap l h : Nat} (hv : v = .slice a n cap) (hr : RdL S w v xs) (h1 : l ≤ h) (h2 : h ≤ xs.length) :
    RdL S w (.slice (if cap = l then a else a.map (·.add (l * Flat.sz α))) (h - l) (cap - l)) ((xs.take h).drop l) := by
  obtain ⟨a', cap', hv', hcap, h3⟩ := hr
  rw [hv'] at hv
  simp only [Value.slice.injEq] at hv
  obtain ⟨rfl, hn, rfl⟩ := hv
  have hlen : ((xs.take h).drop l).length = h - l := by simp; omega
  rcases h3 with ⟨hxs, hc0⟩ | ⟨b, o, rfl, h4, h5⟩
  · subst hxs
    exact ⟨_, cap' - l, by rw [hlen], by simp, .inl ⟨by simp, by omega⟩⟩
  · refine ⟨_, cap' - l, by rw [hlen], by rw [hlen]; omega, .inr ?_⟩
    have hne : (xs.take h).drop l ≠ [] → xs ≠ [] := fun hh hx => hh (by rw [hx]; simp)
    by_cases hh : cap' = l
    · rw [if_pos hh]
      refine ⟨b, o, rfl, fun hx => h4 (hne hx), fun j c hj => ?_⟩
      have : ((xs.take h).drop l) = [] := by rw [← List.length_eq_zero_iff, hlen]; omega
      rw [this] at hj; simp [flat_nil] at hj
    · rw [if_neg hh]
      refine ⟨b, o + l * Flat.sz α, by simp [add_none], fun hx => h4 (hne hx), fun j c hj => ?_⟩
      rw [flat_drop, flat_take, List.getElem?_drop, List.getElem?_take] at hj
      split at hj
      · have := h5 _ c hj
        rwa [show o + (l * Flat.sz α + j) = o + l * Flat.sz α + j from by omega] at this
      · cases hj

theorem pop_cut {T E by' : Nat} {z : Option Nat} {v : Value} {lo hi : Option Value} {l h : Nat} {K : Value → Prop} (ht : slFact P T = some (E, Flat.sz α, by', z)) (hr : RdL S w v xs)
    (hl : lo = none ∧ l = 0 ∨ ∃ i : Int, lo = some (.int .i64 i) ∧ 0 ≤ i ∧ l = i.toNat) (hh : hi = none ∧ h = xs.length ∨ ∃ i : Int, hi = some (.int .i64 i) ∧ 0 ≤ i ∧ h = i.toNat)
    (h1 : l ≤ h) (h2 : h ≤ xs.length) (k : ∀ v', RdL S w v' ((xs.take h).drop l) → K v') : Pop P (Instr.sliceAt T v lo hi none) K := by
  have hr' := hr
  obtain ⟨a, cap, rfl, hcap, h3⟩ := hr
  exact ⟨_, pr_cut ht (pr_bounds hl hh h1 (by omega)), k _ (hr'.cut rfl h1 h2)⟩
/-- s[:i] -/
theorem pop_cutHi {T E by' : Nat} {z : Option Nat} {v : Value} {i : Int} {K : Value → Prop} (ht : slFact P T = some (E, Flat.sz α, by', z)) (hr : RdL S w v xs) (h0 : 0 ≤ i) (h2 : i ≤ xs.length)
    (k : ∀ v', RdL S w v' (xs.take i.toNat) → K v') : Pop P (Instr.sliceAt T v none (some (.int .i64 i)) none) K :=
  pop_cut ht hr (.inl ⟨rfl, rfl⟩) (.inr ⟨i, rfl, h0, rfl⟩) (by omega) (by omega) fun v' h => k v' (by simpa using h)
/-- s[i:] -/
theorem pop_cutLo {T E by' : Nat} {z : Option Nat} {v : Value} {i : Int} {K : Value → Prop} (ht : slFact P T = some (E, Flat.sz α, by', z)) (hr : RdL S w v xs) (h0 : 0 ≤ i) (h2 : i ≤ xs.length)
    (k : ∀ v', RdL S w v' (xs.drop i.toNat) → K v') : Pop P (Instr.sliceAt T v (some (.int .i64 i)) none none) K :=
  pop_cut ht hr (.inr ⟨i, rfl, h0, rfl⟩) (.inl ⟨rfl, rfl⟩) (by omega) (by omega) fun v' h => k v' (by simpa using h)

/-! ### A row of cells is written, below ownership -/

theorem run_storeRow {b o : Nat} : ∀ (vs : List Value) (i : Nat) (cs : List Value) (w : World), Blk w b cs → o + i + vs.length ≤ cs.length → (∀ v ∈ vs, oneC v = true) →
    ∃ w', (storeCells ⟨b, o, none⟩ vs i).run P w = .ok () w' ∧ Blk w' b (setAll cs (o + i) vs) ∧ Chg (· = b) w w' := by
  intro vs
  induction vs with
  | nil => intro i cs w hb _ _; exact ⟨w, rfl, hb, Chg.refl _ _⟩
  | cons v r ih =>
    intro i cs w hb hl hv
    have hl' : o + i + (r.length + 1) ≤ cs.length := by simpa using hl
    have h1 := run_store (P := P) hb (o := o + i) (v := v) (by omega) (hv v (by simp))
    obtain ⟨w', h2, h3, h4⟩ := ih (i + 1) (cs.set (o + i) v) _ (hb.setCell v) (by simp; omega) (fun x hx => hv x (by simp [hx]))
    refine ⟨w', ?_, by rw [show o + (i + 1) = o + i + 1 from by omega] at h3; exact h3, (Chg.setCell w b (o + i) v).trans h4 (fun _ h => h) (fun _ _ h => h)⟩
    show (do store ((Addr.mk b o none).add i) v; storeCells ⟨b, o, none⟩ r (i + 1) : Sem Unit).run P w = _
    rw [add_none, run_bind_ok h1, h2]

theorem setAll_mid (pre mid post vs : List Value) (h : mid.length = vs.length) : setAll (pre ++ mid ++ post) pre.length vs = pre ++ vs ++ post := by
  induction vs generalizing pre mid with
  | nil => obtain rfl := List.length_eq_zero_iff.1 h; simp [setAll]
  | cons v r ih =>
    match mid, h with
    | m :: mid, h =>
      have e : (pre ++ (m :: mid) ++ post).set pre.length v = (pre ++ [v]) ++ mid ++ post := by simp
      simp only [setAll, e]
      have := ih (pre ++ [v]) mid (by simpa using h)
      rw [show (pre ++ [v]).length = pre.length + 1 from by simp] at this
      rw [this]; simp

/-! ### append -/

theorem growBy_le (n : Nat) : ∀ (r c : Nat), Builtin.growBy n r c ≤ max c (n + (n + 768) / 4) := by
  intro r
  induction r with
  | zero => intro c; unfold Builtin.growBy; omega
  | succ r ih =>
    intro c
    unfold Builtin.growBy
    split
    · omega
    · have := ih (c + (c + 768) / 4); omega
theorem next_le {need cap : Nat} (h : cap < need) : Builtin.nextslicecap need cap ≤ 2 * need + 192 := by
  unfold Builtin.nextslicecap
  split
  · omega
  · split
    · omega
    · have := growBy_le need 4 cap; omega

theorem run_first {sz : Nat} {v : Value} (hsz : sz = Flat.sz α) (h : RdL S w v ys) : (Builtin.firstCells sz ys.length v).run P w = .ok (flat ys).toArray w := by
  subst hsz
  obtain ⟨a, cap, rfl, _, h3⟩ := h
  rcases h3 with ⟨rfl, _⟩ | ⟨b, o, rfl, _, h5⟩
  · cases a with
    | none => rfl
    | some a => simp [Builtin.firstCells, loadCells, loadCellsFrom, flat_nil]
  · have := run_loadCells (P := P) h5
    rw [flat_length] at this
    exact this

theorem zeroCells_length (z : Array Value) (n : Nat) : (Builtin.zeroCells z n).size = n * z.size := by simp [Builtin.zeroCells]

theorem cells_add {b o : Nat} {cs : List Value} (h : ∀ j c, cs[j]? = some c → Cell w b (o + j) c) : ∀ j v, cs[j]? = some v → w.cell? ((⟨b, o, none⟩ : Addr).add j) = some v := fun j v hj => by
  rw [add_none]; exact h j v hj

/-- What append asks for: that the sum is small, that no element is great. -/
theorem run_append {T E by' R : Nat} {v src : Value} {F : Nat → Prop} (ht : SlT P T E (Flat.sz α) by') (hv : (ownL v xs).p w F) (hsrc : RdL S w src ys)
    (hn : xs.length + ys.length ≤ 1073741824) (hby : by' ≤ 8192) :
    ∃ v' w' F', (Builtin.append_ #[T, T] R [v, src].toArray).run P w = .ok v' w' ∧ (ownL v' (xs ++ ys)).p w' F' ∧ (∀ b, F' b → F b ∨ w.heap.size ≤ b) ∧ Chg F w w' := by
  obtain ⟨hu, inf, hi, hsz, hbytes, hz⟩ := slFact_spec ht
  obtain ⟨zv, hzv, hzs⟩ : ∃ zv, inf.zero = some zv ∧ zv.cells.size = Flat.sz α := by
    cases hzz : inf.zero with
    | none => rw [hzz] at hz; cases hz
    | some zv => rw [hzz] at hz; exact ⟨zv, rfl, by simpa using hz⟩
  have hmul : ∀ n : Nat, n ≤ 1073741824 → n * inf.bytes ≤ 140737488355328 := fun n h => by
    have := Nat.mul_le_mul h (show inf.bytes ≤ 8192 by omega); omega
  -- a new row
  have made : ∀ (cap : Nat), cap < xs.length + ys.length →
      (ownL (.slice (some ⟨w.heap.size, 0, none⟩) (xs.length + ys.length) (grownCap w (xs.length + ys.length) cap E)) (xs ++ ys)).p
        (w.drew.alloc (.cells ((flat xs).toArray ++ (flat ys).toArray ++ Builtin.zeroCells zv.cells (grownCap w (xs.length + ys.length) cap E - (xs.length + ys.length))) E)) (fun k => k = w.heap.size) := by
    intro cap hc
    have hge := grownCap_ge w (xs.length + ys.length) cap E
    refine .inr ⟨w.heap.size, grownCap w (xs.length + ys.length) cap E, (Builtin.zeroCells zv.cells (grownCap w (xs.length + ys.length) cap E - (xs.length + ys.length))).toList, by simp, ⟨E, ?_⟩, ?_, fun _ => Iff.rfl⟩
    · have := push_new w.drew (.cells ((flat xs).toArray ++ (flat ys).toArray ++ Builtin.zeroCells zv.cells (grownCap w (xs.length + ys.length) cap E - (xs.length + ys.length))) E)
      refine Eq.trans this ?_
      congr 2
      apply Array.ext'
      simp [flat_append]
    · have e : (Builtin.zeroCells zv.cells (grownCap w (xs.length + ys.length) cap E - (xs.length + ys.length))).toList.length = (grownCap w (xs.length + ys.length) cap E - (xs.length + ys.length)) * Flat.sz α := by
        rw [Array.length_toList, size_zeroCells, hzs]
      rw [List.length_append, e, flat_length, List.length_append, ← Nat.add_mul]
      congr 1
      omega
  have chgd : ∀ o, Chg F w (w.drew.alloc o) := fun o => ⟨rfl, rfl, rfl, by simp, fun b hb _ => push_heap w.drew o b hb⟩
  have rd := hsrc
  obtain ⟨sa, scap, rfl, hsc, hs3⟩ := rd
  rcases hv with ⟨rfl, rfl, hF⟩ | ⟨b, cap, rest, rfl, hb, hl, hF⟩
  · -- nothing yet
    simp only [List.length_nil, Nat.zero_add, List.nil_append] at *
    by_cases hm : ys = []
    · subst hm
      refine ⟨.slice none 0 0, w, F, ?_, .inl ⟨rfl, rfl, hF⟩, fun b hb => .inl hb, Chg.refl _ _⟩
      cases sa <;> simp [Builtin.append_, run_underlying hu, sizeOf, typeInfo, hi, Builtin.lenOf, Builtin.firstCells, loadCells, loadCellsFrom]
    · have hpos : 0 < ys.length := List.length_pos_iff.2 hm
      rcases hs3 with ⟨h, _⟩ | ⟨b, o, rfl, _, hcs⟩
      · exact absurd h hm
      · have hr := run_append_nil (P := P) w T R E inf zv hu hi hzv ⟨b, o, none⟩ ys.length scap (flat ys) (by rw [flat_length, hsz]) (cells_add hcs) hpos (by omega) (by have := hmul ys.length hn; omega)
        refine ⟨_, _, fun k => k = w.heap.size, hr, ?_, fun k hk => .inr (by rw [hk]; exact Nat.le_refl _), chgd _⟩
        have := made 0 hpos
        simpa [flat_nil] using this
  · have hcap : xs.length ≤ cap := by
      rw [List.length_append, flat_length] at hl
      exact Nat.le_of_mul_le_mul_right (show xs.length * Flat.sz α ≤ cap * Flat.sz α by omega) (Flat.pos (α := α))
    by_cases hroom : xs.length + ys.length ≤ cap
    · -- there is room
      have hfit : (xs.length + ys.length) * Flat.sz α ≤ cap * Flat.sz α := Nat.mul_le_mul_right _ hroom
      have hfl : (flat xs).length = xs.length * Flat.sz α := flat_length xs
      have hrest : (flat ys).length ≤ rest.length := by
        rw [List.length_append, hfl] at hl; rw [flat_length]; rw [Nat.add_mul] at hfit; omega
      obtain ⟨w', h1, h2, h3⟩ := run_storeRow (P := P) (o := xs.length * Flat.sz α) (flat ys) 0 (flat xs ++ rest) w hb (by rw [List.length_append, hfl]; omega) flat_one
      have hset : setAll (flat xs ++ rest) (xs.length * Flat.sz α + 0) (flat ys) = flat (xs ++ ys) ++ rest.drop (flat ys).length := by
        have := setAll_mid (flat xs) (rest.take (flat ys).length) (rest.drop (flat ys).length) (flat ys) (by simp; omega)
        rw [hfl] at this
        rw [Nat.add_zero, flat_append]
        rw [← this]
        simp
      rw [hset] at h2
      refine ⟨.slice (some ⟨b, 0, none⟩) (xs.length + ys.length) cap, w', F, ?_, .inr ⟨b, cap, _, by simp, h2, ?_, hF⟩, fun b hb => .inl hb, h3.mono fun k hk => (hF k).2 hk⟩
      · have hf := run_first (α := α) (P := P) (sz := Flat.sz α) rfl hsrc
        have hadd : (⟨b, 0, none⟩ : Addr).add (xs.length * Flat.sz α) = ⟨b, xs.length * Flat.sz α, none⟩ := by rw [add_none, Nat.zero_add]
        simp [Builtin.append_, run_underlying hu, sizeOf, typeInfo, hi, Builtin.lenOf, hroom, hf, hsz, hadd, h1]
      · rw [← hl, List.length_append, List.length_append, flat_append, List.length_append, List.length_drop]; omega
    · -- a new row
      have hr := run_append_grow (P := P) w T R E inf zv hu hi hzv ⟨b, 0, none⟩ xs.length cap (flat xs) (by rw [flat_length, hsz])
        (cells_add fun j c hj => by rw [Nat.zero_add]; exact hb.cell (by rw [List.getElem?_append_left (List.getElem?_eq_some_iff.1 hj).1]; exact hj))
      rcases hs3 with ⟨h, _⟩ | ⟨b', o, rfl, _, hcs⟩
      · subst h; simp at hroom; omega
      · have hr := hr ⟨b', o, none⟩ ys.length scap (flat ys) (by rw [flat_length, hsz]) (cells_add hcs) (by omega) (by omega) (growslice_fits (by omega) (hmul _ hn))
        exact ⟨_, _, fun k => k = w.heap.size, hr, made cap (by omega), fun k hk => .inr (by rw [hk]; exact Nat.le_refl _), chgd _⟩

theorem eop_append {T E by' R : Nat} {v src : Value} {K : Value → World → Prop} (hs : St w0 A (ownL v xs :: L) w) (ht : SlT P T E (Flat.sz α) by') (hsrc : RdL S w src ys)
    (hn : xs.length + ys.length ≤ 1073741824) (hby : by' ≤ 8192) (k : ∀ v' w', St w0 A (ownL v' (xs ++ ys) :: L) w' → K v' w') : Eop P (Builtin.append_ #[T, T] R [v, src].toArray) w K := by
  obtain ⟨U, F, U', h1, h2, h3, h4, h5⟩ := hs.seps
  obtain ⟨v', w', F', g1, g2, g3, g4⟩ := run_append (R := R) ht h1 hsrc hn hby
  refine ⟨v', w', g1, k v' w' ?_⟩
  refine ⟨hs.chg.trans g4 (fun _ h => h) fun b hb hf => (h2 b hf).elim id fun hh => by omega, fun b => F' b ∨ U' b, F', U', g2, fun b hb => ?_, fun b hb hu => ?_, fun b => Iff.rfl, ?_⟩
  · rcases g3 b hb with hf | hf
    · exact h2 b hf
    · exact .inr (Nat.le_trans hs.chg.size hf)
  · rcases g3 b hb with hf | hf
    · exact h3 b hf hu
    · have := h5.lt b hu; omega
  · exact h5.loc fun b hb => g4.blk b (h5.lt b hb) fun hf => h3 b hf hb

end
end Go.Fw
