/-
  Slices in their own row: appended to in place, cleared; three bounds. Own work; nothing here is trusted.
-/
import Derived.Test.YtddeoncipdpkfaaGreatDoorZFw11
set_option linter.all false
namespace Go.Fw
section
variable {α : Type} [Flat α] {P : Program} {w w0 : World} {A S : Nat → Prop} {L : List HP} {xs ys : List α}

theorem RdL.one {v : Value} (h : RdL S w v xs) : oneC v = true := by obtain ⟨a, c, rfl, _⟩ := h; rfl

theorem run_append_in {T E by' R b n cap : Nat} {z : Option Nat} {src : Value} {cs : List Value} (ht : slFact P T = some (E, Flat.sz α, by', z)) (hb : Blk w b cs) (hsrc : RdL S w src ys)
    (hroom : n + ys.length ≤ cap) (hfit : n * Flat.sz α + ys.length * Flat.sz α ≤ cs.length) :
    ∃ w', (Builtin.append_ #[T, T] R [.slice (some ⟨b, 0, none⟩) n cap, src].toArray).run P w = .ok (.slice (some ⟨b, 0, none⟩) (n + ys.length) cap) w' ∧ Blk w' b (setAll cs (n * Flat.sz α) (flat ys)) ∧ Chg (· = b) w w' := by
  obtain ⟨hu, inf, hi, hsz, hbytes, _⟩ := slFact_spec ht
  have rd := hsrc
  obtain ⟨sa, scap, rfl, hsc, hs3⟩ := rd
  obtain ⟨w', h1, h2, h3⟩ := run_storeRow (P := P) (o := n * Flat.sz α) (flat ys) 0 cs w hb (by rw [flat_length]; omega) flat_one
  refine ⟨w', ?_, by simpa using h2, h3⟩
  have hf := run_first (α := α) (P := P) (sz := Flat.sz α) rfl hsrc
  have hadd : (⟨b, 0, none⟩ : Addr).add (n * Flat.sz α) = ⟨b, n * Flat.sz α, none⟩ := by rw [add_none, Nat.zero_add]
  simp [Builtin.append_, run_underlying hu, sizeOf, typeInfo, hi, Builtin.lenOf, hroom, hf, hsz, hadd, h1]

theorem run_clear {T E by' R b o n c : Nat} {z : α} {cs : List Value} (ht : SlT P T E (Flat.sz α) by') (hz : ZeroT P E (Flat.val z)) (hb : Blk w b cs) (hfit : o + n * Flat.sz α ≤ cs.length) :
    ∃ w', (Builtin.clear_ #[T] R [.slice (some ⟨b, o, none⟩) n c].toArray).run P w = .ok (.tuple #[]) w' ∧ Blk w' b (setAll cs o (flat (List.replicate n z))) ∧ Chg (· = b) w w' := by
  obtain ⟨hu, inf, hi, hsz, hbytes, _⟩ := slFact_spec ht
  unfold ZeroT zeroFact at hz
  rw [hi] at hz
  simp only [Option.map_some, Option.some.injEq] at hz
  by_cases h0 : n = 0
  · subst h0
    refine ⟨w, ?_, by simpa [flat_nil, setAll] using hb, Chg.refl _ _⟩
    simp [Builtin.clear_, run_underlying hu]
  · have hzc : (Builtin.zeroCells (Flat.val z).cells n).toList = flat (List.replicate n z) := by
      rw [val_cells, ← flat_replicate]
      unfold Builtin.zeroCells madeCells
      simp [Flat.len]
    obtain ⟨w', h1, h2, h3⟩ := run_storeRow (P := P) (o := o) (flat (List.replicate n z)) 0 cs w hb (by rw [flat_length, List.length_replicate]; omega) flat_one
    refine ⟨w', ?_, by simpa using h2, h3⟩
    simp [Builtin.clear_, run_underlying hu, zeroValue, typeInfo, hi, hz, h0, hzc, h1]

/-- s[i:j:k], of which nothing is kept. -/
theorem pop_cut3 {T E sz by' n cap : Nat} {z : Option Nat} {a : Option Addr} {i j k : Int} {K : Value → Prop} (ht : slFact P T = some (E, sz, by', z)) (h0 : 0 ≤ i) (h1 : i ≤ j) (h2 : j ≤ k) (h3 : k ≤ cap)
    (kk : ∀ v, K v) : Pop P (Instr.sliceAt T (.slice a n cap) (some (.int .i64 i)) (some (.int .i64 j)) (some (.int .i64 k))) K := by
  obtain ⟨hu, inf, hi', hsz, _⟩ := slFact_spec ht
  have hb : pr P (Instr.sliceBounds true n cap (some (.int .i64 i)) (some (.int .i64 j)) (some (.int .i64 k))) = some (i.toNat, j.toNat, k.toNat) := by
    simp only [Instr.sliceBounds, pr_bind, pr_pure, Option.bind_some]
    rw [pr_bound (by omega) (by omega)]
    simp only [Option.bind_some]
    rw [pr_bound (by omega) (by omega)]
    simp only [Option.bind_some]
    rw [pr_bound (by omega) (by omega)]
    rfl
  refine ⟨.slice (if k.toNat = i.toNat then a else a.map (·.add (i.toNat * sz))) (j.toNat - i.toNat) (k.toNat - i.toNat), ?_, kk _⟩
  · unfold Instr.sliceAt
    rw [pr_bind, pr_underlying hu]
    simp only [Option.bind_some]
    unfold Instr.slice
    rw [pr_bind, pr_underlying hu]
    simp only [Option.bind_some]
    rw [pr_bind, hb]
    simp only [Option.bind_some]
    rw [pr_bind, pr_sizeOf hi', hsz]
    rfl

theorem setAll_nil (cs : List Value) (o : Nat) : setAll cs o [] = cs := rfl
end
end Go.Fw
