/-
  The beginning of an owned slice, owned. Own work; nothing here is trusted.
-/
import Derived.Test.YtddeoncipdpkfaaGreatDoorZFw23
import Derived.Laws.Strings
set_option linter.all false
namespace Go.Fw
theorem pop_ownCut {α : Type} [Flat α] {P : Program} {w w0 : World} {A : Nat → Prop} {L : List HP} {xs : List α} {T E by' : Nat} {z : Option Nat} {v : Value} {i : Int} {K : Value → Prop} (ht : slFact P T = some (E, Flat.sz α, by', z))
    (hs : St w0 A (ownL v xs :: L) w) (h0 : 0 ≤ i) (h1 : i ≤ xs.length) (k : ∀ v', St w0 A (ownL v' (xs.take i.toNat) :: L) w → K v') : Pop P (Instr.sliceAt T v none (some (.int .i64 i)) none) K := by
  obtain ⟨a, cap, hv, hcap, _⟩ := hs.rd'
  refine ⟨_, (by rw [hv]; exact pr_cut ht (pr_bounds (.inl ⟨rfl, rfl⟩) (.inr ⟨i, rfl, h0, rfl⟩) (Nat.zero_le _) (by omega))), k _ ?_⟩
  refine hs.turn fun F hF => ?_
  rcases hF with ⟨hv0, hx, hno⟩ | ⟨b, cap', rest, hv', hb, hl, hF⟩
  · rw [hv0] at hv
    subst hx
    simp only [Value.slice.injEq] at hv
    obtain ⟨rfl, _, rfl⟩ := hv
    have hi : i.toNat = 0 := by simp at h1; omega
    refine ⟨F, .inl ⟨?_, by simp, hno⟩, fun b hb => .inl hb, Chg.refl _ _⟩
    rw [hi]; rfl
  · rw [hv'] at hv
    simp only [Value.slice.injEq] at hv
    obtain ⟨rfl, _, rfl⟩ := hv
    refine ⟨F, .inr ⟨b, cap', flat (xs.drop i.toNat) ++ rest, ?_, ?_, ?_, hF⟩, fun b hb => .inl hb, Chg.refl _ _⟩
    · have hl2 : (xs.take i.toNat).length = i.toNat := by rw [List.length_take]; omega
      rw [hl2]
      simp [add_none]
    · rw [← List.append_assoc, ← flat_append, List.take_append_drop]; exact hb
    · rw [← List.append_assoc, ← flat_append, List.take_append_drop]; exact hl
end Go.Fw
namespace Go.Fw
section
variable {P : Program} {w w' : World} {v : Value}
theorem DL.flat {α : Type} [Flat α] [D : Deep α α] {xs : List α} (h : DL w v xs) (hD : ∀ w s x, D.dr w s x ↔ s = x := by intros; exact Iff.rfl) : RdL (fun _ => True) w v xs := by
  obtain ⟨ts, h1, h2⟩ := h.open
  rw [(drs_plain hD).1 h2] at h1; exact h1
theorem DL.unflat {α : Type} [Flat α] [D : Deep α α] {xs : List α} (h : RdL (fun _ => True) w v xs) (hD : ∀ w s x, D.dr w s x ↔ s = x := by intros; exact Iff.rfl) : DL w v xs := DL.of h ((drs_plain hD).2 rfl)
/-- A part of a slice: what it reads as, wherever the slice reads as it did. -/
theorem pop_cutW {α : Type} [Flat α] {S : Nat → Prop} {xs : List α} {T E by' : Nat} {z : Option Nat} {lo hi : Option Value} {l h : Nat} {K : Value → Prop} (ht : slFact P T = some (E, Flat.sz α, by', z)) (hr : RdL S w v xs)
    (hl : lo = none ∧ l = 0 ∨ ∃ i : Int, lo = some (.int .i64 i) ∧ 0 ≤ i ∧ l = i.toNat) (hh : hi = none ∧ h = xs.length ∨ ∃ i : Int, hi = some (.int .i64 i) ∧ 0 ≤ i ∧ h = i.toNat)
    (h1 : l ≤ h) (h2 : h ≤ xs.length) (k : ∀ v', (∀ w', RdL S w' v xs → RdL S w' v' ((xs.take h).drop l)) → K v') : Pop P (Instr.sliceAt T v lo hi none) K := by
  obtain ⟨a, cap, rfl, hcap, h3⟩ := hr
  exact ⟨_, pr_cut ht (pr_bounds hl hh h1 (by omega)), k _ fun w' hw => hw.cut rfl h1 h2⟩
theorem pop_cutLoW {α : Type} [Flat α] {S : Nat → Prop} {xs : List α} {T E by' : Nat} {z : Option Nat} {i : Int} {K : Value → Prop} (ht : slFact P T = some (E, Flat.sz α, by', z)) (hr : RdL S w v xs)
    (h0 : 0 ≤ i) (h2 : i ≤ xs.length) (k : ∀ v', (∀ w', RdL S w' v xs → RdL S w' v' (xs.drop i.toNat)) → K v') : Pop P (Instr.sliceAt T v (some (.int .i64 i)) none none) K :=
  pop_cutW ht hr (.inr ⟨i, rfl, h0, rfl⟩) (.inl ⟨rfl, rfl⟩) (by omega) (Nat.le_refl _) fun v' h => k v' fun w' hw => by have := h w' hw; rwa [List.take_length] at this
theorem pop_cutLH {α : Type} [Flat α] {S : Nat → Prop} {xs : List α} {T E by' : Nat} {z : Option Nat} {i j : Int} {K : Value → Prop} (ht : slFact P T = some (E, Flat.sz α, by', z)) (hr : RdL S w v xs)
    (h0 : 0 ≤ i) (h1 : i ≤ j) (h2 : j ≤ xs.length) (k : ∀ v', (∀ w', RdL S w' v xs → RdL S w' v' ((xs.take j.toNat).drop i.toNat)) → K v') : Pop P (Instr.sliceAt T v (some (.int .i64 i)) (some (.int .i64 j)) none) K :=
  pop_cutW ht hr (.inr ⟨i, rfl, h0, rfl⟩) (.inr ⟨j, rfl, by omega, rfl⟩) (by omega) (by omega) k
theorem DL.cut {α σ : Type} [Flat σ] [Deep α σ] {xs : List α} {ts : List σ} {v' : Value} {l h : Nat} (hq : ∀ w', RdL (fun _ => True) w' v ts → RdL (fun _ => True) w' v' ((ts.take h).drop l)) (hR : RdL (fun _ => True) w v ts) (hD : drs ts xs w) : DL w v' ((xs.take h).drop l) :=
  DL.of (hq w hR) ((hD.take h).drop l)
theorem DL.cutLo {α σ : Type} [Flat σ] [Deep α σ] {xs : List α} {ts : List σ} {v' : Value} {l : Nat} (hq : ∀ w', RdL (fun _ => True) w' v ts → RdL (fun _ => True) w' v' (ts.drop l)) (hR : RdL (fun _ => True) w v ts) (hD : drs ts xs w) : DL w v' (xs.drop l) :=
  DL.of (hq w hR) (hD.drop l)
theorem DL.cutHi {α σ : Type} [Flat σ] [Deep α σ] {xs : List α} {ts : List σ} {v' : Value} {h : Nat} (hq : ∀ w', RdL (fun _ => True) w' v ts → RdL (fun _ => True) w' v' (ts.take h)) (hR : RdL (fun _ => True) w v ts) (hD : drs ts xs w) : DL w v' (xs.take h) :=
  DL.of (hq w hR) (hD.take h)
/-- Texts compared. -/
theorem toList_iff {a b : ByteArray} : (a.toList == b.toList) = decide (a = b) := by
  rw [ByteArray.toList_eq, ByteArray.toList_eq, Bool.eq_iff_iff, beq_iff_eq, decide_eq_true_eq]
  constructor
  · intro h
    obtain ⟨a⟩ := a
    obtain ⟨b⟩ := b
    simp only [ByteArray.mk.injEq]
    exact Array.toList_inj.1 h
  · rintro rfl; rfl
theorem pop_streq {T : Nat} {cx cy : Bool} {a b : ByteArray} {K : Value → Prop} (k : K (.bool (decide (a = b)))) : Pop P (binS .eql T cx cy (.string a) (.string b)) K := by
  rw [← toList_iff] at k
  exact ⟨_, rfl, k⟩
theorem pop_strne {T : Nat} {cx cy : Bool} {a b : ByteArray} {K : Value → Prop} (k : K (.bool (decide (¬ a = b)))) : Pop P (binS .neq T cx cy (.string a) (.string b)) K := by
  refine ⟨_, rfl, ?_⟩
  have : (!(a.toList == b.toList)) = decide (¬ a = b) := by rw [toList_iff]; by_cases h : a = b <;> simp [h]
  rw [this]; exact k
end
end Go.Fw
namespace Go.Fw
/-- The bytes of a text. -/
def bts (s : ByteArray) : List UInt8 := s.data.toList
theorem bts_len (s : ByteArray) : (bts s).length = s.size := by unfold bts; rw [Array.length_toList]; rfl
theorem bts_get (s : ByteArray) (i : Nat) : (bts s)[i]? = if h : i < s.size then some (s[i]'h) else none := by
  unfold bts
  by_cases h : i < s.size
  · rw [dif_pos h, Array.getElem?_toList]
    exact Array.getElem?_eq_getElem h
  · rw [dif_neg h, List.getElem?_eq_none]
    rw [Array.length_toList]; exact Nat.le_of_not_lt h
section
variable {P : Program} {T R : Nat} {cx cy : Bool} {a b : Int} {K : Value → Prop}
theorem pop_slen {s : ByteArray} (hT : P.underlying T = some .string) (k : K (.int .i64 (s.size : Int))) : Pop P (Builtin.len_ #[T] R [Value.string s].toArray) K := by
  refine ⟨_, ?_, k⟩
  show pr P (do
    match ← underlying T, Value.string s with
    | .string, .string s => pure (goInt s.size)
    | .array n _, _ => pure (goInt n)
    | .pointer arr, _ =>
      let .array n _ ← underlying arr | stuck "len: pointer to array expected"
      pure (goInt n)
    | .slice _, .slice _ n _ => pure (goInt n)
    | .map _ _, .map none | .chan _ _, .chan none => pure (goInt 0)
    | .map _ _, .map (some r) =>
      let .map entries _ ← getObj r | stuck "len: map expected"
      pure (goInt entries.size)
    | .chan _ _, .chan (some r) =>
      let .chan _ buf _ _ _ timer ← getObj r | stuck "len: channel expected"
      pure (goInt (if timer then 0 else buf.size))
    | _, _ => stuck "len: string, array, pointer to array, slice, map or channel expected") = _
  rw [pr_bind, pr_underlying hT]; rfl
theorem pop_six {s : ByteArray} {i : Int} {e : UInt8} (hT : P.underlying T = some .string) (h0 : 0 ≤ i) (he : (bts s)[i.toNat]? = some e) (k : K (.int .u8 (e.toNat : Int))) : Pop P (Instr.index T (.string s) (.int .i64 i)) K := by
  refine ⟨_, ?_, k⟩
  rw [bts_get] at he
  have hi : i.toNat < s.size := by
    by_cases h : i.toNat < s.size
    · exact h
    · rw [dif_neg h] at he; cases he
  rw [dif_pos hi] at he
  have h3 : (if 0 ≤ i then s[i.toNat]? else none) = some e := by rw [if_pos h0, ByteArray.getElem?_lt' s _ hi, ← he]
  unfold Instr.index
  simp only [asIntOf, pr_bind, pr_underlying hT, Option.bind_some, pr_pure, h3]
theorem pop_scutHi {s : ByteArray} {i : Int} (hT : P.underlying T = some .string) (h0 : 0 ≤ i) (h1 : i ≤ s.size) (k : K (.string (s.extract 0 i.toNat))) : Pop P (Instr.sliceAt T (.string s) none (some (.int .i64 i)) none) K := by
  refine ⟨_, ?_, k⟩
  unfold Instr.sliceAt
  rw [pr_bind, pr_underlying hT]
  simp only [Option.bind_some]
  unfold Instr.slice
  rw [pr_bind, pr_underlying hT]
  simp only [Option.bind_some]
  rw [if_neg (by decide)]
  have hb : pr P (Instr.sliceBounds false s.size s.size none (some (.int .i64 i)) none) = some (0, i.toNat, s.size) := by
    simp only [Instr.sliceBounds, pr_bind, pr_pure, Option.bind_some]
    rw [pr_bound h0 h1]; rfl
  rw [pr_bind, hb]; rfl
theorem pop_scut {s : ByteArray} {i j : Int} (hT : P.underlying T = some .string) (h0 : 0 ≤ i) (hij : i ≤ j) (h1 : j ≤ s.size) (k : K (.string (s.extract i.toNat j.toNat))) : Pop P (Instr.sliceAt T (.string s) (some (.int .i64 i)) (some (.int .i64 j)) none) K := by
  refine ⟨_, ?_, k⟩
  unfold Instr.sliceAt
  rw [pr_bind, pr_underlying hT]
  simp only [Option.bind_some]
  unfold Instr.slice
  rw [pr_bind, pr_underlying hT]
  simp only [Option.bind_some]
  rw [if_neg (by decide)]
  have hb : pr P (Instr.sliceBounds false s.size s.size (some (.int .i64 i)) (some (.int .i64 j)) none) = some (i.toNat, j.toNat, s.size) := by
    simp only [Instr.sliceBounds, pr_bind, pr_pure, Option.bind_some]
    rw [pr_bound (by omega) h1]; simp only [Option.bind_some]; rw [pr_bound h0 (by omega)]; rfl
  rw [pr_bind, hb]; rfl
theorem pop_lssK (k : K (.bool (decide (a < b)))) : Pop P (binS .lss T cx cy (.int .u8 a) (.int .u8 b)) K := ⟨_, rfl, k⟩
theorem pop_leqK (k : K (.bool (decide (a ≤ b)))) : Pop P (binS .leq T cx cy (.int .u8 a) (.int .u8 b)) K := ⟨_, rfl, k⟩
theorem pop_gtrK (k : K (.bool (decide (b < a)))) : Pop P (binS .gtr T cx cy (.int .u8 a) (.int .u8 b)) K := ⟨_, rfl, k⟩
theorem pop_geqK (k : K (.bool (decide (b ≤ a)))) : Pop P (binS .geq T cx cy (.int .u8 a) (.int .u8 b)) K := ⟨_, rfl, k⟩
theorem pop_eqlK (k : K (.bool (decide (a = b)))) : Pop P (binS .eql T cx cy (.int .u8 a) (.int .u8 b)) K := ⟨_, rfl, k⟩
theorem pop_neqK (k : K (.bool (decide (a ≠ b)))) : Pop P (binS .neq T cx cy (.int .u8 a) (.int .u8 b)) K :=
  ⟨_, (show pr P (binS .neq T cx cy (.int .u8 a) (.int .u8 b)) = some (.bool (decide (a ≠ b))) from by
    show some (Value.bool (a != b)) = _
    congr 2
    by_cases h : a = b <;> simp [h]), k⟩
theorem pop_max3 {t : Array TypeId} {R : TypeId} {c : Int} (k : K (.int .i64 (max (max a b) c))) : Pop P (Builtin.max_ t R [.int .i64 a, .int .i64 b, .int .i64 c].toArray) K := by
  refine ⟨_, ?_, k⟩
  show pr P (do Builtin.max2 (← Builtin.max2 (.int .i64 a) (.int .i64 b)) (.int .i64 c)) = _
  have h : ∀ x y : Int, pr P (Builtin.max2 (.int .i64 x) (.int .i64 y)) = some (.int .i64 (max x y)) := by
    intro x y
    unfold Builtin.max2
    by_cases h : x < y
    · simp [h, pr_pure]; omega
    · simp [h, pr_pure]; omega
  rw [pr_bind, h]
  exact h _ _
end
end Go.Fw
namespace Go.Fw
/-- A slice of things that hold slices, owned; what the things hold turns no more. -/
def ownD {α σ : Type} [Flat σ] [Deep α σ] (v : Value) (xs : List α) : HP := exH fun ts : List σ => sep (ownL v ts) (frz (drs ts xs))
section
variable {P : Program} {α σ : Type} [Flat σ] [D : Deep α σ] {w w' w0 : World} {v src : Value} {A : Nat → Prop} {L : List HP} {xs ys : List α}
theorem St.dOpen (hs : St w0 A (ownD v xs :: L) w) : ∃ ts : List σ, St w0 A (ownL v ts :: Fw.frz (drs ts xs) :: L) w := by
  obtain ⟨ts, h⟩ := hs.openEx; exact ⟨ts, h.split⟩
theorem St.dShut {ts : List σ} (hs : St w0 A (ownL v ts :: Fw.frz (drs ts xs) :: L) w) : St w0 A (ownD v xs :: L) w :=
  St.shutEx (H := fun ts : List σ => sep (ownL v ts) (Fw.frz (drs ts xs))) ts (St.join hs)
theorem St.dLen {ts : List σ} (hs : St w0 A (ownL v ts :: Fw.frz (drs ts xs) :: L) w) : ts.length = xs.length := (hs.p1.frz).1
theorem St.dNil (hs : St w0 A L w) : St w0 A (ownD (.slice none 0 0) ([] : List α) :: L) w :=
  St.dShut (ts := []) ((hs.frzNil fun _ => drs.nil).ownNil)
theorem St.dNew (hs : St w0 A (ownL v ([] : List σ) :: L) w) : St w0 A (ownD v ([] : List α) :: L) w :=
  St.dShut (ts := []) (hs.frzNil (Φ := drs ([] : List σ) ([] : List α)) fun _ => drs.nil).p1
theorem St.dOne {s : σ} {x : α} (hs : St w0 A (ownL v [s] :: Fw.frz (fun w => Deep.dr w s x) :: L) w) : St w0 A (ownD v [x] :: L) w := by
  refine St.dShut (ts := [s]) ?_
  refine ((hs.p1.frzMono (Ψ := drs [s] [x]) fun w h => ?_)).p1
  exact (drs.nil (w := w)).snoc h
theorem St.dCat {ts us : List σ} (hs : St w0 A (ownL v (ts ++ us) :: Fw.frz (drs ts xs) :: Fw.frz (drs us ys) :: L) w) : St w0 A (ownD v (xs ++ ys) :: L) w := by
  have h1 := (hs.p1 : St w0 A (Fw.frz (drs ts xs) :: ownL v (ts ++ us) :: Fw.frz (drs us ys) :: L) w)
  have h2 := h1.p2.p1
  refine St.dShut (ts := ts ++ us) ?_
  exact ((h2.frzAnd).frzMono (Ψ := drs (ts ++ us) (xs ++ ys)) fun w h => h.1.append h.2).p1
theorem St.dFreeze (hs : St w0 A (ownD v xs :: L) w) : St w0 A (Fw.frz (fun w => DL w v xs) :: L) w := by
  obtain ⟨ts, h⟩ := hs.dOpen
  exact (h.freeze.frzAnd).frzMono fun w h => DL.of h.1 h.2
theorem St.dl (hs : St w0 A (ownD v xs :: L) w) : DL w v xs := hs.dFreeze.frz
theorem St.isSVd (hs : St w0 A (ownD v xs :: L) w) : ∃ s : SV, v = Flat.val s := hs.dl.isSV
theorem St.enc {b : Nat} {cs cs' : List Value} (hs : St w0 A (blk b cs :: L) w) (h : cs = cs') : St w0 A (blk b cs' :: L) w := h ▸ hs
theorem eop_buildD0 {T E by' : Nat} {K : Value → World → Prop} (hs : St w0 A L w) (ht : SlT P T E (Flat.sz σ) by') (k : ∀ v w', St w0 A (ownD v ([] : List α) :: L) w' → K v w') : Eop P (Instr.buildSlice T 0 ([] : List (Nat × Value)).toArray) w K :=
  eop_build ([] : List σ) hs ht rfl rfl (by simp) fun v w' h => k v w' h.dNew
theorem eop_buildD1 {T E by' : Nat} {s : σ} {x : α} {K : Value → World → Prop} (hs : St w0 A (Fw.frz (fun w => Deep.dr w s x) :: L) w) (ht : SlT P T E (Flat.sz σ) by') (hz : Flat.sz σ ≤ 64) (k : ∀ v w', St w0 A (ownD v [x] :: L) w' → K v w') :
    Eop P (Instr.buildSlice T 1 [(0, Flat.val s)].toArray) w K :=
  eop_build [s] hs ht rfl rfl (by simp; omega) fun v w' h => k v w' h.dOne
theorem eop_appendD {T E by' R : Nat} {K : Value → World → Prop} (hs : St w0 A (ownD v xs :: ownD src ys :: L) w) (ht : SlT P T E (Flat.sz σ) by')
    (hn : xs.length + ys.length ≤ 1073741824) (hby : by' ≤ 8192) (k : ∀ v' w', St w0 A (ownD v' (xs ++ ys) :: L) w' → K v' w') : Eop P (Builtin.append_ #[T, T] R [v, src].toArray) w K := by
  obtain ⟨us, h1⟩ := hs.p1.dOpen
  obtain ⟨ts, h2⟩ := h1.p2.dOpen
  have e1 := h1.dLen
  have e2 := h2.dLen
  refine eop_append h2 ht h2.p2.rd' (by omega) hby fun v' w' h => k v' w' ?_
  exact (h.p2.drop).dCat
theorem run_sub {β : Type} [Flat β] {T : Nat} {b o : Nat} {cs : List Value} (x : β) (ht : oneFact P T = some (Flat.agg β, Flat.sz β)) (hb : Blk w b cs) (hx : (cs.drop o).take (Flat.sz β) = Flat.enc x) :
    (Instr.loadAt T (.pointer (some ⟨b, o, none⟩))).run P w = .ok (Flat.val x) w := by
  refine run_at (S := fun _ => True) ht ⟨b, o, rfl, trivial, fun j c hj => hb.cell ?_⟩
  rw [← hx, List.getElem?_take] at hj
  split at hj
  · rw [List.getElem?_drop] at hj; exact hj
  · cases hj
end
end Go.Fw
