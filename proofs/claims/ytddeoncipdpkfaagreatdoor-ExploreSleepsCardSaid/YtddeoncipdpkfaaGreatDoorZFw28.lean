/-
  The bytes of a text, as a slice; functions that are asked of things that hold slices. Own work; nothing here is trusted.
-/
import Derived.Test.YtddeoncipdpkfaaGreatDoorZFw27
import Derived.Lib.ConvBytes
set_option linter.all false
namespace Go.Fw
instance : Flat UInt8 where
  agg := false
  sz := 1
  enc b := [.int .u8 b.toNat]
  val b := .int .u8 b.toNat
  pos := by decide
  len _ := rfl
  one a v h := by rw [List.mem_singleton.1 h]; rfl
  vagg h := by cases h
  vone _ _ := rfl
instance : Deep UInt8 UInt8 := plainDeep
theorem flat_u8 (l : List UInt8) : flat l = l.map fun b => Value.int .u8 b.toNat := by
  induction l with
  | nil => rfl
  | cons x l ih => rw [flat_cons, ih]; rfl
theorem eop_bytes {P : Program} {w w0 : World} {A : Nat → Prop} {L : List HP} {src dst e : TypeId} {s : ByteArray} {u : TypeDesc} {K : Value → World → Prop} (hs : St w0 A L w) (h1 : P.underlying src = some u) (h2 : P.underlying dst = some (.slice e)) (h3 : P.underlying e = some (.int .u8))
    (k : ∀ v w', St w0 A (Fw.frz (fun w => RdL (fun _ => True) w v (bts s)) :: L) w' → K v w') : Eop P (convert src dst (.string s)) w K := by
  refine ⟨_, _, Go.Lib.run_convert_string_bytes w src dst e s h1 h2 h3, k _ _ ?_⟩
  have he : Ext w (Go.Lib.bytesWorld w e s) := by
    refine ⟨?_, ?_, ?_, by rw [Go.Lib.bytesWorld_size]; omega, fun b hb _ => Go.Lib.bytesWorld_at_old w e s b hb⟩
    all_goals simp [Go.Lib.bytesWorld, World.freeze, World.alloc, World.drew, -World.alloc_eq, -World.drew_eq]
  refine hs.new he (F := fun b => b = w.heap.size) ⟨fun w' hw => ?_, fun b hb => by rw [hb, Go.Lib.bytesWorld_size]; omega⟩ fun b hb => by rw [hb]; exact Nat.le_refl _
  have hsz : (bts s).length = s.size := bts_len s
  refine ⟨some ⟨w.heap.size, 0, none⟩, grownCap w s.size 0 e, by rw [hsz], by rw [hsz]; exact grownCap_ge w s.size 0 e, .inr ⟨w.heap.size, 0, rfl, fun _ => trivial, fun j c hj => ?_⟩⟩
  rw [flat_u8, List.getElem?_map] at hj
  obtain ⟨b, hb, rfl⟩ := Option.map_eq_some_iff.1 hj
  have hlt : j < s.size := by rw [← hsz]; exact (List.getElem?_eq_some_iff.1 hb).1
  have h0 := hw w.heap.size rfl
  have hcell := Go.Lib.bytesWorld_cell w e s j hlt
  have e2 : s.data.toList.getD j 0 = b := by
    rw [List.getD_eq_getElem?_getD]
    have : s.data.toList[j]? = some b := hb
    rw [this]; rfl
  rw [e2] at hcell
  unfold Cell
  rw [Nat.zero_add]
  unfold World.cell? at hcell ⊢
  dsimp only at hcell ⊢
  rw [h0]; exact hcell
/-- The function value f answers g of each thing of which φ is so, from the world w on, and turns nothing. -/
def FnOnD {α σ : Type} [Flat σ] [Deep α σ] (P : Program) (w : World) (f : Value) (φ : α → Prop) (g : α → Bool) : Prop := ∃ g0 first cap, f = .func (.func g0) (List.toArray first) (List.toArray cap) ∧ Plain P g0 ∧
  ∀ (s : σ) (x : α) w1, Ext w w1 → Deep.dr w1 s x → φ x → Calls P g0 (first ++ [Flat.val s] ++ cap).toArray w1 (Ret fun v w2 => v = .bool (g x) ∧ Ext w1 w2)
theorem FnOnD.ext {α σ : Type} [Flat σ] [Deep α σ] {P : Program} {w w' : World} {f : Value} {φ : α → Prop} {g : α → Bool} (h : FnOnD P w f φ g) (e : Ext w w') : FnOnD P w' f φ g := by
  obtain ⟨g0, first, cap, h1, h2, h3⟩ := h; exact ⟨g0, first, cap, h1, h2, fun s x w1 e1 => h3 s x w1 (e.trans e1)⟩
theorem pop_slnil {α : Type} [Flat α] {P : Program} {S : Nat → Prop} {w : World} {T E : TypeId} {cx cy : Bool} {v : Value} {xs : List α} {K : Value → Prop} (h : P.underlying T = some (.slice E)) (hr : RdL S w v xs) (k : ∀ p : Bool, (p = true → xs = []) → K (.bool p)) :
    Pop P (binS .eql T cx cy v (.slice none 0 0)) K := by
  obtain ⟨a, cap, rfl, _, h3⟩ := hr
  have key : pr P (Op.equal T (.slice a xs.length cap) (.slice none 0 0)) = some a.isNone := by
    show pr P (Op.equalIn 10000 T (.slice a xs.length cap) (.slice none 0 0)) = _
    unfold Op.equalIn
    rw [pr_bind, pr_underlying h]
    cases a <;> rfl
  refine ⟨_, ?_, k a.isNone fun ha => ?_⟩
  · show pr P (do pure (Value.bool (← Op.equal T (.slice a xs.length cap) (.slice none 0 0)))) = _
    rw [pr_map', key]; rfl
  · rcases h3 with h3 | ⟨b, o, rfl, _⟩
    · exact h3.1
    · cases ha
theorem St.ownEq {α : Type} [Flat α] {w w0 : World} {A : Nat → Prop} {L : List HP} {v : Value} {xs ys : List α} (hs : St w0 A (ownL v xs :: L) w) (h : xs = ys) : St w0 A (ownL v ys :: L) w := h ▸ hs
theorem run_ownf {α β : Type} [Flat α] [Flat β] {P : Program} {w w0 : World} {A : Nat → Prop} {L : List HP} {xs : List α} {T : Nat} {v p : Value} {i off : Nat} {x : α} (y : β) (hs : St w0 A (ownL v xs :: L) w) (ht : oneFact P T = some (Flat.agg β, Flat.sz β)) (hp : OwnAtF α v i off p) (hx : xs[i]? = some x)
    (hy : ((Flat.enc x).drop off).take (Flat.sz β) = Flat.enc y) : (Instr.loadAt T p).run P w = .ok (Flat.val y) w := by
  obtain ⟨v, h1, h2⟩ := (qop_ownf (K := fun v => v = Flat.val y) y hs ht hp hx hy rfl).ex
  rw [← h2]; exact h1
end Go.Fw
