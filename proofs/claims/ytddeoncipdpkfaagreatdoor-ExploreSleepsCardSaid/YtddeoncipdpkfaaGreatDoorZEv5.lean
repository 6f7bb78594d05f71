/-
  The evaluator: quiet operations. Own work; nothing here is trusted.
-/
import Derived.Test.YtddeoncipdpkfaaGreatDoorZEv4
set_option linter.all false
namespace Go.Fw
section
variable {v0 v : V} {h0 h : Hp} {n0 n : Nat}
theorem iffO_ok {c : Bool} {a : OR} (hh : iffO c a .no = .ok v h n) : c = true ∧ a = .ok v h n := by cases c <;> first | exact ⟨rfl, hh⟩ | cases hh
theorem and_ok {a b : Bool} (hh : andB a b = true) : a = true ∧ b = true := by cases a <;> cases b <;> first | exact ⟨rfl, rfl⟩ | cases hh
theorem nb_eq {a b : Nat} (hh : Nat.beq a b = true) : a = b := Nat.eq_of_beq_eq_true hh
theorem ble_le {a b : Nat} (hh : Nat.ble a b = true) : a ≤ b := Nat.le_of_ble_eq_true hh
theorem blt_lt {a b : Nat} (hh : Nat.blt a b = true) : a < b := by rw [Nat.blt_eq] at hh; exact hh
theorem okB {k : Bool → OR} (hh : v0.onB .no k = .ok v h n) : ∃ b, v0 = .b b ∧ k b = .ok v h n := by
  rcases V.onB_inv v0 .no k with e | ⟨b, e1, e2⟩
  · rw [e] at hh; cases hh
  · exact ⟨b, e1, e2 ▸ hh⟩
theorem okI {k : IntKind → Int → OR} (hh : v0.onI .no k = .ok v h n) : ∃ t b, v0 = .i t b ∧ k t b = .ok v h n := by
  rcases V.onI_inv v0 .no k with e | ⟨t, b, e1, e2⟩
  · rw [e] at hh; cases hh
  · exact ⟨t, b, e1, e2 ▸ hh⟩
theorem okS {k : Nat → Nat → OR} (hh : v0.onS .no k = .ok v h n) : ∃ t b, v0 = .s t b ∧ k t b = .ok v h n := by
  rcases V.onS_inv v0 .no k with e | ⟨t, b, e1, e2⟩
  · rw [e] at hh; cases hh
  · exact ⟨t, b, e1, e2 ▸ hh⟩
theorem okP {k : Nat → Nat → OR} (hh : v0.onP .no k = .ok v h n) : ∃ t b, v0 = .p t b ∧ k t b = .ok v h n := by
  rcases V.onP_inv v0 .no k with e | ⟨t, b, e1, e2⟩
  · rw [e] at hh; cases hh
  · exact ⟨t, b, e1, e2 ▸ hh⟩
theorem okA {k : V → OR} (hh : v0.onA .no k = .ok v h n) : ∃ b, v0 = .a b ∧ k b = .ok v h n := by
  rcases V.onA_inv v0 .no k with e | ⟨b, e1, e2⟩
  · rw [e] at hh; cases hh
  · exact ⟨b, e1, e2 ▸ hh⟩
theorem okTup {k : V → OR} (hh : v0.onT .no k = .ok v h n) : ∃ b, v0 = .t b ∧ k b = .ok v h n := by
  rcases V.onT_inv v0 .no k with e | ⟨b, e1, e2⟩
  · rw [e] at hh; cases hh
  · exact ⟨b, e1, e2 ▸ hh⟩
theorem okM {k : Nat → OR} (hh : v0.onM .no k = .ok v h n) : ∃ b, v0 = .m b ∧ k b = .ok v h n := by
  rcases V.onM_inv v0 .no k with e | ⟨b, e1, e2⟩
  · rw [e] at hh; cases hh
  · exact ⟨b, e1, e2 ▸ hh⟩
theorem okSl {d k0 k3 : OR} {k1 k2 : Nat → Nat → Nat → Nat → OR} (hh : v0.onSl d k0 k1 k2 k3 = .ok v h n) : d = .ok v h n ∨ (v0 = .ns ∧ k0 = .ok v h n) ∨ (∃ b o l c, v0 = .sl b o l c ∧ k1 b o l c = .ok v h n) ∨
    (∃ b o l c, v0 = .sx b o l c ∧ k2 b o l c = .ok v h n) ∨ (v0 = .se ∧ k3 = .ok v h n) := by
  rcases V.onSl_inv v0 d k0 k1 k2 k3 with e | ⟨e1, e2⟩ | ⟨b, o, l, c, e1, e2⟩ | ⟨b, o, l, c, e1, e2⟩ | ⟨e1, e2⟩
  · exact .inl (e ▸ hh)
  · exact .inr (.inl ⟨e1, e2 ▸ hh⟩)
  · exact .inr (.inr (.inl ⟨b, o, l, c, e1, e2 ▸ hh⟩))
  · exact .inr (.inr (.inr (.inl ⟨b, o, l, c, e1, e2 ▸ hh⟩)))
  · exact .inr (.inr (.inr (.inr ⟨e1, e2 ▸ hh⟩)))
theorem natI_ok {m : Int} {k : Nat → OR} (hh : natI m k = .ok v h n) : ∃ j : Nat, m = (j : Int) ∧ k j = .ok v h n := by
  cases m with
  | ofNat j => exact ⟨j, rfl, hh⟩
  | negSucc j => cases hh
theorem natV_ok {k : Nat → OR} (hh : natV v0 k = .ok v h n) : ∃ (t : IntKind) (j : Nat), v0 = .i t (j : Int) ∧ k j = .ok v h n := by
  obtain ⟨t, b, e, hh⟩ := okI hh
  obtain ⟨j, e2, hh⟩ := natI_ok hh
  exact ⟨t, j, by rw [e, e2], hh⟩
theorem okEI {k0 : OR} {k : IntKind → Int → OR} (hh : v0.onEI .no k0 k = .ok v h n) : (v0 = .e ∧ k0 = .ok v h n) ∨ ∃ t b, v0 = .i t b ∧ k t b = .ok v h n := by
  rcases V.onEI_inv v0 .no k0 k with e | ⟨e1, e2⟩ | ⟨t, b, e1, e2⟩
  · rw [e] at hh; cases hh
  · exact .inl ⟨e1, e2 ▸ hh⟩
  · exact .inr ⟨t, b, e1, e2 ▸ hh⟩
/-- A bound: none, and x; or a number. -/
theorem bndV_ok {x : Nat} {k : Nat → OR} (hh : bndV v0 x k = .ok v h n) : ∃ j, k j = .ok v h n ∧ ((v0 = .e ∧ j = x) ∨ ∃ t, v0 = .i t (j : Int)) := by
  rcases okEI hh with ⟨e, hh⟩ | ⟨t, b, e, hh⟩
  · exact ⟨x, hh, .inl ⟨e, rfl⟩⟩
  · obtain ⟨j, e2, hh⟩ := natI_ok hh
    exact ⟨j, hh, .inr ⟨t, by rw [e, e2]⟩⟩
theorem withC_ok {b : Nat} {k : Nat → Nat → Tr V → OR} (hh : withC h0 b k = .ok v h n) : ∃ m es t, getH h0 b = .c m es t ∧ k m es t = .ok v h n := by
  rcases HB.onC_inv (getH h0 b) .no k with e | ⟨m, es, t, e1, e2⟩
  · rw [show withC h0 b k = _ from e] at hh; cases hh
  · exact ⟨m, es, t, e1, e2 ▸ hh⟩
theorem alloc_ok {hb : HB} {k : Hp → OR} (hh : alloc hb h0 n0 k = .ok v h n) : getH h0 n0 = .z ∧ k (putH h0 hb n0) = .ok v h n := by
  rcases HB.onZ_inv (getH h0 n0) .no (k (putH h0 hb n0)) with e | ⟨e1, e2⟩
  · rw [show alloc hb h0 n0 k = _ from e] at hh; cases hh
  · exact ⟨e1, e2 ▸ hh⟩
theorem okHM {r : HB} {k : Nat → ML → OR} (hh : r.onM .no k = .ok v h n) : ∃ c l, r = .m c l ∧ k c l = .ok v h n := by
  rcases HB.onM_inv r .no k with e | ⟨c, l, e1, e2⟩
  · rw [e] at hh; cases hh
  · exact ⟨c, l, e1, e2 ▸ hh⟩
theorem okHMx {r : HB} {k : Nat → ML → OR} (hh : r.onMx k = .ok v h n) : ∃ c l, r = .m c l ∧ c < 4294967296 ∧ k c l = .ok v h n := by
  obtain ⟨c, l, e1, e2⟩ := okHM (show r.onM .no (fun c l => iffO (Nat.blt c 4294967296) (k c l) .no) = .ok v h n from hh)
  obtain ⟨e3, e4⟩ := iffO_ok e2
  exact ⟨c, l, e1, blt_lt e3, e4⟩
theorem okHT {r : HB} {k : Nat → Nat → Nat → Nat → Nat → OR} (hh : r.onT .no k = .ok v h n) : ∃ a b c d e, r = .it a b c d e ∧ k a b c d e = .ok v h n := by
  rcases HB.onT_inv r .no k with e | ⟨a, b, c, d, f, e1, e2⟩
  · rw [e] at hh; cases hh
  · exact ⟨a, b, c, d, f, e1, e2 ▸ hh⟩
theorem ok_inj {v v' : V} {h h' : Hp} {n n' : Nat} (hh : OR.ok v h n = .ok v' h' n') : v = v' ∧ h = h' ∧ n = n' := by injection hh with a b c; exact ⟨a, b, c⟩
end

/-- The value v, the memory h' are come to. -/
def Pst (P : Program) (Fr : Fram) (ρ : Rn) (v : V) (h : Hp) : Value → World → Prop := fun y w' => ∃ ρ', Le ρ ρ' ∧ RH P Fr ρ' h w' ∧ RV ρ' v y

section
variable {P : Program} {Fr : Fram} {ρ : Rn} {h h' : Hp} {w : World} {v : V} {n n' : Nat} {e : En} {e' : Env}
theorem RH.post (hR : RH P Fr ρ h w) {y : Value} (hv : RV ρ v y) : Pst P Fr ρ v h y w := ⟨ρ, Le.refl ρ, hR, hv⟩
/-- A quiet operation of a known value. -/
theorem popP {m : Sem Value} {y : Value} (hp : pr P m = some y) (hR : RH P Fr ρ h w) (hv : RV ρ v y) : Pop P m fun y => Pst P Fr ρ v h y w := ⟨y, hp, hR.post hv⟩
theorem qopP {m : Sem Value} {y : Value} (hp : m.run P w = .ok y w) (hR : RH P Fr ρ h w) (hv : RV ρ v y) : Qop P m w fun y => Pst P Fr ρ v h y w := ⟨y, hp, hR.post hv⟩
theorem cells_ok {k : OK} {x : Value} (hv : RV ρ v x) {u : V} (hh : v.cells .no k = .ok u h n) : ∃ l, k l = .ok u h n ∧ RLs ρ l x.cells.toList ∧ ∀ z ∈ x.cells.toList, oneC z = true := by
  cases v with
  | a l =>
    obtain ⟨ys, h1, h2, rfl⟩ := hv
    exact ⟨l, hh, by simpa [Value.cells] using h1, by simpa [Value.cells] using h2⟩
  | t l => cases hh
  | e => cases hh
  | c x r => cases hh
  | b x => subst hv; exact ⟨_, hh, ⟨_, _, rfl, rfl, rfl⟩, by simp [Value.cells, oneC]⟩
  | i k x => subst hv; exact ⟨_, hh, ⟨_, _, rfl, rfl, rfl⟩, by simp [Value.cells, oneC]⟩
  | s k x => subst hv; exact ⟨_, hh, ⟨_, _, rfl, rfl, rfl⟩, by simp [Value.cells, oneC]⟩
  | np => subst hv; exact ⟨_, hh, ⟨_, _, rfl, rfl, rfl⟩, by simp [Value.cells, oneC]⟩
  | ns => subst hv; exact ⟨_, hh, ⟨_, _, rfl, rfl, rfl⟩, by simp [Value.cells, oneC]⟩
  | nm => subst hv; exact ⟨_, hh, ⟨_, _, rfl, rfl, rfl⟩, by simp [Value.cells, oneC]⟩
  | nf => subst hv; exact ⟨_, hh, ⟨_, _, rfl, rfl, rfl⟩, by simp [Value.cells, oneC]⟩
  | p b o => have hv' := hv; obtain ⟨q, _, rfl⟩ := hv; exact ⟨_, hh, ⟨_, _, rfl, hv', rfl⟩, by simp [Value.cells, oneC]⟩
  | sl b o l d => have hv' := hv; obtain ⟨q, _, _, rfl⟩ := hv; exact ⟨_, hh, ⟨_, _, rfl, hv', rfl⟩, by simp [Value.cells, oneC]⟩
  | sx b o l d => have hv' := hv; obtain ⟨q, _, _, rfl⟩ := hv; exact ⟨_, hh, ⟨_, _, rfl, hv', rfl⟩, by simp [Value.cells, oneC]⟩
  | se => have hv' := hv; obtain ⟨a, c, rfl⟩ := hv; exact ⟨_, hh, ⟨_, _, rfl, hv', rfl⟩, by simp [Value.cells, oneC]⟩
  | m r => have hv' := hv; obtain ⟨q, _, rfl⟩ := hv; exact ⟨_, hh, ⟨_, _, rfl, hv', rfl⟩, by simp [Value.cells, oneC]⟩
  | f g c => have hv' := hv; obtain ⟨q, _, rfl⟩ := hv; exact ⟨_, hh, ⟨_, _, rfl, hv', rfl⟩, by simp [Value.cells, oneC]⟩
  | y l => have hv' := hv; obtain ⟨q, _, rfl⟩ := hv; exact ⟨_, hh, ⟨_, _, rfl, hv', rfl⟩, by simp [Value.cells, oneC]⟩

theorem s_ld {q : Oq} {T : TypeId} {x : Value} (ht : OneT P T) (hR : RH P Fr ρ h w) (hx : RV ρ (evq e q) x) (hh : evLd e h n q = .ok v h' n') : Qop P (Instr.loadAt T x) w fun y => Pst P Fr ρ v h' y w := by
  obtain ⟨b, o, e1, hh⟩ := okP hh
  obtain ⟨m, es, t, hb, hh⟩ := withC_ok hh
  obtain ⟨hlt, hh⟩ := iffO_ok hh
  rw [V.fc_eq] at hh
  obtain ⟨rfl, rfl, _⟩ := ok_inj hh
  rw [e1] at hx
  obtain ⟨q, h1, rfl⟩ := hx
  obtain ⟨q', cs, ty, fz, g1, g2, _, _, _, _, _, g8⟩ := hR.cells hb
  rw [h1] at g1; cases g1
  obtain ⟨y, g9, g10, _⟩ := g8 o (blt_lt hlt)
  exact qopP (run_loadOne ht (cell_of g2 g9)) hR g10
theorem s_lda {q : Oq} {T : TypeId} {x : Value} {k : Nat} (ht : AggT P T k) (hR : RH P Fr ρ h w) (hx : RV ρ (evq e q) x) (hh : evLda e h n k q = .ok v h' n') : Qop P (Instr.loadAt T x) w fun y => Pst P Fr ρ v h' y w := by
  obtain ⟨b, o, e1, hh⟩ := okP hh
  obtain ⟨m, es, t, hb, hh⟩ := withC_ok hh
  obtain ⟨hle, hh⟩ := iffO_ok hh
  obtain ⟨rfl, rfl, _⟩ := ok_inj hh
  rw [e1] at hx
  obtain ⟨q, h1, rfl⟩ := hx
  obtain ⟨q', cs, ty, fz, g1, g2, _, _, _, _, g7, g8⟩ := hR.cells hb
  rw [h1] at g1; cases g1
  obtain ⟨xs, k1, _, k3, k4, k5⟩ := row_of (w := w) g2 g7 g8 (show o + k ≤ m from ble_le hle)
  exact qopP (run_loadAgg (by rw [k1]; exact ht) k5) hR ⟨xs, k3.rd k1, k4, rfl⟩
theorem s_fa {q : Oq} {s f off : Nat} {x : Value} (ht : FieldT P s f off) (hR : RH P Fr ρ h w) (hx : RV ρ (evq e q) x) (hh : evFa e h n off q = .ok v h' n') : Pop P (Instr.fieldAt s x f) fun y => Pst P Fr ρ v h' y w := by
  obtain ⟨b, o, e1, hh⟩ := okP hh
  obtain ⟨rfl, rfl, _⟩ := ok_inj hh
  rw [e1] at hx
  obtain ⟨q, h1, rfl⟩ := hx
  exact popP (pr_fieldAt ht) hR ⟨q, h1, by rw [Nat.add_assoc]; rfl⟩
theorem s_nil {q : Oq} {x : Value} (hR : RH P Fr ρ h w) (hx : RV ρ (evq e q) x) (hh : evNil e h n q = .ok v h' n') : Pop P (nilS x) fun y => Pst P Fr ρ v h' y w := by
  rcases V.onPF_inv (evq e q) .no (fun b o => OR.ok (.p b o) h n) (fun g c => OR.ok (.f g c) h n) with e1 | ⟨b, o, e1, e2⟩ | ⟨g, c, e1, e2⟩
  · rw [show evNil e h n q = _ from e1] at hh; cases hh
  · rw [show evNil e h n q = _ from e2] at hh
    obtain ⟨rfl, rfl, _⟩ := ok_inj hh
    rw [e1] at hx
    have hx' := hx
    obtain ⟨q, h1, rfl⟩ := hx
    exact popP rfl hR hx'
  · rw [show evNil e h n q = _ from e2] at hh
    obtain ⟨rfl, rfl, _⟩ := ok_inj hh
    rw [e1] at hx
    have hx' := hx
    obtain ⟨ys, h1, rfl⟩ := hx
    exact popP rfl hR hx'
theorem s_pick {c a b : Oq} {x y z : Value} (hR : RH P Fr ρ h w) (hx : RV ρ (evq e c) x) (hy : RV ρ (evq e a) y) (hz : RV ρ (evq e b) z) (hh : evPick e h n c a b = .ok v h' n') : Pop P (pickS x y z) fun y => Pst P Fr ρ v h' y w := by
  obtain ⟨t, e1, hh⟩ := okB hh
  rw [e1] at hx
  obtain rfl : x = .bool t := hx
  cases t with
  | true => change (evq e a).fc (fun v => .ok v h n) = _ at hh; rw [V.fc_eq] at hh; obtain ⟨rfl, rfl, _⟩ := ok_inj hh; exact popP rfl hR hy
  | false => change (evq e b).fc (fun v => .ok v h n) = _ at hh; rw [V.fc_eq] at hh; obtain ⟨rfl, rfl, _⟩ := ok_inj hh; exact popP rfl hR hz
theorem s_not {q : Oq} {x : Value} (hR : RH P Fr ρ h w) (hx : RV ρ (evq e q) x) (hh : evNot e h n q = .ok v h' n') : Pop P (Op.unary .not x) fun y => Pst P Fr ρ v h' y w := by
  obtain ⟨t, e1, hh⟩ := okB hh
  obtain ⟨rfl, rfl, _⟩ := ok_inj hh
  rw [e1] at hx
  obtain rfl : x = .bool t := hx
  exact popP (y := .bool (!t)) rfl hR (show _ = _ by rw [notB_eq])
theorem s_gen {q : Oq} {f : Value → Sem Value} {x : Value} (hR : RH P Fr ρ h w) (hx : RV ρ (evq e q) x) (hh : (genV P f (evq e q) fun v => .ok v h n) = .ok v h' n') : Pop P (f x) fun y => Pst P Fr ρ v h' y w := by
  unfold genV at hh
  cases h1 : toV (evq e q) with
  | none => rw [h1] at hh; cases hh
  | some a =>
    rw [h1] at hh
    dsimp only at hh
    have : x = a := (toVP_spec (evq e q)).1 _ _ h1 hx
    subst this
    cases h2 : pr P (f x) with
    | none => rw [h2] at hh; cases hh
    | some r =>
      rw [h2] at hh
      dsimp only [okO] at hh
      cases h3 : ofVal r with
      | none => rw [h3] at hh; cases hh
      | some u =>
        rw [h3] at hh
        obtain ⟨rfl, rfl, _⟩ := ok_inj hh
        exact popP h2 hR (ofVal_spec h3)
theorem s_genl {q : OL} {f : List Value → Sem Value} {xs : List Value} (hR : RH P Fr ρ h w) (hx : RLs ρ (evl e q) xs) (hh : (genlV P f (evl e q) fun v => .ok v h n) = .ok v h' n') : Pop P (f xs) fun y => Pst P Fr ρ v h' y w := by
  unfold genlV at hh
  cases h1 : (toVP (evl e q)).2 with
  | none => rw [h1] at hh; cases hh
  | some a =>
    rw [h1] at hh
    dsimp only at hh
    have : xs = a := (toVP_spec (evl e q)).2 _ _ h1 hx
    subst this
    cases h2 : pr P (f xs) with
    | none => rw [h2] at hh; cases hh
    | some r =>
      rw [h2] at hh
      dsimp only [okO] at hh
      cases h3 : ofVal r with
      | none => rw [h3] at hh; cases hh
      | some u =>
        rw [h3] at hh
        obtain ⟨rfl, rfl, _⟩ := ok_inj hh
        exact popP h2 hR (ofVal_spec h3)
theorem s_ext {q : Oq} {i : Nat} {x : Value} (hR : RH P Fr ρ h w) (hx : RV ρ (evq e q) x) (hh : evExt e h n i q = .ok v h' n') : Pop P (Instr.extract x i) fun y => Pst P Fr ρ v h' y w := by
  obtain ⟨l, e1, hh⟩ := okTup hh
  rw [e1] at hx
  obtain ⟨ys, h1, rfl⟩ := hx
  rcases nthL_spec (k := fun v => v.fc fun v => .ok v h n) i h1 with h2 | ⟨u, x, h2, h3, h4⟩
  · rw [h2] at hh; cases hh
  · rw [h2, V.fc_eq] at hh
    obtain ⟨rfl, rfl, _⟩ := ok_inj hh
    obtain ⟨y, p1, p2⟩ := (pop_ext (P := P) (K := fun y => y = x) h3 rfl).ex
    exact popP p1 hR (p2 ▸ h4)
theorem s_cut {q lo hi : Oq} {T : TypeId} {x : Value} {ol oh : Option Operand} (hT : P.underlying T = some .string) (hR : RH P Fr ρ h w) (hE : RE ρ e e') (hx : RV ρ (evq e q) x)
    (hlo : oqO ol = some lo) (hhi : oqO oh = some hi) (hh : evCut e h n q lo hi = .ok v h' n') : Pop P (Instr.sliceAt T x (ol.map (ev e')) (oh.map (ev e')) none) fun y => Pst P Fr ρ v h' y w := by
  obtain ⟨c, l, e1, hh⟩ := okS hh
  obtain ⟨k, hh, hk⟩ := bndV_ok hh
  obtain ⟨j, hh, hj⟩ := bndV_ok hh
  obtain ⟨hc, hh⟩ := iffO_ok hh
  obtain ⟨hc1, hc2⟩ := and_ok hc
  have hc1 := ble_le hc1
  have hc2 := ble_le hc2
  obtain ⟨rfl, rfl, _⟩ := ok_inj hh
  rw [e1] at hx
  obtain rfl : x = .string (strOf c l) := hx
  have bnd : ∀ {o : Option Operand} {q : Oq} {d i : Nat}, oqO o = some q → ((evq e q = .e ∧ i = d) ∨ ∃ t, evq e q = .i t (i : Int)) → (o = none ∧ i = d) ∨ ∃ t, o.map (ev e') = some (.int t (i : Int)) := by
    intro o q d i ho hi
    cases o with
    | none =>
      cases ho
      rcases hi with ⟨_, hi⟩ | ⟨t, hi⟩
      · exact .inl ⟨rfl, hi⟩
      · cases hi
    | some y =>
      have := oq_spec hE (q := q) ho
      rcases hi with ⟨hi, _⟩ | ⟨t, hi⟩
      · rw [hi] at this; exact this.elim
      · rw [hi] at this; exact .inr ⟨t, congrArg some this⟩
  have pb : ∀ {t : IntKind} {y i : Nat} {code : BoundsCode}, i ≤ y → pr P (Instr.sliceBound (.int t (i : Int)) y code) = some i := by
    intro t y i code hi
    show pr P (if 0 ≤ (i : Int) ∧ (i : Int) ≤ (y : Int) then pure ((i : Int)).toNat else _) = _
    rw [if_pos ⟨by omega, by omega⟩]; rfl
  have hb : pr P (Instr.sliceBounds false (strOf c l).size (strOf c l).size (ol.map (ev e')) (oh.map (ev e')) none) = some (j, k, l) := by
    rw [strOf_size]
    rcases bnd hhi hk with ⟨rfl, rfl⟩ | ⟨t, e2⟩
    · rcases bnd hlo hj with ⟨rfl, rfl⟩ | ⟨t', e3⟩
      · rfl
      · rw [e3]
        simp only [Instr.sliceBounds, pr_bind, pr_pure, Option.bind_some, Option.map_none]
        rw [pb (by omega)]; rfl
    · rw [e2]
      rcases bnd hlo hj with ⟨rfl, rfl⟩ | ⟨t', e3⟩
      · simp only [Instr.sliceBounds, pr_bind, pr_pure, Option.bind_some, Option.map_none]
        rw [pb (by omega)]; rfl
      · rw [e3]
        simp only [Instr.sliceBounds, pr_bind, pr_pure, Option.bind_some]
        rw [pb (by omega)]
        simp only [Option.bind_some]
        rw [pb (by omega)]; rfl
  refine popP (y := .string ((strOf c l).extract j k)) ?_ hR (show _ = _ by rw [← strOf_cut hc1 hc2]; rfl)
  unfold Instr.sliceAt
  rw [pr_bind, pr_underlying hT]
  simp only [Option.bind_some]
  unfold Instr.slice
  rw [pr_bind, pr_underlying hT]
  simp only [Option.bind_some]
  rw [if_neg (by decide), pr_bind, hb]; rfl
theorem s_idx {q i : Oq} {T : TypeId} {x y : Value} (hT : P.underlying T = some .string) (hR : RH P Fr ρ h w) (hx : RV ρ (evq e q) x) (hy : RV ρ (evq e i) y) (hh : evIdx e h n q i = .ok v h' n') : Pop P (Instr.index T x y) fun y => Pst P Fr ρ v h' y w := by
  obtain ⟨t, j, e1, hh⟩ := natV_ok hh
  obtain ⟨c, l, e2, hh⟩ := okS hh
  obtain ⟨hlt, hh⟩ := iffO_ok hh
  have hlt := blt_lt hlt
  obtain ⟨rfl, rfl, _⟩ := ok_inj hh
  rw [e1] at hy
  rw [e2] at hx
  obtain rfl : y = .int t (j : Int) := hy
  obtain rfl : x = .string (strOf c l) := hx
  have hs : (strOf c l)[j]? = some (byteAt c j) := by
    have := strOf_get (n := c) hlt
    rw [bts_get] at this
    by_cases hj : j < (strOf c l).size
    · rw [dif_pos hj] at this; rw [ByteArray.getElem?_lt' _ _ hj, this]
    · rw [strOf_size] at hj; exact absurd hlt hj
  refine popP (y := .int .u8 ((byteAt c j).toNat : Int)) ?_ hR (show _ = _ by
    rw [byteAt_val]
    show Value.int .u8 _ = Value.int .u8 ((c >>> (8 * j) % 256 : Nat) : Int)
    rw [Nat.shiftRight_eq_div_pow])
  have h3 : (if 0 ≤ (j : Int) then (strOf c l)[(j : Int).toNat]? else none) = some (byteAt c j) := by rw [if_pos (by omega)]; exact hs
  unfold Instr.index
  simp only [asIntOf, pr_bind, pr_underlying hT, Option.bind_some, pr_pure, h3]
theorem s_ia {q i : Oq} {T E es : Nat} {x y : Value} (hT : P.underlying T = some (.slice E)) (hs : sizT P E = es) (h1 : 1 ≤ es) (hR : RH P Fr ρ h w) (hx : RV ρ (evq e q) x) (hy : RV ρ (evq e i) y) (hh : evIa e h n es q i = .ok v h' n') :
    Pop P (Instr.indexAt T x y) fun y => Pst P Fr ρ v h' y w := by
  have hsz : pr P (sizeOf E) = some es := by
    unfold sizT at hs
    cases hi : P.info? E with
    | none => rw [hi] at hs; simp at hs; omega
    | some inf => rw [hi] at hs; rw [pr_sizeOf hi]; simpa using hs
  obtain ⟨t, j, e1, hh⟩ := natV_ok hh
  rw [e1] at hy
  obtain rfl : y = .int t (j : Int) := hy
  have key : ∀ {b o l : Nat} {q : Pl} {c : Nat}, j < l → ρ b = some q → v = .p b (o + j * es) → Pop P (Instr.indexAt T (.slice (some ⟨q.k, q.b + o, none⟩) l c) (.int t (j : Int))) fun y => Pst P Fr ρ v h y w := by
    intro b o l q c hlt hb hv
    refine popP (y := .pointer (some ⟨q.k, q.b + o + j * es, none⟩)) ?_ hR (by rw [hv]; exact ⟨q, hb, by rw [Nat.add_assoc]⟩)
    unfold Instr.indexAt
    simp only [asIntOf, pr_bind, pr_underlying hT, Option.bind_some, pr_pure]
    rw [if_pos (show 0 ≤ (j : Int) ∧ (j : Int) < (l : Int) by omega), pr_bind, hsz]
    show some (Value.pointer (some ((⟨q.k, q.b + o, none⟩ : Addr).add ((j : Int).toNat * es)))) = _
    rw [add_none]; rfl
  rcases okSl hh with hh | ⟨_, hh⟩ | ⟨b, o, l, c, e2, hh⟩ | ⟨b, o, l, c, e2, hh⟩ | ⟨_, hh⟩
  · cases hh
  · cases hh
  · obtain ⟨hlt, hh⟩ := iffO_ok hh
    obtain ⟨rfl, rfl, _⟩ := ok_inj hh
    rw [e2] at hx
    obtain ⟨q, hb, _, rfl⟩ := hx
    exact key (blt_lt hlt) hb rfl
  · obtain ⟨hlt, hh⟩ := iffO_ok hh
    obtain ⟨rfl, rfl, _⟩ := ok_inj hh
    rw [e2] at hx
    obtain ⟨q, hb, _, rfl⟩ := hx
    exact key (blt_lt hlt) hb rfl
  · cases hh
theorem s_iaa {q i : Oq} {T E es k : Nat} {x y : Value} (hT : P.underlying T = some (.array k E)) (hs : sizT P E = es) (h1 : 1 ≤ es) (hR : RH P Fr ρ h w) (hx : RV ρ (evq e q) x) (hy : RV ρ (evq e i) y) (hh : evIaa e h n k es q i = .ok v h' n') :
    Pop P (Instr.indexAt T x y) fun y => Pst P Fr ρ v h' y w := by
  have hsz : pr P (sizeOf E) = some es := by
    unfold sizT at hs
    cases hi : P.info? E with
    | none => rw [hi] at hs; simp at hs; omega
    | some inf => rw [hi] at hs; rw [pr_sizeOf hi]; simpa using hs
  obtain ⟨t, j, e1, hh⟩ := natV_ok hh
  rw [e1] at hy
  obtain rfl : y = .int t (j : Int) := hy
  obtain ⟨b, o, e2, hh⟩ := okP hh
  obtain ⟨hlt, hh⟩ := iffO_ok hh
  have hlt := blt_lt hlt
  obtain ⟨rfl, rfl, _⟩ := ok_inj hh
  rw [e2] at hx
  obtain ⟨q, hb, rfl⟩ := hx
  refine popP (y := .pointer (some ⟨q.k, q.b + o + j * es, none⟩)) ?_ hR ⟨q, hb, by rw [Nat.add_assoc]; rfl⟩
  unfold Instr.indexAt
  simp only [asIntOf, pr_bind, pr_underlying hT, Option.bind_some, pr_pure, Instr.sureAddr]
  rw [if_pos (show 0 ≤ (j : Int) ∧ (j : Int) < (k : Int) by omega), pr_bind, hsz]
  show some (Value.pointer (some ((⟨q.k, q.b + o, none⟩ : Addr).add ((j : Int).toNat * es)))) = _
  rw [add_none]; rfl
end
end Go.Fw
