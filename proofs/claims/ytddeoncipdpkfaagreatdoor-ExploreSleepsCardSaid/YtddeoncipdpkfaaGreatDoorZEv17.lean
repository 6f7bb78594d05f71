/-
  The evaluator: a call carried out in parts. Between two parts the state is written down: its blocks have new numbers there, and what is not needed any more is left out. Own work; nothing here is trusted.
-/
import Derived.Test.YtddeoncipdpkfaaGreatDoorZEv16
set_option linter.all false
namespace Go.Fw
noncomputable section
/-- A value whose blocks have other numbers. -/
def renV (r : Nat → Nat) (v : V) : V := V.rec (motive := fun _ => V) (fun x => .b x) (fun k n => .i k n) (fun n l => .s n l) .np (fun b o => .p (r b) o) .ns (fun b o l k => .sl (r b) o l k) (fun b o l c => .sx (r b) o l c) .se .nm (fun b => .m (r b)) .nf (fun g _ ih => .f g ih) (fun l => .y (r l)) (fun _ ih => .a ih) (fun _ ih => .t ih) .e (fun _ _ i1 i2 => .c i1 i2) v
def renM (r : Nat → Nat) (l : ML) : ML := ML.rec (motive := fun _ => ML) .nil (fun k v b _ ih => .cons (renV r k) (renV r v) b ih) l
def n8m {α : Type} (f : α → α) (t : N8 α) : N8 α := N8.rec (motive := fun _ => N8 α) (fun x0 x1 x2 x3 x4 x5 x6 x7 => .mk (f x0) (f x1) (f x2) (f x3) (f x4) (f x5) (f x6) (f x7)) t
def renE (r : Nat → Nat) (e : En) : En := n8m (n8m (n8m (renV r))) e
def allB (f : Nat → Bool) (n : Nat) : Bool := Nat.rec (motive := fun _ => Bool) true (fun i ih => andB (f i) ih) n
def cellB (r : Nat → Nat) (t1 t2 : Tr V) (i : Nat) : Bool := V.eqs true (renV r (getV t2 i)) (getV t1 i)
def blkB (r : Nat → Nat) (b2 b1 : HB) : Bool :=
  HB.rec (motive := fun _ => HB → Bool) (fun _ => false) (fun _ => true)
    (fun n es t2 b1 => HB.rec (motive := fun _ => Bool) false false (fun n1 es1 t1 => andB (Nat.beq n n1) (andB (Nat.beq es es1) (allB (cellB r t1 t2) n))) (fun _ _ => false) (fun _ _ _ _ _ => false) (fun _ _ _ _ _ _ => false) false b1)
    (fun c l2 b1 => HB.rec (motive := fun _ => Bool) false false (fun _ _ _ => false) (fun c1 l1 => andB (Nat.beq c c1) (ML.eqv (renM r l2) l1)) (fun _ _ _ _ _ => false) (fun _ _ _ _ _ _ => false) false b1)
    (fun _ _ _ _ _ _ => false) (fun _ _ _ _ _ _ _ => false) (fun _ => false) b2 b1
/-- The old number of a new one; d: of all that are none. -/
def rnum (d : Nat) (l : List Nat) : Nat → Nat := List.rec (motive := fun _ => Nat → Nat) (fun _ => d) (fun x _ ih b => Nat.rec (motive := fun _ => Nat) x (fun j _ => ih j) b) l
def notIn (x : Nat) (l : List Nat) : Bool := List.rec (motive := fun _ => Bool) true (fun y _ ih => Bool.rec (motive := fun _ => Bool) ih false (Nat.beq x y)) l
def nodB (l : List Nat) : Bool := List.rec (motive := fun _ => Bool) true (fun x r ih => andB (notIn x r) ih) l
/-- A memory of these blocks. -/
def mkH (l : List HB) : Nat → Hp := List.rec (motive := fun _ => Nat → Hp) (fun _ => .lf) (fun y _ ih k => putH (ih (Nat.succ k)) y k) l
def isZ (b : HB) : Bool := HB.rec (motive := fun _ => Bool) true false (fun _ _ _ => false) (fun _ _ => false) (fun _ _ _ _ _ => false) (fun _ _ _ _ _ _ => false) false b
/-- Is what is written down (e2, the blocks bs) so, but for the numbers (l: the old ones)? -/
def subB (d : Nat) (l : List Nat) (e2 : En) (bs : List HB) (e1 : En) (h1 : Hp) : Bool :=
  andB (eq8 (eq8 (eq8 (V.eqs true))) (renE (rnum d l) e2) e1) (andB (isZ (getH h1 d)) (andB (nodB l) (andB (Nat.beq bs.length l.length) (allB (fun b => blkB (rnum d l) (getH (mkH bs 0) b) (getH h1 (rnum d l b))) l.length))))
def nxB (x : Ex) (k : En → Hp → Bool) : Bool := Ex.rec (motive := fun _ => Bool) false (fun e h _ ds => NL.rec (motive := fun _ => Bool) (k e h) (fun _ _ _ => false) ds) (fun _ _ _ _ => false) (fun _ _ _ _ _ => false) x
end
section
variable {P : Program} {Fr : Fram} {ρ : Rn} {h : Hp} {w : World}
theorem RP_ren (r : Nat → Nat) (v : V) : RP ρ (renV r v) = RP (fun b => ρ (r b)) v := by
  induction v with
  | f g c ih => show RP ρ (.f g (renV r c)) = _; simp only [RP, ih]
  | a c ih => show RP ρ (.a (renV r c)) = _; simp only [RP, ih]
  | t c ih => show RP ρ (.t (renV r c)) = _; simp only [RP, ih]
  | c a b i1 i2 => show RP ρ (.c (renV r a) (renV r b)) = _; simp only [RP, i1, i2]
  | _ => rfl
theorem RV_ren {r : Nat → Nat} {v : V} {x : Value} (hv : RV ρ (renV r v) x) : RV (fun b => ρ (r b)) v x := by
  unfold RV at hv ⊢; rw [RP_ren] at hv; exact hv
theorem RM_ren {r : Nat → Nat} : ∀ {l : ML} {es : List MapEntry}, RM ρ (renM r l) es → RM (fun b => ρ (r b)) l es := by
  intro l
  induction l with
  | nil => intro es h; exact h
  | cons k v b t ih => intro es ⟨e, es', h1, h2, h3, h4, h5⟩; exact ⟨e, es', h1, RV_ren h2, RV_ren h3, h4, ih h5⟩
theorem RMs_ren {r : Nat → Nat} : ∀ {l : ML} {sl : List (ByteArray × Int)}, RMs (renM r l) sl → RMs l sl := by
  intro l
  induction l with
  | nil => intro sl h; exact h
  | cons k v b t ih =>
    intro sl ⟨n, m, x, l', h1, h2, h3, h4⟩
    refine ⟨n, m, x, l', ?_, ?_, h3, ih h4⟩
    · cases k <;> first | exact h1 | cases h1
    · cases v <;> first | exact h2 | cases h2
theorem n8m_g1 (f : V → V) (s : S8) (t : N8 V) : g81 s (n8m f t) = f (g81 s t) := by cases t; cases s <;> rfl
theorem n8m_g2 (f : N8 V → N8 V) (s : S8) (t : N8 (N8 V)) : g82 s (n8m f t) = f (g82 s t) := by cases t; cases s <;> rfl
theorem n8m_g3 (f : N8 (N8 V) → N8 (N8 V)) (s : S8) (t : N8 (N8 (N8 V))) : g83 s (n8m f t) = f (g83 s t) := by cases t; cases s <;> rfl
theorem get_ren (r : Nat → Nat) (s : Sl) (e : En) : s.get (renE r e) = renV r (s.get e) := by
  cases s with
  | mk a b c => show g81 c (g82 b (g83 a (renE r e))) = renV r (g81 c (g82 b (g83 a e))); unfold renE; rw [n8m_g3, n8m_g2, n8m_g1]
theorem allB_at {f : Nat → Bool} : ∀ {n : Nat}, allB f n = true → ∀ i, i < n → f i = true
  | 0, _, i, hi => by omega
  | n + 1, hh, i, hi => by
    obtain ⟨h1, h2⟩ := and_ok (show andB (f n) (allB f n) = true from hh)
    by_cases e : i = n
    · rw [e]; exact h1
    · exact allB_at h2 i (by omega)
theorem rnum_at (d : Nat) : ∀ (l : List Nat) (b : Nat), rnum d l b = l.getD b d
  | [], b => by show d = _; simp
  | x :: l, 0 => by show x = _; simp
  | x :: l, b + 1 => by show rnum d l b = _; rw [rnum_at d l b]; simp
theorem notIn_ok {x : Nat} : ∀ {l : List Nat}, notIn x l = true → x ∉ l
  | [], _ => by simp
  | y :: l, hh => by
    have hh : (Bool.rec (motive := fun _ => Bool) (notIn x l) false (Nat.beq x y) : Bool) = true := hh
    cases hb : Nat.beq x y with
    | true => rw [hb] at hh; cases hh
    | false =>
      rw [hb] at hh
      have h1 := notIn_ok hh
      have h2 : x ≠ y := fun e => by rw [e, Nat.beq_refl] at hb; cases hb
      simp [h1, h2]
theorem nodB_ok : ∀ {l : List Nat}, nodB l = true → l.Nodup
  | [], _ => List.nodup_nil
  | x :: l, hh => by
    obtain ⟨h1, h2⟩ := and_ok (show andB (notIn x l) (nodB l) = true from hh)
    exact List.nodup_cons.2 ⟨notIn_ok h1, nodB_ok h2⟩
theorem nod_inj : ∀ {l : List Nat}, l.Nodup → ∀ {i j : Nat} (hi : i < l.length) (hj : j < l.length), l[i] = l[j] → i = j
  | [], _, i, j, hi, _, _ => by simp at hi
  | x :: l, hn, i, j, hi, hj, e => by
    obtain ⟨h1, h2⟩ := List.nodup_cons.1 hn
    cases i with
    | zero => cases j with
      | zero => rfl
      | succ j => simp at e hj; exact absurd (e ▸ List.getElem_mem hj) h1
    | succ i => cases j with
      | zero => simp at e hi; exact absurd (e ▸ List.getElem_mem hi) h1
      | succ j => simp at e hi hj; rw [nod_inj h2 hi hj e]
theorem getH_mkH : ∀ (l : List HB) (k b : Nat), getH (mkH l k) b = if k ≤ b ∧ b < k + l.length then l.getD (b - k) .z else .z
  | [], k, b => by
    show HB.z = _
    split <;> simp
  | y :: l, k, b => by
    show getH (putH (mkH l (k + 1)) y k) b = _
    rw [get_putH, getH_mkH l (k + 1) b]
    by_cases e : b = k
    · subst e; rw [if_pos rfl, if_pos (by simp)]; simp
    · rw [if_neg e]
      by_cases e2 : k + 1 ≤ b ∧ b < k + 1 + l.length
      · rw [if_pos e2, if_pos (by simp; omega), show b - k = (b - (k + 1)) + 1 from by omega]; simp
      · rw [if_neg e2, if_neg (by simp; omega)]
theorem blkB_ok {r : Nat → Nat} {b2 b1 : HB} (hh : blkB r b2 b1 = true) : b2 ≠ .z ∧ (live b2 → live b1 ∧ ∀ {q : Pl} {o : Obj}, Body P ρ b1 q o → Body P (fun b => ρ (r b)) b2 q o) := by
  cases b2 with
  | z => cases hh
  | x => exact ⟨fun h => (by cases h), fun h => h.elim⟩
  | c n es t2 =>
    refine ⟨fun h => (by cases h), fun _ => ?_⟩
    cases b1 with
    | c n1 es1 t1 =>
      obtain ⟨h1, hh⟩ := and_ok (show andB (Nat.beq n n1) (andB (Nat.beq es es1) (allB (cellB r t1 t2) n)) = true from hh)
      obtain ⟨h2, h3⟩ := and_ok hh
      have h1 := nb_eq h1
      have h2 := nb_eq h2
      subst h1 h2
      refine ⟨trivial, fun {q o} hB => ?_⟩
      obtain ⟨cs, ty, fz, g1, g2, g3, g4, g5, g6, g7⟩ := hB
      refine ⟨cs, ty, fz, g1, g2, g3, g4, g5, g6, fun i hi => ?_⟩
      obtain ⟨x, k1, k2, k3⟩ := g7 i hi
      have he := (eqs_spec _ _ (allB_at h3 i hi)).1
      rw [← he] at k2
      exact ⟨x, k1, RV_ren k2, k3⟩
    | _ => cases hh
  | m c l2 =>
    refine ⟨fun h => (by cases h), fun _ => ?_⟩
    cases b1 with
    | m c1 l1 =>
      obtain ⟨h1, h2⟩ := and_ok (show andB (Nat.beq c c1) (ML.eqv (renM r l2) l1) = true from hh)
      have h1 := nb_eq h1
      subst h1
      refine ⟨trivial, fun {q o} hB => ?_⟩
      rcases hB with ⟨g0, es, g1, g2⟩ | ⟨g0, sl, g2, g3⟩
      · rw [← ML_eqv _ _ h2] at g2
        exact .inl ⟨g0, es, g1, RM_ren g2⟩
      · rw [← ML_eqv _ _ h2] at g2
        exact .inr ⟨g0, sl, RMs_ren g2, g3⟩
    | _ => cases hh
  | it a b c d e => cases hh
  | lp a b c d e f => cases hh
  | df => cases hh
theorem isZ_ok {b : HB} (hh : isZ b = true) : b = .z := by cases b <;> first | rfl | cases hh
/-- The world stands so, the slots, too. -/
def InvS (P : Program) (Fr : Fram) (nt : Nat) (e : En) (h : Hp) (a : Act) (w : World) : Prop := ∃ ρ e', Agree [] nt e' a ∧ RE ρ e e' ∧ RH P Fr ρ h w
theorem sub_sound {d : Nat} {l : List Nat} {e2 e1 : En} {bs : List HB} {h1 : Hp} {e' : Env} (hh : subB d l e2 bs e1 h1 = true) (hE : RE ρ e1 e') (hR : RH P Fr ρ h1 w) : RE (fun b => ρ (rnum d l b)) e2 e' ∧ RH P Fr (fun b => ρ (rnum d l b)) (mkH bs 0) w := by
  obtain ⟨h1', hh⟩ := and_ok hh
  obtain ⟨h2, hh⟩ := and_ok hh
  obtain ⟨h3, hh⟩ := and_ok hh
  obtain ⟨h4, h5⟩ := and_ok hh
  have he := En_eqv _ _ h1'
  have hz := isZ_ok h2
  have hn := nodB_ok h3
  have hl := nb_eq h4
  have hbk := fun b hb => blkB_ok (P := P) (ρ := ρ) (allB_at h5 b hb)
  have hin : ∀ b, live (getH (mkH bs 0) b) → b < l.length := fun b hb => by
    rw [getH_mkH] at hb
    split at hb
    · omega
    · exact hb.elim
  refine ⟨fun i s hs => ?_, fun b hb => ?_, fun b hb => ?_, fun b b' q q' hb hb' hne hq hq' => ?_, hR.keep, fun b q hb hq => hR.off _ q ((hbk b (hin b hb)).2 hb).1 hq, hR.st⟩
  · have := hE i s hs
    rw [← he, get_ren] at this
    exact RV_ren this
  · by_cases hlt : b < l.length
    · exact absurd hb (hbk b hlt).1
    · show ρ (rnum d l b) = none
      rw [rnum_at, List.getD_eq_getElem?_getD, List.getElem?_eq_none (by omega)]
      exact hR.fresh d hz
  · have hlt := hin b hb
    obtain ⟨g1, g2⟩ := (hbk b hlt).2 hb
    obtain ⟨q, o, k1, k2, k3⟩ := hR.lv _ g1
    exact ⟨q, o, k1, k2, g2 k3⟩
  · have hlt := hin b hb
    have hlt' := hin b' hb'
    refine hR.sep _ _ q q' ((hbk b hlt).2 hb).1 ((hbk b' hlt').2 hb').1 (fun e => hne ?_) hq hq'
    rw [rnum_at, rnum_at, List.getD_eq_getElem?_getD, List.getD_eq_getElem?_getD, List.getElem?_eq_getElem hlt, List.getElem?_eq_getElem hlt'] at e
    exact nod_inj hn hlt hlt' (by simpa using e)
theorem nxB_ok {x : Ex} {k : En → Hp → Bool} (hh : nxB x k = true) : ∃ e h n, x = .nx e h n .nil ∧ k e h = true := by
  cases x with
  | nx e h n ds => cases ds with
    | nil => exact ⟨e, h, n, rfl, hh⟩
    | cons a b => cases hh
  | _ => cases hh
/-- What a function leaves. -/
def Fin (P : Program) (Fr : Fram) (fn : Func) (a : Act) (w : World) : Prop := LeavesInM (FO none) 0 P fn a.tmps (Ret fun v w2 => v = .bool true ∧ ∃ ρ h, RH P Fr ρ h w2) a.defers .returning w
/-- From here on a function's code comes to its end, and says yes. -/
def GoS (P : Program) (fn : Func) (c : Code) (e : En) (h : Hp) : Prop :=
  ∀ (Fr : Fram) (Q : Exit → Act → World → Prop) (a : Act) (w : World), (∀ a' w', Fin P Fr fn a' w' → Q .normal a' w' ∧ Q .ret a' w') → InvS P Fr fn.ntmps e h a w → c.wpIn (FO none) 0 P Q a w
variable {cal : Cal} {fn : Func} {pl : Plans}
/-- One part. -/
theorem GoS.part (hm : P.follows .mixedOrders = true) (hc : CalOk P cal) {c1 c2 : Code} {e e2 : En} {n d : Nat} {l : List Nat} {bs : List HB} (hok : (Nat.ble fn.ntmps 512 && okC P fn.ntmps pl c1) = true)
    (hh : nxB (evC (prepC P fn.ntmps pl c1) P cal e h n .nil) (subB d l e2 bs) = true) (hn : GoS P fn c2 e2 (mkH bs 0)) : GoS P fn (.seq c1 c2) e h := by
  intro Fr Q a w hQ ⟨ρ, e', ha, hE, hR⟩
  rw [Bool.and_eq_true] at hok
  obtain ⟨e1, h1, n1, hx, hk⟩ := nxB_ok hh
  refine wpIn_seq (wpIn_mono (CS_all hm hc (ble_le hok.1) c1 none e h n .nil _ Fr ρ [] e' a w (.inl rfl) hok.2 hx (fun h0 => by cases h0) ha hE hR rfl) fun xt a' w' hp => ?_)
  obtain ⟨rfl, ρ2, dks, e3, _, ha2, hE2, hR2, hD2⟩ := hp.nx
  obtain rfl : dks = [] := hD2
  obtain ⟨g1, g2⟩ := sub_sound hk hE2 hR2
  exact hn Fr Q a' w' hQ ⟨_, e3, ha2, g1, g2⟩
/-- The last part. -/
theorem GoS.last (hm : P.follows .mixedOrders = true) (hc : CalOk P cal) {c : Code} {e : En} {n : Nat} {r : RS} (hok : (Nat.ble fn.ntmps 512 && okC P fn.ntmps pl c) = true) (hr : prepRs P fn.results.toList = some r)
    (hh : yesB (leave P r (evC (prepC P fn.ntmps pl c) P cal e h n .nil)) = true) : GoS P fn c e h := by
  intro Fr Q a w hQ ⟨ρ, e', ha, hE, hR⟩
  rw [Bool.and_eq_true] at hok
  generalize hx : evC (prepC P fn.ntmps pl c) P cal e h n .nil = x at hh
  have hxn : x ≠ .no := fun h0 => by rw [h0] at hh; cases hh
  cases hy : leave P r x with
  | no => rw [hy] at hh; cases hh
  | ok v h' n' =>
  rw [hy] at hh
  have hv : v = .b true := by
    cases v <;> cases hh
    rfl
  subst hv
  refine wpIn_mono (CS_all hm hc (ble_le hok.1) c none e h n .nil x Fr ρ [] e' a w (.inl rfl) hok.2 hx hxn ha hE hR rfl) fun xt a' w' hp => ?_
  have fin : ∀ e1 h1 n1 ds1, PZ P Fr ρ fn.ntmps e1 h1 ds1 a' w' → (kill ds1 h1 fun h => evRs r P e1 h fun l => .ok (oneV l) h n1) = .ok (.b true) h' n' → Fin P Fr fn a' w' := by
    intro e1 h1 n1 ds1 hz hk
    obtain ⟨ρ2, dks, e2, hle2, ha2, hE2, hR2, hD2⟩ := hz
    unfold Fin
    rw [ha2.defers]
    refine leaves_marks dks w' ((kill_sound (K := fun w2 => resR P fn.results.toList e2 (fun vs => resV vs = .bool true ∧ ∃ ρ h, RH P Fr ρ h w2) w2) hk hD2 hR2 fun h2 w2 hk2 hR3 => ?_).mono fun w1 hw1 => ?_)
    · refine evRs_sound hr hk2 hE2 hR3 fun ρ3 l vs hle3 hR4 hl hk3 => ?_
      obtain ⟨q1, q2, _⟩ := ok_inj hk3
      have := oneV_spec hl
      rw [q1] at this
      exact ⟨this, ρ3, _, hR4⟩
    · obtain ⟨vs, g1, g2⟩ := resR_run ha2 fn.results.toList _ w1 hw1
      exact ⟨_, run_results (by simp) g1, _, rfl, g2⟩
  cases x with
  | no => exact absurd rfl hxn
  | nx e1 h1 n1 ds1 => obtain ⟨rfl, hz⟩ := hp.nx; exact (hQ a' w' (fin e1 h1 n1 ds1 hz hy)).1
  | rt e1 h1 n1 ds1 => obtain ⟨rfl, hz⟩ := hp.rt; exact (hQ a' w' (fin e1 h1 n1 ds1 hz hy)).2
  | ex id e1 h1 n1 ds1 => cases hy
/-- The whole. -/
theorem GoS.run {g : Nat} {c : Code} (hf : P.funcs[g]? = some fn) (hb : fn.body = some c) (hg : GoS P fn c (setPsV (slsN 0 fn.ntmps) .e en0) .lf) (w : World) : Calls P g #[] w (Ret fun (v : Value) (w' : World) => v = .bool true ∧ Ext w w') := by
  have hR : RH P ⟨fun r => w.heap[r]?, w⟩ (fun _ => none) .lf w := ⟨fun _ _ => rfl, fun _ hl => hl.elim, fun _ _ _ _ hl => hl.elim, fun _ _ hr => hr, fun _ _ hl => hl.elim, rfl, rfl, rfl⟩
  have hE : RE (fun _ => none) (setPsV (slsN 0 fn.ntmps) .e en0) (env0 []) := by
    have := slsN_spec (xs := []) (args := .e) fn.ntmps 0 (ρ := fun _ => none) rfl (Nat.zero_le _) RE0
    rw [env0_eq] at this
    exact this
  have key : Calls P g #[] w (Ret fun v w2 => v = .bool true ∧ ∃ ρ h, RH P ⟨fun r => w.heap[r]?, w⟩ ρ h w2) := by
    refine callsIn_FO.1 (callsIn_of_wp_marks (F := FO none) (n := 0) hf hb trivial ?_)
    refine hg ⟨fun r => w.heap[r]?, w⟩ _ _ w (fun a' w' hh => ⟨hh, hh⟩) ⟨_, env0 [], ?_, hE, hR⟩
    refine ⟨rfl, by simp, fun i => ?_⟩
    rw [env0_get, Array.getD_eq_getD_getElem?]
    simp only [List.size_toArray, Array.getElem?_append, Array.getElem?_replicate]
    simp
    split <;> rfl
  refine key.mono fun x w' ⟨y, hx, hv, ρ', h', hR'⟩ => ⟨y, hx, hv, hR'.st.1, hR'.st.2.1, hR'.st.2.2, ?_, fun b hb _ => ?_⟩
  · rcases Nat.eq_zero_or_pos w.heap.size with h0 | h0
    · omega
    · have hlt : w.heap.size - 1 < w.heap.size := by omega
      have := (Array.getElem?_eq_some_iff.1 (hR'.keep (w.heap.size - 1) _ (Array.getElem?_eq_getElem hlt))).1
      omega
  · rw [hR'.keep b _ (Array.getElem?_eq_getElem hb), Array.getElem?_eq_getElem hb]
end
end Go.Fw
