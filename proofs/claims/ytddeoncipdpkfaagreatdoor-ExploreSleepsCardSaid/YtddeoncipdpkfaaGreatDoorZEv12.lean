/-
  The evaluator: every operation; regions. Own work; nothing here is trusted.
-/
import Derived.Test.YtddeoncipdpkfaaGreatDoorZEv11
import Derived.KernelRfl
set_option linter.all false
namespace Go.Fw
/-- What is said of a way to carry calls out. -/
def CalOk (P : Program) (cal : Cal) : Prop := ∀ (c args : V) (h : Hp) (n : Nat) (v : V) (h' : Hp) (n' : Nat), cal c args h n = .ok v h' n' →
  ∀ (Fr : Fram) (ρ : Rn) (w : World) (x : Value) (xs : List Value), RV ρ c x → RLs ρ args xs → RH P Fr ρ h w → CallV P x xs w (Pst P Fr ρ v h')
section
variable {P : Program} {cal : Cal} {Fr : Fram} {ρ : Rn} {h h' : Hp} {w : World} {v : V} {n n' : Nat} {e : En} {e' : Env}
theorem q1_ok {x : Operand} {k : Oq → OpS} (hh : evOp (q1 x k) P cal e h n = .ok v h' n') : ∃ q, oq x = some q ∧ evOp (k q) P cal e h n = .ok v h' n' := by
  unfold q1 at hh
  split at hh
  · rename_i q hq; exact ⟨q, hq, hh⟩
  · cases hh
theorem bif_ok {b : Bool} {q : OpS} (hh : evOp (bif b then q else .bad) P cal e h n = .ok v h' n') : b = true ∧ evOp q P cal e h n = .ok v h' n' := by
  cases b with
  | true => exact ⟨rfl, hh⟩
  | false => cases hh
theorem calF {f : FuncId} {xs : List Value} {K : Value → World → Prop} (hc : CallV P (.func (.func f) #[] #[]) xs w K) : CallF P f xs w K := by
  rcases hc.ex with ⟨g, first, cap, h1, h2, h3⟩ | ⟨l, h1, _⟩
  · injection h1 with a b c
    injection a with a
    subst a; subst b; subst c
    exact ⟨.inl ⟨h2, by simpa using h3⟩⟩
  · cases h1
theorem extK_spec {s : String} {e : Array Value → Sem Value} (h : extK s = some e) {fn : Func} (hn : fn.name = s) (ho : fn.origin = "") : (fn.name == "runtime.NumGoroutine") = false ∧ Extern.findNext fn = none ∧ Extern.find fn = some e := by
  unfold extK at h
  cases h1 : s == "internal/bytealg.CountString" with
  | true =>
    rw [h1] at h; cases h
    have := eq_of_beq h1; subst this
    unfold Extern.findNext Extern.find
    rw [hn, ho]
    exact ⟨by decide, by kernel_rfl, by kernel_rfl⟩
  | false =>
    rw [h1] at h
    cases h2 : s == "internal/bytealg.IndexByteString" with
    | true =>
      rw [h2] at h; cases h
      have := eq_of_beq h2; subst this
      unfold Extern.findNext Extern.find
      rw [hn, ho]
      exact ⟨by decide, by kernel_rfl, by kernel_rfl⟩
    | false =>
      rw [h2] at h
      cases h3 : s == "internal/bytealg.IndexString" with
      | true =>
        rw [h3] at h; cases h
        have := eq_of_beq h3; subst this
        unfold Extern.findNext Extern.find
        rw [hn, ho]
        exact ⟨by decide, by kernel_rfl, by kernel_rfl⟩
      | false => rw [h3] at h; cases h
theorem run_ext {P : Program} {f : Nat} {e : Array Value → Sem Value} (h : extOf P f = some e) {args : Array Value} {v : Value} {w w' : World} (hr : (e args).run P w = .ok v w') : (callFunc f args).run P w = .ok (.value v) w' := by
  unfold extOf at h
  split at h
  · cases h
  · rename_i fn hf
    cases hb : (fn.body.isNone && fn.origin == "") with
    | false => rw [hb] at h; cases h
    | true =>
      rw [hb] at h
      rw [Bool.and_eq_true] at hb
      obtain ⟨a, b, c⟩ := extK_spec h rfl (eq_of_beq hb.2)
      show (match P.funcs[f]? with | none => _ | some fn => _ : Sem Next).run P w = _
      rw [hf]
      simp only [a, hb.1, b, c]
      exact run_v hr
theorem op_sound (hc : CalOk P cal) {o : Oper} (hev : evOp (prepOp P o) P cal e h n = .ok v h' n') (hE : RE ρ e e') (hR : RH P Fr ρ h w) : DOp P (opK P o (ev e')) (Pst P Fr ρ v h') w := by
  unfold prepOp at hev
  unfold opK
  cases hop : o.op <;> rw [hop] at hev <;> dsimp only at hev ⊢ <;> try (exact (show False by cases hev).elim)
  case move x =>
    obtain ⟨q, hq, hev⟩ := q1_ok hev
    have hev : (evq e q).fc (fun v => .ok v h n) = .ok v h' n' := hev
    rw [V.fc_eq] at hev
    obtain ⟨rfl, rfl, _⟩ := ok_inj hev
    exact hR.post (oq_spec hE hq)
  case assign x =>
    obtain ⟨q, hq, hev⟩ := q1_ok hev
    have hev : (evq e q).fc (fun v => .ok v h n) = .ok v h' n' := hev
    rw [V.fc_eq] at hev
    obtain ⟨rfl, rfl, _⟩ := ok_inj hev
    exact hR.post (oq_spec hE hq)
  case pick c a b =>
    obtain ⟨q1, hq1, hev⟩ := q1_ok hev
    obtain ⟨q2, hq2, hev⟩ := q1_ok hev
    obtain ⟨q3, hq3, hev⟩ := q1_ok hev
    exact s_pick hR (oq_spec hE hq1) (oq_spec hE hq2) (oq_spec hE hq3) hev
  case alloc t =>
    split at hev
    · rename_i z hz; exact s_alloc hz hR hev
    · cases hev
  case box t x =>
    obtain ⟨q, hq, hev⟩ := q1_ok hev
    exact s_box hR (oq_spec hE hq) hev
  case build t ps =>
    split at hev
    · rename_i fs z l hu hz hl
      obtain ⟨hf, hev⟩ := bif_ok hev
      exact s_buildS hu hz hl hf hR hE hev
    · rename_i k E z l hu hz
      split at hev
      · rename_i l2 hl
        obtain ⟨hf, hev⟩ := bif_ok hev
        exact s_buildA hu hz hl hf hR hE hev
      · cases hev
    · cases hev
  case buildSlice t k ps =>
    split at hev
    · rename_i E es by' k2 hf
      split at hev
      · rename_i z l hz hl
        obtain ⟨hb, hev⟩ := bif_ok hev
        simp only [Bool.and_eq_true] at hb
        obtain ⟨b1, b2, b3⟩ := hb
        have b1 := nb_eq b1
        subst b1
        exact s_bsl hf hz hl (ble_le b2) (ble_le b3) hR hE hev
      · cases hev
    · cases hev
  case insert t m k x =>
    obtain ⟨q1, hq1, hev⟩ := q1_ok hev
    obtain ⟨q2, hq2, hev⟩ := q1_ok hev
    obtain ⟨q3, hq3, hev⟩ := q1_ok hev
    split at hev
    · rename_i kt et hu
      split at hev
      · rename_i kk hk; exact s_mup (s := false) (d := .int kk) hu hk trivial hR (oq_spec hE hq1) (oq_spec hE hq2) (oq_spec hE hq3) hev
      · rename_i hk; exact s_mup (s := true) (d := .string) hu hk trivial hR (oq_spec hE hq1) (oq_spec hE hq2) (oq_spec hE hq3) hev
      · cases hev
    · cases hev
  case load t a =>
    split at hev
    · rename_i ht
      obtain ⟨q, hq, hev⟩ := q1_ok hev
      exact s_ld ht hR (oq_spec hE hq) hev
    · rename_i k ht
      obtain ⟨q, hq, hev⟩ := q1_ok hev
      exact s_lda ht hR (oq_spec hE hq) hev
    · cases hev
  case store t a x =>
    obtain ⟨q1, hq1, hev⟩ := q1_ok hev
    obtain ⟨q2, hq2, hev⟩ := q1_ok hev
    split at hev
    · rename_i ag k ht; exact s_st ht hR (oq_spec hE hq1) (oq_spec hE hq2) hev
    · cases hev
  case nilCheck x =>
    obtain ⟨q, hq, hev⟩ := q1_ok hev
    exact s_nil hR (oq_spec hE hq) hev
  case binOp op t x y u =>
    obtain ⟨q1, hq1, hev⟩ := q1_ok hev
    obtain ⟨q2, hq2, hev⟩ := q1_ok hev
    obtain ⟨z, g1, g2, g3⟩ := s_bin (oq_spec hE hq1) (oq_spec hE hq2) hev
    subst g3
    split
    · exact qopP (run_of_pr g1 w) hR g2
    · exact popP g1 hR g2
  case unOp op t x =>
    obtain ⟨q, hq, hev⟩ := q1_ok hev
    cases op with
    | not => exact s_not hR (oq_spec hE hq) hev
    | _ => exact s_gen (n := n) hR (oq_spec hE hq) hev
  case convert s d x =>
    obtain ⟨q, hq, hev⟩ := q1_ok hev
    by_cases h0 : convK P s d = 0
    · rw [h0] at hev ⊢
      exact s_gen hR (oq_spec hE hq) hev
    · rw [show Nat.beq (convK P s d) 0 = false from Bool.eq_false_iff.2 fun hh => h0 (nb_eq hh)] at hev
      dsimp only [cond_false] at hev
      split at hev
      · rename_i E h1 h2
        split at hev
        · rename_i k h3 h4
          have : convK P s d = 2 := by unfold convK; rw [h2]
          rw [this]
          exact s_toB (by' := 0) h1 h2 h3 hR (oq_spec hE hq) hev
        · cases hev
      · cases hev
  case makeFunc fn first cap =>
    split at hev
    · rename_i g l hf hl
      have e1 : first.toList = [] := hf
      rw [e1]
      exact s_mkf hR (olq_spec hE hl) hev
    · cases hev
  case makeMap t r =>
    cases r with
    | none => exact s_mkm hR hev
    | some _ => cases hev
  case makeSlice t l c =>
    obtain ⟨q1, hq1, hev⟩ := q1_ok hev
    obtain ⟨q2, hq2, hev⟩ := q1_ok hev
    split at hev
    · rename_i E es by' k hf
      split at hev
      · rename_i z hz
        obtain ⟨hb, hev⟩ := bif_ok hev
        simp only [Bool.and_eq_true] at hb
        obtain ⟨b1, b2, b3⟩ := hb
        have b1 := nb_eq b1
        subst b1
        exact s_mks hf hz (ble_le b2) (ble_le b3) hR (oq_spec hE hq1) (oq_spec hE hq2) hev
      · cases hev
    · cases hev
  case slice t x lo hi mx =>
    obtain ⟨q1, hq1, hev⟩ := q1_ok hev
    split at hev
    · rename_i l u m hl hu hm
      split at hev
      · rename_i hT
        cases mx with
        | none => exact s_cut hT hR hE (oq_spec hE hq1) hl hu hev
        | some _ => cases hev
      · rename_i E hT
        obtain ⟨hb, hev⟩ := bif_ok hev
        simp only [Bool.and_eq_true] at hb
        exact s_slc hT rfl (ble_le hb.1) hR hE (oq_spec hE hq1) hl hu hm hb.2 hev
      · cases hev
    · cases hev
  case fieldAddr s x f =>
    obtain ⟨q1, hq1, hev⟩ := q1_ok hev
    split at hev
    · rename_i off ht; exact s_fa ht hR (oq_spec hE hq1) hev
    · cases hev
  case field t x f =>
    obtain ⟨q1, hq1, hev⟩ := q1_ok hev
    split at hev
    · rename_i fs hu
      split at hev
      · rename_i fd hf
        split at hev
        · rename_i m ht; exact s_fld hu hf ht hR (oq_spec hE hq1) hev
        · rename_i m ht; exact s_flda hu hf ht hR (oq_spec hE hq1) hev
        · cases hev
      · cases hev
    · cases hev
  case indexAddr t x i =>
    obtain ⟨q1, hq1, hev⟩ := q1_ok hev
    obtain ⟨q2, hq2, hev⟩ := q1_ok hev
    split at hev
    · rename_i E hu
      obtain ⟨hb, hev⟩ := bif_ok hev
      exact s_ia hu rfl (ble_le hb) hR (oq_spec hE hq1) (oq_spec hE hq2) hev
    · rename_i k E hu
      obtain ⟨hb, hev⟩ := bif_ok hev
      exact s_iaa hu rfl (ble_le hb) hR (oq_spec hE hq1) (oq_spec hE hq2) hev
    · cases hev
  case index t x i =>
    obtain ⟨q1, hq1, hev⟩ := q1_ok hev
    obtain ⟨q2, hq2, hev⟩ := q1_ok hev
    split at hev
    · rename_i hu; exact s_idx hu hR (oq_spec hE hq1) (oq_spec hE hq2) hev
    · rename_i k E hu
      split at hev
      · rename_i es ht; exact s_idxa hu ht hR (oq_spec hE hq1) (oq_spec hE hq2) hev
      · rename_i es ht; exact s_idxg hu ht hR (oq_spec hE hq1) (oq_spec hE hq2) hev
      · cases hev
    · cases hev
  case lookup t x i ok =>
    obtain ⟨q1, hq1, hev⟩ := q1_ok hev
    obtain ⟨q2, hq2, hev⟩ := q1_ok hev
    split at hev
    · rename_i kt et hu
      split at hev
      · rename_i z kk hz hk; exact s_look (s := false) (d := .int kk) hu hk trivial hz hR (oq_spec hE hq1) (oq_spec hE hq2) hev
      · rename_i z hz hk; exact s_look (s := true) (d := .string) hu hk trivial hz hR (oq_spec hE hq1) (oq_spec hE hq2) hev
      · cases hev
    · cases hev
  case mapUpdate t m k x =>
    obtain ⟨q1, hq1, hev⟩ := q1_ok hev
    obtain ⟨q2, hq2, hev⟩ := q1_ok hev
    obtain ⟨q3, hq3, hev⟩ := q1_ok hev
    split at hev
    · rename_i kt et hu
      split at hev
      · rename_i kk hk; exact s_mup (s := false) (d := .int kk) hu hk trivial hR (oq_spec hE hq1) (oq_spec hE hq2) (oq_spec hE hq3) hev
      · rename_i hk; exact s_mup (s := true) (d := .string) hu hk trivial hR (oq_spec hE hq1) (oq_spec hE hq2) (oq_spec hE hq3) hev
      · cases hev
    · cases hev
  case range t x =>
    obtain ⟨q1, hq1, hev⟩ := q1_ok hev
    split at hev
    · rename_i kt et hu; exact s_rng hu hR (oq_spec hE hq1) hev
    · cases hev
  case next x s =>
    obtain ⟨q1, hq1, hev⟩ := q1_ok hev
    cases s with
    | true => cases hev
    | false => exact s_nxt hR (oq_spec hE hq1) hev
  case entry x =>
    obtain ⟨q1, hq1, hev⟩ := q1_ok hev
    exact s_ent hR (oq_spec hE hq1) hev
  case extract x i =>
    obtain ⟨q1, hq1, hev⟩ := q1_ok hev
    exact s_ext hR (oq_spec hE hq1) hev
  case call c =>
    split at hev
    · rename_i f hf
      split at hev
      · rename_i l hl
        rw [hf]
        split at hev
        · rename_i g hg
          obtain ⟨y, h1, h2⟩ := (s_genl hR (olq_spec hE hl) hev).ex
          exact ⟨.inr ⟨y, w, run_ext hg (run_of_pr h1 w), h2⟩⟩
        · exact calF (hc _ _ _ _ _ _ _ hev Fr ρ w _ _ ⟨[], rfl, rfl⟩ (olq_spec hE hl) hR)
      · cases hev
    · rename_i x hnf hf
      obtain ⟨q1, hq1, hev⟩ := q1_ok hev
      split at hev
      · rename_i l hl
        rw [hf]
        have := hc _ _ _ _ _ _ _ hev Fr ρ w _ _ (oq_spec hE hq1) (olq_spec hE hl) hR
        cases x <;> first | exact this | exact absurd rfl (hnf _)
      · cases hev
    · cases hev
    · rename_i b hf
      rw [hf]
      dsimp only
      split at hev
      · -- len
        rename_i t x ht hx
        obtain ⟨q1, hq1, hev⟩ := q1_ok hev
        have e1 : c.argTypes = #[t] := by rw [← Array.toArray_toList (xs := c.argTypes), ht]
        rw [hx, e1]
        show DOp P (if isMap P t = true then _ else _) _ w
        split at hev
        · rename_i hu
          rw [if_neg (by unfold isMap; rw [hu]; simp)]
          exact s_lenS hu hR (oq_spec hE hq1) hev
        · rename_i E hu
          rw [if_neg (by unfold isMap; rw [hu]; simp)]
          split at hev
          · rename_i r hf
            obtain ⟨E', m, by', z⟩ := r
            exact s_lenL hf hR (oq_spec hE hq1) hev
          · cases hev
        · rename_i kt et hu
          rw [if_pos (by unfold isMap; rw [hu])]
          exact s_lenM hu hR (oq_spec hE hq1) hev
        · cases hev
      · -- cap
        rename_i t x ht hx
        obtain ⟨q1, hq1, hev⟩ := q1_ok hev
        have e1 : c.argTypes = #[t] := by rw [← Array.toArray_toList (xs := c.argTypes), ht]
        rw [hx, e1]
        split at hev
        · rename_i r hf
          obtain ⟨E', m, by', z⟩ := r
          exact s_cap hf hR (oq_spec hE hq1) hev
        · cases hev
      · -- min
        split at hev
        · rename_i l hl; exact s_genl hR (olq_spec hE hl) hev
        · cases hev
      · -- max
        split at hev
        · rename_i l hl; exact s_genl hR (olq_spec hE hl) hev
        · cases hev
      · -- append
        rename_i t u x y ht hx
        obtain ⟨q1, hq1, hev⟩ := q1_ok hev
        obtain ⟨q2, hq2, hev⟩ := q1_ok hev
        have e1 : c.argTypes = #[t, u] := by rw [← Array.toArray_toList (xs := c.argTypes), ht]
        rw [hx, e1]
        split at hev
        · rename_i E es by' k hf
          obtain ⟨hb, hev⟩ := bif_ok hev
          simp only [Bool.and_eq_true] at hb
          obtain ⟨b1, b2, b3⟩ := hb
          have b1 := nb_eq b1
          subst b1
          split at hev
          · rename_i e2 he; exact s_app hf (ble_le b2) (ble_le b3) (.inl ⟨e2, he⟩) hR (oq_spec hE hq1) (oq_spec hE hq2) hev
          · rename_i he; exact s_app hf (ble_le b2) (ble_le b3) (.inr he) hR (oq_spec hE hq1) (oq_spec hE hq2) hev
          · rename_i kn he
            split at hev
            · rename_i z hz; exact s_apz hf hz (ble_le b2) (ble_le b3) he hR (oq_spec hE hq1) (oq_spec hE hq2) hev
            · cases hev
          · cases hev
        · cases hev
      · -- copy
        rename_i t u x y ht hx
        obtain ⟨q1, hq1, hev⟩ := q1_ok hev
        obtain ⟨q2, hq2, hev⟩ := q1_ok hev
        have e1 : c.argTypes = #[t, u] := by rw [← Array.toArray_toList (xs := c.argTypes), ht]
        rw [hx, e1]
        split at hev
        · rename_i E es by' k hf
          obtain ⟨hb, hev⟩ := bif_ok hev
          exact s_cpy hf hR (oq_spec hE hq1) (oq_spec hE hq2) hev
        · cases hev
      · -- delete
        rename_i t u x y ht hx
        obtain ⟨q1, hq1, hev⟩ := q1_ok hev
        obtain ⟨q2, hq2, hev⟩ := q1_ok hev
        have e1 : c.argTypes = #[t, u] := by rw [← Array.toArray_toList (xs := c.argTypes), ht]
        rw [hx, e1]
        split at hev
        · rename_i kt et hu
          split at hev
          · rename_i kk hk; exact s_del (s := false) (d := .int kk) hu hk trivial hR (oq_spec hE hq1) (oq_spec hE hq2) hev
          · rename_i hk; exact s_del (s := true) (d := .string) hu hk trivial hR (oq_spec hE hq1) (oq_spec hE hq2) hev
          · cases hev
        · cases hev
      · -- clear
        rename_i t x ht hx
        obtain ⟨q1, hq1, hev⟩ := q1_ok hev
        have e1 : c.argTypes = #[t] := by rw [← Array.toArray_toList (xs := c.argTypes), ht]
        rw [hx, e1]
        split at hev
        · rename_i E es by' k hf
          split at hev
          · rename_i z hz
            obtain ⟨hb, hev⟩ := bif_ok hev
            have hk : k = es := by
              obtain ⟨hu, inf, hi, hsz, _, hzz⟩ := slFact_spec hf
              obtain ⟨hc', _⟩ := iffO_ok (show iffO (Nat.beq (lenV z) es) _ .no = .ok v h' n' from hev)
              have hc' := nb_eq hc'
              obtain ⟨zv, hzf, _, z2, _⟩ := pr_zero (ρ := ρ) hz
              unfold zeroFact at hzf
              rw [hi] at hzf
              simp only [Option.map_some, Option.some.injEq] at hzf
              rw [hzf] at hzz
              have : zv.cells.size = k := by simpa using hzz
              rw [← this, ← hc', z2.len, Array.length_toList]
            subst hk
            exact s_clr hf hz (ble_le hb) hR (oq_spec hE hq1) hev
          · cases hev
        · cases hev
      · cases hev
end
end Go.Fw
