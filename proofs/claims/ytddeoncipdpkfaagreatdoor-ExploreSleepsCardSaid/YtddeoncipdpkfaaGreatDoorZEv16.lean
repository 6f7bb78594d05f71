/-
  The evaluator: regions. Own work; nothing here is trusted.
-/
import Derived.Test.YtddeoncipdpkfaaGreatDoorZEv12
import Derived.Scope
set_option linter.all false
namespace Go.Fw
/-! ### Equality -/
theorem TV_eqv : ∀ t u : Tr V, TV.eqv t u = true → t = u := by
  intro t
  induction t with
  | lf => intro u h; cases u with
    | lf => rfl
    | nd l v r => cases h
  | nd l v r hl hr => intro u h; cases u with
    | lf => cases h
    | nd l' v' r' =>
      obtain ⟨h1, h2⟩ := and_ok (show andB (V.eqs true v v') (andB (TV.eqv l l') (TV.eqv r r')) = true from h)
      obtain ⟨h2, h3⟩ := and_ok h2
      rw [(eqs_spec _ _ h1).1, hl _ h2, hr _ h3]
theorem ML_eqv : ∀ a b : ML, ML.eqv a b = true → a = b := by
  intro a
  induction a with
  | nil => intro b h; cases b with
    | nil => rfl
    | cons k v t r => cases h
  | cons k v t r ih => intro b h; cases b with
    | nil => cases h
    | cons k' v' t' r' =>
      obtain ⟨h1, h2⟩ := and_ok (show andB (V.eqs true k k') (andB (V.eqs true v v') (andB (Nat.beq t t') (ML.eqv r r'))) = true from h)
      obtain ⟨h2, h3⟩ := and_ok h2
      obtain ⟨h3, h4⟩ := and_ok h3
      rw [(eqs_spec _ _ h1).1, (eqs_spec _ _ h2).1, nb_eq h3, ih _ h4]
theorem HB_eqv (a b : HB) (h : HB.eqv a b = true) : a = b := by
  cases a with
  | z => cases b <;> first | rfl | cases h
  | x => cases b <;> first | rfl | cases h
  | df => cases b <;> first | rfl | cases h
  | c n es t =>
    cases b <;> first | cases h | skip
    rename_i n' es' t'
    obtain ⟨h1, h2⟩ := and_ok (show andB (Nat.beq n n') (andB (Nat.beq es es') (TV.eqv t t')) = true from h)
    obtain ⟨h2, h3⟩ := and_ok h2
    rw [nb_eq h1, nb_eq h2, TV_eqv _ _ h3]
  | m c l =>
    cases b <;> first | cases h | skip
    rename_i c' l'
    obtain ⟨h1, h2⟩ := and_ok (show andB (Nat.beq c c') (ML.eqv l l') = true from h)
    rw [nb_eq h1, ML_eqv _ _ h2]
  | it m c st b0 k =>
    cases b <;> first | cases h | skip
    rename_i m' c' st' b' k'
    obtain ⟨h1, h2⟩ := and_ok (show andB (Nat.beq m m') (andB (Nat.beq c c') (andB (Nat.beq st st') (andB (Nat.beq b0 b') (Nat.beq k k')))) = true from h)
    obtain ⟨h2, h3⟩ := and_ok h2
    obtain ⟨h3, h4⟩ := and_ok h3
    obtain ⟨h4, h5⟩ := and_ok h4
    rw [nb_eq h1, nb_eq h2, nb_eq h3, nb_eq h4, nb_eq h5]
  | lp st j ps e a b0 => cases h
theorem TH_eqv : ∀ t u : Tr HB, TH.eqv t u = true → t = u := by
  intro t
  induction t with
  | lf => intro u h; cases u with
    | lf => rfl
    | nd l v r => cases h
  | nd l v r hl hr => intro u h; cases u with
    | lf => cases h
    | nd l' v' r' =>
      obtain ⟨h1, h2⟩ := and_ok (show andB (HB.eqv v v') (andB (TH.eqv l l') (TH.eqv r r')) = true from h)
      obtain ⟨h2, h3⟩ := and_ok h2
      rw [HB_eqv _ _ h1, hl _ h2, hr _ h3]
theorem eq8_eq {α : Type} {f : α → α → Bool} (hf : ∀ a b, f a b = true → a = b) (a b : N8 α) (h : eq8 f a b = true) : a = b := by
  cases a with | mk x0 x1 x2 x3 x4 x5 x6 x7 =>
  cases b with | mk y0 y1 y2 y3 y4 y5 y6 y7 =>
  obtain ⟨h0, h⟩ := and_ok (show andB (f x0 y0) (andB (f x1 y1) (andB (f x2 y2) (andB (f x3 y3) (andB (f x4 y4) (andB (f x5 y5) (andB (f x6 y6) (f x7 y7))))))) = true from h)
  obtain ⟨h1, h⟩ := and_ok h
  obtain ⟨h2, h⟩ := and_ok h
  obtain ⟨h3, h⟩ := and_ok h
  obtain ⟨h4, h⟩ := and_ok h
  obtain ⟨h5, h⟩ := and_ok h
  obtain ⟨h6, h7⟩ := and_ok h
  rw [hf _ _ h0, hf _ _ h1, hf _ _ h2, hf _ _ h3, hf _ _ h4, hf _ _ h5, hf _ _ h6, hf _ _ h7]
theorem En_eqv (a b : En) (h : eq8 (eq8 (eq8 (V.eqs true))) a b = true) : a = b := eq8_eq (fun a b => eq8_eq (fun a b => eq8_eq (fun a b h => (eqs_spec a b h).1) a b) a b) a b h
theorem both_ok {a b x : RR} (h : both a b = x) (hx : x ≠ .no) : ∃ e h' n, a = .ok e h' n ∧ x = a ∧ (b = .any ∨ ∃ m, b = .ok e h' m) := by
  cases a with
  | no => exact absurd h.symm hx
  | any => exact absurd h.symm hx
  | ok e h1 n => cases b with
    | no => exact absurd h.symm hx
    | any => exact ⟨e, h1, n, rfl, h.symm, .inl rfl⟩
    | ok e' h1' n' =>
      have hq : Bool.rec (motive := fun _ => RR) .no (.ok e h1 n) (andB (Nat.beq n n') (andB (eq8 (eq8 (eq8 (V.eqs true))) e e') (TH.eqv h1 h1'))) = x := h
      cases hb : andB (Nat.beq n n') (andB (eq8 (eq8 (eq8 (V.eqs true))) e e') (TH.eqv h1 h1')) with
      | false => rw [hb] at hq; exact absurd hq.symm hx
      | true =>
        rw [hb] at hq
        obtain ⟨_, g1⟩ := and_ok hb
        obtain ⟨g1, g2⟩ := and_ok g1
        have := En_eqv _ _ g1; subst this
        have := TH_eqv _ _ g2; subst this
        exact ⟨e, h1, n, rfl, hq.symm, .inr ⟨n', rfl⟩⟩
theorem thenR_ok {a : OR} {k : V → Hp → Nat → RR} {x : RR} (h : thenR a k = x) (hx : x ≠ .no) : ∃ v h' n', a = .ok v h' n' ∧ k v h' n' = x := by
  cases a with
  | no => exact absurd h.symm hx
  | ok v h' n' => exact ⟨v, h', n', rfl, h⟩

section
variable {P : Program} {cal : Cal} {Fr : Fram} {ρ : Rn} {h : Hp} {w : World} {e : En} {e' : Env} {n : Nat} {ops : List Oper}
theorem RV_bool {v : V} {t : Bool} (h : RV ρ v (.bool t)) : v = .b t := by
  cases v with
  | b x => have h : Value.bool t = .bool x := h; injection h with h; rw [h]
  | _ => simp [RV, RP] at h
theorem recR {s y : RR} (c : Bool) : Bool.rec (motive := fun _ => RR) s y c = if c = true then y else s := by cases c <;> rfl
theorem evG_eq {o : Oper} {g : GS} (hg : prepG ops o = some g) (hE : RE ρ e e') (y s : RR) : evG g e y s = if wantB ops o e' = true then y else s := by
  unfold prepG at hg
  cases ho : o.guard with
  | none =>
    rw [ho] at hg; cases hg
    have hB : wantB ops o e' = true := by unfold wantB; rw [ho]
    rw [if_pos hB]; rfl
  | some jb =>
    obtain ⟨j, b⟩ := jb
    rw [ho] at hg
    dsimp only at hg
    cases hs : slotOf ops j with
    | none => rw [hs] at hg; cases hg
    | some s0 =>
      rw [hs] at hg
      dsimp only at hg
      have hB : wantB ops o e' = (match e' s0 with | .bool b' => b' == b | _ => false) := by simp only [wantB, ho, hs]; rfl
      cases hk : slOf s0 with
      | none => rw [hk] at hg; cases hg
      | some k =>
        rw [hk] at hg
        cases hg
        have hr := hE s0 k hk
        show (k.get e).onBR s (fun x => Bool.rec (motive := fun _ => RR) s y (eqB x b)) = _
        rcases V.onBR_inv (k.get e) s (fun x => Bool.rec (motive := fun _ => RR) s y (eqB x b)) with h0 | ⟨x, h0, h1⟩
        · by_cases hy : ∃ t, e' s0 = .bool t
          · obtain ⟨t, hy⟩ := hy
            rw [hy] at hr hB
            have hb := RV_bool hr
            rw [hb, hB]
            show Bool.rec (motive := fun _ => RR) s y (eqB t b) = _
            rw [eqB_eq]
            exact recR _
          · have hF : wantB ops o e' = false := by
              rw [hB]
              split
              · rename_i b' hb'; exact absurd ⟨b', hb'⟩ hy
              · rfl
            rw [h0, if_neg (by rw [hF]; simp)]
        · rw [h1, eqB_eq]
          have hy : e' s0 = .bool x := by rw [h0] at hr; exact hr
          rw [hy] at hB
          rw [hB]
          exact recR _

/-- Where a region of ours ends. -/
def QR (P : Program) (Fr : Fram) (ρ : Rn) (e1 : En) (h1 : Hp) : Env → World → Prop := fun e' w' => ∃ ρ', Le ρ ρ' ∧ RE ρ' e1 e' ∧ RH P Fr ρ' h1 w'
theorem QR.mono {ρ' : Rn} {e1 : En} {h1 : Hp} (hl : Le ρ ρ') {e' : Env} {w' : World} (hq : QR P Fr ρ' e1 h1 e' w') : QR P Fr ρ e1 h1 e' w' :=
  let ⟨r, a, b, c⟩ := hq; ⟨r, hl.trans a, b, c⟩

theorem keeps_sound (hc : CalOk P cal) (hE : RE ρ e e') (hR : RH P Fr ρ h w) : ∀ {is : List Nat} {ks : KL}, prepK P ops is = some ks → ∀ {k x : RR}, keeps ks P cal e h n k = x → x ≠ .no → k = x ∧ ∀ r ∈ is.map (nthO ops), keep1 P ops r e' w True := by
  intro is
  induction is with
  | nil => intro ks hk k x hh hx; cases hk; exact ⟨hh, by simp⟩
  | cons i is ih =>
    intro ks hk k x hh hx
    unfold prepK at hk
    split at hk
    · rename_i g kr d hg hkr hd hrd
      cases hk
      have hh : evG g e (thenR (evOp (prepOp P (nthO ops i)) P cal e h n) fun v _ _ => Bool.rec (motive := fun _ => RR) .no (keeps kr P cal e h n k) (V.eqs false v (d.get e))) (keeps kr P cal e h n k) = x := hh
      rw [evG_eq hg hE] at hh
      have fin : keeps kr P cal e h n k = x → keep1 P ops (nthO ops i) e' w True → k = x ∧ ∀ r ∈ (i :: is).map (nthO ops), keep1 P ops r e' w True := fun h1 h2 => by
        obtain ⟨a, b⟩ := ih hkr h1 hx
        refine ⟨a, fun r hr => ?_⟩
        rcases List.mem_cons.1 hr with rfl | hr
        · exact h2
        · exact b r hr
      by_cases hw : wantB ops (nthO ops i) e' = true
      · rw [if_pos hw] at hh
        obtain ⟨v, h1, n1, hop, hh⟩ := thenR_ok hh hx
        cases hv : V.eqs false v (d.get e) with
        | false => rw [hv] at hh; exact absurd hh.symm hx
        | true =>
          rw [hv] at hh
          refine fin hh ?_
          have hD := op_sound hc hop hE hR
          have hrs : (opK P (nthO ops i) (ev e')).reads = true := by rw [(opK_kind _ (fun _ => undef)).2]; exact hrd
          unfold keep1
          rw [hw]
          dsimp only [cond_true]
          cases hkk : opK P (nthO ops i) (ev e') <;> rw [hkk] at hrs hD <;> first | cases hrs | skip
          rename_i m
          obtain ⟨d0, hd0, hd1⟩ := Option.bind_eq_some_iff.1 hd
          rw [hd0]
          obtain ⟨y, hrun, ρ2, hle, _, hyv⟩ := (show Qop P m w (fun v' => Pst P Fr ρ v h1 v' w) from hD).ex
          obtain ⟨q1, q2⟩ := eqs_spec _ _ hv
          have := hE.mono hle d0 d hd1
          rw [← q1] at this
          have e1 := (q2 rfl ρ2).1 _ _ hyv this
          exact ⟨by rw [← e1]; exact hrun, trivial⟩
      · rw [if_neg hw] at hh
        refine fin hh ?_
        unfold keep1
        rw [Bool.not_eq_true] at hw
        rw [hw]
        trivial
    · cases hk

theorem step_sound (hc : CalOk P cal) {o : Oper} {g : GS} {d : Ds} {is : List Nat} {ks : KL} (hg : prepG ops o = some g) (hd : pdst o = some d) (hk : prepK P ops is = some ks) {ix B : Nat} {k : En → Hp → Nat → RR} {x : RR}
    (hh : stepR P cal ix g (prepOp P o) d ks k B e h n = x) (hx : x ≠ .no) (hE : RE ρ e e') (hR : RH P Fr ρ h w) {K : Env → World → Prop}
    (hK : ∀ e2 h2 n2 ρ2 e2' w2, Le ρ ρ2 → RE ρ2 e2 e2' → RH P Fr ρ2 h2 w2 → k e2 h2 n2 = x → K e2' w2) :
    Stp P ops o (fun e' w' => (w' = w ∨ ∀ r ∈ is.map (nthO ops), keep1 P ops r e' w' True) ∧ K e' w') e' w := by
  unfold stepR at hh
  rw [evG_eq hg hE] at hh
  unfold Stp
  by_cases hw : wantB ops o e' = true
  · rw [if_pos hw] at hh ⊢
    obtain ⟨v, h1, n1, hop, hh⟩ := thenR_ok hh hx
    refine (op_sound hc hop hE hR).mono fun y w' ⟨ρ2, hle, hR2, hv⟩ => ?_
    have hE2 := (hE.mono hle).pd hd hv
    obtain ⟨a, b⟩ := keeps_sound hc hE2 hR2 hk hh hx
    exact ⟨.inr b, hK _ _ _ _ _ _ hle hE2 hR2 a⟩
  · rw [if_neg hw] at hh ⊢
    exact ⟨.inl rfl, hK _ _ _ _ _ _ (Le.refl ρ) (hE.pd hd (und_spec ρ)) hR hh⟩

theorem evR_bad {B : Nat} {x : RR} (hh : evR (.q .bad .n .nil) P cal B e h n = x) (hx : x ≠ .no) : False := hx hh.symm

theorem DLs_mono {Q Q' : Env → World → Prop} (hq : ∀ e w, Q e w → Q' e w) : ∀ (l : List Oper) (e : Env) (w : World), DLs P ops l Q e w → DLs P ops l Q' e w := by
  intro l
  induction l with
  | nil => intro e w hh; exact hq e w hh
  | cons o l ih => intro e w hh; exact Stp.mono (show Stp P ops o (fun e' w' => DLs P ops l Q e' w') e w from hh) fun v w' => ih _ _
/-- In the order of the text. -/
theorem L_sound (hc : CalOk P cal) {B : Nat} {e1 : En} {h1 : Hp} {n1 : Nat} : ∀ (l : List Oper) {e : En} {h : Hp} {n : Nat} {e' : Env} {w : World} {ρ : Rn}, evR (prepL P ops l) P cal B e h n = .ok e1 h1 n1 → RE ρ e e' → RH P Fr ρ h w →
    DLs P ops l (QR P Fr ρ e1 h1) e' w := by
  intro l
  induction l with
  | nil =>
    intro e h n e' w ρ hh hE hR
    have hh : RR.ok e h n = .ok e1 h1 n1 := hh
    injection hh with a b c
    subst a; subst b
    exact ⟨ρ, Le.refl ρ, hE, hR⟩
  | cons o l ih =>
    intro e h n e' w ρ hh hE hR
    have fin : ∀ {g d}, prepG ops o = some g → pdst o = some d → stepR P cal 0 g (prepOp P o) d .nil (evR (prepL P ops l) P cal B) B e h n = .ok e1 h1 n1 → DLs P ops (o :: l) (QR P Fr ρ e1 h1) e' w := fun hg hd hst => by
      have := step_sound hc hg hd (is := []) rfl hst (fun hh => by cases hh) hE hR (K := fun e2 w2 => DLs P ops l (QR P Fr ρ e1 h1) e2 w2) fun e2 h2 n2 ρ2 e2' w2 hle hE2 hR2 hk => by
        have := ih hk hE2 hR2
        exact DLs_mono (fun _ _ hq => hq.mono hle) _ _ _ this
      exact this.mono fun v w' hh => hh.2
    unfold prepL at hh
    split at hh
    · rename_i d hg hd
      split at hh
      · rename_i x hop
        refine fin hg hd ?_
        rw [hop]
        have hh : (evq e x).fcR (fun v => evR (prepL P ops l) P cal B (pd d v e) h n) = .ok e1 h1 n1 := hh
        rw [V.fcR_eq] at hh
        show thenR ((evq e x).fc fun v => .ok v h n) _ = _
        rw [V.fc_eq]
        exact hh
      · exact fin hg hd hh
    · rename_i g d _ hg hd
      exact fin hg hd hh
    · exact (evR_bad hh (by intro hh; cases hh)).elim
theorem T_sound (hc : CalOk P cal) {al : Bool} {B : Nat} : ∀ (p : PT) {e : En} {h : Hp} {n : Nat} {e' : Env} {w : World} {ρ : Rn} {x : RR} {Q : Env → World → Prop}, evR (prepT P ops al p) P cal B e h n = x → x ≠ .no →
    (∀ e1 h1 n1, x = .ok e1 h1 n1 → ∀ e2 w2, QR P Fr ρ e1 h1 e2 w2 → Q e2 w2) → RE ρ e e' → RH P Fr ρ h w → DQ P ops p Q e' w := by
  intro p
  induction p with
  | nil =>
    intro e h n e' w ρ x Q hh hx hQ hE hR
    exact hQ e h n hh.symm _ _ ⟨ρ, Le.refl ρ, hE, hR⟩
  | stop => intro e h n e' w ρ x Q hh hx hQ hE hR; trivial
  | op i ks p ih =>
    intro e h n e' w ρ x Q hh hx hQ hE hR
    unfold prepT at hh
    split at hh
    · rename_i g d kl hg hd hk
      exact step_sound hc hg hd hk hh hx hE hR (K := DQ P ops p Q) fun e2 h2 n2 ρ2 e2' w2 hle hE2 hR2 hk2 =>
        ih hk2 hx (fun e1 h1 n1 hx1 e3 w3 hq => hQ e1 h1 n1 hx1 e3 w3 (hq.mono hle)) hE2 hR2
    · exact (evR_bad hh hx).elim
  | alt i ks p o ih ih2 =>
    intro e h n e' w ρ x Q hh hx hQ hE hR
    unfold prepT at hh
    split at hh
    · rename_i g d kl hg hd hk
      obtain ⟨ea, ha, na, g1, g2, g3⟩ := both_ok hh hx
      refine ⟨step_sound hc hg hd hk g2.symm hx hE hR (K := DQ P ops p Q) fun e2 h2 n2 ρ2 e2' w2 hle hE2 hR2 hk2 =>
        ih hk2 hx (fun e1 h1 n1 hx1 e3 w3 hq => hQ e1 h1 n1 hx1 e3 w3 (hq.mono hle)) hE2 hR2, ?_⟩
      have g4 := g2.trans g1
      rcases g3 with g3 | ⟨m, g3⟩
      · exact ih2 g3 (fun hh => by cases hh) (fun e1 h1 n1 hx1 => by cases hx1) hE hR
      · refine ih2 g3 (fun hh => by cases hh) (fun e1 h1 n1 hx1 e3 w3 hq => ?_) hE hR
        injection hx1 with a b c
        subst a; subst b
        exact hQ _ _ _ g4 e3 w3 hq
    · exact (evR_bad hh hx).elim

theorem all_dst {nt : Nat} {l : List Oper} (h2 : l.all (dstLt nt) = true) : ∀ o ∈ l, ∀ d, o.dst = some d → d < nt := fun o ho d hod => by
  have := List.all_eq_true.1 h2 o ho
  unfold dstLt at this
  rw [hod] at this
  exact Nat.blt_eq ▸ this
theorem reg_text (hc : CalOk P cal) {r : Option Nat} {ds : List Nat} {nt B id : Nat} {os : Array Oper} {e1 : En} {h1 : Hp} {n1 : Nat} {Q' : Exit → Act → World → Prop} {a : Act} (hok : os.toList.all (dstLt nt) = true)
    (hh : evR (prepL P os.toList os.toList) P cal B e h n = .ok e1 h1 n1) (ha : Agree ds nt e' a) (hE : RE ρ e e') (hR : RH P Fr ρ h w)
    (hQ : ∀ e2 a2 w2, Agree ds nt e2 a2 → QR P Fr ρ e1 h1 e2 w2 → Q' .normal a2 w2) : (Code.region id os false).wpIn (FO r) 0 P Q' a w := by
  have := wpIn_region_lit (id := id) (DLs.list (r := r) (fun e2 a2 w2 hag _ hq => hQ e2 a2 w2 hag hq) os.toList e' a w (fun o ho => ⟨ho, all_dst hok o ho⟩) ha (fun _ _ => rfl) (L_sound hc os.toList hh hE hR))
  simpa using this
theorem reg_draw (hm : P.follows .mixedOrders = true) (hc : CalOk P cal) {r : Option Nat} {ds : List Nat} {nt B id : Nat} {os : Array Oper} {p : PT} {al : Bool} {e1 : En} {h1 : Hp} {n1 : Nat} {Q' : Exit → Act → World → Prop} {a : Act}
    (hok : (os.toList.all (dstLt nt) && (clsOk os.toList (clsOf os.toList) && okT P os.toList (clsOf os.toList) false os.toList.length 0 p)) = true)
    (hh : evR (prepT P os.toList al p) P cal B e h n = .ok e1 h1 n1) (ha : Agree ds nt e' a) (hE : RE ρ e e') (hR : RH P Fr ρ h w)
    (hQ : ∀ e2 a2 w2, Agree ds nt e2 a2 → QR P Fr ρ e1 h1 e2 w2 → Q' .normal a2 w2) : (Code.region id os true).wpIn (FO r) 0 P Q' a w := by
  simp only [Bool.and_eq_true] at hok
  obtain ⟨h2, h3, h4⟩ := hok
  have hd : ∀ d ∈ wr os.toList, d < nt := fun d hd => by
    obtain ⟨o, ho, hod⟩ := List.mem_filterMap.1 hd
    exact all_dst h2 o ho d hod
  have hz : (bit 0) = fun _ => false := by funext i; simp [bit]
  have hdq := T_sound (Fr := Fr) hc p (Q := QR P Fr ρ e1 h1) hh (fun hh => by cases hh) (fun e2 h2 n2 hx e3 w3 hq => by injection hx with a b c; subst a; subst b; exact hq) hE hR.drew
  have hws := (plan_WS (Q := QR P Fr ρ e1 h1) h3 p os.toList.length 0 [] e' (drew w) (fun i o hi => by simp [bit] at hi) (by constructor <;> simp) hdq).1 h4
  rw [hz] at hws
  have := WS.region (r := r) (id := id) hm hd ha (fun e2 a2 w2 hag _ hq => hQ e2 a2 w2 hag hq) hws
  simpa using this
end
end Go.Fw
namespace Go.Fw
section
variable {P : Program} {cal : Cal} {Fr : Fram} {ρ : Rn} {h : Hp} {w : World} {e : En} {e' : Env} {n : Nat}
/-- A block that is given up, whatever the world does there. -/
theorem RH.drop {b : Nat} {q : Pl} {w' : World} (hR : RH P Fr ρ h w) (hl : live (getH h b)) (hq : ρ b = some q) (hw : ∀ r o', r ≠ q.k → w.heap[r]? = some o' → w'.heap[r]? = some o') (hst : Sm w w' := by exact ⟨rfl, rfl, rfl⟩) : RH P Fr ρ (putH h .x b) w' := by
  have key : ∀ {b'}, live (getH (putH h .x b) b') → b' ≠ b ∧ live (getH h b') ∧ getH (putH h .x b) b' = getH h b' := fun {b'} hh => by
    rw [get_putH] at hh ⊢
    split at hh
    · exact hh.elim
    · rename_i hne; rw [if_neg hne]; exact ⟨hne, hh, rfl⟩
  refine ⟨fun b' hb' => ?_, fun b' hb' => ?_, fun b1 b2 q1 q2 h1 h2 hne e1 e2 => hR.sep b1 b2 q1 q2 (key h1).2.1 (key h2).2.1 hne e1 e2, fun r o hr => ?_, fun b' q' h1 h2 => hR.off b' q' (key h1).2.1 h2, hR.st.trans hst⟩
  · rw [get_putH] at hb'
    split at hb'
    · cases hb'
    · exact hR.fresh b' hb'
  · obtain ⟨k1, k2, k3⟩ := key hb'
    rw [k3]
    obtain ⟨q', o', e1, e2, e3⟩ := hR.lv b' k2
    exact ⟨q', o', e1, hw _ _ (hR.sep b' b q' q k2 hl k1 e1 hq) e2, e3⟩
  · have : r ≠ q.k := fun hh => by rw [hh, hR.off b q hl hq] at hr; cases hr
    exact hw r o this (hR.keep r o hr)
theorem put_other {k : Nat} {o : Obj} : ∀ r o', r ≠ k → w.heap[r]? = some o' → (w.putObj k o).heap[r]? = some o' := fun r o' hr ho => by
  rw [World.putObj_heap_other hr]; exact ho

/-- The marks. -/
def DM (ρ : Rn) : NL → List Nat → Prop
  | .nil, ks => ks = []
  | .cons d r, ks => ∃ q ks', ρ d = some q ∧ ks = q.k :: ks' ∧ DM ρ r ks'
theorem DM.mono {ρ' : Rn} (hl : Le ρ ρ') : ∀ {ds : NL} {ks : List Nat}, DM ρ ds ks → DM ρ' ds ks := by
  intro ds
  induction ds with
  | nil => intro ks hh; exact hh
  | cons d r ih => intro ks ⟨q, ks', h1, h2, h3⟩; exact ⟨q, ks', hl _ _ h1, h2, ih h3⟩
/-- Where a code of ours ends. -/
def PZ (P : Program) (Fr : Fram) (ρ : Rn) (nt : Nat) (e1 : En) (h1 : Hp) (ds : NL) (a : Act) (w : World) : Prop :=
  ∃ ρ' dks e', Le ρ ρ' ∧ Agree dks nt e' a ∧ RE ρ' e1 e' ∧ RH P Fr ρ' h1 w ∧ DM ρ' ds dks
def PX (P : Program) (Fr : Fram) (ρ : Rn) (nt : Nat) : Ex → Exit → Act → World → Prop
  | .nx e1 h1 _ ds, .normal => PZ P Fr ρ nt e1 h1 ds
  | .rt e1 h1 _ ds, .ret => PZ P Fr ρ nt e1 h1 ds
  | .ex id e1 h1 _ ds, .exit k => fun a w => k = id ∧ PZ P Fr ρ nt e1 h1 ds a w
  | _, _ => fun _ _ => False
theorem PZ.mono {ρ' : Rn} {nt : Nat} {e1 : En} {h1 : Hp} {ds : NL} {a : Act} {w : World} (hl : Le ρ ρ') (hh : PZ P Fr ρ' nt e1 h1 ds a w) : PZ P Fr ρ nt e1 h1 ds a w := by
  obtain ⟨r, k, e, a1, a2⟩ := hh; exact ⟨r, k, e, hl.trans a1, a2⟩
theorem PX.mono {ρ' : Rn} {nt : Nat} {x : Ex} {xt : Exit} {a : Act} {w : World} (hl : Le ρ ρ') (hh : PX P Fr ρ' nt x xt a w) : PX P Fr ρ nt x xt a w := by
  cases x <;> cases xt <;> first | exact hh.elim | exact PZ.mono hl hh | exact ⟨hh.1, hh.2.mono hl⟩
theorem PX.nx {nt : Nat} {e1 : En} {h1 : Hp} {n1 : Nat} {ds : NL} {xt : Exit} {a : Act} {w : World} (hh : PX P Fr ρ nt (.nx e1 h1 n1 ds) xt a w) : xt = .normal ∧ PZ P Fr ρ nt e1 h1 ds a w := by
  cases xt <;> first | exact ⟨rfl, hh⟩ | exact hh.elim
theorem PX.rt {nt : Nat} {e1 : En} {h1 : Hp} {n1 : Nat} {ds : NL} {xt : Exit} {a : Act} {w : World} (hh : PX P Fr ρ nt (.rt e1 h1 n1 ds) xt a w) : xt = .ret ∧ PZ P Fr ρ nt e1 h1 ds a w := by
  cases xt <;> first | exact ⟨rfl, hh⟩ | exact hh.elim
theorem PX.ex {nt id : Nat} {e1 : En} {h1 : Hp} {n1 : Nat} {ds : NL} {xt : Exit} {a : Act} {w : World} (hh : PX P Fr ρ nt (.ex id e1 h1 n1 ds) xt a w) : xt = .exit id ∧ PZ P Fr ρ nt e1 h1 ds a w := by
  cases xt <;> first | exact hh.elim | (obtain ⟨rfl, hh⟩ := hh; exact ⟨rfl, hh⟩)

theorem loop_ghost {F : Fence} {rm : Nat} {Q : Exit → Act → World → Prop} {a : Act} {w : World} {c : Code} (I : Nat → Act → World → Prop) (n₀ : Nat) (h₀ : I n₀ a w)
    (round : ∀ n a w, I n a w → c.wpIn F rm P (Exit.then (fun a' w' => ∃ n', n' < n ∧ I n' a' w') Q) a w) : (Code.loop c).wpIn F rm P Q a w := by
  classical
  let J : Act → World → Prop := fun a' w' => ∃ m, I m a' w'
  let μ : Act → World → Nat := fun a' w' => if h : ∃ m, I m a' w' then Classical.choose (least h) else 0
  have hμ : ∀ a' w', J a' w' → I (μ a' w') a' w' ∧ ∀ k, I k a' w' → μ a' w' ≤ k := fun a' w' hj => by
    have e1 : μ a' w' = Classical.choose (least hj) := dif_pos hj
    rw [e1]
    exact Classical.choose_spec (least hj)
  refine wpIn_loop J μ ⟨n₀, h₀⟩ fun a' w' hj => ?_
  refine wpIn_mono (round _ a' w' (hμ a' w' hj).1) fun x a2 w2 hp => ?_
  cases x with
  | normal =>
    obtain ⟨m', hm', hi'⟩ := hp
    exact ⟨⟨m', hi'⟩, Nat.lt_of_le_of_lt ((hμ a2 w2 ⟨m', hi'⟩).2 m' hi') hm'⟩
  | _ => exact hp
theorem thenX_ok {xa x : Ex} {k : En → Hp → Nat → NL → Ex} (hh : thenX xa k = x) (hx : x ≠ .no) : xa ≠ .no ∧ ((∃ e1 h1 n1 ds1, xa = .nx e1 h1 n1 ds1 ∧ k e1 h1 n1 ds1 = x) ∨ (x = xa ∧ ∀ e1 h1 n1 ds1, xa ≠ .nx e1 h1 n1 ds1)) := by
  cases xa with
  | no => exact absurd hh.symm hx
  | nx e1 h1 n1 ds1 => exact ⟨(by intro hh; cases hh), .inl ⟨e1, h1, n1, ds1, rfl, hh⟩⟩
  | rt e1 h1 n1 ds1 => exact ⟨(by intro hh; cases hh), .inr ⟨hh.symm, fun _ _ _ _ hh => by cases hh⟩⟩
  | ex id e1 h1 n1 ds1 => exact ⟨(by intro hh; cases hh), .inr ⟨hh.symm, fun _ _ _ _ hh => by cases hh⟩⟩
/-- Where it goes on, and where not. -/
theorem PX.then {nt : Nat} {xa x : Ex} {xt : Exit} {a : Act} {w : World} {K : Act → World → Prop} {k : En → Hp → Nat → NL → Ex} (hp : PX P Fr ρ nt xa xt a w) (hh : (∃ e1 h1 n1 ds1, xa = .nx e1 h1 n1 ds1 ∧ k e1 h1 n1 ds1 = x) ∨ (x = xa ∧ ∀ e1 h1 n1 ds1, xa ≠ .nx e1 h1 n1 ds1))
    (hk : ∀ e1 h1 n1 ds1, k e1 h1 n1 ds1 = x → PZ P Fr ρ nt e1 h1 ds1 a w → K a w) : Exit.then K (PX P Fr ρ nt x) xt a w := by
  rcases hh with ⟨e1, h1, n1, ds1, rfl, hh⟩ | ⟨rfl, hne⟩
  · obtain ⟨rfl, hz⟩ := hp.nx
    exact hk _ _ _ _ hh hz
  · cases x with
    | no => exact hp.elim
    | nx e1 h1 n1 ds1 => exact absurd rfl (hne _ _ _ _)
    | rt e1 h1 n1 ds1 => obtain ⟨rfl, _⟩ := hp.rt; exact hp
    | ex id e1 h1 n1 ds1 => obtain ⟨rfl, _⟩ := hp.ex; exact hp

theorem rf_ok {g : Oq} {ps : PS} {A B : CC} {ds : NL} {x : Ex} (hh : evRf cal g ps A B e h n ds = x) (hx : x ≠ .no) : ∃ gf c v h' n' st j ps1 e1 a1 b1, evq e g = .f gf c ∧ getH h n = .z ∧ getH (putH h .df n) (n + 1) = .z ∧
    cal (.f gf c) (.c (.y (n + 1)) .e) (putH (putH h .df n) (.lp 0 .no ps e A B) (n + 1)) (n + 1 + 1) = .ok v h' n' ∧ getH h' (n + 1) = .lp st j ps1 e1 a1 b1 ∧ st ≠ 1 ∧ jump j e (putH h' .x (n + 1)) n' (.cons n ds) = x := by
  unfold evRf at hh
  rcases V.onFX_inv (evq e g) .no _ with h0 | ⟨gf, c, h0, h1⟩
  · exact absurd (hh.symm.trans h0) hx
  · have hh := h1.symm.trans hh
    rcases HB.onZX_inv (getH h n) .no _ with h2 | ⟨h2, h3⟩
    · exact absurd (hh.symm.trans h2) hx
    · have hh := h3.symm.trans hh
      rcases HB.onZX_inv (getH (putH h .df n) (Nat.succ n)) .no _ with h4 | ⟨h4, h5⟩
      · exact absurd (hh.symm.trans h4) hx
      · have hh := h5.symm.trans hh
        cases hc : cal (.f gf c) (.c (.y (Nat.succ n)) .e) (putH (putH h .df n) (.lp 0 .no ps e A B) (Nat.succ n)) (Nat.succ (Nat.succ n)) with
        | no => rw [hc] at hh; exact absurd hh.symm hx
        | ok v h' n' =>
          rw [hc] at hh
          rcases HB.onLX_inv (getH h' (Nat.succ n)) .no (fun st j _ _ _ _ => Bool.rec (motive := fun _ => Ex) (jump j e (putH h' .x (Nat.succ n)) n' (.cons n ds)) .no (Nat.beq st 1)) with h6 | ⟨st, j, ps1, e1, a1, b1, h6, h7⟩
          · exact absurd (hh.symm.trans h6) hx
          · have hh := h7.symm.trans hh
            cases hst : Nat.beq st 1 with
            | true => rw [hst] at hh; exact absurd hh.symm hx
            | false =>
              rw [hst] at hh
              exact ⟨gf, c, v, h', n', st, j, ps1, e1, a1, b1, h0, h2, h4, hc, h6, (fun hs => by rw [hs] at hst; cases hst), hh⟩

/-- What is said of a code. -/
def CS (P : Program) (cal : Cal) (nt : Nat) (pl : Plans) (c : Code) : Prop :=
  ∀ (r : Option Nat) (e : En) (h : Hp) (n : Nat) (ds : NL) (x : Ex) (Fr : Fram) (ρ : Rn) (dks : List Nat) (e' : Env) (a : Act) (w : World), (r = none ∨ hasRF c = false) → okC P nt pl c = true →
    evC (prepC P nt pl c) P cal e h n ds = x → x ≠ .no → Agree dks nt e' a → RE ρ e e' → RH P Fr ρ h w → DM ρ ds dks → c.wpIn (FO r) 0 P (PX P Fr ρ nt x) a w
theorem CS_rf (hc : CalOk P cal) {nt : Nat} (hnt : nt ≤ 512) {pl : Plans} {g : Operand} {ps : Array Tmp} {as bd : Code} : CS P cal nt pl (.rangeFunc g ps as bd) := by
  intro r e h n ds x Fr ρ dks e' a w hr hok hh hx ha hE hR hD
  have hr0 : r = none := hr.resolve_right (by simp [hasRF])
  subst hr0
  have hok : ((ps.toList.all (fun p => Nat.blt p nt) && (!hasRF as && !hasRF bd)) && (okC P nt pl as && okC P nt pl bd)) = true := hok
  simp only [Bool.and_eq_true, Bool.not_eq_true'] at hok
  obtain ⟨⟨hps, hA, hB⟩, hokA, hokB⟩ := hok
  have hps' : ∀ p ∈ ps.toList, p < nt := fun p hp => Nat.blt_eq ▸ List.all_eq_true.1 hps p hp
  unfold prepC at hh
  split at hh
  case h_2 => exact absurd hh.symm hx
  rename_i gq l hg hl
  obtain ⟨gf, c, v, h', n', st, j, ps1, e1, a1, b1, k1, k2, k3, k4, k5, k6, k7⟩ := rf_ok (show evRf cal gq l (prepC P nt pl as) (prepC P nt pl bd) e h n ds = x from hh) hx
  have hgv := oq_spec hE hg
  rw [k1] at hgv
  obtain ⟨ys, hys, hgv⟩ := hgv
  refine wpIn_rangeFunc fun fn _ => ?_
  let L0 : Loop := { state := .ready, pending := none, fn, tmps := a.tmps, params := ps, assign := as, body := bd, defers := w.heap.size }
  have hR1 : RH P Fr (ext ρ n ⟨w.heap.size, 0, 0, 0⟩) (putH h .df n) (w.alloc (.deferred (some []))) := hR.new k2 rfl rfl rfl
  have le1 : Le ρ (ext ρ n ⟨w.heap.size, 0, 0, 0⟩) := ext_le (hR.fresh n k2)
  have le2 : Le (ext ρ n ⟨w.heap.size, 0, 0, 0⟩) (ext (ext ρ n ⟨w.heap.size, 0, 0, 0⟩) (n + 1) ⟨w.heap.size + 1, 0, 0, 0⟩) := ext_le (hR1.fresh (n + 1) k3)
  have hR2 : RH P Fr (ext (ext ρ n ⟨w.heap.size, 0, 0, 0⟩) (n + 1) ⟨w.heap.size + 1, 0, 0, 0⟩) (putH (putH h .df n) (.lp 0 .no l e (prepC P nt pl as) (prepC P nt pl bd)) (n + 1)) ((w.alloc (.deferred (some []))).alloc (.loop L0)) :=
    hR1.new (q := ⟨w.heap.size + 1, 0, 0, 0⟩) k3 (World.size_alloc ..).symm rfl
      ⟨L0, ⟨nt, pl, e', rfl, rfl, hnt, hl, hps', rfl, rfl, hokA, hokB, hA, hB, ha.size, ha.get, hE.mono (le1.trans le2)⟩, rfl⟩
  have hcall := hc _ _ _ _ _ _ _ k4 Fr _ _ (.func (.func gf) #[] ys.toArray) [.func (.yield (w.heap.size + 1)) #[] #[]] ⟨ys, RLs.mono hys (le1.trans le2), rfl⟩ ⟨_, [], rfl, ⟨_, ext_at _ _ _, rfl⟩, rfl⟩ hR2
  rcases hcall.ex with ⟨g', first, cap, q1, hpl, q3⟩ | ⟨l2, q1, _⟩
  case inr => cases q1
  injection q1 with q1 q2 q4
  injection q1 with q1
  subst q1; subst q2; subst q4
  have hC := q3.mono (R' := rangePost (FO none) 0 P (w.heap.size + 1) (PX P Fr ρ nt x) { a with defers := [{ target := .collected w.heap.size, args := #[] }] ++ a.defers }) (fun xx w3 hx3 => ?_)
  · have hC1 := (callsIn_FO (r := none) (n := 0)).2 hC
    refine ⟨w.heap.size + 1, [{ target := .collected w.heap.size, args := #[] }], (w.alloc (.deferred (some []))).alloc (.loop L0),
      { target := .fn (.func gf) ys.toArray, args := #[.func (.yield (w.heap.size + 1)) #[] #[]] }, (w.alloc (.deferred (some []))).alloc (.loop L0), gf, #[.func (.yield (w.heap.size + 1)) #[] #[]] ++ ys.toArray,
      (w.alloc (.deferred (some []))).alloc (.loop L0), run_enterLoop_outer .., ?_, fun _ _ => trivial, ?_, FO_depth, ?_⟩
    rotate_left 2
    · simpa using hC1
    · have hg2 : a.eval g = .func (.func gf) #[] ys.toArray := by rw [ha.eval]; exact hgv
      simp only [resolve, hg2]
      simp [go_sem]
    · show (callFunc gf (#[.func (.yield (w.heap.size + 1)) #[] #[]] ++ ys.toArray)).run P _ = _
      exact run_callFunc hpl _ _
  · obtain ⟨v3, rfl, ρ3, hle3, hR3, _⟩ := hx3
    have hlive : live (getH h' (n + 1)) := by rw [k5]; trivial
    obtain ⟨q', o', r1, r2, r3⟩ := hR3.lv (n + 1) hlive
    have r4 := hle3 (n + 1) _ (ext_at _ _ _)
    rw [r4] at r1
    cases r1
    rw [k5] at r3
    obtain ⟨L1, _, rfl⟩ := r3
    have hst : stOf st ≠ .busy := by
      unfold stOf
      split
      · intro hh; cases hh
      · exact absurd rfl k6
      · intro hh; cases hh
    refine ⟨pendOf j, _, run_endLoop r2 hst, ?_⟩
    have hR4 : RH P Fr ρ3 (putH h' .x (n + 1)) (w3.putObj (w.heap.size + 1) (.loop { L1 with state := .exhausted, pending := pendOf j })) := hR3.drop hlive r4 put_other
    have hag : Agree (w.heap.size :: dks) nt e' { a with defers := [{ target := .collected w.heap.size, args := #[] }] ++ a.defers } := ⟨by rw [ha.defers]; rfl, ha.size, ha.get⟩
    have hle : Le ρ ρ3 := (le1.trans le2).trans hle3
    have hz : PZ P Fr ρ nt e (putH h' .x (n + 1)) (.cons n ds) { a with defers := [{ target := .collected w.heap.size, args := #[] }] ++ a.defers } (w3.putObj (w.heap.size + 1) (.loop { L1 with state := .exhausted, pending := pendOf j })) :=
      ⟨ρ3, _, e', hle, hag, hE.mono hle, hR4, ⟨_, dks, hle3 _ _ (le2 _ _ (ext_at _ _ _)), rfl, hD.mono hle⟩⟩
    cases j with
    | no => rw [← k7]; exact hz
    | rt => rw [← k7]; exact wpIn_ret hz
    | ex id => rw [← k7]; exact wpIn_exit ⟨rfl, hz⟩
end
end Go.Fw
namespace Go.Fw
section
variable {P : Program} {cal : Cal} {Fr : Fram} {ρ : Rn} {h : Hp} {w : World} {e : En} {e' : Env} {n : Nat}
theorem regX_ok {m : Nat} {y : RR} {ds : NL} {x : Ex} (hh : regX m y ds = x) (hx : x ≠ .no) : ∃ e1 h1 n1 n2, y = .ok e1 h1 n1 ∧ x = .nx e1 h1 n2 ds := by
  cases y with
  | no => exact absurd hh.symm hx
  | any => exact absurd hh.symm hx
  | ok e1 h1 n1 => exact ⟨e1, h1, n1, _, rfl, hh.symm⟩
theorem wpIn_scope {F : Fence} {m : Nat} {Q : Exit → Act → World → Prop} {a : Act} {c : Code} (h : c.wpIn F m P (Exit.noGoto Q) a w) : (Code.scope c).wpIn F m P Q a w := by
  intro b k cs hro hb hr
  have h0 : (lone (b.atR a (.code (.scope c) :: k)) cs w).fenced P F := fenced_calm hb hr rfl
  have s1 : step P (lone (b.atR a (.code (.scope c) :: k)) cs w) = .next (lone (b.atR a (.code c :: .inScope c :: k)) cs w) := step_lone_go (by simp [stepG, stepG.exec, Frame.atR])
  have s2 : ∀ a w, step P (lone (b.atR a (.inScope c :: k)) cs w) = .next (lone (b.atR a k) cs w) := fun a w => step_lone_go (by simp [stepG, stepG.exec, Frame.atR])
  obtain ⟨e, a₁, w₁, hq, harr⟩ := h b (.inScope c :: k) cs hro hb hr
  cases e with
  | normal => exact ⟨.normal, a₁, w₁, hq, .head h0 s1 (StepsIn.trans harr (.one (fenced_calm hb hr rfl) (s2 _ _)))⟩
  | exit id =>
    have hx : exitTo id (.inScope c :: k) = exitTo id k := by simp [exitTo]
    exact ⟨.exit id, a₁, w₁, hq, fun k' hk => .head h0 s1 (harr.1 k' (by rw [hx]; exact hk)), fun hr' hk => let ⟨k₁, h1, h2⟩ := harr.2 hr' (by rw [hx]; exact hk); ⟨k₁, h1, .head h0 s1 h2⟩⟩
  | goto l => exact hq.elim
  | ret => exact ⟨_, a₁, w₁, hq, .of_steps (.one h0 s1) harr⟩
  | panic ch => exact ⟨_, a₁, w₁, hq, .of_steps (.one h0 s1) harr⟩
  | outgrown => exact ⟨_, a₁, w₁, hq, .of_steps (.one h0 s1) harr⟩
theorem CS_all (hm : P.follows .mixedOrders = true) (hc : CalOk P cal) {nt : Nat} (hnt : nt ≤ 512) {pl : Plans} : ∀ c : Code, CS P cal nt pl c := by
  intro c
  induction c with
  | skip => intro r e h n ds x Fr ρ dks e' a w hr hok hh hx ha hE hR hD; rw [← hh]; exact wpIn_skip ⟨ρ, dks, e', Le.refl ρ, ha, hE, hR, hD⟩
  | ret => intro r e h n ds x Fr ρ dks e' a w hr hok hh hx ha hE hR hD; rw [← hh]; exact wpIn_ret ⟨ρ, dks, e', Le.refl ρ, ha, hE, hR, hD⟩
  | exit id => intro r e h n ds x Fr ρ dks e' a w hr hok hh hx ha hE hR hD; rw [← hh]; exact wpIn_exit ⟨rfl, ρ, dks, e', Le.refl ρ, ha, hE, hR, hD⟩
  | region id ops draw =>
    intro r e h n ds x Fr ρ dks e' a w hr hok hh hx ha hE hR hD
    cases draw with
    | false =>
      obtain ⟨e1, h1, n1, n2, g1, rfl⟩ := regX_ok (show regX 0 (evR (prepL P ops.toList ops.toList) P cal n e h n) ds = x from hh) hx
      exact reg_text hc hok g1 ha hE hR fun e2 a2 w2 hag ⟨ρ2, hle, hE2, hR2⟩ => ⟨ρ2, dks, e2, hle, hag, hE2, hR2, hD.mono hle⟩
    | true =>
      have hh : evC (bif (planOf ops.toList.length (pl id)).many then .reg (Nat.succ ops.toList.length) (prepT P ops.toList true (planOf ops.toList.length (pl id))) else .reg 0 (prepT P ops.toList false (planOf ops.toList.length (pl id)))) P cal e h n ds = x := hh
      cases hb : (planOf ops.toList.length (pl id)).many with
      | true =>
        rw [hb] at hh
        obtain ⟨e1, h1, n1, n2, g1, rfl⟩ := regX_ok (show regX (Nat.succ ops.toList.length) (evR (prepT P ops.toList true (planOf ops.toList.length (pl id))) P cal n e h n) ds = x from hh) hx
        exact reg_draw hm hc hok g1 ha hE hR fun e2 a2 w2 hag ⟨ρ2, hle, hE2, hR2⟩ => ⟨ρ2, dks, e2, hle, hag, hE2, hR2, hD.mono hle⟩
      | false =>
        rw [hb] at hh
        obtain ⟨e1, h1, n1, n2, g1, rfl⟩ := regX_ok (show regX 0 (evR (prepT P ops.toList false (planOf ops.toList.length (pl id))) P cal n e h n) ds = x from hh) hx
        exact reg_draw hm hc hok g1 ha hE hR fun e2 a2 w2 hag ⟨ρ2, hle, hE2, hR2⟩ => ⟨ρ2, dks, e2, hle, hag, hE2, hR2, hD.mono hle⟩
  | seq c1 c2 ih1 ih2 =>
    intro r e h n ds x Fr ρ dks e' a w hr hok hh hx ha hE hR hD
    have hr1 : r = none ∨ hasRF c1 = false := hr.imp id fun h => by have : (hasRF c1 || hasRF c2) = false := h; rw [Bool.or_eq_false_iff] at this; exact this.1
    have hr2 : r = none ∨ hasRF c2 = false := hr.imp id fun h => by have : (hasRF c1 || hasRF c2) = false := h; rw [Bool.or_eq_false_iff] at this; exact this.2
    have hok : (okC P nt pl c1 && okC P nt pl c2) = true := hok
    rw [Bool.and_eq_true] at hok
    obtain ⟨g1, g2⟩ := thenX_ok (show thenX (evC (prepC P nt pl c1) P cal e h n ds) (evC (prepC P nt pl c2) P cal) = x from hh) hx
    refine wpIn_seq (wpIn_mono (ih1 r e h n ds _ Fr ρ dks e' a w hr1 hok.1 rfl g1 ha hE hR hD) fun xt a' w' hp => ?_)
    refine hp.then g2 fun e1 h1 n1 ds1 hk hz => ?_
    obtain ⟨ρ2, dk2, e2, hle, ha2, hE2, hR2, hD2⟩ := hz
    exact wpIn_mono (ih2 r e1 h1 n1 ds1 x Fr ρ2 dk2 e2 a' w' hr2 hok.2 hk hx ha2 hE2 hR2 hD2) fun xt a2 w2 hp2 => hp2.mono hle
  | cond c c1 c2 ih1 ih2 =>
    intro r e h n ds x Fr ρ dks e' a w hr hok hh hx ha hE hR hD
    have hr1 : r = none ∨ hasRF c1 = false := hr.imp id fun h => by have : (hasRF c1 || hasRF c2) = false := h; rw [Bool.or_eq_false_iff] at this; exact this.1
    have hr2 : r = none ∨ hasRF c2 = false := hr.imp id fun h => by have : (hasRF c1 || hasRF c2) = false := h; rw [Bool.or_eq_false_iff] at this; exact this.2
    have hok : (okC P nt pl c1 && okC P nt pl c2) = true := hok
    rw [Bool.and_eq_true] at hok
    unfold prepC at hh
    split at hh
    case h_2 => exact absurd hh.symm hx
    rename_i q hq
    have hv := oq_spec hE hq
    have hh : (evq e q).onBX .no (fun t => Bool.rec (motive := fun _ => Ex) (evC (prepC P nt pl c2) P cal e h n ds) (evC (prepC P nt pl c1) P cal e h n ds) t) = x := hh
    rcases V.onBX_inv (evq e q) .no (fun t => Bool.rec (motive := fun _ => Ex) (evC (prepC P nt pl c2) P cal e h n ds) (evC (prepC P nt pl c1) P cal e h n ds) t) with h0 | ⟨t, h0, h1⟩
    · exact absurd (hh.symm.trans h0) hx
    · have hh := h1.symm.trans hh
      rw [h0] at hv
      refine wpIn_cond (t := t) (by rw [ha.eval]; exact hv) ?_
      cases t with
      | true => exact ih1 r e h n ds x Fr ρ dks e' a w hr1 hok.1 hh hx ha hE hR hD
      | false => exact ih2 r e h n ds x Fr ρ dks e' a w hr2 hok.2 hh hx ha hE hR hD
  | block id c ih =>
    intro r e h n ds x Fr ρ dks e' a w hr hok hh hx ha hE hR hD
    have hh : blockX id (evC (prepC P nt pl c) P cal e h n ds) = x := hh
    have h0 : evC (prepC P nt pl c) P cal e h n ds ≠ .no := fun h0 => by rw [h0] at hh; exact hx hh.symm
    refine wpIn_block (wpIn_mono (ih r e h n ds _ Fr ρ dks e' a w hr hok rfl h0 ha hE hR hD) fun xt a' w' hp => ?_)
    cases hxa : evC (prepC P nt pl c) P cal e h n ds with
    | no => exact absurd hxa h0
    | nx e1 h1 n1 ds1 =>
      rw [hxa] at hp hh
      obtain ⟨rfl, hz⟩ := hp.nx
      rw [← hh]; exact hz
    | rt e1 h1 n1 ds1 =>
      rw [hxa] at hp hh
      obtain ⟨rfl, hz⟩ := hp.rt
      rw [← hh]; exact hz
    | ex k e1 h1 n1 ds1 =>
      rw [hxa] at hp hh
      obtain ⟨rfl, hz⟩ := hp.ex
      have hh : Bool.rec (motive := fun _ => Ex) (.ex k e1 h1 n1 ds1) (.nx e1 h1 n1 ds1) (Nat.beq k id) = x := hh
      simp only [Exit.inBlock]
      by_cases hk : k = id
      · subst hk
        rw [beq_self] at hh
        rw [if_pos rfl, ← hh]
        exact hz
      · rw [beq_no hk] at hh
        rw [if_neg hk, ← hh]
        exact ⟨rfl, hz⟩
  | loop c ih =>
    intro r e h n ds x Fr ρ dks e' a w hr hok hh hx ha hE hR hD
    have hh : loopX 1000000 (evC (prepC P nt pl c) P cal) e h n ds = x := hh
    refine loop_ghost (fun f a w => ∃ e h n ds ρ2 dk2 e', Le ρ ρ2 ∧ loopX f (evC (prepC P nt pl c) P cal) e h n ds = x ∧ Agree dk2 nt e' a ∧ RE ρ2 e e' ∧ RH P Fr ρ2 h w ∧ DM ρ2 ds dk2) 1000000
      ⟨e, h, n, ds, ρ, dks, e', Le.refl ρ, hh, ha, hE, hR, hD⟩ ?_
    intro f a w ⟨e, h, n, ds, ρ2, dk2, e', hle, hh, ha, hE, hR, hD⟩
    cases f with
    | zero => exact absurd hh.symm hx
    | succ f =>
      obtain ⟨g1, g2⟩ := thenX_ok (show thenX (evC (prepC P nt pl c) P cal e h n ds) (loopX f (evC (prepC P nt pl c) P cal)) = x from hh) hx
      refine wpIn_mono (ih r e h n ds _ Fr ρ2 dk2 e' a w hr hok rfl g1 ha hE hR hD) fun xt a' w' hp => ?_
      refine (hp.mono hle).then g2 fun e1 h1 n1 ds1 hk hz => ?_
      obtain ⟨ρ3, dk3, e3, hle3, ha3, hE3, hR3, hD3⟩ := hz
      exact ⟨f, Nat.lt_succ_self f, e1, h1, n1, ds1, ρ3, dk3, e3, hle3, hk, ha3, hE3, hR3, hD3⟩
  | rangeFunc g ps as bd _ _ => exact CS_rf hc hnt
  | scope c ih =>
    intro r e h n ds x Fr ρ dks e' a w hr hok hh hx ha hE hR hD
    have hok : (!hasRF c && okC P nt pl c) = true := hok
    rw [Bool.and_eq_true, Bool.not_eq_true'] at hok
    refine wpIn_scope (wpIn_mono (ih r e h n ds x Fr ρ dks e' a w (.inr hok.1) hok.2 hh hx ha hE hR hD) fun xt a' w' hp => ?_)
    cases xt with
    | goto l => cases x <;> first | exact hp.elim | (obtain ⟨h0, _⟩ := hp.nx; cases h0) | (obtain ⟨h0, _⟩ := hp.rt; cases h0) | (obtain ⟨h0, _⟩ := hp.ex; cases h0)
    | _ => exact hp
  | label l => intro r e h n ds x Fr ρ dks e' a w hr hok hh hx ha hE hR hD; rw [← hh]; exact wpIn_label ⟨ρ, dks, e', Le.refl ρ, ha, hE, hR, hD⟩
  | _ => intro r e h n ds x Fr ρ dks e' a w hr hok hh hx ha hE hR hD; exact absurd hh.symm hx

/-! ### Calls -/
theorem thenO_ok {a : OR} {k : V → Hp → Nat → OR} {v : V} {h' : Hp} {n' : Nat} (hh : thenO a k = .ok v h' n') : ∃ v1 h1 n1, a = .ok v1 h1 n1 ∧ k v1 h1 n1 = .ok v h' n' := by
  cases a with
  | no => cases hh
  | ok v1 h1 n1 => exact ⟨v1, h1, n1, rfl, hh⟩
theorem evLd_same {q : Oq} {v : V} {h' : Hp} {n' : Nat} (hh : evLd e h n q = .ok v h' n') : h' = h := by
  obtain ⟨b, o, _, hh⟩ := okP hh
  obtain ⟨m, es, t, _, hh⟩ := withC_ok hh
  obtain ⟨_, hh⟩ := iffO_ok hh
  rw [V.fc_eq] at hh
  exact (ok_inj hh).2.1.symm
theorem evLda_same {q : Oq} {k : Nat} {v : V} {h' : Hp} {n' : Nat} (hh : evLda e h n k q = .ok v h' n') : h' = h := by
  obtain ⟨b, o, _, hh⟩ := okP hh
  obtain ⟨m, es, t, _, hh⟩ := withC_ok hh
  obtain ⟨_, hh⟩ := iffO_ok hh
  exact (ok_inj hh).2.1.symm
theorem evRs_sound : ∀ {rs : List ResultVar} {r : RS} {k : OK} {v : V} {h' : Hp} {n' : Nat} {ρ : Rn} {K : List Value → Prop}, prepRs P rs = some r → evRs r P e h k = .ok v h' n' → RE ρ e e' → RH P Fr ρ h w →
    (∀ ρ2 l vs, Le ρ ρ2 → RH P Fr ρ2 h w → RLs ρ2 l vs → k l = .ok v h' n' → K vs) → resR P rs e' K w := by
  intro rs
  induction rs with
  | nil => intro r k v h' n' ρ K hr hh hE hR hK; cases hr; exact hK ρ .e [] (Le.refl ρ) hR rfl hh
  | cons x rs ih =>
    intro r k v h' n' ρ K hr hh hE hR hK
    cases x with
    | tmp t =>
      unfold prepRs at hr
      split at hr
      case h_2 => cases hr
      rename_i s r2 hs hr2
      cases hr
      have hh : ((s.get e).fc fun v => evRs r2 P e h fun l => k (.c v l)) = .ok v h' n' := hh
      rw [V.fc_eq] at hh
      exact ih hr2 hh hE hR fun ρ2 l vs hle hR2 hl hk => hK ρ2 (.c (s.get e) l) _ hle hR2 ⟨_, _, rfl, (hE t s hs).mono hle, hl⟩ hk
    | cell a t =>
      unfold prepRs at hr
      split at hr
      · rename_i s ht hs
        obtain ⟨r2, hr2, rfl⟩ := Option.map_eq_some_iff.1 hr
        obtain ⟨v1, h1, n1, g1, g2⟩ := thenO_ok (show thenO (evLd e h 0 (.t s)) (fun v _ _ => evRs r2 P e h fun l => k (.c v l)) = .ok v h' n' from hh)
        obtain ⟨y, hy, ρ2, hle, hR2, hv⟩ := (s_ld (q := .t s) ht hR (hE a s hs) g1).ex
        have := evLd_same g1; subst this
        exact ⟨y, hy, ih hr2 g2 (hE.mono hle) hR2 fun ρ3 l vs hle3 hR3 hl hk => hK ρ3 (.c v1 l) _ (hle.trans hle3) hR3 ⟨_, _, rfl, hv.mono hle3, hl⟩ hk⟩
      · rename_i m s ht hs
        obtain ⟨r2, hr2, rfl⟩ := Option.map_eq_some_iff.1 hr
        obtain ⟨v1, h1, n1, g1, g2⟩ := thenO_ok (show thenO (evLda e h 0 m (.t s)) (fun v _ _ => evRs r2 P e h fun l => k (.c v l)) = .ok v h' n' from hh)
        obtain ⟨y, hy, ρ2, hle, hR2, hv⟩ := (s_lda (q := .t s) ht hR (hE a s hs) g1).ex
        have := evLda_same g1; subst this
        exact ⟨y, hy, ih hr2 g2 (hE.mono hle) hR2 fun ρ3 l vs hle3 hR3 hl hk => hK ρ3 (.c v1 l) _ (hle.trans hle3) hR3 ⟨_, _, rfl, hv.mono hle3, hl⟩ hk⟩
      · cases hr
theorem oneV_spec {l : V} {vs : List Value} (hl : RLs ρ l vs) : RV ρ (oneV l) (resV vs) := by
  cases l with
  | e => cases hl; exact ⟨[], rfl, rfl⟩
  | c x r =>
    obtain ⟨z, zs, rfl, h1, h2⟩ := hl
    cases r with
    | e => cases h2; exact h1
    | c x2 r2 =>
      obtain ⟨z2, zs2, rfl, h3, h4⟩ := h2
      exact ⟨z :: z2 :: zs2, ⟨z, _, rfl, h1, z2, _, rfl, h3, h4⟩, rfl⟩
    | _ => exact h2.elim
  | _ => exact hl.elim
theorem kill_sound {k : Hp → OR} {v : V} {h' : Hp} {n' : Nat} {K : World → Prop} : ∀ {ds : NL} {h : Hp} {w : World} {dks : List Nat}, kill ds h k = .ok v h' n' → DM ρ ds dks → RH P Fr ρ h w → (∀ h2 w2, k h2 = .ok v h' n' → RH P Fr ρ h2 w2 → K w2) → takeAll dks w K := by
  intro ds
  induction ds with
  | nil => intro h w dks hh hD hR hK; cases hD; exact hK h w hh hR
  | cons d r ih =>
    intro h w dks hh hD hR hK
    obtain ⟨q, ks', hq, rfl, hD⟩ := hD
    have hh : HB.onD (getH h d) .no (kill r (putH h .x d) k) = .ok v h' n' := hh
    rcases HB.onD_inv (getH h d) .no (kill r (putH h .x d) k) with h0 | ⟨h0, h1⟩
    · rw [h0] at hh; cases hh
    · rw [h1] at hh
      have hl : live (getH h d) := by rw [h0]; trivial
      obtain ⟨q', o, e1, e2, e3⟩ := hR.lv d hl
      rw [hq] at e1; cases e1
      rw [h0] at e3
      have e3 : o = .deferred (some []) := e3
      subst e3
      exact ⟨e2, ih hh hD (hR.drop hl hq put_other) hK⟩
theorem slsN_spec {xs : List Value} : ∀ (m k : Nat) {args : V} {e : En} {e0 : Env}, RLs ρ args xs → xs.length ≤ lenN (slsN k m) → RE ρ e e0 → RE ρ (setPsV (slsN k m) args e) (fun i => if k ≤ i ∧ i < k + xs.length then xs.getD (i - k) undef else e0 i) := by
  induction xs with
  | nil =>
    intro m k args e e0 hA hl hE
    have : args = .e := by cases args <;> first | rfl | exact hA.elim | (obtain ⟨_, _, hh, _⟩ := hA; cases hh)
    subst this
    have h1 : setPsV (slsN k m) .e e = e := by
      cases m with
      | zero => rfl
      | succ m => unfold slsN; split <;> rfl
    rw [h1]
    intro i s hs
    dsimp only
    rw [if_neg (by simp only [List.length_nil]; omega)]
    exact hE i s hs
  | cons x xs ih =>
    intro m k args e e0 hA hl hE
    have : ∃ a r, args = .c a r ∧ RV ρ a x ∧ RLs ρ r xs := by
      cases args <;> first | (cases hA; done) | exact hA.elim | skip
      rename_i a r
      obtain ⟨_, _, hh, h1, h2⟩ := hA
      cases hh; exact ⟨a, r, rfl, h1, h2⟩
    obtain ⟨a, r, rfl, hx, hr⟩ := this
    cases m with
    | zero => simp [slsN, lenN] at hl
    | succ m =>
      unfold slsN at hl ⊢
      split at hl
      · rename_i s hs
        have hl : (x :: xs).length ≤ lenN (slsN (Nat.succ k) m) + 1 := hl
        have h2 := ih m (Nat.succ k) (e := s.put a e) (e0 := upd e0 k x) hr (by simp at hl; omega) (hE.upd hs hx)
        show RE ρ (setPsV (slsN (Nat.succ k) m) r (s.put a e)) _
        intro i s2 hs2
        have h3 := h2 i s2 hs2
        dsimp only at h3 ⊢
        by_cases h4 : Nat.succ k ≤ i ∧ i < Nat.succ k + xs.length
        · rw [if_pos h4] at h3
          rw [if_pos (by simp; omega)]
          have : i - k = (i - Nat.succ k) + 1 := by omega
          rw [this]
          simpa using h3
        · rw [if_neg h4] at h3
          by_cases h5 : i = k
          · subst h5
            rw [upd_same] at h3
            rw [if_pos (by simp)]
            simpa using h3
          · rw [upd_ne _ _ h5] at h3
            rw [if_neg (by simp; omega)]
            exact h3
      · simp [lenN] at hl
theorem setPs_spec {xs : List Value} : ∀ {ps : List Nat} {pl : PS} {k : Nat} {args : V} {e : En} {e0 : Env}, slsOf ps = some pl → RLs ρ args (xs.drop k) → k + ps.length = xs.length → RE ρ e e0 → RE ρ (setPsV pl args e) (setPs xs ps k e0) := by
  intro ps
  induction ps with
  | nil => intro pl k args e e0 hp hA hl hE; cases hp; exact hE
  | cons p ps ih =>
    intro pl k args e e0 hp hA hl hE
    unfold slsOf at hp
    split at hp
    · rename_i s r hs hr
      cases hp
      have hlt : k < xs.length := by simp at hl; omega
      rw [List.drop_eq_getElem_cons hlt] at hA
      have : ∃ a r, args = .c a r ∧ RV ρ a xs[k] ∧ RLs ρ r (xs.drop (k + 1)) := by
        cases args <;> first | (cases hA; done) | exact hA.elim | skip
        rename_i a r
        obtain ⟨_, _, hh, h1, h2⟩ := hA
        cases hh; exact ⟨a, r, rfl, h1, h2⟩
      obtain ⟨a, r', rfl, hx, hr'⟩ := this
      show RE ρ (setPsV r r' (s.put a e)) (setPs xs ps (k + 1) (upd e0 p (nthV xs k)))
      refine ih hr hr' (by simp at hl; omega) (hE.upd hs ?_)
      have : nthV xs k = xs[k] := by
        clear ih hA hl hE hx hr' hr hs
        induction xs generalizing k with
        | nil => simp at hlt
        | cons v r ih2 => cases k with
          | zero => rfl
          | succ k => exact ih2 (by simpa using hlt)
      rw [this]; exact hx
    · cases hp
theorem lenN_sls : ∀ {ps : List Nat} {pl : PS}, slsOf ps = some pl → lenN pl = ps.length := by
  intro ps
  induction ps with
  | nil => intro pl hp; cases hp; rfl
  | cons p ps ih =>
    intro pl hp
    unfold slsOf at hp
    split at hp
    · rename_i s r hs hr
      cases hp
      show Nat.succ (lenN r) = _
      rw [ih hr]; rfl
    · cases hp
theorem en0_get (s : Sl) : s.get en0 = und := by
  cases s with | mk a b c => cases a <;> cases b <;> cases c <;> rfl
theorem RE0 : RE ρ en0 (fun _ => undef) := fun i s _ => by rw [en0_get]; exact und_spec ρ
end
end Go.Fw
namespace Go.Fw
section
variable {P : Program} {cal : Cal} {Fr : Fram} {ρ : Rn} {h h' : Hp} {w : World} {n n' : Nat} {v : V}
theorem lenN_slsN : ∀ (m k : Nat), lenN (slsN k m) ≤ m := by
  intro m
  induction m with
  | zero => intro k; exact Nat.le_refl 0
  | succ m ih =>
    intro k
    unfold slsN
    split
    · exact Nat.succ_le_succ (ih (Nat.succ k))
    · exact Nat.zero_le _
theorem env0_eq (xs : List Value) : (fun i => if 0 ≤ i ∧ i < 0 + xs.length then xs.getD (i - 0) undef else undef) = env0 xs := by
  funext i
  rw [env0_get]
  by_cases hi : i < xs.length
  · rw [if_pos (by omega)]; simp
  · rw [if_neg (by omega)]
    have : xs[i]? = none := by simp; omega
    rw [List.getD_eq_getElem?_getD, this]; rfl
theorem enter_sound (hm : P.follows .mixedOrders = true) (hc : CalOk P cal) {pls : Nat → Nat → PT} {g : Nat} (hok : okF P pls g = true) {args : V} {xs : List Value} (hh : enter P cal (prepF P pls g) args h n = .ok v h' n')
    (hA : RLs ρ args xs) (hR : RH P Fr ρ h w) : Plain P g ∧ Calls P g xs.toArray w (Ret (Pst P Fr ρ v h')) := by
  unfold okF at hok
  unfold prepF at hh
  cases hf : P.funcs[g]? with
  | none => rw [hf] at hok; cases hok
  | some fn =>
  rw [hf] at hok hh
  dsimp only at hok hh
  cases hb : fn.body with
  | none => rw [hb] at hok; cases hok
  | some c =>
  rw [hb] at hok hh
  dsimp only at hok hh
  simp only [Bool.and_eq_true, Bool.not_eq_true'] at hok
  obtain ⟨hname, hnt, hokc⟩ := hok
  have hnt := ble_le hnt
  refine ⟨⟨fn, hf, hname, by rw [hb]; rfl⟩, ?_⟩
  cases hr : prepRs P fn.results.toList with
  | none => rw [hr] at hh; cases hh
  | some r =>
  rw [hr] at hh
  dsimp only at hh
  obtain ⟨hle, hh⟩ := iffO_ok (show iffO (Nat.ble (lenV args) (lenN (slsN 0 fn.ntmps))) (leave P r (evC (prepC P fn.ntmps (pls g) c) P cal (setPsV (slsN 0 fn.ntmps) args en0) h n .nil)) .no = .ok v h' n' from hh)
  have hle := ble_le hle
  rw [hA.len] at hle
  have hxn := Nat.le_trans hle (lenN_slsN fn.ntmps 0)
  have hE : RE ρ (setPsV (slsN 0 fn.ntmps) args en0) (env0 xs) := by
    have := slsN_spec fn.ntmps 0 hA hle RE0
    rw [env0_eq] at this
    exact this
  refine callsIn_FO.1 (callsIn_of_wp_marks (F := FO none) (n := 0) hf hb trivial ?_)
  have ha : Agree [] fn.ntmps (env0 xs) { tmps := xs.toArray ++ Array.replicate (fn.ntmps - xs.toArray.size) undef, defers := [] } := by
    refine ⟨rfl, by simp; omega, fun i => ?_⟩
    rw [env0_get, Array.getD_eq_getD_getElem?, Array.getElem?_append]
    simp only [List.size_toArray, List.getElem?_toArray, Array.getElem?_replicate]
    by_cases hi : i < xs.length
    · rw [if_pos hi]; simp [hi]
    · rw [if_neg hi]
      have : xs[i]? = none := by simp; omega
      simp only [List.getD_eq_getElem?_getD, this, Option.getD_none]
      split <;> rfl
  generalize hx : evC (prepC P fn.ntmps (pls g) c) P cal (setPsV (slsN 0 fn.ntmps) args en0) h n .nil = x at hh
  have hxn : x ≠ .no := fun h0 => by rw [h0] at hh; cases hh
  refine wpIn_mono (CS_all hm hc hnt c none _ h n .nil x Fr ρ [] (env0 xs) _ w (.inl rfl) hokc hx hxn ha hE hR rfl) fun xt a' w' hp => ?_
  have fin : ∀ e1 h1 n1 ds1, PZ P Fr ρ fn.ntmps e1 h1 ds1 a' w' → (kill ds1 h1 fun h => evRs r P e1 h fun l => .ok (oneV l) h n1) = .ok v h' n' → LeavesInM (FO none) 0 P fn a'.tmps (Ret (Pst P Fr ρ v h')) a'.defers .returning w' := by
    intro e1 h1 n1 ds1 hz hk
    obtain ⟨ρ2, dks, e2, hle2, ha2, hE2, hR2, hD2⟩ := hz
    rw [ha2.defers]
    refine leaves_marks dks w' ((kill_sound (K := fun w2 => resR P fn.results.toList e2 (fun vs => Pst P Fr ρ v h' (resV vs) w2) w2) hk hD2 hR2 fun h2 w2 hk2 hR3 => ?_).mono fun w1 hw1 => ?_)
    · refine evRs_sound hr hk2 hE2 hR3 fun ρ3 l vs hle3 hR4 hl hk3 => ?_
      obtain ⟨q1, q2, _⟩ := ok_inj hk3
      rw [← q1, ← q2]
      exact ⟨ρ3, hle2.trans hle3, hR4, oneV_spec hl⟩
    · obtain ⟨vs, g1, g2⟩ := resR_run ha2 fn.results.toList _ w1 hw1
      exact ⟨_, run_results (by simp) g1, _, rfl, g2⟩
  cases x with
  | no => exact absurd rfl hxn
  | nx e1 h1 n1 ds1 => obtain ⟨rfl, hz⟩ := hp.nx; exact fin e1 h1 n1 ds1 hz hh
  | rt e1 h1 n1 ds1 => obtain ⟨rfl, hz⟩ := hp.rt; exact fin e1 h1 n1 ds1 hz hh
  | ex id e1 h1 n1 ds1 => cases hh

theorem thenL_ok {x : Ex} {l : Nat} {k : PS → En → CC → CC → Ex → OR} (hh : thenL x l k = .ok v h' n') :
    ∃ e1 h1 n1 ds1 j ps e2 a b, (x = .nx e1 h1 n1 ds1 ∨ x = .rt e1 h1 n1 ds1 ∨ ∃ id, x = .ex id e1 h1 n1 ds1) ∧ getH h1 l = .lp 1 j ps e2 a b ∧ k ps e2 a b x = .ok v h' n' := by
  have key : ∀ {h1 : Hp} {y : Ex}, (HB.onL (getH h1 l) .no fun st _ ps e2 a b => iffO (Nat.beq st 1) (k ps e2 a b y) .no) = .ok v h' n' → ∃ j ps e2 a b, getH h1 l = .lp 1 j ps e2 a b ∧ k ps e2 a b y = .ok v h' n' := by
    intro h1 y hh
    rcases HB.onL_inv (getH h1 l) .no (fun st _ ps e2 a b => iffO (Nat.beq st 1) (k ps e2 a b y) .no) with h0 | ⟨st, j, ps, e2, a, b, h0, h2⟩
    · rw [h0] at hh; cases hh
    · rw [h2] at hh
      obtain ⟨g1, g2⟩ := iffO_ok hh
      have := nb_eq g1; subst this
      exact ⟨j, ps, e2, a, b, h0, g2⟩
  cases x with
  | no => cases hh
  | nx e1 h1 n1 ds1 => obtain ⟨j, ps, e2, a, b, g1, g2⟩ := key hh; exact ⟨e1, h1, n1, ds1, j, ps, e2, a, b, .inl rfl, g1, g2⟩
  | rt e1 h1 n1 ds1 => obtain ⟨j, ps, e2, a, b, g1, g2⟩ := key hh; exact ⟨e1, h1, n1, ds1, j, ps, e2, a, b, .inr (.inl rfl), g1, g2⟩
  | ex id e1 h1 n1 ds1 => obtain ⟨j, ps, e2, a, b, g1, g2⟩ := key hh; exact ⟨e1, h1, n1, ds1, j, ps, e2, a, b, .inr (.inr ⟨id, rfl⟩), g1, g2⟩
theorem round_ok {l : Nat} {args : V} (hh : round P cal l args h n = .ok v h' n') : ∃ j ps e a b e1 h1 n1 ds1 j2 ps2 e2 a2 b2, getH h l = .lp 0 j ps e a b ∧ lenV args = lenN ps ∧ evC a P cal (setPsV ps args e) h n .nil = .nx e1 h1 n1 ds1 ∧
    getH h1 l = .lp 0 j2 ps2 e2 a2 b2 ∧ thenL (evC b P cal e1 (putH h1 (.lp 1 j2 ps2 e2 a2 b2) l) n1 ds1) l (shutL l) = .ok v h' n' := by
  unfold round at hh
  rcases HB.onL_inv (getH h l) .no _ with h0 | ⟨st, j, ps, e, a, b, h0, h2⟩
  · have := hh.symm.trans h0; cases this
  · have hh := h2.symm.trans hh
    obtain ⟨g1, g2⟩ := iffO_ok hh
    obtain ⟨g1, g3⟩ := and_ok g1
    have := nb_eq g1; subst this
    cases hx : evC a P cal (setPsV ps args e) h n .nil with
    | no => rw [hx] at g2; cases g2
    | rt e1 h1 n1 ds1 => rw [hx] at g2; cases g2
    | ex id e1 h1 n1 ds1 => rw [hx] at g2; cases g2
    | nx e1 h1 n1 ds1 =>
      rw [hx] at g2
      have g2 : (HB.onL (getH h1 l) .no fun st j ps e a' b' => iffO (Nat.beq st 0) (thenL (evC b P cal e1 (putH h1 (.lp 1 j ps e a' b') l) n1 ds1) l (shutL l)) .no) = .ok v h' n' := g2
      rcases HB.onL_inv (getH h1 l) .no (fun st j ps e a' b' => iffO (Nat.beq st 0) (thenL (evC b P cal e1 (putH h1 (.lp 1 j ps e a' b') l) n1 ds1) l (shutL l)) .no) with k0 | ⟨st2, j2, ps2, e2, a2, b2, k0, k2⟩
      · rw [k0] at g2; cases g2
      · rw [k2] at g2
        obtain ⟨g4, g5⟩ := iffO_ok g2
        have := nb_eq g4; subst this
        exact ⟨j, ps, e, a, b, e1, h1, n1, ds1, j2, ps2, e2, a2, b2, h0, nb_eq g3, hx, k0, g5⟩
theorem round_sound (hm : P.follows .mixedOrders = true) (hc : CalOk P cal) {l : Nat} {q : Pl} {args : V} {xs : List Value} (hh : round P cal l args h n = .ok v h' n') (hq : ρ l = some q)
    (hA : RLs ρ args xs) (hR : RH P Fr ρ h w) : YieldAt (FO none) 0 P q.k xs.toArray w (Ret (Pst P Fr ρ v h')) := by
  obtain ⟨j, ps, e, a, b, e1, h1, n1, ds1, j2, ps2, e2, a2, b2, k1, k2, k3, k4, k5⟩ := round_ok hh
  obtain ⟨q', o, r1, r2, r3⟩ := hR.lv l (by rw [k1]; trivial)
  rw [hq] at r1; cases r1
  rw [k1] at r3
  obtain ⟨L0, hL0, rfl⟩ := r3
  obtain ⟨nt, pl, e', _, _, hnt, hps, hlt, rfl, rfl, hokA, hyesB, hrA, hrB, hsz, hget, hE⟩ := hL0.ex
  have hlen : xs.length = L0.params.toList.length := by rw [← hA.len, k2, lenN_sls hps]
  refine ⟨L0.fn, _, L0.assign, L0.body, run_yield (r := { L0 with state := stOf 0, pending := pendOf j }) r2 (by simpa using hlen), roundIn_of_wpIn trivial ?_⟩
  have hag : Agree [] nt (setPs xs L0.params.toList 0 e') { tmps := (L0.params.zip xs.toArray).foldl (fun t (q : Nat × Value) => t.setIfInBounds q.1 q.2) L0.tmps, defers := [] } := by
    have h0 : Agree [] nt e' { tmps := L0.tmps, defers := [] } := ⟨rfl, hsz, hget⟩
    have := agree_params (args := xs) L0.params.toList 0 e' _ hlt h0 (by omega)
    have e1 : (L0.params.zip xs.toArray).foldl (fun t (q : Nat × Value) => t.setIfInBounds q.1 q.2) L0.tmps = (L0.params.toList.zip (xs.drop 0)).foldl (fun t (q : Nat × Value) => t.setIfInBounds q.1 q.2) L0.tmps := by
      rw [← Array.foldl_toList, Array.toList_zip]; simp
    rw [e1]; exact this
  have hE1 : RE ρ (setPsV ps args e) (setPs xs L0.params.toList 0 e') := setPs_spec hps (by simpa using hA) (by omega) hE
  refine wpIn_mono (CS_all hm hc hnt L0.assign (some q.k) _ h n .nil _ Fr ρ [] _ _ w (.inr hrA) hokA k3 (fun hh => by cases hh) hag hE1 hR rfl) fun xt a1 w1 hp => ?_
  obtain ⟨rfl, ρ2, dk2, e3, hle2, ha2, hE2, hR2, hD2⟩ := hp.nx
  obtain ⟨q', o, r4, r5, r6⟩ := hR2.lv l (by rw [k4]; trivial)
  rw [hle2 _ _ hq] at r4; cases r4
  rw [k4] at r6
  obtain ⟨L2, hL2, rfl⟩ := r6
  have hlt1 : q.k < w1.heap.size := (Array.getElem?_eq_some_iff.1 r5).1
  refine ⟨_, run_beginRound r5 rfl, ?_⟩
  have hR3 : RH P Fr ρ2 (putH h1 (.lp 1 j2 ps2 e2 a2 b2) l) (w1.putObj q.k (.loop { L2 with state := .busy, pending := pendOf j2 })) :=
    hR2.turn (by rw [k4]; trivial) (hle2 _ _ hq) (World.putObj_heap_same hlt1) ⟨L2, hL2, rfl⟩ put_other
  obtain ⟨e5, h5, n5, ds5, j5, ps5, e6, a5, b5, g1, g2, g3⟩ := thenL_ok k5
  generalize hx2 : evC (prepC P nt pl L0.body) P cal e1 (putH h1 (.lp 1 j2 ps2 e2 a2 b2) l) n1 ds1 = x2 at g1 g3
  have hxn : x2 ≠ .no := fun h0 => by rcases g1 with g1 | g1 | ⟨id, g1⟩ <;> rw [h0] at g1 <;> cases g1
  refine wpIn_mono (CS_all hm hc hnt L0.body (some q.k) e1 _ n1 ds1 x2 Fr ρ2 dk2 e3 a1 _ (.inr hrB) hyesB hx2 hxn ha2 hE2 hR3 hD2) fun xt a3 w3 hp => ?_
  have fin : PZ P Fr ρ2 nt e5 h5 ds5 a3 w3 → ∃ L3 ρ3, LpB P ρ3 ps5 e6 a5 b5 L3 ∧ Le ρ ρ3 ∧ w3.heap[q.k]? = some (.loop { L3 with state := .busy, pending := pendOf j5 }) ∧
      ∀ st j, RH P Fr ρ3 (putH h5 (.lp st j ps5 e6 a5 b5) l) (w3.putObj q.k (.loop { L3 with state := stOf st, pending := pendOf j })) := by
    intro ⟨ρ3, dk3, e7, hle3, ha3, hE3, hR4, hD3⟩
    obtain ⟨q', o, r7, r8, r9⟩ := hR4.lv l (by rw [g2]; trivial)
    have hq3 := hle3 _ _ (hle2 _ _ hq)
    rw [hq3] at r7; cases r7
    rw [g2] at r9
    obtain ⟨L3, hL3, rfl⟩ := r9
    exact ⟨L3, ρ3, hL3, hle2.trans hle3, r8, fun st j => hR4.turn (by rw [g2]; trivial) hq3 (World.putObj_heap_same (Array.getElem?_eq_some_iff.1 r8).1) ⟨L3, hL3, rfl⟩ put_other⟩
  rcases g1 with rfl | rfl | ⟨id, rfl⟩
  · obtain ⟨rfl, hz⟩ := hp.nx
    obtain ⟨L3, ρ3, _, hle, r8, hk⟩ := fin hz
    obtain ⟨q1, q2, _⟩ := ok_inj (show OR.ok (.b true) (putH h5 (.lp 0 .no ps5 e6 a5 b5) l) n5 = .ok v h' n' from g3)
    rw [← q1, ← q2]
    exact ⟨_, _, run_endRound none r8, _, rfl, ρ3, hle, hk 0 .no, rfl⟩
  · obtain ⟨rfl, hz⟩ := hp.rt
    obtain ⟨L3, ρ3, _, hle, r8, hk⟩ := fin hz
    obtain ⟨q1, q2, _⟩ := ok_inj (show OR.ok (.b false) (putH h5 (.lp 2 .rt ps5 e6 a5 b5) l) n5 = .ok v h' n' from g3)
    rw [← q1, ← q2]
    exact ⟨_, _, run_endRound (some .ret) r8, _, rfl, ρ3, hle, hk 2 .rt, rfl⟩
  · obtain ⟨rfl, hz⟩ := hp.ex
    obtain ⟨L3, ρ3, _, hle, r8, hk⟩ := fin hz
    obtain ⟨q1, q2, _⟩ := ok_inj (show OR.ok (.b false) (putH h5 (.lp 2 (.ex id) ps5 e6 a5 b5) l) n5 = .ok v h' n' from g3)
    rw [← q1, ← q2]
    exact ⟨_, _, run_endRound (some (.exit id)) r8, _, rfl, ρ3, hle, hk 2 (.ex id), rfl⟩
end

theorem evF_sound {P : Program} (hm : P.follows .mixedOrders = true) {L : List Nat} {pls : Nat → Nat → PT} (hall : List.all L (okF P pls) = true) : ∀ f, CalOk P (evF P (onlyF L (prepF P pls)) f) := by
  intro f
  induction f with
  | zero => intro c args h n v h' n' hh; cases hh
  | succ f ih =>
    intro c args h n v h' n' hh Fr ρ w x xs hx hA hR
    have hh : c.onFY .no (fun g caps => enter P (evF P (onlyF L (prepF P pls)) f) (onlyF L (prepF P pls) g) (appV args caps) h n) (fun l => round P (evF P (onlyF L (prepF P pls)) f) l args h n) = .ok v h' n' := hh
    rcases V.onFY_inv c .no (fun g caps => enter P (evF P (onlyF L (prepF P pls)) f) (onlyF L (prepF P pls) g) (appV args caps) h n) (fun l => round P (evF P (onlyF L (prepF P pls)) f) l args h n) with h0 | ⟨g, caps, h0, h1⟩ | ⟨l, h0, h1⟩
    · rw [h0] at hh; cases hh
    · rw [h1] at hh
      rw [h0] at hx
      obtain ⟨ys, hys, hx⟩ := hx
      cases hmem : memB g L with
      | false => unfold onlyF at hh; rw [hmem] at hh; cases hh
      | true =>
        have hok := List.all_eq_true.1 hall g (memB_iff.1 hmem)
        have he : onlyF L (prepF P pls) g = prepF P pls g := by unfold onlyF; rw [hmem]; rfl
        rw [he] at hh
        obtain ⟨p1, p2⟩ := enter_sound hm ih hok hh (RLs.app hA hys) hR
        exact ⟨.inl ⟨g, #[], ys.toArray, hx, p1, by simpa using p2⟩⟩
    · rw [h1] at hh
      rw [h0] at hx
      obtain ⟨q, hq, hx⟩ := hx
      exact ⟨.inr ⟨q.k, hx, round_sound hm ih hh hq hA hR⟩⟩

/-- It came to the end, and said yes. -/
noncomputable def yesB (x : OR) : Bool := OR.rec (motive := fun _ => Bool) false (fun v _ _ => V.rec (motive := fun _ => Bool) (fun b => b) (fun _ _ => false) (fun _ _ => false) false (fun _ _ => false) false (fun _ _ _ _ => false) (fun _ _ _ _ => false) false false (fun _ => false) false (fun _ _ _ => false) (fun _ => false) (fun _ _ => false) (fun _ _ => false) false (fun _ _ _ _ => false) v) x
/-- SOUND: a call without arguments that the evaluator carries out, with the answer yes. -/
theorem run_sound {P : Program} (hm : P.follows .mixedOrders = true) {L : List Nat} {pls : Nat → Nat → PT} (hall : List.all L (okF P pls) = true) {f g : Nat} (hrun : yesB (evF P (onlyF L (prepF P pls)) f (.f g .e) .e .lf 0) = true) (w : World) :
    Calls P g #[] w (Ret fun (v : Value) (w' : World) => v = .bool true ∧ Ext w w') := by
  cases hx : evF P (onlyF L (prepF P pls)) f (.f g .e) .e .lf 0 with
  | no => rw [hx] at hrun; cases hrun
  | ok v h' n' =>
    rw [hx] at hrun
    have hv : v = .b true := by
      cases v <;> cases hrun
      rfl
    subst hv
    have hR : RH P ⟨fun r => w.heap[r]?, w⟩ (fun _ => none) .lf w := ⟨fun _ _ => rfl, fun _ hl => hl.elim, fun _ _ _ _ hl => hl.elim, fun _ _ hr => hr, fun _ _ hl => hl.elim, rfl, rfl, rfl⟩
    have := evF_sound hm hall f _ _ _ _ _ _ _ hx ⟨fun r => w.heap[r]?, w⟩ (fun _ => none) w (.func (.func g) #[] #[]) [] ⟨[], rfl, rfl⟩ rfl hR
    rcases this.ex with ⟨g', first, cap, q1, _, q3⟩ | ⟨l, q1, _⟩
    case inr => cases q1
    injection q1 with q1 q2 q4
    injection q1 with q1
    subst q1; subst q2; subst q4
    have q5 : Calls P g #[] w (Ret (Pst P ⟨fun r => w.heap[r]?, w⟩ (fun _ => none) (.b true) h')) := by simpa using q3
    refine q5.mono fun x w' ⟨y, hx, ρ', _, hR', hv⟩ => ⟨y, hx, hv, hR'.st.1, hR'.st.2.1, hR'.st.2.2, ?_, fun b hb _ => ?_⟩
    · rcases Nat.eq_zero_or_pos w.heap.size with h0 | h0
      · omega
      · have hlt : w.heap.size - 1 < w.heap.size := by omega
        have := (Array.getElem?_eq_some_iff.1 (hR'.keep (w.heap.size - 1) _ (Array.getElem?_eq_getElem hlt))).1
        omega
    · rw [hR'.keep b _ (Array.getElem?_eq_getElem hb), Array.getElem?_eq_getElem hb]
end Go.Fw
