/-
  The evaluator: some functions are answered by what is proved of them. Own work; nothing here is trusted.
-/
import Derived.Test.YtddeoncipdpkfaaGreatDoorZEv17
import Derived.Test.YtddeoncipdpkfaaGreatDoorZFw33
set_option linter.all false
namespace Go.Fw
noncomputable section
/-- What answers a call in a function's stead. -/
abbrev Ov := Nat → V → Hp → Nat → OR
def evFo (P : Program) (L : List Nat) (ov : Ov) (fs : Nat → FSx) (f : Nat) : Cal :=
  Nat.rec (motive := fun _ => Cal) (fun _ _ _ _ => .no)
    (fun _ ih c args h n => c.onFY .no (fun g caps => Bool.rec (motive := fun _ => OR) (enter P ih (fs g) (appV args caps) h n) (ov g (appV args caps) h n) (memB g L)) (fun l => round P ih l args h n)) f
end
section
variable {P : Program} {Fr : Fram} {ρ : Rn} {h h' : Hp} {w : World} {v : V} {n n' : Nat}
def OvOk (P : Program) (L : List Nat) (ov : Ov) : Prop := ∀ (g : Nat) (args : V) (h : Hp) (n : Nat) (v : V) (h' : Hp) (n' : Nat), memB g L = true → ov g args h n = .ok v h' n' →
  ∀ (Fr : Fram) (ρ : Rn) (w : World) (xs : List Value), RLs ρ args xs → RH P Fr ρ h w → Plain P g ∧ Calls P g xs.toArray w (Ret (Pst P Fr ρ v h'))
theorem evFo_sound (hm : P.follows .mixedOrders = true) {L M : List Nat} {ov : Ov} {pls : Nat → Nat → PT} (hov : OvOk P M ov) (hall : List.all L (okF P pls) = true) : ∀ f, CalOk P (evFo P M ov (onlyF L (prepF P pls)) f) := by
  intro f
  induction f with
  | zero => intro c args h n v h' n' hh; cases hh
  | succ f ih =>
    intro c args h n v h' n' hh Fr ρ w x xs hx hA hR
    have hh : c.onFY .no (fun g caps => Bool.rec (motive := fun _ => OR) (enter P (evFo P M ov (onlyF L (prepF P pls)) f) (onlyF L (prepF P pls) g) (appV args caps) h n) (ov g (appV args caps) h n) (memB g M)) (fun l => round P (evFo P M ov (onlyF L (prepF P pls)) f) l args h n) = .ok v h' n' := hh
    rcases V.onFY_inv c .no (fun g caps => Bool.rec (motive := fun _ => OR) (enter P (evFo P M ov (onlyF L (prepF P pls)) f) (onlyF L (prepF P pls) g) (appV args caps) h n) (ov g (appV args caps) h n) (memB g M)) (fun l => round P (evFo P M ov (onlyF L (prepF P pls)) f) l args h n) with h0 | ⟨g, caps, h0, h1⟩ | ⟨l, h0, h1⟩
    · rw [h0] at hh; cases hh
    · rw [h1] at hh
      rw [h0] at hx
      obtain ⟨ys, hys, hx⟩ := hx
      cases ho : memB g M with
      | true =>
        rw [ho] at hh
        obtain ⟨p1, p2⟩ := hov g _ h n v h' n' ho hh Fr ρ w _ (RLs.app hA hys) hR
        exact ⟨.inl ⟨g, #[], ys.toArray, hx, p1, by simpa using p2⟩⟩
      | false =>
      rw [ho] at hh
      cases hmem : memB g L with
      | false => unfold onlyF at hh; rw [hmem] at hh; cases hh
      | true =>
        have hok := List.all_eq_true.1 hall g (memB_iff.1 hmem)
        have he : onlyF L (prepF P pls) g = prepF P pls g := by unfold onlyF; rw [hmem]; rfl
        have hh : enter P (evFo P M ov (onlyF L (prepF P pls)) f) (onlyF L (prepF P pls) g) (appV args caps) h n = .ok v h' n' := hh
        rw [he] at hh
        obtain ⟨p1, p2⟩ := enter_sound hm ih hok hh (RLs.app hA hys) hR
        exact ⟨.inl ⟨g, #[], ys.toArray, hx, p1, by simpa using p2⟩⟩
    · rw [h1] at hh
      rw [h0] at hx
      obtain ⟨q, hq, hx⟩ := hx
      exact ⟨.inr ⟨q.k, hx, round_sound hm ih hh hq hA hR⟩⟩
theorem ext_heap {w' : World} {r : Nat} {o : Obj} (e : Ext w w') (hr : w.heap[r]? = some o) : w'.heap[r]? = some o := (e.blk r (Array.getElem?_eq_some_iff.1 hr).1 fun h => h).trans hr
theorem RH.extW {w' : World} (hR : RH P Fr ρ h w) (e : Ext w w') : RH P Fr ρ h w' :=
  ⟨hR.fresh, fun b hb => let ⟨q, o, h1, h2, h3⟩ := hR.lv b hb; ⟨q, o, h1, ext_heap e h2, h3⟩, hR.sep, fun r o hr => ext_heap e (hR.keep r o hr), hR.off, hR.st.trans ⟨e.os, e.tape, e.output⟩⟩
end

/-! ### Maps of texts -/
section
variable {P : Program} {Fr : Fram} {ρ : Rn} {h h' : Hp} {w : World} {v : V} {n n' : Nat}
structure Ent where
  n : Nat
  m : Nat
  x : Int
  b : Nat
def Ent.si (p : Ent) : SI := (strOf p.n p.m, p.x)
def Ent.en (p : Ent) : MapEntry := ⟨.string (strOf p.n p.m), .int .i64 p.x, p.b⟩
def entC (b : Nat) (o : Option (List Ent)) : V → V → Option (List Ent)
  | .s n m, .i .i64 x => o.map (⟨n, m, x, b⟩ :: ·)
  | _, _ => none
theorem entC_ok {b : Nat} {o : Option (List Ent)} {k u : V} {ps : List Ent} (hh : entC b o k u = some ps) : ∃ n m x ps', k = .s n m ∧ u = .i .i64 x ∧ o = some ps' ∧ ps = ⟨n, m, x, b⟩ :: ps' := by
  unfold entC at hh
  split at hh
  · obtain ⟨ps', h5, rfl⟩ := Option.map_eq_some_iff.1 hh
    exact ⟨_, _, _, ps', rfl, rfl, h5, rfl⟩
  · cases hh
noncomputable def entL (l : ML) : Option (List Ent) := ML.rec (motive := fun _ => Option (List Ent)) (some []) (fun k v b _ ih => entC b ih k v) l
noncomputable def toML : List Ent → ML
  | [] => .nil
  | p :: r => .cons (.s p.n p.m) (.i .i64 p.x) 0 (toML r)
theorem toML_s : ∀ l : List Ent, RMs (toML l) (l.map Ent.si)
  | [] => rfl
  | p :: r => ⟨p.n, p.m, p.x, _, rfl, rfl, rfl, toML_s r⟩
theorem entL_ok : ∀ {l : ML} {es : List MapEntry} {ps : List Ent}, RM ρ l es → entL l = some ps → es = ps.map Ent.en := by
  intro l
  induction l with
  | nil => intro es ps hm hh; obtain rfl : es = [] := hm; cases hh; rfl
  | cons k u b r ih =>
    intro es ps hm hh
    obtain ⟨e, es', rfl, h1, h2, h3, h4⟩ := hm
    obtain ⟨n, m, x, ps', rfl, rfl, h5, rfl⟩ := entC_ok (show entC b (entL r) k u = some ps from hh)
    obtain rfl := ih h4 h5
    cases e
    have h1 : _ = _ := h1
    have h2 : _ = _ := h2
    dsimp only at h1 h2 h3
    subst h1 h2 h3; rfl
noncomputable def stampB (c : Nat) : List Ent → Bool
  | [] => true
  | p :: r => Nat.blt p.b c && (r.all (fun q => !Nat.beq p.b q.b && !eqS p.n p.m q.n q.m) && stampB c r)
theorem stamp_ok {c : Nat} : ∀ {l : List Ent}, stampB c l = true → (∀ p ∈ l, p.b < c) ∧ (l.map Ent.b).Nodup ∧ (l.map fun p => Value.string (strOf p.n p.m)).Nodup
  | [], _ => ⟨by simp, by simp, by simp⟩
  | p :: r, hh => by
    unfold stampB at hh
    simp only [Bool.and_eq_true, List.all_eq_true, Bool.not_eq_true'] at hh
    obtain ⟨h1, h2, h3⟩ := hh
    obtain ⟨g1, g2, g3⟩ := stamp_ok h3
    refine ⟨fun q hq => ?_, ?_, ?_⟩
    · rcases List.mem_cons.1 hq with rfl | hq
      · exact blt_lt h1
      · exact g1 q hq
    · rw [List.map_cons, List.nodup_cons]
      refine ⟨fun hm => ?_, g2⟩
      obtain ⟨q, hq, e⟩ := List.mem_map.1 hm
      have := (h2 q hq).1
      rw [e, Nat.beq_refl] at this; cases this
    · rw [List.map_cons, List.nodup_cons]
      refine ⟨fun hm => ?_, g3⟩
      obtain ⟨q, hq, e⟩ := List.mem_map.1 hm
      have := (h2 q hq).2
      rw [eqS_dec] at this
      injection e with e
      exact of_decide_eq_false this e.symm
theorem RH.mapP {b c : Nat} {l : ML} {ps : List Ent} (hR : RH P Fr ρ h w) (hb : getH h b = .m c l) (hc : c < 4294967296) (hl : entL l = some ps) (hs : stampB c ps = true) : ∃ q, ρ b = some q ∧ MapP w q.k (ps.map Ent.si) := by
  obtain ⟨q, es, h1, h2, h3⟩ := hR.map hb hc
  obtain rfl := entL_ok h3 hl
  obtain ⟨g1, g2, g3⟩ := stamp_ok hs
  refine ⟨q, h1, _, _, h2, ⟨?_, ?_, ?_⟩, ?_⟩
  · intro x hx
    obtain ⟨p, hp, rfl⟩ := List.mem_map.1 (show x ∈ ps.map Ent.en by simpa using hx)
    exact g1 p hp
  · have : ((ps.map Ent.en).map (·.born)).Nodup := by rw [List.map_map]; exact g2
    simpa using this
  · have : ((ps.map Ent.en).map (·.key)).Nodup := by rw [List.map_map]; exact g3
    simpa using this
  · simp only [List.map_map]
    exact List.Perm.refl _
/-- The texts in a row. -/
noncomputable def rowN (t : Tr V) (o l : Nat) : Option (List (Nat × Nat)) := Nat.rec (motive := fun _ => Option (List (Nat × Nat))) (some []) (fun i ih => match getV t (o + i) with | .s n m => ih.map (· ++ [(n, m)]) | _ => none) l
theorem rowN_ok {t : Tr V} {o : Nat} : ∀ {l : Nat} {ns : List (Nat × Nat)}, rowN t o l = some ns → ns.length = l ∧ ∀ i p, ns[i]? = some p → getV t (o + i) = .s p.1 p.2
  | 0, ns, hh => by cases hh; exact ⟨rfl, by simp⟩
  | l + 1, ns, hh => by
    have hh : (match getV t (o + l) with | .s n m => (rowN t o l).map (· ++ [(n, m)]) | _ => none) = some ns := hh
    split at hh
    · rename_i n m hg
      obtain ⟨ns', h5, rfl⟩ := Option.map_eq_some_iff.1 hh
      obtain ⟨g1, g2⟩ := rowN_ok h5
      refine ⟨by simp [g1], fun i p hi => ?_⟩
      rw [List.getElem?_append] at hi
      split at hi
      · exact g2 i p hi
      · rename_i hlt
        have : i = l := by
          have := (List.getElem?_eq_some_iff.1 hi).1
          simp at this; omega
        subst this
        rw [g1] at hi; simp at hi
        rw [← hi]; exact hg
    · cases hh
end
end Go.Fw
