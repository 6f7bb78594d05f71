/-
  Regions that draw their order: one order serves for all, if what is read early is kept. Own work; nothing here is trusted.
-/
import Derived.Test.YtddeoncipdpkfaaGreatDoorZFw1
set_option linter.all false
namespace Go.Fw

/-! ### The static side -/

def pre (o : Oper) : List Nat := (o.after.toList.filter fun e => Region.binds .any e).map (·.on)
def slotOf (ops : List Oper) (j : Nat) : Option Nat := (ops[j]?).bind (·.dst)
def looks (ops : List Oper) (o : Oper) : List Nat :=
  (o.op.operands.toList.filterMap fun | .tmp t => some t | _ => none) ++ (match o.guard with | some (j, _) => (slotOf ops j).toList | none => [])

def wantB (ops : List Oper) (o : Oper) (e : Env) : Bool :=
  match o.guard with
  | none => true
  | some (j, b) => match slotOf ops j with
    | none => false
    | some s => match e s with
      | .bool b' => b' == b
      | _ => false

theorem wanted_eq {ds : List Nat} {n : Nat} {e : Env} {a : Act} (h : Agree ds n e a) (ops : List Oper) (o : Oper) : Region.wanted o (yielded ops.toArray a.tmps) = wantB ops o e := by
  unfold Region.wanted wantB
  cases o.guard with
  | none => rfl
  | some g =>
    obtain ⟨j, b⟩ := g
    simp only [yielded, slotOf, List.getElem?_toArray]
    cases (ops[j]?).bind (·.dst) with
    | none => simp
    | some s =>
      have hg := h.get s
      simp only [Option.bind_some]
      rw [← hg, Array.getD_eq_getD_getElem?]
      cases a.tmps[s]? with
      | none => simp [undef]
      | some v => cases v <;> simp

theorem opK_congr {P : Program} {o : Oper} {ρ ρ' : Operand → Value} (h : ∀ x ∈ o.op.operands, ρ x = ρ' x) : opK P o ρ = opK P o ρ' := by
  unfold opK
  cases hop : o.op <;> rw [hop] at h <;> simp only [Op.operands] at h <;> dsimp only
  case call c =>
    have ha : ∀ x ∈ c.args, ρ x = ρ' x := fun x hx => h x (by simp [Call.operands, hx])
    have hm : c.args.toList.map ρ = c.args.toList.map ρ' := List.map_congr_left fun x hx => ha x (by simpa using hx)
    rw [hm]
    cases hc : c.callee with
    | value x =>
      have hx : ρ x = ρ' x := h x (by simp [Call.operands, hc])
      cases x <;> simp only [hx]
    | _ => rfl
  case build t ps =>
    have hm : (ps.toList.map fun q => (q.1, ρ q.2)) = ps.toList.map fun q => (q.1, ρ' q.2) :=
      List.map_congr_left fun q hq => by rw [h q.2 (by simp; exact ⟨q.1, by simpa using hq⟩)]
    simp only [hm]
  case buildSlice t n ps =>
    have hm : (ps.toList.map fun q => (q.1, ρ q.2)) = ps.toList.map fun q => (q.1, ρ' q.2) :=
      List.map_congr_left fun q hq => by rw [h q.2 (by simp; exact ⟨q.1, by simpa using hq⟩)]
    simp only [hm]
  case makeFunc fn f c =>
    have h1 : f.toList.map ρ = f.toList.map ρ' := List.map_congr_left fun x hx => h x (by simp at hx ⊢; exact .inl hx)
    have h2 : c.toList.map ρ = c.toList.map ρ' := List.map_congr_left fun x hx => h x (by simp at hx ⊢; exact .inr hx)
    simp only [h1, h2]
  case makeMap t r =>
    have : r.map ρ = r.map ρ' := by cases r with | none => rfl | some x => simp [h x (by simp)]
    simp only [this]
  case slice t x lo hi mx =>
    have h0 : ρ x = ρ' x := h x (by simp)
    have h1 : lo.map ρ = lo.map ρ' := by cases lo with | none => rfl | some y => simp [h y (by simp)]
    have h2 : hi.map ρ = hi.map ρ' := by cases hi with | none => rfl | some y => simp [h y (by simp)]
    have h3 : mx.map ρ = mx.map ρ' := by cases mx with | none => rfl | some y => simp [h y (by simp)]
    simp only [h0, h1, h2, h3]
  case load t x => rw [h x (by simp)]
  case store t x y => rw [h x (by simp), h y (by simp)]
  case pick c x y => rw [h x (by simp), h y (by simp), h c (by simp)]
  case binOp op t x y u => rw [h x (by simp), h y (by simp)]
  case insert t m k x => rw [h m (by simp), h k (by simp), h x (by simp)]
  case mapUpdate t m k x => rw [h m (by simp), h k (by simp), h x (by simp)]
  case entryStore t m k x => rw [h m (by simp), h k (by simp), h x (by simp)]
  case mapEntry t m k => rw [h m (by simp), h k (by simp)]
  case lookup t m k ok => rw [h m (by simp), h k (by simp)]
  case indexAddr t m k => rw [h m (by simp), h k (by simp)]
  case index t m k => rw [h m (by simp), h k (by simp)]
  case makeSlice t m k => rw [h m (by simp), h k (by simp)]
  all_goals first | rfl | (rename_i x; rw [h x (by simp)]) | (rename_i x _; rw [h x (by simp)]) | (rename_i x _ _; rw [h x (by simp)]) | (rename_i x _ _ _; rw [h x (by simp)])

theorem ev_upd {e : Env} {d : Nat} {v : Value} {x : Operand} (h : x ≠ .tmp d) : ev (upd e d v) x = ev e x := by
  cases x <;> simp only [ev]
  case tmp t => exact upd_ne _ _ fun hh => h (by rw [hh])

theorem opK_upd {P : Program} {ops : List Oper} {o : Oper} {e : Env} {d : Option Nat} {v : Value} (h : ∀ k, d = some k → k ∉ looks ops o) :
    opK P o (ev (updO e d v)) = opK P o (ev e) := by
  cases d with
  | none => rfl
  | some d =>
    refine opK_congr fun x hx => ev_upd fun hxd => h d rfl ?_
    subst hxd
    exact List.mem_append_left _ (List.mem_filterMap.2 ⟨.tmp d, by simpa using hx, rfl⟩)

theorem wantB_upd {ops : List Oper} {o : Oper} {e : Env} {d : Option Nat} {v : Value} (h : ∀ k, d = some k → k ∉ looks ops o) :
    wantB ops o (updO e d v) = wantB ops o e := by
  cases d with
  | none => rfl
  | some d =>
    have h := h d rfl
    unfold wantB
    unfold looks at h
    cases hg : o.guard with
    | none => rfl
    | some g =>
      obtain ⟨j, b⟩ := g
      rw [hg] at h
      dsimp only at h ⊢
      cases hs : slotOf ops j with
      | none => rfl
      | some s =>
        rw [hs] at h
        have : s ≠ d := fun hh => h (by simp [hh])
        simp only [updO, upd_ne _ _ this]

/-- x's value and y's have nothing to do with one another. -/
def Apart (ops : List Oper) (x y : Oper) : Prop :=
  (∀ d, x.dst = some d → d ∉ looks ops y ∧ y.dst ≠ some d) ∧ (∀ d, y.dst = some d → d ∉ looks ops x)

theorem updO_comm {e : Env} {d d' : Option Nat} {v v' : Value} (h : ∀ k, d = some k → d' ≠ some k) : updO (updO e d v) d' v' = updO (updO e d' v') d v := by
  cases d with
  | none => rfl
  | some d => cases d' with
    | none => rfl
    | some d' => exact upd_comm _ _ _ fun hh => h d rfl (by rw [hh])

/-! ### Orders -/

/-- One operation, at the environment. -/
def Stp (P : Program) (ops : List Oper) (o : Oper) (K : Env → World → Prop) (e : Env) (w : World) : Prop :=
  if wantB ops o e = true then DOp P (opK P o (ev e)) (fun v w' => K (updO e o.dst v) w') w else K (updO e o.dst undef) w

theorem Stp.mono {P : Program} {ops : List Oper} {o : Oper} {K K' : Env → World → Prop} {e : Env} {w : World} (h : Stp P ops o K e w)
    (hk : ∀ v w', K (updO e o.dst v) w' → K' (updO e o.dst v) w') : Stp P ops o K' e w := by
  unfold Stp at *
  split
  · rename_i hw; rw [if_pos hw] at h; exact h.mono fun v w' => hk v w'
  · rename_i hw; rw [if_neg hw] at h; exact hk _ _ h

def Rdy (ops : List Oper) (L : Nat → Bool) (i : Nat) : Prop := L i = false ∧ ∃ o, ops[i]? = some o ∧ ∀ p ∈ pre o, L p = true
def setL (L : Nat → Bool) (i : Nat) : Nat → Bool := fun k => if k = i then true else L k
def Down (ops : List Oper) (L : Nat → Bool) : Prop := ∀ i o, L i = true → ops[i]? = some o → ∀ p ∈ pre o, L p = true

theorem setL_same (L : Nat → Bool) (i : Nat) : setL L i i = true := by simp [setL]
theorem setL_ne (L : Nat → Bool) {i k : Nat} (h : k ≠ i) : setL L i k = L k := by simp [setL, h]
theorem setL_of (L : Nat → Bool) (i : Nat) {k : Nat} (h : L k = true) : setL L i k = true := by unfold setL; split <;> simp [h]
theorem setL_comm (L : Nat → Bool) (i j : Nat) : setL (setL L i) j = setL (setL L j) i := by
  funext k; unfold setL; split <;> split <;> rfl

theorem Down.set {ops : List Oper} {L : Nat → Bool} {i : Nat} (h : Down ops L) (hr : Rdy ops L i) : Down ops (setL L i) := by
  intro k o hk ho p hp
  by_cases e : k = i
  · subst e
    obtain ⟨_, o', ho', hall⟩ := hr
    rw [ho] at ho'; cases ho'
    exact setL_of _ _ (hall p hp)
  · rw [setL_ne _ e] at hk
    exact setL_of _ _ (h k o hk ho p hp)

theorem Rdy.set {ops : List Oper} {L : Nat → Bool} {i j : Nat} (h : Rdy ops L j) (hne : j ≠ i) : Rdy ops (setL L i) j :=
  ⟨by rw [setL_ne _ hne]; exact h.1, let ⟨o, ho, hall⟩ := h.2; ⟨o, ho, fun p hp => setL_of _ _ (hall p hp)⟩⟩

/-- j waits for i, by some way. -/
inductive Dep (ops : List Oper) : Nat → Nat → Prop
  | one {j i : Nat} {o : Oper} (h : ops[j]? = some o) (hp : i ∈ pre o) : Dep ops j i
  | more {j p i : Nat} {o : Oper} (h : ops[j]? = some o) (hp : p ∈ pre o) (hd : Dep ops p i) : Dep ops j i

theorem Dep.listed {ops : List Oper} {L : Nat → Bool} (hL : Down ops L) {j i : Nat} (h : Dep ops j i) : (∀ o, ops[j]? = some o → ∀ p ∈ pre o, L p = true) → L i = true := by
  induction h with
  | one h hp => intro hall; exact hall _ h _ hp
  | more h hp hd ih => intro hall; exact ih fun o ho q hq => hL _ o (hall _ h _ hp) ho q hq

theorem Dep.listed_of_rdy {ops : List Oper} {L : Nat → Bool} (hL : Down ops L) {j i : Nat} (h : Dep ops j i) (hr : Rdy ops L j) : L i = true :=
  h.listed hL fun o ho p hp => by obtain ⟨_, o', ho', hall⟩ := hr; rw [ho] at ho'; cases ho'; exact hall p hp

/-- Whatever order is picked from here on; behind each operation j what S says of it holds. -/
def WS (P : Program) (ops : List Oper) (Q : Env → World → Prop) (S : Nat → World → Prop) : Nat → (Nat → Bool) → Env → World → Prop
  | 0, L, e, w => (∀ i, ¬ Rdy ops L i) ∧ Q e w
  | f + 1, L, e, w => ((∀ i, ¬ Rdy ops L i) → Q e w) ∧
      ∀ i o, ops[i]? = some o → Rdy ops L i → Stp P ops o (fun e' w' => (w' = w ∨ S i w') ∧ WS P ops Q S f (setL L i) e' w') e w

theorem WS.weaken {P : Program} {ops : List Oper} {Q : Env → World → Prop} {S S' : Nat → World → Prop} (h : ∀ i w, S i w → S' i w) :
    ∀ (f : Nat) (_L : Nat → Bool) (_e : Env) (_w : World), WS P ops Q S f _L _e _w → WS P ops Q S' f _L _e _w
  | 0, _, _, _, hh => hh
  | f + 1, L, e, w, hh => ⟨hh.1, fun i o ho hr => (hh.2 i o ho hr).mono fun _ _ ⟨h1, h2⟩ => ⟨h1.imp id (h _ _), WS.weaken h f _ _ _ h2⟩⟩

/-- A quiet operation that may come up now may be taken first. -/
theorem WS.first {P : Program} {ops : List Oper} {Q : Env → World → Prop} {S : Nat → World → Prop} {i : Nat} {oi : Oper} {X : OpK} {b : Bool} {v : Value}
    (hi : ops[i]? = some oi) (hn : b = false → v = undef) :
    ∀ (f : Nat) (L : Nat → Bool) (e : Env) (w : World), Down ops L → Rdy ops L i →
      (∀ j oj, ops[j]? = some oj → j ≠ i → L j = false → i ∉ pre oj → Apart ops oi oj) →
      opK P oi (ev e) = X → wantB ops oi e = b → (b = true → X.has P w v) →
      WS P ops Q (fun j w' => S j w' ∧ (Dep ops j i ∨ (b = true → X.has P w' v))) f (setL L i) (updO e oi.dst v) w → WS P ops Q S (f + 1) L e w := by
  have done : ∀ (K : Env → World → Prop) (e : Env) (w : World), opK P oi (ev e) = X → wantB ops oi e = b → (b = true → X.has P w v) → K (updO e oi.dst v) w → Stp P ops oi K e w := by
    intro K e w hX hb hy hk
    unfold Stp
    rw [hb]
    cases b with
    | true => rw [if_pos rfl, hX]; exact DOp.of_has (hy rfl) hk
    | false => rw [if_neg (by simp)]; rw [← hn rfl]; exact hk
  have sub : ∀ {f : Nat} {L : Nat → Bool} {e : Env} {w : World}, WS P ops Q (fun j w' => S j w' ∧ (Dep ops j i ∨ (b = true → X.has P w' v))) f L e w → WS P ops Q S f L e w :=
    fun h => WS.weaken (fun _ _ h => h.1) _ _ _ _ h
  intro f
  induction f with
  | zero =>
    intro L e w hL hr hfree hX hb hy H
    refine ⟨fun h => absurd hr (h i), fun j oj hoj hj => ?_⟩
    by_cases hji : j = i
    · subst hji
      rw [hi] at hoj; cases hoj
      exact done _ _ _ hX hb hy ⟨.inl rfl, sub H⟩
    · exact absurd (hj.set hji) (H.1 j)
  | succ f ih =>
    intro L e w hL hr hfree hX hb hy H
    refine ⟨fun h => absurd hr (h i), fun j oj hoj hj => ?_⟩
    by_cases hji : j = i
    · subst hji
      rw [hi] at hoj; cases hoj
      exact done _ _ _ hX hb hy ⟨.inl rfl, sub H⟩
    · have hno : i ∉ pre oj := fun hp => by
        obtain ⟨_, o', ho', hall⟩ := hj.2.elim fun o' h => (⟨trivial, o', h.1, h.2⟩ : True ∧ ∃ o', ops[j]? = some o' ∧ ∀ p ∈ pre o', L p = true)
        rw [hoj] at ho'; cases ho'
        have := hall i hp
        rw [hr.1] at this; cases this
      have hap := hfree j oj hoj hji hj.1 hno
      have hdep : ¬ Dep ops j i := fun hd => by
        have := hd.listed_of_rdy hL hj
        rw [hr.1] at this; cases this
      have h1 := H.2 j oj hoj (hj.set hji)
      have rdi : ∀ k, oi.dst = some k → k ∉ looks ops oj := fun k hk => (hap.1 k hk).1
      have rdj : ∀ k, oj.dst = some k → k ∉ looks ops oi := fun k hk => hap.2 k hk
      have dd : ∀ k, oi.dst = some k → oj.dst ≠ some k := fun k hk => (hap.1 k hk).2
      -- what comes behind j, i not yet taken
      have cont : ∀ (u : Value) (w' : World), (w' = w ∨ (S j w' ∧ (Dep ops j i ∨ (b = true → X.has P w' v)))) →
          WS P ops Q (fun j w' => S j w' ∧ (Dep ops j i ∨ (b = true → X.has P w' v))) f (setL (setL L i) j) (updO (updO e oi.dst v) oj.dst u) w' →
          (w' = w ∨ S j w') ∧ WS P ops Q S (f + 1) (setL L j) (updO e oj.dst u) w' := by
        intro u w' hw hWS
        refine ⟨hw.imp id fun h => h.1, ?_⟩
        refine ih (setL L j) (updO e oj.dst u) w' (hL.set hj) (hr.set (Ne.symm hji)) ?_ ?_ ?_ ?_ ?_
        · intro k ok hk hki hun hnk
          refine hfree k ok hk hki ?_ hnk
          by_cases hkj : k = j
          · subst hkj; exact hj.1
          · rwa [setL_ne _ hkj] at hun
        · rw [opK_upd rdj]; exact hX
        · rw [wantB_upd rdj]; exact hb
        · intro hbt
          rcases hw with rfl | ⟨_, h | h⟩
          · exact hy hbt
          · exact absurd h hdep
          · exact h hbt
        · rw [setL_comm, updO_comm fun k hk => by intro hh; exact dd k hh hk]
          exact hWS
      unfold Stp at h1 ⊢
      rw [wantB_upd rdi] at h1
      split
      · rename_i hw
        rw [if_pos hw, opK_upd rdi] at h1
        exact h1.mono fun u w' hh => cont u w' hh.1 hh.2
      · rename_i hw
        rw [if_neg hw] at h1
        exact cont undef w h1.1 h1.2

/-- What the operations write. -/
def wr (ops : List Oper) : List Nat := ops.filterMap (·.dst)
theorem mem_wr {ops : List Oper} {i : Nat} {o : Oper} {d : Nat} (h : ops[i]? = some o) (hd : o.dst = some d) : d ∈ wr ops :=
  List.mem_filterMap.2 ⟨o, List.mem_of_getElem? h, hd⟩

theorem frame_updO {e e0 : Env} {ops : List Oper} {i : Nat} {o : Oper} (h : ∀ k, k ∉ wr ops → e k = e0 k) (ho : ops[i]? = some o) (v : Value) :
    ∀ k, k ∉ wr ops → updO e o.dst v k = e0 k := by
  intro k hk
  cases hd : o.dst with
  | none => exact h k hk
  | some d =>
    have : k ≠ d := fun hh => hk (by rw [hh]; exact mem_wr ho hd)
    simp only [updO, upd_ne _ _ this]
    exact h k hk

theorem Stp.wpOp {r : Option Nat} {ds : List Nat} {P : Program} {n : Nat} {ops : List Oper} {i : Nat} {o : Oper} {K : Env → World → Prop} {K' : Act → World → Prop} {Q' : Exit → Act → World → Prop} {e : Env} {a : Act} {w : World}
    (ho : ops[i]? = some o) (hd : ∀ k, o.dst = some k → k < n) (ha : Agree ds n e a) (h : Stp P ops o K e w)
    (hk : ∀ v a' w', Agree ds n (updO e o.dst v) a' → K (updO e o.dst v) w' → K' a' w') : wpOpIn (FO r) 0 P ops.toArray Q' i K' a w := by
  unfold Go.wpOpIn
  simp only [List.getElem?_toArray, ho]
  rw [wanted_eq ha]
  unfold Stp at h
  split
  · rename_i hw
    rw [if_pos hw] at h
    exact DOp.wp ha h fun v w' hv => hk v _ _ (ha.put hd v) hv
  · rename_i hw
    rw [if_neg hw] at h
    exact ⟨FO_about, hk undef _ _ (ha.put hd undef) h⟩

theorem WS.any {r : Option Nat} {ds : List Nat} {P : Program} {n : Nat} {ops : List Oper} {Q : Env → World → Prop} {Q' : Exit → Act → World → Prop} {S : Nat → World → Prop} {e0 : Env}
    (hd : ∀ d ∈ wr ops, d < n) (hQ : ∀ e a w, Agree ds n e a → (∀ k, k ∉ wr ops → e k = e0 k) → Q e w → Q' .normal a w) :
    ∀ (f : Nat) (L : Nat → Bool) (listed : Array Bool) (e : Env) (a : Act) (w : World), Agree ds n e a → (∀ k, k ∉ wr ops → e k = e0 k) → listed.size = ops.length →
      (∀ i, listed.getD i false = L i) → WS P ops Q S f L e w → wpAnyIn (FO r) 0 P .any ops.toArray Q' f listed a w := by
  have rdy : ∀ (L : Nat → Bool) (listed : Array Bool) (_ : listed.size = ops.length) (_ : ∀ i, listed.getD i false = L i) (i : Nat),
      i ∈ Region.ready .any ops.toArray listed ↔ Rdy ops L i := by
    intro L listed hsz hl i
    rw [mem_ready]
    have getT : ∀ o, ops[i]? = some o → listed.getD i true = L i := fun o ho => by
      have hi : i < listed.size := by rw [hsz]; exact (List.getElem?_eq_some_iff.1 ho).1
      rw [← hl i]
      simp [hi]
    unfold Rdy pre
    constructor
    · rintro ⟨h1, o, ho, h2⟩
      have ho' : ops[i]? = some o := by simpa using ho
      refine ⟨by rw [← getT o ho']; exact h1, o, ho', fun p hp => ?_⟩
      simp only [List.mem_map, List.mem_filter] at hp
      obtain ⟨x, ⟨hx, hb⟩, rfl⟩ := hp
      rw [← hl]; exact h2 x (by simpa using hx) hb
    · rintro ⟨h1, o, ho, h2⟩
      refine ⟨by rw [getT o ho]; exact h1, o, by simpa using ho, fun x hx hb => ?_⟩
      rw [hl]
      exact h2 x.on (by simp only [List.mem_map, List.mem_filter]; exact ⟨x, ⟨by simpa using hx, hb⟩, rfl⟩)
  intro f
  induction f with
  | zero =>
    intro L listed e a w ha hfr hsz hl h
    refine ⟨?_, hQ e a w ha hfr h.2⟩
    cases hr : Region.ready .any ops.toArray listed with
    | nil => rfl
    | cons i r => exact absurd ((rdy L listed hsz hl i).1 (by rw [hr]; exact List.mem_cons_self)) (h.1 i)
  | succ f ih =>
    intro L listed e a w ha hfr hsz hl h
    refine ⟨fun hn => hQ e a w ha hfr (h.1 fun i hi => ?_), fun i hi => ?_⟩
    · have := (rdy L listed hsz hl i).2 hi
      rw [hn] at this; cases this
    · have hr := (rdy L listed hsz hl i).1 hi
      obtain ⟨o, ho, _⟩ := hr.2
      refine Stp.wpOp ho (fun k hk => hd k (mem_wr ho hk)) ha (h.2 i o ho hr) fun v a' w' ha' hh => ?_
      refine ih (setL L i) _ _ a' w' ha' (frame_updO hfr ho v) (by simpa using hsz) (fun k => ?_) hh.2
      have hlt : i < listed.size := by rw [hsz]; exact (List.getElem?_eq_some_iff.1 ho).1
      have hlk := hl k
      simp only [Array.getD_eq_getD_getElem?] at hlk ⊢
      by_cases e : k = i
      · subst e; rw [Array.getElem?_setIfInBounds_self_of_lt hlt, setL_same]; rfl
      · rw [Array.getElem?_setIfInBounds_ne (Ne.symm e), setL_ne _ e]; exact hlk

/-- SOUND: a region that draws. -/
theorem WS.region {r : Option Nat} {ds : List Nat} {P : Program} {n : Nat} {id : Nat} {ops : List Oper} {Q : Env → World → Prop} {Q' : Exit → Act → World → Prop} {S : Nat → World → Prop} {e : Env} {a : Act} {w : World}
    (hm : P.follows .mixedOrders = true) (hd : ∀ d ∈ wr ops, d < n) (ha : Agree ds n e a)
    (hQ : ∀ e' a w, Agree ds n e' a → (∀ k, k ∉ wr ops → e' k = e k) → Q e' w → Q' .normal a w)
    (h : WS P ops Q S ops.length (fun _ => false) e { w with drawn := w.drawn + 1 }) : (Code.region id ops.toArray true).wpIn (FO r) 0 P Q' a w := by
  refine wpIn_region_any hm ?_
  rw [List.size_toArray]
  refine WS.any hd hQ ops.length (fun _ => false) _ e a _ ha (fun _ _ => rfl) (by simp) (fun i => ?_) h
  simp only [Array.getD_eq_getD_getElem?, Array.getElem?_replicate]
  split <;> rfl

end Go.Fw
