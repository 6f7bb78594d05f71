/-
  The evaluator: its memory and the world's. Own work; nothing here is trusted.
-/
import Derived.Test.YtddeoncipdpkfaaGreatDoorZEv3
import Derived.MapKept
set_option linter.all false
namespace Go.Fw

/-- A map's entries. -/
def RM (ρ : Rn) : ML → List MapEntry → Prop
  | .nil, es => es = []
  | .cons k v b r, es => ∃ e es', es = e :: es' ∧ RV ρ k e.key ∧ RV ρ v e.val ∧ e.born = b ∧ RM ρ r es'
/-- Entries that go from texts to numbers. -/
def RMs : ML → List (ByteArray × Int) → Prop
  | .nil, l => l = []
  | .cons k v _ r, l => ∃ n m x l', k = .s n m ∧ v = .i .i64 x ∧ l = (strOf n m, x) :: l' ∧ RMs r l'
/-- A map of texts to numbers whose entries lie in some order. -/
def LooseO (sl : List (ByteArray × Int)) (o : Obj) : Prop := ∃ es ck, o = .map es ck ∧ MapKept.Stamped es ck ∧ (es.toList.map fun e => (e.key, e.val)).Perm (sl.map fun p => (Value.string p.1, Value.int .i64 p.2))
/-- A map as it lies; by its clock we know whether its entries' order is known. -/
def MapO (ρ : Rn) (c : Nat) (l : ML) (o : Obj) : Prop := (c < 4294967296 ∧ ∃ es, o = .map (List.toArray es) c ∧ RM ρ l es) ∨ (c = 4294967296 ∧ ∃ sl, RMs l sl ∧ LooseO sl o)
def stOf : Nat → LoopState
  | 0 => .ready
  | 1 => .busy
  | _ => .done
def pendOf : JS → Option Code
  | .no => none
  | .rt => some .ret
  | .ex id => some (.exit id)
/-- The loop that is laid for a range over a function, as our block of it says. -/
structure LpB (P : Program) (ρ : Rn) (ps : PS) (e : En) (a b : CC) (L0 : Loop) : Prop where
  ex : ∃ n pl e', L0.state = .ready ∧ L0.pending = none ∧ n ≤ 512 ∧ slsOf L0.params.toList = some ps ∧ (∀ p ∈ L0.params.toList, p < n) ∧ a = prepC P n pl L0.assign ∧ b = prepC P n pl L0.body ∧
    okC P n pl L0.assign = true ∧ okC P n pl L0.body = true ∧ hasRF L0.assign = false ∧ hasRF L0.body = false ∧ L0.tmps.size = n ∧ (∀ i, L0.tmps.getD i undef = e' i) ∧ RE ρ e e'
/-- What a block of ours is in the world. -/
def Body (P : Program) (ρ : Rn) : HB → Pl → Obj → Prop
  | .c n es t, q, o => ∃ cs ty fz, o = .cells (List.toArray cs) ty fz ∧ (∀ j, j < cs.length → ¬ (fz.1 ≤ j ∧ j < fz.2)) ∧ q.s = es ∧ q.b + q.c * es ≤ cs.length ∧ (0 < es → n ≤ q.c * es) ∧ q.b + n ≤ cs.length ∧
      ∀ i, i < n → ∃ x, cs[q.b + i]? = some x ∧ RV ρ (getV t i) x ∧ oneC x = true
  | .m c l, _, o => MapO ρ c l o
  | .it m c st b k, q, o => q.b = 0 ∧ ∃ qm, ρ m = some qm ∧ o = .mapIter (some qm.k) c (if st = 0 then #[] else #[b]) k
  | .lp st j ps e a b, _, o => ∃ L0, LpB P ρ ps e a b L0 ∧ o = .loop { L0 with state := stOf st, pending := pendOf j }
  | .df, _, o => o = .deferred (some [])
  | _, _, _ => False

theorem RM.mono {ρ ρ' : Rn} (h : Le ρ ρ') : ∀ {l : ML} {es : List MapEntry}, RM ρ l es → RM ρ' l es := by
  intro l
  induction l with
  | nil => intro es h; exact h
  | cons k v b r ih => intro es ⟨e, es', h1, h2, h3, h4, h5⟩; exact ⟨e, es', h1, h2.mono h, h3.mono h, h4, ih h5⟩
theorem LpB.mono {P : Program} {ρ ρ' : Rn} (h : Le ρ ρ') {ps : PS} {e : En} {a b : CC} {L0 : Loop} (hh : LpB P ρ ps e a b L0) : LpB P ρ' ps e a b L0 := by
  obtain ⟨n, pl, e', h1, h2, h3, h4, h5, h6, h7, h8, h9, h10, h11, h12, h13, h14⟩ := hh.ex
  exact ⟨n, pl, e', h1, h2, h3, h4, h5, h6, h7, h8, h9, h10, h11, h12, h13, h14.mono h⟩
theorem Body.mono {P : Program} {ρ ρ' : Rn} (h : Le ρ ρ') {hb : HB} {q : Pl} {o : Obj} (hh : Body P ρ hb q o) : Body P ρ' hb q o := by
  cases hb with
  | c n es t =>
    obtain ⟨cs, ty, fz, h1, h2, h3, h4, h5, h6, h7⟩ := hh
    exact ⟨cs, ty, fz, h1, h2, h3, h4, h5, h6, fun i hi => let ⟨x, a, b, c⟩ := h7 i hi; ⟨x, a, b.mono h, c⟩⟩
  | m c l =>
    rcases hh with ⟨h0, es, h1, h2⟩ | hh
    · exact .inl ⟨h0, es, h1, h2.mono h⟩
    · exact .inr hh
  | it m c st b k => obtain ⟨h0, qm, h1, h2⟩ := hh; exact ⟨h0, qm, h _ _ h1, h2⟩
  | lp st j ps e a b => obtain ⟨L0, h1, h2⟩ := hh; exact ⟨L0, h1.mono h, h2⟩
  | df => exact hh
  | z => exact hh
  | x => exact hh

def live : HB → Prop
  | .z => False
  | .x => False
  | _ => True
/-- What must stay as it is: blocks; how a world stands beside its memory. -/
structure Fram where
  f : Nat → Option Obj
  w : World
/-- Beside the memory two worlds stand alike. -/
def Sm (w w' : World) : Prop := w'.os = w.os ∧ w'.tape = w.tape ∧ w'.output = w.output
theorem Sm.trans {a b c : World} (h : Sm a b) (k : Sm b c) : Sm a c := ⟨k.1.trans h.1, k.2.1.trans h.2.1, k.2.2.trans h.2.2⟩
/-- Our memory and the world: Fr, what must stay as it is. -/
structure RH (P : Program) (Fr : Fram) (ρ : Rn) (h : Hp) (w : World) : Prop where
  fresh : ∀ b, getH h b = .z → ρ b = none
  lv : ∀ b, live (getH h b) → ∃ q o, ρ b = some q ∧ w.heap[q.k]? = some o ∧ Body P ρ (getH h b) q o
  sep : ∀ b b' q q', live (getH h b) → live (getH h b') → b ≠ b' → ρ b = some q → ρ b' = some q' → q.k ≠ q'.k
  keep : ∀ r o, Fr.f r = some o → w.heap[r]? = some o
  off : ∀ b q, live (getH h b) → ρ b = some q → Fr.f q.k = none
  st : Sm Fr.w w

section
variable {P : Program} {Fr : Fram} {ρ : Rn} {h : Hp} {w : World}
theorem RH.same {w' : World} (hR : RH P Fr ρ h w) (he : w'.heap = w.heap) (hst : Sm w w' := by exact ⟨rfl, rfl, rfl⟩) : RH P Fr ρ h w' :=
  ⟨hR.fresh, fun b hb => by rw [he]; exact hR.lv b hb, hR.sep, fun r o hr => by rw [he]; exact hR.keep r o hr, hR.off, hR.st.trans hst⟩
theorem RH.drew (hR : RH P Fr ρ h w) : RH P Fr ρ h (Fw.drew w) := hR.same rfl
/-- A block with another content. -/
theorem RH.turn {b : Nat} {q : Pl} {hb : HB} {o : Obj} {w' : World} (hR : RH P Fr ρ h w) (hl : live (getH h b)) (hq : ρ b = some q) (ho : w'.heap[q.k]? = some o) (hB : Body P ρ hb q o)
    (hw : ∀ r o', r ≠ q.k → w.heap[r]? = some o' → w'.heap[r]? = some o') (hz : hb ≠ .z := by exact fun hh => by cases hh) (hst : Sm w w' := by exact ⟨rfl, rfl, rfl⟩) : RH P Fr ρ (putH h hb b) w' := by
  have lv' : ∀ {b'}, b' ≠ b → live (getH (putH h hb b) b') → live (getH h b') := fun hne hh => by rw [get_putH, if_neg hne] at hh; exact hh
  have lv2 : ∀ {b'}, live (getH (putH h hb b) b') → live (getH h b') := fun {b'} hh => by
    by_cases hne : b' = b
    · subst hne; exact hl
    · exact lv' hne hh
  refine ⟨fun b' hb' => ?_, fun b' hb' => ?_, fun b1 b2 q1 q2 h1 h2 hne e1 e2 => hR.sep b1 b2 q1 q2 (lv2 h1) (lv2 h2) hne e1 e2, fun r o' hr => ?_, fun b' q' h1 h2 => hR.off b' q' (lv2 h1) h2, hR.st.trans hst⟩
  · rw [get_putH] at hb'
    split at hb'
    · exact absurd hb' hz
    · exact hR.fresh b' hb'
  · by_cases hne : b' = b
    · subst hne
      rw [get_putH, if_pos rfl]
      exact ⟨q, o, hq, ho, hB⟩
    · have h1 := lv' hne hb'
      rw [get_putH, if_neg hne]
      obtain ⟨q', o', e1, e2, e3⟩ := hR.lv b' h1
      exact ⟨q', o', e1, hw _ _ (hR.sep b' b q' q h1 hl hne e1 hq) e2, e3⟩
  · have : r ≠ q.k := fun hh => by rw [hh, hR.off b q hl hq] at hr; cases hr
    exact hw r o' this (hR.keep r o' hr)
theorem RH.kill (hR : RH P Fr ρ h w) (b : Nat) : RH P Fr ρ (putH h .x b) w := by
  have key : ∀ {b'}, live (getH (putH h .x b) b') → live (getH h b') ∧ getH (putH h .x b) b' = getH h b' := fun {b'} hh => by
    rw [get_putH] at hh ⊢
    split at hh
    · exact hh.elim
    · rename_i hne; rw [if_neg hne]; exact ⟨hh, rfl⟩
  refine ⟨fun b' hb' => ?_, fun b' hb' => ?_, fun b1 b2 q1 q2 h1 h2 hne e1 e2 => hR.sep b1 b2 q1 q2 (key h1).1 (key h2).1 hne e1 e2, hR.keep, fun b' q' h1 h2 => hR.off b' q' (key h1).1 h2, hR.st⟩
  · rw [get_putH] at hb'
    split at hb'
    · cases hb'
    · exact hR.fresh b' hb'
  · rw [(key hb').2]; exact hR.lv b' (key hb').1
def ext (ρ : Rn) (n : Nat) (q : Pl) : Rn := fun b => if b = n then some q else ρ b
theorem ext_le {n : Nat} {q : Pl} (hn : ρ n = none) : Le ρ (ext ρ n q) := fun b q' hb => by
  unfold ext; split
  · rename_i e; rw [e, hn] at hb; cases hb
  · exact hb
theorem ext_at (ρ : Rn) (n : Nat) (q : Pl) : ext ρ n q n = some q := if_pos rfl
/-- A new block. -/
theorem RH.add {n : Nat} {q : Pl} {hb : HB} {o : Obj} {w' : World} (hR : RH P Fr ρ h w) (hn : getH h n = .z) (hk : ∀ b q', live (getH h b) → ρ b = some q' → q'.k ≠ q.k) (hf : Fr.f q.k = none)
    (hw : ∀ r o', r ≠ q.k → w.heap[r]? = some o' → w'.heap[r]? = some o') (ho : w'.heap[q.k]? = some o) (hB : Body P (ext ρ n q) hb q o) (hz : hb ≠ .z := by exact fun hh => by cases hh) (hst : Sm w w' := by exact ⟨rfl, rfl, rfl⟩) :
    RH P Fr (ext ρ n q) (putH h hb n) w' := by
  have le := ext_le (q := q) (hR.fresh n hn)
  have key : ∀ {b'}, b' ≠ n → live (getH (putH h hb n) b') → live (getH h b') ∧ getH (putH h hb n) b' = getH h b' := fun {b'} hne hh => by
    rw [get_putH, if_neg hne] at hh ⊢; exact ⟨hh, rfl⟩
  have back : ∀ {b' q'}, b' ≠ n → ext ρ n q b' = some q' → ρ b' = some q' := fun hne hh => by unfold ext at hh; rwa [if_neg hne] at hh
  refine ⟨fun b' hb' => ?_, fun b' hb' => ?_, fun b1 b2 q1 q2 h1 h2 hne e1 e2 => ?_, fun r o' hr => ?_, fun b' q' h1 h2 => ?_, hR.st.trans hst⟩
  · rw [get_putH] at hb'
    split at hb'
    · exact absurd hb' hz
    · rename_i hne; unfold ext; rw [if_neg hne]; exact hR.fresh b' hb'
  · by_cases hne : b' = n
    · subst hne
      rw [get_putH, if_pos rfl]
      exact ⟨q, o, ext_at _ _ _, ho, hB⟩
    · obtain ⟨h1, h2⟩ := key hne hb'
      rw [h2]
      obtain ⟨q', o', e1, e2, e3⟩ := hR.lv b' h1
      exact ⟨q', o', le _ _ e1, hw _ _ (hk b' q' h1 e1) e2, e3.mono le⟩
  · by_cases n1 : b1 = n
    · subst n1
      have n2 : b2 ≠ b1 := fun hh => hne hh.symm
      have := ext_at ρ b1 q
      rw [this] at e1; cases e1
      exact (hk b2 q2 (key n2 h2).1 (back n2 e2)).symm
    · by_cases n2 : b2 = n
      · subst n2
        have := ext_at ρ b2 q
        rw [this] at e2; cases e2
        exact hk b1 q1 (key n1 h1).1 (back n1 e1)
      · exact hR.sep b1 b2 q1 q2 (key n1 h1).1 (key n2 h2).1 hne (back n1 e1) (back n2 e2)
  · have : r ≠ q.k := fun hh => by rw [hh, hf] at hr; cases hr
    exact hw r o' this (hR.keep r o' hr)
  · by_cases hne : b' = n
    · subst hne
      have := ext_at ρ b' q
      rw [this] at h2; cases h2
      exact hf
    · exact hR.off b' q' (key hne h1).1 (back hne h2)
/-- A block that the world did not have. -/
theorem RH.new {n : Nat} {q : Pl} {hb : HB} {o : Obj} {w' : World} (hR : RH P Fr ρ h w) (hn : getH h n = .z) (hq : q.k = w.heap.size) (hw : w'.heap = w.heap.push o)
    (hB : Body P (ext ρ n q) hb q o) (hz : hb ≠ .z := by exact fun hh => by cases hh) (hst : Sm w w' := by exact ⟨rfl, rfl, rfl⟩) : RH P Fr (ext ρ n q) (putH h hb n) w' := by
  refine hR.add hn (fun b q' h1 h2 => ?_) ?_ (fun r o' hr ho => ?_) ?_ hB hz hst
  · obtain ⟨q2, o2, e1, e2, _⟩ := hR.lv b h1
    rw [h2] at e1; cases e1
    have := (Array.getElem?_eq_some_iff.1 e2).1
    omega
  · cases hF : Fr.f q.k with
    | none => rfl
    | some o' =>
      have := hR.keep _ _ hF
      have := (Array.getElem?_eq_some_iff.1 this).1
      omega
  · rw [hw, Array.getElem?_push, if_neg]
    · exact ho
    · have := (Array.getElem?_eq_some_iff.1 ho).1
      omega
  · rw [hw, hq, Array.getElem?_push, if_pos rfl]

theorem live_c {n es : Nat} {t : Tr V} {b : Nat} (hb : getH h b = .c n es t) : live (getH h b) := by rw [hb]; trivial
/-- A block of cells, opened. -/
theorem RH.cells {b n es : Nat} {t : Tr V} (hR : RH P Fr ρ h w) (hb : getH h b = .c n es t) : ∃ q cs ty fz, ρ b = some q ∧ w.heap[q.k]? = some (.cells (List.toArray cs) ty fz) ∧ (∀ j, j < cs.length → ¬ (fz.1 ≤ j ∧ j < fz.2)) ∧
    q.s = es ∧ q.b + q.c * es ≤ cs.length ∧ (0 < es → n ≤ q.c * es) ∧ q.b + n ≤ cs.length ∧ ∀ i, i < n → ∃ x, cs[q.b + i]? = some x ∧ RV ρ (getV t i) x ∧ oneC x = true := by
  obtain ⟨q, o, h1, h2, h3⟩ := hR.lv b (live_c hb)
  rw [hb] at h3
  obtain ⟨cs, ty, fz, rfl, r⟩ := h3
  exact ⟨q, cs, ty, fz, h1, h2, r⟩
theorem cell_of {k o : Nat} {cs : List Value} {ty : TypeId} {fz : Nat × Nat} {x : Value} (hw : w.heap[k]? = some (.cells (List.toArray cs) ty fz)) (hx : cs[o]? = some x) : Cell w k o x := by
  unfold Cell World.cell?
  dsimp only
  rw [hw]
  simpa using hx
/-- Cells in a row. -/
theorem row_of {k b n : Nat} {cs : List Value} {ty : TypeId} {fz : Nat × Nat} {t : Tr V} (hw : w.heap[k]? = some (.cells (List.toArray cs) ty fz)) (hl : b + n ≤ cs.length)
    (hc : ∀ i, i < n → ∃ x, cs[b + i]? = some x ∧ RV ρ (getV t i) x ∧ oneC x = true) {o m : Nat} (hm : o + m ≤ n) :
    ∃ xs : List Value, xs.length = m ∧ xs = (cs.drop (b + o)).take m ∧ RT ρ t o xs ∧ (∀ z ∈ xs, oneC z = true) ∧ ∀ j c, xs[j]? = some c → Cell w k (b + o + j) c := by
  have get : ∀ j x, ((cs.drop (b + o)).take m)[j]? = some x → j < m ∧ cs[b + (o + j)]? = some x := fun j x hx => by
    have hj : j < m := by
      have := (List.getElem?_eq_some_iff.1 hx).1
      rw [List.length_take] at this; omega
    rw [List.getElem?_take_of_lt hj, List.getElem?_drop] at hx
    exact ⟨hj, by rwa [show b + (o + j) = b + o + j from by omega]⟩
  refine ⟨_, by rw [List.length_take, List.length_drop]; omega, rfl, fun j x hx => ?_, fun z hz => ?_, fun j x hx => ?_⟩
  · obtain ⟨hj, h1⟩ := get j x hx
    obtain ⟨y, h2, h3, _⟩ := hc (o + j) (by omega)
    rw [h1] at h2; cases h2
    exact h3
  · obtain ⟨j, hj⟩ := List.getElem?_of_mem hz
    obtain ⟨hj', h1⟩ := get j z hj
    obtain ⟨y, h2, _, h3⟩ := hc (o + j) (by omega)
    rw [h1] at h2; cases h2
    exact h3
  · obtain ⟨hj, h1⟩ := get j x hx
    exact cell_of hw (by rwa [show b + o + j = b + (o + j) from by omega])

/-- Cells stored over a row's. -/
theorem run_sts {k : Nat} {ty : TypeId} {fz : Nat × Nat} : ∀ (vs : List Value) (o i : Nat) (cs : List Value) (w : World), w.heap[k]? = some (.cells (List.toArray cs) ty fz) → (∀ j, j < cs.length → ¬ (fz.1 ≤ j ∧ j < fz.2)) →
    o + i + vs.length ≤ cs.length → (∀ v ∈ vs, oneC v = true) →
    ∃ w', (storeCells ⟨k, o, none⟩ vs i).run P w = .ok () w' ∧ w'.heap[k]? = some (.cells (List.toArray (setAll cs (o + i) vs)) ty fz) ∧ (∀ r o', r ≠ k → w.heap[r]? = some o' → w'.heap[r]? = some o') ∧ Sm w w' := by
  intro vs
  induction vs with
  | nil => intro o i cs w hw _ _ _; exact ⟨w, rfl, hw, fun _ _ _ h => h, rfl, rfl, rfl⟩
  | cons v r ih =>
    intro o i cs w hw hz hl hv
    have hl' : o + i + (r.length + 1) ≤ cs.length := by simpa using hl
    have hv1 := hv v (by simp)
    have h1 : (store ⟨k, o + i, none⟩ v).run P w = .ok () (w.setCell ⟨k, o + i, none⟩ v) := by
      have c1 : w.cell? ⟨k, o + i, none⟩ = some cs[o + i] := cell_of hw (by simp)
      have c2 : w.frozen? ⟨k, o + i, none⟩ = false := by
        unfold World.frozen?
        dsimp only
        rw [hw]
        have := hz (o + i) (by omega)
        simp only [Bool.and_eq_false_imp, decide_eq_true_eq]
        intro h; simp; omega
      unfold store
      cases v <;> first | cases hv1 | skip
      all_goals
        simp only [Sem.run, c1, c2]
        rfl
    have hw1 : (w.setCell ⟨k, o + i, none⟩ v).heap[k]? = some (.cells (List.toArray (cs.set (o + i) v)) ty fz) := by
      simp only [World.setCell, Array.getElem?_modify, if_true, hw]
      simp
    obtain ⟨w', h2, h3, h4, h5⟩ := ih o (i + 1) (cs.set (o + i) v) _ hw1 (fun j hj => hz j (by simpa using hj)) (by simp; omega) (fun x hx => hv x (by simp [hx]))
    refine ⟨w', ?_, by rw [show o + (i + 1) = o + i + 1 from by omega] at h3; exact h3, fun r' o' hr ho => h4 r' o' hr (by rw [setCell_heap _ _ _ _ _ hr]; exact ho), h5⟩
    show (do store ((Addr.mk k o none).add i) v; storeCells ⟨k, o, none⟩ r (i + 1) : Sem Unit).run P w = _
    rw [add_none, run_bind_ok h1, h2]
theorem setAll_get : ∀ (vs : List Value) (cs : List Value) (o j : Nat), o + vs.length ≤ cs.length → (j < o ∨ o + vs.length ≤ j → (setAll cs o vs)[j]? = cs[j]?) ∧ ∀ i, i < vs.length → (setAll cs o vs)[o + i]? = vs[i]? := by
  intro vs
  induction vs with
  | nil => intro cs o j _; exact ⟨fun _ => rfl, fun i hi => by simp at hi⟩
  | cons v r ih =>
    intro cs o j hl
    have hl' : o + (r.length + 1) ≤ cs.length := by simpa using hl
    obtain ⟨a, b⟩ := ih (cs.set o v) (o + 1) j (by simp; omega)
    refine ⟨fun hj => ?_, fun i hi => ?_⟩
    · have hj' : j < o ∨ o + (r.length + 1) ≤ j := by simpa using hj
      have e : (setAll (cs.set o v) (o + 1) r)[j]? = (cs.set o v)[j]? := a (by omega)
      exact e.trans (List.getElem?_set_ne (by omega))
    · cases i with
      | zero =>
        have := (ih (cs.set o v) (o + 1) o (by simp; omega)).1 (.inl (by omega))
        refine (show (setAll cs o (v :: r))[o + 0]? = (cs.set o v)[o]? from this).trans ?_
        rw [List.getElem?_set_self (by omega)]; rfl
      | succ i =>
        have := b i (by simpa using hi)
        rw [show o + (i + 1) = o + 1 + i from by omega]
        exact this.trans (by simp)
/-- A row's cells behind a store. -/
theorem body_store {b n o : Nat} {cs : List Value} {t : Tr V} {l : V} {vs : List Value} (hl : b + n ≤ cs.length) (hc : ∀ i, i < n → ∃ x, cs[b + i]? = some x ∧ RV ρ (getV t i) x ∧ oneC x = true)
    (hv : RLs ρ l vs) (hone : ∀ v ∈ vs, oneC v = true) (hm : o + vs.length ≤ n) :
    ∀ i, i < n → ∃ x, (setAll cs (b + o) vs)[b + i]? = some x ∧ RV ρ (getV (wr1 l o t) i) x ∧ oneC x = true := by
  intro i hi
  obtain ⟨a, c⟩ := setAll_get vs cs (b + o) (b + i) (by omega)
  obtain ⟨a', c'⟩ := wr1_get hv o t i
  by_cases h1 : i < o ∨ o + vs.length ≤ i
  · rw [a (by omega), a' h1]; exact hc i hi
  · obtain ⟨x, hx⟩ : ∃ x, vs[i - o]? = some x := ⟨_, List.getElem?_eq_getElem (by omega)⟩
    refine ⟨x, ?_, c' _ x hx (by omega), hone x (List.mem_of_getElem? hx)⟩
    have := c (i - o) (by omega)
    rw [show b + o + (i - o) = b + i from by omega] at this
    rw [this, hx]
end
end Go.Fw
