/-
  Maps of whole numbers: looked up, put, taken out, gone over; copy. Own work; nothing here is trusted.
-/
import Derived.Test.YtddeoncipdpkfaaGreatDoorZFw29
import Derived.MapKept
import Derived.Maps.RangeRun
set_option linter.all false
namespace Go.Fw
open Go.MapKept (Stamped IsKey)
open Go.ChangeMaps (setBlock)
/-- A map of whole numbers, as it lies. -/
def MapAt (w : World) (b : Nat) (ks : List Int) (vs : List Value) : Prop :=
  ∃ es clock, w.heap[b]? = some (.map es clock) ∧ Stamped es clock ∧ es.toList.map (·.key) = ks.map (Value.int .i64) ∧ es.toList.map (·.val) = vs
/-- Where a key stands. -/
def keyAt : List Int → Int → Option Nat
  | [], _ => none
  | x :: xs, k => if x = k then some 0 else (keyAt xs k).map (· + 1)
theorem keyAt_some : ∀ {ks : List Int} {k : Int} {j : Nat}, keyAt ks k = some j → ks[j]? = some k
  | x :: xs, k, j, h => by
    unfold keyAt at h
    split at h
    · rename_i e; cases h; simp [e]
    · cases hh : keyAt xs k with
      | none => rw [hh] at h; cases h
      | some i => rw [hh] at h; simp at h; subst h; simpa using keyAt_some hh
theorem keyAt_none : ∀ {ks : List Int} {k : Int}, keyAt ks k = none ↔ k ∉ ks
  | [], _ => by simp [keyAt]
  | x :: xs, k => by
    unfold keyAt
    by_cases e : x = k
    · simp [e]
    · rw [if_neg e, Option.map_eq_none_iff, keyAt_none, List.mem_cons]
      exact ⟨fun h hh => hh.elim (fun h2 => e h2.symm) h, fun h hh => h (.inr hh)⟩
theorem keyAt_eq : ∀ {ks : List Int} {k : Int} {j : Nat}, ks.Nodup → ks[j]? = some k → keyAt ks k = some j
  | x :: xs, k, 0, _, h => by simp at h; simp [keyAt, h]
  | x :: xs, k, j + 1, hn, h => by
    rw [List.getElem?_cons_succ] at h
    have hm := List.mem_of_getElem? h
    have : x ≠ k := fun e => (List.nodup_cons.1 hn).1 (e ▸ hm)
    simp [keyAt, this, keyAt_eq (List.nodup_cons.1 hn).2 h]
/-- What lies at a key. -/
def look {β : Type} (ks : List Int) (vs : List β) (k : Int) : Option β := (keyAt ks k).bind (vs[·]?)
def updF {β : Type} (f : Int → β) (k : Int) (x : β) : Int → β := fun j => if j = k then x else f j
section
variable {P : Program} {w w0 w' : World} {A : Nat → Prop} {L : List HP} {b : Nat} {ks : List Int} {vs : List Value}
theorem MapAt.of_eq (h : MapAt w b ks vs) (hh : w'.heap[b]? = w.heap[b]?) : MapAt w' b ks vs := by
  obtain ⟨es, c, h1, h2⟩ := h; exact ⟨es, c, hh.trans h1, h2⟩
theorem MapAt.lt (h : MapAt w b ks vs) : b < w.heap.size := by obtain ⟨es, c, h1, _⟩ := h; exact lt_of_heap h1
theorem MapAt.ext (h : MapAt w b ks vs) (e : Ext w w') : MapAt w' b ks vs := h.of_eq (e.blk b h.lt fun h => h)
theorem MapAt.len (h : MapAt w b ks vs) : ks.length = vs.length := by
  obtain ⟨es, c, _, _, h3, h4⟩ := h
  have := congrArg List.length h3; have h5 := congrArg List.length h4
  simp at this h5; omega
theorem MapAt.nodup (h : MapAt w b ks vs) : ks.Nodup := by
  obtain ⟨es, c, _, h2, h3, h4⟩ := h
  have := h2.2.2
  rw [h3] at this
  exact (List.pairwise_map.1 this).imp fun h e => h (by rw [e])
def mapB (b : Nat) (ks : List Int) (vs : List Value) : HP where
  p w F := MapAt w b ks vs ∧ ∀ k, F k ↔ k = b
  loc w w' F h hh := ⟨h.1.of_eq (hh b ((h.2 b).2 rfl)), h.2⟩
  lt w F b' h hb := by rw [(h.2 b').1 hb]; exact h.1.lt
theorem isKey_all {es : Array MapEntry} (h3 : es.toList.map (·.key) = ks.map (Value.int .i64)) : ∀ x ∈ es.toList, IsKey (.int .i64) x.key := by
  intro x hx
  have : x.key ∈ es.toList.map (·.key) := List.mem_map.2 ⟨x, hx, rfl⟩
  rw [h3] at this
  obtain ⟨k, _, e⟩ := List.mem_map.1 this
  rw [← e]; simp [IsKey]
theorem find_key {T : TypeId} {k : Int} {es : Array MapEntry} (hT : P.underlying T = some (.int .i64)) (hn : ks.Nodup) (h3 : es.toList.map (·.key) = ks.map (Value.int .i64)) :
    (keyAt ks k = none ∧ (Instr.findKey T (.int .i64 k) es.toList).run P w = .ok none w) ∨ ∃ j e, keyAt ks k = some j ∧ es.toList[j]? = some e ∧ e.key = .int .i64 k ∧ (Instr.findKey T (.int .i64 k) es.toList).run P w = .ok (some (j, e.val)) w := by
  rcases MapKept.findNow_spec (d := .int .i64) (k := .int .i64 k) (by simp [IsKey]) es.toList 0 (isKey_all h3) with ⟨h1, h2⟩ | ⟨j, e, h1, h2, h4⟩
  · refine .inl ⟨keyAt_none.2 fun hm => ?_, MapKept.run_findKey hT h1⟩
    have : Value.int .i64 k ∈ es.toList.map (·.key) := by rw [h3]; exact List.mem_map.2 ⟨k, hm, rfl⟩
    obtain ⟨x, hx, e⟩ := List.mem_map.1 this
    exact h2 x hx e
  · refine .inr ⟨j, e, keyAt_eq hn ?_, h2, h4, by rw [Nat.zero_add] at h1; exact MapKept.run_findKey hT h1⟩
    have : (es.toList.map (·.key))[j]? = some (.int .i64 k) := by rw [List.getElem?_map, h2]; simp [h4]
    rw [h3, List.getElem?_map] at this
    cases hk : ks[j]? with
    | none => rw [hk] at this; cases this
    | some k' => rw [hk] at this; simp at this; rw [this]
/-- m[k]. -/
theorem run_lookup {T Kt E : TypeId} {z : Value} {k : Int} (h : MapAt w b ks vs) (ht : P.underlying T = some (.map Kt E)) (hk : P.underlying Kt = some (.int .i64)) (hz : ZeroT P E z) :
    (Instr.lookup T (.map (some b)) (.int .i64 k) false).run P w = .ok ((look ks vs k).getD z) w := by
  have hn := h.nodup
  obtain ⟨es, c, h1, h2, h3, h4⟩ := h
  have hz' : (zeroValue E).run P w = .ok z w := by
    unfold ZeroT zeroFact at hz
    cases hi : P.info? E with
    | none => rw [hi] at hz; cases hz
    | some i =>
      rw [hi] at hz
      simp only [Option.map_some, Option.some.injEq] at hz
      refine run_of_pr ?_ w
      unfold zeroValue; rw [pr_bind, pr_typeInfo hi]; simp only [Option.bind_some, hz]; rfl
  have hc := MapKept.run_checkKey (P := P) (w := w) (kt := Kt) (k := .int .i64 k) hk (by simp [IsKey]) es.isEmpty 9999
  rcases find_key (w := w) (k := k) hk hn h3 with ⟨h5, h6⟩ | ⟨j, e, h5, h6, h7, h8⟩
  · simp [Instr.lookup, run_underlying ht, MapKept.run_getObj_map h1, hc, h6, hz', Result.andThen, look, h5]
  · have : vs[j]? = some e.val := by rw [← h4, List.getElem?_map, h6]; rfl
    simp [Instr.lookup, run_underlying ht, MapKept.run_getObj_map h1, hc, h8, Result.andThen, look, h5, this]
theorem setBlock_eq (o : Obj) (hb : b < w.heap.size) : (setBlock w b o).heap[b]? = some o := by simp [setBlock, hb]
theorem Chg.setBlock (w : World) (b : Nat) (o : Obj) : Chg (· = b) w (setBlock w b o) :=
  ⟨rfl, rfl, rfl, by simp [ChangeMaps.setBlock], fun k _ hn => by simp only [ChangeMaps.setBlock]; rw [Array.getElem?_setIfInBounds_ne (fun h => hn h.symm)]⟩
theorem run_setMap {es : Array MapEntry} {clock : Nat} {o : Obj} (h1 : w.heap[b]? = some (.map es clock)) : (setObj b o).run P w = .ok () (setBlock w b o) := by
  simp [setObj, Sem.run, h1, setBlock]
/-- m[k] = v. -/
theorem run_put {T Kt E : TypeId} {v : Value} {k : Int} (h : MapAt w b ks vs) (ht : P.underlying T = some (.map Kt E)) (hk : P.underlying Kt = some (.int .i64)) :
    ∃ w', (Instr.mapUpdate T (.map (some b)) (.int .i64 k) v).run P w = .ok () w' ∧ Chg (· = b) w w' ∧
      (match keyAt ks k with | some j => MapAt w' b ks (vs.set j v) | none => MapAt w' b (ks ++ [k]) (vs ++ [v])) := by
  have hn := h.nodup
  have hlt := h.lt
  obtain ⟨es, c, h1, h2, h3, h4⟩ := h
  have hc := MapKept.run_checkKey (P := P) (w := w) (kt := Kt) (k := .int .i64 k) hk (by simp [IsKey]) false 9999
  rcases find_key (w := w) (k := k) hk hn h3 with ⟨h5, h6⟩ | ⟨j, e, h5, h6, h7, h8⟩
  · refine ⟨_, ?_, Chg.setBlock w b (.map (es.push ⟨.int .i64 k, v, c⟩) (c + 1)), ?_⟩
    · simp [Instr.mapUpdate, run_underlying ht, MapKept.run_getObj_map h1, hc, h6, run_setMap h1, Result.andThen]
    · rw [h5]
      refine ⟨_, _, setBlock_eq _ hlt, MapKept.stamped_push h2 fun x hx e => ?_, by simp [h3], by simp [h4]⟩
      have : x.key ∈ es.toList.map (·.key) := List.mem_map.2 ⟨x, hx, rfl⟩
      rw [h3, e] at this
      obtain ⟨k', hk', e'⟩ := List.mem_map.1 this
      simp at e'
      exact keyAt_none.1 h5 (e' ▸ hk')
  · have hes : es[j]? = some e := by rw [← Array.getElem?_toList]; exact h6
    have hst : (Instr.keyThatStays e.key (.int .i64 k)).run P w = .ok (.int .i64 k) w := by
      rw [h7]; unfold Instr.keyThatStays; simp [Instr.sameBits]
    refine ⟨_, ?_, Chg.setBlock w b (.map (es.modify j fun e => { e with key := .int .i64 k, val := v }) c), ?_⟩
    · simp [Instr.mapUpdate, run_underlying ht, MapKept.run_getObj_map h1, hc, h8, run_setMap h1, Result.andThen, hes, hst]
    · rw [h5]
      have hk' : ∀ e', es[j]? = some e' → ({ e' with key := .int .i64 k, val := v } : MapEntry).key = e'.key := fun e' he' => by
        rw [hes] at he'; cases he'; exact h7.symm
      refine ⟨_, _, setBlock_eq _ hlt, MapKept.stamped_modify h2 j _ (fun _ _ => rfl) (fun e' _ he' => hk' e' he'), ?_, ?_⟩
      · rw [MapKept.modify_keys j _ hk', h3]
      · rw [← h4]
        apply List.ext_getElem?
        intro i
        simp only [List.getElem?_map, Array.getElem?_toList, Array.getElem?_modify, List.getElem?_set]
        by_cases hij : j = i
        · subst hij; rw [hes]; have := (Array.getElem?_eq_some_iff.1 hes).1; simp [this]
        · simp [hij]
/-- delete(m, k). -/
theorem run_del {T Kt E R : TypeId} {A2 : Array TypeId} {k : Int} (h : MapAt w b ks vs) (ha : A2[0]? = some T) (ht : P.underlying T = some (.map Kt E)) (hk : P.underlying Kt = some (.int .i64)) :
    ∃ w', (Builtin.delete_ A2 R [.map (some b), .int .i64 k].toArray).run P w = .ok (.tuple #[]) w' ∧ Chg (· = b) w w' ∧
      (match keyAt ks k with | some j => MapAt w' b (ks.eraseIdx j) (vs.eraseIdx j) | none => MapAt w' b ks vs) := by
  have hn := h.nodup
  have hlt := h.lt
  obtain ⟨es, c, h1, h2, h3, h4⟩ := h
  have hc := MapKept.run_checkKey (P := P) (w := w) (kt := Kt) (k := .int .i64 k) hk (by simp [IsKey]) es.isEmpty 9999
  rcases find_key (w := w) (k := k) hk hn h3 with ⟨h5, h6⟩ | ⟨j, e, h5, h6, h7, h8⟩
  · refine ⟨_, ?_, Chg.setBlock w b (.map es c), ?_⟩
    · simp [Builtin.delete_, ha, run_underlying ht, MapKept.run_getObj_map h1, hc, h6, run_setMap h1, Result.andThen]
    · rw [h5]
      exact ⟨_, _, setBlock_eq _ hlt, h2, h3, h4⟩
  · have hj : j < es.size := by have := (List.getElem?_eq_some_iff.1 h6).1; simpa using this
    refine ⟨_, ?_, Chg.setBlock w b (.map (es.eraseIdxIfInBounds j) c), ?_⟩
    · simp [Builtin.delete_, ha, run_underlying ht, MapKept.run_getObj_map h1, hc, h8, run_setMap h1, Result.andThen]
    · rw [h5]
      have he : (es.eraseIdxIfInBounds j).toList = es.toList.eraseIdx j := by
        unfold Array.eraseIdxIfInBounds; rw [dif_pos hj]; simp
      refine ⟨_, _, setBlock_eq _ hlt, MapKept.stamped_erase h2 j, ?_, ?_⟩
      · rw [he, ChangeMaps.map_eraseIdx, h3, ChangeMaps.map_eraseIdx]
      · rw [he, ChangeMaps.map_eraseIdx, h4]
theorem eop_makeMap {T : TypeId} {K : Value → World → Prop} (hs : St w0 A L w) (k : ∀ b w', St w0 A (mapB b [] [] :: L) w' → K (.map (some b)) w') : Eop P (Instr.makeMap T none) w K :=
  ⟨_, _, rfl, k _ _ (hs.new (Ext.push w (.map #[] 0)) (F := fun k => k = w.heap.size) ⟨⟨#[], 0, push_new _ _, MapKept.stamped_empty 0, rfl, rfl⟩, fun _ => Iff.rfl⟩ fun b hb => by rw [hb]; exact Nat.le_refl _)⟩
theorem St.mapAt (hs : St w0 A (mapB b ks vs :: L) w) : MapAt w b ks vs := by obtain ⟨F, h, _⟩ := hs.head; exact h.1
theorem uop_insert {T Kt E : TypeId} {v : Value} {k : Int} {K : World → Prop} (hs : St w0 A (mapB b ks vs :: L) w) (ht : P.underlying T = some (.map Kt E)) (hk : P.underlying Kt = some (.int .i64)) (hnew : keyAt ks k = none)
    (kk : ∀ w', St w0 A (mapB b (ks ++ [k]) (vs ++ [v]) :: L) w' → K w') : Uop P (Instr.mapUpdate T (.map (some b)) (.int .i64 k) v) w K := by
  obtain ⟨w', h1, h2, h3⟩ := run_put (P := P) (v := v) (k := k) hs.mapAt ht hk
  rw [hnew] at h3
  exact ⟨w', h1, kk w' (hs.turn fun F hF => ⟨F, ⟨h3, hF.2⟩, fun b hb => .inl hb, h2.mono fun k hk => (hF.2 k).2 hk⟩)⟩
end

/-! ### A map of slices, each owned -/
section
variable {α : Type} [Flat α] {P : Program} {w w0 w' : World} {A : Nat → Prop} {L : List HP} {b : Nat} {f : Int → List α}
abbrev rowO (s : SV) (x : List α) : HP := ownL (Flat.val s) x
/-- The map b has at each key k the slice f k, owned. -/
def pendO (b : Nat) (f : Int → List α) : HP := exH fun ks => exH fun ss : List SV => exH fun xss : List (List α) => fact (f = fun k => (look ks xss k).getD []) (sep (mapB b ks (ss.map Flat.val)) (rowsP rowO ss xss))
/-- As it is read. -/
def PendR (w : World) (b : Nat) (f : Int → List α) : Prop := ∃ ks, ∃ ss : List SV, MapAt w b ks (ss.map Flat.val) ∧ (∀ (i : Nat) (k : Int) (s : SV), ks[i]? = some k → ss[i]? = some s → RdL (fun _ => True) w (Flat.val s) (f k)) ∧ ∀ k, k ∉ ks → f k = []
theorem PendR.ext (h : PendR w b f) (e : Ext w w') : PendR w' b f := by
  obtain ⟨ks, ss, h1, h2, h3⟩ := h; exact ⟨ks, ss, h1.ext e, fun i k s a c => (h2 i k s a c).ext e, h3⟩
theorem look_at {β : Type} {ks : List Int} {xs : List β} {k : Int} {i : Nat} {x : β} (hn : ks.Nodup) (h1 : ks[i]? = some k) (h2 : xs[i]? = some x) : look ks xs k = some x := by
  unfold look; rw [keyAt_eq hn h1]; exact h2
theorem look_none {β : Type} {ks : List Int} {xs : List β} {k : Int} (h : k ∉ ks) : look ks xs k = none := by unfold look; rw [keyAt_none.2 h]; rfl
theorem pendO.rd {F : Nat → Prop} (h : (pendO b f).p w F) : PendR w b f := by
  obtain ⟨ks, ss, xss, hf, F1, F2, h1, h2, _, _⟩ := h
  refine ⟨ks, ss, h1.1, fun i k s hk hs => ?_, fun k hk => by rw [hf]; dsimp only; rw [look_none hk]; rfl⟩
  have hl := rowsP_len h2
  have hi : i < xss.length := by have := (List.getElem?_eq_some_iff.1 hs).1; omega
  have hx : xss[i]? = some xss[i] := List.getElem?_eq_getElem hi
  have hst : St w F2 [rowsP rowO ss xss] w := St.begin h2
  have := hst.rowP hs hx (Φ := fun w => RdL (fun _ => True) w (Flat.val s) xss[i]) fun h => (ownL.rd h).mono fun _ _ => trivial
  rw [hf]; dsimp only
  rw [look_at h1.1.nodup hk hx]; exact this
theorem St.pendR (hs : St w0 A (pendO b f :: L) w) : PendR w b f := by obtain ⟨F, h, _⟩ := hs.head; exact pendO.rd h
/-- m[k], read. -/
theorem PendR.look {T Kt E : TypeId} {k : Int} (h : PendR w b f) (ht : P.underlying T = some (.map Kt E)) (hk : P.underlying Kt = some (.int .i64)) (hz : ZeroT P E (.slice none 0 0)) :
    ∃ s : SV, (Instr.lookup T (.map (some b)) (.int .i64 k) false).run P w = .ok (Flat.val s) w ∧ RdL (fun _ => True) w (Flat.val s) (f k) := by
  obtain ⟨ks, ss, h1, h2, h3⟩ := h
  have hr := run_lookup (P := P) (k := k) h1 ht hk hz
  cases hkk : keyAt ks k with
  | none =>
    have : Fw.look ks (ss.map Flat.val) k = none := by unfold Fw.look; rw [hkk]; rfl
    rw [this] at hr
    exact ⟨⟨none, 0, 0⟩, hr, by rw [h3 k (keyAt_none.1 hkk)]; exact RdL.nil _ _⟩
  | some j =>
    have hj := keyAt_some hkk
    have hl := h1.len
    have hjs : j < ss.length := by have := (List.getElem?_eq_some_iff.1 hj).1; simp at hl; omega
    have hsj : ss[j]? = some ss[j] := List.getElem?_eq_getElem hjs
    have : Fw.look ks (ss.map Flat.val) k = some (Flat.val ss[j]) := by unfold Fw.look; rw [hkk]; simp [hsj]
    rw [this] at hr
    exact ⟨_, hr, h2 j k _ hj hsj⟩
/-- m[k], read; what comes back reads so from the world w0 on. -/
theorem PendR.lookB {T Kt E : TypeId} {k : Int} (h : PendR w0 b f) (ht : P.underlying T = some (.map Kt E)) (hk : P.underlying Kt = some (.int .i64)) (hz : ZeroT P E (.slice none 0 0)) :
    ∃ s : SV, (∀ w, Ext w0 w → (Instr.lookup T (.map (some b)) (.int .i64 k) false).run P w = .ok (Flat.val s) w) ∧ RdL (fun _ => True) w0 (Flat.val s) (f k) := by
  obtain ⟨ks, ss, h1, h2, h3⟩ := h
  have hr : ∀ w, Ext w0 w → _ := fun w e => run_lookup (P := P) (k := k) (h1.ext e) ht hk hz
  cases hkk : keyAt ks k with
  | none =>
    have : Fw.look ks (ss.map Flat.val) k = none := by unfold Fw.look; rw [hkk]; rfl
    rw [this] at hr
    exact ⟨⟨none, 0, 0⟩, hr, by rw [h3 k (keyAt_none.1 hkk)]; exact RdL.nil _ _⟩
  | some j =>
    have hj := keyAt_some hkk
    have hl := h1.len
    have hjs : j < ss.length := by have := (List.getElem?_eq_some_iff.1 hj).1; simp at hl; omega
    have hsj : ss[j]? = some ss[j] := List.getElem?_eq_getElem hjs
    have : Fw.look ks (ss.map Flat.val) k = some (Flat.val ss[j]) := by unfold Fw.look; rw [hkk]; simp [hsj]
    rw [this] at hr
    exact ⟨_, hr, h2 j k _ hj hsj⟩
theorem qop_lookB {T Kt E : TypeId} {k : Int} {K : Value → Prop} (h : PendR w0 b f) (e : Ext w0 w) (ht : P.underlying T = some (.map Kt E)) (hk : P.underlying Kt = some (.int .i64)) (hz : ZeroT P E (.slice none 0 0))
    (kk : ∀ s : SV, RdL (fun _ => True) w0 (Flat.val s) (f k) → K (Flat.val s)) : Qop P (Instr.lookup T (.map (some b)) (.int .i64 k) false) w K := by
  obtain ⟨s, h1, h2⟩ := h.lookB (P := P) (k := k) ht hk hz; exact ⟨_, h1 w e, kk s h2⟩
theorem qop_look {T Kt E : TypeId} {k : Int} {K : Value → Prop} (h : PendR w b f) (ht : P.underlying T = some (.map Kt E)) (hk : P.underlying Kt = some (.int .i64)) (hz : ZeroT P E (.slice none 0 0))
    (kk : ∀ s : SV, RdL (fun _ => True) w (Flat.val s) (f k) → K (Flat.val s)) : Qop P (Instr.lookup T (.map (some b)) (.int .i64 k) false) w K := by
  obtain ⟨s, h1, h2⟩ := h.look (P := P) (k := k) ht hk hz; exact ⟨_, h1, kk s h2⟩
/-- The map without the slice at k. -/
def pendX (b : Nat) (f : Int → List α) (k : Int) (s : SV) : HP := exH fun ks => exH fun ss : List SV => exH fun xss : List (List α) => exH fun vs : List Value =>
  fact ((∀ k', k' ≠ k → f k' = (look ks xss k').getD []) ∧ look ks vs k = (keyAt ks k).map (fun _ => Flat.val s) ∧ (keyAt ks k = none → s = ⟨none, 0, 0⟩) ∧ vs.length = ss.length ∧ ∀ (i : Nat) (k' : Int), ks[i]? = some k' → k' ≠ k → vs[i]? = (ss[i]?).map Flat.val) (sep (mapB b ks vs) (rowsP rowO ss xss))
theorem St.pendTake {k : Int} (hs : St w0 A (pendO b f :: L) w) : ∃ s : SV, St w0 A (ownL (Flat.val s) (f k) :: pendX b f k s :: L) w := by
  obtain ⟨ks, hs⟩ := hs.openEx; obtain ⟨ss, hs⟩ := hs.openEx; obtain ⟨xss, hs⟩ := hs.openEx; obtain ⟨hf, hs⟩ := hs.openF
  replace hs := hs.split
  have hm := hs.mapAt
  have hl := hm.len
  have hl2 := hs.p1.rowsPLen
  have hn := hm.nodup
  rw [List.length_map] at hl
  cases hkk : keyAt ks k with
  | none =>
    refine ⟨⟨none, 0, 0⟩, ?_⟩
    have hx : look ks xss k = none := by unfold look; rw [hkk]; rfl
    have e : f k = [] := by rw [hf]; dsimp only; rw [hx]; rfl
    rw [e]
    refine (St.shutEx ks (St.shutEx ss (St.shutEx xss (St.shutEx (ss.map Flat.val) (St.shutF ⟨fun k' _ => by rw [hf], by unfold look; rw [hkk]; rfl, fun _ => rfl, by rw [List.length_map], fun i k' _ _ => by rw [List.getElem?_map]⟩ (St.join hs)))))).ownNil
  | some j =>
    have hj := keyAt_some hkk
    have hjk := (List.getElem?_eq_some_iff.1 hj).1
    have hsj : ss[j]? = some (ss[j]'(by omega)) := List.getElem?_eq_getElem _
    have hxj : xss[j]? = some (xss[j]'(by omega)) := List.getElem?_eq_getElem _
    refine ⟨ss[j]'(by omega), ?_⟩
    have e : f k = xss[j]'(by omega) := by rw [hf]; dsimp only; rw [look_at hn hj hxj]; rfl
    rw [e]
    have h1 := (hs.p1.focus hsj hxj).p1
    have h2 := (h1.ownNil (α := α)).p1
    have h3 : St w0 A (rowO (⟨none, 0, 0⟩ : SV) ([] : List α) :: rowsX rowO ss xss j :: _ :: _ :: L) w := h2.p1
    have h4 := h3.unfocus' (by omega) hl2
    have h5 := h4.p2
    refine (St.shutEx ks (St.shutEx (ss.set j ⟨none, 0, 0⟩) (St.shutEx (xss.set j []) (St.shutEx (ss.map Flat.val) (St.shutF ⟨fun k' hk' => ?_, by unfold look; rw [hkk]; simp [hsj], fun h => (by cases hkk.symm.trans h), (by simp), fun i k' hi hk' => ?_⟩ (St.join h5)))))).p1
    · rw [hf]; dsimp only
      unfold look
      cases hq : keyAt ks k' with
      | none => rfl
      | some i =>
        have : j ≠ i := fun e => hk' (by have := keyAt_some hq; rw [← e, hj] at this; exact (Option.some.inj this).symm)
        simp [this]
    · rw [List.getElem?_map, List.getElem?_set_ne]
      rintro rfl
      rw [hj] at hi; exact hk' (Option.some.inj hi).symm
theorem St.pendXlook {T Kt E : TypeId} {k : Int} {s : SV} (hs : St w0 A (pendX b f k s :: L) w) (ht : P.underlying T = some (.map Kt E)) (hk : P.underlying Kt = some (.int .i64)) (hz : ZeroT P E (.slice none 0 0)) :
    (Instr.lookup T (.map (some b)) (.int .i64 k) false).run P w = .ok (Flat.val s) w := by
  obtain ⟨ks, hs⟩ := hs.openEx; obtain ⟨ss, hs⟩ := hs.openEx; obtain ⟨xss, hs⟩ := hs.openEx; obtain ⟨vs, hs⟩ := hs.openEx; obtain ⟨⟨_, h2, h3, _⟩, hs⟩ := hs.openF
  have := run_lookup (P := P) (k := k) hs.split.mapAt ht hk hz
  rw [h2] at this
  cases hkk : keyAt ks k with
  | none => rw [hkk] at this; rw [h3 hkk]; exact this
  | some j => rw [hkk] at this; exact this
/-- The slice at k is given back. -/
theorem St.pendBack {k : Int} {s : SV} {xs : List α} (hs : St w0 A (ownL (Flat.val s) xs :: pendX b f k s :: L) w) : St w0 A (pendO b (updF f k xs) :: L) w := by
  replace hs := hs.p1
  obtain ⟨ks, hs⟩ := hs.openEx; obtain ⟨ss, hs⟩ := hs.openEx; obtain ⟨xss, hs⟩ := hs.openEx; obtain ⟨vs, hs⟩ := hs.openEx; obtain ⟨⟨hf, h2, h3, hvs, hoth⟩, hs⟩ := hs.openF
  replace hs := hs.split
  have hm := hs.mapAt
  have hl := hm.len
  have hn := hm.nodup
  have hl2 := hs.p1.rowsPLen
  cases hkk : keyAt ks k with
  | none =>
    have hnk := keyAt_none.1 hkk
    have hval : vs = ss.map Flat.val := List.ext_getElem? fun i => by
      cases hi : ks[i]? with
      | none => rw [List.getElem?_eq_none_iff] at hi; rw [List.getElem?_eq_none (by omega), List.getElem?_eq_none (by rw [List.length_map]; omega)]
      | some k' => rw [hoth i k' hi (fun e => hnk (e ▸ List.mem_of_getElem? hi)), List.getElem?_map]
    have hx : xs = [] := by
      obtain ⟨F, h, _⟩ := hs.p2.head
      rw [h3 hkk] at h
      rcases h with ⟨_, h, _⟩ | ⟨b', cap, rest, h, _⟩
      · exact h
      · cases h
    subst hx
    refine St.shutEx ks (St.shutEx ss (St.shutEx xss (St.shutF ?_ (St.join ?_))))
    · funext k'
      unfold updF
      by_cases e : k' = k
      · subst e; rw [if_pos rfl, look_none hnk]; rfl
      · rw [if_neg e, hf k' e]
    · rw [← hval]; exact hs.p2.drop
  | some j =>
    have hj := keyAt_some hkk
    have hjk := (List.getElem?_eq_some_iff.1 hj).1
    have hsj : ss[j]? = some (ss[j]'(by omega)) := List.getElem?_eq_getElem _
    have hxj : xss[j]? = some (xss[j]'(by omega)) := List.getElem?_eq_getElem _
    have hvj : vs[j]? = some (Flat.val s) := by unfold look at h2; rw [hkk] at h2; exact h2
    have h6 := ((hs.p1.focus hsj hxj).drop).p2
    have h7 : St w0 A (rowO s xs :: rowsX rowO ss xss j :: _ :: L) w := h6.p0
    have h8 := h7.unfocus' (by omega) hl2
    refine St.shutEx ks (St.shutEx (ss.set j s) (St.shutEx (xss.set j xs) (St.shutF ?_ (St.join ?_))))
    · funext k'
      unfold updF
      by_cases e : k' = k
      · subst e
        rw [if_pos rfl, look_at hn hj (x := xs) (by rw [List.getElem?_set_self (by omega)])]; rfl
      · rw [if_neg e, hf k' e]
        unfold look
        cases hq : keyAt ks k' with
        | none => rfl
        | some i =>
          have : j ≠ i := fun e' => e (by have := keyAt_some hq; rw [← e', hj] at this; exact (Option.some.inj this).symm)
          simp [this]
    · have e : (ss.set j s).map Flat.val = vs := by
        apply List.ext_getElem?
        intro i
        rw [List.getElem?_map]
        by_cases e : j = i
        · subst e; rw [List.getElem?_set_self (by omega), hvj]; rfl
        · rw [List.getElem?_set_ne e]
          cases hi : ks[i]? with
          | none => rw [List.getElem?_eq_none_iff] at hi; rw [List.getElem?_eq_none (show vs.length ≤ i by omega), List.getElem?_eq_none (show ss.length ≤ i by omega)]; rfl
          | some k' => rw [hoth i k' hi (fun e' => e (by rw [e'] at hi; have h1 := keyAt_eq hn hi; rw [hkk] at h1; exact Option.some.inj h1))]
      rw [e]; exact h8.p1
omit [Flat α] in
theorem updF_same {f : Int → List α} {k : Int} : updF f k (f k) = f := by
  funext j; unfold updF; split
  · rename_i h; rw [h]
  · rfl
theorem uop_pendPut {T Kt E : TypeId} {k : Int} {s s' : SV} {xs : List α} {K : World → Prop} (hs : St w0 A (ownL (Flat.val s') xs :: pendX b f k s :: L) w) (ht : P.underlying T = some (.map Kt E)) (hk : P.underlying Kt = some (.int .i64))
    (kk : ∀ w', St w0 A (pendO b (updF f k xs) :: L) w' → K w') : Uop P (Instr.mapUpdate T (.map (some b)) (.int .i64 k) (Flat.val s')) w K := by
  replace hs := hs.p1
  obtain ⟨ks, hs⟩ := hs.openEx; obtain ⟨ss, hs⟩ := hs.openEx; obtain ⟨xss, hs⟩ := hs.openEx; obtain ⟨vs, hs⟩ := hs.openEx; obtain ⟨⟨hf, h2, h3, hvs, hoth⟩, hs⟩ := hs.openF
  replace hs := hs.split
  have hm := hs.mapAt
  have hl := hm.len
  have hn := hm.nodup
  have hl2 := hs.p1.rowsPLen
  obtain ⟨w', r1, r2, r3⟩ := run_put (P := P) (v := Flat.val s') (k := k) hm ht hk
  refine ⟨w', r1, kk w' ?_⟩
  cases hkk : keyAt ks k with
  | none =>
    rw [hkk] at r3
    have h5 : St w0 A (mapB b (ks ++ [k]) (vs ++ [Flat.val s']) :: _ :: _ :: L) w' := hs.turn fun F hF => ⟨F, ⟨r3, hF.2⟩, fun b hb => .inl hb, r2.mono fun k hk => (hF.2 k).2 hk⟩
    have hnk := keyAt_none.1 hkk
    have hval : vs = ss.map Flat.val := List.ext_getElem? fun i => by
      cases hi : ks[i]? with
      | none => rw [List.getElem?_eq_none_iff] at hi; rw [List.getElem?_eq_none (by omega), List.getElem?_eq_none (by rw [List.length_map]; omega)]
      | some k' => rw [hoth i k' hi (fun e => hnk (e ▸ List.mem_of_getElem? hi)), List.getElem?_map]
    have h6 := h5.p1
    have h7 : St w0 A (rowsP rowO (ss ++ [s']) (xss ++ [xs]) :: _ :: L) w' := St.rowsPAdd (H := rowO (α := α)) (p := s') (x := xs) h6.p2.p1
    refine St.shutEx (ks ++ [k]) (St.shutEx (ss ++ [s']) (St.shutEx (xss ++ [xs]) (St.shutF ?_ (St.join ?_))))
    · funext k'
      unfold updF
      by_cases e : k' = k
      · subst e
        rw [if_pos rfl, look_at (i := ks.length) r3.nodup (by simp) (x := xs) (by rw [List.getElem?_append_right (by omega)]; simp [show ks.length - xss.length = 0 from by omega])]; rfl
      · rw [if_neg e, hf k' e]
        by_cases hin : k' ∈ ks
        · obtain ⟨i, hi, hik⟩ := List.getElem_of_mem hin
          have hki : ks[i]? = some k' := by rw [List.getElem?_eq_getElem hi, hik]
          have hxi : xss[i]? = some (xss[i]'(by omega)) := List.getElem?_eq_getElem _
          rw [look_at hn hki hxi, look_at (i := i) r3.nodup (by rw [List.getElem?_append_left hi]; exact hki) (by rw [List.getElem?_append_left (by omega)]; exact hxi)]
        · rw [look_none hin, look_none (by simp [hin, e])]
    · have e : (ss ++ [s']).map Flat.val = vs ++ [Flat.val s'] := by rw [hval, List.map_append]; rfl
      rw [e]; exact h7.p1
  | some j =>
    rw [hkk] at r3
    have h5 : St w0 A (mapB b ks (vs.set j (Flat.val s')) :: _ :: _ :: L) w' := hs.turn fun F hF => ⟨F, ⟨r3, hF.2⟩, fun b hb => .inl hb, r2.mono fun k hk => (hF.2 k).2 hk⟩
    have hj := keyAt_some hkk
    have hjk := (List.getElem?_eq_some_iff.1 hj).1
    have hsj : ss[j]? = some (ss[j]'(by omega)) := List.getElem?_eq_getElem _
    have hxj : xss[j]? = some (xss[j]'(by omega)) := List.getElem?_eq_getElem _
    have h6 := ((h5.p1.focus hsj hxj).drop).p2
    have h7 : St w0 A (rowO s' xs :: rowsX rowO ss xss j :: _ :: L) w' := h6.p0
    have h8 := h7.unfocus' (by omega) hl2
    refine St.shutEx ks (St.shutEx (ss.set j s') (St.shutEx (xss.set j xs) (St.shutF ?_ (St.join ?_))))
    · funext k'
      unfold updF
      by_cases e : k' = k
      · subst e
        rw [if_pos rfl, look_at hn hj (x := xs) (by rw [List.getElem?_set_self (by omega)])]; rfl
      · rw [if_neg e, hf k' e]
        unfold look
        cases hq : keyAt ks k' with
        | none => rfl
        | some i =>
          have : j ≠ i := fun e' => e (by have := keyAt_some hq; rw [← e', hj] at this; exact (Option.some.inj this).symm)
          simp [this]
    · have e : (ss.set j s').map Flat.val = vs.set j (Flat.val s') := by
        apply List.ext_getElem?
        intro i
        rw [List.getElem?_map]
        by_cases e : j = i
        · subst e; rw [List.getElem?_set_self (by omega), List.getElem?_set_self (by omega)]; rfl
        · rw [List.getElem?_set_ne e, List.getElem?_set_ne e]
          cases hi : ks[i]? with
          | none => rw [List.getElem?_eq_none_iff] at hi; rw [List.getElem?_eq_none (show vs.length ≤ i by omega), List.getElem?_eq_none (show ss.length ≤ i by omega)]; rfl
          | some k' => rw [hoth i k' hi (fun e' => e (by rw [e'] at hi; have h1 := keyAt_eq hn hi; rw [hkk] at h1; exact Option.some.inj h1))]
      rw [e]; exact h8.p1
theorem eop_pendMake {T : TypeId} {K : Value → World → Prop} (hs : St w0 A L w) (k : ∀ b w', St w0 A (pendO b (fun _ => ([] : List α)) :: L) w' → K (.map (some b)) w') : Eop P (Instr.makeMap T none) w K :=
  eop_makeMap hs fun b w' h => k b w' (St.shutEx [] (St.shutEx [] (St.shutEx ([] : List (List α)) (St.shutF rfl (St.join ((h.new (Ext.refl w') (H := rowsP rowO [] []) (F := none1) (fun _ h => h) fun _ h => h.elim).p1))))))
theorem eop_pendDel {T Kt E R : TypeId} {k : Int} {A2 : Array TypeId} {K : Value → World → Prop} (hs : St w0 A (pendO b f :: L) w) (ha : A2[0]? = some T) (ht : P.underlying T = some (.map Kt E)) (hk : P.underlying Kt = some (.int .i64))
    (kk : ∀ v w', St w0 A (pendO b (updF f k []) :: L) w' → K v w') : Eop P (Builtin.delete_ A2 R [.map (some b), .int .i64 k].toArray) w K := by
  obtain ⟨ks, hs⟩ := hs.openEx; obtain ⟨ss, hs⟩ := hs.openEx; obtain ⟨xss, hs⟩ := hs.openEx; obtain ⟨hf, hs⟩ := hs.openF
  replace hs := hs.split
  have hm := hs.mapAt
  have hl := hm.len
  have hl2 := hs.p1.rowsPLen
  have hn := hm.nodup
  rw [List.length_map] at hl
  obtain ⟨w', r1, r2, r3⟩ := run_del (P := P) (R := R) (k := k) hm ha ht hk
  refine ⟨_, w', r1, kk _ w' ?_⟩
  cases hkk : keyAt ks k with
  | none =>
    rw [hkk] at r3
    have h5 : St w0 A (mapB b ks (ss.map Flat.val) :: _ :: L) w' := hs.turn fun F hF => ⟨F, ⟨r3, hF.2⟩, fun b hb => .inl hb, r2.mono fun k hk => (hF.2 k).2 hk⟩
    refine St.shutEx ks (St.shutEx ss (St.shutEx xss (St.shutF ?_ (St.join h5))))
    funext k'
    unfold updF
    by_cases e : k' = k
    · subst e; rw [if_pos rfl]; unfold look; rw [hkk]; rfl
    · rw [if_neg e, hf]
  | some j =>
    rw [hkk] at r3
    have hj := keyAt_some hkk
    have hjk := (List.getElem?_eq_some_iff.1 hj).1
    have h5 : St w0 A (mapB b (ks.eraseIdx j) ((ss.map Flat.val).eraseIdx j) :: _ :: L) w' := hs.turn fun F hF => ⟨F, ⟨r3, hF.2⟩, fun b hb => .inl hb, r2.mono fun k hk => (hF.2 k).2 hk⟩
    have hsj : ss[j]? = some (ss[j]'(by omega)) := List.getElem?_eq_getElem _
    have hxj : xss[j]? = some (xss[j]'(by omega)) := List.getElem?_eq_getElem _
    have h6 := (h5.p1.focus hsj hxj).drop.rowsErase
    dsimp only at r3
    rw [← ChangeMaps.map_eraseIdx] at h6 r3
    refine St.shutEx (ks.eraseIdx j) (St.shutEx (ss.eraseIdx j) (St.shutEx (xss.eraseIdx j) (St.shutF ?_ (St.join h6.p1))))
    funext k'
    unfold updF
    by_cases e : k' = k
    · subst e
      rw [if_pos rfl, look_none]; rfl
      intro hmem
      obtain ⟨i, hi, hik⟩ := List.getElem_of_mem hmem
      rw [List.getElem_eraseIdx] at hik
      split at hik
      · have := keyAt_eq (j := i) hn (k := k') (by rw [← hik]; exact List.getElem?_eq_getElem _); rw [hkk] at this; have := Option.some.inj this; omega
      · have := keyAt_eq (j := i + 1) hn (k := k') (by rw [← hik]; exact List.getElem?_eq_getElem _); rw [hkk] at this; have := Option.some.inj this; omega
    · rw [if_neg e, hf]; dsimp only
      by_cases hin : k' ∈ ks
      · obtain ⟨i, hi, hik⟩ := List.getElem_of_mem hin
        have hki : ks[i]? = some k' := by rw [List.getElem?_eq_getElem hi, hik]
        have hxi : xss[i]? = some (xss[i]'(by omega)) := List.getElem?_eq_getElem _
        have hij : i ≠ j := fun e' => e (by rw [e', hj] at hki; exact (Option.some.inj hki).symm)
        rw [look_at hn hki hxi]
        by_cases hlt : i < j
        · rw [look_at (i := i) r3.nodup (by rw [List.getElem?_eraseIdx_of_lt hlt]; exact hki) (by rw [List.getElem?_eraseIdx_of_lt hlt]; exact hxi)]
        · rw [look_at (i := i - 1) r3.nodup (by rw [List.getElem?_eraseIdx_of_ge (by omega), show i - 1 + 1 = i from by omega]; exact hki) (by rw [List.getElem?_eraseIdx_of_ge (by omega), show i - 1 + 1 = i from by omega]; exact hxi)]
      · rw [look_none hin, look_none (fun h => hin ((List.eraseIdx_sublist ks j).subset h))]
end

/-! ### copy -/
section
variable {α : Type} [Flat α] {P : Program} {w w0 w' : World} {A S : Nat → Prop} {L : List HP} {xs ys : List α}
theorem run_copyTo {T T2 E by' b o dn dc : Nat} {z : Option Nat} {R : TypeId} {src : Value} {cs : List Value} (ht : slFact P T = some (E, Flat.sz α, by', z)) (hb : Blk w b cs) (hsrc : RdL S w src ys)
    (hn : ys.length ≤ dn) (hfit : o + ys.length * Flat.sz α ≤ cs.length) :
    ∃ w', (Builtin.copy_ #[T, T2] R [.slice (some ⟨b, o, none⟩) dn dc, src].toArray).run P w = .ok (.int .i64 ys.length) w' ∧ Blk w' b (setAll cs o (flat ys)) ∧ Chg (· = b) w w' := by
  obtain ⟨hu, inf, hi, hsz, hbytes, _⟩ := slFact_spec ht
  have hf := run_first (α := α) (P := P) (sz := Flat.sz α) rfl hsrc
  have rd := hsrc
  obtain ⟨sa, scap, rfl, hsc, hs3⟩ := rd
  obtain ⟨w', h1, h2, h3⟩ := run_storeRow (P := P) (o := o) (flat ys) 0 cs w hb (by rw [flat_length]; omega) flat_one
  refine ⟨w', ?_, by simpa using h2, h3⟩
  simp [Builtin.copy_, run_underlying hu, sizeOf, typeInfo, hi, Builtin.lenOf, Nat.min_eq_left hn, hf, hsz, h1, goInt]
/-- copy to the beginning of what is owned. -/
theorem eop_copy {T T2 E by' : Nat} {z : Option Nat} {R : TypeId} {v src : Value} {K : Value → World → Prop} (hs : St w0 A (ownL v xs :: L) w) (ht : slFact P T = some (E, Flat.sz α, by', z)) (hsrc : RdL S w src ys) (hn : ys.length ≤ xs.length)
    (k : ∀ w', St w0 A (ownL v (ys ++ xs.drop ys.length) :: L) w' → K (.int .i64 ys.length) w') : Eop P (Builtin.copy_ #[T, T2] R [v, src].toArray) w K := by
  obtain ⟨U, F, U', g1, g2, g3, g4, g5⟩ := hs.seps
  rcases g1 with ⟨rfl, rfl, hF⟩ | ⟨b, cap, rest, rfl, hb, hl, hF⟩
  · obtain rfl : ys = [] := by simpa using hn
    obtain ⟨hu, inf, hi, hsz, hbytes, _⟩ := slFact_spec ht
    have hf := run_first (α := α) (P := P) (sz := Flat.sz α) rfl hsrc
    obtain ⟨sa, scap, rfl, hsc, hs3⟩ := hsrc
    refine ⟨_, w, ?_, k w hs⟩
    simp at hf
    simp [Builtin.copy_, run_underlying hu, sizeOf, typeInfo, hi, Builtin.lenOf, hsz, hf, goInt]
  · have hle : ys.length * Flat.sz α ≤ xs.length * Flat.sz α := Nat.mul_le_mul_right _ hn
    obtain ⟨w', h1, h2, h3⟩ := run_copyTo (P := P) (o := 0) (dn := xs.length) (dc := cap) (T2 := T2) (R := R) ht hb hsrc hn (by rw [List.length_append, flat_length]; omega)
    refine ⟨_, w', h1, k w' (hs.turn fun F' hF' => ?_)⟩
    rcases hF' with ⟨h, _⟩ | ⟨b', cap', rest', hv, hb', hl', hF'⟩
    · cases h
    · simp only [Value.slice.injEq, Option.some.injEq, Addr.mk.injEq, and_true, true_and] at hv
      obtain ⟨rfl, rfl⟩ := hv
      refine ⟨F', .inr ⟨b, cap, rest, ?_, ?_, ?_, hF'⟩, fun b hb => .inl hb, h3.mono fun k hk => (hF' k).2 hk⟩
      · congr 1; rw [List.length_append, List.length_drop]; omega
      · have e : flat xs = [] ++ flat (xs.take ys.length) ++ flat (xs.drop ys.length) := by rw [List.nil_append, ← flat_append, List.take_append_drop]
        have := setAll_mid [] (flat (xs.take ys.length)) (flat (xs.drop ys.length) ++ rest) (flat ys) (by rw [flat_length, flat_length, List.length_take, Nat.min_eq_left hn])
        rw [List.length_nil] at this
        rw [e, List.append_assoc, this] at h2
        rw [flat_append, List.append_assoc]; exact h2
      · rw [List.length_append, flat_length, List.length_append, List.length_drop, show ys.length + (xs.length - ys.length) = xs.length from by omega, ← flat_length (xs := xs), ← List.length_append]; exact hl
end
end Go.Fw
namespace Go.Fw
open Go.MapKept (Stamped IsKey)
open Go.ChangeMaps (setBlock)
section
variable {P : Program} {w w0 w' : World} {A : Nat → Prop} {L : List HP} {b r : Nat}
/-- An iterator over a map. -/
def iterB (r m since : Nat) (seen : Array Nat) : HP where
  p w F := w.heap[r]? = some (.mapIter (some m) since seen since) ∧ ∀ k, F k ↔ k = r
  loc w w' F h hh := ⟨(hh r ((h.2 r).2 rfl)).trans h.1, h.2⟩
  lt w F b' h hb := by rw [(h.2 b').1 hb]; exact lt_of_heap h.1
theorem eop_range {T Kt E : TypeId} {es : Array MapEntry} {clock : Nat} {K : Value → World → Prop} (hs : St w0 A L w) (ht : P.underlying T = some (.map Kt E)) (hb : w.heap[b]? = some (.map es clock))
    (k : ∀ r w', St w0 A (iterB r b clock #[] :: L) w' → K (.pointer (some ⟨r, 0, none⟩)) w') : Eop P (Instr.range T (.map (some b))) w K :=
  ⟨_, _, run_range_map w T Kt E b es clock ht hb, k _ _ (hs.new (Ext.push w _) (F := fun k => k = w.heap.size) ⟨push_new _ _, fun _ => Iff.rfl⟩ fun b hb => by rw [hb]; exact Nat.le_refl _)⟩
theorem eop_next {T since : Nat} {seen : Array Nat} {es : Array MapEntry} {K : Value → World → Prop} (hs : St w0 A (iterB r b since seen :: L) w) (hb : w.heap[b]? = some (.map es since)) (hold : ∀ x ∈ es.toList, x.born < since)
    (k0 : (leftOf es seen).size = 0 → K (.tuple #[.bool false]) w)
    (k1 : ∀ e w', e ∈ (leftOf es seen).toList → St w0 A (iterB r b since (seen.push e.born) :: L) w' → K (.tuple #[.bool true, e.key, e.val]) w') : Eop P (Instr.next (.pointer (some ⟨r, 0, none⟩)) false T) w K := by
  obtain ⟨F, h, _⟩ := hs.head
  rcases run_next_at (P := P) w T r b since since seen es since h.1 hb hold (Nat.le_refl _) with ⟨h1, h2⟩ | ⟨e, he, w1, hw, h2⟩
  · exact ⟨_, w, h2, k0 h1⟩
  · have e1 : St w0 A (iterB r b since seen :: L) w1 := by
      rcases hw with rfl | rfl
      · exact hs
      · exact hs.ext ⟨rfl, rfl, rfl, Nat.le_refl _, fun _ _ _ => rfl⟩
    refine ⟨_, _, h2, k1 e _ he (e1.turn fun F hF => ⟨F, ⟨setBlock_eq _ (lt_of_heap hF.1), hF.2⟩, fun b hb => .inl hb, (Chg.setBlock w1 r _).mono fun k hk => (hF.2 k).2 hk⟩)⟩
theorem qop_entry {since : Nat} {seen : Array Nat} {es : Array MapEntry} {e : MapEntry} {K : Value → Prop} (hs : St w0 A (iterB r b since (seen.push e.born) :: L) w) (hb : w.heap[b]? = some (.map es since)) (he : e ∈ es.toList) (hn : (es.toList.map (·.born)).Nodup)
    (k : K (.tuple #[e.key, e.val])) : Qop P (Instr.entry (.pointer (some ⟨r, 0, none⟩))) w K := by
  obtain ⟨F, h, _⟩ := hs.head
  exact ⟨_, run_entry_at w r b since seen es since e h.1 hb he hn, k⟩
/-- The map of slices, as its entries lie. -/
theorem PendR.es {α : Type} [Flat α] {f : Int → List α} (h : PendR w b f) : ∃ es clock, w.heap[b]? = some (.map es clock) ∧ Stamped es clock ∧ (∀ e ∈ es.toList, ∃ k, ∃ s : SV, e.key = .int .i64 k ∧ e.val = Flat.val s ∧ RdL (fun _ => True) w (Flat.val s) (f k)) ∧ ∀ k, (∀ e ∈ es.toList, e.key ≠ .int .i64 k) → f k = [] := by
  obtain ⟨ks, ss, ⟨es, clock, h1, h2, h3, h4⟩, h5, h6⟩ := h
  have hlk : es.toList.length = ks.length := by have := congrArg List.length h3; simpa using this
  have hls : es.toList.length = ss.length := by have := congrArg List.length h4; simpa using this
  refine ⟨es, clock, h1, h2, fun e he => ?_, fun k hk => h6 k fun hm => ?_⟩
  · obtain ⟨i, hi, rfl⟩ := List.getElem_of_mem he
    refine ⟨ks[i]'(by omega), ss[i]'(by omega), ?_, ?_, h5 i _ _ (List.getElem?_eq_getElem _) (List.getElem?_eq_getElem _)⟩
    · have := congrArg (·[i]?) h3
      simp only [List.getElem?_map, List.getElem?_eq_getElem hi, List.getElem?_eq_getElem (show i < ks.length by omega)] at this
      exact Option.some.inj this
    · have := congrArg (·[i]?) h4
      simp only [List.getElem?_map, List.getElem?_eq_getElem hi, List.getElem?_eq_getElem (show i < ss.length by omega)] at this
      exact Option.some.inj this
  · have : Value.int .i64 k ∈ es.toList.map (·.key) := by rw [h3]; exact List.mem_map.2 ⟨k, hm, rfl⟩
    obtain ⟨e, he, hk'⟩ := List.mem_map.1 this
    exact hk e he hk'
theorem heap_ext {o : Obj} (h : w.heap[b]? = some o) (e : Ext w w') : w'.heap[b]? = some o := (e.blk b (lt_of_heap h) fun h => h).trans h
theorem contains_pushI {seen : Array Nat} {x y : Nat} (h : (seen.push x).contains y = true) : seen.contains y = true ∨ y = x := by
  simp at h ⊢; exact h
theorem born_inj {es : Array MapEntry} (hn : (es.toList.map (·.born)).Nodup) {e e' : MapEntry} (h : e ∈ es.toList) (h' : e' ∈ es.toList) (hb : e.born = e'.born) : e = e' := by
  obtain ⟨i, hi, rfl⟩ := List.getElem_of_mem h
  obtain ⟨j, hj, rfl⟩ := List.getElem_of_mem h'
  have := (List.getElem_inj (i := i) (j := j) (h₀ := by simpa using hi) (h₁ := by simpa using hj) hn).1 (by simpa using hb)
  subst this; rfl
end

/-! ### Arrays of whole numbers -/
section
variable {P : Program} {w w0 w' : World} {A : Nat → Prop} {L : List HP} {b r : Nat}
def ArrN (P : Program) (n T E : Nat) : Prop := P.underlying T = some (.array n E) ∧ P.underlying E = some (.int .i64) ∧ pr P (sizeOf E) = some 1
abbrev arrV (xs : List Int) : Value := .agg (xs.map (Value.int .i64)).toArray
theorem pr_forIn {β : Type} {f : Nat → β → Sem (ForInStep β)} {g : Nat → Bool} {x0 stop : β} : ∀ l : List Nat, (∀ i ∈ l, pr P (f i x0) = some (if g i = true then .yield x0 else .done stop)) → pr P (forIn l x0 f) = some (if l.all g = true then x0 else stop)
  | [], _ => by simp [pr_pure]
  | i :: l, h => by
    rw [List.forIn_cons, pr_bind, h i (by simp)]
    by_cases hg : g i = true
    · rw [if_pos hg]
      simp only [Option.bind_some]
      rw [pr_forIn l fun j hj => h j (by simp [hj])]
      simp [hg]
    · rw [if_neg hg]
      simp [hg, pr_pure]
theorem pr_partArr {E : TypeId} {xs : List Int} {i : Nat} (hE : P.underlying E = some (.int .i64)) (hi : i < xs.length) : pr P (part E (xs.map (Value.int .i64)).toArray i) = some (.int .i64 xs[i]) :=
  pr_part (n := 0) hE rfl (by simp [hi])
theorem pr_arrN {n T E : Nat} {xs ys : List Int} (h : ArrN P n T E) (hx : xs.length = n) (hy : ys.length = n) : pr P (Op.equal T (arrV xs) (arrV ys)) = some (decide (xs = ys)) := by
  obtain ⟨ht, he, hs⟩ := h
  have e : ∀ x y : Int, pr P (Op.equalIn 9999 E (.int .i64 x) (.int .i64 y)) = some (decide (x = y)) := fun x y => by
    rw [pr_eqSimple (k := 9998) (n := 0) he rfl rfl rfl]; rfl
  show pr P (Op.equalIn (9999 + 1) T _ _) = _
  unfold Op.equalIn
  rw [pr_bind, pr_underlying ht]
  simp only [Option.bind_some, pr_bind, hs]
  simp only [Std.Legacy.Range.forIn_eq_forIn_range', Std.Legacy.Range.size, Nat.sub_zero, Nat.add_sub_cancel, Nat.div_one, Nat.mul_one]
  rw [pr_forIn (g := fun i => decide (xs[i]? = ys[i]?)) (stop := ⟨some false, PUnit.unit⟩)]
  · by_cases hxy : xs = ys
    · subst hxy
      simp [pr_pure]
    · have : (List.range' 0 n).all (fun i => decide (xs[i]? = ys[i]?)) = false := by
        rw [List.all_eq_false]
        apply Classical.byContradiction
        intro hc
        apply hxy
        apply List.ext_getElem?
        intro i
        apply Classical.byContradiction
        intro hne
        by_cases hi : i < n
        · exact hc ⟨i, by simp [List.mem_range']; omega, by simpa using hne⟩
        · exact hne (by rw [List.getElem?_eq_none (by omega), List.getElem?_eq_none (by omega)])
      simp [this, hxy, pr_pure]
  · intro i hi
    have hi' : i < n := by simp [List.mem_range'] at hi; omega
    simp only [pr_bind, pr_partArr he (show i < xs.length by omega), pr_partArr he (show i < ys.length by omega), Option.bind_some, e]
    rw [List.getElem?_eq_getElem (show i < xs.length by omega), List.getElem?_eq_getElem (show i < ys.length by omega)]
    by_cases hq : xs[i]'(by omega) = ys[i]'(by omega)
    · simp [hq, pr_pure]
    · simp [hq, pr_pure]
/-- A set of arrays, as a map to truths. -/
def hadB (b n : Nat) (ks : List (List Int)) : HP where
  p w F := (∃ es clock, w.heap[b]? = some (.map es clock) ∧ es.toList.map (·.key) = ks.map arrV ∧ (∀ e ∈ es.toList, e.val = .bool true) ∧ ∀ k ∈ ks, k.length = n) ∧ ∀ k, F k ↔ k = b
  loc w w' F h hh := by
    obtain ⟨⟨es, c, h1, h2⟩, h3⟩ := h; exact ⟨⟨es, c, (hh b ((h3 b).2 rfl)).trans h1, h2⟩, h3⟩
  lt w F b' h hb := by obtain ⟨⟨es, c, h1, h2⟩, h3⟩ := h; rw [(h3 b').1 hb]; exact lt_of_heap h1
theorem eop_hadMake {T n : TypeId} {K : Value → World → Prop} (hs : St w0 A L w) (k : ∀ b w', St w0 A (hadB b n [] :: L) w' → K (.map (some b)) w') : Eop P (Instr.makeMap T none) w K :=
  ⟨_, _, rfl, k _ _ (hs.new (Ext.push w (.map #[] 0)) (F := fun k => k = w.heap.size) ⟨⟨#[], 0, push_new _ _, rfl, by simp, by simp⟩, fun _ => Iff.rfl⟩ fun b hb => by rw [hb]; exact Nat.le_refl _)⟩
theorem asking {T E n : Nat} {x : List Int} (h : ArrN P n T E) (hx : x.length = n) : ∀ (es : List MapEntry) (ks : List (List Int)) (i : Nat), es.map (·.key) = ks.map arrV → (∀ k ∈ ks, k.length = n) → (∀ e ∈ es, e.val = .bool true) →
    (x ∉ ks ∧ pr P (Instr.findAsking T (arrV x) es i) = some none) ∨ (x ∈ ks ∧ ∃ j, pr P (Instr.findAsking T (arrV x) es i) = some (some (j, .bool true)))
  | [], ks, i, hk, _, _ => by
    have : ks = [] := by simpa using hk.symm
    subst this
    exact .inl ⟨by simp, rfl⟩
  | e :: es, [], i, hk, _, _ => by simp at hk
  | e :: es, k :: ks, i, hk, hl, hv => by
    simp only [List.map_cons, List.cons.injEq] at hk
    have he : pr P (Op.equal T (arrV x) e.key) = some (decide (x = k)) := by rw [hk.1]; exact pr_arrN h hx (hl k (by simp))
    unfold Instr.findAsking
    rw [pr_bind, he]
    simp only [Option.bind_some]
    by_cases hxk : x = k
    · subst hxk
      refine .inr ⟨by simp, i, ?_⟩
      simp [pr_pure, hv e (by simp)]
    · rcases asking h hx es ks (i + 1) hk.2 (fun k hk => hl k (by simp [hk])) (fun e he => hv e (by simp [he])) with ⟨h1, h2⟩ | ⟨h1, j, h2⟩
      · exact .inl ⟨by simp [hxk, h1], by simp [hxk, h2]⟩
      · exact .inr ⟨by simp [h1], j, by simp [hxk, h2]⟩
theorem pr_checkInt {E : TypeId} {x : Int} {em : Bool} (hE : P.underlying E = some (.int .i64)) : pr P (Instr.checkKey em 9999 E (.int .i64 x)) = some () := by
  show pr P (Instr.checkKey em (9998 + 1) E _) = _
  unfold Instr.checkKey
  rw [pr_bind, pr_underlying hE]; rfl
theorem pr_forUnit {f : Nat → PUnit → Sem (ForInStep PUnit)} : ∀ l : List Nat, (∀ i ∈ l, pr P (f i ⟨⟩) = some (.yield ⟨⟩)) → pr P (forIn l PUnit.unit f) = some ⟨⟩
  | [], _ => by simp [pr_pure]
  | i :: l, h => by
    rw [List.forIn_cons, pr_bind, h i (by simp)]
    simp only [Option.bind_some]
    exact pr_forUnit l fun j hj => h j (by simp [hj])
theorem pr_checkArr {T E n : Nat} {x : List Int} {em : Bool} (h : ArrN P n T E) (hx : x.length = n) : pr P (Instr.checkKey em 10000 T (arrV x)) = some () := by
  obtain ⟨ht, he, hs⟩ := h
  show pr P (Instr.checkKey em (9999 + 1) T _) = _
  unfold Instr.checkKey
  rw [pr_bind, pr_underlying ht]
  simp only [Option.bind_some, pr_bind, hs]
  simp only [Std.Legacy.Range.forIn_eq_forIn_range', Std.Legacy.Range.size, Nat.sub_zero, Nat.add_sub_cancel, Nat.div_one, Nat.mul_one]
  rw [pr_forUnit]
  · rfl
  · intro i hi
    have hi' : i < n := by simp [List.mem_range'] at hi; omega
    simp only [pr_bind, hs, Option.bind_some, Nat.mul_one, pr_partArr he (show i < x.length by omega), pr_checkInt he, pr_pure]
theorem findArr {T E n : Nat} {x : List Int} {es : List MapEntry} {ks : List (List Int)} (h : ArrN P n T E) (hx : x.length = n) (hk : es.map (·.key) = ks.map arrV) (hl : ∀ k ∈ ks, k.length = n) (hv : ∀ e ∈ es, e.val = .bool true) :
    (x ∉ ks ∧ pr P (Instr.findKey T (arrV x) es) = some none) ∨ (x ∈ ks ∧ ∃ j, pr P (Instr.findKey T (arrV x) es) = some (some (j, .bool true))) := by
  unfold Instr.findKey
  rw [pr_bind, pr_underlying h.1]
  simp only [Option.bind_some]
  cases es with
  | nil =>
    have : ks = [] := by simpa using hk.symm
    subst this
    exact .inl ⟨by simp, rfl⟩
  | cons e es => exact asking h hx (e :: es) ks 0 hk hl hv
theorem qop_had {T Kt E Et n : Nat} {x : List Int} {ks : List (List Int)} {K : Value → Prop} (hs : St w0 A (hadB b n ks :: L) w) (ht : P.underlying T = some (.map Kt Et)) (h : ArrN P n Kt E) (hz : ZeroT P Et (.bool false)) (hx : x.length = n)
    (k : K (.bool (decide (x ∈ ks)))) : Qop P (Instr.lookup T (.map (some b)) (arrV x) false) w K := by
  obtain ⟨F, ⟨⟨es, c, h1, h2, h3, h4⟩, h5⟩, _⟩ := hs.head
  refine ⟨_, ?_, k⟩
  have hz' : (zeroValue Et).run P w = .ok (.bool false) w := by
    unfold ZeroT zeroFact at hz
    cases hi : P.info? Et with
    | none => rw [hi] at hz; cases hz
    | some i =>
      rw [hi] at hz
      simp only [Option.map_some, Option.some.injEq] at hz
      refine run_of_pr ?_ w
      unfold zeroValue; rw [pr_bind, pr_typeInfo hi]; simp only [Option.bind_some, hz]; rfl
  have hc := run_of_pr (pr_checkArr (em := es.isEmpty) h hx) w
  rcases findArr h hx h2 h4 h3 with ⟨h6, h7⟩ | ⟨h6, j, h7⟩
  · have h8 := run_of_pr h7 w
    simp [Instr.lookup, run_underlying ht, MapKept.run_getObj_map h1, hc, h8, hz', Result.andThen, h6]
  · have h8 := run_of_pr h7 w
    simp [Instr.lookup, run_underlying ht, MapKept.run_getObj_map h1, hc, h8, Result.andThen, h6]
theorem uop_had {T Kt E Et n : Nat} {x : List Int} {ks : List (List Int)} {K : World → Prop} (hs : St w0 A (hadB b n ks :: L) w) (ht : P.underlying T = some (.map Kt Et)) (h : ArrN P n Kt E) (hx : x.length = n) (hnew : x ∉ ks)
    (k : ∀ w', St w0 A (hadB b n (ks ++ [x]) :: L) w' → K w') : Uop P (Instr.mapUpdate T (.map (some b)) (arrV x) (.bool true)) w K := by
  obtain ⟨F, ⟨⟨es, c, h1, h2, h3, h4⟩, h5⟩, _⟩ := hs.head
  have hc := run_of_pr (pr_checkArr (em := false) h hx) w
  rcases findArr h hx h2 h4 h3 with ⟨h6, h7⟩ | ⟨h6, j, h7⟩
  · have h8 := run_of_pr h7 w
    refine ⟨setBlock w b (.map (es.push ⟨arrV x, .bool true, c⟩) (c + 1)), ?_, k _ (hs.turn fun F' hF => ⟨F', ⟨⟨_, _, setBlock_eq _ (lt_of_heap h1), by simp [h2], ?_, ?_⟩, hF.2⟩, fun b hb => .inl hb, (Chg.setBlock w b _).mono fun k hk => (hF.2 k).2 hk⟩)⟩
    · simp [Instr.mapUpdate, run_underlying ht, MapKept.run_getObj_map h1, hc, h8, run_setMap h1, Result.andThen]
    · intro e he; simp at he; rcases he with he | rfl
      · exact h3 e (by simpa using he)
      · rfl
    · intro q hq; simp at hq; rcases hq with hq | rfl
      · exact h4 q hq
      · exact hx
  · exact absurd h6 hnew
/-- A call that turns the thing at the head; the rest stays. -/
theorem callMut2 {f : FuncId} {args : List Value} {H : HP} {H' : Value → HP} {Φ : Value → World → Prop} {K : Value → World → Prop} (pl : Plain P f) (hs : St w0 A (H :: L) w)
    (hc : ∀ F, H.p w F → (∀ w', Chg F w w' → St w0 A L w') → Calls P f args.toArray w (Ret fun v w' => Φ v w' ∧ Mut F (H' v) w w')) (k : ∀ v w', Φ v w' → St w0 A (H' v :: L) w' → K v w') : CallF P f args w K := by
  obtain ⟨U, F, U', h1, h2, h3, h4, h5⟩ := hs.seps
  refine callF pl (hc F h1 fun w' hw => ⟨hs.chg.trans hw (fun _ h => h) fun b hb hf => (h2 b hf).elim id fun hh => by omega, U', h5.loc fun b hb => hw.blk b (h5.lt b hb) fun hf => h3 b hf hb⟩) fun v w' ⟨hΦ, hM⟩ => k v w' hΦ (hs.muted h2 h3 h5 hM)
theorem callMutV {g : FuncId} {args first cap : List Value} {H : HP} {H' : Value → HP} {Φ : Value → World → Prop} {K : Value → World → Prop} (pl : Plain P g) (hs : St w0 A (H :: L) w)
    (hc : ∀ F, H.p w F → (∀ w', Chg F w w' → St w0 A L w') → Calls P g (first ++ args ++ cap).toArray w (Ret fun v w' => Φ v w' ∧ Mut F (H' v) w w')) (k : ∀ v w', Φ v w' → St w0 A (H' v :: L) w' → K v w') : CallV P (.func (.func g) first.toArray cap.toArray) args w K := by
  obtain ⟨U, F, U', h1, h2, h3, h4, h5⟩ := hs.seps
  refine callV pl (hc F h1 fun w' hw => ⟨hs.chg.trans hw (fun _ h => h) fun b hb hf => (h2 b hf).elim id fun hh => by omega, U', h5.loc fun b hb => hw.blk b (h5.lt b hb) fun hf => h3 b hf hb⟩) fun v w' ⟨hΦ, hM⟩ => k v w' hΦ (hs.muted h2 h3 h5 hM)
theorem pop_slArr {T E n : Nat} {K : Value → Prop} (h : ArrN P n T E) (k : K (.slice (some ⟨b, 0, none⟩) n n)) : Pop P (Instr.sliceAt T (.pointer (some ⟨b, 0, none⟩)) none none none) K := by
  refine ⟨_, ?_, k⟩
  unfold Instr.sliceAt
  rw [pr_bind, pr_underlying h.1]
  simp only [Option.bind_some, Instr.sureAddr, pr_bind, pr_pure, Instr.sliceBounds, h.2.2]
  simp [add_none]
theorem keyPad {xs : List Int} {n : Nat} (h : xs.length ≤ n) : setAll (List.replicate n (Value.int .i64 0)) 0 (flat xs) = (xs ++ List.replicate (n - xs.length) 0).map (Value.int .i64) := by
  have hf : flat xs = xs.map (Value.int .i64) := by
    induction xs with
    | nil => rfl
    | cons x xs ih => rw [flat_cons, ih (by simp at h; omega)]; rfl
  have hl : (flat xs).length = xs.length := by rw [hf, List.length_map]
  have := setAll_mid [] (List.replicate xs.length (Value.int .i64 0)) (List.replicate (n - xs.length) (Value.int .i64 0)) (flat xs) (by rw [List.length_replicate, hl])
  rw [List.nil_append, List.nil_append, List.replicate_append_replicate, show xs.length + (n - xs.length) = n from by omega, List.length_nil] at this
  rw [this, hf, List.map_append, List.map_replicate]
/-- copy into an array's box. -/
theorem eop_copyBox {T T2 E by' n dc : Nat} {z : Option Nat} {R : TypeId} {src : Value} {cs : List Value} {ys : List Int} {S : Nat → Prop} {K : Value → World → Prop} (hs : St w0 A (blk b cs :: L) w) (ht : slFact P T = some (E, Flat.sz Int, by', z)) (hsrc : RdL S w src ys) (hn : ys.length ≤ n) (hfit : ys.length ≤ cs.length)
    (k : ∀ w', St w0 A (blk b (setAll cs 0 (flat ys)) :: L) w' → K (.int .i64 ys.length) w') : Eop P (Builtin.copy_ #[T, T2] R [.slice (some ⟨b, 0, none⟩) n dc, src].toArray) w K := by
  obtain ⟨w', h1, h2, h3⟩ := run_copyTo (P := P) (o := 0) (dn := n) (dc := dc) (T2 := T2) (R := R) ht hs.hb hsrc hn (by change 0 + ys.length * 1 ≤ _; omega)
  exact ⟨_, w', h1, k w' (hs.turn fun F hF => ⟨F, ⟨h2, hF.2⟩, fun b hb => .inl hb, h3.mono fun k hk => (hF.2 k).2 hk⟩)⟩
end
def Has (H : HP) (w : World) : Prop := ∃ F, H.p w F
theorem St.has {w w0 : World} {A : Nat → Prop} {L : List HP} {H : HP} (hs : St w0 A (H :: L) w) : Has H w := by obtain ⟨F, h, _⟩ := hs.head; exact ⟨F, h⟩
theorem Has.ext {H : HP} {w w' : World} (h : Has H w) (e : Ext w w') : Has H w' := by
  obtain ⟨F, h⟩ := h; exact ⟨F, H.loc _ _ _ h fun b hb => e.blk b (H.lt _ _ _ h hb) fun x => x⟩
theorem Has.of {H : HP} {w : World} {F : Nat → Prop} (h : H.p w F) : Has H w := ⟨F, h⟩
theorem Has.st {H : HP} {w : World} (h : Has H w) : ∃ F, St w F [H] w := by obtain ⟨F, h⟩ := h; exact ⟨F, St.begin h⟩
end Go.Fw
namespace Go.Fw
open Go.MapKept (Stamped IsKey)
open Go.ChangeMaps (setBlock)
abbrev SI := ByteArray × Int
def kvE (p : SI) : Value × Value := (.string p.1, .int .i64 p.2)
/-- A map of texts to numbers, as it lies: these entries, in some order. -/
def MapP (w : World) (b : Nat) (l : List SI) : Prop :=
  ∃ es clock, w.heap[b]? = some (.map es clock) ∧ Stamped es clock ∧ (es.toList.map fun e => (e.key, e.val)).Perm (l.map kvE)
/-- What lies at a text. -/
def lookS : List SI → ByteArray → Int
  | [], _ => 0
  | p :: r, k => if p.1 = k then p.2 else lookS r k
theorem lookS_mem : ∀ {l : List SI} {p : SI}, (l.map (·.1)).Nodup → p ∈ l → lookS l p.1 = p.2
  | q :: r, p, hn, hm => by
    rw [List.map_cons, List.nodup_cons] at hn
    rcases List.mem_cons.1 hm with rfl | hm
    · unfold lookS; rw [if_pos rfl]
    · have : q.1 ≠ p.1 := fun e => hn.1 (List.mem_map.2 ⟨p, hm, e.symm⟩)
      unfold lookS; rw [if_neg this]; exact lookS_mem hn.2 hm
theorem lookS_none : ∀ {l : List SI} {k : ByteArray}, (∀ p ∈ l, p.1 ≠ k) → lookS l k = 0
  | [], _, _ => rfl
  | q :: r, k, h => by
    unfold lookS; rw [if_neg (h q (List.mem_cons_self ..))]; exact lookS_none fun p hp => h p (List.mem_cons_of_mem _ hp)
theorem lookS_zero {l : List SI} {k : ByteArray} (hn : (l.map (·.1)).Nodup) (hz : ∀ p ∈ l, p.2 ≠ 0) (h : lookS l k = 0) : ∀ p ∈ l, p.1 ≠ k := fun p hp e => by
  subst e; exact hz p hp ((lookS_mem hn hp).symm.trans h)
section
variable {P : Program} {w w0 w' : World} {A : Nat → Prop} {L : List HP} {b : Nat} {l : List SI}
theorem MapP.of_eq (h : MapP w b l) (hh : w'.heap[b]? = w.heap[b]?) : MapP w' b l := by
  obtain ⟨es, c, h1, h2⟩ := h; exact ⟨es, c, hh.trans h1, h2⟩
theorem MapP.lt (h : MapP w b l) : b < w.heap.size := by obtain ⟨es, c, h1, _⟩ := h; exact lt_of_heap h1
theorem MapP.ext (h : MapP w b l) (e : Ext w w') : MapP w' b l := h.of_eq (e.blk b h.lt fun h => h)
theorem MapP.nodup (h : MapP w b l) : (l.map (·.1)).Nodup := by
  obtain ⟨es, c, _, h2, h3⟩ := h
  have h4 := (h3.map Prod.fst)
  rw [List.map_map, List.map_map] at h4
  have h5 : (l.map fun p => Value.string p.1).Nodup := h4.nodup_iff.1 h2.2.2
  exact (List.pairwise_map.1 h5).imp (fun h e => h (by rw [e])) |> fun h => List.pairwise_map.2 h
theorem MapP.perm {l' : List SI} (h : MapP w b l) (hp : l.Perm l') : MapP w b l' := by
  obtain ⟨es, c, h1, h2, h3⟩ := h; exact ⟨es, c, h1, h2, h3.trans (hp.map _)⟩
def mapP (b : Nat) (l : List SI) : HP where
  p w F := MapP w b l ∧ ∀ k, F k ↔ k = b
  loc w w' F h hh := ⟨h.1.of_eq (hh b ((h.2 b).2 rfl)), h.2⟩
  lt w F b' h hb := by rw [(h.2 b').1 hb]; exact h.1.lt
theorem entS {es : Array MapEntry} (h3 : (es.toList.map fun e => (e.key, e.val)).Perm (l.map kvE)) {e : MapEntry} (he : e ∈ es.toList) : ∃ p ∈ l, e.key = .string p.1 ∧ e.val = .int .i64 p.2 := by
  have : (e.key, e.val) ∈ l.map kvE := h3.mem_iff.1 (List.mem_map.2 ⟨e, he, rfl⟩)
  obtain ⟨p, hp, hk⟩ := List.mem_map.1 this
  unfold kvE at hk
  simp only [Prod.mk.injEq] at hk
  exact ⟨p, hp, hk.1.symm, hk.2.symm⟩
theorem entS' {es : Array MapEntry} (h3 : (es.toList.map fun e => (e.key, e.val)).Perm (l.map kvE)) {p : SI} (hp : p ∈ l) : ∃ e ∈ es.toList, e.key = .string p.1 ∧ e.val = .int .i64 p.2 := by
  have : kvE p ∈ es.toList.map fun e => (e.key, e.val) := h3.mem_iff.2 (List.mem_map.2 ⟨p, hp, rfl⟩)
  obtain ⟨e, he, hk⟩ := List.mem_map.1 this
  unfold kvE at hk
  simp only [Prod.mk.injEq] at hk
  exact ⟨e, he, hk⟩
theorem find_keyS {T : TypeId} {k : ByteArray} {es : Array MapEntry} (hT : P.underlying T = some .string) (h3 : (es.toList.map fun e => (e.key, e.val)).Perm (l.map kvE)) :
    ((∀ p ∈ l, p.1 ≠ k) ∧ (Instr.findKey T (.string k) es.toList).run P w = .ok none w) ∨ ∃ j p, p ∈ l ∧ p.1 = k ∧ (Instr.findKey T (.string k) es.toList).run P w = .ok (some (j, .int .i64 p.2)) w := by
  rcases MapKept.findNow_spec (d := .string) (k := .string k) (by simp [IsKey]) es.toList 0 (fun x hx => by obtain ⟨p, _, e, _⟩ := entS h3 hx; rw [e]; simp [IsKey]) with ⟨h1, h2⟩ | ⟨j, e, h1, h2, h4⟩
  · refine .inl ⟨fun p hp e => ?_, MapKept.run_findKey hT h1⟩
    obtain ⟨x, hx, e1, _⟩ := entS' h3 hp
    exact h2 x hx (by rw [e1, e])
  · obtain ⟨p, hp, e1, e2⟩ := entS h3 (List.mem_of_getElem? h2)
    rw [h4] at e1; injection e1 with e1
    refine .inr ⟨j, p, hp, e1.symm, ?_⟩
    rw [Nat.zero_add, e2] at h1
    exact MapKept.run_findKey hT h1
/-- m[k]. -/
theorem run_lookupS {T Kt E : TypeId} {k : ByteArray} (h : MapP w b l) (ht : P.underlying T = some (.map Kt E)) (hk : P.underlying Kt = some .string) (hz : ZeroT P E (.int .i64 0)) :
    (Instr.lookup T (.map (some b)) (.string k) false).run P w = .ok (.int .i64 (lookS l k)) w := by
  have hn := h.nodup
  obtain ⟨es, c, h1, h2, h3⟩ := h
  have hz' : (zeroValue E).run P w = .ok (.int .i64 0) w := by
    unfold ZeroT zeroFact at hz
    cases hi : P.info? E with
    | none => rw [hi] at hz; cases hz
    | some i =>
      rw [hi] at hz
      simp only [Option.map_some, Option.some.injEq] at hz
      refine run_of_pr ?_ w
      unfold zeroValue; rw [pr_bind, pr_typeInfo hi]; simp only [Option.bind_some, hz]; rfl
  have hc := MapKept.run_checkKey (P := P) (w := w) (kt := Kt) (k := .string k) hk (by simp [IsKey]) es.isEmpty 9999
  rcases find_keyS (w := w) (k := k) hk h3 with ⟨h5, h6⟩ | ⟨j, p, h5, h6, h7⟩
  · simp [Instr.lookup, run_underlying ht, MapKept.run_getObj_map h1, hc, h6, hz', Result.andThen, lookS_none h5]
  · subst h6
    simp [Instr.lookup, run_underlying ht, MapKept.run_getObj_map h1, hc, h7, Result.andThen, lookS_mem hn h5]
/-- m[k] = v, where there was nothing. -/
theorem run_putS {T Kt E : TypeId} {v : Int} {k : ByteArray} (h : MapP w b l) (ht : P.underlying T = some (.map Kt E)) (hk : P.underlying Kt = some .string) (hno : ∀ p ∈ l, p.1 ≠ k) :
    ∃ w', (Instr.mapUpdate T (.map (some b)) (.string k) (.int .i64 v)).run P w = .ok () w' ∧ Chg (· = b) w w' ∧ MapP w' b (l ++ [(k, v)]) := by
  have hlt := h.lt
  obtain ⟨es, c, h1, h2, h3⟩ := h
  have hc := MapKept.run_checkKey (P := P) (w := w) (kt := Kt) (k := .string k) hk (by simp [IsKey]) false 9999
  rcases find_keyS (w := w) (k := k) hk h3 with ⟨h5, h6⟩ | ⟨j, p, h5, h6, h7⟩
  · refine ⟨_, ?_, Chg.setBlock w b (.map (es.push ⟨.string k, .int .i64 v, c⟩) (c + 1)), ?_⟩
    · simp [Instr.mapUpdate, run_underlying ht, MapKept.run_getObj_map h1, hc, h6, run_setMap h1, Result.andThen]
    · refine ⟨_, _, setBlock_eq _ hlt, MapKept.stamped_push h2 fun x hx e => ?_, ?_⟩
      · obtain ⟨p, hp, e1, _⟩ := entS h3 hx
        rw [e1] at e; injection e with e
        exact hno p hp e
      · rw [Array.toList_push, List.map_append, List.map_append]
        exact h3.append (List.Perm.refl _)
  · exact absurd h6 (hno p h5)
theorem eop_mapP {T : TypeId} {K : Value → World → Prop} (hs : St w0 A L w) (k : ∀ b w', St w0 A (mapP b [] :: L) w' → K (.map (some b)) w') : Eop P (Instr.makeMap T none) w K :=
  ⟨_, _, rfl, k _ _ (hs.new (Ext.push w (.map #[] 0)) (F := fun k => k = w.heap.size) ⟨⟨#[], 0, push_new _ _, ⟨by simp, by simp, by simp⟩, by simp⟩, fun _ => Iff.rfl⟩ fun b hb => by rw [hb]; exact Nat.le_refl _)⟩
theorem St.mapP (hs : St w0 A (mapP b l :: L) w) : MapP w b l := by obtain ⟨F, h, _⟩ := hs.head; exact h.1
theorem qop_lookS {T Kt E : TypeId} {k : ByteArray} {K : Value → Prop} (h : MapP w b l) (ht : P.underlying T = some (.map Kt E)) (hk : P.underlying Kt = some .string) (hz : ZeroT P E (.int .i64 0)) (kk : K (.int .i64 (lookS l k))) : Qop P (Instr.lookup T (.map (some b)) (.string k) false) w K :=
  ⟨_, run_lookupS h ht hk hz, kk⟩
theorem uop_putS {T Kt E : TypeId} {v : Int} {k : ByteArray} {K : World → Prop} (hs : St w0 A (Fw.mapP b l :: L) w) (ht : P.underlying T = some (.map Kt E)) (hk : P.underlying Kt = some .string) (hno : ∀ p ∈ l, p.1 ≠ k)
    (kk : ∀ w', St w0 A (Fw.mapP b (l ++ [(k, v)]) :: L) w' → K w') : Uop P (Instr.mapUpdate T (.map (some b)) (.string k) (.int .i64 v)) w K := by
  obtain ⟨w', h1, h2, h3⟩ := run_putS (P := P) (v := v) (k := k) hs.mapP ht hk hno
  exact ⟨w', h1, kk w' (hs.turn fun F hF => ⟨F, ⟨h3, hF.2⟩, fun b hb => .inl hb, h2.mono fun k hk => (hF.2 k).2 hk⟩)⟩
theorem key_inj {es : Array MapEntry} (hn : (es.toList.map (·.key)).Nodup) {e e' : MapEntry} (h : e ∈ es.toList) (h' : e' ∈ es.toList) (hb : e.key = e'.key) : e = e' := by
  obtain ⟨i, hi, rfl⟩ := List.getElem_of_mem h
  obtain ⟨j, hj, rfl⟩ := List.getElem_of_mem h'
  have := (List.getElem_inj (i := i) (j := j) (h₀ := by simpa using hi) (h₁ := by simpa using hj) hn).1 (by simpa using hb)
  subst this; rfl
theorem si_inj {l : List SI} (hn : (l.map (·.1)).Nodup) {p q : SI} (hp : p ∈ l) (hq : q ∈ l) (h : p.1 = q.1) : p = q := by
  have h1 := lookS_mem hn hp
  have h2 := lookS_mem hn hq
  rw [h] at h1
  exact Prod.ext h (h1.symm.trans h2)
end
end Go.Fw
