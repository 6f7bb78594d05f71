/-
  The evaluator: operations on maps; every operation. Own work; nothing here is trusted.
-/
import Derived.Test.YtddeoncipdpkfaaGreatDoorZEv10
set_option linter.all false
namespace Go.Fw
section
variable {P : Program} {Fr : Fram} {ρ : Rn} {h h' : Hp} {w : World} {v : V} {n n' : Nat} {e : En} {e' : Env}
theorem s_mkm {T : TypeId} (hR : RH P Fr ρ h w) (hh : evMkm h n = .ok v h' n') : Eop P (Instr.makeMap T none) w (Pst P Fr ρ v h') := by
  obtain ⟨hn, hh⟩ := alloc_ok hh
  obtain ⟨rfl, rfl, _⟩ := ok_inj hh
  have le := ext_le (q := ⟨w.heap.size, 0, 0, 0⟩) (hR.fresh n hn)
  exact ⟨.map (some w.heap.size), push w (.map #[] 0), rfl, _, le, hR.new hn rfl rfl (.inl ⟨by decide, [], rfl, rfl⟩), ⟨_, ext_at _ _ _, rfl⟩⟩
theorem s_look {T kt et : TypeId} {s ok : Bool} {d : TypeDesc} {z : V} {p q : Oq} {x y : Value} (hu : P.underlying T = some (.map kt et)) (hk : P.underlying kt = some d) (hd : kindOk s d) (hz : zeroV P et = some z)
    (hR : RH P Fr ρ h w) (hx : RV ρ (evq e p) x) (hy : RV ρ (evq e q) y) (hh : evLook e h n s z ok p q = .ok v h' n') : Qop P (Instr.lookup T x y ok) w fun y => Pst P Fr ρ v h' y w := by
  obtain ⟨r, e1, hh⟩ := okM hh
  obtain ⟨c, l, hb, hh⟩ := okHM hh
  rw [e1] at hx
  obtain ⟨qq, hq, rfl⟩ := hx
  obtain ⟨q2, o2, g1, g2, g3⟩ := hR.map0 hb
  rw [hq] at g1; cases g1
  -- what is answered
  have fin : ∀ {b : Bool} {u : V} {yy : Value} {vv : Value × Bool}, lookR h n ok b u = .ok v h' n' → RV ρ u yy → vv = (yy, b) → Pst P Fr ρ v h' (if ok then .tuple #[vv.1, .bool vv.2] else vv.1) w := by
    intro b u yy vv hh hv he
    subst he
    cases ok with
    | true => obtain ⟨rfl, rfl, _⟩ := ok_inj (show OR.ok (.t (.c u (.c (.b b) .e))) h n = _ from hh); exact hR.post ⟨[yy, .bool b], ⟨_, _, rfl, hv, _, _, rfl, rfl, rfl⟩, rfl⟩
    | false =>
      have hh : u.fc (fun v => .ok v h n) = .ok v h' n' := hh
      rw [V.fc_eq] at hh
      obtain ⟨rfl, rfl, _⟩ := ok_inj hh
      exact hR.post hv
  rcases g3 with ⟨_, es, rfl, g3⟩ | ⟨_, sl, g3, es, ck, rfl, g4, g5⟩
  case inr =>
    have hget := run_get (P := P) g2 (fun _ _ _ hh => by cases hh)
    obtain ⟨zy, z1, z2⟩ := zeroV_ok (ρ := ρ) hz
    have none' : (∀ e ∈ es.toList, e.key ≠ y) → (Instr.findNow d y es.toList 0 = some none) → lookR h n ok false z = .ok v h' n' → Qop P (Instr.lookup T (.map (some qq.k)) y ok) w fun y => Pst P Fr ρ v h' y w := fun _ hf h1 =>
      ⟨_, by simp [Instr.lookup, run_underlying hu, hget, run_of_pr (pr_check hd hk) w, run_of_pr (pr_find hk hf) w, run_of_pr z1 w], fin (vv := (zy, false)) h1 z2 rfl⟩
    have hkey : ∀ e ∈ es.toList, ∃ p ∈ sl, e.key = .string p.1 ∧ e.val = .int .i64 p.2 := fun e he => by
      have : (e.key, e.val) ∈ sl.map (fun p => (Value.string p.1, Value.int .i64 p.2)) := g5.mem_iff.1 (List.mem_map.2 ⟨e, he, rfl⟩)
      obtain ⟨p, hp, hk⟩ := List.mem_map.1 this
      simp only [Prod.mk.injEq] at hk
      exact ⟨p, hp, hk.1.symm, hk.2.symm⟩
    have hkey' : ∀ p ∈ sl, ∃ e ∈ es.toList, e.key = .string p.1 ∧ e.val = .int .i64 p.2 := fun p hp => by
      have : (Value.string p.1, Value.int .i64 p.2) ∈ es.toList.map fun e => (e.key, e.val) := g5.mem_iff.2 (List.mem_map.2 ⟨p, hp, rfl⟩)
      obtain ⟨e, he, hk⟩ := List.mem_map.1 this
      simp only [Prod.mk.injEq] at hk
      exact ⟨e, he, hk⟩
    cases sl with
    | nil =>
      have h0 : es.toList = [] := by have := g5.length_eq; simpa using this
      have hl : l = .nil := by cases l with
        | nil => rfl
        | cons _ _ _ _ => obtain ⟨_, _, _, _, _, _, h9, _⟩ := g3; cases h9
      subst hl
      exact none' (by rw [h0]; simp) (by rw [h0]; rfl) hh
    | cons p0 sl' =>
      have hstr : ∃ n1 m1, evq e q = .s n1 m1 ∧ s = true := by
        cases l with
        | nil => cases g3
        | cons k u b r =>
          obtain ⟨n1, m1, x1, _, rfl, _, _, _⟩ := g3
          cases s with
          | false => obtain ⟨t, i, _, hh1⟩ := okI (show (evq e q).onI .no _ = .ok v h' n' from hh); cases hh1
          | true => obtain ⟨n2, m2, e2, _⟩ := okS (show (evq e q).onS .no _ = .ok v h' n' from hh); exact ⟨n2, m2, e2, rfl⟩
      obtain ⟨n1, m1, hx1, rfl⟩ := hstr
      rw [hx1] at hy
      obtain rfl : y = .string (strOf n1 m1) := hy
      obtain rfl : d = .string := by cases d <;> first | rfl | exact hd.elim
      have hik : ∀ x ∈ es.toList, MapKept.IsKey .string x.key := fun x hx => by obtain ⟨p, _, e1, _⟩ := hkey x hx; rw [e1]; simp [MapKept.IsKey]
      have spec := MapKept.findNow_spec (d := .string) (k := .string (strOf n1 m1)) (by simp [MapKept.IsKey]) es.toList 0 hik
      rcases findS_ok g3 hh with ⟨h1, h2⟩ | ⟨n2, m2, p, h2, h3, h4, h5⟩
      · have hne : ∀ e ∈ es.toList, e.key ≠ .string (strOf n1 m1) := fun e he hk => by
          obtain ⟨p, hp, e1, _⟩ := hkey e he
          obtain ⟨n3, m3, e3, e4⟩ := h2 p hp
          rw [hx1] at e3; injection e3 with e5 e6; subst e5; subst e6
          rw [e1] at hk; injection hk with hk
          exact e4 hk
        rcases spec with ⟨s1, _⟩ | ⟨j, e, _, s2, s3⟩
        · exact none' hne s1 h1
        · exact absurd s3 (hne e (List.mem_of_getElem? s2))
      · rw [hx1] at h2; injection h2 with e5 e6; subst e5; subst e6
        obtain ⟨e0, he0, k1, k2⟩ := hkey' p h3
        rcases spec with ⟨_, s2⟩ | ⟨j, e, s1, s2, s3⟩
        · exact absurd (k1.trans (by rw [h4])) (s2 e0 he0)
        · have he := List.mem_of_getElem? s2
          have hee : e = e0 := by
            obtain ⟨i, hi, rfl⟩ := List.getElem_of_mem he
            obtain ⟨j', hj, rfl⟩ := List.getElem_of_mem he0
            have := (List.getElem_inj (i := i) (j := j') (h₀ := by simpa using hi) (h₁ := by simpa using hj) g4.2.2).1 (by simp only [List.getElem_map]; rw [s3, k1, h4])
            subst this; rfl
          subst hee
          rw [k2] at s1
          exact ⟨_, by simp [Instr.lookup, run_underlying hu, hget, run_of_pr (pr_check hd hk) w, run_of_pr (pr_find hk s1) w], fin (vv := (.int .i64 p.2, true)) h5 rfl rfl⟩
  have hget := run_get (P := P) g2 (fun _ _ _ hh => by cases hh)
  rcases findV_ok (i := 0) hd hy g3 hh with ⟨h1, h2⟩ | ⟨u, j, yy, h1, h2, h3⟩
  · obtain ⟨zy, z1, z2⟩ := zeroV_ok (ρ := ρ) hz
    exact ⟨_, by simp [Instr.lookup, run_underlying hu, hget, run_of_pr (pr_check hd hk) w, run_of_pr (pr_find hk h2) w, run_of_pr z1 w], fin (vv := (zy, false)) h1 z2 rfl⟩
  · exact ⟨_, by simp [Instr.lookup, run_underlying hu, hget, run_of_pr (pr_check hd hk) w, run_of_pr (pr_find hk h3) w], fin (vv := (yy, true)) h1 h2 rfl⟩
theorem s_mup {T kt et : TypeId} {s : Bool} {d : TypeDesc} {p q r : Oq} {x y z : Value} (hu : P.underlying T = some (.map kt et)) (hk : P.underlying kt = some d) (hd : kindOk s d)
    (hR : RH P Fr ρ h w) (hx : RV ρ (evq e p) x) (hy : RV ρ (evq e q) y) (hz : RV ρ (evq e r) z) (hh : evMup e h n s p q r = .ok v h' n') : Uop P (Instr.mapUpdate T x y z) w fun w' => Pst P Fr ρ v h' undef w' := by
  obtain ⟨b, e1, hh⟩ := okM hh
  obtain ⟨c, l, hb, hclt, hh⟩ := okHMx hh
  rw [e1] at hx
  obtain ⟨qq, hq, rfl⟩ := hx
  obtain ⟨q2, es, g1, g2, g3⟩ := hR.map hb hclt
  rw [hq] at g1; cases g1
  have hget := run_get (P := P) g2 (fun _ _ _ hh => by cases hh)
  rw [V.fc_eq] at hh
  obtain ⟨c', l', h1, h2⟩ := setV_ok (i := 0) hd hy hz g3 hh
  obtain ⟨hcl, h1⟩ := iffO_ok h1
  have hcl := blt_lt hcl
  obtain ⟨rfl, rfl, _⟩ := ok_inj h1
  have key : ∀ {o : Obj}, Body P ρ (.m c' l') qq o → (Instr.mapUpdate T (.map (some qq.k)) y z).run P w = .ok () (setO w qq.k o) → Uop P (Instr.mapUpdate T (.map (some qq.k)) y z) w fun w' => Pst P Fr ρ und (putH h (.m c' l') b) undef w' :=
    fun hB hr => ⟨_, hr, ρ, Le.refl _, hR.setM (live_m hb) hq g2 hB, und_spec ρ⟩
  rcases h2 with ⟨h2, rfl, h3⟩ | ⟨j, en, h2, h3, h4, rfl, h5⟩
  · refine key (.inl ⟨hcl, _, rfl, h3⟩) ?_
    unfold Instr.mapUpdate
    rw [run_bind_ok (run_of_pr (pr_underlying hu) w)]
    dsimp only
    rw [run_bind_ok hget]
    dsimp only
    rw [run_bind_ok (run_of_pr (pr_check hd hk) w), run_bind_ok (run_of_pr (pr_find hk h2) w)]
    dsimp only
    rw [show (List.toArray es).push ⟨y, z, c⟩ = List.toArray (es ++ [⟨y, z, c⟩]) from by simp]
    exact run_set g2 (fun _ _ _ hh => by cases hh)
  · refine key (.inl ⟨hcl, _, rfl, h5⟩) ?_
    unfold Instr.mapUpdate
    rw [run_bind_ok (run_of_pr (pr_underlying hu) w)]
    dsimp only
    rw [run_bind_ok hget]
    dsimp only
    rw [run_bind_ok (run_of_pr (pr_check hd hk) w), run_bind_ok (run_of_pr (pr_find hk h2) w)]
    dsimp only
    rw [Nat.zero_add]
    have hkey : (Instr.keyThatStays ((((List.toArray es)[j]?).map (·.key)).getD y) y).run P w = .ok y w := by
      rw [List.getElem?_toArray, h3]
      unfold Instr.keyThatStays
      show (if Instr.sameBits 10000 en.key y = true then _ else _ : Sem Value).run P w = _
      rw [if_pos h4]; rfl
    rw [run_bind_ok hkey]
    rw [show (List.toArray es).modify j (fun e => { e with key := y, val := z }) = List.toArray (es.modify j fun e => { e with key := y, val := z }) from by simp]
    exact run_set g2 (fun _ _ _ hh => by cases hh)
theorem s_del {T U R kt et : TypeId} {s : Bool} {d : TypeDesc} {p q : Oq} {x y : Value} (hu : P.underlying T = some (.map kt et)) (hk : P.underlying kt = some d) (hd : kindOk s d)
    (hR : RH P Fr ρ h w) (hx : RV ρ (evq e p) x) (hy : RV ρ (evq e q) y) (hh : evDel e h n s p q = .ok v h' n') : Eop P (Builtin.delete_ #[T, U] R [x, y].toArray) w (Pst P Fr ρ v h') := by
  obtain ⟨b, e1, hh⟩ := okM hh
  obtain ⟨c, l, hb, hclt, hh⟩ := okHMx hh
  rw [e1] at hx
  obtain ⟨qq, hq, rfl⟩ := hx
  obtain ⟨q2, es, g1, g2, g3⟩ := hR.map hb hclt
  rw [hq] at g1; cases g1
  have hget := run_get (P := P) g2 (fun _ _ _ hh => by cases hh)
  obtain ⟨l', h1, h2⟩ := delV_ok (i := 0) hd hy g3 hh
  obtain ⟨rfl, rfl, _⟩ := ok_inj h1
  rcases h2 with ⟨h2, h3⟩ | ⟨j, yy, h2, h3⟩
  · have hset := run_set (P := P) (o' := .map (List.toArray es) c) g2 (fun _ _ _ hh => by cases hh)
    refine ⟨undef, _, ?_, ρ, Le.refl _, hR.setM (live_m hb) hq g2 (.inl ⟨hclt, _, rfl, h3⟩), und_spec ρ⟩
    simp [Builtin.delete_, run_underlying hu, hget, run_of_pr (pr_check hd hk) w, run_of_pr (pr_find hk h2) w, hset]
    rfl
  · rw [Nat.zero_add] at h2
    have hset := run_set (P := P) (o' := .map (List.toArray (es.eraseIdx j)) c) g2 (fun _ _ _ hh => by cases hh)
    refine ⟨undef, _, ?_, ρ, Le.refl _, hR.setM (live_m hb) hq g2 (.inl ⟨hclt, _, rfl, h3⟩), und_spec ρ⟩
    simp [Builtin.delete_, run_underlying hu, hget, run_of_pr (pr_check hd hk) w, run_of_pr (pr_find hk h2) w, hset]
    rfl
theorem s_lenM {T R kt et : TypeId} {p : Oq} {x : Value} (hu : P.underlying T = some (.map kt et)) (hR : RH P Fr ρ h w) (hx : RV ρ (evq e p) x) (hh : evLen e h n .map p = .ok v h' n') :
    Qop P (Builtin.len_ #[T] R [x].toArray) w fun y => Pst P Fr ρ v h' y w := by
  obtain ⟨b, e1, hh⟩ := okM hh
  obtain ⟨c, l, hb, hh⟩ := okHM hh
  obtain ⟨rfl, rfl, _⟩ := ok_inj hh
  rw [e1] at hx
  obtain ⟨qq, hq, rfl⟩ := hx
  obtain ⟨q2, o2, g1, g2, g3⟩ := hR.map0 hb
  rw [hq] at g1; cases g1
  have : ∃ es ck, o2 = .map es ck ∧ es.size = lenM l := by
    rcases g3 with ⟨_, es, rfl, g3⟩ | ⟨_, sl, g3, es, ck, rfl, g4, g5⟩
    · exact ⟨_, _, rfl, by rw [len_m g3]; simp⟩
    · exact ⟨_, _, rfl, by rw [len_s g3]; have := g5.length_eq; simpa using this⟩
  obtain ⟨es, ck, rfl, hlen⟩ := this
  have hget := run_get (P := P) g2 (fun _ _ _ hh => by cases hh)
  refine qopP (y := goInt (es.size : Int)) ?_ hR (show _ = _ by rw [hlen]; rfl)
  simp [Builtin.len_, run_underlying hu, hget]
theorem s_rng {T kt et : TypeId} {p : Oq} {x : Value} (hu : P.underlying T = some (.map kt et)) (hR : RH P Fr ρ h w) (hx : RV ρ (evq e p) x) (hh : evRng e h n p = .ok v h' n') : Eop P (Instr.range T x) w (Pst P Fr ρ v h') := by
  obtain ⟨b, e1, hh⟩ := okM hh
  obtain ⟨c, l, hb, hclt, hh⟩ := okHMx hh
  obtain ⟨hn, hh⟩ := alloc_ok hh
  obtain ⟨rfl, rfl, _⟩ := ok_inj hh
  rw [e1] at hx
  obtain ⟨qq, hq, rfl⟩ := hx
  obtain ⟨q2, es, g1, g2, g3⟩ := hR.map hb hclt
  rw [hq] at g1; cases g1
  have hget := run_get (P := P) g2 (fun _ _ _ hh => by cases hh)
  have le := ext_le (q := ⟨w.heap.size, 0, 0, 0⟩) (hR.fresh n hn)
  refine ⟨.pointer (some ⟨w.heap.size, 0, none⟩), push w (.mapIter (some qq.k) c #[] c), ?_, _, le, hR.new hn rfl rfl ⟨rfl, qq, le _ _ hq, rfl⟩, ⟨_, ext_at _ _ _, rfl⟩⟩
  simp [Instr.range, run_underlying hu, hget, push]
theorem live_it {a b c d f r : Nat} (hb : getH h r = .it a b c d f) : live (getH h r) := by rw [hb]; trivial
/-- A way over a map, opened, with its map. -/
theorem RH.iter {r m c st b k c' : Nat} {l : ML} (hR : RH P Fr ρ h w) (hb : getH h r = .it m c st b k) (hm : getH h m = .m c' l) (hclt : c' < 4294967296) : ∃ q qm es, ρ r = some q ∧ q.b = 0 ∧ ρ m = some qm ∧ w.heap[q.k]? = some (.mapIter (some qm.k) c (if st = 0 then #[] else #[b]) k) ∧
    w.heap[qm.k]? = some (.map (List.toArray es) c') ∧ RM ρ l es := by
  obtain ⟨q, o, h1, h2, h3⟩ := hR.lv r (live_it hb)
  rw [hb] at h3
  obtain ⟨h0, qm, h4, rfl⟩ := h3
  obtain ⟨q2, es, g1, g2, g3⟩ := hR.map hm hclt
  rw [h4] at g1; cases g1
  exact ⟨q, qm, es, h1, h0, h4, h2, g2, g3⟩
theorem s_ent {p : Oq} {x : Value} (hR : RH P Fr ρ h w) (hx : RV ρ (evq e p) x) (hh : evEnt e h n p = .ok v h' n') : Qop P (Instr.entry x) w fun y => Pst P Fr ρ v h' y w := by
  obtain ⟨r, o, e1, hh⟩ := okP hh
  obtain ⟨ho, hh⟩ := iffO_ok hh
  have ho := nb_eq ho
  obtain ⟨m, c, st, b, k, hb, hh⟩ := okHT hh
  obtain ⟨c', l, hm, hclt, hh⟩ := okHMx hh
  obtain ⟨q, qm, es, g1, g0, g2, g3, g4, g5⟩ := hR.iter hb hm hclt
  rw [e1] at hx
  obtain ⟨q', hq, rfl⟩ := hx
  rw [g1] at hq; cases hq
  subst ho
  rw [g0]
  have get1 := run_get (P := P) g3 (fun _ _ _ hh => by cases hh)
  have get2 := run_get (P := P) g4 (fun _ _ _ hh => by cases hh)
  unfold one1 at hh
  cases l with
  | nil => cases hh
  | cons kk u b' r' =>
    cases r' with
    | cons _ _ _ _ => cases hh
    | nil =>
      obtain ⟨en, es', rfl, h1, h2, h3, h4⟩ := g5
      obtain rfl : es' = [] := h4
      obtain ⟨hc, hh5⟩ := iffO_ok (show iffO (andB (Nat.beq st 1) (andB (Nat.beq c' k) (Nat.beq b b'))) _ .no = .ok v h' n' from hh)
      obtain ⟨c1, hc⟩ := and_ok hc
      obtain ⟨c2, c3⟩ := and_ok hc
      have c1 := nb_eq c1
      have c2 := nb_eq c2
      have c3 := nb_eq c3
      obtain ⟨e1', e2', _⟩ := ok_inj hh5
      subst c1; subst c2; subst c3; subst e1'; subst e2'
      refine qopP (y := .tuple #[en.key, en.val]) ?_ hR ⟨[en.key, en.val], ⟨_, _, rfl, h1, _, _, rfl, h2, rfl⟩, rfl⟩
      subst h3
      simp [Instr.entry, get1, get2]
theorem s_nxt {T : TypeId} {p : Oq} {x : Value} (hR : RH P Fr ρ h w) (hx : RV ρ (evq e p) x) (hh : evNxt e h n p = .ok v h' n') : Eop P (Instr.next x false T) w (Pst P Fr ρ v h') := by
  obtain ⟨r, o, e1, hh⟩ := okP hh
  obtain ⟨ho, hh⟩ := iffO_ok hh
  have ho := nb_eq ho
  obtain ⟨m, c, st, b, k, hb, hh⟩ := okHT hh
  obtain ⟨c', l, hm, hclt, hh⟩ := okHMx hh
  obtain ⟨q, qm, es, g1, g0, g2, g3, g4, g5⟩ := hR.iter hb hm hclt
  rw [e1] at hx
  obtain ⟨q', hq, rfl⟩ := hx
  rw [g1] at hq; cases hq
  subst ho
  rw [g0]
  have get1 := run_get (P := P) g3 (fun _ _ _ hh => by cases hh)
  have get2 := run_get (P := P) g4 (fun _ _ _ hh => by cases hh)
  have over : ∀ {v' : V} {hh' : Hp} {m' : Nat}, OR.ok over1 h n = .ok v' hh' m' → Pst P Fr ρ v' hh' (.tuple #[.bool false]) w := fun hh => by
    obtain ⟨rfl, rfl, _⟩ := ok_inj hh
    exact hR.post ⟨[.bool false], ⟨_, _, rfl, rfl, rfl⟩, rfl⟩
  unfold one1 at hh
  cases l with
  | nil =>
    obtain rfl : es = [] := g5
    refine ⟨_, w, ?_, over hh⟩
    simp [Instr.next, get1, get2, Question.forced]
  | cons kk u b' r' =>
    cases r' with
    | cons _ _ _ _ => cases hh
    | nil =>
      obtain ⟨en, es', rfl, h1, h2, h3, h4⟩ := g5
      obtain rfl : es' = [] := h4
      cases st with
      | zero =>
        obtain ⟨hlt, hh⟩ := iffO_ok (show iffO (Nat.blt b' c) _ .no = .ok v h' n' from hh)
        have hlt := blt_lt hlt
        obtain ⟨rfl, rfl, _⟩ := ok_inj hh
        refine ⟨.tuple #[.bool true, en.key, en.val], setO w q.k (.mapIter (some qm.k) c #[b'] c'), ?_, ρ, Le.refl _, hR.setM (live_it hb) g1 g3 ⟨g0, qm, g2, rfl⟩, ⟨[.bool true, en.key, en.val], ⟨_, _, rfl, rfl, _, _, rfl, h1, _, _, rfl, h2, rfl⟩, rfl⟩⟩
        subst h3
        have hset := run_set (P := P) (o' := .mapIter (some qm.k) c #[en.born] c') g3 (fun _ _ _ hh => by cases hh)
        have hn : ¬ c ≤ en.born := by omega
        have get1 : (getObj q.k).run P w = .ok (.mapIter (some qm.k) c #[] k) w := get1
        simp [Instr.next, get1, get2, hlt, hn, Question.forced, hset]
      | succ st =>
        obtain ⟨hc, hh5⟩ := iffO_ok (show iffO (andB (Nat.beq b b') (Nat.blt b' k)) _ .no = .ok v h' n' from hh)
        obtain ⟨c1, c2⟩ := and_ok hc
        have c1 := nb_eq c1
        have c2 := blt_lt c2
        have ov := over hh5
        subst c1
        refine ⟨_, w, ?_, ov⟩
        subst h3
        simp [Instr.next, get1, get2, c2, Question.forced]
end
end Go.Fw
