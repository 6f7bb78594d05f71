/-
  The names that a thread sees: legal.regs.
-/
import Derived.Test.YtddeoncipdpkfaaGreatDoorZD
import Derived.Test.YtddeoncipdpkfaaGreatDoorZSh1
import Derived.Test.YtddeoncipdpkfaaGreatDoorZFw33
import Derived.KernelRfl
import Derived.Test.YtddeoncipdpkfaaGreatDoorZEv18
set_option linter.all false
namespace Go.Proofs.YtddeoncipdpkfaaGreatDoor
open Go.Fw

set_option maxRecDepth 100000
theorem drop_get {α : Type} {l : List α} {k : Nat} {e : α} (h : l[k]? = some e) : l.drop k = e :: l.drop (k + 1) := by
  obtain ⟨h1, h2⟩ := List.getElem?_eq_some_iff.1 h
  rw [List.drop_eq_getElem_cons h1, h2]
/-- The registers, put behind what is there; none: one stands there already. -/
def regsG : List SI → List ByteArray → Option (List SI)
  | g, [] => some g
  | g, n :: r => if lookS g n = 0 then regsG (g ++ [(n, 5)]) r else none
def regsM (l : List SI) (names : List ByteArray) : Option (List SI) := regsG (l.filter fun p => decide (¬ p.2 = 4)) names
theorem regsG_go {g : List SI} {ns : List ByteArray} {k : Nat} {n : ByteArray} (h : ns[k]? = some n) (hz : lookS g n = 0) : regsG g (ns.drop k) = regsG (g ++ [(n, 5)]) (ns.drop (k + 1)) := by
  rw [drop_get h, regsG, if_pos hz]
theorem regsG_at {g : List SI} {ns : List ByteArray} {k : Nat} {n : ByteArray} (h : ns[k]? = some n) (hz : ¬ lookS g n = 0) : regsG g (ns.drop k) = none := by
  rw [drop_get h, regsG, if_neg hz]
/-- What legal.regs answers. -/
def RegsP (r : Option (List SI)) (v : Value) (w w' : World) : Prop :=
  (r = none ∧ v = .tuple #[.map none, .bool true] ∧ Ext w w') ∨ ∃ g b, r = some g ∧ v = .tuple #[.map (some b), .bool false] ∧ New (mapP b g) w w'
theorem C78 (tv : TThreadV) (names : List ByteArray) (bm : Nat) (l : List SI) (w : World) (hf : RdL (fun _ => True) w (Flat.val tv.regs) names) (hm : MapP w bm l) (hz : ∀ p ∈ l, p.2 ≠ 0) (hn : names.length ≤ 1073741824) :
    Calls Tryz.prog 78 [Flat.val tv, .map (some bm)].toArray w (Ret fun v w' => RegsP (regsM l names) v w w') := by
  have hs := St.start w
  have hnl := hm.nodup
  obtain ⟨es, clock, hes, hst, hperm⟩ := hm
  refine S78_ok _ _ _ _ ?_
  unfold S78
  refine eop_boxV hs (fun b_t2 w1 hs => ?_)
  refine eop_mapP hs (fun b_x w2 hs => ?_)
  refine eop_range hs Tryz.underlying129 (heap_ext hes hs.chg) (fun r13 w3 hs => ?_)
  refine ⟨fun mm w1 => ∃ (seen : Array Nat) (l1 : List SI), mm = (leftOf es seen).size ∧ (∀ p, p ∈ l1 ↔ (p ∈ l ∧ ¬ p.2 = 4 ∧ ∃ e ∈ es.toList, seen.contains e.born = true ∧ e.key = .string p.1)) ∧ St w none1 [iterB r13 bm clock seen, mapP b_x l1, blk b_t2 (Flat.enc tv)] w1, ⟨_, #[], [], rfl, fun p => ⟨fun h => (by cases h), fun ⟨_, _, e, _, h, _⟩ => (by simp at h)⟩, hs⟩, ?_⟩
  rintro mm w4 ⟨seen, l1, rfl, hl1, hs⟩ dd1
  refine eop_next hs (heap_ext hes hs.chg) hst.1 (fun h0 => ?_) (fun e w5 he hs => ?_)
  · refine pop_ext rfl ?_
    refine cond_f ?_
    replace hs := hs.drop
    have hg : l1.Perm (l.filter fun p => decide (¬ p.2 = 4)) := by
      have n1 : l1.Nodup := (List.pairwise_map.1 hs.mapP.nodup).imp fun h e => h (by rw [e])
      have n2 : l.Nodup := (List.pairwise_map.1 hnl).imp fun h e => h (by rw [e])
      refine (List.perm_ext_iff_of_nodup n1 (n2.filter _)).2 fun p => ?_
      rw [hl1, List.mem_filter]
      refine ⟨fun ⟨h1, h2, _⟩ => ⟨h1, decide_eq_true h2⟩, fun ⟨h1, h2⟩ => ⟨h1, of_decide_eq_true h2, ?_⟩⟩
      obtain ⟨e, he, h3, _⟩ := entS' hperm h1
      exact ⟨e, he, all_seen es seen h0 e he, h3⟩
    have hs : St w none1 [mapP b_x (l.filter fun p => decide (¬ p.2 = 4)), blk b_t2 (Flat.enc tv)] w4 := hs.turn fun F hF => ⟨F, ⟨hF.1.perm hg, hF.2⟩, fun b hb => .inl hb, Chg.refl _ _⟩
    refine pop_field fld34_1 ?_
    refine qop_blk ty32 hs.p1.hb rfl ?_
    refine pop_len sl32 (hf.ext hs.chg) ?_
    refine ⟨fun mm i w' => ∃ (k : Nat) (g : List SI), i = .int .i64 (k : Int) ∧ mm = names.length - k ∧ k ≤ names.length ∧ regsM l names = regsG g (names.drop k) ∧ (∀ p ∈ g, p.2 ≠ 0) ∧ St w none1 [mapP b_x g, blk b_t2 (Flat.enc tv)] w', ⟨_, 0, _, rfl, rfl, Nat.zero_le _, rfl, fun p hp => hz p (List.mem_filter.1 hp).1, hs⟩, ?_⟩
    rintro mm _ w7 ⟨k, g, rfl, rfl, hk, hg2, hzg, hs⟩ dd2
    refine pop_lss ?_
    refine cond_d (fun c_x28 => ?_) (fun c_x28 => ?_)
    · obtain ⟨e_x29, he_x29⟩ := gx (names) (i := ((k : Int)).toNat) (by omega)
      refine pop_idx sl32 (hf.ext hs.chg) (by omega) he_x29 (fun q_x29 h_x29 => ?_)
      refine qop_at ty9 h_x29 ?_
      refine qop_lookS hs.mapP Tryz.underlying129 Tryz.underlying9 zero3 ?_
      refine pop_neq ?_
      refine cond_d (fun c_x34 => ?_) (fun c_x34 => ?_)
      · exact .inl ⟨hg2.trans (regsG_at he_x29 c_x34), rfl, hs.drop.drop.chg⟩
      · have hz0 : lookS g e_x29 = 0 := by omega
        refine uop_putS hs Tryz.underlying129 Tryz.underlying9 (lookS_zero hs.mapP.nodup hzg hz0) (fun w8 hs => ?_)
        refine pop_add (by omega) ?_
        exact ⟨_, by omega, k + 1, _, rfl, rfl, by omega, hg2.trans (regsG_go he_x29 hz0), fun p hp => by
          rcases List.mem_append.1 hp with h | h
          · exact hzg p h
          · rw [List.mem_singleton.1 h]; exact (by decide : (5 : Int) ≠ 0), hs⟩
    · refine .inr ⟨g, b_x, ?_, rfl, hs.p1.drop.fresh⟩
      rw [hg2, List.drop_eq_nil_of_le (by omega)]; rfl
  · refine pop_ext rfl ?_
    refine cond_t ?_
    have hm := mem_left he
    refine qop_entry hs (heap_ext hes hs.chg) hm.1 hst.2.1 ?_
    obtain ⟨p0, hp0, hek, hev⟩ := entS hperm hm.1
    rw [hek, hev]
    refine pop_ext rfl ?_
    refine pop_ext rfl ?_
    refine pop_neq ?_
    have old : ∀ q ∈ l1, q.1 ≠ p0.1 := fun q hq e => by
      obtain ⟨_, _, e2, he2, h1, h2⟩ := (hl1 q).1 hq
      rw [e, ← hek] at h2
      obtain rfl := key_inj hst.2.2 he2 hm.1 h2
      exact absurd h1 (by simpa using hm.2)
    refine cond_d (fun c_x20 => ?_) (fun c_x20 => ?_)
    · replace hs := hs.p1
      refine uop_putS hs Tryz.underlying129 Tryz.underlying9 old (fun w6 hs => ?_)
      replace hs := hs.p1
      refine ⟨_, left_shrinks es seen e he, seen.push e.born, _, rfl, fun p => ?_, hs⟩
      rw [List.mem_append, List.mem_singleton, hl1]
      constructor
      · rintro (⟨h1, h2, e2, h3, h4, h5⟩ | rfl)
        · exact ⟨h1, h2, e2, h3, by simp at h4 ⊢; exact .inl h4, h5⟩
        · exact ⟨hp0, c_x20, e, hm.1, by simp, hek⟩
      · rintro ⟨h1, h2, e2, h3, h4, h5⟩
        rcases contains_pushI h4 with h | h
        · exact .inl ⟨h1, h2, e2, h3, h, h5⟩
        · obtain rfl := born_inj hst.2.1 h3 hm.1 h
          rw [hek] at h5; injection h5 with h5
          exact .inr (si_inj hnl h1 hp0 h5.symm)
    · refine ⟨_, left_shrinks es seen e he, seen.push e.born, l1, rfl, fun p => ?_, hs⟩
      rw [hl1]
      constructor
      · rintro ⟨h1, h2, e2, h3, h4, h5⟩
        exact ⟨h1, h2, e2, h3, by simp at h4 ⊢; exact .inl h4, h5⟩
      · rintro ⟨h1, h2, e2, h3, h4, h5⟩
        rcases contains_pushI h4 with h | h
        · exact ⟨h1, h2, e2, h3, h, h5⟩
        · obtain rfl := born_inj hst.2.1 h3 hm.1 h
          rw [hek] at h5; injection h5 with h5
          obtain rfl := si_inj hnl h1 hp0 h5.symm
          exact absurd h2 c_x20
end Go.Proofs.YtddeoncipdpkfaaGreatDoor
namespace Go.Proofs.YtddeoncipdpkfaaGreatDoor
open Go.Fw

set_option maxRecDepth 100000
noncomputable section
def rowB (B : HB) (o l : Nat) : Option (List (Nat × Nat)) := match B with
  | .c n _ t => bif Nat.ble (o + l) n then rowN t o l else none
  | _ => none
def rowE (h : Hp) : V → Option (List (Nat × Nat))
  | .ns => some []
  | .sl b o l _ => rowB (getH h b) o l
  | .sx b o l _ => rowB (getH h b) o l
  | _ => none
def isSl : V → Bool
  | .ns => true
  | .sl _ _ _ _ => true
  | .sx _ _ _ _ => true
  | .se => true
  | _ => false
def S2 (p : Nat × Nat) : ByteArray := strOf p.1 p.2
theorem flat_str : ∀ xs : List ByteArray, flat xs = xs.map Value.string
  | [] => rfl
  | x :: r => by have := flat_str r; simp only [flat, List.flatMap_cons, List.map_cons] at this ⊢; rw [this]; rfl
section
variable {P : Program} {Fr : Fram} {ρ : Rn} {h h' : Hp} {w : World} {v : V} {n n' : Nat}
theorem isSl_ok {B : V} {y : Value} (hB : isSl B = true) (hy : RV ρ B y) : ∃ s : SV, y = Flat.val s := by
  cases B <;> first | cases hB | skip
  case ns => exact ⟨⟨none, 0, 0⟩, hy⟩
  case sl b o l d => obtain ⟨q, _, _, rfl⟩ := hy; exact ⟨⟨_, _, _⟩, rfl⟩
  case sx b o l d => obtain ⟨q, _, _, rfl⟩ := hy; exact ⟨⟨_, _, _⟩, rfl⟩
  case se => obtain ⟨a, c, rfl⟩ := hy; exact ⟨⟨_, _, _⟩, rfl⟩
theorem rowB_ok {b o l cap : Nat} {ns : List (Nat × Nat)} {q : Pl} (hR : RH P Fr ρ h w) (hq : ρ b = some q) (hl : l ≤ cap) (hh : rowB (getH h b) o l = some ns) : RdL (fun _ => True) w (.slice (some ⟨q.k, q.b + o, none⟩) l cap) (ns.map S2) := by
  cases hg : getH h b <;> rw [hg] at hh <;> try (cases hh; done)
  rename_i n es t
  have hh : (bif Nat.ble (o + l) n then rowN t o l else none) = some ns := hh
  cases hb : Nat.ble (o + l) n <;> rw [hb] at hh
  · cases hh
  have hb := ble_le hb
  obtain ⟨g1, g2⟩ := rowN_ok (show rowN t o l = some ns from hh)
  obtain ⟨q2, ob, e1, e2, e3⟩ := hR.lv b (by rw [hg]; trivial)
  rw [hq] at e1; cases e1
  rw [hg] at e3
  obtain ⟨cs, ty, fz, rfl, _, _, _, _, _, k7⟩ := e3
  refine ⟨_, cap, by rw [List.length_map, g1], by rw [List.length_map, g1]; exact hl, .inr ⟨q.k, q.b + o, rfl, fun _ => trivial, fun j c hc => ?_⟩⟩
  rw [flat_str, List.getElem?_map, List.getElem?_map] at hc
  cases hp : ns[j]? with
  | none => rw [hp] at hc; cases hc
  | some p =>
    rw [hp] at hc; cases hc
    have hj : j < l := by have := (List.getElem?_eq_some_iff.1 hp).1; omega
    obtain ⟨x, k1, k2, _⟩ := k7 (o + j) (by omega)
    rw [g2 j p hp] at k2
    obtain rfl : x = .string (strOf p.1 p.2) := k2
    show w.cell? ⟨q.k, q.b + o + j, none⟩ = some _
    rw [show q.b + o + j = q.b + (o + j) from by omega]
    simp [World.cell?, e2, k1]
    rfl
theorem rowE_ok {R : V} {y : Value} {ns : List (Nat × Nat)} (hR : RH P Fr ρ h w) (hy : RV ρ R y) (hh : rowE h R = some ns) : ∃ s : SV, y = Flat.val s ∧ RdL (fun _ => True) w (Flat.val s) (ns.map S2) := by
  cases R <;> first | cases hh | skip
  case ns => obtain rfl : y = _ := hy; exact ⟨⟨none, 0, 0⟩, rfl, RdL.nil _ _⟩
  case sl b o l d => obtain ⟨q, h1, h2, rfl⟩ := hy; exact ⟨⟨_, _, _⟩, rfl, rowB_ok hR h1 (show l ≤ q.c - d by omega) hh⟩
  case sx b o l c => obtain ⟨q, h1, h2, rfl⟩ := hy; exact ⟨⟨_, _, _⟩, rfl, rowB_ok hR h1 h2 hh⟩
end
def regsE : List Ent → List (Nat × Nat) → Option (List Ent)
  | g, [] => some g
  | g, p :: r => bif g.all (fun q => !eqS q.n q.m p.1 p.2) then regsE (g ++ [⟨p.1, p.2, 5, 0⟩]) r else none
theorem lookS_ne {k : ByteArray} : ∀ {l : List SI}, (∀ p ∈ l, p.2 ≠ 0) → (∃ p ∈ l, p.1 = k) → lookS l k ≠ 0
  | [], _, ⟨_, h, _⟩ => by cases h
  | q :: r, hz, ⟨p, hp, e⟩ => by
    unfold lookS
    by_cases h : q.1 = k
    · rw [if_pos h]; exact hz q List.mem_cons_self
    · rw [if_neg h]
      rcases List.mem_cons.1 hp with rfl | hp
      · exact absurd e h
      · exact lookS_ne (fun p hp => hz p (List.mem_cons_of_mem _ hp)) ⟨p, hp, e⟩
theorem regsE_ok : ∀ (ns : List (Nat × Nat)) (g : List Ent), (∀ p ∈ g, p.x ≠ 0) → regsG (g.map Ent.si) (ns.map S2) = (regsE g ns).map (·.map Ent.si)
  | [], g, _ => rfl
  | p :: r, g, hz => by
    have hz' : ∀ q ∈ g.map Ent.si, q.2 ≠ 0 := fun q hq => by obtain ⟨x, hx, rfl⟩ := List.mem_map.1 hq; exact hz x hx
    rw [List.map_cons, regsG, regsE]
    cases ha : g.all (fun q => !eqS q.n q.m p.1 p.2) with
    | true =>
      rw [List.all_eq_true] at ha
      have : lookS (g.map Ent.si) (S2 p) = 0 := lookS_none fun q hq => by
        obtain ⟨x, hx, rfl⟩ := List.mem_map.1 hq
        have := ha x hx
        rw [eqS_dec] at this
        have this : ¬ strOf x.n x.m = strOf p.1 p.2 := by simpa using this
        exact this
      rw [if_pos this]
      have h2 := regsE_ok r (g ++ [⟨p.1, p.2, 5, 0⟩]) (fun q hq => by
        rcases List.mem_append.1 hq with h | h
        · exact hz q h
        · rw [List.mem_singleton.1 h]; exact (by decide : (5 : Int) ≠ 0))
      rw [List.map_append] at h2
      exact h2
    | false =>
      rw [List.all_eq_false] at ha
      obtain ⟨x, hx, hx2⟩ := ha
      rw [eqS_dec] at hx2
      have hx2 : strOf x.n x.m = strOf p.1 p.2 := by simpa using hx2
      rw [if_neg (show ¬ lookS (g.map Ent.si) (S2 p) = 0 from lookS_ne hz' ⟨x.si, List.mem_map.2 ⟨x, hx, rfl⟩, hx2⟩)]
      rfl
def preR : V → Option (Nat × Nat × V × V × Int × Nat)
  | .c (.a (.c (.s a b) (.c R (.c B (.c (.i .i64 z) .e))))) (.c (.m r) .e) => some (a, b, R, B, z, r)
  | _ => none
theorem preR_ok {args : V} {a b : Nat} {R B : V} {z : Int} {r : Nat} (hh : preR args = some (a, b, R, B, z, r)) : args = .c (.a (.c (.s a b) (.c R (.c B (.c (.i .i64 z) .e))))) (.c (.m r) .e) := by
  unfold preR at hh
  split at hh
  · cases hh; rfl
  · cases hh
def mapE : HB → Option (Nat × ML)
  | .m c l => some (c, l)
  | _ => none
def outR (h : Hp) (n : Nat) : Option (List Ent) → OR
  | none => .ok (.t (.c .nm (.c (.b true) .e))) h n
  | some g => .ok (.t (.c (.m n) (.c (.b false) .e))) (putH h (.m 4294967296 (toML g)) n) (Nat.succ n)
/-- In legal.regs's stead. -/
def ovR (_ : Nat) (args : V) (h : Hp) (n : Nat) : OR :=
  match preR args with
  | none => .no
  | some (_, _, R, B, _, r) => match mapE (getH h r), rowE h R with
    | some (c, l), some ns => match entL l with
      | some ps => bif Nat.blt c 4294967296 && (stampB c ps && (ps.all (fun p => !decide (p.x = 0)) && (isSl B && (Nat.ble ns.length 1073741824 && isZ (getH h n))))) then outR h n (regsE (ps.filter fun p => decide (¬ p.x = 4)) ns) else .no
      | none => .no
    | _, _ => .no
theorem ovR_ok : OvOk Tryz.prog [78] ovR := by
  intro g args h n v h' n' hg hh Fr ρ w xs hA hR
  obtain rfl : g = 78 := by have := memB_iff.1 hg; simpa using this
  refine ⟨pl78, ?_⟩
  unfold ovR at hh
  split at hh
  · cases hh
  rename_i a b R B z r hpre
  obtain rfl := preR_ok hpre
  split at hh
  · rename_i c l ns hmap hrow
    split at hh
    · rename_i ps hent
      have hm : getH h r = .m c l := by cases hq : getH h r <;> rw [hq] at hmap <;> cases hmap; rfl
      generalize hk : (Nat.blt c 4294967296 && (stampB c ps && (ps.all (fun p => !decide (p.x = 0)) && (isSl B && (Nat.ble ns.length 1073741824 && isZ (getH h n)))))) = kk at hh
      cases kk with
      | false => cases hh
      | true =>
      have hh : outR h n (regsE (ps.filter fun p => decide (¬ p.x = 4)) ns) = .ok v h' n' := hh
      simp only [Bool.and_eq_true] at hk
      obtain ⟨k1, k2, k3, k4, k5, k6⟩ := hk
      obtain ⟨z1, zs1, rfl, hz1, z2, zs2, rfl, hz2, rfl⟩ := hA
      obtain ⟨ys, hys, _, rfl⟩ := hz1
      obtain ⟨y1, ys1, rfl, hy1, y2, ys2, rfl, hy2, y3, ys3, rfl, hy3, y4, ys4, rfl, hy4, rfl⟩ := hys
      obtain rfl : y1 = _ := hy1
      obtain rfl : y4 = _ := hy4
      obtain ⟨s2, rfl, hrd⟩ := rowE_ok hR hy2 hrow
      obtain ⟨s3, rfl⟩ := isSl_ok k4 hy3
      obtain ⟨q, hq, rfl⟩ := hz2
      obtain ⟨q', hq', hmp⟩ := hR.mapP hm (blt_lt k1) hent k2
      rw [hq] at hq'; cases hq'
      have hx0 : ∀ p ∈ ps, p.x ≠ 0 := fun p hp => by have := List.all_eq_true.1 k3 p hp; simpa using this
      refine (C78 (⟨strOf a b, s2, s3, z⟩ : TThreadV) (ns.map S2) q.k (ps.map Ent.si) w hrd hmp (fun p hp => by obtain ⟨x, hx, rfl⟩ := List.mem_map.1 hp; exact hx0 x hx) (by rw [List.length_map]; exact ble_le k5)).mono fun e w' ⟨y, hy, hr⟩ => ⟨y, hy, ?_⟩
      have hreg : regsM (ps.map Ent.si) (ns.map S2) = (regsE (ps.filter fun p => decide (¬ p.x = 4)) ns).map (·.map Ent.si) := by
        unfold regsM
        rw [List.filter_map]
        exact regsE_ok ns _ fun p hp => hx0 p (List.mem_filter.1 hp).1
      rw [hreg] at hr
      generalize regsE (ps.filter fun p => decide (¬ p.x = 4)) ns = res at hh hr
      cases res with
      | none =>
        obtain ⟨rfl, rfl, _⟩ := ok_inj hh
        rcases hr with ⟨_, rfl, he⟩ | ⟨g, b, h0, _⟩
        · exact ⟨ρ, Le.refl _, hR.extW he, [.map none, .bool true], ⟨_, _, rfl, rfl, _, _, rfl, rfl, rfl⟩, rfl⟩
        · cases h0
      | some g0 =>
        obtain ⟨rfl, rfl, _⟩ := ok_inj hh
        rcases hr with ⟨h0, _⟩ | ⟨g, b, h0, rfl, F, ⟨hmp2, hF⟩, hnew, he⟩
        · cases h0
        cases h0
        have hlt : w.heap.size ≤ b := hnew b ((hF b).2 rfl)
        obtain ⟨es, ck, g1, g2, g3⟩ := hmp2
        have hn := isZ_ok k6
        refine ⟨_, ext_le (q := ⟨b, 0, 0, 0⟩) (hR.fresh n hn), ?_, [.map (some b), .bool false], ⟨_, _, rfl, ⟨_, ext_at _ _ _, rfl⟩, _, _, rfl, rfl, rfl⟩, rfl⟩
        refine hR.add hn (fun b' q' h1 h2 => ?_) ?_ (fun r o' _ hr => ext_heap he hr) g1 (.inr ⟨rfl, g0.map Ent.si, toML_s g0, es, ck, rfl, g2, g3⟩) (hst := ⟨he.os, he.tape, he.output⟩)
        · obtain ⟨q2, o2, e1, e2, _⟩ := hR.lv b' h1
          rw [h2] at e1; cases e1
          have := (Array.getElem?_eq_some_iff.1 e2).1
          show q'.k ≠ b
          omega
        · show Fr.f b = none
          cases hFr : Fr.f b with
          | none => rfl
          | some o' =>
            have := (Array.getElem?_eq_some_iff.1 (hR.keep _ _ hFr)).1
            omega
    · cases hh
  · cases hh
end
end Go.Proofs.YtddeoncipdpkfaaGreatDoor
