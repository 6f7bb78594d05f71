/-
  The evaluator: append, copy, clear; maps. Own work; nothing here is trusted.
-/
import Derived.Test.YtddeoncipdpkfaaGreatDoorZEv8
import Derived.Lib.ConvBytes
import Derived.Lib.AppendZeros
set_option linter.all false
namespace Go.Fw
section
variable {P : Program} {Fr : Fram} {ρ : Rn} {h h' : Hp} {w : World} {v : V} {n n' : Nat} {e : En} {e' : Env}
theorem one_cell {x : Value} (hx : oneC x = true) : x.oneCell' = true := by cases x <;> first | rfl | cases hx
theorem bytesV_spec (c : Nat) : ∀ m j, RLs ρ (bytesV c m j) ((List.range' j m).map fun i => Value.int .u8 ((byteAt c i).toNat : Int)) := by
  intro m
  induction m with
  | zero => intro j; exact (show RLs ρ .e [] from rfl)
  | succ m ih =>
    intro j
    refine ⟨_, _, rfl, ?_, ih (Nat.succ j)⟩
    show Value.int .u8 _ = Value.int .u8 ((c >>> (8 * j) % 256 : Nat) : Int)
    rw [byteAt_val, Nat.shiftRight_eq_div_pow]
theorem byteCells_str (c l : Nat) : byteCells (strOf c l) = (List.range' 0 l).map fun i => Value.int .u8 ((byteAt c i).toNat : Int) := by
  show (bts (strOf c l)).map _ = _
  rw [strOf_bytes, List.map_map, List.range_eq_range']
  rfl
/-- A slice's cells, to be read. -/
theorem srcC_ok {b o l es : Nat} {k : V → Nat → OR} {q : Pl} (hR : RH P Fr ρ h w) (hb : ρ b = some q) (hh : srcC h b o l es k = .ok v h' n') :
    ∃ u news, k u l = .ok v h' n' ∧ RLs ρ u news ∧ (∀ z ∈ news, oneC z = true) ∧ news.length = l * es ∧ ∀ j x, news[j]? = some x → Cell w q.k (q.b + o + j) x := by
  obtain ⟨m, es', t, g, hh⟩ := withC_ok hh
  obtain ⟨hle, hh⟩ := iffO_ok hh
  obtain ⟨q', cs, ty, fz, g1, g2, _, _, _, _, g7, g8⟩ := hR.cells g
  rw [hb] at g1; cases g1
  obtain ⟨xs, k1, _, k3, k4, k5⟩ := row_of (w := w) g2 g7 g8 (show o + l * es ≤ m from ble_le hle)
  exact ⟨_, xs, hh, k3.rd k1, k4, k1, k5⟩
theorem src_ok {es : Nat} {y : V} {x : Value} {k : V → Nat → OR} {tx : TypeId} (hk : (∃ e', P.underlying tx = some (.slice e')) ∨ P.underlying tx = some .string) (hR : RH P Fr ρ h w) (hy : RV ρ y x) (hh : src h es y k = .ok v h' n') :
    ∃ u cnt news, k u cnt = .ok v h' n' ∧ RLs ρ u news ∧ (∀ z ∈ news, oneC z = true) ∧ Src P es tx x cnt news w := by
  have sl : ∀ {b o l cap : Nat} {q : Pl}, ρ b = some q → srcC h b o l es k = .ok v h' n' → ∃ u cnt news, k u cnt = .ok v h' n' ∧ RLs ρ u news ∧ (∀ z ∈ news, oneC z = true) ∧ Src P es tx (.slice (some ⟨q.k, q.b + o, none⟩) l cap) cnt news w := by
    intro b o l cap q hb hh
    obtain ⟨u, news, h1, h2, h3, h4, h5⟩ := srcC_ok hR hb hh
    refine ⟨u, l, news, h1, h2, h3, hk, fun _ => rfl, run_firstCells_some w es l _ l cap news h4 (fun j x hx => by rw [add_none]; exact h5 j x hx), run_firstCells_some w.drew es l _ l cap news h4 (fun j x hx => by rw [add_none]; exact h5 j x hx), h4, fun u hu => one_cell (h3 u hu)⟩
  have nl : ∀ {a : Option Addr} {cap : Nat}, k .e 0 = .ok v h' n' → ∃ u cnt news, k u cnt = .ok v h' n' ∧ RLs ρ u news ∧ (∀ z ∈ news, oneC z = true) ∧ Src P es tx (.slice a 0 cap) cnt news w := by
    intro a cap hh
    refine ⟨.e, 0, [], hh, (show RLs ρ .e [] from rfl), fun z hz => by simp at hz, hk, fun _ => rfl, ?_, ?_, by simp, fun z hz => by simp at hz⟩
    · cases a <;> simp [Builtin.firstCells, loadCells, loadCellsFrom]
    · cases a <;> simp [Builtin.firstCells, loadCells, loadCellsFrom]
  rcases okSl hh with hh | ⟨rfl, hh⟩ | ⟨b, o, l, d, rfl, hh⟩ | ⟨b, o, l, c, rfl, hh⟩ | ⟨rfl, hh⟩
  · obtain ⟨c, l, rfl, hh⟩ := okS hh
    obtain ⟨he, hh⟩ := iffO_ok hh
    obtain rfl : es = 1 := nb_eq he
    obtain rfl : x = .string (strOf c l) := hy
    refine ⟨_, l, byteCells (strOf c l), hh, by rw [byteCells_str]; exact bytesV_spec c l 0, fun z hz => ?_, hk, fun _ => by show Result.ok (strOf c l).size _ = _; rw [strOf_size], ?_, ?_, by rw [byteCells_length, strOf_size]; omega, fun z hz => ?_⟩
    · obtain ⟨_, _, rfl⟩ := List.mem_map.1 hz; rfl
    · have := firstCells_string (P := P) (strOf c l) w; rwa [strOf_size] at this
    · have := firstCells_string (P := P) (strOf c l) w.drew; rwa [strOf_size] at this
    · obtain ⟨_, _, rfl⟩ := List.mem_map.1 hz; rfl
  · obtain rfl : x = .slice none 0 0 := hy
    exact nl hh
  · obtain ⟨q, hb, _, rfl⟩ := hy
    exact sl hb hh
  · obtain ⟨q, hb, _, rfl⟩ := hy
    exact sl hb hh
  · obtain ⟨a, c, rfl⟩ := hy
    exact nl hh

/-- There is room: the cells are stored. -/
theorem run_room {T E es tx R l c cnt : Nat} {i : TypeInfo} {x : Value} {news : List Value} {a : Addr} {w' : World} (hu : P.underlying T = some (.slice E)) (hi : P.info? E = some i) (hsz : i.size = es) (hs : Src P es tx x cnt news w) (hroom : l + cnt ≤ c)
    (hst : (storeCells (a.add (l * es)) news 0).run P w = .ok () w') : (Builtin.append_ #[T, tx] R [.slice (some a) l c, x].toArray).run P w = .ok (.slice (some a) (l + cnt) c) w' := by
  subst hsz
  rcases hs.kind with ⟨e', hk⟩ | hk <;> simp [Builtin.append_, run_underlying hu, run_underlying hk, sizeOf, typeInfo, hi, hs.len, hroom, hs.cells, hst]
theorem s_app {T E es by' tx R : Nat} {p q : Oq} {x y : Value} (hf : slFact P T = some (E, es, by', some es)) (h1 : 1 ≤ es) (hby : by' ≤ 8192) (hk : (∃ e', P.underlying tx = some (.slice e')) ∨ P.underlying tx = some .string)
    (hR : RH P Fr ρ h w) (hx : RV ρ (evq e p) x) (hy : RV ρ (evq e q) y) (hh : evApp e h n es p q = .ok v h' n') : Eop P (Builtin.append_ #[T, tx] R [x, y].toArray) w (Pst P Fr ρ v h') := by
  obtain ⟨hu, inf, hi, hsz, hbytes, hzz⟩ := slFact_spec hf
  obtain ⟨zv, hzv, hzs⟩ : ∃ zv, inf.zero = some zv ∧ zv.cells.size = es := by
    cases hz : inf.zero with
    | none => rw [hz] at hzz; cases hzz
    | some zv => rw [hz] at hzz; exact ⟨zv, rfl, by simpa using hzz⟩
  obtain ⟨u, cnt, news, hh, hl, hone, hs⟩ := src_ok hk hR hy hh
  have hnl := hs.newsLen
  have fits : ∀ {need old : Nat}, old < need → need ≤ 1073741824 → Builtin.nextslicecap need old * inf.bytes ≤ 281474976710656 := fun ho hn => by
    refine growslice_fits ho ?_
    have := Nat.mul_le_mul hn (show inf.bytes ≤ 8192 by omega)
    omega
  -- a new row
  have grow : ∀ {a : Option Addr} {l c : Nat} {olds : List Value} {t : Tr V} {hh0 : Hp}, RH P Fr ρ hh0 w → (Builtin.firstCells es l (.slice a l c)).run P w.drew = .ok olds.toArray w.drew → olds.length = l * es → c < l + cnt → l + cnt ≤ 1073741824 →
      RT ρ t 0 olds → (∀ z ∈ olds, oneC z = true) → newSl n es (l + cnt) (wr1 u (l * es) t) hh0 = .ok v h' n' → Eop P (Builtin.append_ #[T, tx] R [.slice a l c, y].toArray) w (Pst P Fr ρ v h') := by
    intro a l c olds t hh0 hR0 ho hol hlt hle ht hone' hh
    obtain ⟨hn, hh⟩ := alloc_ok hh
    obtain ⟨rfl, rfl, _⟩ := ok_inj hh
    have hge := grownCap_ge w (l + cnt) c E
    subst hsz
    have hr := run_append_grow_src (P := P) w T tx R E inf zv hu hi hzv a l c olds ho y cnt news hs hlt (by omega) (fits hlt hle)
    have hzl : (Builtin.zeroCells zv.cells (grownCap w (l + cnt) c E - (l + cnt))).toList.length = (grownCap w (l + cnt) c E - (l + cnt)) * inf.size := by rw [Array.length_toList, size_zeroCells, hzs]
    have hlen : (olds ++ news).length = (l + cnt) * inf.size := by rw [List.length_append, hol, hnl, Nat.add_mul]
    have hm := hR0.newc (t := wr1 u (l * inf.size) t) (cs := olds ++ news) (rest := (Builtin.zeroCells zv.cells (grownCap w (l + cnt) c E - (l + cnt))).toList) (T := E) (c := grownCap w (l + cnt) c E) (es := inf.size) (m := (l + cnt) * inf.size)
      (w' := w.drew.alloc (.cells ((olds ++ news).toArray ++ Builtin.zeroCells zv.cells (grownCap w (l + cnt) c E - (l + cnt))) E)) hn (by rw [← hol]; exact ht.app hl) (one_app hone' hone) hlen.symm
      (by rw [List.length_append, hlen, hzl, ← Nat.add_mul]; exact Nat.mul_le_mul_right _ (by omega)) (fun _ => Nat.mul_le_mul_right _ hge) (by
        show w.heap.push _ = w.heap.push _
        congr 2
        apply Array.ext'
        simp)
    refine ⟨_, _, hr, postN hm ⟨_, ext_at _ _ _, ⟨by simp, by show l + cnt + 0 ≤ grownCap w (l + cnt) c E; omega⟩, rfl⟩⟩
  -- in place
  have room : ∀ {b o l c m : Nat} {t : Tr V} {u' : V} {es' : Nat} {q : Pl} , ρ b = some q → getH h b = .c m es' t → l + cnt ≤ c → o + (l + cnt) * es ≤ m → (RV ρ u' (.slice (some ⟨q.k, q.b + o, none⟩) (l + cnt) c)) →
      OR.ok u' (putH h (.c m es' (wr1 u (o + l * es) t)) b) n = .ok v h' n' → Eop P (Builtin.append_ #[T, tx] R [.slice (some ⟨q.k, q.b + o, none⟩) l c, y].toArray) w (Pst P Fr ρ v h') := by
    intro b o l c m t u' es' q hb hg hroom hfit hv hh
    obtain ⟨rfl, rfl, _⟩ := ok_inj hh
    obtain ⟨q', w', g1, g2, g3⟩ := hR.sts (o := o + l * es) hg hl hone (by rw [hnl, Nat.add_assoc, ← Nat.add_mul]; exact hfit)
    rw [hb] at g1; cases g1
    exact ⟨_, w', run_room hu hi hsz hs hroom (by rw [add_none, Nat.add_assoc]; exact g2), ρ, Le.refl _, g3, hv⟩
  by_cases hc0 : Nat.beq cnt 0 = true
  · -- nothing
    rw [hc0] at hh
    have : cnt = 0 := nb_eq hc0
    subst this
    have hn0 : news = [] := List.length_eq_zero_iff.1 (by omega)
    subst hn0
    have hh : (evq e p).onSl .no (.ok .ns h n) (fun b o l d => .ok (.sl b o l d) h n) (fun b o l c => .ok (.sx b o l c) h n) .no = .ok v h' n' := hh
    rcases okSl hh with hh | ⟨e1, hh⟩ | ⟨b, o, l, d, e1, hh⟩ | ⟨b, o, l, c, e1, hh⟩ | ⟨e1, hh⟩
    · cases hh
    · obtain ⟨rfl, rfl, _⟩ := ok_inj hh
      rw [e1] at hx
      obtain rfl : x = .slice none 0 0 := hx
      refine ⟨.slice none 0 0, w, ?_, hR.post rfl⟩
      subst hsz
      rcases hs.kind with ⟨e', hk⟩ | hk <;> simp [Builtin.append_, run_underlying hu, run_underlying hk, sizeOf, typeInfo, hi, hs.len, hs.cells]
    · obtain ⟨rfl, rfl, _⟩ := ok_inj hh
      rw [e1] at hx
      have hx' := hx
      obtain ⟨q, hb, ⟨_, hle⟩, rfl⟩ := hx
      exact ⟨_, w, run_room (w' := w) hu hi hsz hs (by omega) rfl, hR.post hx'⟩
    · obtain ⟨rfl, rfl, _⟩ := ok_inj hh
      rw [e1] at hx
      have hx' := hx
      obtain ⟨q, hb, hle, rfl⟩ := hx
      exact ⟨_, w, run_room (w' := w) hu hi hsz hs (by omega) rfl, hR.post hx'⟩
    · cases hh
  · have hc0 : Nat.beq cnt 0 = false := Bool.eq_false_iff.2 hc0
    have hpos : 0 < cnt := by
      rcases Nat.eq_zero_or_pos cnt with h | h
      · rw [h] at hc0; cases hc0
      · exact h
    rw [hc0] at hh
    rcases okSl (show (evq e p).onSl .no _ _ _ _ = .ok v h' n' from hh) with hh | ⟨e1, hh⟩ | ⟨b, o, l, d, e1, hh⟩ | ⟨b, o, l, c, e1, hh⟩ | ⟨e1, hh⟩
    · cases hh
    · obtain ⟨hle, hh⟩ := iffO_ok hh
      have hle := ble_le hle
      rw [e1] at hx
      obtain rfl : x = .slice none 0 0 := hx
      refine grow (olds := []) (l := 0) (t := .lf) hR (by rfl) (by simp) (by omega) (by omega) (fun j x hj => by simp at hj) (fun z hz => by simp at hz) ?_
      rw [Nat.zero_add, Nat.zero_mul]; exact hh
    · -- an open one
      rw [e1] at hx
      obtain ⟨q, hq, ⟨ho, hlc⟩, rfl⟩ := hx
      obtain ⟨m, es', t, hg, hh1⟩ := withC_ok hh
      obtain ⟨hc, hh2⟩ := iffO_ok hh1
      clear hh hh1
      obtain ⟨c1, c2⟩ := and_ok hc
      have c1 : es = es' := nb_eq c1
      have c2 : l + cnt ≤ 1073741824 := ble_le c2
      subst c1
      have hh := hh2
      clear hh2
      obtain ⟨q', cs, ty, fz, g1, g2, g3, g4, g5, g6, g7, g8⟩ := hR.cells hg
      rw [hq] at g1; cases g1
      have g6 := g6 (by omega)
      rw [g4] at ho
      by_cases hfit : Nat.ble (o + (l + cnt) * es) m = true
      · rw [show Nat.ble (Nat.add o (Nat.mul (Nat.add l cnt) es)) m = true from hfit] at hh
        have hfit := ble_le hfit
        have : (l + cnt) + d ≤ q.c := by
          have : (d + (l + cnt)) * es ≤ q.c * es := by rw [Nat.add_mul]; omega
          have := Nat.le_of_mul_le_mul_right this (by omega : 0 < es)
          omega
        exact room (u' := .sl b o (l + cnt) d) hq hg (by omega) hfit ⟨q, hq, ⟨by rw [g4]; exact ho, this⟩, rfl⟩ hh
      · have hfit' : Nat.ble (o + (l + cnt) * es) m = false := Bool.eq_false_iff.2 hfit
        rw [show Nat.ble (Nat.add o (Nat.mul (Nat.add l cnt) es)) m = false from hfit'] at hh
        obtain ⟨hle, hh⟩ := iffO_ok (show iffO (Nat.ble (o + l * es) m) _ .no = .ok v h' n' from hh)
        have hle := ble_le hle
        obtain ⟨xs, k1, k2, k3, k4, k5⟩ := row_of (w := w) g2 g7 g8 (show o + l * es ≤ m from hle)
        -- the tree of what was there
        have ht : RT ρ (Bool.rec (motive := fun _ => Tr V) (wr1 (rd t (l * es) o) 0 .lf) t (Nat.beq o 0)) 0 xs := by
          cases ho0 : Nat.beq o 0 with
          | true => have := nb_eq ho0; subst this; exact k3
          | false => exact RT.wr0 (k3.rd k1) .lf 0
        have hR1 := hR.kill b
        by_cases hroom : l + cnt ≤ q.c - d
        · -- the same row goes on, under a new number
          obtain ⟨w', j1, j2, j3, j4⟩ := run_sts (P := P) news (q.b + (o + l * es)) 0 cs w g2 g3 (by
            have : (d + (l + cnt)) * es ≤ q.c * es := Nat.mul_le_mul_right _ (by omega)
            rw [Nat.add_mul, Nat.add_mul, ← ho] at this
            rw [hnl]; omega) hone
          rw [Nat.add_zero] at j2
          obtain ⟨hn, hh⟩ := alloc_ok hh
          obtain ⟨rfl, rfl, _⟩ := ok_inj hh
          have le := ext_le (q := ⟨q.k, q.b + o, q.c - d, es⟩) (hR1.fresh n hn)
          have hlive := live_c hg
          have hcap : q.b + o + (q.c - d) * es = q.b + q.c * es := by
            have : d * es ≤ q.c * es := Nat.mul_le_mul_right _ (by omega)
            rw [Nat.sub_mul]; omega
          have hfull : (l + cnt) * es ≤ (q.c - d) * es := Nat.mul_le_mul_right _ hroom
          have hrt := ht.app hl
          rw [k1] at hrt
          have hRn : RH P Fr (ext ρ n ⟨q.k, q.b + o, q.c - d, es⟩) (putH (putH h .x b) (.c ((l + cnt) * es) es (wr1 u (l * es) (Bool.rec (motive := fun _ => Tr V) (wr1 (rd t (l * es) o) 0 .lf) t (Nat.beq o 0)))) n) w' := by
            refine hR1.add (hst := j4) hn (fun b' q' hb1 hb2 => ?_) (hR.off b q hlive hq) (fun r o' hr ho' => j3 r o' hr ho') j2 ⟨_, ty, fz, rfl, fun j hj => g3 j (by rwa [setAll_length] at hj), rfl, by rw [setAll_length]; show q.b + o + (q.c - d) * es ≤ _; omega, fun _ => hfull, by rw [setAll_length]; show q.b + o + (l + cnt) * es ≤ _; omega, fun i hi => ?_⟩
            · have hne : b' ≠ b := fun hh => by rw [hh, get_putH, if_pos rfl] at hb1; exact hb1
              rw [get_putH, if_neg hne] at hb1
              exact hR.sep b' b q' q hb1 hlive hne hb2 hq
            · show ∃ x, (setAll cs (q.b + (o + l * es)) news)[q.b + o + i]? = some x ∧ _
              have hlx : (xs ++ news).length = (l + cnt) * es := by rw [List.length_append, k1, hnl, Nat.add_mul]
              obtain ⟨x, hxi⟩ : ∃ x, (xs ++ news)[i]? = some x := ⟨_, List.getElem?_eq_getElem (by omega)⟩
              have hri := hrt i x hxi
              rw [Nat.zero_add] at hri
              obtain ⟨a, c⟩ := setAll_get news cs (q.b + (o + l * es)) (q.b + o + i) (by rw [hnl]; rw [Nat.add_mul] at hfull; omega)
              refine ⟨x, ?_, hri.mono le, one_app k4 hone x (List.mem_of_getElem? hxi)⟩
              by_cases hil : i < l * es
              · rw [a (.inl (by omega))]
                rw [List.getElem?_append_left (by omega), k2, List.getElem?_take_of_lt hil, List.getElem?_drop] at hxi
                exact hxi
              · rw [List.getElem?_append_right (by omega), k1] at hxi
                have := c (i - l * es) (by rw [hnl]; rw [Nat.add_mul] at hi; omega)
                rw [show q.b + (o + l * es) + (i - l * es) = q.b + o + i from by omega] at this
                rw [this]; exact hxi
          exact ⟨_, w', run_room hu hi hsz hs hroom (by rw [add_none, Nat.add_assoc]; exact j1), _, le, hRn, ⟨_, ext_at _ _ _, ⟨by simp, by show l + cnt + 0 ≤ q.c - d; omega⟩, rfl⟩⟩
        · exact grow hR1 (run_firstCells_some w.drew es l _ l (q.c - d) xs k1 (fun j x hx => by rw [add_none]; exact k5 j x hx)) k1 (by omega) c2 ht k4 hh
    · -- a closed one
      rw [e1] at hx
      obtain ⟨q, hq, hlc, rfl⟩ := hx
      obtain ⟨m, es', t, hg, hh⟩ := withC_ok hh
      obtain ⟨c2, hh⟩ := iffO_ok hh
      have c2 : l + cnt ≤ 1073741824 := ble_le c2
      by_cases hroom : Nat.ble (l + cnt) c = true
      · rw [show Nat.ble (Nat.add l cnt) c = true from hroom] at hh
        have hroom := ble_le hroom
        obtain ⟨hfit, hh⟩ := iffO_ok (show iffO (Nat.ble (o + (l + cnt) * es) m) _ .no = .ok v h' n' from hh)
        exact room (u' := .sx b o (l + cnt) c) hq hg hroom (ble_le hfit) ⟨q, hq, hroom, rfl⟩ hh
      · have hroom' : Nat.ble (l + cnt) c = false := Bool.eq_false_iff.2 hroom
        rw [show Nat.ble (Nat.add l cnt) c = false from hroom'] at hh
        obtain ⟨hle, hh⟩ := iffO_ok (show iffO (Nat.ble (o + l * es) m) _ .no = .ok v h' n' from hh)
        have hle := ble_le hle
        have hlt : ¬ (l + cnt ≤ c) := fun hle => by rw [Nat.ble_eq_true_of_le hle] at hroom'; cases hroom'
        obtain ⟨q', cs, ty, fz, g1, g2, g3, g4, g5, g6, g7, g8⟩ := hR.cells hg
        rw [hq] at g1; cases g1
        obtain ⟨xs, k1, k2, k3, k4, k5⟩ := row_of (w := w) g2 g7 g8 (show o + l * es ≤ m from hle)
        exact grow hR (run_firstCells_some w.drew es l _ l c xs k1 (fun j x hx => by rw [add_none]; exact k5 j x hx)) k1 (by omega) c2 (RT.wr0 (k3.rd k1) .lf 0) k4 hh
    · cases hh
/-- append(nil, make(..)...). -/
theorem s_apz {T E es by' tx R : Nat} {kn : IntKind} {z : V} {p q : Oq} {x y : Value} (hf : slFact P T = some (E, es, by', some es)) (hz : zeroC P E = some z) (h1 : 1 ≤ es) (hby : by' ≤ 8192) (hk : P.underlying tx = some (.int kn))
    (hR : RH P Fr ρ h w) (hx : RV ρ (evq e p) x) (hy : RV ρ (evq e q) y) (hh : evApz e h n es z p q = .ok v h' n') : Eop P (Builtin.append_ #[T, tx] R [x, y].toArray) w (Pst P Fr ρ v h') := by
  obtain ⟨hu, inf, hi, hsz, hbytes, hzz⟩ := slFact_spec hf
  obtain ⟨zv, hzf, z1, z2, z3⟩ := pr_zero (ρ := ρ) hz
  have hinf : inf.zero = some zv := by
    unfold zeroFact at hzf
    rw [hi] at hzf
    simpa using hzf
  rcases okSl (show (evq e p).onSl .no _ _ _ _ = .ok v h' n' from hh) with hh | ⟨e1, hh⟩ | ⟨b, o, l, d, e1, hh⟩ | ⟨b, o, l, c, e1, hh⟩ | ⟨e1, hh⟩
  · cases hh
  · rw [e1] at hx
    obtain rfl : x = .slice none 0 0 := hx
    obtain ⟨t1, j, e2, hh⟩ := natV_ok hh
    rw [e2] at hy
    obtain rfl : y = .int t1 (j : Int) := hy
    obtain ⟨hc, hh⟩ := iffO_ok hh
    obtain ⟨c1, hc⟩ := and_ok hc
    obtain ⟨c2, c3⟩ := and_ok hc
    have c1 := nb_eq c1
    have c2 := ble_le c2
    have c3 := ble_le c3
    obtain ⟨hn, hh⟩ := alloc_ok hh
    obtain ⟨rfl, rfl, _⟩ := ok_inj hh
    have hzl : zv.cells.toList.length = es := by rw [← z2.len]; exact c1
    have hzs : zv.cells.size = es := by rw [← Array.length_toList]; exact hzl
    have h48 : j * inf.bytes ≤ 281474976710656 := by
      have := Nat.mul_le_mul c3 (show inf.bytes ≤ 8192 by omega)
      omega
    have hr := Lib.run_append_nil_zeros (P := P) w T tx R E inf zv t1 kn hu hk hi hinf j (by omega) (by omega) (by omega) h48
    have hge := grownCap_ge w j 0 E
    have hlen : (List.replicate j zv.cells.toList).flatten.length = j * es := by simp [hzl]
    have e3 : Builtin.zeroCells zv.cells j = List.toArray (List.replicate j zv.cells.toList).flatten := by
      have := made_list zv.cells.toList j (by omega)
      rw [hzl, Array.toArray_toList] at this
      rw [← this, Array.toArray_toList, ← hzs]
      rfl
    have hz2 : (Builtin.zeroCells zv.cells (grownCap w j 0 E - j)).toList.length = (grownCap w j 0 E - j) * es := by rw [Array.length_toList, size_zeroCells, hzs]
    rw [e3] at hr
    refine ⟨_, _, hr, postN (hR.newc (t := wr1 (repV z j) 0 .lf) (rest := (Builtin.zeroCells zv.cells (grownCap w j 0 E - j)).toList) (c := grownCap w j 0 E) hn (RT.wr0 (z2.rep j) .lf 0) (one_flat z3) hlen.symm
      (by rw [List.length_append, hlen, hz2, ← Nat.add_mul]; exact Nat.mul_le_mul_right _ (by omega)) (fun _ => Nat.mul_le_mul_right _ hge) (by
        show w.heap.push _ = w.heap.push _
        congr 2
        apply Array.ext'
        simp)) ⟨_, ext_at _ _ _, ⟨by simp, by show j + 0 ≤ grownCap w j 0 E; omega⟩, rfl⟩⟩
  · cases hh
  · cases hh
  · cases hh
end
end Go.Fw
