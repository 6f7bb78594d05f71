/-
  The predicate transformer on whole codes, its soundness, and the way from it to a call. Printed by a program of ours (gen4.py). Own work; nothing here is trusted.
-/
import Derived.Test.YtddeoncipdpkfaaGreatDoorZFw3
import Derived.Laws.Sem
set_option linter.all false
namespace Go.Fw

structure Join0 (F : (World → Prop) → Prop) (G : World → Prop) : Prop where
  ex : ∃ I : World → Prop, F I ∧ ∀ w, I w → G w
structure Loop0 (B : (World → Prop) → World → Prop) (F : (World → Prop) → Prop) : Prop where
  ex : ∃ I : Nat → World → Prop, (∃ m, F (I m)) ∧ ∀ m w, I m w → B (fun w' => ∃ m', m' < m ∧ I m' w') w

structure Join1 (F : (Value → World → Prop) → Prop) (G : Value → World → Prop) : Prop where
  ex : ∃ I : Value → World → Prop, F I ∧ ∀ x0 w, I x0 w → G x0 w
structure Loop1 (B : (Value → World → Prop) → Value → World → Prop) (F : (Value → World → Prop) → Prop) : Prop where
  ex : ∃ I : Nat → Value → World → Prop, (∃ m, F (I m)) ∧ ∀ m x0 w, I m x0 w → B (fun y0 w' => ∃ m', m' < m ∧ I m' y0 w') x0 w

structure Join2 (F : (Value → Value → World → Prop) → Prop) (G : Value → Value → World → Prop) : Prop where
  ex : ∃ I : Value → Value → World → Prop, F I ∧ ∀ x0 x1 w, I x0 x1 w → G x0 x1 w
structure Loop2 (B : (Value → Value → World → Prop) → Value → Value → World → Prop) (F : (Value → Value → World → Prop) → Prop) : Prop where
  ex : ∃ I : Nat → Value → Value → World → Prop, (∃ m, F (I m)) ∧ ∀ m x0 x1 w, I m x0 x1 w → B (fun y0 y1 w' => ∃ m', m' < m ∧ I m' y0 y1 w') x0 x1 w

structure Join3 (F : (Value → Value → Value → World → Prop) → Prop) (G : Value → Value → Value → World → Prop) : Prop where
  ex : ∃ I : Value → Value → Value → World → Prop, F I ∧ ∀ x0 x1 x2 w, I x0 x1 x2 w → G x0 x1 x2 w
structure Loop3 (B : (Value → Value → Value → World → Prop) → Value → Value → Value → World → Prop) (F : (Value → Value → Value → World → Prop) → Prop) : Prop where
  ex : ∃ I : Nat → Value → Value → Value → World → Prop, (∃ m, F (I m)) ∧ ∀ m x0 x1 x2 w, I m x0 x1 x2 w → B (fun y0 y1 y2 w' => ∃ m', m' < m ∧ I m' y0 y1 y2 w') x0 x1 x2 w

structure Join4 (F : (Value → Value → Value → Value → World → Prop) → Prop) (G : Value → Value → Value → Value → World → Prop) : Prop where
  ex : ∃ I : Value → Value → Value → Value → World → Prop, F I ∧ ∀ x0 x1 x2 x3 w, I x0 x1 x2 x3 w → G x0 x1 x2 x3 w
structure Loop4 (B : (Value → Value → Value → Value → World → Prop) → Value → Value → Value → Value → World → Prop) (F : (Value → Value → Value → Value → World → Prop) → Prop) : Prop where
  ex : ∃ I : Nat → Value → Value → Value → Value → World → Prop, (∃ m, F (I m)) ∧ ∀ m x0 x1 x2 x3 w, I m x0 x1 x2 x3 w → B (fun y0 y1 y2 y3 w' => ∃ m', m' < m ∧ I m' y0 y1 y2 y3 w') x0 x1 x2 x3 w

structure Join5 (F : (Value → Value → Value → Value → Value → World → Prop) → Prop) (G : Value → Value → Value → Value → Value → World → Prop) : Prop where
  ex : ∃ I : Value → Value → Value → Value → Value → World → Prop, F I ∧ ∀ x0 x1 x2 x3 x4 w, I x0 x1 x2 x3 x4 w → G x0 x1 x2 x3 x4 w
structure Loop5 (B : (Value → Value → Value → Value → Value → World → Prop) → Value → Value → Value → Value → Value → World → Prop) (F : (Value → Value → Value → Value → Value → World → Prop) → Prop) : Prop where
  ex : ∃ I : Nat → Value → Value → Value → Value → Value → World → Prop, (∃ m, F (I m)) ∧ ∀ m x0 x1 x2 x3 x4 w, I m x0 x1 x2 x3 x4 w → B (fun y0 y1 y2 y3 y4 w' => ∃ m', m' < m ∧ I m' y0 y1 y2 y3 y4 w') x0 x1 x2 x3 x4 w


def lkv (i : Nat) : List (Nat × Value) → Value → Value
  | [], d => d
  | q :: r, d => bif Nat.beq q.1 i then q.2 else lkv i r d
/-- What is known behind a join: the slots that were not written; the live ones; of the others nothing. -/
def mixE (e : Env) (M : Nat) (bs : List (Nat × Value)) (dead : Env) : Env := fun i => bif bit M i then lkv i bs (dead i) else e i

def JoinL (l : List Nat) (F : (Env → World → Prop) → Prop) (G : List (Nat × Value) → World → Prop) : Prop :=
  match l with
  | [] => Join0 (fun K => F (fun e w => K w)) (fun w => G [] w)
  | [a0] => Join1 (fun K => F (fun e w => K (e a0) w)) (fun x0 w => G [(a0, x0)] w)
  | [a0, a1] => Join2 (fun K => F (fun e w => K (e a0) (e a1) w)) (fun x0 x1 w => G [(a0, x0), (a1, x1)] w)
  | [a0, a1, a2] => Join3 (fun K => F (fun e w => K (e a0) (e a1) (e a2) w)) (fun x0 x1 x2 w => G [(a0, x0), (a1, x1), (a2, x2)] w)
  | [a0, a1, a2, a3] => Join4 (fun K => F (fun e w => K (e a0) (e a1) (e a2) (e a3) w)) (fun x0 x1 x2 x3 w => G [(a0, x0), (a1, x1), (a2, x2), (a3, x3)] w)
  | [a0, a1, a2, a3, a4] => Join5 (fun K => F (fun e w => K (e a0) (e a1) (e a2) (e a3) (e a4) w)) (fun x0 x1 x2 x3 x4 w => G [(a0, x0), (a1, x1), (a2, x2), (a3, x3), (a4, x4)] w)
  | _ => False

def LoopL (l : List Nat) (B : (Env → World → Prop) → List (Nat × Value) → World → Prop) (e : Env) (w : World) : Prop :=
  match l with
  | [] => Loop0 (fun K w => B (fun e' w' => K w') [] w) (fun K => K w)
  | [a0] => Loop1 (fun K x0 w => B (fun e' w' => K (e' a0) w') [(a0, x0)] w) (fun K => K (e a0) w)
  | [a0, a1] => Loop2 (fun K x0 x1 w => B (fun e' w' => K (e' a0) (e' a1) w') [(a0, x0), (a1, x1)] w) (fun K => K (e a0) (e a1) w)
  | [a0, a1, a2] => Loop3 (fun K x0 x1 x2 w => B (fun e' w' => K (e' a0) (e' a1) (e' a2) w') [(a0, x0), (a1, x1), (a2, x2)] w) (fun K => K (e a0) (e a1) (e a2) w)
  | [a0, a1, a2, a3] => Loop4 (fun K x0 x1 x2 x3 w => B (fun e' w' => K (e' a0) (e' a1) (e' a2) (e' a3) w') [(a0, x0), (a1, x1), (a2, x2), (a3, x3)] w) (fun K => K (e a0) (e a1) (e a2) (e a3) w)
  | [a0, a1, a2, a3, a4] => Loop5 (fun K x0 x1 x2 x3 x4 w => B (fun e' w' => K (e' a0) (e' a1) (e' a2) (e' a3) (e' a4) w') [(a0, x0), (a1, x1), (a2, x2), (a3, x3), (a4, x4)] w) (fun K => K (e a0) (e a1) (e a2) (e a3) (e a4) w)
  | _ => False

/-- The values of the listed slots. -/
def valsOf (l : List Nat) (e : Env) : List (Nat × Value) := l.map fun a => (a, e a)

theorem JoinL.spec {l : List Nat} {F : (Env → World → Prop) → Prop} {G : List (Nat × Value) → World → Prop} (h : JoinL l F G) :
    ∃ I : List (Nat × Value) → World → Prop, F (fun e w => I (valsOf l e) w) ∧ ∀ (e : Env) w, I (valsOf l e) w → G (valsOf l e) w := by
  unfold JoinL at h
  split at h
  · obtain ⟨I, h1, h2⟩ := h.ex
    exact ⟨fun _ w => I w, h1, fun _ w hi => h2 w hi⟩
  · obtain ⟨I, h1, h2⟩ := h.ex
    exact ⟨fun q w => match q with | [x0] => I x0.2 w | _ => False, h1, fun e w hi => h2 _ w hi⟩
  · obtain ⟨I, h1, h2⟩ := h.ex
    exact ⟨fun q w => match q with | [x0, x1] => I x0.2 x1.2 w | _ => False, h1, fun e w hi => h2 _ _ w hi⟩
  · obtain ⟨I, h1, h2⟩ := h.ex
    exact ⟨fun q w => match q with | [x0, x1, x2] => I x0.2 x1.2 x2.2 w | _ => False, h1, fun e w hi => h2 _ _ _ w hi⟩
  · obtain ⟨I, h1, h2⟩ := h.ex
    exact ⟨fun q w => match q with | [x0, x1, x2, x3] => I x0.2 x1.2 x2.2 x3.2 w | _ => False, h1, fun e w hi => h2 _ _ _ _ w hi⟩
  · obtain ⟨I, h1, h2⟩ := h.ex
    exact ⟨fun q w => match q with | [x0, x1, x2, x3, x4] => I x0.2 x1.2 x2.2 x3.2 x4.2 w | _ => False, h1, fun e w hi => h2 _ _ _ _ _ w hi⟩
  · exact h.elim

theorem LoopL.spec {l : List Nat} {B : (Env → World → Prop) → List (Nat × Value) → World → Prop} {e : Env} {w : World} (h : LoopL l B e w) :
    ∃ I : Nat → List (Nat × Value) → World → Prop, (∃ m, I m (valsOf l e) w) ∧
      ∀ m e w, I m (valsOf l e) w → B (fun e' w' => ∃ m', m' < m ∧ I m' (valsOf l e') w') (valsOf l e) w := by
  unfold LoopL at h
  split at h
  · obtain ⟨I, ⟨m, h1⟩, h2⟩ := h.ex
    exact ⟨fun m _ w => I m w, ⟨m, h1⟩, fun m _ w hi => h2 m w hi⟩
  · obtain ⟨I, ⟨m, h1⟩, h2⟩ := h.ex
    exact ⟨fun m q w => match q with | [x0] => I m x0.2 w | _ => False, ⟨m, h1⟩, fun m e w hi => h2 m _ w hi⟩
  · obtain ⟨I, ⟨m, h1⟩, h2⟩ := h.ex
    exact ⟨fun m q w => match q with | [x0, x1] => I m x0.2 x1.2 w | _ => False, ⟨m, h1⟩, fun m e w hi => h2 m _ _ w hi⟩
  · obtain ⟨I, ⟨m, h1⟩, h2⟩ := h.ex
    exact ⟨fun m q w => match q with | [x0, x1, x2] => I m x0.2 x1.2 x2.2 w | _ => False, ⟨m, h1⟩, fun m e w hi => h2 m _ _ _ w hi⟩
  · obtain ⟨I, ⟨m, h1⟩, h2⟩ := h.ex
    exact ⟨fun m q w => match q with | [x0, x1, x2, x3] => I m x0.2 x1.2 x2.2 x3.2 w | _ => False, ⟨m, h1⟩, fun m e w hi => h2 m _ _ _ _ w hi⟩
  · obtain ⟨I, ⟨m, h1⟩, h2⟩ := h.ex
    exact ⟨fun m q w => match q with | [x0, x1, x2, x3, x4] => I m x0.2 x1.2 x2.2 x3.2 x4.2 w | _ => False, ⟨m, h1⟩, fun m e w hi => h2 m _ _ _ _ _ w hi⟩
  · exact h.elim

/-! ### Liveness: nothing hangs on its being right -/

def setB (m d : Nat) : Nat := Nat.lor m (Nat.shiftLeft 1 d)
def clrB (m d : Nat) : Nat := bif bit m d then Nat.sub m (Nat.shiftLeft 1 d) else m
def maskOf : List Nat → Nat
  | [] => 0
  | d :: r => setB (maskOf r) d
def opndMask : List Operand → Nat → Nat
  | [], m => m
  | .tmp t :: r, m => setB (opndMask r m) t
  | _ :: r, m => opndMask r m
def lkX (id : Nat) : List (Nat × Nat) → Nat
  | [] => 0
  | q :: r => bif Nat.beq q.1 id then q.2 else lkX id r
def liOps : List Oper → Nat → Nat
  | [], lo => lo
  | o :: r, lo => opndMask o.op.operands.toList (match o.dst with | some d => clrB (liOps r lo) d | none => liOps r lo)

def clrL : List Nat → Nat → Nat
  | [], m => m
  | d :: r, m => clrL r (clrB m d)

def li (rl : Nat) : Code → List (Nat × Nat) → Nat → Nat
  | .skip, _, lo => lo
  | .ret, _, _ => rl
  | .exit id, X, _ => lkX id X
  | .region _ ops _, _, lo => liOps ops.toList lo
  | .seq a b, X, lo => li rl a X (li rl b X lo)
  | .cond c a b, X, lo => opndMask [c] (Nat.lor (li rl a X lo) (li rl b X lo))
  | .block id c, X, lo => li rl c ((id, lo) :: X) lo
  | .loop c, X, _ => li rl c X (li rl c X 0)
  | .rangeFunc g ps a b, X, lo => opndMask [g] (Nat.lor lo (clrL ps.toList (li rl a X (li rl b X lo))))
  | _, _, _ => 0

/-- Does it hold a range over a function? -/
def hasRF : Code → Bool
  | .seq a b => hasRF a || hasRF b
  | .cond _ a b => hasRF a || hasRF b
  | .block _ c => hasRF c
  | .loop c => hasRF c
  | .rangeFunc _ _ _ _ => true
  | _ => false

def mods : Code → Nat
  | .region _ ops _ => maskOf (wr ops.toList)
  | .seq a b => Nat.lor (mods a) (mods b)
  | .cond _ a b => Nat.lor (mods a) (mods b)
  | .block _ c => mods c
  | .loop c => mods c
  | _ => 0

def guarded : List Oper → Bool
  | [] => false
  | o :: r => o.guard.isSome || guarded r
/-- Do two ways come to the end? -/
def addC (a b : Nat) : Nat := Nat.add a b
mutual
/-- How many ways come to the exit of a block. -/
def exC (id : Nat) : Code → Nat
  | .exit k => bif Nat.beq k id then 1 else 0
  | .seq a b => bif Nat.beq (nxC a) 0 then exC id a else addC (exC id a) (exC id b)
  | .cond _ a b => addC (exC id a) (exC id b)
  | .block _ c => exC id c
  | .loop c => exC id c
  | .rangeFunc _ _ _ b => exC id b
  | _ => 0
/-- How many ways come to the end. -/
def nxC : Code → Nat
  | .skip => 1
  | .region _ ops _ => bif guarded ops.toList then 2 else 1
  | .seq a b => bif Nat.beq (nxC a) 0 then 0 else nxC b
  | .cond _ a b => addC (nxC a) (nxC b)
  | .block id c => addC (nxC c) (exC id c)
  | .rangeFunc _ _ _ _ => 1
  | _ => 0
end

def bitsFrom (m : Nat) : Nat → Nat → List Nat
  | 0, _ => []
  | f + 1, i => bif bit m i then i :: bitsFrom m f (i + 1) else bitsFrom m f (i + 1)

/-- What is asked where a code ends: by which way; with which marks; environment; world. -/
abbrev Post := Exit → List Nat → Env → World → Prop
def thenQ (K : List Nat → Env → World → Prop) (Q : Post) : Post
  | .normal, ds, e, w => K ds e w
  | x, ds, e, w => Q x ds e w
def blockQ (id : Nat) (Q : Post) : Post
  | .exit k, ds, e, w => bif Nat.beq k id then Q .normal ds e w else Q (.exit k) ds e w
  | x, ds, e, w => Q x ds e w
/-- What is asked where a round ends. -/
def roundQ (K : Option Code → World → Prop) : Post
  | .normal, _, _, w => K none w
  | .ret, _, _, w => K (some .ret) w
  | .exit id, _, _, w => K (some (.exit id)) w
  | _, _, _, _ => False
/-- What is asked behind the loop: no jump is left by a round; a return; an exit. -/
def aft (N R : Nat → World → Prop) (X : Nat → Nat → World → Prop) : Option Code → Nat → World → Prop
  | none => N
  | some .ret => R
  | some (.exit id) => X id
  | _ => fun _ _ => False
/-- Is there an exit to a block around? -/
def outs : List Nat → Code → Bool
  | l, .exit id => !(l.any fun k => Nat.beq k id)
  | l, .seq a b => outs l a || outs l b
  | l, .cond _ a b => outs l a || outs l b
  | l, .block id c => outs (id :: l) c
  | l, .loop c => outs l c
  | _, _ => false
def nthV : List Value → Nat → Value
  | [], _ => undef
  | v :: _, 0 => v
  | _ :: r, k + 1 => nthV r k
def setPs (args : List Value) : List Nat → Nat → Env → Env
  | [], _, e => e
  | p :: r, k, e => setPs args r (k + 1) (upd e p (nthV args k))
def encDs (ds : List Nat) : Value := .tuple (ds.map fun (D : Nat) => Value.int .u64 (D : Int)).toArray
def decD : Value → Nat
  | .int _ n => n.toNat
  | _ => 0
def decDs : Value → List Nat
  | .tuple vs => vs.toList.map decD
  | _ => []
theorem decDs_enc (ds : List Nat) : decDs (encDs ds) = ds := by
  show (ds.map fun (D : Nat) => Value.int .u64 (D : Int)).map decD = ds
  rw [List.map_map]
  conv => rhs; rw [← List.map_id ds]
  exact List.map_congr_left fun D _ => by simp [decD]

/-- A range over a function: np: how many values yield hands over; round: one round; after: what is asked behind it. -/
structure RangeFn (P : Program) (fv : Value) (np : Nat) (w : World) (round : List Value → World → (World → (World → Prop) → Prop) → (Option Code → World → Prop) → Prop) (after : Option Code → Nat → World → Prop) : Prop where
  ex : ∃ gf cap, fv = .func (.func gf) #[] cap ∧ Plain P gf ∧ ∀ L0 : Loop, L0.state = .ready → L0.pending = none →
    (∀ (args : List Value) (W : World) (K : Value → World → Prop), args.length = np → W.heap[w.heap.size + 1]? = some (.loop L0) →
      round args W (fun w1 k => w1.heap[w.heap.size + 1]? = some (.loop L0) ∧ k (w1.putObj (w.heap.size + 1) (.loop { L0 with state := .busy })))
        (fun j W' => W'.heap[w.heap.size + 1]? = some (.loop { L0 with state := .busy }) ∧ K (.bool j.isNone) (W'.putObj (w.heap.size + 1) (.loop { L0 with state := if j.isNone then .ready else .done, pending := j }))) →
      YieldAt (FO none) 0 P (w.heap.size + 1) args.toArray W (Ret K)) →
    Calls P gf (#[.func (.yield (w.heap.size + 1)) #[] #[]] ++ cap) ((w.alloc (.deferred (some []))).alloc (.loop L0))
      (Ret fun _ W2 => ∃ st j, st ≠ .busy ∧ W2.heap[w.heap.size + 1]? = some (.loop { L0 with state := st, pending := j }) ∧ after j w.heap.size (W2.putObj (w.heap.size + 1) (.loop { L0 with state := .exhausted, pending := j })))

/-- The plan of each region that draws: its order, with what is kept at each of its operations; for which ones each waits. -/
abbrev Plans := Nat → PT
/-- Does it go on by several ways? -/
def altC (pl : Plans) : Code → Bool
  | .region id _ true => (pl id).many
  | .block _ c => altC pl c
  | .seq a b => altC pl a || altC pl b
  | .cond _ a b => altC pl a || altC pl b
  | _ => false


def drew (w : World) : World := { w with drawn := w.drawn + 1 }

def D (P : Program) (n : Nat) (pl : Plans) (rl : Nat) : Code → List (Nat × Nat) → Nat → Post → List Nat → Env → World → Prop
  | .skip, _, _, Q, ds, e, w => Q .normal ds e w
  | .ret, _, _, Q, ds, e, w => Q .ret ds e w
  | .exit id, _, _, Q, ds, e, w => Q (.exit id) ds e w
  | .region _ ops false, _, _, Q, ds, e, w => DR P n ops.toList (ops.toList.map fun o => (o, [])) (Q .normal ds) [] e w
  | .region id ops true, _, _, Q, ds, e, w =>
    bif ops.toList.all (dstLt n) && (clsOk ops.toList (clsOf ops.toList) && okT P ops.toList (clsOf ops.toList) false ops.toList.length 0 (pl id)) then
      DT P n ops.toList (pl id) (Q .normal ds) [] e (drew w)
    else False
  | .seq a b, X, lo, Q, ds, e, w =>
    bif Nat.ble (nxC a) 1 && !altC pl a then D P n pl rl a X (li rl b X lo) (thenQ (D P n pl rl b X lo Q) Q) ds e w
    else bif hasRF a then JoinL (n :: bitsFrom (Nat.land (mods a) (li rl b X lo)) n 0)
      (fun K => D P n pl rl a X (li rl b X lo) (thenQ (fun ds e w => K (upd e n (encDs ds)) w) Q) ds e w)
      (fun bs w' => ∀ dead, D P n pl rl b X lo Q (decDs (lkv n bs undef)) (mixE e (mods a) bs.tail dead) w')
    else JoinL (bitsFrom (Nat.land (mods a) (li rl b X lo)) n 0)
      (fun K => D P n pl rl a X (li rl b X lo) (thenQ (fun _ e w => K e w) Q) ds e w)
      (fun bs w' => ∀ dead, D P n pl rl b X lo Q ds (mixE e (mods a) bs dead) w')
  | .cond c a b, X, lo, Q, ds, e, w => CondV (ev e c) (D P n pl rl a X lo Q ds e w) (D P n pl rl b X lo Q ds e w)
  | .block id c, X, lo, Q, ds, e, w => D P n pl rl c ((id, lo) :: X) lo (blockQ id Q) ds e w
  | .loop c, X, _, Q, ds, e, w =>
    bif hasRF c then LoopL (n :: bitsFrom (Nat.land (mods c) (li rl c X (li rl c X 0))) n 0)
      (fun K bs w => ∀ dead, D P n pl rl c X (li rl c X (li rl c X 0)) (thenQ (fun ds e w => K (upd e n (encDs ds)) w) Q) (decDs (lkv n bs undef)) (mixE e (mods c) bs.tail dead) w) (upd e n (encDs ds)) w
    else LoopL (bitsFrom (Nat.land (mods c) (li rl c X (li rl c X 0))) n 0)
      (fun K bs w => ∀ dead, D P n pl rl c X (li rl c X (li rl c X 0)) (thenQ (fun _ e w => K e w) Q) ds (mixE e (mods c) bs dead) w) e w
  | .rangeFunc g ps as bd, _, _, Q, ds, e, w =>
    bif ps.toList.all (fun p => Nat.blt p n) && (!hasRF as && !hasRF bd) then
      RangeFn P (ev e g) ps.toList.length w
        (fun args W B K => D P n pl 0 as [] (li 0 bd [] 0) (thenQ (fun ds1 e1 w1 => B w1 fun w2 => D P n pl 0 bd [] 0 (roundQ K) ds1 e1 w2) (fun _ _ _ _ => False)) [] (setPs args ps.toList 0 e) W)
        (aft (fun D w => Q .normal (D :: ds) e w) (fun D w => Q .ret (D :: ds) e w) (bif outs [] bd then (fun id D w => Q (.exit id) (D :: ds) e w) else fun _ _ _ => False))
    else False
  | _, _, _, _, _, _, _ => False

/-! ### Sound -/

theorem bit_or {a b i : Nat} : bit (Nat.lor a b) i = (bit a i || bit b i) := Nat.testBit_or ..
theorem bit_setB {m d i : Nat} : bit (setB m d) i = (bit m i || decide (i = d)) := by
  show (m ||| 1 <<< d).testBit i = _
  rw [Nat.testBit_or, Nat.one_shiftLeft, Nat.testBit_two_pow]
  unfold bit
  congr 1
  simp [eq_comm]
theorem bit_maskOf {l : List Nat} {i : Nat} : bit (maskOf l) i = true ↔ i ∈ l := by
  induction l with
  | nil => simp [maskOf, bit]
  | cons d r ih => simp only [maskOf, bit_setB, Bool.or_eq_true, ih, decide_eq_true_eq, List.mem_cons]; exact or_comm

theorem lkv_valsOf {l : List Nat} {e : Env} {i : Nat} : lkv i (valsOf l e) (e i) = e i := by
  induction l with
  | nil => rfl
  | cons a r ih =>
    show (bif Nat.beq a i then e a else lkv i (valsOf r e) (e i)) = e i
    by_cases h : a = i
    · rw [h, beq_self]; rfl
    · rw [beq_no h]; exact ih
theorem mixE_self {e e' : Env} {M : Nat} {l : List Nat} (h : ∀ i, bit M i = false → e' i = e i) : mixE e M (valsOf l e') e' = e' := by
  funext i
  unfold mixE
  cases hb : bit M i with
  | true => simp only [cond_true]; exact lkv_valsOf
  | false => simp only [cond_false]; exact (h i hb).symm

theorem bitsFrom_lt {m : Nat} : ∀ (f i k : Nat), k ∈ bitsFrom m f i → k < i + f := by
  intro f
  induction f with
  | zero => intro i k h; cases h
  | succ f ih =>
    intro i k h
    unfold bitsFrom at h
    cases hb : bit m i with
    | true =>
      rw [hb] at h
      rcases List.mem_cons.1 h with rfl | h
      · omega
      · have := ih (i + 1) k h; omega
    | false => rw [hb] at h; have := ih (i + 1) k h; omega
theorem valsOf_upd {l : List Nat} {n : Nat} {v : Value} {e : Env} (h : ∀ k ∈ l, k < n) : valsOf l (upd e n v) = valsOf l e :=
  List.map_congr_left fun k hk => by rw [upd_ne _ _ (Nat.ne_of_lt (h k hk))]
theorem vals_cons {l : List Nat} {n : Nat} {ds : List Nat} {e : Env} (h : ∀ k ∈ l, k < n) : valsOf (n :: l) (upd e n (encDs ds)) = (n, encDs ds) :: valsOf l e := by
  show (n, upd e n (encDs ds) n) :: valsOf l (upd e n (encDs ds)) = _
  rw [upd_same, valsOf_upd h]
theorem bits_lt {m n : Nat} : ∀ k ∈ bitsFrom m n 0, k < n := fun k hk => by have := bitsFrom_lt n 0 k hk; omega

/-- The post that is meant. -/
def PostQ (n : Nat) (M : Nat) (b : Bool) (ds : List Nat) (e : Env) (Q : Post) : Exit → Act → World → Prop :=
  fun x a' w' => ∃ ds' e', Agree ds' n e' a' ∧ (∀ i, bit M i = false → e' i = e i) ∧ (b = false → ds' = ds) ∧ Q x ds' e' w'

theorem least {p : Nat → Prop} (h : ∃ m, p m) : ∃ m, p m ∧ ∀ k, p k → m ≤ k := by
  obtain ⟨m, hm⟩ := h
  induction m using Nat.strongRecOn with
  | _ m ih =>
    by_cases hk : ∃ k, k < m ∧ p k
    · obtain ⟨k, hk1, hk2⟩ := hk; exact ih k hk1 hk2
    · exact ⟨m, hm, fun k hp => Nat.le_of_not_lt fun hlt => hk ⟨k, hlt, hp⟩⟩

theorem agree_params {n : Nat} {args : List Value} : ∀ (ps : List Nat) (k : Nat) (e : Env) (a : Act), (∀ p ∈ ps, p < n) → Agree [] n e a → k + ps.length ≤ args.length →
    Agree [] n (setPs args ps k e) { a with tmps := (ps.zip (args.drop k)).foldl (fun t (q : Nat × Value) => t.setIfInBounds q.1 q.2) a.tmps } := by
  intro ps
  induction ps with
  | nil => intro k e a _ ha _; simpa [setPs] using ha
  | cons p ps ih =>
    intro k e a hp ha hk
    have hlt : k < args.length := by simp at hk; omega
    have hd : args.drop k = nthV args k :: args.drop (k + 1) := by
      rw [List.drop_eq_getElem_cons hlt]
      congr 1
      clear ih ha hk hp
      induction args generalizing k with
      | nil => simp at hlt
      | cons v r ih2 => cases k with
        | zero => rfl
        | succ k => exact ih2 k (by simpa using hlt)
    rw [hd]
    have h1 := ha.put (d := some p) (fun k hk => by cases hk; exact hp p List.mem_cons_self) (nthV args k)
    exact ih (k + 1) _ _ (fun q hq => hp q (List.mem_cons_of_mem _ hq)) h1 (by simp at hk ⊢; omega)

theorem RF_sound {P : Program} {n : Nat} {pl : Plans} {g : Operand} {ps : Array Tmp} {as bd : Code}
    (ihA : ∀ (r : Option Nat) (rl : Nat) (X : List (Nat × Nat)) (lo : Nat) (Q : Post) (ds : List Nat) (e : Env) (a : Act) (w : World),
      (r = none ∨ hasRF as = false) → Agree ds n e a → D P n pl rl as X lo Q ds e w → as.wpIn (FO r) 0 P (PostQ n (mods as) (hasRF as) ds e Q) a w)
    (ihB : ∀ (r : Option Nat) (rl : Nat) (X : List (Nat × Nat)) (lo : Nat) (Q : Post) (ds : List Nat) (e : Env) (a : Act) (w : World),
      (r = none ∨ hasRF bd = false) → Agree ds n e a → D P n pl rl bd X lo Q ds e w → bd.wpIn (FO r) 0 P (PostQ n (mods bd) (hasRF bd) ds e Q) a w)
    (rl : Nat) (X : List (Nat × Nat)) (lo : Nat) (Q : Post) (ds : List Nat) (e : Env) (a : Act) (w : World) (ha : Agree ds n e a) (h : D P n pl rl (.rangeFunc g ps as bd) X lo Q ds e w) :
    (Code.rangeFunc g ps as bd).wpIn (FO none) 0 P (PostQ n 0 true ds e Q) a w := by
  have h' : (bif ps.toList.all (fun p => Nat.blt p n) && (!hasRF as && !hasRF bd) then
    RangeFn P (ev e g) ps.toList.length w
      (fun args W B K => D P n pl 0 as [] (li 0 bd [] 0) (thenQ (fun ds1 e1 w1 => B w1 fun w2 => D P n pl 0 bd [] 0 (roundQ K) ds1 e1 w2) (fun _ _ _ _ => False)) [] (setPs args ps.toList 0 e) W)
      (aft (fun D w => Q .normal (D :: ds) e w) (fun D w => Q .ret (D :: ds) e w) (bif outs [] bd then (fun id D w => Q (.exit id) (D :: ds) e w) else fun _ _ _ => False))
    else False) := h
  cases hc : (ps.toList.all (fun p => Nat.blt p n) && (!hasRF as && !hasRF bd)) with
  | false => rw [hc] at h'; exact h'.elim
  | true =>
    rw [hc] at h'
    simp only [cond_true] at h'
    simp only [Bool.and_eq_true, Bool.not_eq_true'] at hc
    obtain ⟨hps, hA, hB⟩ := hc
    have hps' : ∀ p ∈ ps.toList, p < n := fun p hp => Nat.blt_eq ▸ List.all_eq_true.1 hps p hp
    obtain ⟨gf, cap, hfv, hpl, hrun⟩ := h'.ex
    refine wpIn_rangeFunc fun fn _ => ?_
    let L0 : Loop := { state := .ready, pending := none, fn, tmps := a.tmps, params := ps, assign := as, body := bd, defers := w.heap.size }
    have hY := hrun L0 rfl rfl (fun args W K hlen hl hround => ?_)
    · have hC := hY.mono (R' := rangePost (FO none) 0 P (w.heap.size + 1) (PostQ n 0 true ds e Q) { a with defers := [{ target := .collected w.heap.size, args := #[] }] ++ a.defers }) (fun x w3 hx => ?_)
      · have hC1 := (callsIn_FO (r := none) (n := 0)).2 hC
        refine ⟨w.heap.size + 1, [{ target := .collected w.heap.size, args := #[] }], (w.alloc (.deferred (some []))).alloc (.loop L0),
          { target := .fn (.func gf) cap, args := #[.func (.yield (w.heap.size + 1)) #[] #[]] }, (w.alloc (.deferred (some []))).alloc (.loop L0), gf, #[.func (.yield (w.heap.size + 1)) #[] #[]] ++ cap,
          (w.alloc (.deferred (some []))).alloc (.loop L0), run_enterLoop_outer .., ?_, fun _ _ => trivial, ?_, FO_depth, ?_⟩
        rotate_left 2
        · exact hC1
        · have hg : a.eval g = .func (.func gf) #[] cap := by rw [ha.eval]; exact hfv
          simp only [resolve, hg]
          simp [go_sem]
        · show (callFunc gf (#[.func (.yield (w.heap.size + 1)) #[] #[]] ++ cap)).run P _ = _
          exact run_callFunc hpl _ _
      · -- behind the loop
        obtain ⟨v, rfl, st, j, hst, hl3, hk⟩ := hx
        refine ⟨j, _, run_endLoop hl3 (by simpa using hst), ?_⟩
        have hag : Agree (w.heap.size :: ds) n e { a with defers := [{ target := .collected w.heap.size, args := #[] }] ++ a.defers } := ⟨by rw [ha.defers]; rfl, ha.size, ha.get⟩
        cases j with
        | none => exact ⟨_, e, hag, fun _ _ => rfl, fun hh => (by cases hh), hk⟩
        | some c =>
          cases c with
          | ret => exact wpIn_ret ⟨_, e, hag, fun _ _ => rfl, fun hh => (by cases hh), hk⟩
          | exit id =>
              have hk' : (bif outs [] bd then (fun id D w => Q (.exit id) (D :: ds) e w) else fun _ _ _ => False : Nat → Nat → World → Prop) id w.heap.size _ := hk
              cases ho : outs [] bd with
              | true => rw [ho] at hk'; exact wpIn_exit ⟨_, e, hag, fun _ _ => rfl, fun hh => (by cases hh), hk'⟩
              | false => rw [ho] at hk'; exact hk'.elim
          | _ => exact hk.elim
    · -- one round
      have hlt : w.heap.size + 1 < W.heap.size := (Array.getElem?_eq_some_iff.1 hl).1
      refine ⟨fn, _, as, bd, run_yield hl (by simp [hlen, L0]), roundIn_of_wpIn trivial ?_⟩
      have hag : Agree [] n (setPs args ps.toList 0 e) { tmps := (ps.zip args.toArray).foldl (fun t (q : Nat × Value) => t.setIfInBounds q.1 q.2) a.tmps, defers := [] } := by
        have h0 : Agree [] n e { tmps := a.tmps, defers := [] } := ⟨rfl, ha.size, ha.get⟩
        have := agree_params ps.toList 0 e _ hps' h0 (by simpa using Nat.le_of_eq hlen.symm)
        have e1 : (ps.zip args.toArray).foldl (fun t (q : Nat × Value) => t.setIfInBounds q.1 q.2) a.tmps = (ps.toList.zip (args.drop 0)).foldl (fun t (q : Nat × Value) => t.setIfInBounds q.1 q.2) a.tmps := by
          rw [← Array.foldl_toList, Array.toList_zip]; simp
        rw [e1]; exact this
      refine wpIn_mono (ihA (some (w.heap.size + 1)) 0 [] _ _ [] _ _ W (.inr hA) hag hround) fun x a1 w1 hp => ?_
      obtain ⟨ds1, e1, ha1, _, hd1, hq⟩ := hp
      cases x with
      | normal =>
        obtain ⟨hl1, hq⟩ := hq
        refine ⟨_, run_beginRound hl1 rfl, ?_⟩
        refine wpIn_mono (ihB (some (w.heap.size + 1)) 0 [] _ _ ds1 e1 a1 _ (.inr hB) ha1 hq) fun x a2 w2 hp => ?_
        obtain ⟨ds2, e2, ha2, _, _, hq⟩ := hp
        cases x with
        | normal => obtain ⟨hl2, hk⟩ := hq; exact ⟨_, _, run_endRound none hl2, _, rfl, hk⟩
        | ret => obtain ⟨hl2, hk⟩ := hq; exact ⟨_, _, run_endRound (some .ret) hl2, _, rfl, hk⟩
        | exit id => obtain ⟨hl2, hk⟩ := hq; exact ⟨_, _, run_endRound (some (.exit id)) hl2, _, rfl, hk⟩
        | _ => exact hq.elim
      | _ => exact hq.elim

theorem D_sound {P : Program} {n : Nat} {pl : Plans} (hm : P.follows .mixedOrders = true) :
    ∀ (c : Code) (r : Option Nat) (rl : Nat) (X : List (Nat × Nat)) (lo : Nat) (Q : Post) (ds : List Nat) (e : Env) (a : Act) (w : World),
      (r = none ∨ hasRF c = false) → Agree ds n e a → D P n pl rl c X lo Q ds e w → c.wpIn (FO r) 0 P (PostQ n (mods c) (hasRF c) ds e Q) a w := by
  intro c
  induction c with
  | skip => intro r rl X lo Q ds e a w _ ha h; exact wpIn_skip ⟨ds, e, ha, fun _ _ => rfl, fun _ => rfl, h⟩
  | ret => intro r rl X lo Q ds e a w _ ha h; exact wpIn_ret ⟨ds, e, ha, fun _ _ => rfl, fun _ => rfl, h⟩
  | exit id => intro r rl X lo Q ds e a w _ ha h; exact wpIn_exit ⟨ds, e, ha, fun _ _ => rfl, fun _ => rfl, h⟩
  | region id ops draw =>
    intro r rl X lo Q ds e a w _ ha h
    have hQ : ∀ (e' : Env) (a' : Act) (w' : World), Agree ds n e' a' → (∀ k, k ∉ wr ops.toList → e' k = e k) → Q .normal ds e' w' → PostQ n (mods (.region id ops draw)) (hasRF (.region id ops draw)) ds e Q .normal a' w' :=
      fun e' a' w' ha' hf hq => by
        refine ⟨ds, e', ha', fun i hi => hf i fun hmem => ?_, fun _ => rfl, hq⟩
        have h1 : bit (maskOf (wr ops.toList)) i = true := bit_maskOf.2 hmem
        have h2 : bit (maskOf (wr ops.toList)) i = false := hi
        rw [h1] at h2; cases h2
    cases draw with
    | false =>
      have := DR.region (r := r) (id := id) ha hQ (show DR P n ops.toList (ops.toList.map fun o => (o, [])) (Q .normal ds) [] e w from h)
      simpa using this
    | true =>
      have h' : (bif ops.toList.all (dstLt n) && (clsOk ops.toList (clsOf ops.toList) && okT P ops.toList (clsOf ops.toList) false ops.toList.length 0 (pl id)) then
        DT P n ops.toList (pl id) (Q .normal ds) [] e (drew w) else False) := h
      cases hc : (ops.toList.all (dstLt n) && (clsOk ops.toList (clsOf ops.toList) && okT P ops.toList (clsOf ops.toList) false ops.toList.length 0 (pl id))) with
      | false => rw [hc] at h'; exact h'.elim
      | true =>
        rw [hc] at h'
        simp only [Bool.and_eq_true] at hc
        obtain ⟨h2, h3, h4⟩ := hc
        have hd : ∀ d ∈ wr ops.toList, d < n := fun d hd => by
          obtain ⟨o, ho, hod⟩ := List.mem_filterMap.1 hd
          have := List.all_eq_true.1 h2 o ho
          unfold dstLt at this
          rw [hod] at this
          exact Nat.blt_eq ▸ this
        have hz : (bit 0) = fun _ => false := by funext i; simp [bit]
        have hws := (plan_WS (Q := Q .normal ds) h3 (pl id) ops.toList.length 0 [] e (drew w) (fun i o hi => by simp [bit] at hi) (by constructor <;> simp) (DT.plain _ _ _ _ (KgInv.nil e) h')).1 h4
        rw [hz] at hws
        have := WS.region (r := r) (id := id) hm hd ha hQ hws
        simpa using this
  | seq c1 c2 ih1 ih2 =>
    intro r rl X lo Q ds e a w hr ha h
    have hr1 : r = none ∨ hasRF c1 = false := hr.imp id fun h => by have : (hasRF c1 || hasRF c2) = false := h; rw [Bool.or_eq_false_iff] at this; exact this.1
    have hr2 : r = none ∨ hasRF c2 = false := hr.imp id fun h => by have : (hasRF c1 || hasRF c2) = false := h; rw [Bool.or_eq_false_iff] at this; exact this.2
    have key : ∀ (K : List Nat → Env → World → Prop), D P n pl rl c1 X (li rl c2 X lo) (thenQ K Q) ds e w →
        (∀ ds' e' a' w', Agree ds' n e' a' → (∀ i, bit (mods c1) i = false → e' i = e i) → (hasRF c1 = false → ds' = ds) → K ds' e' w' → c2.wpIn (FO r) 0 P (PostQ n (mods c2) (hasRF c2) ds' e' Q) a' w') →
        (Code.seq c1 c2).wpIn (FO r) 0 P (PostQ n (mods (.seq c1 c2)) (hasRF (.seq c1 c2)) ds e Q) a w := by
      intro K hK hk
      refine wpIn_seq (wpIn_mono (ih1 r rl X _ _ ds e a w hr1 ha hK) fun x a' w' hp => ?_)
      obtain ⟨ds', e', ha', hf, hds, hq⟩ := hp
      have hor : ∀ i, bit (mods (.seq c1 c2)) i = false → bit (mods c1) i = false ∧ bit (mods c2) i = false := fun i hi => by
        have : bit (Nat.lor (mods c1) (mods c2)) i = false := hi
        rw [bit_or, Bool.or_eq_false_iff] at this; exact this
      have hrf : hasRF (.seq c1 c2) = false → hasRF c1 = false ∧ hasRF c2 = false := fun hh => by
        have : (hasRF c1 || hasRF c2) = false := hh
        rw [Bool.or_eq_false_iff] at this; exact this
      cases x with
      | normal =>
        refine wpIn_mono (hk ds' e' a' w' ha' hf hds hq) fun x2 a2 w2 hp2 => ?_
        obtain ⟨ds2, e2, ha2, hf2, hds2, hq2⟩ := hp2
        exact ⟨ds2, e2, ha2, fun i hi => (hf2 i (hor i hi).2).trans (hf i (hor i hi).1), fun hh => (hds2 (hrf hh).2).trans (hds (hrf hh).1), hq2⟩
      | _ => exact ⟨ds', e', ha', fun i hi => hf i (hor i hi).1, fun hh => hds (hrf hh).1, hq⟩
    have h' : (bif Nat.ble (nxC c1) 1 && !altC pl c1 then D P n pl rl c1 X (li rl c2 X lo) (thenQ (D P n pl rl c2 X lo Q) Q) ds e w
      else bif hasRF c1 then JoinL (n :: bitsFrom (Nat.land (mods c1) (li rl c2 X lo)) n 0)
        (fun K => D P n pl rl c1 X (li rl c2 X lo) (thenQ (fun ds e w => K (upd e n (encDs ds)) w) Q) ds e w)
        (fun bs w' => ∀ dead, D P n pl rl c2 X lo Q (decDs (lkv n bs undef)) (mixE e (mods c1) bs.tail dead) w')
      else JoinL (bitsFrom (Nat.land (mods c1) (li rl c2 X lo)) n 0)
        (fun K => D P n pl rl c1 X (li rl c2 X lo) (thenQ (fun _ e w => K e w) Q) ds e w)
        (fun bs w' => ∀ dead, D P n pl rl c2 X lo Q ds (mixE e (mods c1) bs dead) w')) := h
    cases hc : (Nat.ble (nxC c1) 1 && !altC pl c1) with
    | true =>
      rw [hc] at h'
      exact key _ h' fun ds' e' a' w' ha' _ _ hk => ih2 r rl X lo Q ds' e' a' w' hr2 ha' hk
    | false =>
      rw [hc] at h'
      simp only [cond_false] at h'
      cases hc2 : hasRF c1 with
      | false =>
        rw [hc2] at h'
        simp only [cond_false] at h'
        obtain ⟨I, h1, h2⟩ := JoinL.spec h'
        refine key _ h1 fun ds' e' a' w' ha' hf hds hk => ?_
        have := h2 e' w' hk e'
        rw [mixE_self hf] at this
        rw [hds hc2] at ha' ⊢
        exact ih2 r rl X lo Q ds e' a' w' hr2 ha' this
      | true =>
        rw [hc2] at h'
        simp only [cond_true] at h'
        obtain ⟨I, h1, h2⟩ := JoinL.spec h'
        refine key _ h1 fun ds' e' a' w' ha' hf hds hk => ?_
        have := h2 (upd e' n (encDs ds')) w' hk e'
        rw [vals_cons bits_lt] at this
        rw [show ((n, encDs ds') :: valsOf (bitsFrom (Nat.land (mods c1) (li rl c2 X lo)) n 0) e').tail = valsOf (bitsFrom (Nat.land (mods c1) (li rl c2 X lo)) n 0) e' from rfl, mixE_self hf,
          show lkv n ((n, encDs ds') :: valsOf (bitsFrom (Nat.land (mods c1) (li rl c2 X lo)) n 0) e') undef = encDs ds' by show (bif Nat.beq n n then encDs ds' else _) = _; rw [beq_self]; rfl, decDs_enc] at this
        exact ih2 r rl X lo Q ds' e' a' w' hr2 ha' this
  | cond c c1 c2 ih1 ih2 =>
    intro r rl X lo Q ds e a w hr ha h
    obtain ⟨t, ht, hA, hB⟩ := (show CondV (ev e c) (D P n pl rl c1 X lo Q ds e w) (D P n pl rl c2 X lo Q ds e w) from h).ex
    have hor : ∀ i, bit (mods (.cond c c1 c2)) i = false → bit (mods c1) i = false ∧ bit (mods c2) i = false := fun i hi => by
      have : bit (Nat.lor (mods c1) (mods c2)) i = false := hi
      rw [bit_or, Bool.or_eq_false_iff] at this; exact this
    have hrf : hasRF (.cond c c1 c2) = false → hasRF c1 = false ∧ hasRF c2 = false := fun hh => by
      have : (hasRF c1 || hasRF c2) = false := hh
      rw [Bool.or_eq_false_iff] at this; exact this
    refine wpIn_cond_split (t := t) (by rw [ha.eval]; exact ht) (fun h1 => ?_) (fun h1 => ?_)
    · exact wpIn_mono (ih1 r rl X lo Q ds e a w (hr.imp id fun h => (hrf h).1) ha (hA h1)) fun x a' w' ⟨ds', e', ha', hf, hds, hq⟩ => ⟨ds', e', ha', fun i hi => hf i (hor i hi).1, fun hh => hds (hrf hh).1, hq⟩
    · exact wpIn_mono (ih2 r rl X lo Q ds e a w (hr.imp id fun h => (hrf h).2) ha (hB h1)) fun x a' w' ⟨ds', e', ha', hf, hds, hq⟩ => ⟨ds', e', ha', fun i hi => hf i (hor i hi).2, fun hh => hds (hrf hh).2, hq⟩
  | block id c ih =>
    intro r rl X lo Q ds e a w hr ha h
    refine wpIn_block (wpIn_mono (ih r rl _ _ _ ds e a w hr ha h) fun x a' w' hp => ?_)
    obtain ⟨ds', e', ha', hf, hds, hq⟩ := hp
    cases x with
    | exit k =>
      simp only [Exit.inBlock]
      simp only [blockQ] at hq
      by_cases hk : k = id
      · subst hk
        rw [beq_self] at hq
        rw [if_pos rfl]
        exact ⟨ds', e', ha', hf, hds, hq⟩
      · rw [beq_no hk] at hq
        rw [if_neg hk]
        exact ⟨ds', e', ha', hf, hds, hq⟩
    | _ => exact ⟨ds', e', ha', hf, hds, hq⟩
  | loop c ih =>
    intro r rl X lo Q ds e a w hr ha h
    -- what a round of the loop is, for either kind of loop
    have key : ∀ (V : List Nat → Env → List (Nat × Value)) (I : Nat → List (Nat × Value) → World → Prop), (∃ m, I m (V ds e) w) →
        (∀ m ds' e' w', (∀ i, bit (mods c) i = false → e' i = e i) → (hasRF c = false → ds' = ds) → I m (V ds' e') w' → D P n pl rl c X (li rl c X (li rl c X 0)) (thenQ (fun ds2 e2 w2 => ∃ m', m' < m ∧ I m' (V ds2 e2) w2) Q) ds' e' w') →
        (Code.loop c).wpIn (FO r) 0 P (PostQ n (mods (.loop c)) (hasRF (.loop c)) ds e Q) a w := by
      intro V I ⟨m, h1⟩ h2
      let Inv : Nat → Act → World → Prop := fun m a' w' => ∃ ds' e', Agree ds' n e' a' ∧ (∀ i, bit (mods c) i = false → e' i = e i) ∧ (hasRF c = false → ds' = ds) ∧ I m (V ds' e') w'
      have body : ∀ m a' w', Inv m a' w' → c.wpIn (FO r) 0 P (Exit.then (fun a2 w2 => ∃ m', m' < m ∧ Inv m' a2 w2) (PostQ n (mods (.loop c)) (hasRF (.loop c)) ds e Q)) a' w' := by
        rintro m a' w' ⟨ds', e', ha', hf, hds, hi⟩
        refine wpIn_mono (ih r rl X _ _ ds' e' a' w' hr ha' (h2 m ds' e' w' hf hds hi)) fun x a2 w2 hp => ?_
        obtain ⟨ds2, e2, ha2, hf2, hds2, hq⟩ := hp
        have hfe : ∀ i, bit (mods c) i = false → e2 i = e i := fun i hi => (hf2 i hi).trans (hf i hi)
        have hdse : hasRF c = false → ds2 = ds := fun hh => (hds2 hh).trans (hds hh)
        cases x with
        | normal => obtain ⟨m', hm', hi'⟩ := hq; exact ⟨m', hm', ds2, e2, ha2, hfe, hdse, hi'⟩
        | _ => exact ⟨ds2, e2, ha2, hfe, hdse, hq⟩
      -- the measure is the least number
      classical
      let J : Act → World → Prop := fun a' w' => ∃ m, Inv m a' w'
      let μ : Act → World → Nat := fun a' w' => if h : ∃ m, Inv m a' w' then Classical.choose (least h) else 0
      have hμ : ∀ a' w', J a' w' → Inv (μ a' w') a' w' ∧ ∀ k, Inv k a' w' → μ a' w' ≤ k := fun a' w' hj => by
        have e1 : μ a' w' = Classical.choose (least hj) := dif_pos hj
        rw [e1]
        exact Classical.choose_spec (least hj)
      refine wpIn_loop J μ ⟨m, ds, e, ha, fun _ _ => rfl, fun _ => rfl, h1⟩ fun a' w' hj => ?_
      refine wpIn_mono (body _ a' w' (hμ a' w' hj).1) fun x a2 w2 hp => ?_
      cases x with
      | normal =>
        obtain ⟨m', hm', hi'⟩ := hp
        exact ⟨⟨m', hi'⟩, Nat.lt_of_le_of_lt ((hμ a2 w2 ⟨m', hi'⟩).2 m' hi') hm'⟩
      | _ => exact hp
    have h' : (bif hasRF c then LoopL (n :: bitsFrom (Nat.land (mods c) (li rl c X (li rl c X 0))) n 0)
        (fun K bs w => ∀ dead, D P n pl rl c X (li rl c X (li rl c X 0)) (thenQ (fun ds e w => K (upd e n (encDs ds)) w) Q) (decDs (lkv n bs undef)) (mixE e (mods c) bs.tail dead) w) (upd e n (encDs ds)) w
      else LoopL (bitsFrom (Nat.land (mods c) (li rl c X (li rl c X 0))) n 0)
        (fun K bs w => ∀ dead, D P n pl rl c X (li rl c X (li rl c X 0)) (thenQ (fun _ e w => K e w) Q) ds (mixE e (mods c) bs dead) w) e w) := h
    cases hc : hasRF c with
    | false =>
      rw [hc] at h'
      simp only [cond_false] at h'
      obtain ⟨I, h1, h2⟩ := LoopL.spec h'
      rw [show hasRF (.loop c) = hasRF c from rfl] at key
      have := key (fun _ e => valsOf (bitsFrom (Nat.land (mods c) (li rl c X (li rl c X 0))) n 0) e) I h1 fun m ds' e' w' hf hds hi => by
        have := h2 m e' w' hi e'
        rw [mixE_self hf] at this
        rw [hds hc]
        exact this
      exact this
    | true =>
      rw [hc] at h'
      simp only [cond_true] at h'
      obtain ⟨I, h1, h2⟩ := LoopL.spec h'
      refine key (fun ds e => valsOf (n :: bitsFrom (Nat.land (mods c) (li rl c X (li rl c X 0))) n 0) (upd e n (encDs ds))) I h1 fun m ds' e' w' hf hds hi => ?_
      have := h2 m (upd e' n (encDs ds')) w' hi e'
      rw [vals_cons bits_lt] at this
      rw [show ((n, encDs ds') :: valsOf (bitsFrom (Nat.land (mods c) (li rl c X (li rl c X 0))) n 0) e').tail = valsOf (bitsFrom (Nat.land (mods c) (li rl c X (li rl c X 0))) n 0) e' from rfl, mixE_self hf,
        show lkv n ((n, encDs ds') :: valsOf (bitsFrom (Nat.land (mods c) (li rl c X (li rl c X 0))) n 0) e') undef = encDs ds' by show (bif Nat.beq n n then encDs ds' else _) = _; rw [beq_self]; rfl, decDs_enc] at this
      exact this
  | rangeFunc g ps as bd ihA ihB =>
    intro r rl X lo Q ds e a w hr ha h
    have hr0 : r = none := hr.resolve_right (by simp [hasRF])
    subst hr0
    exact RF_sound ihA ihB rl X lo Q ds e a w ha h
  | _ => intro r rl X lo Q ds e a w _ ha h; exact h.elim

/-! ### Calls -/

/-- The results, one by one. -/
def resR (P : Program) : List ResultVar → Env → (List Value → Prop) → World → Prop
  | [], _, K, _ => K []
  | .tmp t :: r, e, K, w => resR P r e (fun vs => K (e t :: vs)) w
  | .cell a t :: r, e, K, w => Qop P (Instr.loadAt t (e a)) w (fun v => resR P r e (fun vs => K (v :: vs)) w)
def resV : List Value → Value
  | [v] => v
  | vs => .tuple vs.toArray
/-- The marks are come to, one by one. -/
def takeAll : List Nat → World → (World → Prop) → Prop
  | [], w, K => K w
  | D :: r, w, K => w.heap[D]? = some (.deferred (some [])) ∧ takeAll r (w.putObj D (.deferred none)) K
/-- What is asked where a body ends. -/
def retQ (P : Program) (rs : List ResultVar) (K : Value → World → Prop) : Post
  | .normal, ds, e, w => takeAll ds w fun w => resR P rs e (fun vs => K (resV vs) w) w
  | .ret, ds, e, w => takeAll ds w fun w => resR P rs e (fun vs => K (resV vs) w) w
  | _, _, _, _ => False
def env0 : List Value → Env
  | [], _ => undef
  | v :: _, 0 => v
  | _ :: r, n + 1 => env0 r n

theorem env0_get (l : List Value) (i : Nat) : env0 l i = l.getD i undef := by
  induction l generalizing i with
  | nil => simp [env0]
  | cons v r ih => cases i with
    | zero => rfl
    | succ i => simp [env0, ih]

def resM (tmps : Array Value) : ResultVar → Sem Value
  | .tmp t => pure (tmps.getD t undef)
  | .cell a t => do loadVar t (← asAddr (tmps.getD a undef))

theorem run_loadCell {P : Program} {t : TypeId} {v u : Value} {w : World} (h : (Instr.loadAt t v).run P w = .ok u w) : (do loadVar t (← asAddr v) : Sem Value).run P w = .ok u w := by
  cases v with
  | pointer a => cases a with
    | none => exact absurd (show (Result.halt (.stuck "an address expected (no nilCheck in front?)") w : Result Value) = .ok u w from h) (by simp)
    | some a => exact h
  | _ => exact absurd (show (Result.halt (.stuck "an address expected (no nilCheck in front?)") w : Result Value) = .ok u w from h) (by simp)

theorem resR_run {P : Program} {ds : List Nat} {n : Nat} {e : Env} {a : Act} (ha : Agree ds n e a) : ∀ (rs : List ResultVar) (K : List Value → Prop) (w : World), resR P rs e K w →
    ∃ vs, (rs.mapM (resM a.tmps)).run P w = .ok vs w ∧ K vs := by
  intro rs
  induction rs with
  | nil => intro K w h; exact ⟨[], rfl, h⟩
  | cons r rs ih =>
    intro K w h
    have step : ∀ v, (resM a.tmps r).run P w = .ok v w → resR P rs e (fun vs => K (v :: vs)) w → ∃ vs, ((r :: rs).mapM (resM a.tmps)).run P w = .ok vs w ∧ K vs := by
      intro v hv hr
      obtain ⟨vs, h1, h2⟩ := ih _ w hr
      refine ⟨v :: vs, ?_, h2⟩
      rw [List.mapM_cons, run_bind_ok hv, run_bind_ok h1]
      rfl
    cases r with
    | tmp t => exact step (e t) (by rw [← ha.get t]; rfl) h
    | cell c t =>
      obtain ⟨v, hv, hr⟩ := h.ex
      refine step v ?_ hr
      show (do loadVar t (← asAddr (a.tmps.getD c undef)) : Sem Value).run P w = _
      rw [ha.get c]
      exact run_loadCell hv

theorem run_results {P : Program} {fn : Func} {rs : List ResultVar} (hr : fn.results = rs.toArray) {tmps : Array Value} {w : World} {vs : List Value}
    (h : (rs.mapM (resM tmps)).run P w = .ok vs w) : (results fn tmps).run P w = .ok (resV vs) w := by
  have e : results fn tmps = (rs.toArray.mapM (resM tmps) >>= fun vs => pure (if h : vs.size = 1 then vs[0] else .tuple vs)) := by
    unfold results; rw [hr]; rfl
  rw [e, List.mapM_toArray]
  have h1 : (Functor.map (fun a=>a.toArray) (rs.mapM (resM tmps))).run P w = .ok vs.toArray w := by
    rw [← bind_pure_comp, run_bind_ok h]; rfl
  rw [run_bind_ok h1]
  show Result.ok _ w = Result.ok _ w
  congr 1
  match vs with
  | [] => rfl
  | [v] => rfl
  | a :: b :: r => simp [resV]

theorem leaves_marks {P : Program} {fn : Func} {tmps : Array Value} {R : Ending → World → Prop} : ∀ (ds : List Nat) (w : World), takeAll ds w (fun w' => ∃ v, (results fn tmps).run P w' = .ok v w' ∧ R (.returned v) w') →
    LeavesInM (FO none) 0 P fn tmps R (ds.map mark) .returning w := by
  intro ds
  induction ds with
  | nil => intro w ⟨v, h1, h2⟩; exact ⟨v, h1, h2⟩
  | cons D r ih => intro w h; exact ⟨by simp, .inl ⟨D, _, rfl, run_takeDeferred h.1, ih _ h.2⟩⟩

theorem takeAll.mono {ds : List Nat} {K K' : World → Prop} (hk : ∀ w, K w → K' w) : ∀ {w : World}, takeAll ds w K → takeAll ds w K' := by
  induction ds with
  | nil => intro w h; exact hk w h
  | cons D r ih => intro w h; exact ⟨h.1, ih h.2⟩

theorem calls_of_D {P : Program} {n : Nat} {pl : Plans} {rl : Nat} {f : FuncId} {fn : Func} {c : Code} {rs : List ResultVar} {args : List Value} {w : World} {K : Value → World → Prop}
    (hm : P.follows .mixedOrders = true) (hf : P.funcs[f]? = some fn) (hb : fn.body = some c) (hn : fn.ntmps = n) (hr : fn.results = rs.toArray) (hle : args.length ≤ n)
    (h : D P n pl rl c [] rl (retQ P rs K) [] (env0 args) w) : Calls P f args.toArray w (Ret K) := by
  refine callsIn_FO.1 (callsIn_of_wp_marks (F := FO none) (n := 0) hf hb trivial ?_)
  have ha : Agree [] n (env0 args) { tmps := args.toArray ++ Array.replicate (fn.ntmps - args.toArray.size) undef, defers := [] } := by
    refine ⟨rfl, by simp [hn]; omega, fun i => ?_⟩
    rw [env0_get, Array.getD_eq_getD_getElem?, Array.getElem?_append]
    simp only [List.size_toArray, List.getElem?_toArray, Array.getElem?_replicate]
    by_cases hi : i < args.length
    · rw [if_pos hi]; simp [hi]
    · rw [if_neg hi]
      have : args[i]? = none := by simp; omega
      simp only [List.getD_eq_getElem?_getD, this, Option.getD_none]
      split <;> rfl
  refine wpIn_mono (D_sound hm c none rl [] rl _ [] _ _ w (.inl rfl) ha h) fun x a' w' hp => ?_
  obtain ⟨ds', e', ha', _, _, hq⟩ := hp
  have fin : takeAll ds' w' (fun w => resR P rs e' (fun vs => K (resV vs) w) w) → LeavesInM (FO none) 0 P fn a'.tmps (Ret K) a'.defers .returning w' := fun hq => by
    rw [ha'.defers]
    refine leaves_marks ds' w' (hq.mono fun w1 h1 => ?_)
    obtain ⟨vs, h1, h2⟩ := resR_run ha' rs _ w1 h1
    exact ⟨_, run_results hr h1, _, rfl, h2⟩
  cases x with
  | normal => exact fin hq
  | ret => exact fin hq
  | _ => exact hq.elim

theorem okD {P : Program} {n : Nat} {pl : Plans} {rl : Nat} {f : FuncId} {fn : Func} {c : Code} {rs : List ResultVar} {args : List Value} {w : World} {K : Value → World → Prop} {S : Prop}
    (hf : P.funcs[f]? = some fn) (hb : fn.body = some c) (hn : fn.ntmps = n) (hr : fn.results = rs.toArray) (hm : P.follows .mixedOrders = true) (hle : args.length ≤ n)
    (e : D P n pl rl c [] rl (retQ P rs K) [] (env0 args) w = S) (h : S) : Calls P f args.toArray w (Ret K) := calls_of_D hm hf hb hn hr hle (e.mpr h)
theorem okE {P : Program} (n : Nat) (pl : Plans) (rl : Nat) (rs : List ResultVar) {f : FuncId} {fn : Func} {args : List Value} {w : World} {K : Value → World → Prop} {S : Prop}
    (hf : P.funcs[f]? = some fn) (hb : fn.body = some (fn.body.getD .skip)) (hn : fn.ntmps = n) (hr : fn.results = rs.toArray) (hm : P.follows .mixedOrders = true) (hle : args.length ≤ n)
    (e : D P n pl rl (fn.body.getD .skip) [] rl (retQ P rs K) [] (env0 args) w = S) (h : S) : Calls P f args.toArray w (Ret K) := okD hf hb hn hr hm hle e h
theorem jvT {p : Prop} [Decidable p] (h : p) : Value.bool true = Value.bool (decide p) := congrArg Value.bool (decide_eq_true h).symm
theorem jvF {p : Prop} [Decidable p] (h : ¬ p) : Value.bool false = Value.bool (decide p) := congrArg Value.bool (decide_eq_false h).symm
theorem jvD {p q : Prop} [Decidable p] [Decidable q] (h : p ↔ q) : Value.bool (decide p) = Value.bool (decide q) := congrArg Value.bool (decide_eq_decide.2 h)

end Go.Fw
