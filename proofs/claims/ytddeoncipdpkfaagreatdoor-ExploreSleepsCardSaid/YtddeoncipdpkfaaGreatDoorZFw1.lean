/-
  A predicate transformer on the model's code over plain environments, and the soundness of its way to carry out a region that draws its order. Own work; nothing here is trusted.
-/
import Derived.Orders
import Derived.Tactics
import Derived.OrdersIn
import Derived.TacticsIn
import Derived.RangeFuncSeq
import Derived.RangeFuncLeaves
set_option linter.all false
namespace Go.Fw

abbrev Env := Nat → Value

def ev (e : Env) : Operand → Value
  | .tmp t => e t
  | .const v => v
  | .global g => .pointer (some ⟨g, 0, none⟩)
  | .func f => .func (.func f) #[] #[]

def upd (e : Env) (d : Nat) (v : Value) : Env := fun i => bif Nat.beq i d then v else e i
def updO (e : Env) (d : Option Nat) (v : Value) : Env := match d with | some d => upd e d v | none => e

theorem upd_same (e : Env) (d : Nat) (v : Value) : upd e d v d = v := by simp [upd]
theorem upd_ne (e : Env) {d i : Nat} (v : Value) (h : i ≠ d) : upd e d v i = e i := by
  have : Nat.beq i d = false := by
    cases hh : Nat.beq i d
    · rfl
    · exact absurd (Nat.eq_of_beq_eq_true hh) h
  simp [upd, this]
theorem upd_comm (e : Env) {d d' : Nat} (v v' : Value) (h : d ≠ d') : upd (upd e d v) d' v' = upd (upd e d' v') d v := by
  funext i
  by_cases h1 : i = d
  · subst h1; rw [upd_ne _ _ h, upd_same, upd_same]
  · by_cases h2 : i = d'
    · subst h2; rw [upd_same, upd_ne _ _ h1, upd_same]
    · rw [upd_ne _ _ h2, upd_ne _ _ h1, upd_ne _ _ h1, upd_ne _ _ h2]
theorem upd_id (e : Env) (d : Nat) (v : Value) (h : e d = v) : upd e d v = e := by
  funext i
  by_cases h1 : i = d
  · subst h1; rw [upd_same, h]
  · rw [upd_ne _ _ h1]

/-- The mark of a range over a function among the deferred calls. -/
def mark (D : Nat) : Deferred := { target := .collected D, args := #[] }
/-- The environment reads as the frame's temporaries do. -/
structure Agree (ds : List Nat) (n : Nat) (e : Env) (a : Act) : Prop where
  defers : a.defers = ds.map mark
  size : a.tmps.size = n
  get : ∀ i, a.tmps.getD i undef = e i

theorem Agree.eval {ds : List Nat} {n : Nat} {e : Env} {a : Act} (h : Agree ds n e a) : a.eval = ev e := by
  funext x
  cases x <;> simp [Act.eval, ev]
  case tmp t => simpa using h.get t

theorem Agree.put {ds : List Nat} {n : Nat} {e : Env} {a : Act} (h : Agree ds n e a) {d : Option Nat} (hd : ∀ k, d = some k → k < n) (v : Value) :
    Agree ds n (updO e d v) (a.put d v) := by
  cases d with
  | none => exact h
  | some d =>
    have hd := hd d rfl
    refine ⟨h.defers, by simp [Act.put, h.size], fun i => ?_⟩
    have hg := h.get i
    simp only [Act.put, updO, Array.getD_eq_getD_getElem?] at *
    by_cases hi : i = d
    · subst hi
      rw [Array.getElem?_setIfInBounds_self_of_lt (by rw [h.size]; exact hd), upd_same]
      rfl
    · rw [Array.getElem?_setIfInBounds_ne (Ne.symm hi), upd_ne _ _ hi]
      exact hg

/-! ### What one operation does -/

/-- The value of a computation that does not look at the world. -/
def pr (P : Program) {α : Type} : Sem α → Option α
  | .pure a => some a
  | .program k => pr P (k P)
  | .mark _ k => pr P k
  | _ => none

theorem run_of_pr {P : Program} {α : Type} {m : Sem α} {v : α} (h : pr P m = some v) (w : World) : m.run P w = .ok v w := by
  induction m with
  | pure a => simp only [pr, Option.some.injEq] at h; subst h; rfl
  | program k ih => exact ih P h
  | mark x k ih => exact ih h
  | _ => simp [pr] at h

theorem pr_pure {P : Program} {α : Type} (a : α) : pr P (pure a : Sem α) = some a := rfl
theorem pr_bind {P : Program} {α β : Type} (m : Sem α) (f : α → Sem β) : pr P (m >>= f) = (pr P m).bind fun a => pr P (f a) := by
  show pr P (m.bind f) = _
  induction m with
  | pure a => rfl
  | program k ih => exact ih P
  | mark x k ih => exact ih
  | _ => rfl

theorem run_bind {P : Program} {α β : Type} (m : Sem α) (f : α → Sem β) (w : World) :
    (m >>= f).run P w = match m.run P w with | .ok a w' => (f a).run P w' | .halt h w' => .halt h w' := by
  show (m.bind f).run P w = _
  induction m generalizing w with
  | pure a => rfl
  | load m a k ih => simp only [Sem.bind, Sem.run]; (repeat' split) <;> simp_all
  | store m a v k ih => cases v <;> simp only [Sem.bind, Sem.run] <;> (repeat' split) <;> simp_all
  | new o k ih => simp only [Sem.bind, Sem.run, ih]
  | shape r k ih => simp only [Sem.bind, Sem.run, ih]
  | freeze a n k ih => simp only [Sem.bind, Sem.run, ih]
  | frozen a k ih => simp only [Sem.bind, Sem.run, ih]
  | getObj r k ih => simp only [Sem.bind, Sem.run]; (repeat' split) <;> simp_all
  | setObj r o k ih => simp only [Sem.bind, Sem.run]; (repeat' split) <;> simp_all
  | choose q k ih => simp only [Sem.bind, Sem.run]; split <;> simp_all
  | sys c k ih => simp only [Sem.bind, Sem.run, ih]
  | program k ih => exact ih P w
  | mark x k ih => exact ih w
  | halt h => rfl

theorem run_bind_ok {P : Program} {α β : Type} {m : Sem α} {f : α → Sem β} {w w' : World} {a : α} (h : m.run P w = .ok a w') :
    (m >>= f).run P w = (f a).run P w' := by rw [run_bind, h]
theorem run_pure {P : Program} {α : Type} (a : α) (w : World) : (pure a : Sem α).run P w = .ok a w := rfl

/-- Every function is let in, to every depth; r: in which loop's round. -/
abbrev FO (r : Option Nat) : Fence := { Fence.wide with round := r }
theorem FO_room (r : Option Nat) (n : Nat) : (FO r).room n := room_wide n
theorem FO_depth {r : Option Nat} {p : Prop} : (FO r).depth.isSome = true → p := fun h => by cases h
theorem callsIn_FO {r : Option Nat} {n : Nat} {P : Program} {f : FuncId} {args : Array Value} {w : World} {R : Ending → World → Prop} : CallsIn (FO r) n P f args w R ↔ Calls P f args w R :=
  callsIn_wide (n := n)

/-- Every call that a text of ours makes returns. -/
def Ret (K : Value → World → Prop) : Ending → World → Prop := fun e w => ∃ v, e = .returned v ∧ K v w

theorem Ret.mono {K K' : Value → World → Prop} {e : Ending} {w : World} (h : Ret K e w) (k : ∀ v w, K v w → K' v w) : Ret K' e w :=
  let ⟨v, he, hk⟩ := h; ⟨v, he, k _ _ hk⟩

/-- A function with a body of its own. -/
def Plain (P : Program) (f : FuncId) : Prop := ∃ fn, P.funcs[f]? = some fn ∧ (fn.name == "runtime.NumGoroutine") = false ∧ fn.body.isNone = false

theorem run_callFunc {P : Program} {f : FuncId} (h : Plain P f) (args : Array Value) (w : World) :
    (callFunc f args).run P w = .ok (.enter f args) w := by
  obtain ⟨fn, h1, h2, h3⟩ := h
  show (match P.funcs[f]? with | none => _ | some fn => _ : Sem Next).run P w = _
  rw [h1]
  simp [h2, h3]

/-- A quiet operation that does not look at the world. -/
structure Pop (P : Program) (m : Sem Value) (K : Value → Prop) : Prop where
  ex : ∃ v, pr P m = some v ∧ K v
/-- A quiet operation that looks at the world. -/
structure Qop (P : Program) (m : Sem Value) (w : World) (K : Value → Prop) : Prop where
  ex : ∃ v, m.run P w = .ok v w ∧ K v
/-- An operation that may turn the world. -/
structure Eop (P : Program) (m : Sem Value) (w : World) (K : Value → World → Prop) : Prop where
  ex : ∃ v w', m.run P w = .ok v w' ∧ K v w'
/-- One without a value. -/
structure Uop (P : Program) (m : Sem Unit) (w : World) (K : World → Prop) : Prop where
  ex : ∃ w', m.run P w = .ok () w' ∧ K w'
/-- A call of a function that the text names. -/
structure CallF (P : Program) (f : FuncId) (args : List Value) (w : World) (K : Value → World → Prop) : Prop where
  ex : (Plain P f ∧ Calls P f args.toArray w (Ret K)) ∨ ∃ v w', (callFunc f args.toArray).run P w = .ok (.value v) w' ∧ K v w'
/-- A call of a function value. -/
structure CallV (P : Program) (fv : Value) (args : List Value) (w : World) (K : Value → World → Prop) : Prop where
  ex : (∃ g first cap, fv = .func (.func g) first cap ∧ Plain P g ∧ Calls P g (first ++ args.toArray ++ cap) w (Ret K)) ∨
    ∃ l, fv = .func (.yield l) #[] #[] ∧ YieldAt (FO none) 0 P l args.toArray w (Ret K)
/-- A test. -/
structure CondV (v : Value) (A B : Prop) : Prop where
  ex : ∃ t, v = .bool t ∧ (t = true → A) ∧ (t = false → B)
/-- What was read reads so still. -/
structure KeepAnd (P : Program) (m : Sem Value) (v : Value) (w : World) (R : Prop) : Prop where
  keep : m.run P w = .ok v w
  rest : R

inductive OpK where
  | val (v : Value)
  | p (m : Sem Value)
  | q (m : Sem Value)
  | e (m : Sem Value)
  | u (m : Sem Unit)
  | call (f : FuncId) (args : List Value)
  | callv (fv : Value) (args : List Value)
  | bad

def isC : Operand → Bool | .const _ => true | _ => false
def nilS : Value → Sem Value
  | .pointer none | .nilIface | .nilFunc => stuck "nil"
  | .func (.method _) _ _ => stuck "method"
  | x => pure x
def pickS (c a b : Value) : Sem Value := do pure (if ← asBool c then a else b)
def binE (op : BinOp) (t : TypeId) (cx cy : Bool) (a b : Value) : Sem Value :=
  match a, b with
  | .nilIface, .nilIface => if cx || cy then binOp op t a b else stuck "two nil interfaces"
  | .agg _, .agg _ => .program fun p => if p.eqGuardType p.depth t then stuck "an interface in a part" else binOp op t a b
  | _, _ => binOp op t a b
def binS (op : BinOp) (t : TypeId) (cx cy : Bool) (a b : Value) : Sem Value :=
  match op with
  | .eql => binE .eql t cx cy a b
  | .neq => binE .neq t cx cy a b
  | op => binOp op t a b

/-- Does a comparison look at memory? -/
def eqLooks (P : Program) (op : BinOp) (t : TypeId) (x y : Operand) : Bool :=
  match op with
  | .eql | .neq => match P.underlying t with
    | some (.pointer _) | some .unsafePointer => !(isC x || isC y)
    | _ => false
  | _ => false
def isMap (P : Program) (t : TypeId) : Bool := match P.underlying t with | some (.map _ _) | some (.chan _ _) => true | _ => false
def convK (P : Program) (s d : TypeId) : Nat :=
  match P.underlying d with
  | some (.slice _) => 2
  | some .string => match P.underlying s with | some (.slice _) => 1 | _ => 0
  | _ => 0

def opK (P : Program) (o : Oper) (ρ : Operand → Value) : OpK :=
  match o.op with
  | .move x | .assign x => .val (ρ x)
  | .pick c a b => .p (pickS (ρ c) (ρ a) (ρ b))
  | .alloc t => .e (Instr.alloc t true (.tuple #[]))
  | .box t x => .e (Instr.box t (ρ x))
  | .build t parts => .p (Instr.build t (parts.toList.map fun q => (q.1, ρ q.2)).toArray)
  | .buildSlice t n parts => .e (Instr.buildSlice t n (parts.toList.map fun q => (q.1, ρ q.2)).toArray)
  | .load t a => .q (Instr.loadAt t (ρ a))
  | .store t a x => .u (Instr.storeAt t (ρ a) (ρ x))
  | .nilCheck x => .p (nilS (ρ x))
  | .binOp op t x y _ => if eqLooks P op t x y then .q (binS op t (isC x) (isC y) (ρ x) (ρ y)) else .p (binS op t (isC x) (isC y) (ρ x) (ρ y))
  | .unOp op _ x => .p (Op.unary op (ρ x))
  | .convert s d x => match convK P s d with | 0 => .p (convert s d (ρ x)) | 1 => .q (convert s d (ρ x)) | _ => .e (convert s d (ρ x))
  | .makeInterface t x => .q (Instr.makeInterface t (ρ x))
  | .makeFunc fn first cap => .val (.func fn (first.toList.map ρ).toArray (cap.toList.map ρ).toArray)
  | .makeMap t r => .e (Instr.makeMap t (r.map ρ))
  | .makeSlice t l c => .e (Instr.makeSlice t (ρ l) (ρ c))
  | .slice t x lo hi mx => .p (Instr.sliceAt t (ρ x) (lo.map ρ) (hi.map ρ) (mx.map ρ))
  | .fieldAddr s x f => .p (Instr.fieldAt s (ρ x) f)
  | .field t x f => .p (Instr.field t (ρ x) f)
  | .indexAddr t x i => .p (Instr.indexAt t (ρ x) (ρ i))
  | .index t x i => .p (Instr.index t (ρ x) (ρ i))
  | .lookup t x i ok => .q (Instr.lookup t (ρ x) (ρ i) ok)
  | .mapUpdate t m k x | .insert t m k x => .u (Instr.mapUpdate t (ρ m) (ρ k) (ρ x))
  | .mapEntry t m k => .e (Instr.mapEntry t (ρ m) (ρ k))
  | .entryStore t m s x => .u (Instr.entryStore t (ρ m) (ρ s) (ρ x))
  | .range t x => .e (Instr.range t (ρ x))
  | .next it s => .e (Instr.next (ρ it) s o.type)
  | .entry it => .q (Instr.entry (ρ it))
  | .typeAssert x t u ok => .q (Instr.typeAssert (ρ x) t u ok)
  | .extract t i => .p (Instr.extract (ρ t) i)
  | .call c =>
    match c.callee with
    | .value (.func f) => .call f (c.args.toList.map ρ)
    | .value x => .callv (ρ x) (c.args.toList.map ρ)
    | .invoke .. => .bad
    | .builtin b =>
      match b with
      | .len => if isMap P (c.argTypes.getD 0 0) then .q (Builtin.len_ c.argTypes o.type (c.args.toList.map ρ).toArray) else .p (Builtin.len_ c.argTypes o.type (c.args.toList.map ρ).toArray)
      | .cap => .p (Builtin.cap_ c.argTypes o.type (c.args.toList.map ρ).toArray)
      | .min => .p (Builtin.min_ c.argTypes o.type (c.args.toList.map ρ).toArray)
      | .max => .p (Builtin.max_ c.argTypes o.type (c.args.toList.map ρ).toArray)
      | .append => .e (Builtin.append_ c.argTypes o.type (c.args.toList.map ρ).toArray)
      | .copy => .e (Builtin.copy_ c.argTypes o.type (c.args.toList.map ρ).toArray)
      | .clear => .e (Builtin.clear_ c.argTypes o.type (c.args.toList.map ρ).toArray)
      | .delete => .e (Builtin.delete_ c.argTypes o.type (c.args.toList.map ρ).toArray)
      | _ => .bad
  | _ => .bad

def DOp (P : Program) (k : OpK) (K : Value → World → Prop) (w : World) : Prop :=
  match k with
  | .val v => K v w
  | .p m => Pop P m (fun v => K v w)
  | .q m => Qop P m w (fun v => K v w)
  | .e m => Eop P m w K
  | .u m => Uop P m w (fun w' => K undef w')
  | .call f args => CallF P f args w K
  | .callv fv args => CallV P fv args w K
  | .bad => False

/-- Quiet: it has a value, and leaves the world alone. -/
def OpK.quiet : OpK → Bool
  | .val _ | .p _ | .q _ => true
  | _ => false
/-- It looks at the world. -/
def OpK.reads : OpK → Bool
  | .q _ => true
  | _ => false
def OpK.has (P : Program) (k : OpK) (w : World) (v : Value) : Prop :=
  match k with
  | .val x => x = v
  | .p m => pr P m = some v
  | .q m => m.run P w = .ok v w
  | _ => False

theorem DOp.has {P : Program} {k : OpK} {K : Value → World → Prop} {w : World} (hq : k.quiet = true) (h : DOp P k K w) : ∃ v, k.has P w v ∧ K v w := by
  cases k <;> simp only [OpK.quiet, Bool.false_eq_true] at hq <;> simp only [DOp] at h
  case val v => exact ⟨v, rfl, h⟩
  case p m => exact h.ex
  case q m => exact h.ex

theorem OpK.has_det {P : Program} {k : OpK} {w : World} {v v' : Value} (h : k.has P w v) (h' : k.has P w v') : v = v' := by
  cases k <;> simp only [OpK.has] at h h'
  case val u => exact h.symm.trans h'
  case p m => exact Option.some.inj (h.symm.trans h')
  case q m => have := h.symm.trans h'; simpa using this

theorem OpK.has_still {P : Program} {k : OpK} {w w' : World} {v : Value} (hr : k.reads = false) (h : k.has P w v) : k.has P w' v := by
  cases k <;> simp only [OpK.has, OpK.reads, Bool.true_eq_false] at *
  · exact h
  · exact h

theorem DOp.of_has {P : Program} {k : OpK} {K : Value → World → Prop} {w : World} {v : Value} (h : k.has P w v) (hk : K v w) : DOp P k K w := by
  cases k <;> simp only [OpK.has] at h <;> simp only [DOp]
  case val u => subst h; exact hk
  case p m => exact ⟨v, h, hk⟩
  case q m => exact ⟨v, h, hk⟩

theorem DOp.mono {P : Program} {k : OpK} {K K' : Value → World → Prop} {w : World} (h : DOp P k K w) (hk : ∀ v w, K v w → K' v w) : DOp P k K' w := by
  cases k <;> simp only [DOp] at *
  case val v => exact hk _ _ h
  case p m => exact ⟨let ⟨v, a, b⟩ := h.ex; ⟨v, a, hk _ _ b⟩⟩
  case q m => exact ⟨let ⟨v, a, b⟩ := h.ex; ⟨v, a, hk _ _ b⟩⟩
  case e m => exact ⟨let ⟨v, w', a, b⟩ := h.ex; ⟨v, w', a, hk _ _ b⟩⟩
  case u m => exact ⟨let ⟨w', a, b⟩ := h.ex; ⟨w', a, hk _ _ b⟩⟩
  case call f args =>
    rcases h.ex with ⟨a, b⟩ | ⟨v, w', a, b⟩
    · exact ⟨.inl ⟨a, b.mono fun e w' r => r.mono hk⟩⟩
    · exact ⟨.inr ⟨v, w', a, hk _ _ b⟩⟩
  case callv fv args =>
    rcases h.ex with ⟨g, f, c, a, b, d⟩ | ⟨l, a, fn, t, s, b, c, d⟩
    · exact ⟨.inl ⟨g, f, c, a, b, d.mono fun e w' r => r.mono hk⟩⟩
    · exact ⟨.inr ⟨l, a, fn, t, s, b, c, d.mono fun e w' r => r.mono hk⟩⟩

theorem FO_about {r : Option Nat} {P : Program} {o : Oper} {a : Act} {w : World} : ∀ f, o.about P w a.eval = some f → (FO r).fn f := fun _ _ => trivial
theorem upon_of_ret {r : Option Nat} {P : Program} {o : Oper} {a : Act} {next : Act → World → Prop} {Q : Exit → Act → World → Prop} {f : FuncId} {args : Array Value} {w : World}
    {K : Value → World → Prop} (h : Calls P f args w (Ret K)) (hk : ∀ v w', K v w' → next (a.put o.dst v) w') : o.uponIn (FO r) 0 P a next Q (.ok (.enter f args) w) := by
  rw [Oper.uponIn_enter]
  refine ⟨FO_depth, callsIn_FO.2 (h.mono fun e w' ⟨v, he, hv⟩ => ?_)⟩
  subst he
  exact hk _ _ hv
theorem upon_of_round {r : Option Nat} {P : Program} {o : Oper} {a : Act} {next : Act → World → Prop} {Q : Exit → Act → World → Prop} {l : Nat} {f : FuncId} {tmps : Array Value} {assign body : Code} {w : World}
    {K : Value → World → Prop} (h : RoundIn (FO none) 0 P l f tmps assign body w (Ret K)) (hk : ∀ v w', K v w' → next (a.put o.dst v) w') : o.uponIn (FO r) 0 P a next Q (.ok (.round l f tmps assign body) w) := by
  rw [Oper.uponIn_round]
  refine ⟨FO_depth, ?_⟩
  have h' : RoundIn (FO r) 0 P l f tmps assign body w (Ret K) := h
  refine h'.mono fun e w' ⟨v, he, hv⟩ => ?_
  subst he
  exact hk _ _ hv

theorem wp_of_run {r : Option Nat} {P : Program} {o : Oper} {a : Act} {next : Act → World → Prop} {Q : Exit → Act → World → Prop} {w w' : World} {v : Value} (hnd : ∀ c, o.op ≠ .defer c)
    (h : (execOp a.eval o).run P w = .ok (.value v) w') (hk : next (a.put o.dst v) w') : o.wpIn (FO r) 0 P a w next Q := by
  unfold Oper.wpIn; rw [Oper.semAt_eq _ _ _ hnd, h, Oper.uponIn_value]; exact ⟨FO_about, hk⟩
theorem wp_of_skip {r : Option Nat} {P : Program} {o : Oper} {a : Act} {next : Act → World → Prop} {Q : Exit → Act → World → Prop} {w w' : World} (hnd : ∀ c, o.op ≠ .defer c)
    (h : (execOp a.eval o).run P w = .ok .skip w') (hk : next (a.put o.dst undef) w') : o.wpIn (FO r) 0 P a w next Q := by
  unfold Oper.wpIn; rw [Oper.semAt_eq _ _ _ hnd, h, Oper.uponIn_skip]; exact ⟨FO_about, hk⟩

theorem run_v {P : Program} {m : Sem Value} {w w' : World} {v : Value} (h : m.run P w = .ok v w') :
    (do pure (.value (← m)) : Sem Next).run P w = .ok (.value v) w' := by rw [run_bind_ok h]; rfl
theorem run_u {P : Program} {m : Sem Unit} {w w' : World} (h : m.run P w = .ok () w') :
    (do m; pure .skip : Sem Next).run P w = .ok .skip w' := by rw [run_bind_ok h]; rfl

theorem map_arr {α β : Type} (f : α → β) (l : Array α) : (l.toList.map f).toArray = l.map f := by
  apply Array.ext'; simp

def eqG (t : TypeId) (x y : Operand) (a b : Value) : Sem Unit :=
  match a, b with
  | .nilIface, .nilIface => if (isC x || isC y) = true then pure () else do
      if ← Op.eqGuardIn Op.maxDepth t a b then unsupported (.noEntry "binop/eql: two nil values of an interface type with methods, neither of them the literal nil")
  | .agg _, .agg _ => do
    if !(← program).eqGuardType (← program).depth t then return
    if ← Op.eqGuardIn Op.maxDepth t a b then unsupported (.noEntry "binop/eql: two nil values of an interface type with methods, in a part of a struct or an array")
  | _, _ => pure ()
theorem run_eqGuard {P : Program} {op : BinOp} (hop : op = .eql ∨ op = .neq) {t : TypeId} {x y : Operand} {a b : Value} {w w' : World} {v : Value}
    (h : (binE op t (isC x) (isC y) a b).run P w = .ok v w') : (eqGuard op t x y a b).run P w = .ok () w ∧ (binOp op t a b).run P w = .ok v w' := by
  have hg : eqGuard op t x y a b = eqG t x y a b := by rcases hop with rfl | rfl <;> cases x <;> cases y <;> rfl
  rw [hg]
  clear hg
  unfold eqG
  unfold binE at h
  split at h
  · split at h
    · rename_i hc
      refine ⟨?_, h⟩
      show ((if (isC x || isC y) = true then pure () else _ : Sem Unit).run P w) = _
      rw [if_pos hc]
      rfl
    · simp [stuck] at h
  · rename_i c1 c2
    have h' : (if P.eqGuardType P.depth t then stuck "an interface in a part" else binOp op t (.agg c1) (.agg c2) : Sem Value).run P w = .ok v w' := h
    split at h'
    · simp [stuck] at h'
    · rename_i hc
      refine ⟨?_, h'⟩
      show ((if (!P.eqGuardType P.depth t) = true then pure () else _ : Sem Unit).run P w) = _
      rw [if_pos (by simpa using hc)]
      rfl
  · exact ⟨rfl, h⟩
theorem run_binS {P : Program} {op : BinOp} {t : TypeId} {x y : Operand} {a b : Value} {w w' : World} {v : Value}
    (h : (binS op t (isC x) (isC y) a b).run P w = .ok v w') : (do eqGuard op t x y a b; binOp op t a b : Sem Value).run P w = .ok v w' := by
  unfold binS at h
  split at h
  · obtain ⟨h1, h2⟩ := run_eqGuard (.inl rfl) h
    rw [run_bind_ok h1]; exact h2
  · obtain ⟨h1, h2⟩ := run_eqGuard (.inr rfl) h
    rw [run_bind_ok h1]; exact h2
  · rename_i n1 n2
    have h1 : (eqGuard op t x y a b).run P w = .ok () w := by
      unfold eqGuard
      cases op <;> first | rfl | exact (n1 rfl).elim | exact (n2 rfl).elim
    rw [run_bind_ok h1]; exact h

/-- SOUND, one operation. -/
theorem DOp.wp {r : Option Nat} {ds : List Nat} {P : Program} {n : Nat} {o : Oper} {e : Env} {a : Act} {w : World} {K : Value → World → Prop} {Q : Exit → Act → World → Prop} {next : Act → World → Prop}
    (ha : Agree ds n e a) (h : DOp P (opK P o (ev e)) K w) (hk : ∀ v w', K v w' → next (a.put o.dst v) w') : o.wpIn (FO r) 0 P a w next Q := by
  have he := ha.eval
  have hnd : ∀ c, o.op ≠ .defer c := fun c hc => by unfold opK at h; rw [hc] at h; exact h
  have V : ∀ {m : Sem Value}, Pop P m (fun v => K v w) → execOp (ev e) o = (do pure (.value (← m)) : Sem Next) → o.wpIn (FO r) 0 P a w next Q := fun hp hx => by
    obtain ⟨v, h1, h2⟩ := hp.ex
    exact wp_of_run (w' := w) hnd (by rw [he, hx]; exact run_v (run_of_pr h1 w)) (hk _ _ h2)
  have V' : ∀ {m : Sem Value}, Qop P m w (fun v => K v w) → execOp (ev e) o = (do pure (.value (← m)) : Sem Next) → o.wpIn (FO r) 0 P a w next Q := fun hp hx => by
    obtain ⟨v, h1, h2⟩ := hp.ex
    exact wp_of_run (w' := w) hnd (by rw [he, hx]; exact run_v h1) (hk _ _ h2)
  have E : ∀ {m : Sem Value}, Eop P m w K → execOp (ev e) o = (do pure (.value (← m)) : Sem Next) → o.wpIn (FO r) 0 P a w next Q := fun hp hx => by
    obtain ⟨v, w', h1, h2⟩ := hp.ex
    exact wp_of_run hnd (by rw [he, hx]; exact run_v h1) (hk _ _ h2)
  have U : ∀ {m : Sem Unit}, Uop P m w (fun w' => K undef w') → execOp (ev e) o = (do m; pure .skip : Sem Next) → o.wpIn (FO r) 0 P a w next Q := fun hp hx => by
    obtain ⟨w', h1, h2⟩ := hp.ex
    exact wp_of_skip hnd (by rw [he, hx]; exact run_u h1) (hk _ _ h2)
  unfold opK at h
  cases hop : o.op with
  | move x => rw [hop] at h; exact wp_of_run (w' := w) hnd (by rw [he]; simp only [execOp, hop]; rfl) (hk _ _ h)
  | assign x => rw [hop] at h; exact wp_of_run (w' := w) hnd (by rw [he]; simp only [execOp, hop]; rfl) (hk _ _ h)
  | pick c x y =>
    rw [hop] at h
    obtain ⟨v, h1, h2⟩ := h.ex
    refine wp_of_run (w' := w) hnd ?_ (hk _ _ h2)
    rw [he]; simp only [execOp, hop]
    have := run_of_pr h1 w
    unfold pickS at this
    revert this
    cases ev e c <;> simp only [asBool] <;> intro this <;> first | (simp only [stuck] at this; exact absurd this (by simp [Sem.run])) | skip
    case bool t =>
      have e2 : v = (if t = true then ev e x else ev e y) := by
        have : (Result.ok (if t = true then ev e x else ev e y) w : Result Value) = .ok v w := this
        simpa using this.symm
      rw [e2]; rfl
  | alloc t => rw [hop] at h; exact E h (by simp only [execOp, hop])
  | box t x => rw [hop] at h; exact E h (by simp only [execOp, hop])
  | build t ps => rw [hop] at h; exact V h (by simp only [execOp, hop, map_arr])
  | buildSlice t n ps => rw [hop] at h; exact E h (by simp only [execOp, hop, map_arr])
  | insert t m k x => rw [hop] at h; exact U h (by simp only [execOp, hop])
  | load t x => rw [hop] at h; exact V' h (by simp only [execOp, hop])
  | store t x y => rw [hop] at h; exact U h (by simp only [execOp, hop])
  | nilCheck x =>
    rw [hop] at h
    obtain ⟨v, h1, h2⟩ := h.ex
    refine wp_of_run (w' := w) hnd ?_ (hk _ _ h2)
    rw [he]; simp only [execOp, hop]
    revert h1
    cases hx : ev e x with
    | pointer p => cases p <;> simp [nilS, stuck, pr, pr_pure] <;> (try (rintro rfl; rfl))
    | func fn f c => cases fn <;> simp [nilS, stuck, pr, pr_pure] <;> (try (rintro rfl; rfl))
    | _ => simp [nilS, stuck, pr, pr_pure] <;> (try (rintro rfl; rfl))
  | binOp op t x y u =>
    rw [hop] at h
    dsimp only at h
    split at h
    · obtain ⟨v, h1, h2⟩ := h.ex
      exact wp_of_run (w' := w) hnd (by rw [he]; simp only [execOp, hop]; exact run_v (run_binS h1)) (hk _ _ h2)
    · obtain ⟨v, h1, h2⟩ := h.ex
      exact wp_of_run (w' := w) hnd (by rw [he]; simp only [execOp, hop]; exact run_v (run_binS (run_of_pr h1 w))) (hk _ _ h2)
  | unOp op t x => rw [hop] at h; exact V h (by simp only [execOp, hop])
  | convert s d x =>
    rw [hop] at h
    dsimp only at h
    split at h
    · exact V h (by simp only [execOp, hop])
    · exact V' h (by simp only [execOp, hop])
    · exact E h (by simp only [execOp, hop])
  | makeInterface t x => rw [hop] at h; exact V' h (by simp only [execOp, hop])
  | makeFunc fn f c => rw [hop] at h; exact wp_of_run (w' := w) hnd (by rw [he]; simp only [execOp, hop, ← map_arr]; rfl) (hk _ _ h)
  | makeMap t r => rw [hop] at h; exact E h (by simp only [execOp, hop])
  | makeSlice t l c => rw [hop] at h; exact E h (by simp only [execOp, hop])
  | slice t x lo hi mx => rw [hop] at h; exact V h (by simp only [execOp, hop])
  | fieldAddr s x f => rw [hop] at h; exact V h (by simp only [execOp, hop])
  | field t x f => rw [hop] at h; exact V h (by simp only [execOp, hop])
  | indexAddr t x i => rw [hop] at h; exact V h (by simp only [execOp, hop])
  | index t x i => rw [hop] at h; exact V h (by simp only [execOp, hop])
  | lookup t x i ok => rw [hop] at h; exact V' h (by simp only [execOp, hop])
  | mapUpdate t m k x => rw [hop] at h; exact U h (by simp only [execOp, hop])
  | mapEntry t m k => rw [hop] at h; exact E h (by simp only [execOp, hop])
  | entryStore t m s x => rw [hop] at h; exact U h (by simp only [execOp, hop])
  | range t x => rw [hop] at h; exact E h (by simp only [execOp, hop])
  | next it s => rw [hop] at h; exact E h (by simp only [execOp, hop])
  | entry it => rw [hop] at h; exact V' h (by simp only [execOp, hop])
  | typeAssert x t u ok => rw [hop] at h; exact V' h (by simp only [execOp, hop])
  | extract t i => rw [hop] at h; exact V h (by simp only [execOp, hop])
  | call c =>
    rw [hop] at h
    dsimp only at h
    have harg : (c.args.toList.map (ev e)).toArray = c.args.map (ev e) := map_arr _ _
    cases hc : c.callee with
    | value x =>
      rw [hc] at h
      have hval : ∀ {g : FuncId} {first cap : Array Value}, ev e x = .func (.func g) first cap → Plain P g → Calls P g (first ++ (c.args.toList.map (ev e)).toArray ++ cap) w (Ret K) → o.wpIn (FO r) 0 P a w next Q := by
        intro g first cap hx hp hcall
        unfold Oper.wpIn
        rw [Oper.semAt_eq _ _ _ hnd]
        have hr : (execOp a.eval o).run P w = .ok (.enter g (first ++ (c.args.toList.map (ev e)).toArray ++ cap)) w := by
          rw [he]
          simp only [execOp, hop]
          have h1 : (resolve (ev e) c o.type).run P w = .ok { target := .fn (.func g) cap, args := first ++ c.args.map (ev e) } w := by
            simp only [resolve, hc, hx]; rfl
          rw [run_bind_ok h1]
          show (callFunc g (first ++ c.args.map (ev e) ++ cap)).run P w = _
          rw [run_callFunc hp, harg]
        rw [hr]
        exact ⟨FO_about, upon_of_ret hcall fun v w' hv => hk v w' hv⟩
      have hyl : ∀ {l : Nat}, ev e x = .func (.yield l) #[] #[] → YieldAt (FO none) 0 P l (c.args.toList.map (ev e)).toArray w (Ret K) → o.wpIn (FO r) 0 P a w next Q := by
        rintro l hx ⟨fn, tmps, assign, body, hy, hr⟩
        unfold Oper.wpIn
        rw [Oper.semAt_eq _ _ _ hnd]
        have hr' : (execOp a.eval o).run P w = .ok (.round l fn tmps assign body) w := by
          rw [he]
          simp only [execOp, hop]
          have h1 : (resolve (ev e) c o.type).run P w = .ok { target := .fn (.yield l) #[], args := #[] ++ c.args.map (ev e) } w := by
            simp only [resolve, hc, hx]; rfl
          rw [run_bind_ok h1]
          show (Instr.yield l (#[] ++ c.args.map (ev e))).run P w = _
          rw [Array.empty_append, ← harg]; exact hy
        rw [hr']
        exact ⟨FO_about, upon_of_round hr fun v w' hv => hk v w' hv⟩
      have hany : CallV P (ev e x) (c.args.toList.map (ev e)) w K → o.wpIn (FO r) 0 P a w next Q := fun h => by
        rcases h.ex with ⟨g, first, cap, h1, h2, h3⟩ | ⟨l, h1, h2⟩
        · exact hval h1 h2 h3
        · exact hyl h1 h2
      cases x with
      | func f =>
        rcases h.ex with ⟨h1, h2⟩ | ⟨v, w', h1, h2⟩
        · exact hval (g := f) (first := #[]) (cap := #[]) rfl h1 (by simpa using h2)
        · refine wp_of_run hnd ?_ (hk _ _ h2)
          rw [he]
          simp only [execOp, hop]
          have h3 : (resolve (ev e) c o.type).run P w = .ok { target := .fn (.func f) #[], args := #[] ++ c.args.map (ev e) } w := by
            simp only [resolve, hc, ev]; rfl
          rw [run_bind_ok h3]
          show (callFunc f (#[] ++ c.args.map (ev e) ++ #[])).run P w = _
          rw [← harg, Array.empty_append, Array.append_empty]
          exact h1
      | tmp t => exact hany h
      | const v => exact hany h
      | global g => exact hany h
    | invoke r nm => rw [hc] at h; exact h.elim
    | builtin b =>
      rw [hc] at h
      dsimp only at h
      have hb : ∀ {m : Sem Value}, builtin b c.argTypes o.type (c.args.map fun | .const _ => true | _ => false) (c.args.map (ev e)) = (do pure (.value (← m)) : Sem Next) →
          execOp (ev e) o = (do pure (.value (← m)) : Sem Next) := by
        intro m hm
        simp only [execOp, hop]
        have h1 : resolve (ev e) c o.type = pure { target := .builtin b c.argTypes o.type (c.args.map fun | .const _ => true | _ => false), args := c.args.map (ev e) } := by
          simp only [resolve, hc]; rfl
        rw [h1]
        exact hm
      rw [harg] at h
      cases b <;> first | exact h.elim | skip
      case len =>
        dsimp only at h
        split at h
        · exact V' h (hb rfl)
        · exact V h (hb rfl)
      case cap => exact V h (hb rfl)
      case min => exact V h (hb rfl)
      case max => exact V h (hb rfl)
      case append => exact E h (hb rfl)
      case copy => exact E h (hb rfl)
      case clear => exact E h (hb rfl)
      case delete => exact E h (hb rfl)
  | _ => rw [hop] at h; exact h.elim

end Go.Fw
