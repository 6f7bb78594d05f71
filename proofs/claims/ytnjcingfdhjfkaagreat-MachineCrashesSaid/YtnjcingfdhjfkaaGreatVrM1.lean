/-
  What the proof needs, part 1.
-/
import Derived.Test.YtnjcingfdhjfkaaGreatProg
import Derived.Orders
import Derived.Tactics
import Derived.OrdersIn
import Derived.TacticsIn
import Derived.RangeFuncSeq
import Derived.RangeFuncLeaves
import Derived.Laws.Sem
import Derived.KernelRfl
import Derived.Below
import Derived.IntWalk
import Derived.Laws.AppendOwn
import Derived.Laws.MakeOwn
import Derived.WalkKit
import Derived.ProofKit
import Derived.OpenShut
import Derived.ChangeCalls
import Derived.Laws.Strings
import Derived.Lib.ConvBytes
import Derived.MapKept
import Derived.Maps.RangeRun
set_option linter.all false
namespace Go.Fw
abbrev Env:=Nat→Value
def ev (e:Env):Operand→Value
 | .tmp t=>e t
 | .const v=>v
 | .global g=>.pointer (some ⟨g,0,none⟩)
 | .func f=>.func (.func f) #[] #[]
def yY (e:Env) (d:Nat) (v:Value):Env:=λ i=>bif Nat.beq i d then v else e i
def iZ (e:Env) (d:Option Nat) (v:Value):Env:=match d with | some d=>yY e d v | none=>e
theorem mS (e:Env) (d:Nat) (v:Value):yY e d v d=v:=by simp [yY]
theorem nL (e:Env) {d i:Nat} (v:Value) (h:i≠d):yY e d v i=e i:=by
 have:Nat.beq i d=false:=by
  cases hh:Nat.beq i d
  ·rfl
  ·exact absurd (Nat.eq_of_beq_eq_true hh) h
 simp [yY,this]
theorem Tw (e:Env) {d d':Nat} (v v':Value) (h:d≠d'):yY (yY e d v) d' v'=yY (yY e d' v') d v:=by
 funext i
 by_cases h1:i=d
 ·subst h1; rw [nL _ _ h,mS,mS]
 ·by_cases h2:i=d'
  ·subst h2; rw [mS,nL _ _ h1,mS]
  ·rw [nL _ _ h2,nL _ _ h1,nL _ _ h1,nL _ _ h2]
theorem agG (e:Env) (d:Nat) (v:Value) (h:e d=v):yY e d v=e:=by
 funext i
 by_cases h1:i=d
 ·subst h1; rw [mS,h]
 ·rw [nL _ _ h1]
def mark (D:Nat):Deferred:={target:=.collected D,args:=#[]}
structure iV (ds:List Nat) (n:Nat) (e:Env) (a:Act):Prop where
 defers:a.defers=ds.map mark
 size:a.tmps.size=n
 get:∀ i,a.tmps.getD i undef=e i
theorem iV.eval {ds:List Nat} {n:Nat} {e:Env} {a:Act} (h:iV ds n e a):a.eval=ev e:=by
 funext x
 cases x <;> simp [Act.eval,ev]
 case tmp t=>simpa using h.get t
theorem iV.put {ds:List Nat} {n:Nat} {e:Env} {a:Act} (h:iV ds n e a) {d:Option Nat} (hd:∀ k,d=some k→k<n) (v:Value) :
  iV ds n (iZ e d v) (a.put d v):=by
 cases d with
 | none=>exact h
 | some d=>
  have hd:=hd d rfl
  refine ⟨h.defers,by simp [Act.put,h.size],λ i=>?_⟩
  have hg:=h.get i
  simp only [Act.put,iZ,Array.getD_eq_getD_getElem?] at *
  by_cases hi:i=d
  ·subst hi
   rw [Array.getElem?_setIfInBounds_self_of_lt (by rw [h.size]; exact hd),mS]
   rfl
  ·rw [Array.getElem?_setIfInBounds_ne (Ne.symm hi),nL _ _ hi]
   exact hg
def pr (P:Program) {α:Type}:Sem α→Option α
 | .pure a=>some a
 | .program k=>pr P (k P)
 | .mark _ k=>pr P k
 | _=>none
theorem fo {P:Program} {α:Type} {m:Sem α} {v:α} (h:pr P m=some v) (w:World):m.run P w = .ok v w:=by
 induction m with
 | pure a=>simp only [pr,Option.some.injEq] at h; subst h; rfl
 | program k ih=>exact ih P h
 | mark x k ih=>exact ih h
 | _=>simp [pr] at h
theorem fe {P:Program} {α:Type} (a:α):pr P (pure a:Sem α)=some a:=rfl
theorem cM {P:Program} {α β:Type} (m:Sem α) (f:α→Sem β):pr P (m >>= f)=(pr P m).bind λ a=>pr P (f a):=by
 show pr P (m.bind f)=_
 induction m with
 | pure a=>rfl
 | program k ih=>exact ih P
 | mark x k ih=>exact ih
 | _=>rfl
theorem run_bind {P:Program} {α β:Type} (m:Sem α) (f:α→Sem β) (w:World) :
  (m >>= f).run P w=match m.run P w with | .ok a w'=>(f a).run P w' | .halt h w'=>.halt h w':=by
 show (m.bind f).run P w=_
 induction m generalizing w with
 | pure a=>rfl
 | load m a k ih=>simp only [Sem.bind,Sem.run]; (repeat' split) <;> simp_all
 | store m a v k ih=>cases v <;> simp only [Sem.bind,Sem.run] <;> (repeat' split) <;> simp_all
 | new o k ih=>simp only [Sem.bind,Sem.run,ih]
 | shape r k ih=>simp only [Sem.bind,Sem.run,ih]
 | freeze a n k ih=>simp only [Sem.bind,Sem.run,ih]
 | frozen a k ih=>simp only [Sem.bind,Sem.run,ih]
 | getObj r k ih=>simp only [Sem.bind,Sem.run]; (repeat' split) <;> simp_all
 | setObj r o k ih=>simp only [Sem.bind,Sem.run]; (repeat' split) <;> simp_all
 | choose q k ih=>simp only [Sem.bind,Sem.run]; split <;> simp_all
 | sys c k ih=>simp only [Sem.bind,Sem.run,ih]
 | program k ih=>exact ih P w
 | mark x k ih=>exact ih w
 | halt h=>rfl
theorem dH {P:Program} {α β:Type} {m:Sem α} {f:α→Sem β} {w w':World} {a:α} (h:m.run P w = .ok a w') :
  (m >>= f).run P w=(f a).run P w':=by rw [run_bind,h]
theorem run_pure {P:Program} {α:Type} (a:α) (w:World):(pure a:Sem α).run P w = .ok a w:=rfl
abbrev FO (r:Option Nat):Fence:={Fence.wide with round:=r}
theorem De {r:Option Nat} {p:Prop}:(FO r).depth.isSome=true→p:=λ h=>by cases h
theorem ym {r:Option Nat} {n:Nat} {P:Program} {f:FuncId} {args:Array Value} {w:World} {R:Ending→World→Prop}:CallsIn (FO r) n P f args w R↔Calls P f args w R:=
 callsIn_wide (n:=n)
def pU (K:Value→World→Prop):Ending→World→Prop:=λ e w=>∃ v,e = .returned v∧K v w
theorem pU.mono {K K':Value→World→Prop} {e:Ending} {w:World} (h:pU K e w) (k:∀ v w,K v w→K' v w):pU K' e w:=
 let ⟨v,he,hk⟩:=h; ⟨v,he,k _ _ hk⟩
def Plain (P : Program) (f : FuncId) : Prop := ∃ fn, P.funcs[f]? = some fn ∧ (fn.name == "runtime.NumGoroutine") = false ∧ fn.body.isNone = false
theorem za {P:Program} {f:FuncId} (h:Plain P f) (args:Array Value) (w:World) :
  (callFunc f args).run P w = .ok (.enter f args) w:=by
 obtain ⟨fn,h1,h2,h3⟩:=h
 show (match P.funcs[f]? with | none=>_ | some fn=>_:Sem Next).run P w=_
 rw [h1]
 simp [h2,h3]
structure cW (P:Program) (m:Sem Value) (K:Value→Prop):Prop where
 ex:∃ v,pr P m=some v∧K v
structure Df (P:Program) (m:Sem Value) (w:World) (K:Value→Prop):Prop where
 ex:∃ v,m.run P w = .ok v w∧K v
structure gU (P:Program) (m:Sem Value) (w:World) (K:Value→World→Prop):Prop where
 ex:∃ v w',m.run P w = .ok v w'∧K v w'
structure A0 (P:Program) (m:Sem Unit) (w:World) (K:World→Prop):Prop where
 ex:∃ w',m.run P w = .ok () w'∧K w'
structure Dg (P:Program) (f:FuncId) (args:List Value) (w:World) (K:Value→World→Prop):Prop where
 plain:Plain P f
 calls:Calls P f args.toArray w (pU K)
structure fZ (P:Program) (fv:Value) (args:List Value) (w:World) (K:Value→World→Prop):Prop where
 ex:(∃ g first cap,fv = .func (.func g) first cap∧Plain P g∧Calls P g (first++args.toArray++cap) w (pU K))∨
  ∃ l,fv = .func (.yield l) #[] #[]∧YieldAt (FO none) 0 P l args.toArray w (pU K)
structure xR (v:Value) (A B:Prop):Prop where
 ex:∃ t,v = .bool t∧(t=true→A)∧(t=false→B)
structure Hz (P:Program) (m:Sem Value) (v:Value) (w:World) (R:Prop):Prop where
 amn:m.run P w = .ok v w
 rest:R
inductive Dh where
 | val (v:Value)
 | p (m:Sem Value)
 | q (m:Sem Value)
 | e (m:Sem Value)
 | u (m:Sem Unit)
 | call (f:FuncId) (args:List Value)
 | O9 (fv:Value) (args:List Value)
 | bad
def Pa:Operand→Bool | .const _=>true | _=>false
def Ry:Value→Sem Value
 | .pointer none | .nilIface | .nilFunc => stuck "nil"
 | .func (.method _) _ _ => stuck "method"
 | x=>pure x
def Tx (c a b:Value):Sem Value:=do pure (if ← asBool c then a else b)
def YI (op:BinOp) (t:TypeId) (cx cy:Bool) (a b:Value):Sem Value:=
 match a,b with
 | .nilIface, .nilIface => if cx || cy then binOp op t a b else stuck "two nil interfaces"
 | .agg _, .agg _ => .program λ p => if p.eqGuardType p.depth t then stuck "an interface in a part" else binOp op t a b
 | _,_=>binOp op t a b
def iI (op:BinOp) (t:TypeId) (cx cy:Bool) (a b:Value):Sem Value:=
 match op with
 | .eql=>YI .eql t cx cy a b
 | .neq=>YI .neq t cx cy a b
 | op=>binOp op t a b
def YJ (P:Program) (op:BinOp) (t:TypeId) (x y:Operand):Bool:=
 match op with
 | .eql | .neq=>match P.underlying t with
  | some (.pointer _) | some .unsafePointer=>!(Pa x || Pa y)
  | _=>false
 | _=>false
def isMap (P:Program) (t:TypeId):Bool:=match P.underlying t with | some (.map _ _) | some (.chan _ _)=>true | _=>false
def amo (P:Program) (s d:TypeId):Nat:=
 match P.underlying d with
 | some (.slice _)=>2
 | some .string=>match P.underlying s with | some (.slice _)=>1 | _=>0
 | _=>0
def zb (P:Program) (o:Oper) (ρ:Operand→Value):Dh:=
 match o.op with
 | .move x | .assign x=>.val (ρ x)
 | .pick c a b=>.p (Tx (ρ c) (ρ a) (ρ b))
 | .alloc t=>.e (Instr.alloc t true (.tuple #[]))
 | .box t x=>.e (Instr.box t (ρ x))
 | .build t parts=>.p (Instr.build t (parts.toList.map λ q=>(q.1,ρ q.2)).toArray)
 | .buildSlice t n parts=>.e (Instr.buildSlice t n (parts.toList.map λ q=>(q.1,ρ q.2)).toArray)
 | .load t a=>.q (Instr.loadAt t (ρ a))
 | .store t a x=>.u (Instr.storeAt t (ρ a) (ρ x))
 | .nilCheck x=>.p (Ry (ρ x))
 | .binOp op t x y _=>if YJ P op t x y then .q (iI op t (Pa x) (Pa y) (ρ x) (ρ y)) else .p (iI op t (Pa x) (Pa y) (ρ x) (ρ y))
 | .unOp op _ x=>.p (Op.unary op (ρ x))
 | .convert s d x=>match amo P s d with | 0=>.p (convert s d (ρ x)) | 1=>.q (convert s d (ρ x)) | _=>.e (convert s d (ρ x))
 | .makeInterface t x=>.q (Instr.makeInterface t (ρ x))
 | .makeFunc fn first cap=>.val (.func fn (first.toList.map ρ).toArray (cap.toList.map ρ).toArray)
 | .makeMap t r=>.e (Instr.makeMap t (r.map ρ))
 | .makeSlice t l c=>.e (Instr.makeSlice t (ρ l) (ρ c))
 | .slice t x lo hi mx=>.p (Instr.sliceAt t (ρ x) (lo.map ρ) (hi.map ρ) (mx.map ρ))
 | .fieldAddr s x f=>.p (Instr.fieldAt s (ρ x) f)
 | .field t x f=>.p (Instr.field t (ρ x) f)
 | .indexAddr t x i=>.p (Instr.indexAt t (ρ x) (ρ i))
 | .index t x i=>.p (Instr.index t (ρ x) (ρ i))
 | .lookup t x i ok=>.q (Instr.lookup t (ρ x) (ρ i) ok)
 | .mapUpdate t m k x | .insert t m k x=>.u (Instr.mapUpdate t (ρ m) (ρ k) (ρ x))
 | .mapEntry t m k=>.e (Instr.mapEntry t (ρ m) (ρ k))
 | .entryStore t m s x=>.u (Instr.entryStore t (ρ m) (ρ s) (ρ x))
 | .range t x=>.e (Instr.range t (ρ x))
 | .next it s=>.e (Instr.next (ρ it) s o.type)
 | .entry it=>.q (Instr.entry (ρ it))
 | .typeAssert x t u ok=>.q (Instr.typeAssert (ρ x) t u ok)
 | .extract t i=>.p (Instr.extract (ρ t) i)
 | .call c=>
  match c.callee with
  | .value (.func f)=>.call f (c.args.toList.map ρ)
  | .value x=>.O9 (ρ x) (c.args.toList.map ρ)
  | .invoke ..=>.bad
  | .builtin b=>
   match b with
   | .len=>if isMap P (c.argTypes.getD 0 0) then .q (Builtin.len_ c.argTypes o.type (c.args.toList.map ρ).toArray) else .p (Builtin.len_ c.argTypes o.type (c.args.toList.map ρ).toArray)
   | .cap=>.p (Builtin.cap_ c.argTypes o.type (c.args.toList.map ρ).toArray)
   | .min=>.p (Builtin.min_ c.argTypes o.type (c.args.toList.map ρ).toArray)
   | .max=>.p (Builtin.max_ c.argTypes o.type (c.args.toList.map ρ).toArray)
   | .append=>.e (Builtin.append_ c.argTypes o.type (c.args.toList.map ρ).toArray)
   | .copy=>.e (Builtin.copy_ c.argTypes o.type (c.args.toList.map ρ).toArray)
   | .clear=>.e (Builtin.clear_ c.argTypes o.type (c.args.toList.map ρ).toArray)
   | .delete=>.e (Builtin.delete_ c.argTypes o.type (c.args.toList.map ρ).toArray)
   | _=>.bad
 | _=>.bad
def F9 (P:Program) (k:Dh) (K:Value→World→Prop) (w:World):Prop:=
 match k with
 | .val v=>K v w
 | .p m=>cW P m (λ v=>K v w)
 | .q m=>Df P m w (λ v=>K v w)
 | .e m=>gU P m w K
 | .u m=>A0 P m w (λ w'=>K undef w')
 | .call f args=>Dg P f args w K
 | .O9 fv args=>fZ P fv args w K
 | .bad=>False
def Dh.quiet:Dh→Bool
 | .val _ | .p _ | .q _=>true
 | _=>false
def Dh.reads:Dh→Bool
 | .q _=>true
 | _=>false
def Dh.has (P:Program) (k:Dh) (w:World) (v:Value):Prop:=
 match k with
 | .val x=>x=v
 | .p m=>pr P m=some v
 | .q m=>m.run P w = .ok v w
 | _=>False
theorem F9.has {P:Program} {k:Dh} {K:Value→World→Prop} {w:World} (hq:k.quiet=true) (h:F9 P k K w):∃ v,k.has P w v∧K v w:=by
 cases k <;> simp only [Dh.quiet,Bool.false_eq_true] at hq <;> simp only [F9] at h
 case val v=>exact ⟨v,rfl,h⟩
 case p m=>exact h.ex
 case q m=>exact h.ex
theorem Dh.Rz {P:Program} {k:Dh} {w w':World} {v:Value} (hr:k.reads=false) (h:k.has P w v):k.has P w' v:=by
 cases k <;> simp only [Dh.has,Dh.reads,Bool.true_eq_false] at *
 ·exact h
 ·exact h
theorem F9.Ty {P:Program} {k:Dh} {K:Value→World→Prop} {w:World} {v:Value} (h:k.has P w v) (hk:K v w):F9 P k K w:=by
 cases k <;> simp only [Dh.has] at h <;> simp only [F9]
 case val u=>subst h; exact hk
 case p m=>exact ⟨v,h,hk⟩
 case q m=>exact ⟨v,h,hk⟩
theorem F9.mono {P:Program} {k:Dh} {K K':Value→World→Prop} {w:World} (h:F9 P k K w) (hk:∀ v w,K v w→K' v w):F9 P k K' w:=by
 cases k <;> simp only [F9] at *
 case val v=>exact hk _ _ h
 case p m=>exact ⟨let ⟨v,a,b⟩:=h.ex; ⟨v,a,hk _ _ b⟩⟩
 case q m=>exact ⟨let ⟨v,a,b⟩:=h.ex; ⟨v,a,hk _ _ b⟩⟩
 case e m=>exact ⟨let ⟨v,w',a,b⟩:=h.ex; ⟨v,w',a,hk _ _ b⟩⟩
 case u m=>exact ⟨let ⟨w',a,b⟩:=h.ex; ⟨w',a,hk _ _ b⟩⟩
 case call f args=>exact ⟨h.plain,h.calls.mono λ e w' r=>r.mono hk⟩
 case O9 fv args=>
  rcases h.ex with ⟨g,f,c,a,b,d⟩ | ⟨l,a,fn,t,s,b,c,d⟩
  ·exact ⟨.inl ⟨g,f,c,a,b,d.mono λ e w' r=>r.mono hk⟩⟩
  ·exact ⟨.inr ⟨l,a,fn,t,s,b,c,d.mono λ e w' r=>r.mono hk⟩⟩
theorem tC {r:Option Nat} {P:Program} {o:Oper} {a:Act} {w:World}:∀ f,o.about P w a.eval=some f→(FO r).fn f:=λ _ _=>trivial
theorem JE {r:Option Nat} {P:Program} {o:Oper} {a:Act} {next:Act→World→Prop} {Q:Exit→Act→World→Prop} {f:FuncId} {args:Array Value} {w:World}
  {K:Value→World→Prop} (h:Calls P f args w (pU K)) (hk:∀ v w',K v w'→next (a.put o.dst v) w'):o.uponIn (FO r) 0 P a next Q (.ok (.enter f args) w):=by
 rw [Oper.uponIn_enter]
 refine ⟨De,ym.2 (h.mono λ e w' ⟨v,he,hv⟩=>?_)⟩
 subst he
 exact hk _ _ hv
theorem Fz {r:Option Nat} {P:Program} {o:Oper} {a:Act} {next:Act→World→Prop} {Q:Exit→Act→World→Prop} {l:Nat} {f:FuncId} {tmps:Array Value} {assign body:Code} {w:World}
  {K:Value→World→Prop} (h:RoundIn (FO none) 0 P l f tmps assign body w (pU K)) (hk:∀ v w',K v w'→next (a.put o.dst v) w'):o.uponIn (FO r) 0 P a next Q (.ok (.round l f tmps assign body) w):=by
 rw [Oper.uponIn_round]
 refine ⟨De,?_⟩
 have h':RoundIn (FO r) 0 P l f tmps assign body w (pU K):=h
 refine h'.mono λ e w' ⟨v,he,hv⟩=>?_
 subst he
 exact hk _ _ hv
theorem ly {r:Option Nat} {P:Program} {o:Oper} {a:Act} {next:Act→World→Prop} {Q:Exit→Act→World→Prop} {w w':World} {v:Value} (JF:∀ c,o.op≠.defer c)
  (h:(execOp a.eval o).run P w = .ok (.value v) w') (hk:next (a.put o.dst v) w'):o.wpIn (FO r) 0 P a w next Q:=by
 unfold Oper.wpIn; rw [Oper.semAt_eq _ _ _ JF,h,Oper.uponIn_value]; exact ⟨tC,hk⟩
theorem MK {r:Option Nat} {P:Program} {o:Oper} {a:Act} {next:Act→World→Prop} {Q:Exit→Act→World→Prop} {w w':World} (JF:∀ c,o.op≠.defer c)
  (h:(execOp a.eval o).run P w = .ok .skip w') (hk:next (a.put o.dst undef) w'):o.wpIn (FO r) 0 P a w next Q:=by
 unfold Oper.wpIn; rw [Oper.semAt_eq _ _ _ JF,h,Oper.uponIn_skip]; exact ⟨tC,hk⟩
theorem JG {P:Program} {m:Sem Value} {w w':World} {v:Value} (h:m.run P w = .ok v w') :
  (do pure (.value (← m)):Sem Next).run P w = .ok (.value v) w':=by rw [dH h]; rfl
theorem amp {P:Program} {m:Sem Unit} {w w':World} (h:m.run P w = .ok () w') :
  (do m; pure .skip:Sem Next).run P w = .ok .skip w':=by rw [dH h]; rfl
theorem CB {α β:Type} (f:α→β) (l:Array α):(l.toList.map f).toArray=l.map f:=by
 apply Array.ext'; simp
def eqG (t:TypeId) (x y:Operand) (a b:Value):Sem Unit:=
 match a,b with
 | .nilIface,.nilIface=>if (Pa x || Pa y)=true then pure () else do
   if ← Op.eqGuardIn Op.maxDepth t a b then unsupported (.noEntry "binop/eql: two nil values of an interface type with methods, neither of them the literal nil")
 | .agg _,.agg _=>do
  if !(← program).eqGuardType (← program).depth t then return
  if ← Op.eqGuardIn Op.maxDepth t a b then unsupported (.noEntry "binop/eql: two nil values of an interface type with methods, in a part of a struct or an array")
 | _,_=>pure ()
theorem BT {P:Program} {op:BinOp} (jQ:op = .eql∨op = .neq) {t:TypeId} {x y:Operand} {a b:Value} {w w':World} {v:Value}
  (h:(YI op t (Pa x) (Pa y) a b).run P w = .ok v w'):(eqGuard op t x y a b).run P w = .ok () w∧(binOp op t a b).run P w = .ok v w':=by
 have hg:eqGuard op t x y a b=eqG t x y a b:=by rcases jQ with rfl | rfl <;> cases x <;> cases y <;> rfl
 rw [hg]
 clear hg
 unfold eqG
 unfold YI at h
 split at h
 ·split at h
  ·rename_i hc
   refine ⟨?_,h⟩
   show ((if (Pa x || Pa y)=true then pure () else _:Sem Unit).run P w)=_
   rw [if_pos hc]
   rfl
  ·simp [stuck] at h
 ·rename_i c1 c2
  have h' : (if P.eqGuardType P.depth t then stuck "an interface in a part" else binOp op t (.agg c1) (.agg c2) : Sem Value).run P w = .ok v w' := h
  split at h'
  ·simp [stuck] at h'
  ·rename_i hc
   refine ⟨?_,h'⟩
   show ((if (!P.eqGuardType P.depth t)=true then pure () else _:Sem Unit).run P w)=_
   rw [if_pos (by simpa using hc)]
   rfl
 ·exact ⟨rfl,h⟩
theorem JH {P:Program} {op:BinOp} {t:TypeId} {x y:Operand} {a b:Value} {w w':World} {v:Value}
  (h:(iI op t (Pa x) (Pa y) a b).run P w = .ok v w'):(do eqGuard op t x y a b; binOp op t a b:Sem Value).run P w = .ok v w':=by
 unfold iI at h
 split at h
 ·obtain ⟨h1,h2⟩:=BT (.inl rfl) h
  rw [dH h1]; exact h2
 ·obtain ⟨h1,h2⟩:=BT (.inr rfl) h
  rw [dH h1]; exact h2
 ·rename_i n1 n2
  have h1:(eqGuard op t x y a b).run P w = .ok () w:=by
   unfold eqGuard
   cases op <;> first | rfl | exact (n1 rfl).elim | exact (n2 rfl).elim
  rw [dH h1]; exact h
theorem F9.wp {r:Option Nat} {ds:List Nat} {P:Program} {n:Nat} {o:Oper} {e:Env} {a:Act} {w:World} {K:Value→World→Prop} {Q:Exit→Act→World→Prop} {next:Act→World→Prop}
  (ha:iV ds n e a) (h:F9 P (zb P o (ev e)) K w) (hk:∀ v w',K v w'→next (a.put o.dst v) w'):o.wpIn (FO r) 0 P a w next Q:=by
 have he:=ha.eval
 have JF:∀ c,o.op≠.defer c:=λ c hc=>by unfold zb at h; rw [hc] at h; exact h
 have V:∀ {m:Sem Value},cW P m (λ v=>K v w)→execOp (ev e) o=(do pure (.value (← m)):Sem Next)→o.wpIn (FO r) 0 P a w next Q:=λ hp hx=>by
  obtain ⟨v,h1,h2⟩:=hp.ex
  exact ly (w':=w) JF (by rw [he,hx]; exact JG (fo h1 w)) (hk _ _ h2)
 have V':∀ {m:Sem Value},Df P m w (λ v=>K v w)→execOp (ev e) o=(do pure (.value (← m)):Sem Next)→o.wpIn (FO r) 0 P a w next Q:=λ hp hx=>by
  obtain ⟨v,h1,h2⟩:=hp.ex
  exact ly (w':=w) JF (by rw [he,hx]; exact JG h1) (hk _ _ h2)
 have E:∀ {m:Sem Value},gU P m w K→execOp (ev e) o=(do pure (.value (← m)):Sem Next)→o.wpIn (FO r) 0 P a w next Q:=λ hp hx=>by
  obtain ⟨v,w',h1,h2⟩:=hp.ex
  exact ly JF (by rw [he,hx]; exact JG h1) (hk _ _ h2)
 have U:∀ {m:Sem Unit},A0 P m w (λ w'=>K undef w')→execOp (ev e) o=(do m; pure .skip:Sem Next)→o.wpIn (FO r) 0 P a w next Q:=λ hp hx=>by
  obtain ⟨w',h1,h2⟩:=hp.ex
  exact MK JF (by rw [he,hx]; exact amp h1) (hk _ _ h2)
 unfold zb at h
 cases jQ:o.op with
 | move x=>rw [jQ] at h; exact ly (w':=w) JF (by rw [he]; simp only [execOp,jQ]; rfl) (hk _ _ h)
 | assign x=>rw [jQ] at h; exact ly (w':=w) JF (by rw [he]; simp only [execOp,jQ]; rfl) (hk _ _ h)
 | pick c x y=>
  rw [jQ] at h
  obtain ⟨v,h1,h2⟩:=h.ex
  refine ly (w':=w) JF ?_ (hk _ _ h2)
  rw [he]; simp only [execOp,jQ]
  have:=fo h1 w
  unfold Tx at this
  revert this
  cases ev e c <;> simp only [asBool] <;> intro this <;> first | (simp only [stuck] at this; exact absurd this (by simp [Sem.run])) | skip
  case bool t=>
   have e2:v=(if t=true then ev e x else ev e y):=by
    have:(Result.ok (if t=true then ev e x else ev e y) w:Result Value) = .ok v w:=this
    simpa using this.symm
   rw [e2]; rfl
 | alloc t=>rw [jQ] at h; exact E h (by simp only [execOp,jQ])
 | box t x=>rw [jQ] at h; exact E h (by simp only [execOp,jQ])
 | build t ps=>rw [jQ] at h; exact V h (by simp only [execOp,jQ,CB])
 | buildSlice t n ps=>rw [jQ] at h; exact E h (by simp only [execOp,jQ,CB])
 | insert t m k x=>rw [jQ] at h; exact U h (by simp only [execOp,jQ])
 | load t x=>rw [jQ] at h; exact V' h (by simp only [execOp,jQ])
 | store t x y=>rw [jQ] at h; exact U h (by simp only [execOp,jQ])
 | nilCheck x=>
  rw [jQ] at h
  obtain ⟨v,h1,h2⟩:=h.ex
  refine ly (w':=w) JF ?_ (hk _ _ h2)
  rw [he]; simp only [execOp,jQ]
  revert h1
  cases hx:ev e x with
  | pointer p=>cases p <;> simp [Ry,stuck,pr,fe] <;> (try (rintro rfl; rfl))
  | func fn f c=>cases fn <;> simp [Ry,stuck,pr,fe] <;> (try (rintro rfl; rfl))
  | _=>simp [Ry,stuck,pr,fe] <;> (try (rintro rfl; rfl))
 | binOp op t x y u=>
  rw [jQ] at h
  dsimp only at h
  split at h
  ·obtain ⟨v,h1,h2⟩:=h.ex
   exact ly (w':=w) JF (by rw [he]; simp only [execOp,jQ]; exact JG (JH h1)) (hk _ _ h2)
  ·obtain ⟨v,h1,h2⟩:=h.ex
   exact ly (w':=w) JF (by rw [he]; simp only [execOp,jQ]; exact JG (JH (fo h1 w))) (hk _ _ h2)
 | unOp op t x=>rw [jQ] at h; exact V h (by simp only [execOp,jQ])
 | convert s d x=>
  rw [jQ] at h
  dsimp only at h
  split at h
  ·exact V h (by simp only [execOp,jQ])
  ·exact V' h (by simp only [execOp,jQ])
  ·exact E h (by simp only [execOp,jQ])
 | makeInterface t x=>rw [jQ] at h; exact V' h (by simp only [execOp,jQ])
 | makeFunc fn f c=>rw [jQ] at h; exact ly (w':=w) JF (by rw [he]; simp only [execOp,jQ,← CB]; rfl) (hk _ _ h)
 | makeMap t r=>rw [jQ] at h; exact E h (by simp only [execOp,jQ])
 | makeSlice t l c=>rw [jQ] at h; exact E h (by simp only [execOp,jQ])
 | slice t x lo hi mx=>rw [jQ] at h; exact V h (by simp only [execOp,jQ])
 | fieldAddr s x f=>rw [jQ] at h; exact V h (by simp only [execOp,jQ])
 | field t x f=>rw [jQ] at h; exact V h (by simp only [execOp,jQ])
 | indexAddr t x i=>rw [jQ] at h; exact V h (by simp only [execOp,jQ])
 | index t x i=>rw [jQ] at h; exact V h (by simp only [execOp,jQ])
 | lookup t x i ok=>rw [jQ] at h; exact V' h (by simp only [execOp,jQ])
 | mapUpdate t m k x=>rw [jQ] at h; exact U h (by simp only [execOp,jQ])
 | mapEntry t m k=>rw [jQ] at h; exact E h (by simp only [execOp,jQ])
 | entryStore t m s x=>rw [jQ] at h; exact U h (by simp only [execOp,jQ])
 | range t x=>rw [jQ] at h; exact E h (by simp only [execOp,jQ])
 | next it s=>rw [jQ] at h; exact E h (by simp only [execOp,jQ])
 | entry it=>rw [jQ] at h; exact V' h (by simp only [execOp,jQ])
 | typeAssert x t u ok=>rw [jQ] at h; exact V' h (by simp only [execOp,jQ])
 | extract t i=>rw [jQ] at h; exact V h (by simp only [execOp,jQ])
 | call c=>
  rw [jQ] at h
  dsimp only at h
  have agH:(c.args.toList.map (ev e)).toArray=c.args.map (ev e):=CB _ _
  cases hc:c.callee with
  | value x=>
   rw [hc] at h
   have hval:∀ {g:FuncId} {first cap:Array Value},ev e x = .func (.func g) first cap→Plain P g→Calls P g (first++(c.args.toList.map (ev e)).toArray++cap) w (pU K)→o.wpIn (FO r) 0 P a w next Q:=by
    intro g first cap hx hp l4
    unfold Oper.wpIn
    rw [Oper.semAt_eq _ _ _ JF]
    have hr:(execOp a.eval o).run P w = .ok (.enter g (first++(c.args.toList.map (ev e)).toArray++cap)) w:=by
     rw [he]
     simp only [execOp,jQ]
     have h1:(resolve (ev e) c o.type).run P w = .ok {target:=.fn (.func g) cap,args:=first++c.args.map (ev e)} w:=by
      simp only [resolve,hc,hx]; rfl
     rw [dH h1]
     show (callFunc g (first++c.args.map (ev e)++cap)).run P w=_
     rw [za hp,agH]
    rw [hr]
    exact ⟨tC,JE l4 λ v w' hv=>hk v w' hv⟩
   have hyl:∀ {l:Nat},ev e x = .func (.yield l) #[] #[]→YieldAt (FO none) 0 P l (c.args.toList.map (ev e)).toArray w (pU K)→o.wpIn (FO r) 0 P a w next Q:=by
    rintro l hx ⟨fn,tmps,assign,body,hy,hr⟩
    unfold Oper.wpIn
    rw [Oper.semAt_eq _ _ _ JF]
    have Yq:(execOp a.eval o).run P w = .ok (.round l fn tmps assign body) w:=by
     rw [he]
     simp only [execOp,jQ]
     have h1:(resolve (ev e) c o.type).run P w = .ok {target:=.fn (.yield l) #[],args:=#[]++c.args.map (ev e)} w:=by
      simp only [resolve,hc,hx]; rfl
     rw [dH h1]
     show (Instr.yield l (#[]++c.args.map (ev e))).run P w=_
     rw [Array.empty_append,← agH]; exact hy
    rw [Yq]
    exact ⟨tC,Fz hr λ v w' hv=>hk v w' hv⟩
   have qQ:fZ P (ev e x) (c.args.toList.map (ev e)) w K→o.wpIn (FO r) 0 P a w next Q:=λ h=>by
    rcases h.ex with ⟨g,first,cap,h1,h2,h3⟩ | ⟨l,h1,h2⟩
    ·exact hval h1 h2 h3
    ·exact hyl h1 h2
   cases x with
   | func f=>
    exact hval (g:=f) (first:=#[]) (cap:=#[]) rfl h.plain (by simpa using h.calls)
   | tmp t=>exact qQ h
   | const v=>exact qQ h
   | global g=>exact qQ h
  | invoke r nm=>rw [hc] at h; exact h.elim
  | builtin b=>
   rw [hc] at h
   dsimp only at h
   have hb:∀ {m:Sem Value},builtin b c.argTypes o.type (c.args.map fun | .const _=>true | _=>false) (c.args.map (ev e))=(do pure (.value (← m)):Sem Next)→
     execOp (ev e) o=(do pure (.value (← m)):Sem Next):=by
    intro m hm
    simp only [execOp,jQ]
    have h1:resolve (ev e) c o.type=pure {target:=.builtin b c.argTypes o.type (c.args.map fun | .const _=>true | _=>false),args:=c.args.map (ev e)}:=by
     simp only [resolve,hc]; rfl
    rw [h1]
    exact hm
   rw [agH] at h
   cases b <;> first | exact h.elim | skip
   case len=>
    dsimp only at h
    split at h
    ·exact V' h (hb rfl)
    ·exact V h (hb rfl)
   case cap=>exact V h (hb rfl)
   case min=>exact V h (hb rfl)
   case max=>exact V h (hb rfl)
   case append=>exact E h (hb rfl)
   case copy=>exact E h (hb rfl)
   case clear=>exact E h (hb rfl)
   case delete=>exact E h (hb rfl)
 | _=>rw [jQ] at h; exact h.elim
def pre (o:Oper):List Nat:=(o.after.toList.filter λ e=>Region.binds .any e).map (·.on)
def A1 (ops:List Oper) (j:Nat):Option Nat:=(ops[j]?).bind (·.dst)
def looks (ops:List Oper) (o:Oper):List Nat:=
 (o.op.operands.toList.filterMap fun | .tmp t=>some t | _=>none)++(match o.guard with | some (j,_)=>(A1 ops j).toList | none=>[])
def nM (ops:List Oper) (o:Oper) (e:Env):Bool:=
 match o.guard with
 | none=>true
 | some (j,b)=>match A1 ops j with
  | none=>false
  | some s=>match e s with
   | .bool b'=>b' == b
   | _=>false
theorem Ga {ds:List Nat} {n:Nat} {e:Env} {a:Act} (h:iV ds n e a) (ops:List Oper) (o:Oper):Region.wanted o (yielded ops.toArray a.tmps)=nM ops o e:=by
 unfold Region.wanted nM
 cases o.guard with
 | none=>rfl
 | some g=>
  obtain ⟨j,b⟩:=g
  simp only [yielded,A1,List.getElem?_toArray]
  cases (ops[j]?).bind (·.dst) with
  | none=>simp
  | some s=>
   have hg:=h.get s
   simp only [Option.bind_some]
   rw [← hg,Array.getD_eq_getD_getElem?]
   cases a.tmps[s]? with
   | none=>simp [undef]
   | some v=>cases v <;> simp
theorem RA {P:Program} {o:Oper} {ρ ρ':Operand→Value} (h:∀ x∈o.op.operands,ρ x=ρ' x):zb P o ρ=zb P o ρ':=by
 unfold zb
 cases jQ:o.op <;> rw [jQ] at h <;> simp only [Op.operands] at h <;> dsimp only
 case call c=>
  have ha:∀ x∈c.args,ρ x=ρ' x:=λ x hx=>h x (by simp [Call.operands,hx])
  have hm:c.args.toList.map ρ=c.args.toList.map ρ':=List.map_congr_left λ x hx=>ha x (by simpa using hx)
  rw [hm]
  cases hc:c.callee with
  | value x=>
   have hx:ρ x=ρ' x:=h x (by simp [Call.operands,hc])
   cases x <;> simp only [hx]
  | _=>rfl
 case build t ps=>
  have hm:(ps.toList.map λ q=>(q.1,ρ q.2))=ps.toList.map λ q=>(q.1,ρ' q.2):=
   List.map_congr_left λ q hq=>by rw [h q.2 (by simp; exact ⟨q.1,by simpa using hq⟩)]
  simp only [hm]
 case buildSlice t n ps=>
  have hm:(ps.toList.map λ q=>(q.1,ρ q.2))=ps.toList.map λ q=>(q.1,ρ' q.2):=
   List.map_congr_left λ q hq=>by rw [h q.2 (by simp; exact ⟨q.1,by simpa using hq⟩)]
  simp only [hm]
 case makeFunc fn f c=>
  have h1:f.toList.map ρ=f.toList.map ρ':=List.map_congr_left λ x hx=>h x (by simp at hx ⊢; exact .inl hx)
  have h2:c.toList.map ρ=c.toList.map ρ':=List.map_congr_left λ x hx=>h x (by simp at hx ⊢; exact .inr hx)
  simp only [h1,h2]
 case makeMap t r=>
  have:r.map ρ=r.map ρ':=by cases r with | none=>rfl | some x=>simp [h x (by simp)]
  simp only [this]
 case slice t x lo hi mx=>
  have h0:ρ x=ρ' x:=h x (by simp)
  have h1:lo.map ρ=lo.map ρ':=by cases lo with | none=>rfl | some y=>simp [h y (by simp)]
  have h2:hi.map ρ=hi.map ρ':=by cases hi with | none=>rfl | some y=>simp [h y (by simp)]
  have h3:mx.map ρ=mx.map ρ':=by cases mx with | none=>rfl | some y=>simp [h y (by simp)]
  simp only [h0,h1,h2,h3]
 case load t x=>rw [h x (by simp)]
 case store t x y=>rw [h x (by simp),h y (by simp)]
 case pick c x y=>rw [h x (by simp),h y (by simp),h c (by simp)]
 case binOp op t x y u=>rw [h x (by simp),h y (by simp)]
 case insert t m k x=>rw [h m (by simp),h k (by simp),h x (by simp)]
 case mapUpdate t m k x=>rw [h m (by simp),h k (by simp),h x (by simp)]
 case entryStore t m k x=>rw [h m (by simp),h k (by simp),h x (by simp)]
 case mapEntry t m k=>rw [h m (by simp),h k (by simp)]
 case lookup t m k ok=>rw [h m (by simp),h k (by simp)]
 case indexAddr t m k=>rw [h m (by simp),h k (by simp)]
 case index t m k=>rw [h m (by simp),h k (by simp)]
 case makeSlice t m k=>rw [h m (by simp),h k (by simp)]
 all_goals first | rfl | (rename_i x; rw [h x (by simp)]) | (rename_i x _; rw [h x (by simp)]) | (rename_i x _ _; rw [h x (by simp)]) | (rename_i x _ _ _; rw [h x (by simp)])
theorem agI {e:Env} {d:Nat} {v:Value} {x:Operand} (h:x≠.tmp d):ev (yY e d v) x=ev e x:=by
 cases x <;> simp only [ev]
 case tmp t=>exact nL _ _ λ hh=>h (by rw [hh])
theorem CC {P:Program} {ops:List Oper} {o:Oper} {e:Env} {d:Option Nat} {v:Value} (h:∀ k,d=some k→k ∉ looks ops o) :
  zb P o (ev (iZ e d v))=zb P o (ev e):=by
 cases d with
 | none=>rfl
 | some d=>
  refine RA λ x hx=>agI λ hxd=>h d rfl ?_
  subst hxd
  exact List.mem_append_left _ (List.mem_filterMap.2 ⟨.tmp d,by simpa using hx,rfl⟩)
theorem wT {ops:List Oper} {o:Oper} {e:Env} {d:Option Nat} {v:Value} (h:∀ k,d=some k→k ∉ looks ops o) :
  nM ops o (iZ e d v)=nM ops o e:=by
 cases d with
 | none=>rfl
 | some d=>
  have h:=h d rfl
  unfold nM
  unfold looks at h
  cases hg:o.guard with
  | none=>rfl
  | some g=>
   obtain ⟨j,b⟩:=g
   rw [hg] at h
   dsimp only at h ⊢
   cases hs:A1 ops j with
   | none=>rfl
   | some s=>
    rw [hs] at h
    have:s≠d:=λ hh=>h (by simp [hh])
    simp only [iZ,nL _ _ this]
def aeo (ops:List Oper) (x y:Oper):Prop:=
 (∀ d,x.dst=some d→d ∉ looks ops y∧y.dst≠some d)∧(∀ d,y.dst=some d→d ∉ looks ops x)
theorem RB {e:Env} {d d':Option Nat} {v v':Value} (h:∀ k,d=some k→d'≠some k):iZ (iZ e d v) d' v'=iZ (iZ e d' v') d v:=by
 cases d with
 | none=>rfl
 | some d=>cases d' with
  | none=>rfl
  | some d'=>exact Tw _ _ _ λ hh=>h d rfl (by rw [hh])
def Gb (P:Program) (ops:List Oper) (o:Oper) (K:Env→World→Prop) (e:Env) (w:World):Prop:=
 if nM ops o e=true then F9 P (zb P o (ev e)) (λ v w'=>K (iZ e o.dst v) w') w else K (iZ e o.dst undef) w
theorem Gb.mono {P:Program} {ops:List Oper} {o:Oper} {K K':Env→World→Prop} {e:Env} {w:World} (h:Gb P ops o K e w)
  (hk:∀ v w',K (iZ e o.dst v) w'→K' (iZ e o.dst v) w'):Gb P ops o K' e w:=by
 unfold Gb at *
 split
 ·rename_i hw; rw [if_pos hw] at h; exact h.mono λ v w'=>hk v w'
 ·rename_i hw; rw [if_neg hw] at h; exact hk _ _ h
def ML (ops:List Oper) (L:Nat→Bool) (i:Nat):Prop:=L i=false∧∃ o,ops[i]? = some o∧∀ p∈pre o,L p=true
def mK (L:Nat→Bool) (i:Nat):Nat→Bool:=λ k=>if k=i then true else L k
def Down (ops:List Oper) (L:Nat→Bool):Prop:=∀ i o,L i=true→ops[i]? = some o→∀ p∈pre o,L p=true
theorem Gc (L:Nat→Bool) (i:Nat):mK L i i=true:=by simp [mK]
theorem CD (L:Nat→Bool) {i k:Nat} (h:k≠i):mK L i k=L k:=by simp [mK,h]
theorem CE (L:Nat→Bool) (i:Nat) {k:Nat} (h:L k=true):mK L i k=true:=by unfold mK; split <;> simp [h]
theorem RC (L:Nat→Bool) (i j:Nat):mK (mK L i) j=mK (mK L j) i:=by
 funext k; unfold mK; split <;> split <;> rfl
theorem Down.set {ops:List Oper} {L:Nat→Bool} {i:Nat} (h:Down ops L) (hr:ML ops L i):Down ops (mK L i):=by
 intro k o hk ho p hp
 by_cases e:k=i
 ·subst e
  obtain ⟨_,o',MD,mv⟩:=hr
  rw [ho] at MD; cases MD
  exact CE _ _ (mv p hp)
 ·rw [CD _ e] at hk
  exact CE _ _ (h k o hk ho p hp)
theorem ML.set {ops:List Oper} {L:Nat→Bool} {i j:Nat} (h:ML ops L j) (Ck:j≠i):ML ops (mK L i) j:=
 ⟨by rw [CD _ Ck]; exact h.1,let ⟨o,ho,mv⟩:=h.2; ⟨o,ho,λ p hp=>CE _ _ (mv p hp)⟩⟩
inductive MM (ops:List Oper):Nat→Nat→Prop
 | one {j i:Nat} {o:Oper} (h:ops[j]? = some o) (hp:i∈pre o):MM ops j i
 | more {j p i:Nat} {o:Oper} (h:ops[j]? = some o) (hp:p∈pre o) (hd:MM ops p i):MM ops j i
theorem MM.ik {ops:List Oper} {L:Nat→Bool} (hL:Down ops L) {j i:Nat} (h:MM ops j i):(∀ o,ops[j]? = some o→∀ p∈pre o,L p=true)→L i=true:=by
 induction h with
 | one h hp=>intro mv; exact mv _ h _ hp
 | more h hp hd ih=>intro mv; exact ih λ o ho q hq=>hL _ o (mv _ h _ hp) ho q hq
theorem MM.FA {ops:List Oper} {L:Nat→Bool} (hL:Down ops L) {j i:Nat} (h:MM ops j i) (hr:ML ops L j):L i=true:=
 h.ik hL λ o ho p hp=>by obtain ⟨_,o',MD,mv⟩:=hr; rw [ho] at MD; cases MD; exact mv p hp
def WS (P:Program) (ops:List Oper) (Q:Env→World→Prop) (S:Nat→World→Prop):Nat→(Nat→Bool)→Env→World→Prop
 | 0,L,e,w=>(∀ i,¬ ML ops L i)∧Q e w
 | f+1,L,e,w=>((∀ i,¬ ML ops L i)→Q e w)∧
   ∀ i o,ops[i]? = some o→ML ops L i→Gb P ops o (λ e' w'=>(w'=w∨S i w')∧WS P ops Q S f (mK L i) e' w') e w
theorem WS.weaken {P:Program} {ops:List Oper} {Q:Env→World→Prop} {S S':Nat→World→Prop} (h:∀ i w,S i w→S' i w) :
  ∀ (f:Nat) (_L:Nat→Bool) (_e:Env) (_w:World),WS P ops Q S f _L _e _w→WS P ops Q S' f _L _e _w
 | 0,_,_,_,hh=>hh
 | f+1,L,e,w,hh=>⟨hh.1,λ i o ho hr=>(hh.2 i o ho hr).mono λ _ _ ⟨h1,h2⟩=>⟨h1.imp id (h _ _),WS.weaken h f _ _ _ h2⟩⟩
theorem WS.first {P:Program} {ops:List Oper} {Q:Env→World→Prop} {S:Nat→World→Prop} {i:Nat} {oi:Oper} {X:Dh} {b:Bool} {v:Value}
  (hi:ops[i]? = some oi) (hn:b=false→v=undef) :
  ∀ (f:Nat) (L:Nat→Bool) (e:Env) (w:World),Down ops L→ML ops L i→
   (∀ j oj,ops[j]? = some oj→j≠i→L j=false→i ∉ pre oj→aeo ops oi oj)→
   zb P oi (ev e)=X→nM ops oi e=b→(b=true→X.has P w v)→
   WS P ops Q (λ j w'=>S j w'∧(MM ops j i∨(b=true→X.has P w' v))) f (mK L i) (iZ e oi.dst v) w→WS P ops Q S (f+1) L e w:=by
 have done:∀ (K:Env→World→Prop) (e:Env) (w:World),zb P oi (ev e)=X→nM ops oi e=b→(b=true→X.has P w v)→K (iZ e oi.dst v) w→Gb P ops oi K e w:=by
  intro K e w hX hb hy hk
  unfold Gb
  rw [hb]
  cases b with
  | true=>rw [if_pos rfl,hX]; exact F9.Ty (hy rfl) hk
  | false=>rw [if_neg (by simp)]; rw [← hn rfl]; exact hk
 have sub:∀ {f:Nat} {L:Nat→Bool} {e:Env} {w:World},WS P ops Q (λ j w'=>S j w'∧(MM ops j i∨(b=true→X.has P w' v))) f L e w→WS P ops Q S f L e w:=
  λ h=>WS.weaken (λ _ _ h=>h.1) _ _ _ _ h
 intro f
 induction f with
 | zero=>
  intro L e w hL hr JI hX hb hy H
  refine ⟨λ h=>absurd hr (h i),λ j oj FB hj=>?_⟩
  by_cases Tz:j=i
  ·subst Tz
   rw [hi] at FB; cases FB
   exact done _ _ _ hX hb hy ⟨.inl rfl,sub H⟩
  ·exact absurd (hj.set Tz) (H.1 j)
 | succ f ih=>
  intro L e w hL hr JI hX hb hy H
  refine ⟨λ h=>absurd hr (h i),λ j oj FB hj=>?_⟩
  by_cases Tz:j=i
  ·subst Tz
   rw [hi] at FB; cases FB
   exact done _ _ _ hX hb hy ⟨.inl rfl,sub H⟩
  ·have fS:i ∉ pre oj:=λ hp=>by
    obtain ⟨_,o',MD,mv⟩:=hj.2.elim λ o' h=>(⟨trivial,o',h.1,h.2⟩:True∧∃ o',ops[j]? = some o'∧∀ p∈pre o',L p=true)
    rw [FB] at MD; cases MD
    have:=mv i hp
    rw [hr.1] at this; cases this
   have hap:=JI j oj FB Tz hj.1 fS
   have TA:¬ MM ops j i:=λ hd=>by
    have:=hd.FA hL hj
    rw [hr.1] at this; cases this
   have h1:=H.2 j oj FB (hj.set Tz)
   have rdi:∀ k,oi.dst=some k→k ∉ looks ops oj:=λ k hk=>(hap.1 k hk).1
   have rdj:∀ k,oj.dst=some k→k ∉ looks ops oi:=λ k hk=>hap.2 k hk
   have dd:∀ k,oi.dst=some k→oj.dst≠some k:=λ k hk=>(hap.1 k hk).2
   have cont:∀ (u:Value) (w':World),(w'=w∨(S j w'∧(MM ops j i∨(b=true→X.has P w' v))))→
     WS P ops Q (λ j w'=>S j w'∧(MM ops j i∨(b=true→X.has P w' v))) f (mK (mK L i) j) (iZ (iZ e oi.dst v) oj.dst u) w'→
     (w'=w∨S j w')∧WS P ops Q S (f+1) (mK L j) (iZ e oj.dst u) w':=by
    intro u w' hw hWS
    refine ⟨hw.imp id λ h=>h.1,?_⟩
    refine ih (mK L j) (iZ e oj.dst u) w' (hL.set hj) (hr.set (Ne.symm Tz)) ?_ ?_ ?_ ?_ ?_
    ·intro k ok hk Yr Ys AY
     refine JI k ok hk Yr ?_ AY
     by_cases hkj:k=j
     ·subst hkj; exact hj.1
     ·rwa [CD _ hkj] at Ys
    ·rw [CC rdj]; exact hX
    ·rw [wT rdj]; exact hb
    ·intro hbt
     rcases hw with rfl | ⟨_,h | h⟩
     ·exact hy hbt
     ·exact absurd h TA
     ·exact h hbt
    ·rw [RC,RB λ k hk=>by intro hh; exact dd k hh hk]
     exact hWS
   unfold Gb at h1 ⊢
   rw [wT rdi] at h1
   split
   ·rename_i hw
    rw [if_pos hw,CC rdi] at h1
    exact h1.mono λ u w' hh=>cont u w' hh.1 hh.2
   ·rename_i hw
    rw [if_neg hw] at h1
    exact cont undef w h1.1 h1.2
def wr (ops:List Oper):List Nat:=ops.filterMap (·.dst)
theorem TB {ops:List Oper} {i:Nat} {o:Oper} {d:Nat} (h:ops[i]? = some o) (hd:o.dst=some d):d∈wr ops:=
 List.mem_filterMap.2 ⟨o,List.mem_of_getElem? h,hd⟩
theorem yn {e e0:Env} {ops:List Oper} {i:Nat} {o:Oper} (h:∀ k,k ∉ wr ops→e k=e0 k) (ho:ops[i]? = some o) (v:Value) :
  ∀ k,k ∉ wr ops→iZ e o.dst v k=e0 k:=by
 intro k hk
 cases hd:o.dst with
 | none=>exact h k hk
 | some d=>
  have:k≠d:=λ hh=>hk (by rw [hh]; exact TB ho hd)
  simp only [iZ,nL _ _ this]
  exact h k hk
theorem Gb.wpOp {r:Option Nat} {ds:List Nat} {P:Program} {n:Nat} {ops:List Oper} {i:Nat} {o:Oper} {K:Env→World→Prop} {K':Act→World→Prop} {Q':Exit→Act→World→Prop} {e:Env} {a:Act} {w:World}
  (ho:ops[i]? = some o) (hd:∀ k,o.dst=some k→k<n) (ha:iV ds n e a) (h:Gb P ops o K e w)
  (hk:∀ v a' w',iV ds n (iZ e o.dst v) a'→K (iZ e o.dst v) w'→K' a' w'):wpOpIn (FO r) 0 P ops.toArray Q' i K' a w:=by
 unfold Go.wpOpIn
 simp only [List.getElem?_toArray,ho]
 rw [Ga ha]
 unfold Gb at h
 split
 ·rename_i hw
  rw [if_pos hw] at h
  exact F9.wp ha h λ v w' hv=>hk v _ _ (ha.put hd v) hv
 ·rename_i hw
  rw [if_neg hw] at h
  exact ⟨tC,hk undef _ _ (ha.put hd undef) h⟩
theorem WS.any {r:Option Nat} {ds:List Nat} {P:Program} {n:Nat} {ops:List Oper} {Q:Env→World→Prop} {Q':Exit→Act→World→Prop} {S:Nat→World→Prop} {e0:Env}
  (hd:∀ d∈wr ops,d<n) (hQ:∀ e a w,iV ds n e a→(∀ k,k ∉ wr ops→e k=e0 k)→Q e w→Q' .normal a w) :
  ∀ (f:Nat) (L:Nat→Bool) (ik:Array Bool) (e:Env) (a:Act) (w:World),iV ds n e a→(∀ k,k ∉ wr ops→e k=e0 k)→ik.size=ops.length→
   (∀ i,ik.getD i false=L i)→WS P ops Q S f L e w→wpAnyIn (FO r) 0 P .any ops.toArray Q' f ik a w:=by
 have rdy:∀ (L:Nat→Bool) (ik:Array Bool) (_:ik.size=ops.length) (_:∀ i,ik.getD i false=L i) (i:Nat),
   i∈Region.ready .any ops.toArray ik↔ML ops L i:=by
  intro L ik lC hl i
  rw [mem_ready]
  have amr:∀ o,ops[i]? = some o→ik.getD i true=L i:=λ o ho=>by
   have hi:i<ik.size:=by rw [lC]; exact (List.getElem?_eq_some_iff.1 ho).1
   rw [← hl i]
   simp [hi]
  unfold ML pre
  constructor
  ·rintro ⟨h1,o,ho,h2⟩
   have MD:ops[i]? = some o:=by simpa using ho
   refine ⟨by rw [← amr o MD]; exact h1,o,MD,λ p hp=>?_⟩
   simp only [List.mem_map,List.mem_filter] at hp
   obtain ⟨x,⟨hx,hb⟩,rfl⟩:=hp
   rw [← hl]; exact h2 x (by simpa using hx) hb
  ·rintro ⟨h1,o,ho,h2⟩
   refine ⟨by rw [amr o ho]; exact h1,o,by simpa using ho,λ x hx hb=>?_⟩
   rw [hl]
   exact h2 x.on (by simp only [List.mem_map,List.mem_filter]; exact ⟨x,⟨by simpa using hx,hb⟩,rfl⟩)
 intro f
 induction f with
 | zero=>
  intro L ik e a w ha eA lC hl h
  refine ⟨?_,hQ e a w ha eA h.2⟩
  cases hr:Region.ready .any ops.toArray ik with
  | nil=>rfl
  | cons i r=>exact absurd ((rdy L ik lC hl i).1 (by rw [hr]; exact List.mem_cons_self)) (h.1 i)
 | succ f ih=>
  intro L ik e a w ha eA lC hl h
  refine ⟨λ hn=>hQ e a w ha eA (h.1 λ i hi=>?_),λ i hi=>?_⟩
  ·have:=(rdy L ik lC hl i).2 hi
   rw [hn] at this; cases this
  ·have hr:=(rdy L ik lC hl i).1 hi
   obtain ⟨o,ho,_⟩:=hr.2
   refine Gb.wpOp ho (λ k hk=>hd k (TB ho hk)) ha (h.2 i o ho hr) λ v a' w' BU hh=>?_
   refine ih (mK L i) _ _ a' w' BU (yn eA ho v) (by simpa using lC) (λ k=>?_) hh.2
   have mD:i<ik.size:=by rw [lC]; exact (List.getElem?_eq_some_iff.1 ho).1
   have ME:=hl k
   simp only [Array.getD_eq_getD_getElem?] at ME ⊢
   by_cases e:k=i
   ·subst e; rw [Array.getElem?_setIfInBounds_self_of_lt mD,Gc]; rfl
   ·rw [Array.getElem?_setIfInBounds_ne (Ne.symm e),CD _ e]; exact ME
theorem WS.region {r:Option Nat} {ds:List Nat} {P:Program} {n:Nat} {id:Nat} {ops:List Oper} {Q:Env→World→Prop} {Q':Exit→Act→World→Prop} {S:Nat→World→Prop} {e:Env} {a:Act} {w:World}
  (hm:P.follows .mixedOrders=true) (hd:∀ d∈wr ops,d<n) (ha:iV ds n e a)
  (hQ:∀ e' a w,iV ds n e' a→(∀ k,k ∉ wr ops→e' k=e k)→Q e' w→Q' .normal a w)
  (h:WS P ops Q S ops.length (λ _=>false) e {w with drawn:=w.drawn+1}):(Code.region id ops.toArray true).wpIn (FO r) 0 P Q' a w:=by
 refine wpIn_region_any hm ?_
 rw [List.size_toArray]
 refine WS.any hd hQ ops.length (λ _=>false) _ e a _ ha (λ _ _=>rfl) (by simp) (λ i=>?_) h
 simp only [Array.getD_eq_getD_getElem?,Array.getElem?_replicate]
 split <;> rfl
def lk (s:Nat):List (Nat × Option Bool)→Option (Option Bool)
 | []=>none
 | q::r=>bif Nat.beq q.1 s then some q.2 else lk s r
def HA (d:Nat):List (Nat × Option Bool)→List (Nat × Option Bool)
 | []=>[]
 | q::r=>bif Nat.beq q.1 d then HA d r else q::HA d r
def del (d:Option Nat) (kg:List (Nat × Option Bool)):List (Nat × Option Bool):=match d with | none=>kg | some d=>HA d kg
def CF (kg:List (Nat × Option Bool)):Operand→Option Bool
 | .const (.bool b)=>some b
 | .tmp t=>match lk t kg with | some b=>b | none=>none
 | _=>none
def aep (kg:List (Nat × Option Bool)):Op→Option Operand
 | .move x=>some x
 | .assign x=>some x
 | .pick (.tmp c) a b=>match lk c kg with | some (some t)=>some (bif t then a else b) | _=>none
 | _=>none
def TC (kg:List (Nat × Option Bool)) (d:Option Nat) (x:Operand):List (Nat × Option Bool):=
 match d,CF kg x with
 | some d,some b=>(d,some b)::HA d kg
 | d,_=>del d kg
def ofK:Option Bool→Value | some b=>.bool b | none=>undef
def jd (kg:List (Nat × Option Bool)) (e:Env):Prop:=∀ s b,lk s kg=some b→e s=ofK b
theorem nN (n:Nat):Nat.beq n n=true:=Nat.beq_refl n
theorem A3 {a b:Nat} (h:a≠b):Nat.beq a b=false:=by
 cases hh:Nat.beq a b
 ·rfl
 ·exact absurd (Nat.eq_of_beq_eq_true hh) h
theorem YK (s d:Nat) (kg:List (Nat × Option Bool)):lk s (HA d kg)=if s=d then none else lk s kg:=by
 induction kg with
 | nil=>simp [HA,lk]
 | cons q r ih=>
  simp only [HA,lk]
  by_cases h1:q.1=d
  ·rw [h1,nN,cond_true,ih]
   by_cases h2:s=d
   ·simp [h2]
   ·rw [if_neg h2,if_neg h2,A3 (λ hh=>h2 hh.symm),cond_false]
  ·rw [A3 h1,cond_false]
   simp only [lk,ih]
   by_cases h2:q.1=s
   ·rw [h2,nN,cond_true,cond_true,if_neg (λ hh=>h1 (h2.trans hh))]
   ·rw [A3 h2,cond_false,cond_false]
theorem jd.nil (e:Env):jd [] e:=λ s b h=>by simp [lk] at h
theorem jd.del {kg:List (Nat × Option Bool)} {e:Env} (h:jd kg e) (d:Option Nat) (v:Value):jd (del d kg) (iZ e d v):=by
 cases d with
 | none=>exact h
 | some d=>
  intro s b hs
  simp only [Fw.del,YK] at hs
  by_cases hsd:s=d
  ·simp [hsd] at hs
  ·rw [if_neg hsd] at hs
   simp only [iZ,nL _ _ hsd]
   exact h s b hs
theorem jd.cons {kg:List (Nat × Option Bool)} {e:Env} (h:jd kg e) {s:Nat} {b:Option Bool} (hs:e s=ofK b):jd ((s,b)::kg) e:=by
 intro s' b' hh
 simp only [lk] at hh
 by_cases h1:s=s'
 ·subst h1; rw [nN,cond_true] at hh; cases hh; exact hs
 ·rw [A3 h1,cond_false] at hh; exact h _ _ hh
theorem jd.known {kg:List (Nat × Option Bool)} {e:Env} (h:jd kg e) {x:Operand} {b:Bool} (hx:CF kg x=some b):ev e x = .bool b:=by
 cases x with
 | tmp t=>
  have hx':(match lk t kg with | some b=>b | none=>none)=some b:=hx
  split at hx'
  ·rename_i b' hb; subst hx'; exact h t _ hb
  ·cases hx'
 | const v=>cases v <;> simp [CF] at hx; simp [ev,hx]
 | _=>simp [CF] at hx
theorem jd.aft {kg:List (Nat × Option Bool)} {e:Env} (h:jd kg e) (d:Option Nat) (x:Operand):jd (TC kg d x) (iZ e d (ev e x)):=by
 unfold TC
 split
 ·rename_i d b hb
  have h1:=h.del (some d) (ev e x)
  exact jd.cons (b:=some b) h1 (by simp only [iZ,mS]; exact h.known hb)
 ·exact h.del _ _
def zd (P:Program) (ops:List Oper) (r:Oper) (e:Env) (w:World) (R:Prop):Prop:=
 bif nM ops r e then (match zb P r (ev e),r.dst with | .q m,some d=>Hz P m (e d) w R | _,_=>False) else R
def ze (P:Program) (ops:List Oper):List Oper→Env→World→Prop→Prop
 | [],_,_,R=>R
 | r::ks,e,w,R=>zd P ops r e w (ze P ops ks e w R)
theorem JJ {P:Program} {ops:List Oper} {ks:List Oper} {e:Env} {w:World} {R:Prop}:ze P ops ks e w R→(∀ r∈ks,zd P ops r e w True)∧R:=by
 induction ks with
 | nil=>intro h; exact ⟨by simp,h⟩
 | cons r ks ih=>
  intro h
  have:zd P ops r e w True∧ze P ops ks e w R:=by
   simp only [ze,zd] at h ⊢
   cases hw:nM ops r e with
   | false=>rw [hw] at h; exact ⟨trivial,h⟩
   | true=>
    rw [hw] at h
    simp only [cond_true] at h ⊢
    cases hk:zb P r (ev e) <;> rw [hk] at h <;> cases hd:r.dst <;> rw [hd] at h <;> first | exact h.elim | skip
    exact ⟨⟨h.amn,trivial⟩,h.rest⟩
  exact ⟨λ x hx=>(List.mem_cons.1 hx).elim (λ h'=>h'▸this.1) (λ h'=>(ih this.2).1 x h'),(ih this.2).2⟩
def Di (n:Nat) (o:Oper):Bool:=match o.dst with | none=>true | some d=>Nat.blt d n
def sN (P:Program) (ops:List Oper) (o:Oper) (ks:List Oper) (rec:List (Nat × Option Bool)→Env→World→Prop) (kg:List (Nat × Option Bool)) (e:Env) (w:World):Prop:=
 match aep kg o.op with
 | some x=>rec (TC kg o.dst x) (iZ e o.dst (ev e x)) w
 | none=>F9 P (zb P o (ev e)) (λ v w'=>ze P ops ks (iZ e o.dst v) w' (rec (del o.dst kg) (iZ e o.dst v) w')) w
def skF (o:Oper) (rec:List (Nat × Option Bool)→Env→World→Prop) (kg:List (Nat × Option Bool)) (e:Env) (w:World):Prop:=
 rec (match o.dst with | some d=>(d,none)::HA d kg | none=>kg) (iZ e o.dst undef) w
theorem jd.skip {kg:List (Nat × Option Bool)} {e:Env} (h:jd kg e) (d:Option Nat) :
  jd (match d with | some d=>(d,none)::HA d kg | none=>kg) (iZ e d undef):=by
 cases d with
 | none=>exact h
 | some d=>exact jd.cons (b:=none) (h.del (some d) undef) (by simp only [iZ,mS]; rfl)
def DS (P:Program) (n:Nat) (ops:List Oper) (q:Oper × List Oper) (rec:List (Nat × Option Bool)→Env→World→Prop) (kg:List (Nat × Option Bool)) (e:Env) (w:World):Prop:=
  bif Di n q.1 then
   match q.1.guard with
   | none=>sN P ops q.1 q.2 rec kg e w
   | some g=>match A1 ops g.1 with
    | none=>False
    | some s=>match lk s kg with
     | some none=>skF q.1 rec kg e w
     | some (some b')=>bif b' == g.2 then sN P ops q.1 q.2 rec kg e w else skF q.1 rec kg e w
     | none=>xR (e s)
       (bif g.2 then sN P ops q.1 q.2 rec ((s,some true)::kg) (yY e s (.bool true)) w else skF q.1 rec ((s,some true)::kg) (yY e s (.bool true)) w)
       (bif g.2 then skF q.1 rec ((s,some false)::kg) (yY e s (.bool false)) w else sN P ops q.1 q.2 rec ((s,some false)::kg) (yY e s (.bool false)) w)
  else False
def DR (P:Program) (n:Nat) (ops:List Oper):List (Oper × List Oper)→(Env→World→Prop)→List (Nat × Option Bool)→Env→World→Prop
 | [],Q,_,e,w=>Q e w
 | q::rest,Q,kg,e,w=>DS P n ops q (DR P n ops rest Q) kg e w
theorem wU {P:Program} {ops:List Oper} {o:Oper} {ks:List Oper} {rec:List (Nat × Option Bool)→Env→World→Prop} {kg:List (Nat × Option Bool)} {e:Env} {w:World}
  (hk:jd kg e) (h:sN P ops o ks rec kg e w) :
  F9 P (zb P o (ev e)) (λ v w'=>(w'=w∨∀ r∈ks,zd P ops r (iZ e o.dst v) w' True)∧∃ xB,jd xB (iZ e o.dst v)∧rec xB (iZ e o.dst v) w') w:=by
 unfold sN at h
 split at h
 ·rename_i x hx
  have hv:(zb P o (ev e)).has P w (ev e x):=by
   unfold zb
   cases jQ:o.op <;> rw [jQ] at hx <;> simp only [aep] at hx <;> first | cases hx | skip
   case move y=>simp only [Dh.has]
   case assign y=>simp only [Dh.has]
   case pick c a b=>
    cases c <;> simp only at hx <;> first | cases hx | skip
    rename_i c
    split at hx
    ·rename_i t ht
     cases hx
     have hc:e c = .bool t:=hk c _ ht
     simp only [Dh.has,ev,hc,Tx]
     cases t <;> rfl
    ·cases hx
  exact F9.Ty hv ⟨.inl rfl,_,hk.aft _ _,h⟩
 ·refine h.mono λ v w' hh=>?_
  have:=JJ hh
  exact ⟨.inr this.1,_,hk.del _ _,this.2⟩
theorem HC {P:Program} {n:Nat} {ops:List Oper} {q:Oper × List Oper} {rec:List (Nat × Option Bool)→Env→World→Prop} {kg:List (Nat × Option Bool)} {e:Env} {w:World}
  (hk:jd kg e) (h:DS P n ops q rec kg e w) :
  (∀ d,q.1.dst=some d→d<n)∧
  Gb P ops q.1 (λ e' w'=>(w'=w∨∀ r∈q.2,zd P ops r e' w' True)∧∃ xB,jd xB e'∧rec xB e' w') e w:=by
 unfold DS at h
 cases hd:Di n q.1 with
 | false=>rw [hd] at h; exact h.elim
 | true=>
  rw [hd] at h
  refine ⟨λ d hdd=>by unfold Di at hd; rw [hdd] at hd; exact Nat.blt_eq▸hd,?_⟩
  have sk:∀ {kg:List (Nat × Option Bool)},jd kg e→skF q.1 rec kg e w→
    (w=w∨∀ r∈q.2,zd P ops r (iZ e q.1.dst undef) w True)∧∃ xB,jd xB (iZ e q.1.dst undef)∧rec xB (iZ e q.1.dst undef) w:=
   λ hk h=>⟨.inl rfl,_,hk.skip _,h⟩
  simp only [cond_true] at h
  unfold Gb
  cases hg:q.1.guard with
  | none=>
   rw [hg] at h
   have hB:nM ops q.1 e=true:=by unfold nM; rw [hg]
   rw [if_pos hB]
   exact wU hk h
  | some g=>
   obtain ⟨j,b⟩:=g
   rw [hg] at h
   dsimp only at h
   cases hs:A1 ops j with
   | none=>rw [hs] at h; exact h.elim
   | some s=>
    rw [hs] at h
    dsimp only at h
    have hB:∀ t,e s = .bool t→nM ops q.1 e=(t == b):=λ t ht=>by unfold nM; rw [hg]; dsimp only; rw [hs]; dsimp only; rw [ht]
    cases hl:lk s kg with
    | some ob=>
     rw [hl] at h
     cases ob with
     | none=>
      dsimp only at h
      have hu:nM ops q.1 e=false:=by
       unfold nM; rw [hg]; dsimp only; rw [hs]; dsimp only; rw [hk s none hl]; rfl
      rw [if_neg (by rw [hu]; simp)]
      exact sk hk h
     | some b'=>
      dsimp only at h
      rw [hB b' (hk s _ hl)]
      cases hb:b' == b with
      | true=>rw [hb] at h; rw [if_pos rfl]; exact wU hk h
      | false=>rw [hb] at h; rw [if_neg (by simp)]; exact sk hk h
    | none=>
     rw [hl] at h
     obtain ⟨t,ht,hA,hA'⟩:=h.ex
     rw [hB t ht]
     have hid:∀ c,t=c→yY e s (.bool c)=e:=λ c hc=>agG _ _ _ (by rw [ht,hc])
     cases t with
     | true=>
      have hA:=hA rfl
      rw [hid true rfl] at hA
      cases b with
      | true=>rw [if_pos (by rfl)]; exact wU (hk.cons (b:=some _) ht) hA
      | false=>rw [if_neg (by simp)]; exact sk (hk.cons (b:=some _) ht) hA
     | false=>
      have hA':=hA' rfl
      rw [hid false rfl] at hA'
      cases b with
      | true=>rw [if_neg (by simp)]; exact sk (hk.cons (b:=some _) ht) hA'
      | false=>rw [if_pos (by rfl)]; exact wU (hk.cons (b:=some _) ht) hA'
theorem DR.list {r:Option Nat} {ds:List Nat} {P:Program} {n:Nat} {ops:List Oper} {Q:Env→World→Prop} {Q':Exit→Act→World→Prop} {e0:Env}
  (hQ:∀ e a w,iV ds n e a→(∀ k,k ∉ wr ops→e k=e0 k)→Q e w→Q' .normal a w) :
  ∀ (l:List Oper) (kg:List (Nat × Option Bool)) (e:Env) (a:Act) (w:World),(∀ o∈l,o∈ops)→iV ds n e a→(∀ k,k ∉ wr ops→e k=e0 k)→jd kg e→
   DR P n ops (l.map λ o=>(o,[])) Q kg e w→wpListIn (FO r) 0 P ops.toArray Q' l a w:=by
 intro l
 induction l with
 | nil=>intro kg e a w _ ha eA _ h; exact hQ e a w ha eA h
 | cons o l ih=>
  intro kg e a w hm ha eA hk h
  obtain ⟨hd,hs⟩:=HC hk h
  obtain ⟨i,hi⟩:=List.getElem?_of_mem (hm o List.mem_cons_self)
  have MF:∀ x∈l,x∈ops:=λ x hx=>hm x (List.mem_cons_of_mem _ hx)
  unfold wpListIn
  rw [Ga ha]
  unfold Gb at hs
  split
  ·rename_i hw
   rw [if_pos hw] at hs
   exact F9.wp ha hs λ v w' ⟨_,xB,yo,hv⟩=>ih xB _ _ w' MF (ha.put hd v) (yn eA hi v) yo hv
  ·rename_i hw
   rw [if_neg hw] at hs
   obtain ⟨_,xB,yo,hv⟩:=hs
   exact ⟨tC,ih xB _ _ w MF (ha.put hd undef) (yn eA hi undef) yo hv⟩
theorem DR.region {r:Option Nat} {ds:List Nat} {P:Program} {n:Nat} {id:Nat} {ops:List Oper} {Q:Env→World→Prop} {Q':Exit→Act→World→Prop} {e:Env} {a:Act} {w:World}
  (ha:iV ds n e a) (hQ:∀ e' a w,iV ds n e' a→(∀ k,k ∉ wr ops→e' k=e k)→Q e' w→Q' .normal a w)
  (h:DR P n ops (ops.map λ o=>(o,[])) Q [] e w):(Code.region id ops.toArray false).wpIn (FO r) 0 P Q' a w:=
 wpIn_region_lit (DR.list hQ ops [] e a w (λ _ h=>h) ha (λ _ _=>rfl) (jd.nil e) h)
def MN (P:Program) (o:Oper):Bool:=(zb P o λ _=>undef).quiet
def HD (P:Program) (o:Oper):Bool:=(zb P o λ _=>undef).reads
theorem JK {P:Program} {o:Oper} (ρ ρ':Operand→Value):(zb P o ρ).quiet=(zb P o ρ').quiet∧(zb P o ρ).reads=(zb P o ρ').reads:=by
 unfold zb
 cases o.op <;> try exact ⟨rfl,rfl⟩
 case binOp op t x y u=>dsimp only; split <;> exact ⟨rfl,rfl⟩
 case convert s d x=>dsimp only; split <;> exact ⟨rfl,rfl⟩
 case call c=>
  dsimp only
  cases c.callee with
  | value x=>cases x <;> exact ⟨rfl,rfl⟩
  | invoke r nm=>exact ⟨rfl,rfl⟩
  | builtin b=>cases b <;> dsimp only <;> first | exact ⟨rfl,rfl⟩ | (split <;> exact ⟨rfl,rfl⟩)
def fW (d:Nat):List Nat→Bool
 | []=>false
 | x::r=>Nat.beq x d || fW d r
theorem zf {d:Nat} {l:List Nat}:fW d l=true↔d∈l:=by
 induction l with
 | nil=>simp [fW]
 | cons x r ih=>
  simp only [fW,Bool.or_eq_true,ih,List.mem_cons]
  constructor
  ·rintro (h | h)
   ·exact .inl (Nat.eq_of_beq_eq_true h).symm
   ·exact .inr h
  ·rintro (rfl | h)
   ·exact .inl (nN _)
   ·exact .inr h
theorem Pb {d:Nat} {l:List Nat}:fW d l=false↔d ∉ l:=by
 rw [← zf]; simp
def eqO (d:Nat):Option Nat→Bool | none=>false | some k=>Nat.beq k d
theorem YL {d:Nat} {o:Option Nat}:eqO d o=true↔o=some d:=by
 cases o with
 | none=>simp [eqO]
 | some k=>simp only [eqO,Option.some.injEq]; exact ⟨Nat.eq_of_beq_eq_true,λ h=>by rw [h]; exact nN _⟩
def HE (ops:List Oper) (x y:Oper):Bool:=match y.dst with | none=>true | some d=>!fW d (looks ops x) && !eqO d x.dst
theorem A4 {ops:List Oper} {x y:Oper} (h:HE ops x y=true):∀ d,y.dst=some d→d ∉ looks ops x∧x.dst≠some d:=by
 intro d hd
 unfold HE at h
 rw [hd] at h
 simp only [Bool.and_eq_true,Bool.not_eq_true'] at h
 exact ⟨Pb.1 h.1,λ hh=>by rw [← YL] at hh; rw [hh] at h; cases h.2⟩
def MO (ops:List Oper) (x y:Oper):Bool:=HE ops y x && HE ops x y
theorem JL {ops:List Oper} {x y:Oper} (h:MO ops x y=true):aeo ops x y:=by
 simp only [MO,Bool.and_eq_true] at h
 exact ⟨λ d hd=>A4 h.1 d hd,λ d hd=>(A4 h.2 d hd).1⟩
def A5 (f:Nat→Oper→Bool):Nat→List Oper→Bool
 | _,[]=>true
 | k,o::r=>f k o && A5 f (k+1) r
theorem ny {f:Nat→Oper→Bool} {l:List Oper}:∀ {k:Nat},A5 f k l=true→∀ i o,l[i]? = some o→f (k+i) o=true:=by
 induction l with
 | nil=>intro k _ i o h; simp at h
 | cons x r ih=>
  intro k h i o ho
  simp only [A5,Bool.and_eq_true] at h
  cases i with
  | zero=>simp at ho; subst ho; exact h.1
  | succ i=>have:=ih h.2 i o (by simpa using ho); rwa [show k+1+i=k+(i+1) from by omega] at this
def Cl:List Nat→Nat→Nat
 | [],_=>0
 | x::_,0=>x
 | _::r,n+1=>Cl r n
def Gd (cls:List Nat):List Nat→Nat
 | []=>0
 | p::r=>Nat.lor (Nat.lor (Nat.shiftLeft 1 p) (Cl cls p)) (Gd cls r)
def Ge (ops:List Oper) (cls:List Nat):Bool:=
 A5 (λ j o=>(pre o).all (λ p=>Nat.blt p j) && Nat.beq (Cl cls j) (Gd cls (pre o))) 0 ops
theorem RD {cls l:List Nat} {i:Nat} (h:(Gd cls l).testBit i=true):∃ p∈l,p=i∨(Cl cls p).testBit i=true:=by
 induction l with
 | nil=>simp [Gd] at h
 | cons p r ih=>
  have h':(((1 <<< p) ||| Cl cls p) ||| Gd cls r).testBit i=true:=h
  simp only [Nat.testBit_or,Bool.or_eq_true] at h'
  rcases h' with (h' | h') | h'
  ·refine ⟨p,by simp,.inl ?_⟩
   rw [Nat.one_shiftLeft,Nat.testBit_two_pow] at h'
   simpa using h'
  ·exact ⟨p,by simp,.inr h'⟩
  ·obtain ⟨q,hq,h''⟩:=ih h'
   exact ⟨q,by simp [hq],h''⟩
theorem Gf {ops:List Oper} {cls:List Nat} (h:Ge ops cls=true):∀ (n j:Nat),j<n→j<ops.length→∀ i,(Cl cls j).testBit i=true→MM ops j i:=by
 intro n
 induction n with
 | zero=>intro j hj; omega
 | succ n ih=>
  intro j hj hlen i hi
  obtain ⟨o,ho⟩:∃ o,ops[j]? = some o:=⟨ops[j],by simp [hlen]⟩
  have:=ny h j o ho
  simp only [Nat.zero_add,Bool.and_eq_true,List.all_eq_true] at this
  obtain ⟨h1,h2⟩:=this
  have h2:=Nat.eq_of_beq_eq_true h2
  rw [h2] at hi
  obtain ⟨p,hp,hh⟩:=RD hi
  rcases hh with rfl | hh
  ·exact .one ho hp
  ·have hpj:p<j:=by have:=h1 p hp; rwa [Nat.blt_eq] at this
   exact .more ho hp (ih p (by omega) (by omega) i hh)
def bit (m i:Nat):Bool:=Nat.testBit m i
def Gg (ops:List Oper) (y:Oper):Bool:=match y.dst with | none=>false | some d=>!fW d (looks ops y)
theorem MP {ops:List Oper} {y:Oper} (h:Gg ops y=true):∃ d,y.dst=some d∧d ∉ looks ops y:=by
 unfold Gg at h
 cases hd:y.dst with
 | none=>rw [hd] at h; cases h
 | some d=>rw [hd] at h; exact ⟨d,rfl,Pb.1 (by simpa using h)⟩
def TD (P:Program) (ops:List Oper) (cls:List Nat) (m i:Nat) (ks:List Nat):Bool:=
 match ops[i]? with
 | none=>false
 | some o=>
  !bit m i && ((pre o).all (λ p=>bit m p) &&
  (bif MN P o then
   A5 (λ j y=>Nat.beq j i || (bit m j || (fW i (pre y) || MO ops o y))) 0 ops
  else
   A5 (λ j y=>Nat.beq j i || (bit m j || !(pre y).all (λ p=>bit m p))) 0 ops &&
   (A5 (λ r y=>!bit m r || (!HD P y || (bit (Cl cls i) r || fW r ks))) 0 ops &&
   ks.all (λ r=>match ops[r]? with
    | none=>false
    | some y=>Gg ops y && A5 (λ j z=>Nat.beq j r || (bit (Cl cls r) j || HE ops y z)) 0 ops))))
inductive PT where
 | nil
 | stop
 | op (i:Nat) (ks:List Nat) (r:PT)
 | alt (i:Nat) (ks:List Nat) (r o:PT)
def PT.of:List (Nat × List Nat)→PT
 | []=>.nil
 | q::r=>.op q.1 q.2 (PT.of r)
def PT.ids:PT→List Nat
 | .alt i _ _ o=>i::o.ids
 | _=>[]
def PT.many:PT→Bool
 | .alt _ _ _ _=>true
 | .op _ _ r=>r.many
 | _=>false
def aeq (P:Program) (ops:List Oper) (cls:List Nat) (m i:Nat) (ks:List Nat):Bool:=
 match ops[i]? with
 | none=>false
 | some o=>
  !bit m i && ((pre o).all (λ p=>bit m p) && (!MN P o && (
   (A5 (λ r y=>!bit m r || (!HD P y || (bit (Cl cls i) r || fW r ks))) 0 ops &&
   ks.all (λ r=>match ops[r]? with
    | none=>false
    | some y=>Gg ops y && A5 (λ j z=>Nat.beq j r || (bit (Cl cls r) j || HE ops y z)) 0 ops)))))
def Pc (P:Program) (ops:List Oper) (cls:List Nat):Bool→Nat→Nat→PT→Bool
 | c,f,m,.nil=>!c && (Nat.beq f 0 && A5 (λ j _=>bit m j) 0 ops)
 | c,_,_,.stop=>c
 | c,f,m,.op i ks r=>!c && (match f with | 0=>false | f'+1=>TD P ops cls m i ks && Pc P ops cls false f' (Nat.lor m (Nat.shiftLeft 1 i)) r)
 | c,f,m,.alt i ks r o=>(c || A5 (λ j y=>bit m j || (!(pre y).all (λ p=>bit m p) || fW j (i::o.ids))) 0 ops) &&
  ((match f with | 0=>false | f'+1=>aeq P ops cls m i ks && Pc P ops cls false f' (Nat.lor m (Nat.shiftLeft 1 i)) r) && Pc P ops cls true f m o)
def Gh (ops:List Oper):List Nat:=ops.foldl (λ acc o=>acc++[Gd acc (pre o)]) []
def PT.run (k:Nat):Nat→PT
 | 0=>.nil
 | n+1=>.op k [] (PT.run (k+1) n)
def zg (ops:List Oper) (i:Nat):Oper:=(ops[i]?).getD default
def DT (P:Program) (n:Nat) (ops:List Oper):PT→(Env→World→Prop)→List (Nat × Option Bool)→Env→World→Prop
 | .nil,Q,_,e,w=>Q e w
 | .stop,_,_,_,_=>True
 | .op i ks r,Q,kg,e,w=>DS P n ops (zg ops i,ks.map (zg ops)) (DT P n ops r Q) kg e w
 | .alt i ks r o,Q,kg,e,w=>DS P n ops (zg ops i,ks.map (zg ops)) (DT P n ops r Q) kg e w∧DT P n ops o Q kg e w
structure Tk where
 idx:Nat
 o:Oper
 b:Bool
 X:Dh
 v:Value
structure Dj (P:Program) (ops:List Oper) (L:Nat→Bool) (T:List Tk) (e:Env):Prop where
 op:∀ x∈T,ops[x.idx]? = some x.o
 ik:∀ x∈T,L x.idx=true
 kind:∀ x∈T,x.X.reads=HD P x.o
 still:∀ x∈T,x.X.reads=false→x.b=true→∀ w,x.X.has P w x.v
 reads:∀ x∈T,x.X.reads=true→(∀ j z,ops[j]? = some z→j≠x.idx→MM ops x.idx j∨HE ops x.o z=true)→Gg ops x.o=true→
  zb P x.o (ev e)=x.X∧nM ops x.o e=x.b∧∃ d,x.o.dst=some d∧(x.b=true→e d=x.v)
def ST (P:Program) (ops:List Oper) (T:List Tk):Nat→World→Prop:=λ j w=>∀ x∈T,MM ops j x.idx∨(x.b=true→x.X.has P w x.v)
theorem Pd {m i:Nat}:(λ k=>bit (Nat.lor m (Nat.shiftLeft 1 i)) k)=mK (λ k=>bit m k) i:=by
 funext k
 show (m ||| 1 <<< i).testBit k=_
 rw [Nat.testBit_or,Nat.one_shiftLeft,Nat.testBit_two_pow]
 unfold mK bit
 by_cases h:k=i
 ·subst h; simp
 ·rw [if_neg h]
  have:decide (i=k)=false:=by simpa using λ hh:i=k=>h hh.symm
  rw [this,Bool.or_false]
theorem Dj.next {P:Program} {ops:List Oper} {L:Nat→Bool} {T:List Tk} {e:Env} (h:Dj P ops L T e) (hL:Down ops L) {i:Nat} {o:Oper} (ho:ops[i]? = some o) (hi:L i=false) (v:Value) :
  Dj P ops (mK L i) T (iZ e o.dst v):=by
 refine ⟨h.op,λ x hx=>CE _ _ (h.ik x hx),h.kind,h.still,λ x hx hr gn hds=>?_⟩
 obtain ⟨h1,h2,d,hd,h3⟩:=h.reads x hx hr gn hds
 have Ck:i≠x.idx:=λ hh=>by have:=h.ik x hx; rw [← hh,hi] at this; cases this
 have agJ:HE ops x.o o=true:=by
  rcases gn i o ho Ck with TA | agJ
  ·have:L i=true:=TA.ik hL λ o' MD p hp=>hL x.idx o' (h.ik x hx) MD p hp
   rw [hi] at this; cases this
  ·exact agJ
 have hof:=A4 agJ
 refine ⟨by rw [CC λ k hk=>(hof k hk).1]; exact h1,by rw [wT λ k hk=>(hof k hk).1]; exact h2,d,hd,λ hb=>?_⟩
 have:=h3 hb
 cases hod:o.dst with
 | none=>exact this
 | some k=>
  have hkd:d≠k:=λ hh=>(hof k hod).2 (by rw [hd,hh])
  simp only [iZ,nL _ _ hkd]
  exact this
theorem JM {P:Program} {ops:List Oper} {cls:List Nat} (hc:Ge ops cls=true) {f m i:Nat} {ks:List Nat} {o:Oper} {T:List Tk} {e:Env} {w:World} {Q:Env→World→Prop} {rec:List (Nat × Option Bool)→Env→World→Prop}
  (ho:ops[i]? = some o) (Ys:bit m i=false) (hL:Down ops (bit m)) (hT:Dj P ops (bit m) T e)
  (uF:∀ (r:Nat) (y:Oper),ops[r]? = some y→(!bit m r || (!HD P y || (bit (Cl cls i) r || fW r ks)))=true)
  (JN:∀ r∈ks,(match ops[r]? with | none=>false | some y=>Gg ops y && A5 (λ j z=>Nat.beq j r || (bit (Cl cls r) j || HE ops y z)) 0 ops)=true)
  (gn:Gb P ops o (λ e' w'=>(w'=w∨∀ r∈ks.map (zg ops),zd P ops r e' w' True)∧∃ xB,jd xB e'∧rec xB e' w') e w)
  (aum:∀ v w' xB,Dj P ops (mK (bit m) i) T (iZ e o.dst v)→jd xB (iZ e o.dst v)→rec xB (iZ e o.dst v) w'→WS P ops Q (ST P ops T) f (mK (bit m) i) (iZ e o.dst v) w') :
  Gb P ops o (λ e' w'=>(w'=w∨ST P ops T i w')∧WS P ops Q (ST P ops T) f (mK (bit m) i) e' w') e w:=by
 refine gn.mono λ v w' hh=>?_
 obtain ⟨hkp,xB,yo,vi⟩:=hh
 have Tg:=hT.next hL ho Ys v
 refine ⟨?_,?_⟩
 ·rcases hkp with hw | hkp
  ·exact .inl hw
  ·refine .inr λ x hx=>?_
   cases HF:x.X.reads with
   | false=>exact .inr λ hb=>hT.still x hx HF hb w'
   | true=>
    have h1:=uF x.idx x.o (hT.op x hx)
    simp only [Bool.or_eq_true,Bool.not_eq_true'] at h1
    rcases h1 with h1 | h1 | h1 | h1
    ·have:=hT.ik x hx; rw [h1] at this; cases this
    ·have:=hT.kind x hx; rw [HF,h1] at this; cases this
    ·have hjl:i<ops.length:=(List.getElem?_eq_some_iff.1 ho).1
     exact .inl (Gf hc (i+1) i (by omega) hjl _ h1)
    ·have JO:=zf.1 h1
     have h2:=JN x.idx JO
     rw [hT.op x hx] at h2
     simp only [Bool.and_eq_true] at h2
     obtain ⟨hds,h2⟩:=h2
     have h2:=ny h2
     have Pe:x.idx<ops.length:=(List.getElem?_eq_some_iff.1 (hT.op x hx)).1
     obtain ⟨e1,e2,d,hd,e3⟩:=Tg.reads x hx HF (λ k z hz Ck=>by
      have:=h2 k z hz
      simp only [Nat.zero_add,Bool.or_eq_true] at this
      rcases this with h3 | h3 | h3
      ·exact absurd (Nat.eq_of_beq_eq_true h3) Ck
      ·exact .inl (Gf hc (x.idx+1) x.idx (by omega) Pe _ h3)
      ·exact .inr h3) hds
     refine .inr λ hb=>?_
     have Th:=hkp x.o (List.mem_map.2 ⟨x.idx,JO,by simp [zg,hT.op x hx]⟩)
     unfold zd at Th
     rw [e2,hb,e1,hd] at Th
     simp only [cond_true] at Th
     cases hX:x.X <;> rw [hX] at Th HF <;> first | exact Th.elim | cases HF | skip
     have:=Th.amn
     rw [e3 hb] at this
     exact this
 ·exact aum v w' xB Tg yo vi
theorem YM {P:Program} {n:Nat} {ops:List Oper} {cls:List Nat} {Q:Env→World→Prop} (hc:Ge ops cls=true) :
  ∀ (p:PT) (f m:Nat) (T:List Tk) (kg:List (Nat × Option Bool)) (e:Env) (w:World),
   Down ops (bit m)→Dj P ops (bit m) T e→jd kg e→DT P n ops p Q kg e w→
   (Pc P ops cls false f m p=true→WS P ops Q (ST P ops T) f (bit m) e w)∧
   (Pc P ops cls true f m p=true→∀ j∈p.ids,∃ f',f=f'+1∧ML ops (bit m) j∧∀ oj,ops[j]? = some oj→Gb P ops oj (λ e' w'=>(w'=w∨ST P ops T j w')∧WS P ops Q (ST P ops T) f' (mK (bit m) j) e' w') e w):=by
 intro p
 induction p with
 | nil=>
  intro f m T kg e w hL hT hk h
  refine ⟨λ hp=>?_,λ _ j hj=>by cases hj⟩
  simp only [Pc,Bool.not_false,Bool.true_and,Bool.and_eq_true] at hp
  have mv:=ny hp.2
  rw [Nat.eq_of_beq_eq_true hp.1]
  refine ⟨λ i hr=>?_,h⟩
  obtain ⟨h0,o,ho,_⟩:=hr
  have:=mv i o ho
  rw [Nat.zero_add,h0] at this; cases this
 | stop=>
  intro f m T kg e w hL hT hk h
  exact ⟨λ hp=>by simp [Pc] at hp,λ _ j hj=>by cases hj⟩
 | op i ks p ih=>
  intro f m T kg e w hL hT hk h
  refine ⟨λ hp=>?_,λ _ j hj=>by cases hj⟩
  simp only [Pc,Bool.not_false,Bool.true_and] at hp
  cases f with
  | zero=>cases hp
  | succ f=>
   simp only [Bool.and_eq_true] at hp
   obtain ⟨hs,hp⟩:=hp
   unfold TD at hs
   cases ho:ops[i]? with
   | none=>rw [ho] at hs; cases hs
   | some o=>
   rw [ho] at hs
   simp only [Bool.and_eq_true,Bool.not_eq_true',List.all_eq_true] at hs
   obtain ⟨Ys,agL,hs⟩:=hs
   have hr:ML ops (bit m) i:=⟨Ys,o,ho,agL⟩
   have fS:zg ops i=o:=by simp [zg,ho]
   have h':DS P n ops (zg ops i,ks.map (zg ops)) (DT P n ops p Q) kg e w:=h
   rw [fS] at h'
   obtain ⟨_,gn⟩:=HC hk h'
   have xC:(bit (Nat.lor m (Nat.shiftLeft 1 i)))=mK (bit m) i:=Pd
   have hL':Down ops (mK (bit m) i):=hL.set hr
   cases hq:MN P o with
   | true=>
    rw [hq] at hs
    simp only [cond_true] at hs
    have JI:=ny hs
    have hqq:∀ ρ,(zb P o ρ).quiet=true:=λ ρ=>by rw [(JK ρ (λ _=>undef)).1]; exact hq
    obtain ⟨b,v,hb,hn,hy,xB,yo,vi⟩:∃ b v,nM ops o e=b∧(b=false→v=undef)∧(b=true→(zb P o (ev e)).has P w v)∧
      ∃ xB,jd xB (iZ e o.dst v)∧DT P n ops p Q xB (iZ e o.dst v) w:=by
     unfold Gb at gn
     cases hb:nM ops o e with
     | true=>
      rw [if_pos hb] at gn
      obtain ⟨v,hv,_,xB,yo,vi⟩:=gn.has (hqq _)
      exact ⟨true,v,rfl,by simp,λ _=>hv,xB,yo,vi⟩
     | false=>
      rw [if_neg (by rw [hb]; simp)] at gn
      obtain ⟨_,xB,yo,vi⟩:=gn
      exact ⟨false,undef,rfl,λ _=>rfl,by simp,xB,yo,vi⟩
    refine WS.first (X:=zb P o (ev e)) ho hn f (bit m) e w hL hr ?_ rfl hb hy ?_
    ·intro j oj FB Tz auo fS
     have:=JI j oj FB
     simp only [Nat.zero_add,Bool.or_eq_true] at this
     rcases this with h1 | h1 | h1 | h1
     ·exact absurd (Nat.eq_of_beq_eq_true h1) Tz
     ·rw [auo] at h1; cases h1
     ·exact absurd (zf.1 h1) fS
     ·exact JL h1
    ·have hT':Dj P ops (mK (bit m) i) (⟨i,o,b,zb P o (ev e),v⟩::T) (iZ e o.dst v):=by
      have Tg:=hT.next hL ho Ys v
      constructor
      ·intro x hx; rcases List.mem_cons.1 hx with rfl | hx
       ·exact ho
       ·exact Tg.op x hx
      ·intro x hx; rcases List.mem_cons.1 hx with rfl | hx
       ·exact Gc _ _
       ·exact Tg.ik x hx
      ·intro x hx; rcases List.mem_cons.1 hx with rfl | hx
       ·exact (JK _ _).2
       ·exact Tg.kind x hx
      ·intro x hx; rcases List.mem_cons.1 hx with rfl | hx
       ·intro h1 h2 w'; exact Dh.Rz h1 (hy h2)
       ·exact Tg.still x hx
      ·intro x hx; rcases List.mem_cons.1 hx with rfl | hx
       ·intro h1 h2 h3
        obtain ⟨d,hd,hnl⟩:=MP h3
        dsimp only at hd hnl ⊢
        have hh:∀ k,o.dst=some k→k ∉ looks ops o:=λ k hk=>by rw [hd] at hk; cases hk; exact hnl
        refine ⟨CC hh,by rw [wT hh]; exact hb,d,hd,λ _=>?_⟩
        rw [hd]; exact mS _ _ _
       ·exact Tg.reads x hx
     have:=(ih f _ _ xB _ w (by rw [xC]; exact hL') (by rw [xC]; exact hT') yo vi).1 hp
     rw [xC] at this
     refine WS.weaken (λ j w' hj=>?_) _ _ _ _ this
     exact ⟨λ x hx=>hj x (List.mem_cons_of_mem _ hx),hj _ List.mem_cons_self⟩
   | false=>
    rw [hq] at hs
    simp only [cond_false,Bool.and_eq_true,List.all_eq_true] at hs
    obtain ⟨TE,uF,JN⟩:=hs
    have TE:=ny TE
    have uF:=ny uF
    refine ⟨λ fS=>absurd hr (fS i),λ j oj FB hj=>?_⟩
    have Tz:j=i:=by
     have:=TE j oj FB
     simp only [Nat.zero_add,Bool.or_eq_true,Bool.not_eq_true'] at this
     rcases this with h1 | h1 | h1
     ·exact Nat.eq_of_beq_eq_true h1
     ·have:=hj.1; rw [h1] at this; cases this
     ·obtain ⟨_,o',MD,mv⟩:=hj
      rw [FB] at MD; cases MD
      have:(pre oj).all (λ p=>bit m p)=true:=List.all_eq_true.2 mv
      rw [this] at h1; cases h1
    subst Tz
    rw [ho] at FB; cases FB
    refine JM hc ho Ys hL hT (λ r y hy=>by have:=uF r y hy; rwa [Nat.zero_add] at this) JN gn λ v w' xB Tg yo vi=>?_
    have:=(ih f _ T xB _ w' (by rw [xC]; exact hL') (by rw [xC]; exact Tg) yo vi).1 hp
    rw [xC] at this
    exact this
 | alt i ks p o' ih YN=>
  intro f m T kg e w hL hT hk h
  obtain ⟨h1,h2⟩:DS P n ops (zg ops i,ks.map (zg ops)) (DT P n ops p Q) kg e w∧DT P n ops o' Q kg e w:=h
  have chain:∀ c,Pc P ops cls c f m (.alt i ks p o')=true→∀ j∈i::o'.ids,∃ f',f=f'+1∧ML ops (bit m) j∧∀ oj,ops[j]? = some oj→Gb P ops oj (λ e' w'=>(w'=w∨ST P ops T j w')∧WS P ops Q (ST P ops T) f' (mK (bit m) j) e' w') e w:=by
   intro c hp
   simp only [Pc,Bool.and_eq_true] at hp
   obtain ⟨_,hp,YO⟩:=hp
   cases f with
   | zero=>cases hp
   | succ f=>
    simp only [Bool.and_eq_true] at hp
    obtain ⟨hs,hp⟩:=hp
    intro j hj
    rcases List.mem_cons.1 hj with rfl | hj
    ·unfold aeq at hs
     cases ho:ops[j]? with
     | none=>rw [ho] at hs; cases hs
     | some o=>
      rw [ho] at hs
      simp only [Bool.and_eq_true,Bool.not_eq_true',List.all_eq_true] at hs
      obtain ⟨Ys,agL,_,uF,JN⟩:=hs
      have hr:ML ops (bit m) j:=⟨Ys,o,ho,agL⟩
      refine ⟨f,rfl,hr,λ oj FB=>?_⟩
      cases FB
      have uF:=ny uF
      have fS:zg ops j=o:=by simp [zg,ho]
      rw [fS] at h1
      obtain ⟨_,gn⟩:=HC hk h1
      have xC:(bit (Nat.lor m (Nat.shiftLeft 1 j)))=mK (bit m) j:=Pd
      have hL':Down ops (mK (bit m) j):=hL.set hr
      refine JM hc ho Ys hL hT (λ r y hy=>by have:=uF r y hy; rwa [Nat.zero_add] at this) JN gn λ v w' xB Tg yo vi=>?_
      have:=(ih f _ T xB _ w' (by rw [xC]; exact hL') (by rw [xC]; exact Tg) yo vi).1 hp
      rw [xC] at this
      exact this
    ·exact (YN (f+1) m T kg e w hL hT hk h2).2 YO j hj
  refine ⟨λ hp=>?_,λ hp=>chain true hp⟩
  have hch:=chain false hp
  simp only [Pc,Bool.false_or,Bool.and_eq_true] at hp
  have aup:=ny hp.1
  obtain ⟨f',rfl,hri,_⟩:=hch i List.mem_cons_self
  refine ⟨λ fS=>absurd hri (fS i),λ j oj FB hj=>?_⟩
  have JO:j∈i::o'.ids:=by
   have:=aup j oj FB
   simp only [Nat.zero_add,Bool.or_eq_true,Bool.not_eq_true'] at this
   rcases this with h3 | h3 | h3
   ·have:=hj.1; rw [h3] at this; cases this
   ·obtain ⟨_,o2,Pf,mv⟩:=hj
    rw [FB] at Pf; cases Pf
    have:(pre oj).all (λ p=>bit m p)=true:=List.all_eq_true.2 mv
    rw [this] at h3; cases h3
   ·exact zf.1 h3
  obtain ⟨f2,hf,_,gn⟩:=hch j JO
  cases hf
  exact gn oj FB
structure lI (F:(World→Prop)→Prop) (G:World→Prop):Prop where
 ex:∃ I:World→Prop,F I∧∀ w,I w→G w
structure vI (B:(World→Prop)→World→Prop) (F:(World→Prop)→Prop):Prop where
 ex:∃ I:Nat→World→Prop,(∃ m,F (I m))∧∀ m w,I m w→B (λ w'=>∃ m',m'<m∧I m' w') w
structure bP (F:(Value→World→Prop)→Prop) (G:Value→World→Prop):Prop where
 ex:∃ I:Value→World→Prop,F I∧∀ x0 w,I x0 w→G x0 w
structure eS (B:(Value→World→Prop)→Value→World→Prop) (F:(Value→World→Prop)→Prop):Prop where
 ex:∃ I:Nat→Value→World→Prop,(∃ m,F (I m))∧∀ m x0 w,I m x0 w→B (λ y0 w'=>∃ m',m'<m∧I m' y0 w') x0 w
structure aer (F:(Value→Value→World→Prop)→Prop) (G:Value→Value→World→Prop):Prop where
 ex:∃ I:Value→Value→World→Prop,F I∧∀ x0 x1 w,I x0 x1 w→G x0 x1 w
structure kh (B:(Value→Value→World→Prop)→Value→Value→World→Prop) (F:(Value→Value→World→Prop)→Prop):Prop where
 ex:∃ I:Nat→Value→Value→World→Prop,(∃ m,F (I m))∧∀ m x0 x1 w,I m x0 x1 w→B (λ y0 y1 w'=>∃ m',m'<m∧I m' y0 y1 w') x0 x1 w
structure amu (F:(Value→Value→Value→World→Prop)→Prop) (G:Value→Value→Value→World→Prop):Prop where
 ex:∃ I:Value→Value→Value→World→Prop,F I∧∀ x0 x1 x2 w,I x0 x1 x2 w→G x0 x1 x2 w
structure JP (B:(Value→Value→Value→World→Prop)→Value→Value→Value→World→Prop) (F:(Value→Value→Value→World→Prop)→Prop):Prop where
 ex:∃ I:Nat→Value→Value→Value→World→Prop,(∃ m,F (I m))∧∀ m x0 x1 x2 w,I m x0 x1 x2 w→B (λ y0 y1 y2 w'=>∃ m',m'<m∧I m' y0 y1 y2 w') x0 x1 x2 w
structure amv (F:(Value→Value→Value→Value→World→Prop)→Prop) (G:Value→Value→Value→Value→World→Prop):Prop where
 ex:∃ I:Value→Value→Value→Value→World→Prop,F I∧∀ x0 x1 x2 x3 w,I x0 x1 x2 x3 w→G x0 x1 x2 x3 w
structure amw (B:(Value→Value→Value→Value→World→Prop)→Value→Value→Value→Value→World→Prop) (F:(Value→Value→Value→Value→World→Prop)→Prop):Prop where
 ex:∃ I:Nat→Value→Value→Value→Value→World→Prop,(∃ m,F (I m))∧∀ m x0 x1 x2 x3 w,I m x0 x1 x2 x3 w→B (λ y0 y1 y2 y3 w'=>∃ m',m'<m∧I m' y0 y1 y2 y3 w') x0 x1 x2 x3 w
structure amx (F:(Value→Value→Value→Value→Value→World→Prop)→Prop) (G:Value→Value→Value→Value→Value→World→Prop):Prop where
 ex:∃ I:Value→Value→Value→Value→Value→World→Prop,F I∧∀ x0 x1 x2 x3 x4 w,I x0 x1 x2 x3 x4 w→G x0 x1 x2 x3 x4 w
structure amy (B:(Value→Value→Value→Value→Value→World→Prop)→Value→Value→Value→Value→Value→World→Prop) (F:(Value→Value→Value→Value→Value→World→Prop)→Prop):Prop where
 ex:∃ I:Nat→Value→Value→Value→Value→Value→World→Prop,(∃ m,F (I m))∧∀ m x0 x1 x2 x3 x4 w,I m x0 x1 x2 x3 x4 w→B (λ y0 y1 y2 y3 y4 w'=>∃ m',m'<m∧I m' y0 y1 y2 y3 y4 w') x0 x1 x2 x3 x4 w
def HG (i:Nat):List (Nat × Value)→Value→Value
 | [],d=>d
 | q::r,d=>bif Nat.beq q.1 i then q.2 else HG i r d
def FC (e:Env) (M:Nat) (bs:List (Nat × Value)) (dead:Env):Env:=λ i=>bif bit M i then HG i bs (dead i) else e i
def zh (l:List Nat) (F:(Env→World→Prop)→Prop) (G:List (Nat × Value)→World→Prop):Prop:=
 match l with
 | []=>lI (λ K=>F (λ e w=>K w)) (λ w=>G [] w)
 | [a0]=>bP (λ K=>F (λ e w=>K (e a0) w)) (λ x0 w=>G [(a0,x0)] w)
 | [a0,a1]=>aer (λ K=>F (λ e w=>K (e a0) (e a1) w)) (λ x0 x1 w=>G [(a0,x0),(a1,x1)] w)
 | [a0,a1,a2]=>amu (λ K=>F (λ e w=>K (e a0) (e a1) (e a2) w)) (λ x0 x1 x2 w=>G [(a0,x0),(a1,x1),(a2,x2)] w)
 | [a0,a1,a2,a3]=>amv (λ K=>F (λ e w=>K (e a0) (e a1) (e a2) (e a3) w)) (λ x0 x1 x2 x3 w=>G [(a0,x0),(a1,x1),(a2,x2),(a3,x3)] w)
 | [a0,a1,a2,a3,a4]=>amx (λ K=>F (λ e w=>K (e a0) (e a1) (e a2) (e a3) (e a4) w)) (λ x0 x1 x2 x3 x4 w=>G [(a0,x0),(a1,x1),(a2,x2),(a3,x3),(a4,x4)] w)
 | _=>False
def zi (l:List Nat) (B:(Env→World→Prop)→List (Nat × Value)→World→Prop) (e:Env) (w:World):Prop:=
 match l with
 | []=>vI (λ K w=>B (λ e' w'=>K w') [] w) (λ K=>K w)
 | [a0]=>eS (λ K x0 w=>B (λ e' w'=>K (e' a0) w') [(a0,x0)] w) (λ K=>K (e a0) w)
 | [a0,a1]=>kh (λ K x0 x1 w=>B (λ e' w'=>K (e' a0) (e' a1) w') [(a0,x0),(a1,x1)] w) (λ K=>K (e a0) (e a1) w)
 | [a0,a1,a2]=>JP (λ K x0 x1 x2 w=>B (λ e' w'=>K (e' a0) (e' a1) (e' a2) w') [(a0,x0),(a1,x1),(a2,x2)] w) (λ K=>K (e a0) (e a1) (e a2) w)
 | [a0,a1,a2,a3]=>amw (λ K x0 x1 x2 x3 w=>B (λ e' w'=>K (e' a0) (e' a1) (e' a2) (e' a3) w') [(a0,x0),(a1,x1),(a2,x2),(a3,x3)] w) (λ K=>K (e a0) (e a1) (e a2) (e a3) w)
 | [a0,a1,a2,a3,a4]=>amy (λ K x0 x1 x2 x3 x4 w=>B (λ e' w'=>K (e' a0) (e' a1) (e' a2) (e' a3) (e' a4) w') [(a0,x0),(a1,x1),(a2,x2),(a3,x3),(a4,x4)] w) (λ K=>K (e a0) (e a1) (e a2) (e a3) (e a4) w)
 | _=>False
def je (l:List Nat) (e:Env):List (Nat × Value):=l.map λ a=>(a,e a)
theorem zh.spec {l:List Nat} {F:(Env→World→Prop)→Prop} {G:List (Nat × Value)→World→Prop} (h:zh l F G) :
  ∃ I:List (Nat × Value)→World→Prop,F (λ e w=>I (je l e) w)∧∀ (e:Env) w,I (je l e) w→G (je l e) w:=by
 unfold zh at h
 split at h
 ·obtain ⟨I,h1,h2⟩:=h.ex
  exact ⟨λ _ w=>I w,h1,λ _ w hi=>h2 w hi⟩
 ·obtain ⟨I,h1,h2⟩:=h.ex
  exact ⟨λ q w=>match q with | [x0]=>I x0.2 w | _=>False,h1,λ e w hi=>h2 _ w hi⟩
 ·obtain ⟨I,h1,h2⟩:=h.ex
  exact ⟨λ q w=>match q with | [x0,x1]=>I x0.2 x1.2 w | _=>False,h1,λ e w hi=>h2 _ _ w hi⟩
 ·obtain ⟨I,h1,h2⟩:=h.ex
  exact ⟨λ q w=>match q with | [x0,x1,x2]=>I x0.2 x1.2 x2.2 w | _=>False,h1,λ e w hi=>h2 _ _ _ w hi⟩
 ·obtain ⟨I,h1,h2⟩:=h.ex
  exact ⟨λ q w=>match q with | [x0,x1,x2,x3]=>I x0.2 x1.2 x2.2 x3.2 w | _=>False,h1,λ e w hi=>h2 _ _ _ _ w hi⟩
 ·obtain ⟨I,h1,h2⟩:=h.ex
  exact ⟨λ q w=>match q with | [x0,x1,x2,x3,x4]=>I x0.2 x1.2 x2.2 x3.2 x4.2 w | _=>False,h1,λ e w hi=>h2 _ _ _ _ _ w hi⟩
 ·exact h.elim
theorem zi.spec {l:List Nat} {B:(Env→World→Prop)→List (Nat × Value)→World→Prop} {e:Env} {w:World} (h:zi l B e w) :
  ∃ I:Nat→List (Nat × Value)→World→Prop,(∃ m,I m (je l e) w)∧
   ∀ m e w,I m (je l e) w→B (λ e' w'=>∃ m',m'<m∧I m' (je l e') w') (je l e) w:=by
 unfold zi at h
 split at h
 ·obtain ⟨I,⟨m,h1⟩,h2⟩:=h.ex
  exact ⟨λ m _ w=>I m w,⟨m,h1⟩,λ m _ w hi=>h2 m w hi⟩
 ·obtain ⟨I,⟨m,h1⟩,h2⟩:=h.ex
  exact ⟨λ m q w=>match q with | [x0]=>I m x0.2 w | _=>False,⟨m,h1⟩,λ m e w hi=>h2 m _ w hi⟩
 ·obtain ⟨I,⟨m,h1⟩,h2⟩:=h.ex
  exact ⟨λ m q w=>match q with | [x0,x1]=>I m x0.2 x1.2 w | _=>False,⟨m,h1⟩,λ m e w hi=>h2 m _ _ w hi⟩
 ·obtain ⟨I,⟨m,h1⟩,h2⟩:=h.ex
  exact ⟨λ m q w=>match q with | [x0,x1,x2]=>I m x0.2 x1.2 x2.2 w | _=>False,⟨m,h1⟩,λ m e w hi=>h2 m _ _ _ w hi⟩
 ·obtain ⟨I,⟨m,h1⟩,h2⟩:=h.ex
  exact ⟨λ m q w=>match q with | [x0,x1,x2,x3]=>I m x0.2 x1.2 x2.2 x3.2 w | _=>False,⟨m,h1⟩,λ m e w hi=>h2 m _ _ _ _ w hi⟩
 ·obtain ⟨I,⟨m,h1⟩,h2⟩:=h.ex
  exact ⟨λ m q w=>match q with | [x0,x1,x2,x3,x4]=>I m x0.2 x1.2 x2.2 x3.2 x4.2 w | _=>False,⟨m,h1⟩,λ m e w hi=>h2 m _ _ _ _ _ w hi⟩
 ·exact h.elim
def agM (m d:Nat):Nat:=Nat.lor m (Nat.shiftLeft 1 d)
def amz (m d:Nat):Nat:=bif bit m d then Nat.sub m (Nat.shiftLeft 1 d) else m
def yp:List Nat→Nat
 | []=>0
 | d::r=>agM (yp r) d
def vJ:List Operand→Nat→Nat
 | [],m=>m
 | .tmp t::r,m=>agM (vJ r m) t
 | _::r,m=>vJ r m
def lkX (id:Nat):List (Nat × Nat)→Nat
 | []=>0
 | q::r=>bif Nat.beq q.1 id then q.2 else lkX id r
def TF:List Oper→Nat→Nat
 | [],lo=>lo
 | o::r,lo=>vJ o.op.operands.toList (match o.dst with | some d=>amz (TF r lo) d | none=>TF r lo)
def amA:List Nat→Nat→Nat
 | [],m=>m
 | d::r,m=>amA r (amz m d)
def li (rl:Nat):Code→List (Nat × Nat)→Nat→Nat
 | .skip,_,lo=>lo
 | .ret,_,_=>rl
 | .exit id,X,_=>lkX id X
 | .region _ ops _,_,lo=>TF ops.toList lo
 | .seq a b,X,lo=>li rl a X (li rl b X lo)
 | .cond c a b,X,lo=>vJ [c] (Nat.lor (li rl a X lo) (li rl b X lo))
 | .block id c,X,lo=>li rl c ((id,lo)::X) lo
 | .loop c,X,_=>li rl c X (li rl c X 0)
 | .rangeFunc g ps a b,X,lo=>vJ [g] (Nat.lor lo (amA ps.toList (li rl a X (li rl b X lo))))
 | _,_,_=>0
def fu:Code→Bool
 | .seq a b=>fu a || fu b
 | .cond _ a b=>fu a || fu b
 | .block _ c=>fu c
 | .loop c=>fu c
 | .rangeFunc _ _ _ _=>true
 | _=>false
def iw:Code→Nat
 | .region _ ops _=>yp (wr ops.toList)
 | .seq a b=>Nat.lor (iw a) (iw b)
 | .cond _ a b=>Nat.lor (iw a) (iw b)
 | .block _ c=>iw c
 | .loop c=>iw c
 | _=>0
def guarded:List Oper→Bool
 | []=>false
 | o::r=>o.guard.isSome || guarded r
def YP (a b:Nat):Nat:=Nat.add a b
mutual
def YQ (id:Nat):Code→Nat
 | .exit k=>bif Nat.beq k id then 1 else 0
 | .seq a b=>bif Nat.beq (YR a) 0 then YQ id a else YP (YQ id a) (YQ id b)
 | .cond _ a b=>YP (YQ id a) (YQ id b)
 | .block _ c=>YQ id c
 | .loop c=>YQ id c
 | .rangeFunc _ _ _ b=>YQ id b
 | _=>0
def YR:Code→Nat
 | .skip=>1
 | .region _ ops _=>bif guarded ops.toList then 2 else 1
 | .seq a b=>bif Nat.beq (YR a) 0 then 0 else YR b
 | .cond _ a b=>YP (YR a) (YR b)
 | .block id c=>YP (YR c) (YQ id c)
 | .rangeFunc _ _ _ _=>1
 | _=>0
end
def gb (m:Nat):Nat→Nat→List Nat
 | 0,_=>[]
 | f+1,i=>bif bit m i then i::gb m f (i+1) else gb m f (i+1)
abbrev Cm:=Exit→List Nat→Env→World→Prop
def rX (K:List Nat→Env→World→Prop) (Q:Cm):Cm
 | .normal,ds,e,w=>K ds e w
 | x,ds,e,w=>Q x ds e w
def TG (id:Nat) (Q:Cm):Cm
 | .exit k,ds,e,w=>bif Nat.beq k id then Q .normal ds e w else Q (.exit k) ds e w
 | x,ds,e,w=>Q x ds e w
def TH (K:Option Code→World→Prop):Cm
 | .normal,_,_,w=>K none w
 | .ret,_,_,w=>K (some .ret) w
 | .exit id,_,_,w=>K (some (.exit id)) w
 | _,_,_,_=>False
def aft (N R:Nat→World→Prop) (X:Nat→Nat→World→Prop):Option Code→Nat→World→Prop
 | none=>N
 | some .ret=>R
 | some (.exit id)=>X id
 | _=>λ _ _=>False
def outs:List Nat→Code→Bool
 | l,.exit id=>!(l.any λ k=>Nat.beq k id)
 | l,.seq a b=>outs l a || outs l b
 | l,.cond _ a b=>outs l a || outs l b
 | l,.block id c=>outs (id::l) c
 | l,.loop c=>outs l c
 | _,_=>false
def RE:List Value→Nat→Value
 | [],_=>undef
 | v::_,0=>v
 | _::r,k+1=>RE r k
def Gi (args:List Value):List Nat→Nat→Env→Env
 | [],_,e=>e
 | p::r,k,e=>Gi args r (k+1) (yY e p (RE args k))
def mE (ds:List Nat):Value:=.tuple (ds.map fun (D:Nat)=>Value.int .u64 (D:Int)).toArray
def agN:Value→Nat
 | .int _ n=>n.toNat
 | _=>0
def JQ:Value→List Nat
 | .tuple vs=>vs.toList.map agN
 | _=>[]
theorem Gj (ds:List Nat):JQ (mE ds)=ds:=by
 show (ds.map fun (D:Nat)=>Value.int .u64 (D:Int)).map agN=ds
 rw [List.map_map]
 conv=>rhs; rw [← List.map_id ds]
 exact List.map_congr_left λ D _=>by simp [agN]
structure CG (P:Program) (fv:Value) (np:Nat) (w:World) (round:List Value→World→(World→(World→Prop)→Prop)→(Option Code→World→Prop)→Prop) (after:Option Code→Nat→World→Prop):Prop where
 ex:∃ gf cap,fv = .func (.func gf) #[] cap∧Plain P gf∧∀ L0:Loop,L0.state = .ready→L0.pending=none→
  (∀ (args:List Value) (W:World) (K:Value→World→Prop),args.length=np→W.heap[w.heap.size+1]? = some (.loop L0)→
   round args W (λ w1 k=>w1.heap[w.heap.size+1]? = some (.loop L0)∧k (w1.putObj (w.heap.size+1) (.loop {L0 with state:=.busy})))
    (λ j W'=>W'.heap[w.heap.size+1]? = some (.loop {L0 with state:=.busy})∧K (.bool j.isNone) (W'.putObj (w.heap.size+1) (.loop {L0 with state:=if j.isNone then .ready else .done,pending:=j})))→
   YieldAt (FO none) 0 P (w.heap.size+1) args.toArray W (pU K))→
  Calls P gf (#[.func (.yield (w.heap.size+1)) #[] #[]]++cap) ((w.alloc (.deferred (some []))).alloc (.loop L0))
   (pU λ _ W2=>∃ st j,st≠.busy∧W2.heap[w.heap.size+1]? = some (.loop {L0 with state:=st,pending:=j})∧after j w.heap.size (W2.putObj (w.heap.size+1) (.loop {L0 with state:=.exhausted,pending:=j})))
abbrev dL:=Nat→PT
def JR (pl:dL):Code→Bool
 | .region id _ true=>(pl id).many
 | .block _ c=>JR pl c
 | .seq a b=>JR pl a || JR pl b
 | .cond _ a b=>JR pl a || JR pl b
 | _=>false
def drew (w:World):World:={w with drawn:=w.drawn+1}
def D (P:Program) (n:Nat) (pl:dL) (rl:Nat):Code→List (Nat × Nat)→Nat→Cm→List Nat→Env→World→Prop
 | .skip,_,_,Q,ds,e,w=>Q .normal ds e w
 | .ret,_,_,Q,ds,e,w=>Q .ret ds e w
 | .exit id,_,_,Q,ds,e,w=>Q (.exit id) ds e w
 | .region _ ops false,_,_,Q,ds,e,w=>DR P n ops.toList (ops.toList.map λ o=>(o,[])) (Q .normal ds) [] e w
 | .region id ops true,_,_,Q,ds,e,w=>
  bif ops.toList.all (Di n) && (Ge ops.toList (Gh ops.toList) && Pc P ops.toList (Gh ops.toList) false ops.toList.length 0 (pl id)) then
   DT P n ops.toList (pl id) (Q .normal ds) [] e (drew w)
  else False
 | .seq a b,X,lo,Q,ds,e,w=>
  bif Nat.ble (YR a) 1 && !JR pl a then D P n pl rl a X (li rl b X lo) (rX (D P n pl rl b X lo Q) Q) ds e w
  else bif fu a then zh (n::gb (Nat.land (iw a) (li rl b X lo)) n 0)
   (λ K=>D P n pl rl a X (li rl b X lo) (rX (λ ds e w=>K (yY e n (mE ds)) w) Q) ds e w)
   (λ bs w'=>∀ dead,D P n pl rl b X lo Q (JQ (HG n bs undef)) (FC e (iw a) bs.tail dead) w')
  else zh (gb (Nat.land (iw a) (li rl b X lo)) n 0)
   (λ K=>D P n pl rl a X (li rl b X lo) (rX (λ _ e w=>K e w) Q) ds e w)
   (λ bs w'=>∀ dead,D P n pl rl b X lo Q ds (FC e (iw a) bs dead) w')
 | .cond c a b,X,lo,Q,ds,e,w=>xR (ev e c) (D P n pl rl a X lo Q ds e w) (D P n pl rl b X lo Q ds e w)
 | .block id c,X,lo,Q,ds,e,w=>D P n pl rl c ((id,lo)::X) lo (TG id Q) ds e w
 | .loop c,X,_,Q,ds,e,w=>
  bif fu c then zi (n::gb (Nat.land (iw c) (li rl c X (li rl c X 0))) n 0)
   (λ K bs w=>∀ dead,D P n pl rl c X (li rl c X (li rl c X 0)) (rX (λ ds e w=>K (yY e n (mE ds)) w) Q) (JQ (HG n bs undef)) (FC e (iw c) bs.tail dead) w) (yY e n (mE ds)) w
  else zi (gb (Nat.land (iw c) (li rl c X (li rl c X 0))) n 0)
   (λ K bs w=>∀ dead,D P n pl rl c X (li rl c X (li rl c X 0)) (rX (λ _ e w=>K e w) Q) ds (FC e (iw c) bs dead) w) e w
 | .rangeFunc g ps asx bd,_,_,Q,ds,e,w=>
  bif ps.toList.all (λ p=>Nat.blt p n) && (!fu asx && !fu bd) then
   CG P (ev e g) ps.toList.length w
    (λ args W B K=>D P n pl 0 asx [] (li 0 bd [] 0) (rX (λ ds1 e1 w1=>B w1 λ w2=>D P n pl 0 bd [] 0 (TH K) ds1 e1 w2) (λ _ _ _ _=>False)) [] (Gi args ps.toList 0 e) W)
    (aft (λ D w=>Q .normal (D::ds) e w) (λ D w=>Q .ret (D::ds) e w) (bif outs [] bd then (λ id D w=>Q (.exit id) (D::ds) e w) else λ _ _ _=>False))
  else False
 | _,_,_,_,_,_,_=>False
theorem TI {a b i:Nat}:bit (Nat.lor a b) i=(bit a i || bit b i):=Nat.testBit_or ..
theorem TJ {m d i:Nat}:bit (agM m d) i=(bit m i || decide (i=d)):=by
 show (m ||| 1 <<< d).testBit i=_
 rw [Nat.testBit_or,Nat.one_shiftLeft,Nat.testBit_two_pow]
 unfold bit
 congr 1
 simp [eq_comm]
theorem MQ {l:List Nat} {i:Nat}:bit (yp l) i=true↔i∈l:=by
 induction l with
 | nil=>simp [yp,bit]
 | cons d r ih=>simp only [yp,TJ,Bool.or_eq_true,ih,decide_eq_true_eq,List.mem_cons]; exact or_comm
theorem MR {l:List Nat} {e:Env} {i:Nat}:HG i (je l e) (e i)=e i:=by
 induction l with
 | nil=>rfl
 | cons a r ih=>
  show (bif Nat.beq a i then e a else HG i (je r e) (e i))=e i
  by_cases h:a=i
  ·rw [h,nN]; rfl
  ·rw [A3 h]; exact ih
theorem wV {e e':Env} {M:Nat} {l:List Nat} (h:∀ i,bit M i=false→e' i=e i):FC e M (je l e') e'=e':=by
 funext i
 unfold FC
 cases hb:bit M i with
 | true=>simp only [cond_true]; exact MR
 | false=>simp only [cond_false]; exact (h i hb).symm
theorem JS {m:Nat}:∀ (f i k:Nat),k∈gb m f i→k<i+f:=by
 intro f
 induction f with
 | zero=>intro i k h; cases h
 | succ f ih=>
  intro i k h
  unfold gb at h
  cases hb:bit m i with
  | true=>
   rw [hb] at h
   rcases List.mem_cons.1 h with rfl | h
   ·omega
   ·have:=ih (i+1) k h; omega
  | false=>rw [hb] at h; have:=ih (i+1) k h; omega
theorem MS {l:List Nat} {n:Nat} {v:Value} {e:Env} (h:∀ k∈l,k<n):je l (yY e n v)=je l e:=
 List.map_congr_left λ k hk=>by rw [nL _ _ (Nat.ne_of_lt (h k hk))]
theorem Gk {l:List Nat} {n:Nat} {ds:List Nat} {e:Env} (h:∀ k∈l,k<n):je (n::l) (yY e n (mE ds))=(n,mE ds)::je l e:=by
 show (n,yY e n (mE ds) n)::je l (yY e n (mE ds))=_
 rw [mS,MS h]
theorem Pg {m n:Nat}:∀ k∈gb m n 0,k<n:=λ k hk=>by have:=JS n 0 k hk; omega
def xS (n:Nat) (M:Nat) (b:Bool) (ds:List Nat) (e:Env) (Q:Cm):Exit→Act→World→Prop:=
 λ x a' w'=>∃ qi e',iV qi n e' a'∧(∀ i,bit M i=false→e' i=e i)∧(b=false→qi=ds)∧Q x qi e' w'
theorem least {p:Nat→Prop} (h:∃ m,p m):∃ m,p m∧∀ k,p k→m≤k:=by
 obtain ⟨m,hm⟩:=h
 induction m using Nat.strongRecOn with
 | _ m ih=>
  by_cases hk:∃ k,k<m∧p k
  ·obtain ⟨k,Th,Fu⟩:=hk; exact ih k Th Fu
  ·exact ⟨m,hm,λ k hp=>Nat.le_of_not_lt λ mD=>hk ⟨k,mD,hp⟩⟩
theorem HH {n:Nat} {args:List Value}:∀ (ps:List Nat) (k:Nat) (e:Env) (a:Act),(∀ p∈ps,p<n)→iV [] n e a→k+ps.length≤args.length→
  iV [] n (Gi args ps k e) {a with tmps:=(ps.zip (args.drop k)).foldl (λ t (q:Nat × Value)=>t.setIfInBounds q.1 q.2) a.tmps}:=by
 intro ps
 induction ps with
 | nil=>intro k e a _ ha _; simpa [Gi] using ha
 | cons p ps ih=>
  intro k e a hp ha hk
  have mD:k<args.length:=by simp at hk; omega
  have hd:args.drop k=RE args k::args.drop (k+1):=by
   rw [List.drop_eq_getElem_cons mD]
   congr 1
   clear ih ha hk hp
   induction args generalizing k with
   | nil=>simp at mD
   | cons v r YN=>cases k with
    | zero=>rfl
    | succ k=>exact YN k (by simpa using mD)
  rw [hd]
  have h1:=ha.put (d:=some p) (λ k hk=>by cases hk; exact hp p List.mem_cons_self) (RE args k)
  exact ih (k+1) _ _ (λ q hq=>hp q (List.mem_cons_of_mem _ hq)) h1 (by simp at hk ⊢; omega)
theorem TK {P:Program} {n:Nat} {pl:dL} {g:Operand} {ps:Array Tmp} {asx bd:Code}
  (ihA:∀ (r:Option Nat) (rl:Nat) (X:List (Nat × Nat)) (lo:Nat) (Q:Cm) (ds:List Nat) (e:Env) (a:Act) (w:World),
   (r=none∨fu asx=false)→iV ds n e a→D P n pl rl asx X lo Q ds e w→asx.wpIn (FO r) 0 P (xS n (iw asx) (fu asx) ds e Q) a w)
  (ihB:∀ (r:Option Nat) (rl:Nat) (X:List (Nat × Nat)) (lo:Nat) (Q:Cm) (ds:List Nat) (e:Env) (a:Act) (w:World),
   (r=none∨fu bd=false)→iV ds n e a→D P n pl rl bd X lo Q ds e w→bd.wpIn (FO r) 0 P (xS n (iw bd) (fu bd) ds e Q) a w)
  (rl:Nat) (X:List (Nat × Nat)) (lo:Nat) (Q:Cm) (ds:List Nat) (e:Env) (a:Act) (w:World) (ha:iV ds n e a) (h:D P n pl rl (.rangeFunc g ps asx bd) X lo Q ds e w) :
  (Code.rangeFunc g ps asx bd).wpIn (FO none) 0 P (xS n 0 true ds e Q) a w:=by
 have h':(bif ps.toList.all (λ p=>Nat.blt p n) && (!fu asx && !fu bd) then
  CG P (ev e g) ps.toList.length w
   (λ args W B K=>D P n pl 0 asx [] (li 0 bd [] 0) (rX (λ ds1 e1 w1=>B w1 λ w2=>D P n pl 0 bd [] 0 (TH K) ds1 e1 w2) (λ _ _ _ _=>False)) [] (Gi args ps.toList 0 e) W)
   (aft (λ D w=>Q .normal (D::ds) e w) (λ D w=>Q .ret (D::ds) e w) (bif outs [] bd then (λ id D w=>Q (.exit id) (D::ds) e w) else λ _ _ _=>False))
  else False):=h
 cases hc:(ps.toList.all (λ p=>Nat.blt p n) && (!fu asx && !fu bd)) with
 | false=>rw [hc] at h'; exact h'.elim
 | true=>
  rw [hc] at h'
  simp only [cond_true] at h'
  simp only [Bool.and_eq_true,Bool.not_eq_true'] at hc
  obtain ⟨hps,hA,hB⟩:=hc
  have aut:∀ p∈ps.toList,p<n:=λ p hp=>Nat.blt_eq▸List.all_eq_true.1 hps p hp
  obtain ⟨gf,cap,hfv,vj,JT⟩:=h'.ex
  refine wpIn_rangeFunc λ fn _=>?_
  let L0:Loop:={state:=.ready,pending:=none,fn,tmps:=a.tmps,params:=ps,assign:=asx,body:=bd,defers:=w.heap.size}
  have hY:=JT L0 rfl rfl (λ args W K hlen hl MT=>?_)
  ·have hC:=hY.mono (R':=rangePost (FO none) 0 P (w.heap.size+1) (xS n 0 true ds e Q) {a with defers:=[{target:=.collected w.heap.size,args:=#[]}]++a.defers}) (λ x w3 hx=>?_)
   ·have hC1:=(ym (r:=none) (n:=0)).2 hC
    refine ⟨w.heap.size+1,[{target:=.collected w.heap.size,args:=#[]}],(w.alloc (.deferred (some []))).alloc (.loop L0),
     {target:=.fn (.func gf) cap,args:=#[.func (.yield (w.heap.size+1)) #[] #[]]},(w.alloc (.deferred (some []))).alloc (.loop L0),gf,#[.func (.yield (w.heap.size+1)) #[] #[]]++cap,
     (w.alloc (.deferred (some []))).alloc (.loop L0),run_enterLoop_outer ..,?_,λ _ _=>trivial,?_,De,?_⟩
    rotate_left 2
    ·exact hC1
    ·have hg:a.eval g = .func (.func gf) #[] cap:=by rw [ha.eval]; exact hfv
     simp only [resolve,hg]
     simp [go_sem]
    ·show (callFunc gf (#[.func (.yield (w.heap.size+1)) #[] #[]]++cap)).run P _=_
     exact za vj _ _
   ·
    obtain ⟨v,rfl,st,j,gn,hl3,hk⟩:=hx
    refine ⟨j,_,run_endLoop hl3 (by simpa using gn),?_⟩
    have hag:iV (w.heap.size::ds) n e {a with defers:=[{target:=.collected w.heap.size,args:=#[]}]++a.defers}:=⟨by rw [ha.defers]; rfl,ha.size,ha.get⟩
    cases j with
    | none=>exact ⟨_,e,hag,λ _ _=>rfl,λ hh=>(by cases hh),hk⟩
    | some c=>
     cases c with
     | ret=>exact wpIn_ret ⟨_,e,hag,λ _ _=>rfl,λ hh=>(by cases hh),hk⟩
     | exit id=>
       have yo:(bif outs [] bd then (λ id D w=>Q (.exit id) (D::ds) e w) else λ _ _ _=>False:Nat→Nat→World→Prop) id w.heap.size _:=hk
       cases ho:outs [] bd with
       | true=>rw [ho] at yo; exact wpIn_exit ⟨_,e,hag,λ _ _=>rfl,λ hh=>(by cases hh),yo⟩
       | false=>rw [ho] at yo; exact yo.elim
     | _=>exact hk.elim
  ·
   have mD:w.heap.size+1<W.heap.size:=(Array.getElem?_eq_some_iff.1 hl).1
   refine ⟨fn,_,asx,bd,run_yield hl (by simp [hlen,L0]),roundIn_of_wpIn trivial ?_⟩
   have hag:iV [] n (Gi args ps.toList 0 e) {tmps:=(ps.zip args.toArray).foldl (λ t (q:Nat × Value)=>t.setIfInBounds q.1 q.2) a.tmps,defers:=[]}:=by
    have h0:iV [] n e {tmps:=a.tmps,defers:=[]}:=⟨rfl,ha.size,ha.get⟩
    have:=HH ps.toList 0 e _ aut h0 (by simpa using Nat.le_of_eq hlen.symm)
    have e1:(ps.zip args.toArray).foldl (λ t (q:Nat × Value)=>t.setIfInBounds q.1 q.2) a.tmps=(ps.toList.zip (args.drop 0)).foldl (λ t (q:Nat × Value)=>t.setIfInBounds q.1 q.2) a.tmps:=by
     rw [← Array.foldl_toList,Array.toList_zip]; simp
    rw [e1]; exact this
   refine wpIn_mono (ihA (some (w.heap.size+1)) 0 [] _ _ [] _ _ W (.inr hA) hag MT) λ x a1 w1 hp=>?_
   obtain ⟨ds1,e1,ha1,_,hd1,hq⟩:=hp
   cases x with
   | normal=>
    obtain ⟨hl1,hq⟩:=hq
    refine ⟨_,run_beginRound hl1 rfl,?_⟩
    refine wpIn_mono (ihB (some (w.heap.size+1)) 0 [] _ _ ds1 e1 a1 _ (.inr hB) ha1 hq) λ x a2 w2 hp=>?_
    obtain ⟨ds2,e2,Yt,_,_,hq⟩:=hp
    cases x with
    | normal=>obtain ⟨A6,hk⟩:=hq; exact ⟨_,_,run_endRound none A6,_,rfl,hk⟩
    | ret=>obtain ⟨A6,hk⟩:=hq; exact ⟨_,_,run_endRound (some .ret) A6,_,rfl,hk⟩
    | exit id=>obtain ⟨A6,hk⟩:=hq; exact ⟨_,_,run_endRound (some (.exit id)) A6,_,rfl,hk⟩
    | _=>exact hq.elim
   | _=>exact hq.elim
theorem YS {P:Program} {n:Nat} {pl:dL} (hm:P.follows .mixedOrders=true) :
  ∀ (c:Code) (r:Option Nat) (rl:Nat) (X:List (Nat × Nat)) (lo:Nat) (Q:Cm) (ds:List Nat) (e:Env) (a:Act) (w:World),
   (r=none∨fu c=false)→iV ds n e a→D P n pl rl c X lo Q ds e w→c.wpIn (FO r) 0 P (xS n (iw c) (fu c) ds e Q) a w:=by
 intro c
 induction c with
 | skip=>intro r rl X lo Q ds e a w _ ha h; exact wpIn_skip ⟨ds,e,ha,λ _ _=>rfl,λ _=>rfl,h⟩
 | ret=>intro r rl X lo Q ds e a w _ ha h; exact wpIn_ret ⟨ds,e,ha,λ _ _=>rfl,λ _=>rfl,h⟩
 | exit id=>intro r rl X lo Q ds e a w _ ha h; exact wpIn_exit ⟨ds,e,ha,λ _ _=>rfl,λ _=>rfl,h⟩
 | region id ops draw=>
  intro r rl X lo Q ds e a w _ ha h
  have hQ:∀ (e':Env) (a':Act) (w':World),iV ds n e' a'→(∀ k,k ∉ wr ops.toList→e' k=e k)→Q .normal ds e' w'→xS n (iw (.region id ops draw)) (fu (.region id ops draw)) ds e Q .normal a' w':=
   λ e' a' w' BU hf hq=>by
    refine ⟨ds,e',BU,λ i hi=>hf i λ JO=>?_,λ _=>rfl,hq⟩
    have h1:bit (yp (wr ops.toList)) i=true:=MQ.2 JO
    have h2:bit (yp (wr ops.toList)) i=false:=hi
    rw [h1] at h2; cases h2
  cases draw with
  | false=>
   have:=DR.region (r:=r) (id:=id) ha hQ (show DR P n ops.toList (ops.toList.map λ o=>(o,[])) (Q .normal ds) [] e w from h)
   simpa using this
  | true=>
   have h':(bif ops.toList.all (Di n) && (Ge ops.toList (Gh ops.toList) && Pc P ops.toList (Gh ops.toList) false ops.toList.length 0 (pl id)) then
    DT P n ops.toList (pl id) (Q .normal ds) [] e (drew w) else False):=h
   cases hc:(ops.toList.all (Di n) && (Ge ops.toList (Gh ops.toList) && Pc P ops.toList (Gh ops.toList) false ops.toList.length 0 (pl id))) with
   | false=>rw [hc] at h'; exact h'.elim
   | true=>
    rw [hc] at h'
    simp only [Bool.and_eq_true] at hc
    obtain ⟨h2,h3,h4⟩:=hc
    have hd:∀ d∈wr ops.toList,d<n:=λ d hd=>by
     obtain ⟨o,ho,hod⟩:=List.mem_filterMap.1 hd
     have:=List.all_eq_true.1 h2 o ho
     unfold Di at this
     rw [hod] at this
     exact Nat.blt_eq▸this
    have hz:(bit 0)=λ _=>false:=by funext i; simp [bit]
    have hws:=(YM (Q:=Q .normal ds) h3 (pl id) ops.toList.length 0 [] [] e (drew w) (λ i o hi=>by simp [bit] at hi) (by constructor <;> simp) (jd.nil e) h').1 h4
    rw [hz] at hws
    have:=WS.region (r:=r) (id:=id) hm hd ha hQ hws
    simpa using this
 | seq c1 c2 ih1 YN=>
  intro r rl X lo Q ds e a w hr ha h
  have hr1:r=none∨fu c1=false:=hr.imp id λ h=>by have:(fu c1 || fu c2)=false:=h; rw [Bool.or_eq_false_iff] at this; exact this.1
  have Gl:r=none∨fu c2=false:=hr.imp id λ h=>by have:(fu c1 || fu c2)=false:=h; rw [Bool.or_eq_false_iff] at this; exact this.2
  have key:∀ (K:List Nat→Env→World→Prop),D P n pl rl c1 X (li rl c2 X lo) (rX K Q) ds e w→
    (∀ qi e' a' w',iV qi n e' a'→(∀ i,bit (iw c1) i=false→e' i=e i)→(fu c1=false→qi=ds)→K qi e' w'→c2.wpIn (FO r) 0 P (xS n (iw c2) (fu c2) qi e' Q) a' w')→
    (Code.seq c1 c2).wpIn (FO r) 0 P (xS n (iw (.seq c1 c2)) (fu (.seq c1 c2)) ds e Q) a w:=by
   intro K hK hk
   refine wpIn_seq (wpIn_mono (ih1 r rl X _ _ ds e a w hr1 ha hK) λ x a' w' hp=>?_)
   obtain ⟨qi,e',BU,hf,hds,hq⟩:=hp
   have hor:∀ i,bit (iw (.seq c1 c2)) i=false→bit (iw c1) i=false∧bit (iw c2) i=false:=λ i hi=>by
    have:bit (Nat.lor (iw c1) (iw c2)) i=false:=hi
    rw [TI,Bool.or_eq_false_iff] at this; exact this
   have hrf:fu (.seq c1 c2)=false→fu c1=false∧fu c2=false:=λ hh=>by
    have:(fu c1 || fu c2)=false:=hh
    rw [Bool.or_eq_false_iff] at this; exact this
   cases x with
   | normal=>
    refine wpIn_mono (hk qi e' a' w' BU hf hds hq) λ x2 a2 w2 YO=>?_
    obtain ⟨ds2,e2,Yt,RF,agO,hq2⟩:=YO
    exact ⟨ds2,e2,Yt,λ i hi=>(RF i (hor i hi).2).trans (hf i (hor i hi).1),λ hh=>(agO (hrf hh).2).trans (hds (hrf hh).1),hq2⟩
   | _=>exact ⟨qi,e',BU,λ i hi=>hf i (hor i hi).1,λ hh=>hds (hrf hh).1,hq⟩
  have h':(bif Nat.ble (YR c1) 1 && !JR pl c1 then D P n pl rl c1 X (li rl c2 X lo) (rX (D P n pl rl c2 X lo Q) Q) ds e w
   else bif fu c1 then zh (n::gb (Nat.land (iw c1) (li rl c2 X lo)) n 0)
    (λ K=>D P n pl rl c1 X (li rl c2 X lo) (rX (λ ds e w=>K (yY e n (mE ds)) w) Q) ds e w)
    (λ bs w'=>∀ dead,D P n pl rl c2 X lo Q (JQ (HG n bs undef)) (FC e (iw c1) bs.tail dead) w')
   else zh (gb (Nat.land (iw c1) (li rl c2 X lo)) n 0)
    (λ K=>D P n pl rl c1 X (li rl c2 X lo) (rX (λ _ e w=>K e w) Q) ds e w)
    (λ bs w'=>∀ dead,D P n pl rl c2 X lo Q ds (FC e (iw c1) bs dead) w')):=h
  cases hc:(Nat.ble (YR c1) 1 && !JR pl c1) with
  | true=>
   rw [hc] at h'
   exact key _ h' λ qi e' a' w' BU _ _ hk=>YN r rl X lo Q qi e' a' w' Gl BU hk
  | false=>
   rw [hc] at h'
   simp only [cond_false] at h'
   cases YT:fu c1 with
   | false=>
    rw [YT] at h'
    simp only [cond_false] at h'
    obtain ⟨I,h1,h2⟩:=zh.spec h'
    refine key _ h1 λ qi e' a' w' BU hf hds hk=>?_
    have:=h2 e' w' hk e'
    rw [wV hf] at this
    rw [hds YT] at BU ⊢
    exact YN r rl X lo Q ds e' a' w' Gl BU this
   | true=>
    rw [YT] at h'
    simp only [cond_true] at h'
    obtain ⟨I,h1,h2⟩:=zh.spec h'
    refine key _ h1 λ qi e' a' w' BU hf hds hk=>?_
    have:=h2 (yY e' n (mE qi)) w' hk e'
    rw [Gk Pg] at this
    rw [show ((n,mE qi)::je (gb (Nat.land (iw c1) (li rl c2 X lo)) n 0) e').tail=je (gb (Nat.land (iw c1) (li rl c2 X lo)) n 0) e' from rfl,wV hf,
     show HG n ((n,mE qi)::je (gb (Nat.land (iw c1) (li rl c2 X lo)) n 0) e') undef=mE qi by show (bif Nat.beq n n then mE qi else _)=_; rw [nN]; rfl,Gj] at this
    exact YN r rl X lo Q qi e' a' w' Gl BU this
 | cond c c1 c2 ih1 YN=>
  intro r rl X lo Q ds e a w hr ha h
  obtain ⟨t,ht,hA,hB⟩:=(show xR (ev e c) (D P n pl rl c1 X lo Q ds e w) (D P n pl rl c2 X lo Q ds e w) from h).ex
  have hor:∀ i,bit (iw (.cond c c1 c2)) i=false→bit (iw c1) i=false∧bit (iw c2) i=false:=λ i hi=>by
   have:bit (Nat.lor (iw c1) (iw c2)) i=false:=hi
   rw [TI,Bool.or_eq_false_iff] at this; exact this
  have hrf:fu (.cond c c1 c2)=false→fu c1=false∧fu c2=false:=λ hh=>by
   have:(fu c1 || fu c2)=false:=hh
   rw [Bool.or_eq_false_iff] at this; exact this
  refine wpIn_cond_split (t:=t) (by rw [ha.eval]; exact ht) (λ h1=>?_) (λ h1=>?_)
  ·exact wpIn_mono (ih1 r rl X lo Q ds e a w (hr.imp id λ h=>(hrf h).1) ha (hA h1)) λ x a' w' ⟨qi,e',BU,hf,hds,hq⟩=>⟨qi,e',BU,λ i hi=>hf i (hor i hi).1,λ hh=>hds (hrf hh).1,hq⟩
  ·exact wpIn_mono (YN r rl X lo Q ds e a w (hr.imp id λ h=>(hrf h).2) ha (hB h1)) λ x a' w' ⟨qi,e',BU,hf,hds,hq⟩=>⟨qi,e',BU,λ i hi=>hf i (hor i hi).2,λ hh=>hds (hrf hh).2,hq⟩
 | block id c ih=>
  intro r rl X lo Q ds e a w hr ha h
  refine wpIn_block (wpIn_mono (ih r rl _ _ _ ds e a w hr ha h) λ x a' w' hp=>?_)
  obtain ⟨qi,e',BU,hf,hds,hq⟩:=hp
  cases x with
  | exit k=>
   simp only [Exit.inBlock]
   simp only [TG] at hq
   by_cases hk:k=id
   ·subst hk
    rw [nN] at hq
    rw [if_pos rfl]
    exact ⟨qi,e',BU,hf,hds,hq⟩
   ·rw [A3 hk] at hq
    rw [if_neg hk]
    exact ⟨qi,e',BU,hf,hds,hq⟩
  | _=>exact ⟨qi,e',BU,hf,hds,hq⟩
 | loop c ih=>
  intro r rl X lo Q ds e a w hr ha h
  have key:∀ (V:List Nat→Env→List (Nat × Value)) (I:Nat→List (Nat × Value)→World→Prop),(∃ m,I m (V ds e) w)→
    (∀ m qi e' w',(∀ i,bit (iw c) i=false→e' i=e i)→(fu c=false→qi=ds)→I m (V qi e') w'→D P n pl rl c X (li rl c X (li rl c X 0)) (rX (λ ds2 e2 w2=>∃ m',m'<m∧I m' (V ds2 e2) w2) Q) qi e' w')→
    (Code.loop c).wpIn (FO r) 0 P (xS n (iw (.loop c)) (fu (.loop c)) ds e Q) a w:=by
   intro V I ⟨m,h1⟩ h2
   let Inv:Nat→Act→World→Prop:=λ m a' w'=>∃ qi e',iV qi n e' a'∧(∀ i,bit (iw c) i=false→e' i=e i)∧(fu c=false→qi=ds)∧I m (V qi e') w'
   have body:∀ m a' w',Inv m a' w'→c.wpIn (FO r) 0 P (Exit.then (λ a2 w2=>∃ m',m'<m∧Inv m' a2 w2) (xS n (iw (.loop c)) (fu (.loop c)) ds e Q)) a' w':=by
    rintro m a' w' ⟨qi,e',BU,hf,hds,hi⟩
    refine wpIn_mono (ih r rl X _ _ qi e' a' w' hr BU (h2 m qi e' w' hf hds hi)) λ x a2 w2 hp=>?_
    obtain ⟨ds2,e2,Yt,RF,agO,hq⟩:=hp
    have hfe:∀ i,bit (iw c) i=false→e2 i=e i:=λ i hi=>(RF i hi).trans (hf i hi)
    have amC:fu c=false→ds2=ds:=λ hh=>(agO hh).trans (hds hh)
    cases x with
    | normal=>obtain ⟨m',MF,MU⟩:=hq; exact ⟨m',MF,ds2,e2,Yt,hfe,amC,MU⟩
    | _=>exact ⟨ds2,e2,Yt,hfe,amC,hq⟩
   classical
   let J:Act→World→Prop:=λ a' w'=>∃ m,Inv m a' w'
   let μ:Act→World→Nat:=λ a' w'=>if h:∃ m,Inv m a' w' then Classical.choose (least h) else 0
   have hμ:∀ a' w',J a' w'→Inv (μ a' w') a' w'∧∀ k,Inv k a' w'→μ a' w'≤k:=λ a' w' hj=>by
    have e1:μ a' w'=Classical.choose (least hj):=dif_pos hj
    rw [e1]
    exact Classical.choose_spec (least hj)
   refine wpIn_loop J μ ⟨m,ds,e,ha,λ _ _=>rfl,λ _=>rfl,h1⟩ λ a' w' hj=>?_
   refine wpIn_mono (body _ a' w' (hμ a' w' hj).1) λ x a2 w2 hp=>?_
   cases x with
   | normal=>
    obtain ⟨m',MF,MU⟩:=hp
    exact ⟨⟨m',MU⟩,Nat.lt_of_le_of_lt ((hμ a2 w2 ⟨m',MU⟩).2 m' MU) MF⟩
   | _=>exact hp
  have h':(bif fu c then zi (n::gb (Nat.land (iw c) (li rl c X (li rl c X 0))) n 0)
    (λ K bs w=>∀ dead,D P n pl rl c X (li rl c X (li rl c X 0)) (rX (λ ds e w=>K (yY e n (mE ds)) w) Q) (JQ (HG n bs undef)) (FC e (iw c) bs.tail dead) w) (yY e n (mE ds)) w
   else zi (gb (Nat.land (iw c) (li rl c X (li rl c X 0))) n 0)
    (λ K bs w=>∀ dead,D P n pl rl c X (li rl c X (li rl c X 0)) (rX (λ _ e w=>K e w) Q) ds (FC e (iw c) bs dead) w) e w):=h
  cases hc:fu c with
  | false=>
   rw [hc] at h'
   simp only [cond_false] at h'
   obtain ⟨I,h1,h2⟩:=zi.spec h'
   rw [show fu (.loop c)=fu c from rfl] at key
   have:=key (λ _ e=>je (gb (Nat.land (iw c) (li rl c X (li rl c X 0))) n 0) e) I h1 λ m qi e' w' hf hds hi=>by
    have:=h2 m e' w' hi e'
    rw [wV hf] at this
    rw [hds hc]
    exact this
   exact this
  | true=>
   rw [hc] at h'
   simp only [cond_true] at h'
   obtain ⟨I,h1,h2⟩:=zi.spec h'
   refine key (λ ds e=>je (n::gb (Nat.land (iw c) (li rl c X (li rl c X 0))) n 0) (yY e n (mE ds))) I h1 λ m qi e' w' hf hds hi=>?_
   have:=h2 m (yY e' n (mE qi)) w' hi e'
   rw [Gk Pg] at this
   rw [show ((n,mE qi)::je (gb (Nat.land (iw c) (li rl c X (li rl c X 0))) n 0) e').tail=je (gb (Nat.land (iw c) (li rl c X (li rl c X 0))) n 0) e' from rfl,wV hf,
    show HG n ((n,mE qi)::je (gb (Nat.land (iw c) (li rl c X (li rl c X 0))) n 0) e') undef=mE qi by show (bif Nat.beq n n then mE qi else _)=_; rw [nN]; rfl,Gj] at this
   exact this
 | rangeFunc g ps asx bd ihA ihB=>
  intro r rl X lo Q ds e a w hr ha h
  have hr0:r=none:=hr.resolve_right (by simp [fu])
  subst hr0
  exact TK ihA ihB rl X lo Q ds e a w ha h
 | _=>intro r rl X lo Q ds e a w _ ha h; exact h.elim
def MV (P:Program):List ResultVar→Env→(List Value→Prop)→World→Prop
 | [],_,K,_=>K []
 | .tmp t::r,e,K,w=>MV P r e (λ vs=>K (e t::vs)) w
 | .cell a t::r,e,K,w=>Df P (Instr.loadAt t (e a)) w (λ v=>MV P r e (λ vs=>K (v::vs)) w)
def TL:List Value→Value
 | [v]=>v
 | vs=>.tuple vs.toArray
def nO:List Nat→World→(World→Prop)→Prop
 | [],w,K=>K w
 | D::r,w,K=>w.heap[D]? = some (.deferred (some []))∧nO r (w.putObj D (.deferred none)) K
def TM (P:Program) (rs:List ResultVar) (K:Value→World→Prop):Cm
 | .normal,ds,e,w=>nO ds w λ w=>MV P rs e (λ vs=>K (TL vs) w) w
 | .ret,ds,e,w=>nO ds w λ w=>MV P rs e (λ vs=>K (TL vs) w) w
 | _,_,_,_=>False
def FD:List Value→Env
 | [],_=>undef
 | v::_,0=>v
 | _::r,n+1=>FD r n
theorem TN (l:List Value) (i:Nat):FD l i=l.getD i undef:=by
 induction l generalizing i with
 | nil=>simp [FD]
 | cons v r ih=>cases i with
  | zero=>rfl
  | succ i=>simp [FD,ih]
def RG (tmps:Array Value):ResultVar→Sem Value
 | .tmp t=>pure (tmps.getD t undef)
 | .cell a t=>do loadVar t (← asAddr (tmps.getD a undef))
theorem HI {P:Program} {t:TypeId} {v u:Value} {w:World} (h:(Instr.loadAt t v).run P w = .ok u w):(do loadVar t (← asAddr v):Sem Value).run P w = .ok u w:=by
 cases v with
 | pointer a=>cases a with
  | none => exact absurd (show (Result.halt (.stuck "an address expected (no nilCheck in front?)") w : Result Value) = .ok u w from h) (by simp)
  | some a=>exact h
 | _ => exact absurd (show (Result.halt (.stuck "an address expected (no nilCheck in front?)") w : Result Value) = .ok u w from h) (by simp)
theorem TO {P:Program} {ds:List Nat} {n:Nat} {e:Env} {a:Act} (ha:iV ds n e a):∀ (rs:List ResultVar) (K:List Value→Prop) (w:World),MV P rs e K w→
  ∃ vs,(rs.mapM (RG a.tmps)).run P w = .ok vs w∧K vs:=by
 intro rs
 induction rs with
 | nil=>intro K w h; exact ⟨[],rfl,h⟩
 | cons r rs ih=>
  intro K w h
  have step:∀ v,(RG a.tmps r).run P w = .ok v w→MV P rs e (λ vs=>K (v::vs)) w→∃ vs,((r::rs).mapM (RG a.tmps)).run P w = .ok vs w∧K vs:=by
   intro v hv hr
   obtain ⟨vs,h1,h2⟩:=ih _ w hr
   refine ⟨v::vs,?_,h2⟩
   rw [List.mapM_cons,dH hv,dH h1]
   rfl
  cases r with
  | tmp t=>exact step (e t) (by rw [← ha.get t]; rfl) h
  | cell c t=>
   obtain ⟨v,hv,hr⟩:=h.ex
   refine step v ?_ hr
   show (do loadVar t (← asAddr (a.tmps.getD c undef)):Sem Value).run P w=_
   rw [ha.get c]
   exact HI hv
theorem JU {P:Program} {fn:Func} {rs:List ResultVar} (hr:fn.results=rs.toArray) {tmps:Array Value} {w:World} {vs:List Value}
  (h:(rs.mapM (RG tmps)).run P w = .ok vs w):(results fn tmps).run P w = .ok (TL vs) w:=by
 have e:results fn tmps=(rs.toArray.mapM (RG tmps) >>= λ vs=>pure (if h:vs.size=1 then vs[0] else .tuple vs)):=by
  unfold results; rw [hr]; rfl
 rw [e,List.mapM_toArray]
 have h1:(Functor.map (λ a=>a.toArray) (rs.mapM (RG tmps))).run P w = .ok vs.toArray w:=by
  rw [← bind_pure_comp,dH h]; rfl
 rw [dH h1]
 show Result.ok _ w=Result.ok _ w
 congr 1
 match vs with
 | []=>rfl
 | [v]=>rfl
 | a::b::r=>simp [TL]
theorem HJ {P:Program} {fn:Func} {tmps:Array Value} {R:Ending→World→Prop}:∀ (ds:List Nat) (w:World),nO ds w (λ w'=>∃ v,(results fn tmps).run P w' = .ok v w'∧R (.returned v) w')→
  LeavesInM (FO none) 0 P fn tmps R (ds.map mark) .returning w:=by
 intro ds
 induction ds with
 | nil=>intro w ⟨v,h1,h2⟩; exact ⟨v,h1,h2⟩
 | cons D r ih=>intro w h; exact ⟨by simp,.inl ⟨D,_,rfl,run_takeDeferred h.1,ih _ h.2⟩⟩
theorem nO.mono {ds:List Nat} {K K':World→Prop} (hk:∀ w,K w→K' w):∀ {w:World},nO ds w K→nO ds w K':=by
 induction ds with
 | nil=>intro w h; exact hk w h
 | cons D r ih=>intro w h; exact ⟨h.1,ih h.2⟩
theorem MW {P:Program} {n:Nat} {pl:dL} {rl:Nat} {f:FuncId} {fn:Func} {c:Code} {rs:List ResultVar} {args:List Value} {w:World} {K:Value→World→Prop}
  (hm:P.follows .mixedOrders=true) (hf:P.funcs[f]? = some fn) (hb:fn.body=some c) (hn:fn.ntmps=n) (hr:fn.results=rs.toArray) (hle:args.length≤n)
  (h:D P n pl rl c [] rl (TM P rs K) [] (FD args) w):Calls P f args.toArray w (pU K):=by
 refine ym.1 (callsIn_of_wp_marks (F:=FO none) (n:=0) hf hb trivial ?_)
 have ha:iV [] n (FD args) {tmps:=args.toArray++Array.replicate (fn.ntmps - args.toArray.size) undef,defers:=[]}:=by
  refine ⟨rfl,by simp [hn]; omega,λ i=>?_⟩
  rw [TN,Array.getD_eq_getD_getElem?,Array.getElem?_append]
  simp only [List.size_toArray,List.getElem?_toArray,Array.getElem?_replicate]
  by_cases hi:i<args.length
  ·rw [if_pos hi]; simp [hi]
  ·rw [if_neg hi]
   have:args[i]? = none:=by simp; omega
   simp only [List.getD_eq_getElem?_getD,this,Option.getD_none]
   split <;> rfl
 refine wpIn_mono (YS hm c none rl [] rl _ [] _ _ w (.inl rfl) ha h) λ x a' w' hp=>?_
 obtain ⟨qi,e',BU,_,_,hq⟩:=hp
 have fin:nO qi w' (λ w=>MV P rs e' (λ vs=>K (TL vs) w) w)→LeavesInM (FO none) 0 P fn a'.tmps (pU K) a'.defers .returning w':=λ hq=>by
  rw [BU.defers]
  refine HJ qi w' (hq.mono λ w1 h1=>?_)
  obtain ⟨vs,h1,h2⟩:=TO BU rs _ w1 h1
  exact ⟨_,JU hr h1,_,rfl,h2⟩
 cases x with
 | normal=>exact fin hq
 | ret=>exact fin hq
 | _=>exact hq.elim
theorem okD {P:Program} {n:Nat} {pl:dL} {rl:Nat} {f:FuncId} {fn:Func} {c:Code} {rs:List ResultVar} {args:List Value} {w:World} {K:Value→World→Prop} {S:Prop}
  (hf:P.funcs[f]? = some fn) (hb:fn.body=some c) (hn:fn.ntmps=n) (hr:fn.results=rs.toArray) (hm:P.follows .mixedOrders=true) (hle:args.length≤n)
  (e:D P n pl rl c [] rl (TM P rs K) [] (FD args) w=S) (h:S):Calls P f args.toArray w (pU K):=MW hm hf hb hn hr hle (e.mpr h)
theorem okE {P:Program} (n:Nat) (pl:dL) (rl:Nat) (rs:List ResultVar) {f:FuncId} {fn:Func} {args:List Value} {w:World} {K:Value→World→Prop} {S:Prop}
  (hf:P.funcs[f]? = some fn) (hb:fn.body=some (fn.body.getD .skip)) (hn:fn.ntmps=n) (hr:fn.results=rs.toArray) (hm:P.follows .mixedOrders=true) (hle:args.length≤n)
  (e:D P n pl rl (fn.body.getD .skip) [] rl (TM P rs K) [] (FD args) w=S) (h:S):Calls P f args.toArray w (pU K):=okD hf hb hn hr hm hle e h
theorem okF {P:Program} (n:Nat) (pl:dL) (rl:Nat) (rs:List ResultVar) {f:FuncId} {fn:Func} {args:List Value} {w:World} {K:Value→World→Prop} {S:Prop}
  (hf:P.funcs[f]? = some fn) (hm:P.follows .mixedOrders=true) (hc:(fn.body.isSome,fn.ntmps,fn.results,Nat.ble args.length n)=(true,n,rs.toArray,true))
  (e:D P n pl rl (fn.body.getD .skip) [] rl (TM P rs K) [] (FD args) w=S) (h:S):Calls P f args.toArray w (pU K):=by
 have h1:fn.body.isSome=true:=congrArg (λ x=>x.1) hc
 have h2:fn.ntmps=n:=congrArg (λ x=>x.2.1) hc
 have h3:fn.results=rs.toArray:=congrArg (λ x=>x.2.2.1) hc
 have h4:Nat.ble args.length n=true:=congrArg (λ x=>x.2.2.2) hc
 have h5:fn.body=some (fn.body.getD .skip):=by
  cases hb:fn.body with
  | none=>rw [hb] at h1; cases h1
  | some c=>rfl
 exact okD hf h5 h2 h3 hm (Nat.le_of_ble_eq_true h4) e h
theorem eH {P : Program} {f : FuncId} {fn : Func} (hf : P.funcs[f]? = some fn) (h : (fn.name == "runtime.NumGoroutine", fn.body.isNone) = (false, false) := by kernel_rfl) : Plain P f := ⟨fn, hf, congrArg (λ x => x.1) h, congrArg (λ x => x.2) h⟩
theorem vb {a b:Bool} (h:a=b):Value.bool a=Value.bool b:=congrArg _ h
theorem Ph {p:Prop} [Decidable p] (h:p):Value.bool true=Value.bool (decide p):=vb (decide_eq_true h).symm
theorem YU {p:Prop} [Decidable p] (h:¬ p):Value.bool false=Value.bool (decide p):=vb (decide_eq_false h).symm
theorem wW {p q:Prop} [Decidable p] [Decidable q] (h:p↔q):Value.bool (decide p)=Value.bool (decide q):=vb (decide_eq_decide.2 h)
end Go.Fw
namespace Go.Proofs.YtnjcingfdhjfkaaGreat
open Go.Fw
set_option maxRecDepth 100000
variable (w:World) (K:Value→World→Prop)
abbrev i (n:Int):Value:=.int .i64 n
abbrev tt:Value:=.bool true
abbrev ff:Value:=.bool false
abbrev fA (T:Nat) (v:Value) (f:Nat) (K:Value→Prop):Prop:=cW Tryz.prog (Instr.fieldAt T v f) K
abbrev iA (T:Nat) (v j:Value) (K:Value→Prop):Prop:=cW Tryz.prog (Instr.indexAt T v j) K
abbrev lA (T:Nat) (p:Value) (w:World) (K:Value→Prop):Prop:=Df Tryz.prog (Instr.loadAt T p) w K
abbrev sA (T:Nat) (p v:Value) (w:World) (K:World→Prop):Prop:=A0 Tryz.prog (Instr.storeAt T p v) w K
abbrev bA (o:BinOp) (T:Nat) (x y:Value) (K:Value→Prop):Prop:=cW Tryz.prog (iI o T false false x y) K
abbrev bB (o:BinOp) (T:Nat) (x y:Value) (K:Value→Prop):Prop:=cW Tryz.prog (iI o T false true x y) K
abbrev bC (o:BinOp) (T:Nat) (x y:Value) (K:Value→Prop):Prop:=cW Tryz.prog (iI o T true false x y) K
abbrev cF (f:Nat) (args:List Value) (w:World) (K:Value→World→Prop):Prop:=Dg Tryz.prog f args w K
abbrev nC (v:Value) (K:Value→Prop):Prop:=cW Tryz.prog (Ry v) K
abbrev lN (T:Nat) (v:Value) (K:Value→Prop):Prop:=cW Tryz.prog (Builtin.len_ #[T] 3 [v].toArray) K
abbrev aL (T:Nat) (w:World) (K:Value→World→Prop):Prop:=gU Tryz.prog (Instr.alloc T true (.tuple #[])) w K
abbrev xT (v:Value) (k:Nat) (K:Value→Prop):Prop:=cW Tryz.prog (Instr.extract v k) K
abbrev kA (T:Nat) (p v:Value) (w:World) (R:Prop):Prop:=Hz Tryz.prog (Instr.loadAt T p) v w R
abbrev aP (T:Nat) (a b:Value) (w:World) (K:Value→World→Prop):Prop:=gU Tryz.prog (Builtin.append_ #[T,T] T [a,b].toArray) w K
abbrev bS (T n:Nat) (l:List (Nat × Value)) (w:World) (K:Value→World→Prop):Prop:=gU Tryz.prog (Instr.buildSlice T n l.toArray) w K
abbrev cV (v:Value) (a b:Prop):Prop:=xR v a b
noncomputable abbrev PG:Program:=Tryz.prog
abbrev CR (n:Nat) (a:List Value) (w:World) (K:Value→World→Prop):Prop:=Calls Tryz.prog n a.toArray w (pU K)
abbrev PL (n:Nat):Prop:=Plain Tryz.prog n
theorem mixed:Tryz.prog.follows .mixedOrders=true:=by kernel_rfl
theorem eC (n:Nat) (pl:dL) (rl:Nat) (rs:List ResultVar) {f:FuncId} {fn:Func} {args:List Value} {w:World} {K:Value→World→Prop} {S:Prop}
  (hf:PG.funcs[f]? = some fn) (h:S) (hc:(fn.body.isSome,fn.ntmps,fn.results,Nat.ble args.length n)=(true,n,rs.toArray,true):=by kernel_rfl)
  (e:D PG n pl rl (fn.body.getD .skip) [] rl (TM PG rs K) [] (FD args) w=S:=by kernel_rfl):CR f args w K:=okF n pl rl rs hf mixed hc e h
def P4:dL:=λ i=>match i with
 | 12=>.run 0 15
 | _=>.nil
def P5:dL:=λ i=>match i with
 | 10=>(.op 0 [] (.op 1 [] (.op 2 [] (.op 3 [] (.op 4 [] (.alt 5 [3] (.alt 6 [] (.of [(7,[3]),(8,[])]) (.alt 7 [3] (.of [(6,[]),(8,[])]) .stop)) (.alt 7 [3] (.of [(5,[3]),(6,[]),(8,[])]) .stop)))))))
 | 17=>(.of [(0,[]),(2,[]),(1,[]),(3,[]),(4,[]),(5,[]),(6,[]),(8,[]),(7,[]),(9,[]),(10,[]),(11,[]),(12,[]),(13,[]),(15,[]),(14,[15]),(16,[]),(17,[])])
 | _=>.nil
def P6:dL:=λ i=>match i with
 | 17=>(.op 0 [] (.op 1 [] (.op 2 [] (.op 3 [] (.op 4 [] (.op 6 [] (.op 7 [] (.op 8 [] (.op 9 [] (.op 10 [] (.alt 5 [3,10] (.alt 11 [] (.of [(12,[3,10]),(13,[])]) (.alt 12 [3,10] (.of [(11,[]),(13,[])]) .stop)) (.alt 12 [3,10] (.of [(5,[3,10]),(11,[]),(13,[])]) .stop))))))))))))
 | _=>.nil
def P8:dL:=λ i=>match i with
 | 11=>(.op 0 [] (.op 1 [] (.op 2 [] (.op 3 [] (.op 4 [] (.op 6 [] (.op 8 [] (.alt 5 [3] (.alt 7 [3] (.alt 9 [3] (.op 10 [] (.alt 11 [] (.of [(12,[3]),(13,[])]) (.alt 12 [3] (.of [(11,[]),(13,[])]) .stop))) (.alt 12 [3] (.of [(9,[3]),(10,[]),(11,[]),(13,[])]) .stop)) (.alt 12 [3] (.of [(7,[3]),(9,[3]),(10,[]),(11,[]),(13,[])]) .stop)) (.alt 12 [3] (.of [(5,[3]),(7,[3]),(9,[3]),(10,[]),(11,[]),(13,[])]) .stop)))))))))
 | 27=>.run 0 8
 | _=>.nil
def S9 (p0 zj n2:Value):Prop:=
 gU Tryz.prog (Instr.box 27 p0) w λ p3 a=>lA 27 p3 a λ b=>cF 11 [b] a λ c d=>cF 12 [c] d λ e f=>xT e 0 λ g=>xT e 1 λ h=>aL 36 f λ u7 j=>sA 36 u7 g j λ k=>bB .neq 37 h (i 0) λ l=>
 cV l (cF 14 [] k λ n o=>K n o) (lA 36 u7 k λ p=>cF 15 [p,(i 2)] k λ q r=>xT q 0 λ s=>xT q 1 λ t=>bP (λ K1=>bB .eql 42 s (.pointer none) λ u=>cV u (K1 tt r) (
 bB .neq 37 t (i 0) λ v=>K1 v r)) (λ x y=>∀ _:Env,
 cV x (K ff y) (eS (λ K2 i11 z=>∀ _:Env,
 bP (λ K3=>lN 57 zj λ aa=>bA .lss 3 i11 aa λ ab=>cV ab (bB .lss 3 i11 (i 40) λ ac=>K3 ac z) (K3 ff z)) (λ ad ae=>∀ _:Env,
 cV ad (iA 57 zj i11 λ af=>lA 64 af (drew ae) λ ag=>cF 16 [s] (drew ae) λ ah ai=>kA 64 af ag ai (cF 24 [ag,ah,(.slice none 0 0),(i 9)] ai λ aj ak=>cF 17 [s,aj] ak λ _ al=>
 bB .add 3 i11 (i 1) λ am=>K2 am al)) (cF 31 [s] ae λ an ao=>cF 18 [s] ao λ ap aq=>aL 54 aq λ TP ar=>sA 54 TP ap ar λ asx=>lN 45 an λ au=>bB .eql 3 au (i 0) λ av=>
 cV av (bP (λ K4=>fA 54 TP 1 λ aw=>lA 3 aw asx λ ax=>bB .neq 3 ax (i 0) λ ay=>cV ay (cF 14 [] asx λ az a0=>K4 az a0) (K4 ff asx)) (λ a1 a2=>∀ _:Env,
 K a1 a2)) (bB .and 3 n2 (i 65535) λ a3=>lN 45 an λ a4=>bA .rem 3 a3 a4 λ a5=>iA 45 an a5 λ a6=>lA 52 a6 asx λ a7=>cF 17 [s,a7] asx λ a8 a9=>xT a8 0 λ ba=>xT a8 1 λ bb=>
 aL 48 a9 λ bc bd=>sA 48 bc ba bd λ be=>cF 22 [s] be λ bf bg=>cF 23 [s] bg λ bh bi=>bP (λ K5=>bB .neq 37 bb (i 0) λ bj=>cV bj (K5 tt bi) (lN 28 bf λ bk=>fA 36 u7 2 λ bl=>
 lA 28 bl bi λ bm=>lN 28 bm λ bn=>bA .neq 3 bk bn λ bo=>cV bo (K5 tt bi) (lN 28 bh λ bp=>fA 36 u7 1 λ bq=>lA 3 bq bi λ br=>bA .neq 3 bp br λ bs=>K5 bs bi))) (λ bt bu=>∀ _:Env,
 cV bt (K ff bu) (bP (λ K6=>fA 36 u7 1 λ bv=>lA 3 bv (drew bu) λ bw=>cW Tryz.prog (Instr.sliceAt 28 bf none (some bw) none) λ bx=>cF 21 [bx,bh] (drew bu) λ bz b0=>
 cV bz (fA 36 u7 1 λ b1=>lA 3 b1 b0 λ b2=>cW Tryz.prog (Instr.sliceAt 28 bf (some b2) none none) λ b3=>fA 36 u7 2 λ b4=>lA 28 b4 b0 λ b5=>fA 36 u7 1 λ b6=>lA 3 b6 b0 λ b7=>
 cW Tryz.prog (Instr.sliceAt 28 b5 (some b7) none none) λ b8=>cF 21 [b3,b8] b0 λ b9 ca=>cV b9 (cF 35 [s,(i 0)] ca λ cb cc=>lN 80 cb λ cd=>bB .eql 3 cd (i 0) λ ce=>
 cV ce (fA 54 TP 0 λ cf=>lA 3 cf cc λ cg=>bB .add 3 cg (i 1) λ ch=>cF 18 [s] cc λ ci cj=>kA 3 cf cg cj (cW Tryz.prog (Instr.field 54 ci 0) λ ck=>bA .eql 3 ck ch λ cl=>
 cV cl (cF 25 [s,(i 1)] cj λ cm cn=>lN 28 cm λ co=>bB .eql 3 co (i 0) λ cp=>cV cp (cF 31 [s] cn λ cq cr=>lN 45 cq λ cs=>bB .eql 3 cs (i 1) λ ct=>cV ct (cF 14 [] cr λ cu cv=>
 K6 cu cv) (K6 ff cr)) (K6 ff cn)) (K6 ff cj))) (K6 ff cc)) (K6 ff ca)) (K6 ff b0)) (λ cw cx=>∀ _:Env,
 K cw cx))))))) (λ K2=>K2 (i 0) y))))
def P9:dL:=λ i=>match i with
 | 10=>(.of [(0,[]),(1,[]),(2,[]),(3,[]),(4,[]),(5,[]),(6,[4]),(7,[]),(8,[])])
 | 19=>(.of [(0,[]),(1,[]),(2,[]),(3,[]),(4,[]),(5,[]),(6,[]),(7,[]),(8,[]),(9,[]),(10,[]),(11,[]),(12,[]),(13,[]),(14,[]),(15,[]),(16,[]),(17,[]),(18,[]),(19,[]),(20,[]),(21,[]),(22,[]),(23,[]),(24,[]),(25,[]),(28,[]),(29,[]),(30,[]),(26,[29]),(27,[]),(31,[]),(32,[]),(33,[]),(34,[]),(35,[]),(36,[]),(37,[]),(38,[]),(39,[]),(40,[]),(41,[]),(42,[]),(43,[]),(44,[]),(45,[]),(46,[]),(47,[]),(48,[])])
 | _=>.nil
theorem amD (p0 zj n2:Value) (h:S9 w K p0 zj n2):CR 9 [p0,zj,n2] w K:=
 eC 154 P9 64 [.tmp 6] Tryz.func9 h
def Ti:dL:=λ i=>match i with
 | 10=>(.op 0 [] (.op 1 [] (.op 2 [] (.op 3 [] (.op 4 [] (.alt 5 [3] (.alt 6 [] (.of [(7,[3]),(8,[])]) (.alt 7 [3] (.of [(6,[]),(8,[])]) .stop)) (.alt 7 [3] (.of [(5,[3]),(6,[]),(8,[])]) .stop)))))))
 | _=>.nil
def S11 (p0:Value):Prop:=
 gU Tryz.prog (Instr.box 27 p0) w λ p1 a=>aL 27 a λ b c=>bP (λ K1=>fA 27 p1 1 λ d=>lA 23 d (drew c) λ e=>fA 27 p1 2 λ f=>lA 23 f (drew c) λ g=>fA 27 p1 3 λ h=>
 lA 24 h (drew c) λ j=>fA 27 p1 4 λ k=>lA 24 k (drew c) λ l=>((cF 37 [e] (drew c) λ n o=>kA 23 f g o (kA 24 h j o (kA 24 k l o (((cF 37 [g] o λ p q=>kA 24 h j q (kA 24 k l q (
 ((cF 38 [j] q λ s t=>kA 24 k l t (((cF 38 [l] t λ u v=>cW Tryz.prog (Instr.build 27 [(1,n),(2,p),(3,s),(4,u)].toArray) λ x=>aL 27 v λ q3 y=>kA 23 d e y (kA 23 f g y (
 kA 24 h j y (kA 24 k l y (sA 27 q3 x y λ z=>K1 q3 z)))))
 ∧((aL 27 t λ amE aa=>kA 23 d e aa (kA 23 f g aa (kA 24 h j aa (kA 24 k l aa (cF 38 [l] aa λ ab ac=>cW Tryz.prog (Instr.build 27 [(1,n),(2,p),(3,s),(4,ab)].toArray) λ ad=>
 sA 27 amE ad ac λ ae=>K1 amE ae)))))
 ∧
 True))))
 ∧((aL 27 q λ amF af=>kA 23 d e af (kA 23 f g af (kA 24 h j af (kA 24 k l af (cF 38 [j] af λ ag ah=>kA 24 k l ah (cF 38 [l] ah λ ai aj=>cW Tryz.prog (Instr.build 27 [(1,n),(2,p),(3,ag),(4,ai)].toArray) λ ak=>
 sA 27 amF ak aj λ al=>K1 amF al))))))
 ∧
 True)))))
 ∧((aL 27 o λ amG am=>kA 23 d e am (kA 23 f g am (kA 24 h j am (kA 24 k l am (cF 37 [g] am λ an ao=>kA 24 h j ao (kA 24 k l ao (cF 38 [j] ao λ ap aq=>kA 24 k l aq (cF 38 [l] aq λ ar asx=>
 cW Tryz.prog (Instr.build 27 [(1,n),(2,an),(3,ap),(4,ar)].toArray) λ au=>sA 27 amG au asx λ av=>K1 amG av))))))))
 ∧
 True))))))
 ∧((aL 27 (drew c) λ amH aw=>kA 23 d e aw (kA 23 f g aw (kA 24 h j aw (kA 24 k l aw (cF 37 [e] aw λ ax ay=>kA 23 f g ay (kA 24 h j ay (kA 24 k l ay (cF 37 [g] ay λ az a0=>
 kA 24 h j a0 (kA 24 k l a0 (cF 38 [j] a0 λ a1 a2=>kA 24 k l a2 (cF 38 [l] a2 λ a3 a4=>cW Tryz.prog (Instr.build 27 [(1,ax),(2,az),(3,a1),(4,a3)].toArray) λ a5=>sA 27 amH a5 a4 λ a6=>
 K1 amH a6)))))))))))
 ∧
 True))) (λ TQ a7=>∀ _:Env,
 eS (λ K2 i4 a8=>∀ _:Env,
 bP (λ K3=>fA 27 p1 0 λ a9=>lA 22 a9 a8 λ ba=>lN 22 ba λ bb=>bA .lss 3 i4 bb λ bc=>cV bc (bB .lss 3 i4 (i 6) λ bd=>K3 bd a8) (K3 ff a8)) (λ be bf=>∀ _:Env,
 cV be (fA 27 TQ 0 λ bg=>lA 22 bg (drew bf) λ bh=>fA 27 p1 0 λ bi=>lA 22 bi (drew bf) λ bj=>iA 22 bj i4 λ bk=>lA 23 bk (drew bf) λ bl=>cF 37 [bl] (drew bf) λ bm bn=>
 kA 22 bg bh bn (bS 22 1 [(0,bm)] bn λ bo bp=>kA 22 bg bh bp (aP 22 bh bo bp λ bq br=>fA 27 TQ 0 λ bs=>sA 22 bs bq br λ bt=>bB .add 3 i4 (i 1) λ bu=>K2 bu bt))) (
 eS (λ K4 i5 bv=>∀ _:Env,
 bP (λ K5=>fA 27 p1 5 λ bw=>lA 25 bw bv λ bx=>lN 25 bx λ bz=>bA .lss 3 i5 bz λ b0=>cV b0 (bB .lss 3 i5 (i 6) λ b1=>K5 b1 bv) (K5 ff bv)) (λ b2 b3=>∀ _:Env,
 cV b2 (fA 27 TQ 5 λ b4=>lA 25 b4 (drew b3) λ b5=>fA 27 p1 5 λ b6=>lA 25 b6 (drew b3) λ b7=>iA 25 b7 i5 λ b8=>fA 89 b8 0 λ b9=>lA 86 b9 (drew b3) λ ca=>fA 27 p1 5 λ cb=>
 lA 25 cb (drew b3) λ cc=>iA 25 cc i5 λ cd=>fA 89 cd 1 λ ce=>lA 3 ce (drew b3) λ cf=>cF 39 [ca] (drew b3) λ cg ch=>kA 25 b4 b5 ch (kA 25 cb cc ch (kA 3 ce cf ch (cW Tryz.prog (Instr.build 89 [(0,cg),(1,cf)].toArray) λ ci=>
 bS 25 1 [(0,ci)] ch λ cj ck=>kA 25 b4 b5 ck (aP 25 b5 cj ck λ cl cm=>fA 27 TQ 5 λ cn=>sA 25 cn cl cm λ co=>bB .add 3 i5 (i 1) λ cp=>K4 cp co))))) (lA 27 TQ b3 λ cq=>
 sA 27 b cq b3 λ cr=>lA 27 b cr λ r=>K r cr))) (λ K4=>K4 (i 0) bf)))) (λ K2=>K2 (i 0) a7))
def YV:dL:=λ i=>match i with
 | 1=>(.op 0 [] (.op 1 [] (.op 3 [] (.op 4 [] (.op 6 [] (.op 7 [] (.op 9 [] (.op 10 [] (.alt 2 [4,7,10] (.alt 5 [7,10] (.alt 8 [10] (.alt 11 [] (.of [(12,[]),(13,[1,4,7,10]),(14,[])]) (.alt 13 [1,4,7,10] (.of [(11,[]),(12,[]),(14,[])]) .stop)) (.alt 13 [1,4,7,10] (.of [(8,[10]),(11,[]),(12,[]),(14,[])]) .stop)) (.alt 13 [1,4,7,10] (.of [(5,[7,10]),(8,[10]),(11,[]),(12,[]),(14,[])]) .stop)) (.alt 13 [1,4,7,10] (.of [(2,[4,7,10]),(5,[7,10]),(8,[10]),(11,[]),(12,[]),(14,[])]) .stop))))))))))
 | 5=>(.of [(0,[]),(1,[]),(2,[]),(3,[]),(4,[]),(5,[]),(6,[]),(7,[1]),(8,[1]),(9,[]),(10,[]),(11,[])])
 | 9=>(.of [(0,[]),(1,[]),(2,[]),(3,[]),(4,[]),(5,[]),(6,[]),(7,[]),(9,[]),(10,[]),(11,[]),(12,[]),(13,[]),(14,[]),(8,[1,10,14]),(15,[]),(16,[1]),(17,[]),(18,[]),(19,[])])
 | _=>.nil
theorem agP (p0:Value) (h:S11 w K p0):CR 11 [p0] w K:=
 eC 72 YV 4 [.cell 2 27] Tryz.func11 h
def S12 (p0:Value):Prop:=
 gU Tryz.prog (Instr.box 27 p0) w λ p1 a=>aL 36 a λ b c=>lA 27 p1 c λ d=>cF 40 [d] c λ e f=>xT e 0 λ g=>xT e 1 λ _=>bB .neq 37 g (i 0) λ h=>cV h (cW Tryz.prog (Instr.build 36 [].toArray) λ j=>
 sA 36 b j f λ k=>lA 36 b k λ r=>K (.tuple #[r,g]) k) (bP (λ K1=>lA 27 p1 (drew f) λ l=>lA 27 p1 (drew f) λ n=>fA 27 p1 2 λ o=>lA 23 o (drew f) λ p=>lN 23 p λ q=>
 ((cF 41 [l] (drew f) λ s t=>kA 27 p1 n t (kA 23 o p t (((cF 42 [n] t λ u v=>kA 23 o p v (cW Tryz.prog (Instr.build 36 [(1,s),(2,u),(3,q)].toArray) λ x=>aL 36 v λ u6 y=>
 kA 27 p1 l y (kA 27 p1 n y (kA 23 o p y (sA 36 u6 x y λ z=>K1 u6 z)))))
 ∧((aL 36 t λ amI aa=>kA 27 p1 l aa (kA 27 p1 n aa (kA 23 o p aa (cF 42 [n] aa λ ab ac=>kA 23 o p ac (cW Tryz.prog (Instr.build 36 [(1,s),(2,ab),(3,q)].toArray) λ ad=>
 sA 36 amI ad ac λ ae=>K1 amI ae)))))
 ∧
 True)))))
 ∧((aL 36 (drew f) λ amJ af=>kA 27 p1 l af (kA 27 p1 n af (kA 23 o p af (cF 41 [l] af λ ag ah=>kA 27 p1 n ah (kA 23 o p ah (cF 42 [n] ah λ ai aj=>kA 23 o p aj (cW Tryz.prog (Instr.build 36 [(1,ag),(2,ai),(3,q)].toArray) λ ak=>
 sA 36 amJ ak aj λ al=>K1 amJ al)))))))
 ∧
 True))) (λ FE am=>∀ _:Env,
 eS (λ K2 i7 an=>∀ _:Env,
 fA 36 FE 2 λ ao=>lA 28 ao an λ ap=>lN 28 ap λ aq=>bA .lss 3 i7 aq λ ar=>cV ar (fA 36 FE 0 λ asx=>lA 28 asx (drew an) λ au=>lA 27 p1 (drew an) λ av=>cF 43 [av,i7] (drew an) λ aw ax=>
 kA 28 asx au ax (bS 28 1 [(0,aw)] ax λ ay az=>kA 28 asx au az (aP 28 au ay az λ a0 a1=>fA 36 FE 0 λ a2=>sA 28 a2 a0 a1 λ a3=>bB .add 3 i7 (i 1) λ a4=>K2 a4 a3))) (
 eS (λ K3 i8 a5=>∀ _:Env,
 fA 27 p1 3 λ a6=>lA 24 a6 a5 λ a7=>lN 24 a7 λ a8=>bA .lss 3 i8 a8 λ a9=>cV a9 (fA 36 FE 4 λ ba=>lA 30 ba (drew a5) λ bb=>lA 27 p1 (drew a5) λ bc=>fA 27 p1 3 λ bd=>
 lA 24 bd (drew a5) λ be=>iA 24 be i8 λ bf=>lA 98 bf (drew a5) λ bg=>cF 44 [bc,bg] (drew a5) λ bh bi=>kA 30 ba bb bi (bS 30 1 [(0,bh)] bi λ bj bk=>kA 30 ba bb bk (
 aP 30 bb bj bk λ bl bm=>fA 36 FE 4 λ bn=>sA 30 bn bl bm λ bo=>bB .add 3 i8 (i 1) λ bp=>K3 bp bo))) (lI (λ K4=>fA 27 p1 4 λ bq=>lA 24 bq a5 λ br=>lN 24 br λ bs=>
 bB .gtr 3 bs (i 0) λ bt=>cV bt (lA 27 p1 (drew a5) λ bu=>fA 27 p1 4 λ bv=>lA 24 bv (drew a5) λ bw=>iA 24 bw (i 0) λ bx=>lA 98 bx (drew a5) λ bz=>cF 44 [bu,bz] (drew a5) λ b0 b1=>
 fA 36 FE 5 λ b2=>sA 33 b2 b0 b1 λ b3=>K4 b3) (K4 a5)) (λ b4=>∀ _:Env,
 eS (λ K5 i9 b5=>∀ _:Env,
 fA 27 p1 5 λ b6=>lA 25 b6 b5 λ b7=>lN 25 b7 λ b8=>bA .lss 3 i9 b8 λ b9=>cV b9 (fA 27 p1 5 λ ca=>lA 25 ca (drew b5) λ cb=>iA 25 cb i9 λ cc=>fA 89 cc 0 λ cd=>
 lA 86 cd (drew b5) λ ce=>lA 27 p1 (drew b5) λ cf=>fA 36 FE 1 λ cg=>lA 3 cg (drew b5) λ ch=>cF 46 [cf] (drew b5) λ ci cj=>kA 25 ca cb cj (kA 86 cd ce cj (kA 3 cg ch cj (
 cW Tryz.prog (Instr.sliceAt 95 ci none (some ch) none) λ ck=>cF 45 [ce,ck] cj λ cl cm=>xT cl 0 λ cn=>xT cl 1 λ _=>fA 36 FE 6 λ co=>lA 34 co cm λ cp=>bS 34 1 [(0,cn)] cm λ cq cr=>
 aP 34 cp cq cr λ cs ct=>fA 36 FE 6 λ cu=>sA 34 cu cs ct λ cv=>bB .add 3 i9 (i 1) λ cw=>K5 cw cv)))) (lA 36 FE b5 λ cx=>sA 36 b cx b5 λ cy=>lA 36 b cy λ zm=>
 K (.tuple #[zm,(i 0)]) cy)) (λ K5=>K5 (i 0) b4)))) (λ K3=>K3 (i 0) an))) (λ K2=>K2 (i 0) am)))
def P12:dL:=λ i=>match i with
 | 4=>(.op 0 [] (.op 2 [] (.op 4 [] (.op 5 [] (.op 6 [] (.alt 1 [2,5] (.alt 3 [5] (.of [(7,[]),(8,[0,2,5]),(9,[])]) (.alt 8 [0,2,5] (.of [(3,[5]),(7,[]),(9,[])]) .stop)) (.alt 8 [0,2,5] (.of [(1,[2,5]),(3,[5]),(7,[]),(9,[])]) .stop)))))))
 | 8=>(.of [(0,[]),(1,[]),(2,[]),(3,[]),(4,[1]),(5,[1]),(6,[]),(7,[]),(8,[])])
 | 12=>(.of [(0,[]),(1,[]),(2,[]),(3,[]),(4,[]),(5,[]),(6,[]),(7,[]),(8,[1]),(9,[1]),(10,[]),(11,[]),(12,[])])
 | 14=>.run 0 8
 | 18=>(.of [(0,[]),(1,[]),(2,[]),(3,[]),(4,[]),(5,[]),(6,[]),(8,[]),(9,[]),(7,[1,5,9]),(10,[]),(11,[]),(12,[]),(13,[]),(14,[]),(15,[]),(16,[])])
 | _=>.nil
theorem agQ (p0:Value) (h:S12 w K p0):CR 12 [p0] w K:=
 eC 103 P12 12 [.cell 2 36,.tmp 3] Tryz.func12 h
def S14:Prop:=
 cF 48 [(Go.Value.string (ByteArray.mk (#[108,105,110,101,32,97,59,32,118,111,108,32,120,59,32,108,111,99,107,32,109,59,32,116,104,114,101,97,100,32,116,32,123,32,114,101,103,32,114,59,32,115,116,111,114,101,32,97,32,61,32,49,59,32,108,111,97,100,32,114,32,61,32,97,59,32,111,112,116,32,97,59,32,116,97,107,101,32,109,59,32,125,32,116,104,114,101,97,100,32,117,32,123,32,114,101,103,32,114,59,32,108,111,97,100,32,114,32,61,32,97,59,32,99,104,101,99,107,32,114,59,32,125,32,114,101,99,111,118,101,114,32,123,32,125,32,97,108,119,97,121,115,32,97,32,61,61,32,49,59])))] w λ a b=>
 cF 15 [a,(i 2)] b λ c d=>xT c 0 λ e=>xT c 1 λ f=>cW Tryz.prog (Instr.build 36 [].toArray) λ g=>cF 15 [g,(i 2)] d λ h j=>xT h 0 λ _=>xT h 1 λ k=>bP (λ K1=>
 bB .eql 42 e (.pointer none) λ l=>cV l (K1 tt j) (bB .neq 37 f (i 0) λ n=>K1 n j)) (λ o p=>∀ _:Env,
 cV o (K ff p) (cW Tryz.prog (Instr.build 52 [(0,(i 1))].toArray) λ q=>cW Tryz.prog (Instr.build 52 [(0,(i 1)),(1,(i 1))].toArray) λ r=>aL 52 p λ Gm s=>aL 52 s λ HK t=>
 sA 52 Gm q t λ u=>sA 52 HK r u λ v=>lA 52 Gm v λ x=>cF 17 [e,x] v λ y z=>xT y 0 λ aa=>xT y 1 λ ab=>aL 48 z λ a7 ac=>sA 48 a7 aa ac λ ad=>lA 52 Gm ad λ ae=>
 cF 17 [e,ae] ad λ af ag=>xT af 0 λ ah=>xT af 1 λ _=>aL 48 ag λ b9 ai=>sA 48 b9 ah ai λ aj=>cF 16 [e] aj λ ak al=>lA 52 HK al λ am=>cF 17 [e,am] al λ an ao=>
 xT an 0 λ ap=>xT an 1 λ _=>aL 48 ao λ c12 aq=>sA 48 c12 ap aq λ ar=>cW Tryz.prog (Instr.build 52 [(0,(i 2))].toArray) λ asx=>cF 17 [e,asx] ar λ au av=>xT au 0 λ aw=>
 xT au 1 λ _=>aL 48 av λ d14 ax=>sA 48 d14 aw ax λ ay=>lA 52 Gm ay λ az=>cF 17 [e,az] ay λ a0 a1=>xT a0 0 λ _=>xT a0 1 λ _=>lA 52 Gm a1 λ a2=>cF 17 [e,a2] a1 λ a3 a4=>
 xT a3 0 λ a5=>xT a3 1 λ a6=>aL 48 a4 λ a8 a9=>sA 48 a8 a5 a9 λ ba=>cF 19 [e] ba λ bb bc=>bS 28 1 [(0,(i 1))] bc λ bd be=>cW Tryz.prog (Instr.build 52 [(0,(i 3)),(3,bd)].toArray) λ bf=>
 cF 17 [e,bf] be λ bg bh=>xT bg 0 λ bi=>xT bg 1 λ _=>aL 48 bh λ k19 bj=>sA 48 k19 bi bj λ bk=>cF 18 [e] bk λ bl bm=>cF 49 [e] bm λ bn bo=>aL 54 bo λ s21 bp=>
 sA 54 s21 bl bp λ bq=>bB .eql 42 bb (.pointer none) λ br=>cV br (K ff bq) (lA 52 HK bq λ bs=>cF 17 [bb,bs] bq λ bt bu=>xT bt 0 λ bv=>xT bt 1 λ _=>aL 48 bu λ v23 bw=>
 sA 48 v23 bv bw λ bx=>cF 18 [bb] bx λ bz b0=>aL 54 b0 λ ba b1=>sA 54 ba bz b1 λ b2=>bP (λ K2=>bB .eql 37 k (i 8) λ b3=>cV b3 (lA 48 a7 b2 λ b4=>cW Tryz.prog (Instr.build 48 [(0,(i 3)),(3,(i 1))].toArray) λ b5=>
 bA .eql 48 b4 b5 λ b6=>cV b6 (bB .eql 37 ab (i 0) λ b7=>cV b7 (lA 48 b9 b2 λ b8=>cW Tryz.prog (Instr.build 48 [(0,(i 2)),(3,(i 1))].toArray) λ ca=>bA .eql 48 b8 ca λ cb=>
 cV cb (lA 52 Gm b2 λ cc=>cW Tryz.prog (Instr.build 52 [(0,(i 2))].toArray) λ cd=>lA 52 HK b2 λ ce=>bS 45 3 [(0,cc),(1,cd),(2,ce)] b2 λ cf cg=>cF 20 [ak,cf] cg λ ch ci=>
 cV ch (lA 48 c12 ci λ cj=>cW Tryz.prog (Instr.build 48 [(0,(i 1)),(1,(i 1))].toArray) λ ck=>bA .eql 48 cj ck λ cl=>cV cl (lA 48 d14 ci λ cm=>cW Tryz.prog (Instr.build 48 [(0,(i 12)),(3,(i 1))].toArray) λ cn=>
 bA .eql 48 cm cn λ co=>cV co (bB .eql 37 a6 (i 13) λ cp=>cV cp (lA 48 k19 ci λ cq=>cW Tryz.prog (Instr.build 48 [(0,(i 15)),(3,(i 1))].toArray) λ cr=>bA .eql 48 cq cr λ cs=>
 cV cs (lA 54 s21 ci λ ct=>cW Tryz.prog (Instr.build 54 [(0,(i 1)),(3,tt)].toArray) λ cu=>bA .eql 54 ct cu λ cv=>cV cv (bS 105 1 [(0,tt)] ci λ cw cx=>cF 50 [bn,cw] cx λ cy cz=>
 cV cy (lA 48 v23 cz λ c0=>cW Tryz.prog (Instr.build 48 [(0,(i 16)),(1,(i 1)),(2,(i 1))].toArray) λ c1=>bA .eql 48 c0 c1 λ c2=>cV c2 (lA 54 ba cz λ c3=>cW Tryz.prog (Instr.build 54 [(1,(i 1)),(2,(i 1))].toArray) λ c4=>
 bA .eql 54 c3 c4 λ c5=>cV c5 (cF 16 [bb] cz λ c6 c7=>lN 45 c6 λ c8=>bB .eql 3 c8 (i 0) λ c9=>cV c9 (cF 31 [bb] c7 λ da db=>lN 45 da λ dc=>bB .eql 3 dc (i 0) λ dd=>
 cV dd (cF 25 [bb,(i 0)] db λ de df=>bS 28 1 [(0,(i 1))] df λ dg dh=>cF 21 [de,dg] dh λ di dj=>cV di (cF 25 [bb,(i 2)] dj λ dk dl=>lN 28 dk λ dm=>bB .eql 3 dm (i 0) λ dn=>
 cV dn (cF 22 [e] dl λ dp dq=>bS 28 2 [(0,(i 1)),(1,(i 0))] dq λ dr ds=>cF 21 [dp,dr] ds λ dt du=>cV dt (cF 23 [e] du λ dv dw=>bS 28 1 [(0,(i 1))] dw λ dx dy=>cF 21 [dv,dx] dy λ dz d0=>
 K2 dz d0) (K2 ff du)) (K2 ff dl)) (K2 ff dj)) (K2 ff db)) (K2 ff c7)) (K2 ff cz)) (K2 ff cz)) (K2 ff cz)) (K2 ff ci)) (K2 ff ci)) (K2 ff ci)) (K2 ff ci)) (K2 ff ci)) (K2 ff ci)) (
 K2 ff b2)) (K2 ff b2)) (K2 ff b2)) (K2 ff b2)) (λ d1 d2=>∀ _:Env,
 K d1 d2))))
theorem agR (h:S14 w K):CR 14 [] w K:=
 eC 204 (λ _=>.nil) 1 [.tmp 0] Tryz.func14 h
def S15 (u0 JV:Value):Prop:=
 gU Tryz.prog (Instr.box 36 u0) w λ u2 a=>lA 36 u2 a λ b=>cF 51 [b] a λ c d=>cW Tryz.prog (Op.unary .not c) λ e=>cV e (K (.tuple #[(.pointer none),(i 8)]) d) (cF 52 [JV] d λ f g=>
 xT f 0 λ _=>xT f 1 λ h=>bB .neq 37 h (i 0) λ j=>cV j (K (.tuple #[(.pointer none),h]) g) (lA 36 u2 g λ k=>cF 53 [k] g λ l n=>cW Tryz.prog (Instr.build 115 [(0,l),(1,JV)].toArray) λ o=>
 gU Tryz.prog (Instr.box 115 o) n λ p q=>fA 36 u2 0 λ r=>lA 28 r q λ s=>fA 36 u2 1 λ t=>lA 3 t q λ u=>fA 36 u2 2 λ v=>lA 28 v q λ x=>cF 54 [s,u,x] q λ y z=>
 xT y 0 λ aa=>xT y 1 λ _=>nC p λ ab=>fA 115 ab 2 λ ac=>sA 112 ac aa z λ ad=>nC p λ ae=>fA 115 ae 0 λ af=>fA 36 af 4 λ ag=>lA 30 ag ad λ ah=>cF 55 [p,ah] ad λ _ ai=>
 K (.tuple #[p,(i 0)]) ai))
theorem agS (u0 JV:Value) (h:S15 w K u0 JV):CR 15 [u0,JV] w K:=
 eC 46 (λ _=>.nil) 48 [.tmp 4,.tmp 5] Tryz.func15 h
def S16 (m0:Value):Prop:=
 nC m0 λ a=>fA 115 a 6 λ b=>lA 3 b w λ c=>bB .neq 3 c (i 0) λ d=>cV d (K (.slice none 0 0) w) (nC m0 λ e=>fA 115 e 4 λ f=>lA 113 f w λ g=>lN 113 g λ h=>kh (λ K1 fX j k=>∀ _:Env,
 bA .lss 3 j h λ l=>cV l (iA 113 g j λ n=>lA 119 n k λ o=>bP (λ K2=>cF 56 [m0,o] k λ p q=>cV p (cW Tryz.prog (Instr.build 52 [(0,(i 1)),(1,j)].toArray) λ r=>
 bS 45 1 [(0,r)] q λ s t=>aP 45 fX s t λ u v=>K2 u v) (K2 fX q)) (λ nk x=>∀ _:Env,
 nC o λ y=>fA 122 y 0 λ z=>lA 109 z x λ aa=>cF 57 [aa] x λ ab ac=>lN 28 ab λ ad=>kh (λ K3 MX ae af=>∀ _:Env,
 bA .lss 3 ae ad λ ag=>cV ag (iA 28 ab ae λ ah=>lA 3 ah af λ ai=>cW Tryz.prog (Instr.build 52 [(0,(i 2)),(1,j),(2,ai)].toArray) λ aj=>bS 45 1 [(0,aj)] af λ ak al=>
 aP 45 MX ak al λ am an=>bB .add 3 ae (i 1) λ ao=>K3 am ao an) (bB .add 3 j (i 1) λ ap=>K1 MX ap af)) (λ K3=>K3 nk (i 0) ac))) (K fX k)) (λ K1=>K1 (.slice none 0 0) (i 0) w))
theorem agT (m0:Value) (h:S16 w K m0):CR 16 [m0] w K:=
 eC 50 (λ _=>.nil) 4 [.tmp 2] Tryz.func16 h
def S17 (m0 p1:Value):Prop:=
 gU Tryz.prog (Instr.box 52 p1) w λ p3 a=>aL 48 a λ b c=>bP (λ K1=>fA 52 p3 0 λ d=>lA 3 d (drew c) λ e=>bB .eql 3 e (i 3) λ f=>cV f (fA 52 p3 1 λ g=>lA 3 g (drew c) λ h=>
 bB .eql 3 h (i 0) λ j=>cV j (fA 52 p3 2 λ k=>lA 3 k (drew c) λ l=>bB .eql 3 l (i 0) λ n=>cV n (nC m0 λ o=>fA 115 o 6 λ p=>lA 3 p (drew c) λ q=>bB .eql 3 q (i 0) λ s=>
 cV s (nC m0 λ t=>fA 115 t 2 λ u=>lA 112 u (drew c) λ v=>fA 52 p3 3 λ x=>lA 28 x (drew c) λ y=>cF 58 [v,y] (drew c) λ z aa=>bB .eql 37 z (i 0) λ ab=>K1 ab aa) (
 K1 ff (drew c))) (K1 ff (drew c))) (K1 ff (drew c))) (K1 ff (drew c))) (λ ac ad=>∀ _:Env,
 cV ac (nC m0 λ ae=>fA 115 ae 5 λ af=>lA 3 af ad λ ag=>bB .add 3 ag (i 1) λ ah=>nC m0 λ ai=>fA 115 ai 5 λ aj=>sA 3 aj ah ad λ ak=>nC m0 λ al=>fA 115 al 0 λ am=>
 fA 36 am 5 λ an=>lA 33 an ak λ ao=>bS 30 1 [(0,ao)] ak λ ap aq=>cF 55 [m0,ap] aq λ _ ar=>fA 52 p3 3 λ asx=>lA 28 asx ar λ au=>cF 59 [au] ar λ av aw=>cW Tryz.prog (Instr.build 48 [(0,(i 15)),(3,av)].toArray) λ ax=>
 sA 48 b ax aw λ ay=>lA 48 b ay λ r=>K (.tuple #[r,(i 0)]) ay) (cF 16 [m0] ad λ az a0=>cF 61 [az,(.func (Go.Fn.func 60) [].toArray [p3].toArray)] a0 λ a1 a2=>cW Tryz.prog (Op.unary .not a1) λ a3=>
 cV a3 (cW Tryz.prog (Instr.build 48 [].toArray) λ a4=>sA 48 b a4 a2 λ a5=>lA 48 b a5 λ zm=>K (.tuple #[zm,(i 13)]) a5) (fA 52 p3 0 λ a6=>lA 3 a6 a2 λ a7=>bB .eql 3 a7 (i 2) λ a8=>
 cV a8 (lA 52 p3 a2 λ a9=>cF 62 [m0,a9] a2 λ ba bb=>sA 48 b ba bb λ bc=>lA 48 b bc λ MY=>K (.tuple #[MY,(i 0)]) bc) (fA 52 p3 1 λ bd=>lA 3 bd a2 λ be=>cF 63 [m0,be] a2 λ bf bg=>
 sA 48 b bf bg λ bh=>lA 48 b bh λ YW=>K (.tuple #[YW,(i 0)]) bh))))
def P17:dL:=λ i=>match i with
 | 1=>.run 0 30
 | _=>.nil
theorem agU (m0 p1:Value) (h:S17 w K m0 p1):CR 17 [m0,p1] w K:=
 eC 73 P17 48 [.cell 4 48,.tmp 5] Tryz.func17 h
def S18 (m0:Value):Prop:=
 aL 54 w λ a b=>aL 120 b λ aeu c=>sA 120 aeu (.func (.func 64) #[] #[]) c λ d=>nC m0 λ e=>fA 115 e 5 λ f=>lA 3 f (drew d) λ g=>nC m0 λ h=>fA 115 h 6 λ j=>
 lA 3 j (drew d) λ k=>nC m0 λ l=>fA 115 l 7 λ n=>lA 3 n (drew d) λ o=>cW Tryz.prog (Instr.build 54 [(0,g),(1,k),(2,o)].toArray) λ p=>aL 54 (drew d) λ s4 q=>
 kA 3 f g q (kA 3 j k q (kA 3 n o q (sA 54 s4 p q λ s=>lI (λ K1=>nC m0 λ t=>fA 115 t 6 λ u=>lA 3 u s λ v=>bB .eql 3 v (i 0) λ x=>cV x (nC m0 λ y=>fA 115 y 4 λ z=>
 lA 113 z s λ aa=>cF 67 [aa,(.func (Go.Fn.func 68) [].toArray [aeu].toArray)] s λ ab ac=>cW Tryz.prog (Op.unary .not ab) λ ad=>fA 54 s4 3 λ ae=>sA 4 ae ad ac λ af=>
 K1 af) (fA 54 s4 3 λ ag=>sA 4 ag ff s λ ah=>K1 ah)) (λ ai=>∀ _:Env,
 lI (λ K2=>nC m0 λ aj=>fA 115 aj 6 λ ak=>lA 3 ak ai λ al=>bB .eql 3 al (i 0) λ am=>cV am (fA 54 s4 3 λ an=>lA 4 an ai λ ao=>cW Tryz.prog (Op.unary .not ao) λ ap=>
 cV ap (cF 16 [m0] ai λ aq ar=>lN 45 aq λ asx=>bB .eql 3 asx (i 0) λ au=>fA 54 s4 4 λ av=>sA 4 av au ar λ aw=>K2 aw) (fA 54 s4 4 λ ax=>sA 4 ax ff ai λ ay=>K2 ay)) (
 fA 54 s4 4 λ az=>sA 4 az ff ai λ a0=>K2 a0)) (λ a1=>∀ _:Env,
 lA 54 s4 a1 λ a2=>sA 54 a a2 a1 λ a3=>lA 54 a a3 λ r=>K r a3)))))
def P18:dL:=λ i=>match i with
 | 2=>(.of [(0,[]),(1,[]),(2,[]),(3,[]),(4,[]),(5,[]),(6,[]),(7,[]),(8,[]),(9,[]),(10,[]),(11,[]),(12,[]),(13,[3,7,11]),(14,[])])
 | _=>.nil
theorem agV (m0:Value) (h:S18 w K m0):CR 18 [m0] w K:=
 eC 51 P18 4 [.cell 2 54] Tryz.func18 h
def S19 (m0:Value):Prop:=
 nC m0 λ a=>lA 115 a w λ b=>aL 115 w λ c3 c=>sA 115 c3 b c λ d=>nC m0 λ e=>fA 115 e 2 λ f=>lA 112 f (drew d) λ g=>nC m0 λ h=>fA 115 h 3 λ j=>lA 28 j (drew d) λ k=>
 cF 69 [g] (drew d) λ l n=>kA 28 j k n (cF 70 [k] n λ o p=>fA 115 c3 2 λ q=>sA 112 q l p λ r=>fA 115 c3 3 λ s=>sA 28 s o r λ t=>fA 115 c3 4 λ u=>sA 113 u (.slice none 0 0) t λ v=>
 nC m0 λ x=>fA 115 x 4 λ y=>lA 113 y v λ z=>lN 113 z λ aa=>eS (λ K1 ab ac=>∀ _:Env,
 bA .lss 3 ab aa λ ad=>cV ad (iA 113 z ab λ ae=>lA 119 ae ac λ af=>nC af λ ag=>lA 122 ag ac λ ah=>aL 122 ac λ o6 ai=>sA 122 o6 ah ai λ aj=>nC af λ ak=>fA 122 ak 0 λ al=>
 lA 109 al (drew aj) λ am=>nC af λ an=>fA 122 an 3 λ ao=>lA 28 ao (drew aj) λ ap=>nC af λ aq=>fA 122 aq 4 λ ar=>lA 28 ar (drew aj) λ asx=>cF 71 [am] (drew aj) λ au av=>
 kA 28 ao ap av (kA 28 ar asx av (cF 70 [ap] av λ aw ax=>kA 28 ar asx ax (cF 70 [asx] ax λ ay az=>fA 122 o6 0 λ a0=>sA 109 a0 au az λ a1=>fA 122 o6 3 λ a2=>sA 28 a2 aw a1 λ a3=>
 fA 122 o6 4 λ a4=>sA 28 a4 ay a3 λ a5=>fA 115 c3 4 λ a6=>lA 113 a6 a5 λ a7=>bS 113 1 [(0,o6)] a5 λ a8 a9=>aP 113 a7 a8 a9 λ ba bb=>fA 115 c3 4 λ bc=>sA 113 bc ba bb λ bd=>
 bB .add 3 ab (i 1) λ be=>K1 be bd)))) (K c3 ac)) (λ K1=>K1 (i 0) v))
def P19:dL:=λ i=>match i with
 | 2=>(.of [(0,[]),(1,[]),(2,[]),(3,[]),(5,[]),(6,[]),(7,[]),(8,[]),(4,[8]),(9,[]),(10,[]),(11,[]),(12,[]),(13,[]),(14,[]),(15,[])])
 | 7=>(.of [(0,[]),(1,[]),(2,[]),(3,[]),(5,[]),(6,[]),(7,[]),(8,[]),(10,[]),(11,[]),(12,[]),(13,[]),(4,[8,13]),(9,[13]),(14,[]),(15,[]),(16,[]),(17,[]),(18,[]),(19,[]),(20,[])])
 | _=>.nil
theorem agW (m0:Value) (h:S19 w K m0):CR 19 [m0] w K:=
 eC 59 P19 4 [.tmp 2] Tryz.func19 h
def S20 (a0 b1:Value):Prop:=
 lN 45 a0 λ a=>lN 45 b1 λ b=>bA .neq 3 a b λ c=>cV c (K ff w) (eS (λ K1 i5 d=>∀ _:Env,
 lN 45 a0 λ e=>bA .lss 3 i5 e λ f=>cV f (bP (λ K2=>iA 45 a0 i5 λ g=>fA 52 g 0 λ h=>lA 3 h (drew d) λ j=>iA 45 b1 i5 λ k=>fA 52 k 0 λ l=>lA 3 l (drew d) λ n=>
 bA .neq 3 j n λ o=>cV o (K2 tt (drew d)) (iA 45 a0 i5 λ p=>fA 52 p 1 λ q=>lA 3 q (drew d) λ r=>iA 45 b1 i5 λ s=>fA 52 s 1 λ t=>lA 3 t (drew d) λ u=>bA .neq 3 r u λ v=>
 cV v (K2 tt (drew d)) (iA 45 a0 i5 λ x=>fA 52 x 2 λ y=>lA 3 y (drew d) λ z=>iA 45 b1 i5 λ aa=>fA 52 aa 2 λ ab=>lA 3 ab (drew d) λ ac=>bA .neq 3 z ac λ ad=>cV ad (
 K2 tt (drew d)) (iA 45 a0 i5 λ ae=>fA 52 ae 3 λ af=>lA 28 af (drew d) λ ag=>iA 45 b1 i5 λ ah=>fA 52 ah 3 λ ai=>lA 28 ai (drew d) λ aj=>cF 21 [ag,aj] (drew d) λ ak al=>
 cW Tryz.prog (Op.unary .not ak) λ am=>K2 am al)))) (λ an ao=>∀ _:Env,
 cV an (K ff ao) (bB .add 3 i5 (i 1) λ ap=>K1 ap ao))) (K tt d)) (λ K1=>K1 (i 0) w))
def P20:dL:=λ i=>match i with
 | 6=>.run 0 51
 | _=>.nil
theorem agX (a0 b1:Value) (h:S20 w K a0 b1):CR 20 [a0,b1] w K:=
 eC 68 P20 16 [.tmp 4] Tryz.func20 h
def S21 (a0 b1:Value):Prop:=
 lN 28 a0 λ a=>lN 28 b1 λ b=>bA .neq 3 a b λ c=>cV c (K ff w) (eS (λ K1 i5 d=>∀ _:Env,
 lN 28 a0 λ e=>bA .lss 3 i5 e λ f=>cV f (iA 28 a0 i5 λ g=>lA 3 g (drew d) λ h=>iA 28 b1 i5 λ j=>lA 3 j (drew d) λ k=>bA .neq 3 h k λ l=>cV l (K ff (drew d)) (bB .add 3 i5 (i 1) λ n=>
 K1 n (drew d))) (K tt d)) (λ K1=>K1 (i 0) w))
def P21:dL:=λ i=>match i with
 | 6=>.run 0 9
 | _=>.nil
theorem agY (a0 b1:Value) (h:S21 w K a0 b1):CR 21 [a0,b1] w K:=
 eC 26 P21 16 [.tmp 4] Tryz.func21 h
def S22 (m0:Value):Prop:=
 nC m0 λ a=>fA 115 a 2 λ b=>lA 112 b w λ c=>cF 72 [c] w λ d e=>K d e
theorem agZ (m0:Value) (h:S22 w K m0):CR 22 [m0] w K:=
 eC 8 (λ _=>.nil) 4 [.tmp 2] Tryz.func22 h
def S23 (m0:Value):Prop:=
 nC m0 λ a=>fA 115 a 2 λ b=>lA 112 b w λ c=>cF 73 [c] w λ d e=>K d e
theorem ag0 (m0:Value) (h:S23 w K m0):CR 23 [m0] w K:=
 eC 8 (λ _=>.nil) 4 [.tmp 2] Tryz.func23 h
def S24 (a0 l1 c2 zn:Value):Prop:=
 gU Tryz.prog (Instr.box 64 a0) w λ a4 a=>aL 52 a λ b c=>fA 64 a4 1 λ d=>lA 3 d c λ e=>bB .and 3 e (i 65535) λ f=>fA 64 a4 0 λ g=>lA 3 g c λ h=>bB .eql 3 h (i 2) λ j=>
 cV j (fA 64 a4 2 λ k=>lA 52 k c λ l=>aL 52 c λ qI n=>sA 52 qI l n λ o=>fA 64 a4 2 λ p=>fA 52 p 3 λ q=>lA 28 q o λ s=>fA 64 a4 2 λ t=>fA 52 t 3 λ u=>lA 28 u o λ v=>
 lN 28 v λ x=>cW Tryz.prog (Builtin.min_ #[3,3] 3 [x,(i 22)].toArray) λ y=>cW Tryz.prog (Instr.sliceAt 28 s none (some y) none) λ z=>fA 52 qI 3 λ aa=>sA 28 aa z o λ ab=>
 lA 52 qI ab λ ac=>sA 52 b ac ab λ ad=>lA 52 b ad λ r=>K r ad) (bP (λ K1=>fA 64 a4 0 λ ae=>lA 3 ae c λ af=>bB .eql 3 af (i 1) λ ag=>cV ag (bB .lss 3 zn (i 2) λ ah=>
 cV ah (lN 45 c2 λ ai=>bB .gtr 3 ai (i 0) λ aj=>K1 aj c) (K1 ff c)) (K1 ff c)) (λ ak al=>∀ _:Env,
 cV ak (lN 45 c2 λ am=>bA .rem 3 f am λ an=>iA 45 c2 an λ ao=>lA 52 ao al λ ap=>sA 52 b ap al λ aq=>lA 52 b aq λ zm=>K zm aq) (lN 45 l1 λ ar=>bB .gtr 3 ar (i 0) λ asx=>
 cV asx (lN 45 l1 λ au=>bA .rem 3 f au λ av=>iA 45 l1 av λ aw=>lA 52 aw al λ ax=>sA 52 b ax al λ ay=>lA 52 b ay λ MY=>K MY ay) (cW Tryz.prog (Instr.build 52 [].toArray) λ az=>
 sA 52 b az al λ a1=>lA 52 b a1 λ YW=>K YW a1))))
theorem ag1 (a0 l1 c2 zn:Value) (h:S24 w K a0 l1 c2 zn):CR 24 [a0,l1,c2,zn] w K:=
 eC 60 (λ _=>.nil) 256 [.cell 8 52] Tryz.func24 h
def S25 (m0 t1:Value):Prop:=
 bP (λ K1=>bB .lss 3 t1 (i 0) λ a=>cV a (K1 tt w) (nC m0 λ b=>fA 115 b 4 λ c=>lA 113 c w λ d=>lN 113 d λ e=>bA .geq 3 t1 e λ f=>K1 f w)) (λ g h=>∀ _:Env,
 cV g (K (.slice none 0 0) h) (nC m0 λ j=>fA 115 j 4 λ k=>lA 113 k h λ l=>iA 113 l t1 λ n=>lA 119 n h λ o=>nC o λ p=>fA 122 p 3 λ q=>lA 28 q h λ r=>cF 70 [r] h λ s t=>
 K s t))
theorem ag2 (m0 t1:Value) (h:S25 w K m0 t1):CR 25 [m0,t1] w K:=
 eC 27 (λ _=>.nil) 16 [.tmp 4] Tryz.func25 h
theorem auy:PL 11:=eH Tryz.func11
theorem amL:PL 12:=eH Tryz.func12
theorem ag3:PL 14:=eH Tryz.func14
theorem ag4:PL 15:=eH Tryz.func15
theorem HL:PL 16:=eH Tryz.func16
theorem FF:PL 17:=eH Tryz.func17
theorem YX:PL 18:=eH Tryz.func18
theorem auz:PL 19:=eH Tryz.func19
theorem auA:PL 20:=eH Tryz.func20
theorem RH:PL 21:=eH Tryz.func21
theorem ag5:PL 22:=eH Tryz.func22
theorem amM:PL 23:=eH Tryz.func23
theorem auB:PL 24:=eH Tryz.func24
theorem ag6:PL 25:=eH Tryz.func25
set_option maxRecDepth 100000
variable (w:World) (K:Value→World→Prop)
def S31 (m0:Value):Prop:=
 nC m0 λ a=>fA 115 a 6 λ b=>lA 3 b w λ c=>bB .neq 3 c (i 0) λ d=>cV d (K (.slice none 0 0) w) (nC m0 λ e=>fA 115 e 2 λ f=>lA 112 f w λ g=>cF 82 [g] w λ h j=>
 lN 152 h λ k=>kh (λ K1 fX l n=>∀ _:Env,
 bA .lss 3 l k λ o=>cV o (iA 152 h l λ p=>lA 28 p n λ q=>cW Tryz.prog (Instr.build 52 [(0,(i 3)),(3,q)].toArray) λ r=>bS 45 1 [(0,r)] n λ s t=>aP 45 fX s t λ u v=>
 bB .add 3 l (i 1) λ x=>K1 u x v) (K fX n)) (λ K1=>K1 (.slice none 0 0) (i 0) j))
theorem ag7 (m0:Value) (h:S31 w K m0):CR 31 [m0] w K:=
 eC 28 (λ _=>.nil) 4 [.tmp 2] Tryz.func31 h
def S35 (m0 t1:Value):Prop:=
 bP (λ K1=>bB .lss 3 t1 (i 0) λ a=>cV a (K1 tt w) (nC m0 λ b=>fA 115 b 4 λ c=>lA 113 c w λ d=>lN 113 d λ e=>bA .geq 3 t1 e λ f=>K1 f w)) (λ g h=>∀ _:Env,
 cV g (K (.slice none 0 0) h) (nC m0 λ j=>fA 115 j 4 λ k=>lA 113 k h λ l=>iA 113 l t1 λ n=>lA 119 n h λ o=>nC o λ p=>fA 122 p 0 λ q=>lA 109 q h λ r=>cF 91 [r] h λ s t=>
 K s t))
theorem ag8 (m0 t1:Value) (h:S35 w K m0 t1):CR 35 [m0,t1] w K:=
 eC 27 (λ _=>.nil) 16 [.tmp 4] Tryz.func35 h
def P36:dL:=λ i=>match i with
 | 6=>.run 0 9
 | _=>.nil
def S37 (l0:Value):Prop:=
 bS 23 0 [] w λ a b=>kh (λ K1 fX i4 c=>∀ _:Env,
 bP (λ K2=>lN 23 l0 λ d=>bA .lss 3 i4 d λ e=>cV e (bB .lss 3 i4 (i 8) λ f=>K2 f c) (K2 ff c)) (λ g h=>∀ _:Env,
 cV g (iA 23 l0 i4 λ j=>lA 163 j h λ k=>aL 163 h λ c5 l=>sA 163 c5 k l λ n=>fA 163 c5 0 λ o=>lA 9 o n λ p=>fA 163 c5 0 λ q=>lA 9 q n λ r=>lN 9 r λ s=>cW Tryz.prog (Builtin.min_ #[3,3] 3 [s,(i 40)].toArray) λ t=>
 cW Tryz.prog (Instr.sliceAt 9 p none (some t) none) λ u=>fA 163 c5 0 λ v=>sA 9 v u n λ x=>lA 163 c5 x λ y=>bS 23 1 [(0,y)] x λ z aa=>aP 23 fX z aa λ ab ac=>bB .add 3 i4 (i 1) λ ad=>
 K1 ab ad ac) (K fX h))) (λ K1=>K1 a (i 0) b)
theorem ag9 (l0:Value) (h:S37 w K l0):CR 37 [l0] w K:=
 eC 34 (λ _=>.nil) 4 [.tmp 2] Tryz.func37 h
def S38 (l0:Value):Prop:=
 bS 24 0 [] w λ a b=>kh (λ K1 fX i4 c=>∀ _:Env,
 bP (λ K2=>lN 24 l0 λ d=>bA .lss 3 i4 d λ e=>cV e (bB .lss 3 i4 (i 4) λ f=>K2 f c) (K2 ff c)) (λ g h=>∀ _:Env,
 cV g (bP (λ K3=>bP (λ K4=>iA 24 l0 i4 λ j=>fA 98 j 0 λ k=>lA 9 k (drew h) λ l=>iA 24 l0 i4 λ n=>fA 98 n 0 λ o=>lA 9 o (drew h) λ p=>lN 9 p λ q=>cW Tryz.prog (Builtin.min_ #[3,3] 3 [q,(i 40)].toArray) λ r=>
 cW Tryz.prog (Instr.sliceAt 9 l none (some r) none) λ s=>iA 24 l0 i4 λ t=>fA 98 t 3 λ u=>lA 3 u (drew h) λ v=>iA 24 l0 i4 λ x=>fA 98 x 2 λ y=>lA 96 y (drew h) λ z=>
 ((cF 92 [z] (drew h) λ aa ab=>kA 9 k l ab (kA 9 o p ab (kA 3 u v ab (cW Tryz.prog (Instr.build 98 [(0,s),(3,v),(2,aa)].toArray) λ ac=>aL 98 ab λ t5 ad=>kA 9 k l ad (
 kA 9 o p ad (kA 3 u v ad (kA 96 y z ad (sA 98 t5 ac ad λ ae=>K4 t5 ae))))))))
 ∧((aL 98 (drew h) λ amN af=>kA 9 k l af (kA 9 o p af (kA 3 u v af (kA 96 y z af (cF 92 [z] af λ ag ah=>kA 9 k l ah (kA 9 o p ah (kA 3 u v ah (cW Tryz.prog (Instr.build 98 [(0,s),(3,v),(2,ag)].toArray) λ ai=>
 sA 98 amN ai ah λ aj=>K4 amN aj))))))))
 ∧
 True))) (λ aha ak=>∀ _:Env,
 eS (λ K5 k6 al=>∀ _:Env,
 bP (λ K6=>iA 24 l0 i4 λ am=>fA 98 am 1 λ an=>lA 95 an al λ ao=>lN 95 ao λ ap=>bA .lss 3 k6 ap λ aq=>cV aq (bB .lss 3 k6 (i 6) λ ar=>K6 ar al) (K6 ff al)) (λ asx au=>∀ _:Env,
 cV asx (fA 98 aha 1 λ av=>lA 95 av (drew au) λ aw=>iA 24 l0 i4 λ ax=>fA 98 ax 1 λ ay=>lA 95 ay (drew au) λ az=>iA 95 az k6 λ a0=>lA 9 a0 (drew au) λ a1=>iA 24 l0 i4 λ a2=>
 fA 98 a2 1 λ a3=>lA 95 a3 (drew au) λ a4=>iA 95 a4 k6 λ a5=>lA 9 a5 (drew au) λ a6=>lN 9 a6 λ a7=>cW Tryz.prog (Builtin.min_ #[3,3] 3 [a7,(i 40)].toArray) λ a8=>
 cW Tryz.prog (Instr.sliceAt 9 a1 none (some a8) none) λ a9=>bS 95 1 [(0,a9)] (drew au) λ ba bb=>kA 95 av aw bb (aP 95 aw ba bb λ bc bd=>fA 98 aha 1 λ be=>sA 95 be bc bd λ bf=>
 bB .add 3 k6 (i 1) λ bg=>K5 bg bf)) (lA 98 aha au λ bh=>bS 24 1 [(0,bh)] au λ bi bj=>aP 24 fX bi bj λ bk bl=>K3 bk bl))) (λ K5=>K5 (i 0) ak))) (λ nk bm=>∀ _:Env,
 bB .add 3 i4 (i 1) λ bn=>K1 nk bn bm)) (K fX h))) (λ K1=>K1 a (i 0) b)
def P38:dL:=λ i=>match i with
 | 5=>(.op 0 [] (.op 1 [] (.op 2 [] (.op 3 [] (.op 4 [] (.op 5 [] (.op 6 [] (.op 7 [] (.op 8 [] (.op 9 [] (.op 10 [] (.op 11 [] (.op 12 [] (.op 13 [] (.op 14 [] (.op 15 [] (.op 16 [] (.op 17 [] (.op 18 [] (.op 19 [] (.op 20 [] (.op 21 [] (.op 22 [] (.alt 23 [4,9,17] (.of [(24,[]),(25,[4,9,17,22]),(26,[])]) (.alt 25 [4,9,17,22] (.of [(23,[4,9,17]),(24,[]),(26,[])]) .stop)))))))))))))))))))))))))
 | 9=>(.of [(0,[]),(1,[]),(2,[]),(3,[]),(4,[]),(5,[]),(6,[]),(7,[]),(8,[]),(9,[]),(10,[]),(11,[]),(12,[]),(13,[]),(14,[]),(15,[]),(16,[]),(17,[]),(18,[]),(19,[]),(20,[]),(21,[1]),(22,[]),(23,[]),(24,[])])
 | _=>.nil
theorem ahb (l0:Value) (h:S38 w K l0):CR 38 [l0] w K:=
 eC 86 P38 4 [.tmp 2] Tryz.func38 h
def S39 (l0:Value):Prop:=
 bS 86 0 [] w λ a b=>kh (λ K1 fX i4 c=>∀ _:Env,
 bP (λ K2=>lN 86 l0 λ d=>bA .lss 3 i4 d λ e=>cV e (bB .lss 3 i4 (i 60) λ f=>K2 f c) (K2 ff c)) (λ g h=>∀ _:Env,
 cV g (iA 86 l0 i4 λ j=>lA 166 j h λ k=>aL 166 h λ l n=>sA 166 l k n λ o=>fA 166 l 2 λ p=>lA 9 p o λ q=>fA 166 l 2 λ r=>lA 9 r o λ s=>lN 9 s λ t=>cW Tryz.prog (Builtin.min_ #[3,3] 3 [t,(i 40)].toArray) λ u=>
 cW Tryz.prog (Instr.sliceAt 9 q none (some u) none) λ v=>fA 166 l 2 λ x=>sA 9 x v o λ y=>lA 166 l y λ z=>bS 86 1 [(0,z)] y λ aa ab=>aP 86 fX aa ab λ ac ad=>bB .add 3 i4 (i 1) λ ae=>
 K1 ac ae ad) (K fX h))) (λ K1=>K1 a (i 0) b)
theorem ahc (l0:Value) (h:S39 w K l0):CR 39 [l0] w K:=
 eC 34 (λ _=>.nil) 4 [.tmp 2] Tryz.func39 h
def S40 (p0:Value):Prop:=
 gU Tryz.prog (Instr.box 27 p0) w λ p1 a=>lA 27 p1 a λ b=>cF 93 [b] a λ c d=>cW Tryz.prog (Op.unary .not c) λ e=>cV e (K (.tuple #[(i 8),(i 0)]) d) (lA 27 p1 d λ f=>
 cF 94 [f] d λ g h=>cV g (K (.tuple #[(i 2),(i 0)]) h) (lA 27 p1 h λ j=>cF 95 [j] h λ k l=>eS (λ K1 i5 n=>∀ _:Env,
 lN 24 k λ o=>bA .lss 3 i5 o λ p=>cV p (iA 24 k i5 λ q=>fA 98 q 2 λ r=>lA 96 r n λ s=>cF 96 [s,(i 1)] n λ t u=>bB .geq 3 t (i 0) λ v=>cV v (K (.tuple #[(i 11),t]) u) (
 bB .add 3 i5 (i 1) λ x=>K1 x u)) (lA 27 p1 n λ y=>cF 97 [y] n λ z aa=>bB .geq 3 z (i 0) λ ab=>cV ab (K (.tuple #[(i 10),z]) aa) (eS (λ K2 i8 ac=>∀ _:Env,
 lN 24 k λ ad=>bA .lss 3 i8 ad λ ae=>cV ae (eS (λ K3 k9 af=>∀ _:Env,
 iA 24 k i8 λ ag=>fA 98 ag 1 λ ah=>lA 95 ah af λ ai=>lN 95 ai λ aj=>bA .lss 3 k9 aj λ ak=>cV ak (iA 24 k i8 λ al=>fA 98 al 1 λ am=>lA 95 am af λ an=>iA 95 an k9 λ ao=>
 lA 9 ao af λ ap=>bP (λ K4=>iA 24 k i8 λ aq=>fA 98 aq 1 λ ar=>lA 95 ar af λ asx=>cF 98 [asx,ap] af λ au av=>bA .lss 3 au k9 λ aw=>cV aw (K4 tt av) (lA 27 p1 av λ ax=>
 cF 46 [ax] av λ ay az=>cF 98 [ay,ap] az λ a0 a1=>bB .geq 3 a0 (i 0) λ a2=>cV a2 (K4 tt a1) (lA 27 p1 a1 λ a3=>cF 99 [a3] a1 λ a4 a5=>cF 98 [a4,ap] a5 λ a6 a7=>
 bB .geq 3 a6 (i 0) λ a8=>K4 a8 a7))) (λ a9 ba=>∀ _:Env,
 cV a9 (iA 24 k i8 λ bb=>fA 98 bb 3 λ bc=>lA 3 bc (drew ba) λ bd=>K (.tuple #[(i 10),bd]) (drew ba)) (bB .add 3 k9 (i 1) λ be=>K3 be ba))) (bB .add 3 i8 (i 1) λ bf=>
 K2 bf af)) (λ K3=>K3 (i 0) ac)) (eS (λ K5 i11 bg=>∀ _:Env,
 lN 24 k λ bh=>bA .lss 3 i11 bh λ bi=>cV bi (eS (λ K6 k12 bj=>∀ _:Env,
 iA 24 k i11 λ bk=>fA 98 bk 2 λ bl=>lA 96 bl bj λ bm=>lN 96 bm λ bn=>bA .lss 3 k12 bn λ bo=>cV bo (lA 27 p1 (drew bj) λ bp=>iA 24 k i11 λ bq=>lA 98 bq (drew bj) λ br=>
 iA 24 k i11 λ bs=>fA 98 bs 2 λ bt=>lA 96 bt (drew bj) λ bu=>iA 96 bu k12 λ bv=>lA 173 bv (drew bj) λ bw=>cF 100 [bp,br,bw] (drew bj) λ bx bz=>bB .geq 3 bx (i 0) λ b0=>
 cV b0 (K (.tuple #[(i 9),bx]) bz) (bB .add 3 k12 (i 1) λ b1=>K6 b1 bz)) (bB .add 3 i11 (i 1) λ b2=>K5 b2 bj)) (λ K6=>K6 (i 0) bg)) (lA 27 p1 (drew bg) λ b3=>lA 27 p1 (drew bg) λ b4=>
 cF 46 [b3] (drew bg) λ b5 b6=>kA 27 p1 b4 b6 (cF 41 [b4] b6 λ b7 b8=>cW Tryz.prog (Instr.sliceAt 95 b5 none (some b7) none) λ b9=>eS (λ K7 i14 ca=>∀ _:Env,
 fA 27 p1 5 λ cb=>lA 25 cb ca λ cc=>lN 25 cc λ cd=>bA .lss 3 i14 cd λ ce=>cV ce (fA 27 p1 5 λ cf=>lA 25 cf ca λ cg=>iA 25 cg i14 λ ch=>fA 89 ch 0 λ ci=>lA 86 ci ca λ cj=>
 cF 101 [cj,b9] ca λ ck cl=>bB .geq 3 ck (i 0) λ cm=>cV cm (K (.tuple #[(i 9),ck]) cl) (bB .add 3 i14 (i 1) λ cn=>K7 cn cl)) (K (.tuple #[(i 0),(i 0)]) ca)) (λ K7=>K7 (i 0) b8))))
 (λ K5=>K5 (i 0) ac))) (λ K2=>K2 (i 0) aa)))) (λ K1=>K1 (i 0) l)))
def P40:dL:=λ i=>match i with
 | 23=>.run 0 7
 | 30=>.run 0 15
 | 33=>(.of [(0,[]),(2,[]),(1,[2]),(3,[]),(4,[]),(5,[])])
 | _=>.nil
theorem ahd (p0:Value) (h:S40 w K p0):CR 40 [p0] w K:=
 eC 150 P40 12 [.tmp 2,.tmp 3] Tryz.func40 h
def S41 (p0:Value):Prop:=
 gU Tryz.prog (Instr.box 27 p0) w λ p1 a=>lA 27 p1 (drew a) λ b=>fA 27 p1 1 λ c=>lA 23 c (drew a) λ d=>lN 23 d λ e=>cF 102 [b] (drew a) λ f g=>kA 23 c d g (lN 23 f λ h=>
 bA .sub 3 h e λ j=>K j g)
def P41:dL:=λ i=>match i with
 | 1=>(.of [(0,[]),(3,[]),(4,[]),(5,[]),(1,[4]),(2,[]),(6,[]),(7,[])])
 | _=>.nil
theorem ahe (p0:Value) (h:S41 w K p0):CR 41 [p0] w K:=
 eC 10 P41 4 [.tmp 2] Tryz.func41 h
def S42 (p0:Value):Prop:=
 gU Tryz.prog (Instr.box 27 p0) w λ p1 a=>bS 28 0 [] a λ b c=>lA 27 p1 c λ d=>cF 102 [d] c λ e f=>kh (λ K1 fX i5 g=>∀ _:Env,
 lN 23 e λ h=>bA .lss 3 i5 h λ j=>cV j (iA 23 e i5 λ k=>fA 163 k 1 λ l=>lA 3 l g λ n=>bS 28 1 [(0,n)] g λ o p=>aP 28 fX o p λ q r=>bB .add 3 i5 (i 1) λ s=>
 K1 q s r) (K fX g)) (λ K1=>K1 b (i 0) f)
theorem ahf (p0:Value) (h:S42 w K p0):CR 42 [p0] w K:=
 eC 24 (λ _=>.nil) 4 [.tmp 2] Tryz.func42 h
def S43 (p0 fg:Value):Prop:=
 gU Tryz.prog (Instr.box 27 p0) w λ p2 a=>bP (λ K1=>bB .lss 3 fg (i 0) λ b=>cV b (K1 tt a) (lA 27 p2 a λ c=>cF 102 [c] a λ d e=>lN 23 d λ f=>bA .geq 3 fg f λ g=>
 K1 g e)) (λ h j=>∀ _:Env,
 cV h (K (i (-1)) j) (kh (λ K2 at5 i6 k=>∀ _:Env,
 fA 27 p2 0 λ l=>lA 22 l k λ n=>lN 22 n λ o=>bA .lss 3 i6 o λ p=>cV p (fA 27 p2 0 λ q=>lA 22 q k λ r=>iA 22 r i6 λ s=>lA 23 s k λ t=>lN 23 t λ u=>bA .lss 3 at5 u λ v=>
 cV v (K i6 k) (fA 27 p2 0 λ x=>lA 22 x k λ y=>iA 22 y i6 λ z=>lA 23 z k λ aa=>lN 23 aa λ ab=>bA .sub 3 at5 ab λ ac=>bB .add 3 i6 (i 1) λ ad=>K2 ac ad k)) (fA 27 p2 0 λ ae=>
 lA 22 ae k λ af=>lN 22 af λ ag=>bA .add 3 ag at5 λ ah=>K ah k)) (λ K2=>K2 fg (i 0) j)))
theorem ahh (p0 fg:Value) (h:S43 w K p0 fg):CR 43 [p0,fg] w K:=
 eC 46 (λ _=>.nil) 16 [.tmp 4] Tryz.func43 h
def S44 (p0 t1:Value):Prop:=
 gU Tryz.prog (Instr.box 27 p0) w λ p2 a=>gU Tryz.prog (Instr.box 98 t1) a λ t3 b=>aL 33 b λ c d=>lA 27 p2 d λ e=>fA 98 t3 1 λ f=>lA 95 f d λ g=>cW Tryz.prog (Instr.build 177 [(0,e),(1,g)].toArray) λ h=>
 aL 177 d λ v5 j=>sA 177 v5 h j λ k=>fA 98 t3 1 λ l=>lA 95 l (drew k) λ n=>lN 95 n λ o=>fA 98 t3 2 λ p=>lA 96 p (drew k) λ q=>lA 177 v5 (drew k) λ s=>fA 98 t3 2 λ t=>
 lA 96 t (drew k) λ u=>cF 103 [q] (drew k) λ v x=>kA 95 l n x (kA 177 v5 s x (kA 96 t u x (cF 104 [s,u,(i 0),(i 0),(i 0)] x λ y z=>kA 95 l n z (cW Tryz.prog (Instr.build 33 [(0,o),(1,v),(2,y)].toArray) λ aa=>
 sA 33 c aa z λ ab=>lA 33 c ab λ r=>K r ab))))
def P44:dL:=λ i=>match i with
 | 2=>(.of [(0,[]),(1,[]),(2,[]),(3,[]),(4,[]),(6,[]),(7,[]),(8,[]),(5,[1,6,8]),(9,[1]),(10,[]),(11,[])])
 | _=>.nil
theorem ahi (p0 t1:Value) (h:S44 w K p0 t1):CR 44 [p0,t1] w K:=
 eC 21 P44 16 [.cell 4 33] Tryz.func44 h
def S45 (l0 sO:Value):Prop:=
 cF 105 [l0] w λ a b=>cW Tryz.prog (Op.unary .not a) λ c=>cV c (K (.tuple #[(.slice none 0 0),(i 8)]) b) (eS (λ K1 i6 d=>∀ _:Env,
 lN 86 l0 λ e=>bA .lss 3 i6 e λ f=>cV f (bP (λ K2=>iA 86 l0 i6 λ g=>fA 166 g 0 λ h=>lA 3 h d λ j=>bB .eql 3 j (i 2) λ k=>cV k (iA 86 l0 i6 λ l=>fA 166 l 2 λ n=>
 lA 9 n d λ o=>cF 98 [sO,o] d λ p q=>bB .lss 3 p (i 0) λ r=>K2 r q) (K2 ff d)) (λ s t=>∀ _:Env,
 cV s (K (.tuple #[(.slice none 0 0),(i 9)]) t) (bB .add 3 i6 (i 1) λ u=>K1 u t))) (cF 106 [l0,(i 0),sO] d λ v x=>K (.tuple #[v,(i 0)]) x)) (λ K1=>K1 (i 0) b))
theorem ahj (l0 sO:Value) (h:S45 w K l0 sO):CR 45 [l0,sO] w K:=
 eC 35 (λ _=>.nil) 48 [.tmp 4,.tmp 5] Tryz.func45 h
def S46 (p0:Value):Prop:=
 gU Tryz.prog (Instr.box 27 p0) w λ p1 a=>lA 27 p1 a λ b=>cF 102 [b] a λ c d=>cF 107 [c] d λ e f=>K e f
theorem ahk (p0:Value) (h:S46 w K p0):CR 46 [p0] w K:=
 eC 6 (λ _=>.nil) 4 [.tmp 2] Tryz.func46 h
def S48 (s0:Value):Prop:=
 aL 36 w λ a b=>cF 109 [s0] b λ c d=>xT c 0 λ e=>xT c 1 λ _=>xT c 2 λ _=>aL 27 d λ p3 f=>sA 27 p3 e f λ g=>lA 27 p3 g λ h=>cF 12 [h] g λ j k=>xT j 0 λ l=>
 xT j 1 λ _=>aL 36 k λ u6 n=>sA 36 u6 l n λ o=>lA 36 u6 o λ p=>sA 36 a p o λ q=>lA 36 a q λ r=>K r q
theorem ahl (s0:Value) (h:S48 w K s0):CR 48 [s0] w K:=
 eC 20 (λ _=>.nil) 4 [.cell 2 36] Tryz.func48 h
def S49 (m0:Value):Prop:=
 nC m0 λ a=>fA 115 a 0 λ b=>fA 36 b 6 λ c=>lA 34 c w λ d=>lN 34 d λ e=>kh (λ K1 fX f g=>∀ _:Env,
 bA .lss 3 f e λ h=>cV h (bP (λ K2=>iA 34 d f λ j=>lA 99 j g λ k=>nC m0 λ l=>fA 115 l 0 λ n=>fA 36 n 1 λ o=>lA 3 o (drew g) λ p=>cF 22 [m0] (drew g) λ q r=>
 kA 3 o p r (cW Tryz.prog (Instr.sliceAt 28 q none (some p) none) λ s=>cF 110 [k,s] r λ t u=>xT t 0 λ v=>xT t 1 λ x=>bB .eql 37 x (i 0) λ y=>cV y (bB .neq 3 v (i 0) λ z=>
 bS 105 1 [(0,z)] u λ aa ab=>aP 105 fX aa ab λ ac ad=>K2 ac ad) (bS 105 1 [(0,ff)] u λ ae af=>aP 105 fX ae af λ ag ah=>K2 ag ah))) (λ nk ai=>∀ _:Env,
 bB .add 3 f (i 1) λ aj=>K1 nk aj ai)) (K fX g)) (λ K1=>K1 (.slice none 0 0) (i 0) w)
def P49:dL:=λ i=>match i with
 | 5=>(.of [(0,[]),(1,[]),(3,[]),(4,[]),(5,[]),(6,[]),(7,[]),(2,[7]),(8,[]),(9,[]),(10,[]),(11,[]),(12,[]),(13,[]),(14,[])])
 | _=>.nil
theorem ahm (m0:Value) (h:S49 w K m0):CR 49 [m0] w K:=
 eC 42 P49 4 [.tmp 2] Tryz.func49 h
def S50 (a0 b1:Value):Prop:=
 lN 105 a0 λ a=>lN 105 b1 λ b=>bA .neq 3 a b λ c=>cV c (K ff w) (eS (λ K1 i5 d=>∀ _:Env,
 lN 105 a0 λ e=>bA .lss 3 i5 e λ f=>cV f (iA 105 a0 i5 λ g=>lA 4 g (drew d) λ h=>iA 105 b1 i5 λ j=>lA 4 j (drew d) λ k=>bA .neq 4 h k λ l=>cV l (K ff (drew d)) (
 bB .add 3 i5 (i 1) λ n=>K1 n (drew d))) (K tt d)) (λ K1=>K1 (i 0) w))
def P50:dL:=λ i=>match i with
 | 6=>.run 0 9
 | _=>.nil
theorem ahn (a0 b1:Value) (h:S50 w K a0 b1):CR 50 [a0,b1] w K:=
 eC 26 P50 16 [.tmp 4] Tryz.func50 h
def S51 (u0:Value):Prop:=
 gU Tryz.prog (Instr.box 36 u0) w λ u1 a=>bP (λ K1=>fA 36 u1 0 λ b=>lA 28 b a λ c=>lN 28 c λ d=>bB .gtr 3 d (i 20) λ e=>cV e (K1 tt a) (fA 36 u1 1 λ f=>lA 3 f a λ g=>
 bB .lss 3 g (i 0) λ h=>cV h (K1 tt a) (fA 36 u1 1 λ j=>lA 3 j a λ k=>fA 36 u1 0 λ l=>lA 28 l a λ n=>lN 28 n λ o=>bA .gtr 3 k o λ p=>cV p (K1 tt a) (fA 36 u1 2 λ q=>
 lA 28 q a λ r=>lN 28 r λ s=>fA 36 u1 0 λ t=>lA 28 t a λ u=>lN 28 u λ v=>bA .neq 3 s v λ x=>cV x (K1 tt a) (fA 36 u1 3 λ y=>lA 3 y a λ z=>bB .lss 3 z (i 0) λ aa=>
 cV aa (K1 tt a) (fA 36 u1 3 λ ab=>lA 3 ab a λ ac=>bB .gtr 3 ac (i 2) λ ad=>cV ad (K1 tt a) (fA 36 u1 4 λ ae=>lA 30 ae a λ af=>lN 30 af λ ag=>bB .lss 3 ag (i 1) λ ah=>
 cV ah (K1 tt a) (fA 36 u1 4 λ ai=>lA 30 ai a λ aj=>lN 30 aj λ ak=>bB .gtr 3 ak (i 3) λ al=>K1 al a)))))))) (λ am an=>∀ _:Env,
 cV am (K ff an) (fA 36 u1 0 λ ao=>lA 28 ao an λ ap=>lN 28 ap λ aq=>kh (λ K2 aev ar asx=>∀ _:Env,
 bA .lss 3 ar aq λ au=>cV au (iA 28 ap ar λ av=>lA 3 av asx λ aw=>bP (λ K3=>bB .gtr 3 ar (i 0) λ ax=>cV ax (fA 36 u1 1 λ ay=>lA 3 ay asx λ az=>bA .lss 3 ar az λ a0=>
 cV a0 (bA .eql 3 aw aev λ a1=>K3 a1 asx) (K3 ff asx)) (K3 ff asx)) (λ amO a2=>∀ _:Env,
 bP (λ K4=>cW Tryz.prog (Op.unary .not amO) λ a3=>cV a3 (bB .add 3 aev (i 1) λ a4=>bA .neq 3 aw a4 λ a5=>K4 a5 a2) (K4 ff a2)) (λ a6 a7=>∀ _:Env,
 cV a6 (K ff a7) (bB .add 3 ar (i 1) λ a8=>K2 aw a8 a7)))) (bP (λ K5=>fA 36 u1 2 λ a9=>lA 28 a9 asx λ ba=>cF 117 [ba,(.func (.func 111) #[] #[])] asx λ bb bc=>cW Tryz.prog (Op.unary .not bb) λ bd=>
 cV bd (fA 36 u1 4 λ be=>lA 30 be bc λ bf=>cF 118 [bf,(.func (Go.Fn.func 112) [].toArray [u1].toArray)] bc λ bg bh=>cW Tryz.prog (Op.unary .not bg) λ bi=>cV bi (fA 36 u1 5 λ bj=>
 lA 33 bj bh λ bk=>fZ Tryz.prog (.func (Go.Fn.func 112) [].toArray [u1].toArray) [bk] bh λ bl bm=>cW Tryz.prog (Op.unary .not bl) λ bn=>cV bn (fA 36 u1 6 λ bo=>lA 34 bo bm λ bp=>
 cF 119 [bp,(.func (Go.Fn.func 115) [].toArray [u1].toArray)] bm λ bq br=>cW Tryz.prog (Op.unary .not bq) λ bs=>K5 bs br) (K5 ff bm)) (K5 ff bh)) (K5 ff bc)) (λ bt bu=>∀ _:Env,
 K bt bu))) (λ K2=>K2 (i (-1)) (i 0) an)))
theorem aho (u0:Value) (h:S51 w K u0):CR 51 [u0] w K:=
 eC 117 (λ _=>.nil) 4 [.tmp 2] Tryz.func51 h
def S52 (Gn:Value):Prop:=
 bP (λ K1=>bB .lss 3 Gn (i 1) λ a=>cV a (K1 tt w) (bB .gtr 3 Gn (i 16) λ b=>K1 b w)) (λ c d=>∀ _:Env,
 cV c (K (.tuple #[(.pointer none),(i 1)]) d) (cW Tryz.prog (Instr.build 197 [(0,Gn)].toArray) λ e=>gU Tryz.prog (Instr.box 197 e) d λ f g=>K (.tuple #[f,(i 0)]) g))
theorem ahp (Gn:Value) (h:S52 w K Gn):CR 52 [Gn] w K:=
 eC 13 (λ _=>.nil) 12 [.tmp 2,.tmp 3] Tryz.func52 h
def S53 (u0:Value):Prop:=
 gU Tryz.prog (Instr.box 36 u0) w λ u1 a=>aL 36 a λ b c=>fA 36 u1 0 λ d=>lA 28 d (drew c) λ e=>fA 36 u1 2 λ f=>lA 28 f (drew c) λ g=>fA 36 u1 5 λ h=>lA 33 h (drew c) λ j=>
 cF 70 [e] (drew c) λ k l=>kA 28 f g l (kA 33 h j l (fA 36 u1 0 λ n=>cF 70 [g] l λ o p=>kA 33 h j p (cF 120 [j] p λ q s=>sA 28 n k s λ t=>fA 36 u1 2 λ u=>sA 28 u o t λ v=>
 fA 36 u1 5 λ x=>sA 33 x q v λ y=>fA 36 u1 4 λ z=>lA 30 z y λ aa=>lN 30 aa λ ab=>kh (λ K1 tD ac ad=>∀ _:Env,
 bA .lss 3 ac ab λ ae=>cV ae (iA 30 aa ac λ af=>lA 33 af ad λ ag=>aL 33 ad λ c5 ah=>sA 33 c5 ag ah λ ai=>lA 33 c5 ai λ aj=>cF 120 [aj] ai λ ak al=>bS 30 1 [(0,ak)] al λ am an=>
 aP 30 tD am an λ ao ap=>bB .add 3 ac (i 1) λ aq=>K1 ao aq ap) (fA 36 u1 6 λ ar=>lA 34 ar ad λ asx=>lN 34 asx λ au=>kh (λ K2 zo av aw=>∀ _:Env,
 bA .lss 3 av au λ ax=>cV ax (iA 34 asx av λ ay=>lA 99 ay aw λ az=>cF 121 [az] aw λ a0 a1=>bS 34 1 [(0,a0)] a1 λ a2 a3=>aP 34 zo a2 a3 λ a4 a5=>bB .add 3 av (i 1) λ a6=>
 K2 a4 a6 a5) (fA 36 u1 4 λ a7=>sA 30 a7 tD aw λ a8=>fA 36 u1 6 λ a9=>sA 34 a9 zo a8 λ ba=>lA 36 u1 ba λ bb=>sA 36 b bb ba λ bc=>lA 36 b bc λ r=>K r bc))
 (λ K2=>K2 (.slice none 0 0) (i 0) ad))) (λ K1=>K1 (.slice none 0 0) (i 0) y))))
def P53:dL:=λ i=>match i with
 | 1=>(.of [(0,[]),(1,[]),(3,[]),(4,[]),(6,[]),(7,[]),(2,[4,7]),(9,[]),(5,[7]),(8,[]),(10,[]),(11,[]),(12,[]),(13,[]),(14,[])])
 | _=>.nil
theorem ahq (u0:Value) (h:S53 w K u0):CR 53 [u0] w K:=
 eC 52 P53 4 [.cell 2 36] Tryz.func53 h
def S54 (of0 vK uG:Value):Prop:=
 bP (λ K1=>lN 28 of0 λ a=>lN 28 uG λ b=>bA .neq 3 a b λ c=>cV c (K1 tt w) (lN 28 of0 λ d=>bB .gtr 3 d (i 20) λ e=>cV e (K1 tt w) (bB .lss 3 vK (i 0) λ f=>
 cV f (K1 tt w) (lN 28 of0 λ g=>bA .gtr 3 vK g λ h=>K1 h w)))) (λ j k=>∀ _:Env,
 cV j (K (.tuple #[(.pointer none),(i 1)]) k) (cW Tryz.prog (Instr.sliceAt 28 of0 none (some vK) none) λ l=>lN 28 l λ n=>kh (λ K2 aex o p=>∀ _:Env,
 bA .lss 3 o n λ q=>cV q (iA 28 l o λ r=>lA 3 r p λ s=>bP (λ K3=>bB .add 3 aex (i 1) λ t=>bA .neq 3 s t λ u=>cV u (bB .eql 3 o (i 0) λ v=>cV v (K3 tt p) (
 bA .neq 3 s aex λ x=>K3 x p)) (K3 ff p)) (λ y z=>∀ _:Env,
 cV y (K (.tuple #[(.pointer none),(i 1)]) z) (bB .add 3 o (i 1) λ aa=>K2 s aa z))) (cW Tryz.prog (Instr.sliceAt 28 of0 none (some vK) none) λ ab=>cF 70 [ab] p λ ac ad=>
 cF 70 [uG] ad λ ae af=>cF 70 [uG] af λ ag ah=>gU Tryz.prog (Instr.makeMap 201 none) ah λ ai aj=>cW Tryz.prog (Instr.build 203 [(0,ac),(1,ae),(2,ag),(4,ai)].toArray) λ ak=>
 gU Tryz.prog (Instr.box 203 ak) aj λ al am=>cW Tryz.prog (Instr.sliceAt 28 uG none (some vK) none) λ an=>cF 70 [an] am λ ao ap=>nC al λ aq=>fA 203 aq 3 λ ar=>
 sA 28 ar ao ap λ asx=>K (.tuple #[al,(i 0)]) asx)) (λ K2=>K2 (i (-1)) (i 0) k)))
theorem ahr (of0 vK uG:Value) (h:S54 w K of0 vK uG):CR 54 [of0,vK,uG] w K:=
 eC 75 (λ _=>.nil) 192 [.tmp 6,.tmp 7] Tryz.func54 h
def S55 (m0 l1:Value):Prop:=
 nC m0 λ a=>fA 115 a 4 λ b=>sA 113 b (.slice none 0 0) w λ c=>nC m0 λ d=>fA 115 d 3 λ e=>sA 28 e (.slice none 0 0) c λ f=>nC m0 λ g=>fA 115 g 0 λ h=>fA 36 h 3 λ j=>
 lA 3 j f λ k=>eS (λ K1 l n=>∀ _:Env,
 bA .lss 3 l k λ o=>cV o (nC m0 λ p=>fA 115 p 3 λ q=>lA 28 q n λ r=>bS 28 1 [(0,(i (-1)))] n λ s t=>aP 28 r s t λ u v=>nC m0 λ x=>fA 115 x 3 λ y=>sA 28 y u v λ z=>
 bB .add 3 l (i 1) λ aa=>K1 aa z) (lN 30 l1 λ ab=>eS (λ K2 ac ad=>∀ _:Env,
 bA .lss 3 ac ab λ ae=>cV ae (lI (λ K3=>iA 30 l1 ac λ af=>lA 33 af ad λ ag=>aL 33 ad λ c5 ah=>sA 33 c5 ag ah λ ai=>nC m0 λ aj=>fA 115 aj 1 λ ak=>lA 3 ak ai λ al=>
 cF 52 [al] ai λ am an=>xT am 0 λ ao=>xT am 1 λ _=>bP (λ K4=>lA 33 c5 (drew an) λ ap=>fA 33 c5 0 λ aq=>lA 3 aq (drew an) λ ar=>fA 33 c5 1 λ asx=>lA 3 asx (drew an) λ au=>
 ((gU Tryz.prog (Instr.makeSlice 28 ar ar) (drew an) λ av aw=>kA 33 c5 ap aw (kA 3 asx au aw (gU Tryz.prog (Instr.makeSlice 28 au au) aw λ ax ay=>kA 33 c5 ap ay (kA 3 aq ar ay (
 cW Tryz.prog (Instr.build 122 [(0,ao),(1,ap),(3,av),(4,ax)].toArray) λ az=>gU Tryz.prog (Instr.box 122 az) ay λ a0 a1=>K4 a0 a1)))))
 ∧((gU Tryz.prog (Instr.makeSlice 28 au au) (drew an) λ a2 a3=>kA 33 c5 ap a3 (kA 3 aq ar a3 (gU Tryz.prog (Instr.makeSlice 28 ar ar) a3 λ a4 a5=>kA 33 c5 ap a5 (kA 3 asx au a5 (
 cW Tryz.prog (Instr.build 122 [(0,ao),(1,ap),(3,a4),(4,a2)].toArray) λ a6=>gU Tryz.prog (Instr.box 122 a6) a5 λ a7 a8=>K4 a7 a8)))))
 ∧
 True))) (λ t8 a9=>∀ _:Env,
 cF 122 [t8] a9 λ _ ba=>nC m0 λ bb=>fA 115 bb 4 λ bc=>lA 113 bc ba λ bd=>bS 113 1 [(0,t8)] ba λ be bf=>aP 113 bd be bf λ bg bh=>nC m0 λ bi=>fA 115 bi 4 λ bj=>
 sA 113 bj bg bh λ bk=>K3 bk)) (λ bl=>∀ _:Env,
 bB .add 3 ac (i 1) λ bm=>K2 bm bl)) (K (.tuple #[]) ad)) (λ K2=>K2 (i 0) n))) (λ K1=>K1 (i 0) f)
def P55:dL:=λ i=>match i with
 | 9=>(.op 0 [] (.op 1 [] (.op 2 [] (.op 3 [] (.op 5 [] (.op 6 [] (.alt 4 [1,6] (.of [(7,[1,3]),(8,[]),(9,[]),(10,[])]) (.alt 7 [1,3] (.of [(4,[1,6]),(8,[]),(9,[]),(10,[])]) .stop))))))))
 | _=>.nil
theorem ahs (m0 l1:Value) (h:S55 w K m0 l1):CR 55 [m0,l1] w K:=
 eC 69 P55 0 [] Tryz.func55 h
def S56 (m0 t1:Value):Prop:=
 cF 65 [t1] w λ a b=>xT a 0 λ c=>xT a 1 λ d=>aL 129 b λ e f=>sA 129 e c f λ g=>cW Tryz.prog (Op.unary .not d) λ h=>cV h (K ff g) (nC t1 λ j=>fA 122 j 5 λ k=>
 lA 3 k g λ l=>bB .neq 3 l (i 0) λ n=>cV n (K tt g) (fA 129 e 0 λ o=>lA 3 o g λ p=>bP (λ K1=>bB .eql 3 p (i 3) λ q=>cV q (K1 q g) (bB .eql 3 p (i 5) λ r=>cV r (
 K1 r g) (bB .eql 3 p (i 6) λ s=>cV s (K1 s g) (bB .eql 3 p (i 7) λ t=>K1 t g)))) (λ u v=>∀ _:Env,
 cV u (nC t1 λ x=>fA 122 x 0 λ y=>lA 109 y v λ z=>cF 123 [z] v λ aa ab=>cW Tryz.prog (Op.unary .not aa) λ ac=>K ac ab) (bP (λ K2=>bB .eql 3 p (i 4) λ ad=>cV ad (
 K2 ad v) (bB .eql 3 p (i 8) λ ae=>cV ae (K2 ae v) (bB .eql 3 p (i 10) λ af=>K2 af v))) (λ ag ah=>∀ _:Env,
 cV ag (cF 66 [t1] ah λ ai aj=>K ai aj) (bB .eql 3 p (i 9) λ ak=>cV ak (bP (λ K3=>cF 66 [t1] (drew ah) λ al am=>cV al (nC m0 λ an=>fA 115 an 3 λ ao=>lA 28 ao am λ ap=>
 fA 129 e 2 λ aq=>lA 3 aq am λ ar=>iA 28 ap ar λ asx=>lA 3 asx am λ au=>bB .eql 3 au (i (-1)) λ av=>K3 av am) (K3 ff am)) (λ aw ax=>∀ _:Env,
 K aw ax)) (K tt ah)))))))
def P56:dL:=λ i=>match i with
 | 17=>.run 0 14
 | _=>.nil
theorem aht (m0 t1:Value) (h:S56 w K m0 t1):CR 56 [m0,t1] w K:=
 eC 55 P56 16 [.tmp 4] Tryz.func56 h
def S57 (b0:Value):Prop:=
 nC b0 λ a=>fA 197 a 1 λ b=>lA 80 b w λ c=>lN 80 c λ d=>kh (λ K1 fX e f=>∀ _:Env,
 bA .lss 3 e d λ g=>cV g (bP (λ K2=>cF 124 [b0,e] f λ h j=>cV h (bS 28 1 [(0,e)] j λ k l=>aP 28 fX k l λ n o=>K2 n o) (K2 fX j)) (λ nk p=>∀ _:Env,
 bB .add 3 e (i 1) λ q=>K1 nk q p)) (K fX f)) (λ K1=>K1 (.slice none 0 0) (i 0) w)
theorem ahu (b0:Value) (h:S57 w K b0):CR 57 [b0] w K:=
 eC 22 (λ _=>.nil) 4 [.tmp 2] Tryz.func57 h
def S58 (m0 vy:Value):Prop:=
 cF 125 [m0,vy] w λ a b=>xT a 0 λ c=>xT a 1 λ d=>bB .neq 37 d (i 0) λ e=>cV e (K d b) (nC m0 λ f=>fA 203 f 3 λ g=>sA 28 g c b λ h=>nC m0 λ j=>fA 203 j 2 λ k=>
 lA 28 k (drew h) λ l=>nC m0 λ n=>fA 203 n 1 λ o=>lA 28 o (drew h) λ p=>gU Tryz.prog (Builtin.copy_ #[28,28] 3 [l,p].toArray) (drew h) λ _ q=>nC m0 λ r=>fA 203 r 2 λ s=>
 lA 28 s q λ t=>gU Tryz.prog (Builtin.copy_ #[28,28] 3 [t,c].toArray) q λ _ u=>gU Tryz.prog (Instr.makeMap 201 none) u λ v x=>nC m0 λ y=>fA 203 y 4 λ z=>sA 201 z v x λ aa=>
 K (i 0) aa)
def P58:dL:=λ i=>match i with
 | 5=>.run 0 9
 | _=>.nil
theorem ahv (m0 vy:Value) (h:S58 w K m0 vy):CR 58 [m0,vy] w K:=
 eC 39 P58 16 [.tmp 4] Tryz.func58 h
def S59 (TR:Value):Prop:=
 lN 28 TR λ a=>kh (λ K1 n3 b c=>∀ _:Env,
 bA .lss 3 b a λ d=>cV d (iA 28 TR b λ e=>lA 3 e c λ f=>bB .mul 3 n3 (i 10000) λ g=>bA .add 3 g f λ h=>bB .add 3 b (i 1) λ j=>K1 h j c) (K n3 c)) (λ K1=>K1 (i 0) (i 0) w)
theorem ahw (TR:Value) (h:S59 w K TR):CR 59 [TR] w K:=
 eC 18 (λ _=>.nil) 4 [.tmp 2] Tryz.func59 h
def S60 (q0 a:Value):Prop:=
 gU Tryz.prog (Instr.box 52 q0) w λ q2 b=>bP (λ K1=>fA 52 q2 0 λ c=>lA 3 c b λ d=>fA 52 a 0 λ e=>lA 3 e b λ f=>bA .eql 3 d f λ g=>cV g (fA 52 q2 1 λ h=>
 lA 3 h b λ j=>fA 52 a 1 λ k=>lA 3 k b λ l=>bA .eql 3 j l λ n=>cV n (fA 52 q2 2 λ o=>lA 3 o b λ p=>fA 52 a 2 λ q=>lA 3 q b λ r=>bA .eql 3 p r λ s=>cV s (
 fA 52 a 3 λ t=>lA 28 t b λ u=>lN 28 u λ v=>bB .eql 3 v (i 0) λ x=>K1 x b) (K1 ff b)) (K1 ff b)) (K1 ff b)) (λ y z=>∀ _:Env,
 K y z)
theorem ahx (q0 x1:Value) (h:S60 w K q0 x1):CR 60 [q0,x1] w K:=
 eC 29 (λ _=>.nil) 8 [.tmp 3] Tryz.func60 h
def S61 (s0 f1:Value):Prop:=
 cF 126 [s0,f1] w λ a b=>bB .geq 3 a (i 0) λ c=>K c b
theorem ahy (s0 f1:Value) (h:S61 w K s0 f1):CR 61 [s0,f1] w K:=
 eC 9 (λ _=>.nil) 16 [.tmp 4] Tryz.func61 h
def S62 (m0 p1:Value):Prop:=
 gU Tryz.prog (Instr.box 52 p1) w λ p3 a=>aL 48 a λ b c=>bP (λ K1=>nC m0 λ d=>fA 115 d 4 λ e=>lA 113 e (drew c) λ f=>fA 52 p3 1 λ g=>lA 3 g (drew c) λ h=>
 iA 113 f h λ j=>lA 119 j (drew c) λ k=>nC k λ l=>fA 122 l 0 λ n=>lA 109 n (drew c) λ o=>fA 52 p3 2 λ p=>lA 3 p (drew c) λ q=>((cF 127 [o,q] (drew c) λ s t=>
 xT s 0 λ u=>xT s 1 λ _=>aL 161 t λ v x=>kA 113 e f x (kA 3 g h x (kA 119 j k x (kA 109 n o x (kA 3 p q x (sA 161 v u x λ y=>K1 v y))))))
 ∧((aL 161 (drew c) λ z aa=>kA 113 e f aa (kA 3 g h aa (kA 119 j k aa (kA 109 n o aa (kA 3 p q aa (cF 127 [o,q] aa λ ab ac=>xT ab 0 λ ad=>xT ab 1 λ _=>sA 161 z ad ac λ ae=>
 K1 z ae))))))
 ∧
 True))) (λ af ag=>∀ _:Env,
 fA 161 af 0 λ ah=>lA 3 ah ag λ ai=>bB .eql 3 ai (i 3) λ aj=>cV aj (nC m0 λ ak=>fA 115 ak 2 λ al=>lA 112 al (drew ag) λ am=>fA 161 af 2 λ an=>lA 3 an (drew ag) λ ao=>
 fA 161 af 3 λ ap=>lA 3 ap (drew ag) λ aq=>cF 128 [am,ao,aq] (drew ag) λ _ ar=>fA 52 p3 1 λ asx=>lA 3 asx ar λ au=>fA 161 af 2 λ av=>lA 3 av ar λ aw=>fA 161 af 3 λ ax=>
 lA 3 ax ar λ ay=>cW Tryz.prog (Instr.build 48 [(0,(i 12)),(1,au),(2,aw),(3,ay)].toArray) λ az=>sA 48 b az ar λ a0=>lA 48 b a0 λ r=>K r a0) (bB .eql 3 ai (i 7) λ a1=>
 cV a1 (fA 52 p3 1 λ a2=>lA 3 a2 ag λ a3=>cW Tryz.prog (Instr.build 48 [(0,(i 14)),(1,a3)].toArray) λ a4=>sA 48 b a4 ag λ a5=>lA 48 b a5 λ zm=>K zm a5) (nC m0 λ a6=>
 fA 115 a6 2 λ a7=>lA 112 a7 (drew ag) λ a8=>fA 161 af 1 λ a9=>lA 3 a9 (drew ag) λ ba=>cF 129 [a8,ba] (drew ag) λ _ bb=>fA 52 p3 1 λ bc=>lA 3 bc bb λ bd=>fA 161 af 1 λ be=>
 lA 3 be bb λ bf=>cW Tryz.prog (Instr.build 48 [(0,(i 13)),(1,bd),(2,bf)].toArray) λ bg=>sA 48 b bg bb λ bh=>lA 48 b bh λ MY=>K MY bh)))
def P62:dL:=λ i=>match i with
 | 1=>(.op 0 [] (.op 1 [] (.op 2 [] (.op 3 [] (.op 4 [] (.op 5 [] (.op 6 [] (.op 7 [] (.op 8 [] (.op 9 [] (.op 10 [] (.op 11 [] (.op 12 [] (.alt 13 [] (.of [(14,[]),(15,[]),(16,[]),(17,[3,5,7,10,12]),(18,[]),(19,[])]) (.alt 17 [3,5,7,10,12] (.of [(13,[]),(14,[]),(15,[]),(16,[]),(18,[]),(19,[])]) .stop)))))))))))))))
 | 4=>.run 0 9
 | 8=>.run 0 7
 | _=>.nil
theorem ahz (m0 p1:Value) (h:S62 w K m0 p1):CR 62 [m0,p1] w K:=
 eC 61 P62 16 [.cell 4 48] Tryz.func62 h
def S63 (m0 i1:Value):Prop:=
 aL 48 w λ a b=>nC m0 λ c=>fA 115 c 4 λ d=>lA 113 d b λ e=>iA 113 e i1 λ f=>lA 119 f b λ g=>nC g λ h=>fA 122 h 5 λ j=>lA 3 j b λ k=>bB .neq 3 k (i 0) λ l=>
 cV l (nC g λ n=>fA 122 n 5 λ o=>lA 3 o b λ p=>nC m0 λ q=>fA 115 q 6 λ s=>sA 3 s p b λ t=>nC m0 λ u=>fA 115 u 7 λ v=>sA 3 v i1 t λ x=>nC g λ y=>fA 122 y 5 λ z=>
 lA 3 z x λ aa=>cW Tryz.prog (Instr.build 48 [(0,(i 16)),(1,i1),(2,aa)].toArray) λ ab=>sA 48 a ab x λ ac=>lA 48 a ac λ r=>K r ac) (cF 65 [g] b λ ad ae=>xT ad 0 λ af=>
 xT ad 1 λ _=>aL 129 ae λ ag ah=>sA 129 ag af ah λ ai=>gU Tryz.prog (Instr.makeMap 211 none) ai λ aj ak=>A0 Tryz.prog (Instr.mapUpdate 211 aj (i 2) (.func (.func 130) #[] #[])) ak λ al=>
 A0 Tryz.prog (Instr.mapUpdate 211 aj (i 3) (.func (.func 131) #[] #[])) al λ am=>A0 Tryz.prog (Instr.mapUpdate 211 aj (i 5) (.func (.func 131) #[] #[])) am λ an=>A0 Tryz.prog (Instr.mapUpdate 211 aj (i 6) (.func (.func 131) #[] #[])) an λ ao=>
 A0 Tryz.prog (Instr.mapUpdate 211 aj (i 7) (.func (.func 131) #[] #[])) ao λ ap=>A0 Tryz.prog (Instr.mapUpdate 211 aj (i 4) (.func (.func 132) #[] #[])) ap λ aq=>A0 Tryz.prog (Instr.mapUpdate 211 aj (i 8) (.func (.func 133) #[] #[])) aq λ ar=>
 A0 Tryz.prog (Instr.mapUpdate 211 aj (i 9) (.func (.func 134) #[] #[])) ar λ asx=>A0 Tryz.prog (Instr.mapUpdate 211 aj (i 10) (.func (.func 135) #[] #[])) asx λ au=>fA 129 ag 0 λ av=>
 lA 3 av au λ aw=>Df Tryz.prog (Instr.lookup 211 aj aw false) au λ ax=>lA 129 ag au λ ay=>fZ Tryz.prog ax [m0,g,i1,ay] au λ az a0=>aL 48 a0 λ e9 a1=>sA 48 e9 az a1 λ a2=>
 fA 48 e9 1 λ a3=>sA 3 a3 i1 a2 λ a4=>lI (λ K1=>nC m0 λ a5=>fA 115 a5 6 λ a6=>lA 3 a6 a4 λ a7=>bB .eql 3 a7 (i 0) λ a8=>cV a8 (nC g λ a9=>fA 122 a9 2 λ ba=>
 lA 3 ba a4 λ bb=>bB .add 3 bb (i 1) λ bc=>nC g λ bd=>fA 122 bd 2 λ be=>sA 3 be bc a4 λ bf=>cF 122 [g] bf λ _ bg=>K1 bg) (K1 a4)) (λ bh=>∀ _:Env,
 lA 48 e9 bh λ bi=>sA 48 a bi bh λ bj=>lA 48 a bj λ zm=>K zm bj))
theorem ahA (m0 i1:Value) (h:S63 w K m0 i1):CR 63 [m0,i1] w K:=
 eC 72 (λ _=>.nil) 16 [.cell 4 48] Tryz.func63 h
def S64 (t0:Value):Prop:=
 cF 65 [t0] w λ a b=>xT a 0 λ c=>xT a 1 λ d=>aL 129 b λ e f=>sA 129 e c f λ g=>bP (λ K1=>cW Tryz.prog (Op.unary .not d) λ h=>cV h (cF 66 [t0] g λ j k=>K1 j k) (
 K1 ff g)) (λ l n=>∀ _:Env,
 K l n)
theorem ahB (t0:Value) (h:S64 w K t0):CR 64 [t0] w K:=
 eC 16 (λ _=>.nil) 4 [.tmp 2] Tryz.func64 h
def S65 (t0:Value):Prop:=
 aL 129 w λ a b=>nC t0 λ c=>fA 122 c 2 λ d=>lA 3 d (drew b) λ e=>nC t0 λ f=>fA 122 f 1 λ g=>fA 33 g 2 λ h=>lA 31 h (drew b) λ j=>lN 31 j λ k=>bA .geq 3 e k λ l=>
 cV l (cW Tryz.prog (Instr.build 129 [].toArray) λ n=>sA 129 a n (drew b) λ o=>lA 129 a o λ r=>K (.tuple #[r,ff]) o) (nC t0 λ p=>fA 122 p 1 λ q=>fA 33 q 2 λ s=>
 lA 31 s (drew (drew b)) λ t=>nC t0 λ u=>fA 122 u 2 λ v=>lA 3 v (drew (drew b)) λ x=>iA 31 t x λ y=>lA 129 y (drew (drew b)) λ z=>sA 129 a z (drew (drew b)) λ aa=>
 lA 129 a aa λ zm=>K (.tuple #[zm,tt]) aa)
def P65:dL:=λ i=>match i with
 | 1=>.run 0 11
 | 3=>.run 0 13
 | _=>.nil
theorem ahC (t0:Value) (h:S65 w K t0):CR 65 [t0] w K:=
 eC 27 P65 12 [.cell 2 129,.tmp 3] Tryz.func65 h
def S66 (t0:Value):Prop:=
 nC t0 λ a=>fA 122 a 0 λ b=>lA 109 b w λ c=>cF 91 [c] w λ d e=>lN 80 d λ f=>bB .eql 3 f (i 0) λ g=>K g e
theorem ahD (t0:Value) (h:S66 w K t0):CR 66 [t0] w K:=
 eC 10 (λ _=>.nil) 4 [.tmp 2] Tryz.func66 h
def S67 (s0 f1:Value):Prop:=
 cF 136 [s0,f1] w λ a b=>bB .geq 3 a (i 0) λ c=>K c b
theorem ahE (s0 f1:Value) (h:S67 w K s0 f1):CR 67 [s0,f1] w K:=
 eC 9 (λ _=>.nil) 16 [.tmp 4] Tryz.func67 h
def S68 (t0 a:Value):Prop:=
 lA 120 a w λ b=>fZ Tryz.prog b [t0] w λ c d=>cW Tryz.prog (Op.unary .not c) λ e=>K e d
theorem ahF (t0 x1:Value) (h:S68 w K t0 x1):CR 68 [t0,x1] w K:=
 eC 8 (λ _=>.nil) 8 [.tmp 3] Tryz.func68 h
def S69 (m0:Value):Prop:=
 bP (λ K1=>nC m0 λ a=>fA 203 a 0 λ b=>lA 28 b (drew w) λ c=>nC m0 λ d=>fA 203 d 1 λ e=>lA 28 e (drew w) λ f=>((cF 72 [m0] (drew w) λ g h=>kA 28 b c h (kA 28 e f h (
 ((cF 73 [m0] h λ j k=>kA 28 b c k (kA 28 e f k (gU Tryz.prog (Instr.makeMap 201 none) k λ l n=>kA 28 b c n (kA 28 e f n (cW Tryz.prog (Instr.build 203 [(0,c),(1,f),(2,g),(3,j),(4,l)].toArray) λ o=>
 gU Tryz.prog (Instr.box 203 o) n λ p q=>K1 p q)))))
 ∧((gU Tryz.prog (Instr.makeMap 201 none) h λ r s=>kA 28 b c s (kA 28 e f s (cF 73 [m0] s λ t u=>kA 28 b c u (kA 28 e f u (cW Tryz.prog (Instr.build 203 [(0,c),(1,f),(2,g),(3,t),(4,r)].toArray) λ v=>
 gU Tryz.prog (Instr.box 203 v) u λ x y=>K1 x y)))))
 ∧
 True)))))
 ∧((gU Tryz.prog (Instr.makeMap 201 none) (drew w) λ z aa=>kA 28 b c aa (kA 28 e f aa (cF 72 [m0] aa λ ab ac=>kA 28 b c ac (kA 28 e f ac (cF 73 [m0] ac λ ad ae=>kA 28 b c ae (
 kA 28 e f ae (cW Tryz.prog (Instr.build 203 [(0,c),(1,f),(2,ab),(3,ad),(4,z)].toArray) λ af=>gU Tryz.prog (Instr.box 203 af) ae λ ag ah=>K1 ag ah)))))))
 ∧
 True))) (λ c3 ai=>∀ _:Env,
 nC m0 λ aj=>fA 203 aj 4 λ ak=>lA 201 ak ai λ al=>gU Tryz.prog (Instr.range 201 al) ai λ am an=>vI (λ K2 ao=>∀ _:Env,
 gU Tryz.prog (Instr.next am false 0) ao λ ap aq=>xT ap 0 λ ar=>cV ar (Df Tryz.prog (Instr.entry am) aq λ asx=>xT asx 0 λ au=>xT asx 1 λ av=>nC c3 λ aw=>fA 203 aw 4 λ ax=>
 lA 201 ax (drew aq) λ ay=>cF 137 [av] (drew aq) λ az a0=>kA 201 ax ay a0 (A0 Tryz.prog (Instr.mapUpdate 201 ay au az) a0 λ a1=>K2 a1)) (K c3 aq)) (λ K2=>K2 an))
def P69:dL:=λ i=>match i with
 | 1=>(.op 0 [] (.op 1 [] (.op 2 [] (.op 3 [] (.op 4 [] (.op 5 [] (.op 6 [] (.op 7 [] (.op 8 [] (.op 10 [] (.alt 9 [3,7] (.alt 11 [3,7] (.of [(12,[3,7]),(13,[]),(14,[]),(15,[])]) (.alt 12 [3,7] (.of [(11,[3,7]),(13,[]),(14,[]),(15,[])]) .stop)) (.alt 12 [3,7] (.of [(9,[3,7]),(11,[3,7]),(13,[]),(14,[]),(15,[])]) .stop))))))))))))
 | 5=>(.of [(0,[]),(1,[]),(2,[]),(3,[]),(4,[]),(5,[]),(6,[3]),(7,[])])
 | _=>.nil
theorem ahG (m0:Value) (h:S69 w K m0):CR 69 [m0] w K:=
 eC 39 P69 4 [.tmp 2] Tryz.func69 h
def S70 (s0:Value):Prop:=
 bB .eql 28 s0 (.slice none 0 0) λ a=>cV a (K (.slice none 0 0) w) (bS 28 0 [] w λ b c=>aP 28 b s0 c λ d e=>K d e)
theorem ahH (s0:Value) (h:S70 w K s0):CR 70 [s0] w K:=
 eC 8 (λ _=>.nil) 4 [.tmp 2] Tryz.func70 h
def S71 (b0:Value):Prop:=
 nC b0 λ a=>fA 197 a 0 λ b=>lA 3 b (drew w) λ c=>cF 91 [b0] (drew w) λ d e=>kA 3 b c e (cW Tryz.prog (Instr.build 197 [(0,c),(1,d)].toArray) λ f=>gU Tryz.prog (Instr.box 197 f) e λ g h=>
 K g h)
def P71:dL:=λ i=>match i with
 | 1=>(.of [(0,[]),(1,[]),(2,[]),(3,[]),(4,[]),(5,[3]),(6,[]),(7,[]),(8,[])])
 | _=>.nil
theorem ahI (b0:Value) (h:S71 w K b0):CR 71 [b0] w K:=
 eC 11 P71 4 [.tmp 2] Tryz.func71 h
def S72 (m0:Value):Prop:=
 nC m0 λ a=>fA 203 a 2 λ b=>lA 28 b w λ c=>cF 70 [c] w λ d e=>K d e
theorem ahJ (m0:Value) (h:S72 w K m0):CR 72 [m0] w K:=
 eC 8 (λ _=>.nil) 4 [.tmp 2] Tryz.func72 h
def S73 (m0:Value):Prop:=
 nC m0 λ a=>fA 203 a 3 λ b=>lA 28 b w λ c=>cF 70 [c] w λ d e=>K d e
theorem ahK (m0:Value) (h:S73 w K m0):CR 73 [m0] w K:=
 eC 8 (λ _=>.nil) 4 [.tmp 2] Tryz.func73 h
theorem ahL:PL 31:=eH Tryz.func31
theorem auD:PL 35:=eH Tryz.func35
theorem RI:PL 37:=eH Tryz.func37
theorem HM:PL 38:=eH Tryz.func38
theorem ahM:PL 39:=eH Tryz.func39
theorem auE:PL 40:=eH Tryz.func40
theorem YY:PL 41:=eH Tryz.func41
theorem ahN:PL 42:=eH Tryz.func42
theorem amP:PL 43:=eH Tryz.func43
theorem amQ:PL 44:=eH Tryz.func44
theorem YZ:PL 45:=eH Tryz.func45
theorem TS:PL 46:=eH Tryz.func46
theorem auF:PL 48:=eH Tryz.func48
theorem auG:PL 49:=eH Tryz.func49
theorem auH:PL 50:=eH Tryz.func50
theorem auI:PL 51:=eH Tryz.func51
theorem amR:PL 52:=eH Tryz.func52
theorem auJ:PL 53:=eH Tryz.func53
theorem auK:PL 54:=eH Tryz.func54
theorem amS:PL 55:=eH Tryz.func55
theorem auL:PL 56:=eH Tryz.func56
theorem auM:PL 57:=eH Tryz.func57
theorem auN:PL 58:=eH Tryz.func58
theorem auO:PL 59:=eH Tryz.func59
theorem TT:PL 60:=eH Tryz.func60
theorem TU:PL 61:=eH Tryz.func61
theorem TV:PL 62:=eH Tryz.func62
theorem TX:PL 63:=eH Tryz.func63
theorem auP:PL 64:=eH Tryz.func64
theorem Y0:PL 65:=eH Tryz.func65
theorem ahO:PL 66:=eH Tryz.func66
theorem auQ:PL 67:=eH Tryz.func67
theorem auR:PL 68:=eH Tryz.func68
theorem auS:PL 69:=eH Tryz.func69
theorem zp:PL 70:=eH Tryz.func70
theorem auT:PL 71:=eH Tryz.func71
theorem ahP:PL 72:=eH Tryz.func72
theorem TY:PL 73:=eH Tryz.func73
set_option maxRecDepth 100000
variable (w:World) (K:Value→World→Prop)
def P76:dL:=λ i=>match i with
 | 6=>.run 0 37
 | _=>.nil
def S82 (m0:Value):Prop:=
 gU Tryz.prog (Instr.makeMap 218 none) w λ a b=>cF 144 [m0] b λ c d=>gU Tryz.prog (Instr.makeSlice 28 c c) d λ e f=>JP (λ K1 fX oA is6 g=>∀ _:Env,
 cV is6 (bP (λ K2=>cF 125 [m0,oA] g λ h j=>xT h 0 λ k=>xT h 1 λ _=>aL 221 j λ ahQ l=>cW Tryz.prog (Instr.sliceAt 221 ahQ none none none) λ n=>gU Tryz.prog (Builtin.copy_ #[28,28] 3 [n,k].toArray) l λ _ o=>
 lA 221 ahQ o λ p=>Df Tryz.prog (Instr.lookup 218 a p false) o λ q=>cW Tryz.prog (Op.unary .not q) λ r=>cV r (lA 221 ahQ o λ s=>A0 Tryz.prog (Instr.mapUpdate 218 a s tt) o λ t=>
 cF 70 [oA] t λ u v=>bS 152 1 [(0,u)] v λ x y=>aP 152 fX x y λ z aa=>K2 z aa) (K2 fX o)) (λ nk ab=>∀ _:Env,
 cF 145 [m0,oA] ab λ ac ad=>xT ac 0 λ ae=>xT ac 1 λ af=>K1 nk ae af ad)) (K fX g)) (λ K1=>K1 (.slice none 0 0) e tt f)
theorem ahR (m0:Value) (h:S82 w K m0):CR 82 [m0] w K:=
 eC 42 (λ _=>.nil) 4 [.tmp 2] Tryz.func82 h
def S91 (b0:Value):Prop:=
 nC b0 λ a=>fA 197 a 1 λ b=>lA 80 b w λ c=>cF 154 [c] w λ d e=>K d e
theorem ahS (b0:Value) (h:S91 w K b0):CR 91 [b0] w K:=
 eC 8 (λ _=>.nil) 4 [.tmp 2] Tryz.func91 h
def S92 (l0:Value):Prop:=
 bS 96 0 [] w λ a b=>kh (λ K1 fX i4 c=>∀ _:Env,
 bP (λ K2=>lN 96 l0 λ d=>bA .lss 3 i4 d λ e=>cV e (bB .lss 3 i4 (i 50) λ f=>K2 f c) (K2 ff c)) (λ g h=>∀ _:Env,
 cV g (iA 96 l0 i4 λ j=>lA 173 j h λ k=>aL 173 h λ l n=>sA 173 l k n λ o=>fA 173 l 1 λ p=>lA 9 p o λ q=>fA 173 l 1 λ r=>lA 9 r o λ s=>lN 9 s λ t=>cW Tryz.prog (Builtin.min_ #[3,3] 3 [t,(i 40)].toArray) λ u=>
 cW Tryz.prog (Instr.sliceAt 9 q none (some u) none) λ v=>fA 173 l 1 λ x=>sA 9 x v o λ y=>fA 173 l 2 λ z=>lA 9 z y λ aa=>fA 173 l 2 λ ab=>lA 9 ab y λ ac=>lN 9 ac λ ad=>
 cW Tryz.prog (Builtin.min_ #[3,3] 3 [ad,(i 40)].toArray) λ ae=>cW Tryz.prog (Instr.sliceAt 9 aa none (some ae) none) λ af=>fA 173 l 2 λ ag=>sA 9 ag af y λ ah=>fA 173 l 3 λ ai=>
 lA 86 ai ah λ aj=>cF 39 [aj] ah λ ak al=>fA 173 l 3 λ am=>sA 86 am ak al λ an=>fA 173 l 4 λ ao=>lA 86 ao an λ ap=>cF 39 [ap] an λ aq ar=>fA 173 l 4 λ asx=>sA 86 asx aq ar λ au=>
 lA 173 l au λ av=>bS 96 1 [(0,av)] au λ aw ax=>aP 96 fX aw ax λ ay az=>bB .add 3 i4 (i 1) λ a0=>K1 ay a0 az) (K fX h))) (λ K1=>K1 a (i 0) b)
theorem ahT (l0:Value) (h:S92 w K l0):CR 92 [l0] w K:=
 eC 50 (λ _=>.nil) 4 [.tmp 2] Tryz.func92 h
def S93 (p0:Value):Prop:=
 gU Tryz.prog (Instr.box 27 p0) w λ p1 a=>eS (λ K1 i3 b=>∀ _:Env,
 fA 27 p1 0 λ c=>lA 22 c b λ d=>lN 22 d λ e=>bA .lss 3 i3 e λ f=>cV f (bP (λ K2=>fA 27 p1 0 λ g=>lA 22 g b λ h=>iA 22 h i3 λ j=>lA 23 j b λ k=>lN 23 k λ l=>
 bB .eql 3 l (i 0) λ n=>cV n (K2 tt b) (fA 27 p1 0 λ o=>lA 22 o b λ p=>iA 22 p i3 λ q=>lA 23 q b λ r=>cF 155 [r,(i 4294967296)] b λ s t=>cW Tryz.prog (Op.unary .not s) λ u=>
 K2 u t)) (λ v x=>∀ _:Env,
 cV v (K ff x) (bB .add 3 i3 (i 1) λ y=>K1 y x))) (eS (λ K3 i4 z=>∀ _:Env,
 fA 27 p1 5 λ aa=>lA 25 aa z λ ab=>lN 25 ab λ ac=>bA .lss 3 i4 ac λ ad=>cV ad (bP (λ K4=>fA 27 p1 5 λ ae=>lA 25 ae z λ af=>iA 25 af i4 λ ag=>fA 89 ag 1 λ ah=>
 lA 3 ah z λ ai=>cF 156 [ai] z λ aj ak=>cW Tryz.prog (Op.unary .not aj) λ al=>cV al (K4 tt ak) (fA 27 p1 5 λ am=>lA 25 am ak λ an=>iA 25 an i4 λ ao=>fA 89 ao 0 λ ap=>
 lA 86 ap ak λ aq=>cF 105 [aq] ak λ ar asx=>cW Tryz.prog (Op.unary .not ar) λ au=>K4 au asx)) (λ av aw=>∀ _:Env,
 cV av (K ff aw) (bB .add 3 i4 (i 1) λ ax=>K3 ax aw))) (bP (λ K5=>fA 27 p1 1 λ ay=>lA 23 ay z λ az=>cF 155 [az,(i 4294967296)] z λ a0 a1=>cV a0 (fA 27 p1 2 λ a2=>
 lA 23 a2 a1 λ a3=>cF 155 [a3,(i 0)] a1 λ a4 a5=>cV a4 (fA 27 p1 3 λ a6=>lA 24 a6 a5 λ a7=>cF 157 [a7,tt] a5 λ a8 a9=>cV a8 (fA 27 p1 4 λ ba=>lA 24 ba a9 λ bb=>
 cF 157 [bb,ff] a9 λ bc bd=>cV bc (fA 27 p1 4 λ be=>lA 24 be bd λ bf=>lN 24 bf λ bg=>bB .leq 3 bg (i 1) λ bh=>K5 bh bd) (K5 ff bd)) (K5 ff a9)) (K5 ff a5)) (K5 ff a1))
 (λ bi bj=>∀ _:Env,
 K bi bj))) (λ K3=>K3 (i 0) b))) (λ K1=>K1 (i 0) a)
theorem ahU (p0:Value) (h:S93 w K p0):CR 93 [p0] w K:=
 eC 77 (λ _=>.nil) 4 [.tmp 2] Tryz.func93 h
def S94 (p0:Value):Prop:=
 gU Tryz.prog (Instr.box 27 p0) w λ p1 a=>eS (λ K1 i3 b=>∀ _:Env,
 fA 27 p1 0 λ c=>lA 22 c b λ d=>lN 22 d λ e=>bA .lss 3 i3 e λ f=>cV f (fA 27 p1 0 λ g=>lA 22 g b λ h=>iA 22 h i3 λ j=>lA 23 j b λ k=>lN 23 k λ l=>bB .gtr 3 l (i 4) λ n=>
 cV n (K tt b) (bB .add 3 i3 (i 1) λ o=>K1 o b)) (lA 27 p1 b λ p=>cF 95 [p] b λ q r=>eS (λ K2 i5 s=>∀ _:Env,
 lN 24 q λ t=>bA .lss 3 i5 t λ u=>cV u (iA 24 q i5 λ v=>fA 98 v 1 λ x=>lA 95 x s λ y=>lN 95 y λ z=>bB .gtr 3 z (i 4) λ aa=>cV aa (K tt s) (bB .add 3 i5 (i 1) λ ab=>
 K2 ab s)) (bP (λ K3=>fA 27 p1 0 λ ac=>lA 22 ac s λ ad=>lN 22 ad λ ae=>bB .gtr 3 ae (i 4) λ af=>cV af (K3 tt s) (fA 27 p1 1 λ ag=>lA 23 ag s λ ah=>lN 23 ah λ ai=>
 bB .gtr 3 ai (i 4) λ aj=>cV aj (K3 tt s) (fA 27 p1 2 λ ak=>lA 23 ak s λ al=>lN 23 al λ am=>bB .gtr 3 am (i 2) λ an=>cV an (K3 tt s) (fA 27 p1 3 λ ao=>lA 24 ao s λ ap=>
 lN 24 ap λ aq=>bB .lss 3 aq (i 1) λ ar=>cV ar (K3 tt s) (fA 27 p1 3 λ asx=>lA 24 asx s λ au=>lN 24 au λ av=>bB .gtr 3 av (i 3) λ aw=>cV aw (K3 tt s) (fA 27 p1 5 λ ax=>
 lA 25 ax s λ ay=>lN 25 ay λ az=>bB .gtr 3 az (i 4) λ a0=>K3 a0 s)))))) (λ a1 a2=>∀ _:Env,
 K a1 a2))) (λ K2=>K2 (i 0) r))) (λ K1=>K1 (i 0) a)
theorem ahV (p0:Value) (h:S94 w K p0):CR 94 [p0] w K:=
 eC 69 (λ _=>.nil) 4 [.tmp 2] Tryz.func94 h
def S95 (p0:Value):Prop:=
 gU Tryz.prog (Instr.box 27 p0) w λ p1 a=>bS 24 0 [] a λ b c=>fA 27 p1 3 λ d=>lA 24 d c λ e=>aP 24 b e c λ f g=>fA 27 p1 4 λ h=>lA 24 h g λ j=>aP 24 f j g λ k l=>
 K k l
theorem ahW (p0:Value) (h:S95 w K p0):CR 95 [p0] w K:=
 eC 12 (λ _=>.nil) 4 [.tmp 2] Tryz.func95 h
def S96 (l0 wX:Value):Prop:=
 lN 96 l0 λ a=>bB .eql 3 a (i 0) λ b=>cV b (K (i (-1)) w) (iA 96 l0 (i 0) λ c=>lA 173 c w λ d=>aL 173 w λ e f=>sA 173 e d f λ g=>bP (λ K1=>fA 173 e 0 λ h=>
 lA 3 h g λ j=>bB .eql 3 j (i 12) λ k=>cV k (fA 173 e 5 λ l=>lA 3 l g λ n=>bA .mul 3 wX n λ o=>K1 o g) (K1 wX g)) (λ n6 p=>∀ _:Env,
 bB .gtr 3 n6 (i 64) λ q=>cV q (fA 173 e 8 λ r=>lA 3 r p λ s=>K s p) (fA 173 e 6 λ t=>lA 3 t p λ u=>bC .add 3 (i 1) u λ v=>fA 173 e 7 λ x=>lA 3 x p λ y=>bA .add 3 v y λ z=>
 cW Tryz.prog (Instr.sliceAt 96 l0 (some (i 1)) (some z) none) λ aa=>cF 96 [aa,n6] p λ ab ac=>bB .geq 3 ab (i 0) λ ad=>cV ad (K ab ac) (cW Tryz.prog (Instr.sliceAt 96 l0 (some z) none none) λ ae=>
 cF 96 [ae,wX] ac λ af ag=>K af ag))))
theorem ahX (l0 wX:Value) (h:S96 w K l0 wX):CR 96 [l0,wX] w K:=
 eC 46 (λ _=>.nil) 16 [.tmp 4] Tryz.func96 h
def S97 (p0:Value):Prop:=
 gU Tryz.prog (Instr.box 27 p0) w λ p1 a=>bS 23 0 [] a λ b c=>lA 27 p1 c λ d=>cF 102 [d] c λ e f=>aP 23 b e f λ g h=>fA 27 p1 2 λ j=>lA 23 j h λ k=>aP 23 g k h λ l n=>
 kh (λ K1 l3 i4 o=>∀ _:Env,
 fA 27 p1 3 λ p=>lA 24 p o λ q=>lN 24 q λ r=>bA .lss 3 i4 r λ s=>cV s (fA 27 p1 3 λ t=>lA 24 t (drew o) λ u=>iA 24 u i4 λ v=>fA 98 v 0 λ x=>lA 9 x (drew o) λ y=>
 fA 27 p1 3 λ z=>lA 24 z (drew o) λ aa=>iA 24 aa i4 λ ab=>fA 98 ab 3 λ ac=>lA 3 ac (drew o) λ ad=>cW Tryz.prog (Instr.build 163 [(0,y),(2,ad)].toArray) λ ae=>
 bS 23 1 [(0,ae)] (drew o) λ af ag=>aP 23 l3 af ag λ ah ai=>bB .add 3 i4 (i 1) λ aj=>K1 ah aj ai) (cF 107 [l3] o λ ak al=>eS (λ K2 i6 am=>∀ _:Env,
 lN 23 l3 λ an=>bA .lss 3 i6 an λ ao=>cV ao (iA 23 l3 i6 λ ap=>fA 163 ap 0 λ aq=>lA 9 aq am λ ar=>cF 98 [ak,ar] am λ asx au=>bA .lss 3 asx i6 λ av=>cV av (iA 23 l3 i6 λ aw=>
 fA 163 aw 2 λ ax=>lA 3 ax au λ ay=>K ay au) (bB .add 3 i6 (i 1) λ az=>K2 az au)) (K (i (-1)) am)) (λ K2=>K2 (i 0) al))) (λ K1=>K1 l (i 0) n)
def P97:dL:=λ i=>match i with
 | 6=>.run 0 17
 | _=>.nil
theorem ahY (p0:Value) (h:S97 w K p0):CR 97 [p0] w K:=
 eC 60 P97 4 [.tmp 2] Tryz.func97 h
def S98 (l0 s1:Value):Prop:=
 eS (λ K1 i5 a=>∀ _:Env,
 lN 95 l0 λ b=>bA .lss 3 i5 b λ c=>cV c (iA 95 l0 i5 λ d=>lA 9 d a λ e=>bA .eql 9 e s1 λ f=>cV f (K i5 a) (bB .add 3 i5 (i 1) λ g=>K1 g a)) (K (i (-1)) a)) (λ K1=>K1 (i 0) w)
theorem ahZ (l0 s1:Value) (h:S98 w K l0 s1):CR 98 [l0,s1] w K:=
 eC 19 (λ _=>.nil) 16 [.tmp 4] Tryz.func98 h
def S99 (p0:Value):Prop:=
 gU Tryz.prog (Instr.box 27 p0) w λ p1 a=>fA 27 p1 2 λ b=>lA 23 b a λ c=>cF 107 [c] a λ d e=>K d e
theorem ah0 (p0:Value) (h:S99 w K p0):CR 99 [p0] w K:=
 eC 6 (λ _=>.nil) 4 [.tmp 2] Tryz.func99 h
def S100 (p0 t1 a:Value):Prop:=
 gU Tryz.prog (Instr.box 27 p0) w λ p3 b=>gU Tryz.prog (Instr.box 98 t1) b λ t4 c=>gU Tryz.prog (Instr.box 173 a) c λ d e=>bP (λ K1=>fA 173 d 1 λ f=>lA 9 f e λ g=>
 cW Tryz.prog (iI .neq 9 false true g (Go.Value.string (ByteArray.mk (#[])))) λ h=>cV h (fA 98 t4 1 λ j=>lA 95 j e λ k=>fA 173 d 1 λ l=>lA 9 l e λ n=>cF 98 [k,n] e λ o p=>
 bB .lss 3 o (i 0) λ q=>K1 q p) (K1 ff e)) (λ r s=>∀ _:Env,
 cV r (fA 173 d 8 λ t=>lA 3 t s λ u=>K u s) (lA 27 p3 (drew s) λ v=>fA 173 d 2 λ x=>lA 9 x (drew s) λ y=>cF 46 [v] (drew s) λ z aa=>kA 9 x y aa (cF 98 [z,y] aa λ ab ac=>
 lI (λ K2=>fA 173 d 0 λ ad=>lA 3 ad ac λ ae=>bP (λ K3=>bB .eql 3 ae (i 2) λ af=>cV af (K3 af ac) (bB .eql 3 ae (i 3) λ ag=>cV ag (K3 ag ac) (bB .eql 3 ae (i 4) λ ah=>
 K3 ah ac))) (λ ai aj=>∀ _:Env,
 cV ai (bB .lss 3 ab (i 0) λ ak=>cV ak (fA 173 d 8 λ al=>lA 3 al aj λ am=>K am aj) (K2 aj)) (bP (λ K4=>bB .eql 3 ae (i 5) λ an=>cV an (K4 an aj) (bB .eql 3 ae (i 6) λ ao=>
 K4 ao aj)) (λ ap aq=>∀ _:Env,
 cV ap (bP (λ K5=>bB .lss 3 ab (i 0) λ ar=>cV ar (K5 tt aq) (lA 27 p3 aq λ asx=>cF 41 [asx] aq λ au av=>bA .geq 3 ab au λ aw=>K5 aw av)) (λ ax ay=>∀ _:Env,
 cV ax (fA 173 d 8 λ az=>lA 3 az ay λ a0=>K a0 ay) (K2 ay))) (bP (λ K6=>bB .eql 3 ae (i 9) λ a1=>cV a1 (K6 a1 aq) (bB .eql 3 ae (i 10) λ a2=>K6 a2 aq)) (λ a3 a4=>∀ _:Env,
 cV a3 (lA 27 p3 (drew a4) λ a5=>fA 173 d 2 λ a6=>lA 9 a6 (drew a4) λ a7=>cF 99 [a5] (drew a4) λ a8 a9=>kA 9 a6 a7 a9 (cF 98 [a8,a7] a9 λ ba bb=>bB .lss 3 ba (i 0) λ bc=>
 cV bc (fA 173 d 8 λ bd=>lA 3 bd bb λ be=>K be bb) (K2 bb))) (K2 a4))))))) (λ bf=>∀ _:Env,
 fA 173 d 3 λ bg=>lA 86 bg bf λ bh=>fA 98 t4 1 λ bi=>lA 95 bi bf λ bj=>cF 101 [bh,bj] bf λ bk bl=>bB .geq 3 bk (i 0) λ bm=>cV bm (K bk bl) (fA 173 d 4 λ bn=>lA 86 bn bl λ bo=>
 fA 98 t4 1 λ bp=>lA 95 bp bl λ bq=>cF 101 [bo,bq] bl λ br bs=>K br bs)))))
def auV:dL:=λ i=>match i with
 | 3=>(.of [(0,[]),(2,[]),(3,[]),(1,[3]),(4,[]),(5,[])])
 | 16=>(.of [(0,[]),(2,[]),(3,[]),(1,[3]),(4,[]),(5,[])])
 | _=>.nil
theorem Y3 (p0 t1 x2:Value) (h:S100 w K p0 t1 x2):CR 100 [p0,t1,x2] w K:=
 eC 74 auV 64 [.tmp 6] Tryz.func100 h
def S101 (l0 sO:Value):Prop:=
 eS (λ K1 i5 a=>∀ _:Env,
 lN 86 l0 λ b=>bA .lss 3 i5 b λ c=>cV c (bP (λ K2=>iA 86 l0 i5 λ d=>fA 166 d 0 λ e=>lA 3 e a λ f=>bB .eql 3 f (i 2) λ g=>cV g (iA 86 l0 i5 λ h=>fA 166 h 2 λ j=>
 lA 9 j a λ k=>cF 98 [sO,k] a λ l n=>bB .lss 3 l (i 0) λ o=>K2 o n) (K2 ff a)) (λ p q=>∀ _:Env,
 cV p (iA 86 l0 i5 λ r=>fA 166 r 3 λ s=>lA 3 s q λ t=>K t q) (bB .add 3 i5 (i 1) λ u=>K1 u q))) (K (i (-1)) a)) (λ K1=>K1 (i 0) w)
theorem Y4 (l0 sO:Value) (h:S101 w K l0 sO):CR 101 [l0,sO] w K:=
 eC 33 (λ _=>.nil) 16 [.tmp 4] Tryz.func101 h
def S102 (p0:Value):Prop:=
 gU Tryz.prog (Instr.box 27 p0) w λ p1 a=>bS 23 0 [] a λ b c=>kh (λ K1 fX i4 d=>∀ _:Env,
 fA 27 p1 0 λ e=>lA 22 e d λ f=>lN 22 f λ g=>bA .lss 3 i4 g λ h=>cV h (fA 27 p1 0 λ j=>lA 22 j d λ k=>iA 22 k i4 λ l=>lA 23 l d λ n=>aP 23 fX n d λ o p=>
 bB .add 3 i4 (i 1) λ q=>K1 o q p) (fA 27 p1 1 λ r=>lA 23 r d λ s=>aP 23 fX s d λ t u=>K t u)) (λ K1=>K1 b (i 0) c)
theorem Y5 (p0:Value) (h:S102 w K p0):CR 102 [p0] w K:=
 eC 24 (λ _=>.nil) 4 [.tmp 2] Tryz.func102 h
def S103 (l0:Value):Prop:=
 lN 96 l0 λ a=>bB .eql 3 a (i 0) λ b=>cV b (K (i 0) w) (iA 96 l0 (i 0) λ c=>lA 173 c w λ d=>aL 173 w λ e f=>sA 173 e d f λ g=>fA 173 e 6 λ h=>lA 3 h g λ j=>
 bC .add 3 (i 1) j λ k=>fA 173 e 7 λ l=>lA 3 l g λ n=>bA .add 3 k n λ o=>cW Tryz.prog (Instr.sliceAt 96 l0 (some (i 1)) (some k) none) λ p=>cW Tryz.prog (Instr.sliceAt 96 l0 (some k) (some o) none) λ q=>
 cF 103 [p] (drew g) λ r s=>cF 103 [q] s λ t u=>cW Tryz.prog (Builtin.max_ #[3,3] 3 [r,t].toArray) λ v=>bP (λ K1=>fA 173 e 0 λ x=>lA 3 x u λ y=>bB .eql 3 y (i 12) λ z=>
 cV z (bB .add 3 v (i 1) λ aa=>K1 aa u) (K1 v u)) (λ n6 ab=>∀ _:Env,
 cW Tryz.prog (Instr.sliceAt 96 l0 (some o) none none) λ ac=>cF 103 [ac] ab λ ad ae=>cW Tryz.prog (Builtin.max_ #[3,3] 3 [n6,ad].toArray) λ af=>K af ae))
def auW:dL:=λ i=>match i with
 | 6=>(.of [(0,[]),(1,[]),(2,[]),(4,[]),(5,[]),(6,[]),(7,[]),(3,[]),(8,[]),(9,[]),(10,[])])
 | _=>.nil
theorem Y6 (l0:Value) (h:S103 w K l0):CR 103 [l0] w K:=
 eC 41 auW 4 [.tmp 2] Tryz.func103 h
def S104 (v0 l1 Pj uH MZ:Value):Prop:=
 gU Tryz.prog (Instr.box 177 v0) w λ v5 a=>lN 96 l1 λ b=>bB .eql 3 b (i 0) λ c=>cV c (K (.slice none 0 0) a) (iA 96 l1 (i 0) λ d=>lA 173 d a λ e=>aL 173 a λ f g=>
 sA 173 f e g λ h=>fA 173 f 6 λ j=>lA 3 j h λ k=>bC .add 3 (i 1) k λ l=>fA 173 f 7 λ n=>lA 3 n h λ o=>bA .add 3 l o λ p=>cW Tryz.prog (Instr.sliceAt 96 l1 (some (i 1)) (some l) none) λ q=>
 cW Tryz.prog (Instr.sliceAt 96 l1 (some l) (some p) none) λ r=>bS 31 0 [] (drew h) λ s t=>bP (λ K1=>fA 173 f 0 λ u=>lA 3 u t λ v=>bB .eql 3 v (i 11) λ x=>cV x (
 fA 173 f 3 λ y=>lA 86 y t λ z=>fA 177 v5 1 λ aa=>lA 95 aa t λ ab=>cF 45 [z,ab] t λ ac ad=>xT ac 0 λ ae=>xT ac 1 λ _=>bB .add 3 Pj (i 1) λ af=>cF 158 [q] ad λ ag ah=>
 bA .add 3 af ag λ ai=>bP (λ K2=>fA 173 f 7 λ aj=>lA 3 aj ah λ ak=>bB .gtr 3 ak (i 0) λ al=>cV al (bB .add 3 ai (i 1) λ am=>K2 am ah) (K2 ai ah)) (λ ah1 an=>∀ _:Env,
 cW Tryz.prog (Instr.build 129 [(0,(i 12)),(3,ae),(5,ah1)].toArray) λ ao=>bS 31 1 [(0,ao)] an λ ap aq=>aP 31 s ap aq λ ar asx=>lA 177 v5 asx λ au=>bB .add 3 Pj (i 1) λ av=>
 cF 104 [au,q,av,uH,MZ] asx λ aw ax=>aP 31 ar aw ax λ ay az=>bP (λ K3=>fA 173 f 7 λ a0=>lA 3 a0 az λ a1=>bB .gtr 3 a1 (i 0) λ a2=>cV a2 (cF 158 [r] az λ a3 a4=>
 bA .add 3 ah1 a3 λ a5=>cW Tryz.prog (Instr.build 129 [(0,(i 11)),(5,a5)].toArray) λ a6=>bS 31 1 [(0,a6)] a4 λ a7 a8=>aP 31 ay a7 a8 λ a9 ba=>K3 a9 ba) (K3 ay az))
 (λ r16 bb=>∀ _:Env,
 lA 177 v5 bb λ bc=>cF 104 [bc,r,ah1,uH,MZ] bb λ bd be=>aP 31 r16 bd be λ bf bg=>K1 bf bg))) (bB .eql 3 v (i 12) λ bh=>cV bh (bB .add 3 Pj (i 2) λ bi=>cF 158 [q] t λ bj bk=>
 bA .add 3 bi bj λ bl=>fA 173 f 5 λ bm=>lA 3 bm bk λ bn=>cW Tryz.prog (Instr.build 129 [(0,(i 13)),(1,uH),(2,bn)].toArray) λ bo=>bS 31 1 [(0,bo)] bk λ bp bq=>
 aP 31 s bp bq λ br bs=>lA 177 v5 bs λ bt=>bB .add 3 Pj (i 1) λ bu=>bB .add 3 uH (i 1) λ bv=>cF 104 [bt,q,bu,bv,bl] bs λ bw bx=>aP 31 br bw bx λ bz b0=>bB .add 3 Pj (i 1) λ b1=>
 cW Tryz.prog (Instr.build 129 [(0,(i 14)),(1,uH),(5,b1)].toArray) λ b2=>bS 31 1 [(0,b2)] b0 λ b3 b4=>aP 31 bz b3 b4 λ b5 b6=>K1 b5 b6) (bB .eql 3 v (i 13) λ b7=>
 cV b7 (cW Tryz.prog (Instr.build 129 [(0,(i 11)),(5,MZ)].toArray) λ b8=>bS 31 1 [(0,b8)] t λ b9 ca=>aP 31 s b9 ca λ cb cc=>K1 cb cc) (lA 177 v5 t λ cd=>lA 173 f t λ ce=>
 cF 159 [cd,ce] t λ cf cg=>bS 31 1 [(0,cf)] cg λ ch ci=>aP 31 s ch ci λ cj ck=>K1 cj ck)))) (λ JW cl=>∀ _:Env,
 lA 177 v5 (drew cl) λ cm=>cW Tryz.prog (Instr.sliceAt 96 l1 (some p) none none) λ cn=>lN 31 JW λ co=>bA .add 3 Pj co λ cp=>cF 104 [cm,cn,cp,uH,MZ] (drew cl) λ cq cr=>
 aP 31 JW cq cr λ cs ct=>K cs ct))
def auX:dL:=λ i=>match i with
 | 6=>.run 0 9
 | 27=>.run 0 14
 | _=>.nil
theorem Y7 (v0 l1 Pj uH MZ:Value) (h:S104 w K v0 l1 Pj uH MZ):CR 104 [v0,l1,Pj,uH,MZ] w K:=
 eC 156 auX 1024 [.tmp 10] Tryz.func104 h
def S105 (l0:Value):Prop:=
 bP (λ K1=>lN 86 l0 λ a=>bB .gtr 3 a (i 40) λ b=>cV b (K1 tt w) (cF 160 [l0,(i 0)] w λ c d=>lN 86 l0 λ e=>bA .neq 3 c e λ f=>K1 f d)) (λ g h=>∀ _:Env,
 cV g (K ff h) (eS (λ K2 i3 j=>∀ _:Env,
 lN 86 l0 λ k=>bA .lss 3 i3 k λ l=>cV l (iA 86 l0 i3 λ n=>lA 166 n j λ o=>aL 166 j λ p q=>sA 166 p o q λ r=>bP (λ K3=>fA 166 p 3 λ s=>lA 3 s r λ t=>bB .lss 3 t (i 0) λ u=>
 cV u (K3 tt r) (fA 166 p 3 λ v=>lA 3 v r λ x=>bB .gtr 3 x (i 4000) λ y=>cV y (K3 tt r) (fA 166 p 0 λ z=>lA 3 z r λ aa=>bB .neq 3 aa (i 1) λ ab=>cV ab (fA 166 p 1 λ ac=>
 lA 3 ac r λ ad=>bB .neq 3 ad (i 0) λ ae=>cV ae (K3 tt r) (fA 166 p 0 λ af=>lA 3 af r λ ag=>bB .neq 3 ag (i 2) λ ah=>cV ah (fA 166 p 2 λ ai=>lA 9 ai r λ aj=>cW Tryz.prog (iI .neq 9 false true aj (Go.Value.string (ByteArray.mk (#[])))) λ ak=>
 cV ak (K3 tt r) (fA 166 p 1 λ al=>lA 3 al r λ am=>bB .lss 3 am (i 0) λ an=>cV an (K3 tt r) (fA 166 p 1 λ ao=>lA 3 ao r λ ap=>bB .gtr 3 ap (i 4294967296) λ aq=>cV aq (
 K3 tt r) (fA 166 p 0 λ ar=>lA 3 ar r λ asx=>bB .eql 3 asx (i 2) λ au=>cV au (fA 166 p 2 λ av=>lA 9 av r λ aw=>cF 161 [aw] r λ ax ay=>cW Tryz.prog (Op.unary .not ax) λ az=>
 K3 az ay) (K3 ff r))))) (fA 166 p 1 λ a0=>lA 3 a0 r λ a1=>bB .lss 3 a1 (i 0) λ a2=>cV a2 (K3 tt r) (fA 166 p 1 λ a3=>lA 3 a3 r λ a4=>bB .gtr 3 a4 (i 4294967296) λ a5=>
 cV a5 (K3 tt r) (fA 166 p 0 λ a6=>lA 3 a6 r λ a7=>bB .eql 3 a7 (i 2) λ a8=>cV a8 (fA 166 p 2 λ a9=>lA 9 a9 r λ ba=>cF 161 [ba] r λ bb bc=>cW Tryz.prog (Op.unary .not bb) λ bd=>
 K3 bd bc) (K3 ff r)))))) (fA 166 p 0 λ be=>lA 3 be r λ bf=>bB .neq 3 bf (i 2) λ bg=>cV bg (fA 166 p 2 λ bh=>lA 9 bh r λ bi=>cW Tryz.prog (iI .neq 9 false true bi (Go.Value.string (ByteArray.mk (#[])))) λ bj=>
 cV bj (K3 tt r) (fA 166 p 1 λ bk=>lA 3 bk r λ bl=>bB .lss 3 bl (i 0) λ bm=>cV bm (K3 tt r) (fA 166 p 1 λ bn=>lA 3 bn r λ bo=>bB .gtr 3 bo (i 4294967296) λ bp=>cV bp (
 K3 tt r) (fA 166 p 0 λ bq=>lA 3 bq r λ br=>bB .eql 3 br (i 2) λ bs=>cV bs (fA 166 p 2 λ bt=>lA 9 bt r λ bu=>cF 161 [bu] r λ bv bw=>cW Tryz.prog (Op.unary .not bv) λ bx=>
 K3 bx bw) (K3 ff r))))) (fA 166 p 1 λ bz=>lA 3 bz r λ b0=>bB .lss 3 b0 (i 0) λ b1=>cV b1 (K3 tt r) (fA 166 p 1 λ b2=>lA 3 b2 r λ b3=>bB .gtr 3 b3 (i 4294967296) λ b4=>
 cV b4 (K3 tt r) (fA 166 p 0 λ b5=>lA 3 b5 r λ b6=>bB .eql 3 b6 (i 2) λ b7=>cV b7 (fA 166 p 2 λ b8=>lA 9 b8 r λ b9=>cF 161 [b9] r λ ca cb=>cW Tryz.prog (Op.unary .not ca) λ cc=>
 K3 cc cb) (K3 ff r)))))))) (λ cd ce=>∀ _:Env,
 cV cd (K ff ce) (bB .add 3 i3 (i 1) λ cf=>K2 cf ce))) (cF 162 [l0,(i 0)] j λ cg ch=>bB .leq 3 cg (i 12) λ ci=>K ci ch)) (λ K2=>K2 (i 0) h)))
theorem Y8 (l0:Value) (h:S105 w K l0):CR 105 [l0] w K:=
 eC 77 (λ _=>.nil) 4 [.tmp 2] Tryz.func105 h
theorem auY:PL 82:=eH Tryz.func82
theorem ah2:PL 91:=eH Tryz.func91
theorem amT:PL 92:=eH Tryz.func92
theorem auZ:PL 93:=eH Tryz.func93
theorem au0:PL 94:=eH Tryz.func94
theorem amU:PL 95:=eH Tryz.func95
theorem ah3:PL 96:=eH Tryz.func96
theorem au1:PL 97:=eH Tryz.func97
theorem A7:PL 98:=eH Tryz.func98
theorem ah4:PL 99:=eH Tryz.func99
theorem amV:PL 100:=eH Tryz.func100
theorem TZ:PL 101:=eH Tryz.func101
theorem JX:PL 102:=eH Tryz.func102
theorem Pk:PL 103:=eH Tryz.func103
theorem JY:PL 104:=eH Tryz.func104
theorem JZ:PL 105:=eH Tryz.func105
end Go.Proofs.YtnjcingfdhjfkaaGreat
