/-
  Part 1.
-/
import Derived.Test.YtnjcingfdhjfkaaGreatProg
import Derived.Orders
import Derived.Tactics
import Derived.OrdersIn
import Derived.TacticsIn
import Derived.RangeFuncSeq
import Derived.RangeFuncLeaves
import Derived.Laws.Sem
import Derived.KernelRfl
import Derived.Below
import Derived.IntWalk
import Derived.Laws.AppendOwn
import Derived.Laws.MakeOwn
import Derived.WalkKit
import Derived.ProofKit
import Derived.OpenShut
import Derived.ChangeCalls
import Derived.Laws.Strings
import Derived.Lib.ConvBytes
import Derived.MapKept
import Derived.Maps.RangeRun
import Derived.Deep.AppendSrc
set_option linter.all false
set_option maxHeartbeats 8000000
set_option maxRecDepth 100000
namespace Go.Fw
abbrev Env:=Nat->Value
def ev (e:Env):Operand->Value
 | .tmp t=>e t
 | .const v=>v
 | .global g=>.pointer (some ⟨g,0,none⟩)
 | .func f=>.func (.func f) #[] #[]
def nV (e:Env) (d:Nat) (v:Value):Env:=λ i=>bif Nat.beq i d then v else e i
def fD (e:Env) (d:Option Nat) (v:Value):Env:=match d with | some d=>nV e d v | none=>e
theorem gN (e:Env) (d:Nat) (v:Value):nV e d v d=v:=by simp [nV]
theorem iB (e:Env) {d i:Nat} (v:Value) (h:i≠d):nV e d v i=e i:=by
 have:Nat.beq i d=false:=by
  cases hh:Nat.beq i d
  ·rfl
  ·exact absurd (Nat.eq_of_beq_eq_true hh) h
 simp [nV,this]
theorem Gv (e:Env) {d d':Nat} (v v':Value) (h:d≠d'):nV (nV e d v) d' v'=nV (nV e d' v') d v:=by
 funext i
 by_cases h1:i=d
 ·subst h1; rw [iB _ _ h,gN,gN]
 by_cases h2:i=d'
 ·subst h2; rw [gN,iB _ _ h1,gN]
 rw [iB _ _ h2,iB _ _ h1,iB _ _ h1,iB _ _ h2]
theorem Qo (e:Env) (d:Nat) (v:Value) (h:e d=v):nV e d v=e:=by
 funext i
 by_cases h1:i=d
 ·subst h1; rw [gN,h]
 rw [iB _ _ h1]
def mark (D:Nat):Deferred:={target:=.collected D,args:=#[]}
structure ek (ds:List Nat) (n:Nat) (e:Env) (a:Act):Prop where
 defers:a.defers=ds.map mark
 size:a.tmps.size=n
 get:∀ i,a.tmps.getD i undef=e i
theorem ek.eval {ds:List Nat} {n:Nat} {e:Env} {a:Act} (h:ek ds n e a):a.eval=ev e:=by
 funext x
 cases x <;> simp [Act.eval,ev]
 case tmp t=>simpa using h.get t
theorem ek.put {ds:List Nat} {n:Nat} {e:Env} {a:Act} (h:ek ds n e a) {d:Option Nat} (hd:∀ k,d=some k->k<n) (v:Value) :
  ek ds n (fD e d v) (a.put d v):=by
 cases d with
 | none=>exact h
 | some d=>
  have hd:=hd d rfl
  refine ⟨h.defers,by simp [Act.put,h.size],λ i=>?_⟩
  have hg:=h.get i
  simp only [Act.put,fD,Array.getD_eq_getD_getElem?] at *
  by_cases hi:i=d
  ·subst hi
   rw [Array.getElem?_setIfInBounds_self_of_lt (by rw [h.size]; exact hd),gN]
   rfl
  ·rw [Array.getElem?_setIfInBounds_ne (Ne.symm hi),iB _ _ hi]
   exact hg
def pr (P:Program) {α:Type}:Sem α->Option α
 | .pure a=>some a
 | .program k=>pr P (k P)
 | .mark _ k=>pr P k
 | _=>none
theorem bZ {P:Program} {α:Type} {m:Sem α} {v:α} (h:pr P m=some v) (w:World):m.run P w = .ok v w:=by
 induction m with
 | pure a=>simp only [pr,Option.some.injEq] at h; subst h; rfl
 | program k ih=>exact ih P h
 | mark x k ih=>exact ih h
 | _=>simp [pr] at h
theorem dF {P:Program} {α:Type} (a:α):pr P (pure a:Sem α)=some a:=rfl
theorem aU {P:Program} {α β:Type} (m:Sem α) (f:α->Sem β):pr P (m >>= f)=(pr P m).bind λ a=>pr P (f a):=by
 show pr P (m.bind f)=_
 induction m with
 | pure a=>rfl
 | program k ih=>exact ih P
 | mark x k ih=>exact ih
 | _=>rfl
theorem run_bind {P:Program} {α β:Type} (m:Sem α) (f:α->Sem β) (w:World) :
  (m >>= f).run P w=match m.run P w with | .ok a w'=>(f a).run P w' | .halt h w'=>.halt h w':=by
 show (m.bind f).run P w=_
 induction m generalizing w with
 | pure a=>rfl
 | load m a k ih=>simp only [Sem.bind,Sem.run]; (repeat' split) <;> simp_all
 | store m a v k ih=>cases v <;> simp only [Sem.bind,Sem.run] <;> (repeat' split) <;> simp_all
 | new o k ih=>simp only [Sem.bind,Sem.run,ih]
 | shape r k ih=>simp only [Sem.bind,Sem.run,ih]
 | freeze a n k ih=>simp only [Sem.bind,Sem.run,ih]
 | frozen a k ih=>simp only [Sem.bind,Sem.run,ih]
 | getObj r k ih=>simp only [Sem.bind,Sem.run]; (repeat' split) <;> simp_all
 | setObj r o k ih=>simp only [Sem.bind,Sem.run]; (repeat' split) <;> simp_all
 | choose q k ih=>simp only [Sem.bind,Sem.run]; split <;> simp_all
 | sys c k ih=>simp only [Sem.bind,Sem.run,ih]
 | program k ih=>exact ih P w
 | mark x k ih=>exact ih w
 | halt h=>rfl
theorem aY {P:Program} {α β:Type} {m:Sem α} {f:α->Sem β} {w w':World} {a:α} (h:m.run P w = .ok a w') :
  (m >>= f).run P w=(f a).run P w':=by rw [run_bind,h]
theorem run_pure {P:Program} {α:Type} (a:α) (w:World):(pure a:Sem α).run P w = .ok a w:=rfl
abbrev FO (r:Option Nat):Fence:={Fence.wide with round:=r}
theorem qH {r:Option Nat} {p:Prop}:(FO r).depth.isSome=true->p:=λ h=>by cases h
theorem lx {r:Option Nat} {n:Nat} {P:Program} {f:FuncId} {args:Array Value} {w:World} {R:Ending->World->Prop}:CallsIn (FO r) n P f args w R↔Calls P f args w R:=
 callsIn_wide (n:=n)
def mE (K:Value->World->Prop):Ending->World->Prop:=λ e w=>∃ v,e = .returned v/\K v w
theorem mE.mono {K K':Value->World->Prop} {e:Ending} {w:World} (h:mE K e w) (k:∀ v w,K v w->K' v w):mE K' e w:=
 let ⟨v,he,hk⟩:=h; ⟨v,he,k _ _ hk⟩
def Plain (P : Program) (f : FuncId) : Prop := ∃ fn, P.funcs[f]? = some fn /\ (fn.name == "runtime.NumGoroutine") = false /\ fn.body.isNone = false
theorem m8 {P:Program} {f:FuncId} (h:Plain P f) (args:Array Value) (w:World) :
  (callFunc f args).run P w = .ok (.enter f args) w:=by
 obtain ⟨fn,h1,h2,h3⟩:=h
 show (match P.funcs[f]? with | none=>_ | some fn=>_:Sem Next).run P w=_
 rw [h1]
 simp [h2,h3]
structure dW (P:Program) (m:Sem Value) (K:Value->Prop):Prop where
 ex:∃ v,pr P m=some v/\K v
structure yj (P:Program) (m:Sem Value) (w:World) (K:Value->Prop):Prop where
 ex:∃ v,m.run P w = .ok v w/\K v
structure ji (P:Program) (m:Sem Value) (w:World) (K:Value->World->Prop):Prop where
 ex:∃ v w',m.run P w = .ok v w'/\K v w'
structure Gw (P:Program) (m:Sem Unit) (w:World) (K:World->Prop):Prop where
 ex:∃ w',m.run P w = .ok () w'/\K w'
structure tj (P:Program) (f:FuncId) (args:List Value) (w:World) (K:Value->World->Prop):Prop where
 ex:(Plain P f/\Calls P f args.toArray w (mE K))\/∃ v w',(callFunc f args.toArray).run P w = .ok (.value v) w'/\K v w'
structure gi (P:Program) (fv:Value) (args:List Value) (w:World) (K:Value->World->Prop):Prop where
 ex:(∃ g first cap,fv = .func (.func g) first cap/\Plain P g/\Calls P g (first++args.toArray++cap) w (mE K))\/
  ∃ l,fv = .func (.yield l) #[] #[]/\YieldAt (FO none) 0 P l args.toArray w (mE K)
structure pL (v:Value) (A B:Prop):Prop where
 ex:∃ t,v = .bool t/\(t=true->A)/\(t=false->B)
structure DF (P:Program) (m:Sem Value) (v:Value) (w:World) (R:Prop):Prop where
 tT:m.run P w = .ok v w
 rest:R
inductive uK where
 | val (v:Value)
 | p (m:Sem Value)
 | q (m:Sem Value)
 | e (m:Sem Value)
 | u (m:Sem Unit)
 | call (f:FuncId) (args:List Value)
 | zW (fv:Value) (args:List Value)
 | bad
def Ca:Operand->Bool | .const _=>true | _=>false
def Cg:Value->Sem Value
 | .pointer none | .nilIface | .nilFunc => stuck "nil"
 | .func (.method _) _ _ => stuck "method"
 | x=>pure x
def DG (c a b:Value):Sem Value:=do pure (if <- asBool c then a else b)
def KV (op:BinOp) (t:TypeId) (cx cy:Bool) (a b:Value):Sem Value:=
 match a,b with
 | .nilIface, .nilIface => if cx || cy then binOp op t a b else stuck "two nil interfaces"
 | .agg _, .agg _ => .program λ p => if p.eqGuardType p.depth t then stuck "an interface in a part" else binOp op t a b
 | _,_=>binOp op t a b
def gD (op:BinOp) (t:TypeId) (cx cy:Bool) (a b:Value):Sem Value:=
 match op with
 | .eql=>KV .eql t cx cy a b
 | .neq=>KV .neq t cx cy a b
 | op=>binOp op t a b
def KW (P:Program) (op:BinOp) (t:TypeId) (x y:Operand):Bool:=
 match op with
 | .eql | .neq=>match P.underlying t with
  | some (.pointer _) | some .unsafePointer=>!(Ca x || Ca y)
  | _=>false
 | _=>false
def isMap (P:Program) (t:TypeId):Bool:=match P.underlying t with | some (.map _ _) | some (.chan _ _)=>true | _=>false
def xh (P:Program) (s d:TypeId):Nat:=
 match P.underlying d with
 | some (.slice _)=>2
 | some .string=>match P.underlying s with | some (.slice _)=>1 | _=>0
 | _=>0
def py (P:Program) (o:Oper) (ρ:Operand->Value):uK:=
 match o.op with
 | .move x | .assign x=>.val (ρ x)
 | .pick c a b=>.p (DG (ρ c) (ρ a) (ρ b))
 | .alloc t=>.e (Instr.alloc t true (.tuple #[]))
 | .box t x=>.e (Instr.box t (ρ x))
 | .build t parts=>.p (Instr.build t (parts.toList.map λ q=>(q.1,ρ q.2)).toArray)
 | .buildSlice t n parts=>.e (Instr.buildSlice t n (parts.toList.map λ q=>(q.1,ρ q.2)).toArray)
 | .load t a=>.q (Instr.loadAt t (ρ a))
 | .store t a x=>.u (Instr.storeAt t (ρ a) (ρ x))
 | .nilCheck x=>.p (Cg (ρ x))
 | .binOp op t x y _=>if KW P op t x y then .q (gD op t (Ca x) (Ca y) (ρ x) (ρ y)) else .p (gD op t (Ca x) (Ca y) (ρ x) (ρ y))
 | .unOp op _ x=>.p (Op.unary op (ρ x))
 | .convert s d x=>match xh P s d with | 0=>.p (convert s d (ρ x)) | 1=>.q (convert s d (ρ x)) | _=>.e (convert s d (ρ x))
 | .makeInterface t x=>.q (Instr.makeInterface t (ρ x))
 | .makeFunc fn first cap=>.val (.func fn (first.toList.map ρ).toArray (cap.toList.map ρ).toArray)
 | .makeMap t r=>.e (Instr.makeMap t (r.map ρ))
 | .makeSlice t l c=>.e (Instr.makeSlice t (ρ l) (ρ c))
 | .slice t x lo hi mx=>.p (Instr.sliceAt t (ρ x) (lo.map ρ) (hi.map ρ) (mx.map ρ))
 | .fieldAddr s x f=>.p (Instr.fieldAt s (ρ x) f)
 | .field t x f=>.p (Instr.field t (ρ x) f)
 | .indexAddr t x i=>.p (Instr.indexAt t (ρ x) (ρ i))
 | .index t x i=>.p (Instr.index t (ρ x) (ρ i))
 | .lookup t x i ok=>.q (Instr.lookup t (ρ x) (ρ i) ok)
 | .mapUpdate t m k x | .insert t m k x=>.u (Instr.mapUpdate t (ρ m) (ρ k) (ρ x))
 | .mapEntry t m k=>.e (Instr.mapEntry t (ρ m) (ρ k))
 | .entryStore t m s x=>.u (Instr.entryStore t (ρ m) (ρ s) (ρ x))
 | .range t x=>.e (Instr.range t (ρ x))
 | .next it s=>.e (Instr.next (ρ it) s o.type)
 | .entry it=>.q (Instr.entry (ρ it))
 | .typeAssert x t u ok=>.q (Instr.typeAssert (ρ x) t u ok)
 | .extract t i=>.p (Instr.extract (ρ t) i)
 | .call c=>
  match c.callee with
  | .value (.func f)=>.call f (c.args.toList.map ρ)
  | .value x=>.zW (ρ x) (c.args.toList.map ρ)
  | .invoke ..=>.bad
  | .builtin b=>
   match b with
   | .len=>if isMap P (c.argTypes.getD 0 0) then .q (Builtin.len_ c.argTypes o.type (c.args.toList.map ρ).toArray) else .p (Builtin.len_ c.argTypes o.type (c.args.toList.map ρ).toArray)
   | .cap=>.p (Builtin.cap_ c.argTypes o.type (c.args.toList.map ρ).toArray)
   | .min=>.p (Builtin.min_ c.argTypes o.type (c.args.toList.map ρ).toArray)
   | .max=>.p (Builtin.max_ c.argTypes o.type (c.args.toList.map ρ).toArray)
   | .append=>.e (Builtin.append_ c.argTypes o.type (c.args.toList.map ρ).toArray)
   | .copy=>.e (Builtin.copy_ c.argTypes o.type (c.args.toList.map ρ).toArray)
   | .clear=>.e (Builtin.clear_ c.argTypes o.type (c.args.toList.map ρ).toArray)
   | .delete=>.e (Builtin.delete_ c.argTypes o.type (c.args.toList.map ρ).toArray)
   | _=>.bad
 | _=>.bad
def wL (P:Program) (k:uK) (K:Value->World->Prop) (w:World):Prop:=
 match k with
 | .val v=>K v w
 | .p m=>dW P m (λ v=>K v w)
 | .q m=>yj P m w (λ v=>K v w)
 | .e m=>ji P m w K
 | .u m=>Gw P m w (λ w'=>K undef w')
 | .call f args=>tj P f args w K
 | .zW fv args=>gi P fv args w K
 | .bad=>False
def uK.quiet:uK->Bool
 | .val _ | .p _ | .q _=>true
 | _=>false
def uK.reads:uK->Bool
 | .q _=>true
 | _=>false
def uK.has (P:Program) (k:uK) (w:World) (v:Value):Prop:=
 match k with
 | .val x=>x=v
 | .p m=>pr P m=some v
 | .q m=>m.run P w = .ok v w
 | _=>False
theorem wL.has {P:Program} {k:uK} {K:Value->World->Prop} {w:World} (hq:k.quiet=true) (h:wL P k K w):∃ v,k.has P w v/\K v w:=by
 cases k <;> simp only [uK.quiet,Bool.false_eq_true] at hq <;> simp only [wL] at h
 case val v=>exact ⟨v,rfl,h⟩
 case p m=>exact h.ex
 case q m=>exact h.ex
theorem uK.E4 {P:Program} {k:uK} {w w':World} {v:Value} (hr:k.reads=false) (h:k.has P w v):k.has P w' v:=by
 cases k <;> simp only [uK.has,uK.reads,Bool.true_eq_false] at *
 ·exact h
 exact h
theorem wL.Gx {P:Program} {k:uK} {K:Value->World->Prop} {w:World} {v:Value} (h:k.has P w v) (hk:K v w):wL P k K w:=by
 cases k <;> simp only [uK.has] at h <;> simp only [wL]
 case val u=>subst h; exact hk
 case p m=>exact ⟨v,h,hk⟩
 case q m=>exact ⟨v,h,hk⟩
theorem wL.mono {P:Program} {k:uK} {K K':Value->World->Prop} {w:World} (h:wL P k K w) (hk:∀ v w,K v w->K' v w):wL P k K' w:=by
 cases k <;> simp only [wL] at *
 case val v=>exact hk _ _ h
 case p m=>exact ⟨let ⟨v,a,b⟩:=h.ex; ⟨v,a,hk _ _ b⟩⟩
 case q m=>exact ⟨let ⟨v,a,b⟩:=h.ex; ⟨v,a,hk _ _ b⟩⟩
 case e m=>exact ⟨let ⟨v,w',a,b⟩:=h.ex; ⟨v,w',a,hk _ _ b⟩⟩
 case u m=>exact ⟨let ⟨w',a,b⟩:=h.ex; ⟨w',a,hk _ _ b⟩⟩
 case call f args=>
  rcases h.ex with ⟨a,b⟩ | ⟨v,w',a,b⟩
  ·exact ⟨.inl ⟨a,b.mono λ e w' r=>r.mono hk⟩⟩
  ·exact ⟨.inr ⟨v,w',a,hk _ _ b⟩⟩
 case zW fv args=>
  rcases h.ex with ⟨g,f,c,a,b,d⟩ | ⟨l,a,fn,t,s,b,c,d⟩
  ·exact ⟨.inl ⟨g,f,c,a,b,d.mono λ e w' r=>r.mono hk⟩⟩
  ·exact ⟨.inr ⟨l,a,fn,t,s,b,c,d.mono λ e w' r=>r.mono hk⟩⟩
theorem ly {r:Option Nat} {P:Program} {o:Oper} {a:Act} {w:World}:∀ f,o.about P w a.eval=some f->(FO r).fn f:=λ _ _=>trivial
theorem zX {r:Option Nat} {P:Program} {o:Oper} {a:Act} {next:Act->World->Prop} {Q:Exit->Act->World->Prop} {f:FuncId} {args:Array Value} {w:World}
  {K:Value->World->Prop} (h:Calls P f args w (mE K)) (hk:∀ v w',K v w'->next (a.put o.dst v) w'):o.uponIn (FO r) 0 P a next Q (.ok (.enter f args) w):=by
 rw [Oper.uponIn_enter]
 refine ⟨qH,lx.2 (h.mono λ e w' ⟨v,he,hv⟩=>?_)⟩
 subst he
 exact hk _ _ hv
theorem wQ {r:Option Nat} {P:Program} {o:Oper} {a:Act} {next:Act->World->Prop} {Q:Exit->Act->World->Prop} {l:Nat} {f:FuncId} {tmps:Array Value} {assign body:Code} {w:World}
  {K:Value->World->Prop} (h:RoundIn (FO none) 0 P l f tmps assign body w (mE K)) (hk:∀ v w',K v w'->next (a.put o.dst v) w'):o.uponIn (FO r) 0 P a next Q (.ok (.round l f tmps assign body) w):=by
 rw [Oper.uponIn_round]
 refine ⟨qH,?_⟩
 have h':RoundIn (FO r) 0 P l f tmps assign body w (mE K):=h
 refine h'.mono λ e w' ⟨v,he,hv⟩=>?_
 subst he
 exact hk _ _ hv
theorem gv {r:Option Nat} {P:Program} {o:Oper} {a:Act} {next:Act->World->Prop} {Q:Exit->Act->World->Prop} {w w':World} {v:Value} (zO:∀ c,o.op≠.defer c)
  (h:(execOp a.eval o).run P w = .ok (.value v) w') (hk:next (a.put o.dst v) w'):o.wpIn (FO r) 0 P a w next Q:=by
 unfold Oper.wpIn; rw [Oper.semAt_eq _ _ _ zO,h,Oper.uponIn_value]; exact ⟨ly,hk⟩
theorem Ch {r:Option Nat} {P:Program} {o:Oper} {a:Act} {next:Act->World->Prop} {Q:Exit->Act->World->Prop} {w w':World} (zO:∀ c,o.op≠.defer c)
  (h:(execOp a.eval o).run P w = .ok .skip w') (hk:next (a.put o.dst undef) w'):o.wpIn (FO r) 0 P a w next Q:=by
 unfold Oper.wpIn; rw [Oper.semAt_eq _ _ _ zO,h,Oper.uponIn_skip]; exact ⟨ly,hk⟩
theorem xi {P:Program} {m:Sem Value} {w w':World} {v:Value} (h:m.run P w = .ok v w') :
  (do pure (.value (<- m)):Sem Next).run P w = .ok (.value v) w':=by rw [aY h]; rfl
theorem Uo {P:Program} {m:Sem Unit} {w w':World} (h:m.run P w = .ok () w') :
  (do m; pure .skip:Sem Next).run P w = .ok .skip w':=by rw [aY h]; rfl
theorem tY {α β:Type} (f:α->β) (l:Array α):(l.toList.map f).toArray=l.map f:=by
 apply Array.ext'; simp
def eqG (t:TypeId) (x y:Operand) (a b:Value):Sem Unit:=
 match a,b with
 | .nilIface,.nilIface=>if (Ca x || Ca y)=true then pure () else do
   if <- Op.eqGuardIn Op.maxDepth t a b then unsupported (.noEntry "binop/eql: two nil values of an interface type with methods, neither of them the literal nil")
 | .agg _,.agg _=>do
  if !(<- program).eqGuardType (<- program).depth t then return
  if <- Op.eqGuardIn Op.maxDepth t a b then unsupported (.noEntry "binop/eql: two nil values of an interface type with methods, in a part of a struct or an array")
 | _,_=>pure ()
theorem tk {P:Program} {op:BinOp} (gd:op = .eql\/op = .neq) {t:TypeId} {x y:Operand} {a b:Value} {w w':World} {v:Value}
  (h:(KV op t (Ca x) (Ca y) a b).run P w = .ok v w'):(eqGuard op t x y a b).run P w = .ok () w/\(binOp op t a b).run P w = .ok v w':=by
 have hg:eqGuard op t x y a b=eqG t x y a b:=by rcases gd with rfl | rfl <;> cases x <;> cases y <;> rfl
 rw [hg]
 clear hg
 unfold eqG
 unfold KV at h
 split at h
 ·split at h
  ·rename_i hc
   refine ⟨?_,h⟩
   show ((if (Ca x || Ca y)=true then pure () else _:Sem Unit).run P w)=_
   rw [if_pos hc]
   rfl
  simp [stuck] at h
 ·rename_i c1 c2
  have h' : (if P.eqGuardType P.depth t then stuck "an interface in a part" else binOp op t (.agg c1) (.agg c2) : Sem Value).run P w = .ok v w' := h
  split at h'
  ·simp [stuck] at h'
  rename_i hc
  refine ⟨?_,h'⟩
  show ((if (!P.eqGuardType P.depth t)=true then pure () else _:Sem Unit).run P w)=_
  rw [if_pos (by simpa using hc)]
  rfl
 exact ⟨rfl,h⟩
theorem zY {P:Program} {op:BinOp} {t:TypeId} {x y:Operand} {a b:Value} {w w':World} {v:Value}
  (h:(gD op t (Ca x) (Ca y) a b).run P w = .ok v w'):(do eqGuard op t x y a b; binOp op t a b:Sem Value).run P w = .ok v w':=by
 unfold gD at h
 split at h
 ·obtain ⟨h1,h2⟩:=tk (.inl rfl) h
  rw [aY h1]; exact h2
 ·obtain ⟨h1,h2⟩:=tk (.inr rfl) h
  rw [aY h1]; exact h2
 rename_i n1 n2
 have h1:(eqGuard op t x y a b).run P w = .ok () w:=by
  unfold eqGuard
  cases op <;> first | rfl | exact (n1 rfl).elim | exact (n2 rfl).elim
 rw [aY h1]; exact h
theorem wL.wp {r:Option Nat} {ds:List Nat} {P:Program} {n:Nat} {o:Oper} {e:Env} {a:Act} {w:World} {K:Value->World->Prop} {Q:Exit->Act->World->Prop} {next:Act->World->Prop}
  (ha:ek ds n e a) (h:wL P (py P o (ev e)) K w) (hk:∀ v w',K v w'->next (a.put o.dst v) w'):o.wpIn (FO r) 0 P a w next Q:=by
 have he:=ha.eval
 have zO:∀ c,o.op≠.defer c:=λ c hc=>by unfold py at h; rw [hc] at h; exact h
 have V:∀ {m:Sem Value},dW P m (λ v=>K v w)->execOp (ev e) o=(do pure (.value (<- m)):Sem Next)->o.wpIn (FO r) 0 P a w next Q:=λ hp hx=>by
  obtain ⟨v,h1,h2⟩:=hp.ex
  exact gv (w':=w) zO (by rw [he,hx]; exact xi (bZ h1 w)) (hk _ _ h2)
 have V':∀ {m:Sem Value},yj P m w (λ v=>K v w)->execOp (ev e) o=(do pure (.value (<- m)):Sem Next)->o.wpIn (FO r) 0 P a w next Q:=λ hp hx=>by
  obtain ⟨v,h1,h2⟩:=hp.ex
  exact gv (w':=w) zO (by rw [he,hx]; exact xi h1) (hk _ _ h2)
 have E:∀ {m:Sem Value},ji P m w K->execOp (ev e) o=(do pure (.value (<- m)):Sem Next)->o.wpIn (FO r) 0 P a w next Q:=λ hp hx=>by
  obtain ⟨v,w',h1,h2⟩:=hp.ex
  exact gv zO (by rw [he,hx]; exact xi h1) (hk _ _ h2)
 have U:∀ {m:Sem Unit},Gw P m w (λ w'=>K undef w')->execOp (ev e) o=(do m; pure .skip:Sem Next)->o.wpIn (FO r) 0 P a w next Q:=λ hp hx=>by
  obtain ⟨w',h1,h2⟩:=hp.ex
  exact Ch zO (by rw [he,hx]; exact Uo h1) (hk _ _ h2)
 unfold py at h
 cases gd:o.op with
 | move x=>rw [gd] at h; exact gv (w':=w) zO (by rw [he]; simp only [execOp,gd]; rfl) (hk _ _ h)
 | assign x=>rw [gd] at h; exact gv (w':=w) zO (by rw [he]; simp only [execOp,gd]; rfl) (hk _ _ h)
 | pick c x y=>
  rw [gd] at h
  obtain ⟨v,h1,h2⟩:=h.ex
  refine gv (w':=w) zO ?_ (hk _ _ h2)
  rw [he]; simp only [execOp,gd]
  have:=bZ h1 w
  unfold DG at this
  revert this
  cases ev e c <;> simp only [asBool] <;> intro this <;> first | (simp only [stuck] at this; exact absurd this (by simp [Sem.run])) | skip
  case bool t=>
   have e2:v=(if t=true then ev e x else ev e y):=by
    have:(Result.ok (if t=true then ev e x else ev e y) w:Result Value) = .ok v w:=this
    simpa using this.symm
   rw [e2]; rfl
 | alloc t=>rw [gd] at h; exact E h (by simp only [execOp,gd])
 | box t x=>rw [gd] at h; exact E h (by simp only [execOp,gd])
 | build t ps=>rw [gd] at h; exact V h (by simp only [execOp,gd,tY])
 | buildSlice t n ps=>rw [gd] at h; exact E h (by simp only [execOp,gd,tY])
 | insert t m k x=>rw [gd] at h; exact U h (by simp only [execOp,gd])
 | load t x=>rw [gd] at h; exact V' h (by simp only [execOp,gd])
 | store t x y=>rw [gd] at h; exact U h (by simp only [execOp,gd])
 | nilCheck x=>
  rw [gd] at h
  obtain ⟨v,h1,h2⟩:=h.ex
  refine gv (w':=w) zO ?_ (hk _ _ h2)
  rw [he]; simp only [execOp,gd]
  revert h1
  cases hx:ev e x with
  | pointer p=>cases p <;> simp [Cg,stuck,pr,dF] <;> (try (rintro rfl; rfl))
  | func fn f c=>cases fn <;> simp [Cg,stuck,pr,dF] <;> (try (rintro rfl; rfl))
  | _=>simp [Cg,stuck,pr,dF] <;> (try (rintro rfl; rfl))
 | binOp op t x y u=>
  rw [gd] at h
  dsimp only at h
  split at h
  ·obtain ⟨v,h1,h2⟩:=h.ex
   exact gv (w':=w) zO (by rw [he]; simp only [execOp,gd]; exact xi (zY h1)) (hk _ _ h2)
  ·obtain ⟨v,h1,h2⟩:=h.ex
   exact gv (w':=w) zO (by rw [he]; simp only [execOp,gd]; exact xi (zY (bZ h1 w))) (hk _ _ h2)
 | unOp op t x=>rw [gd] at h; exact V h (by simp only [execOp,gd])
 | convert s d x=>
  rw [gd] at h
  dsimp only at h
  split at h
  ·exact V h (by simp only [execOp,gd])
  ·exact V' h (by simp only [execOp,gd])
  ·exact E h (by simp only [execOp,gd])
 | makeInterface t x=>rw [gd] at h; exact V' h (by simp only [execOp,gd])
 | makeFunc fn f c=>rw [gd] at h; exact gv (w':=w) zO (by rw [he]; simp only [execOp,gd,<- tY]; rfl) (hk _ _ h)
 | makeMap t r=>rw [gd] at h; exact E h (by simp only [execOp,gd])
 | makeSlice t l c=>rw [gd] at h; exact E h (by simp only [execOp,gd])
 | slice t x lo hi mx=>rw [gd] at h; exact V h (by simp only [execOp,gd])
 | fieldAddr s x f=>rw [gd] at h; exact V h (by simp only [execOp,gd])
 | field t x f=>rw [gd] at h; exact V h (by simp only [execOp,gd])
 | indexAddr t x i=>rw [gd] at h; exact V h (by simp only [execOp,gd])
 | index t x i=>rw [gd] at h; exact V h (by simp only [execOp,gd])
 | lookup t x i ok=>rw [gd] at h; exact V' h (by simp only [execOp,gd])
 | mapUpdate t m k x=>rw [gd] at h; exact U h (by simp only [execOp,gd])
 | mapEntry t m k=>rw [gd] at h; exact E h (by simp only [execOp,gd])
 | entryStore t m s x=>rw [gd] at h; exact U h (by simp only [execOp,gd])
 | range t x=>rw [gd] at h; exact E h (by simp only [execOp,gd])
 | next it s=>rw [gd] at h; exact E h (by simp only [execOp,gd])
 | entry it=>rw [gd] at h; exact V' h (by simp only [execOp,gd])
 | typeAssert x t u ok=>rw [gd] at h; exact V' h (by simp only [execOp,gd])
 | extract t i=>rw [gd] at h; exact V h (by simp only [execOp,gd])
 | call c=>
  rw [gd] at h
  dsimp only at h
  have KX:(c.args.toList.map (ev e)).toArray=c.args.map (ev e):=tY _ _
  cases hc:c.callee with
  | value x=>
   rw [hc] at h
   have hval:∀ {g:FuncId} {first cap:Array Value},ev e x = .func (.func g) first cap->Plain P g->Calls P g (first++(c.args.toList.map (ev e)).toArray++cap) w (mE K)->o.wpIn (FO r) 0 P a w next Q:=by
    intro g first cap hx hp iJ
    unfold Oper.wpIn
    rw [Oper.semAt_eq _ _ _ zO]
    have hr:(execOp a.eval o).run P w = .ok (.enter g (first++(c.args.toList.map (ev e)).toArray++cap)) w:=by
     rw [he]
     simp only [execOp,gd]
     have h1:(resolve (ev e) c o.type).run P w = .ok {target:=.fn (.func g) cap,args:=first++c.args.map (ev e)} w:=by
      simp only [resolve,hc,hx]; rfl
     rw [aY h1]
     show (callFunc g (first++c.args.map (ev e)++cap)).run P w=_
     rw [m8 hp,KX]
    rw [hr]
    exact ⟨ly,zX iJ λ v w' hv=>hk v w' hv⟩
   have hyl:∀ {l:Nat},ev e x = .func (.yield l) #[] #[]->YieldAt (FO none) 0 P l (c.args.toList.map (ev e)).toArray w (mE K)->o.wpIn (FO r) 0 P a w next Q:=by
    rintro l hx ⟨fn,tmps,assign,body,hy,hr⟩
    unfold Oper.wpIn
    rw [Oper.semAt_eq _ _ _ zO]
    have E5:(execOp a.eval o).run P w = .ok (.round l fn tmps assign body) w:=by
     rw [he]
     simp only [execOp,gd]
     have h1:(resolve (ev e) c o.type).run P w = .ok {target:=.fn (.yield l) #[],args:=#[]++c.args.map (ev e)} w:=by
      simp only [resolve,hc,hx]; rfl
     rw [aY h1]
     show (Instr.yield l (#[]++c.args.map (ev e))).run P w=_
     rw [Array.empty_append,<- KX]; exact hy
    rw [E5]
    exact ⟨ly,wQ hr λ v w' hv=>hk v w' hv⟩
   have Qp:gi P (ev e x) (c.args.toList.map (ev e)) w K->o.wpIn (FO r) 0 P a w next Q:=λ h=>by
    rcases h.ex with ⟨g,first,cap,h1,h2,h3⟩ | ⟨l,h1,h2⟩
    ·exact hval h1 h2 h3
    ·exact hyl h1 h2
   cases x with
   | func f=>
    rcases h.ex with ⟨h1,h2⟩ | ⟨v,w',h1,h2⟩
    ·exact hval (g:=f) (first:=#[]) (cap:=#[]) rfl h1 (by simpa using h2)
    ·refine gv zO ?_ (hk _ _ h2)
     rw [he]
     simp only [execOp,gd]
     have h3:(resolve (ev e) c o.type).run P w = .ok {target:=.fn (.func f) #[],args:=#[]++c.args.map (ev e)} w:=by
      simp only [resolve,hc,ev]; rfl
     rw [aY h3]
     show (callFunc f (#[]++c.args.map (ev e)++#[])).run P w=_
     rw [<- KX,Array.empty_append,Array.append_empty]
     exact h1
   | tmp t=>exact Qp h
   | const v=>exact Qp h
   | global g=>exact Qp h
  | invoke r nm=>rw [hc] at h; exact h.elim
  | builtin b=>
   rw [hc] at h
   dsimp only at h
   have hb:∀ {m:Sem Value},builtin b c.argTypes o.type (c.args.map fun | .const _=>true | _=>false) (c.args.map (ev e))=(do pure (.value (<- m)):Sem Next)->
     execOp (ev e) o=(do pure (.value (<- m)):Sem Next):=by
    intro m hm
    simp only [execOp,gd]
    have h1:resolve (ev e) c o.type=pure {target:=.builtin b c.argTypes o.type (c.args.map fun | .const _=>true | _=>false),args:=c.args.map (ev e)}:=by
     simp only [resolve,hc]; rfl
    rw [h1]
    exact hm
   rw [KX] at h
   cases b <;> first | exact h.elim | skip
   case len=>
    dsimp only at h
    split at h
    ·exact V' h (hb rfl)
    ·exact V h (hb rfl)
   case cap=>exact V h (hb rfl)
   case min=>exact V h (hb rfl)
   case max=>exact V h (hb rfl)
   case append=>exact E h (hb rfl)
   case copy=>exact E h (hb rfl)
   case clear=>exact E h (hb rfl)
   case delete=>exact E h (hb rfl)
 | _=>rw [gd] at h; exact h.elim
def pre (o:Oper):List Nat:=(o.after.toList.filter λ e=>Region.binds .any e).map (·.on)
def n8 (ops:List Oper) (j:Nat):Option Nat:=(ops[j]?).bind (·.dst)
def looks (ops:List Oper) (o:Oper):List Nat:=
 (o.op.operands.toList.filterMap fun | .tmp t=>some t | _=>none)++(match o.guard with | some (j,_)=>(n8 ops j).toList | none=>[])
def gw (ops:List Oper) (o:Oper) (e:Env):Bool:=
 match o.guard with
 | none=>true
 | some (j,b)=>match n8 ops j with
  | none=>false
  | some s=>match e s with
   | .bool b'=>b' == b
   | _=>false
theorem sE {ds:List Nat} {n:Nat} {e:Env} {a:Act} (h:ek ds n e a) (ops:List Oper) (o:Oper):Region.wanted o (yielded ops.toArray a.tmps)=gw ops o e:=by
 unfold Region.wanted gw
 cases o.guard with
 | none=>rfl
 | some g=>
  obtain ⟨j,b⟩:=g
  simp only [yielded,n8,List.getElem?_toArray]
  cases (ops[j]?).bind (·.dst) with
  | none=>simp
  | some s=>
   have hg:=h.get s
   simp only [Option.bind_some]
   rw [<- hg,Array.getD_eq_getD_getElem?]
   cases a.tmps[s]? with
   | none=>simp [undef]
   | some v=>cases v <;> simp
theorem E6 {P:Program} {o:Oper} {ρ ρ':Operand->Value} (h:∀ x∈o.op.operands,ρ x=ρ' x):py P o ρ=py P o ρ':=by
 unfold py
 cases gd:o.op <;> rw [gd] at h <;> simp only [Op.operands] at h <;> dsimp only
 case call c=>
  have ha:∀ x∈c.args,ρ x=ρ' x:=λ x hx=>h x (by simp [Call.operands,hx])
  have hm:c.args.toList.map ρ=c.args.toList.map ρ':=List.map_congr_left λ x hx=>ha x (by simpa using hx)
  rw [hm]
  cases hc:c.callee with
  | value x=>
   have hx:ρ x=ρ' x:=h x (by simp [Call.operands,hc])
   cases x <;> simp only [hx]
  | _=>rfl
 case build t ps=>
  have hm:(ps.toList.map λ q=>(q.1,ρ q.2))=ps.toList.map λ q=>(q.1,ρ' q.2):=
   List.map_congr_left λ q hq=>by rw [h q.2 (by simp; exact ⟨q.1,by simpa using hq⟩)]
  simp only [hm]
 case buildSlice t n ps=>
  have hm:(ps.toList.map λ q=>(q.1,ρ q.2))=ps.toList.map λ q=>(q.1,ρ' q.2):=
   List.map_congr_left λ q hq=>by rw [h q.2 (by simp; exact ⟨q.1,by simpa using hq⟩)]
  simp only [hm]
 case makeFunc fn f c=>
  have h1:f.toList.map ρ=f.toList.map ρ':=List.map_congr_left λ x hx=>h x (by simp at hx |-; exact .inl hx)
  have h2:c.toList.map ρ=c.toList.map ρ':=List.map_congr_left λ x hx=>h x (by simp at hx |-; exact .inr hx)
  simp only [h1,h2]
 case makeMap t r=>
  have:r.map ρ=r.map ρ':=by cases r with | none=>rfl | some x=>simp [h x (by simp)]
  simp only [this]
 case slice t x lo hi mx=>
  have h0:ρ x=ρ' x:=h x (by simp)
  have h1:lo.map ρ=lo.map ρ':=by cases lo with | none=>rfl | some y=>simp [h y (by simp)]
  have h2:hi.map ρ=hi.map ρ':=by cases hi with | none=>rfl | some y=>simp [h y (by simp)]
  have h3:mx.map ρ=mx.map ρ':=by cases mx with | none=>rfl | some y=>simp [h y (by simp)]
  simp only [h0,h1,h2,h3]
 case load t x=>rw [h x (by simp)]
 case store t x y=>rw [h x (by simp),h y (by simp)]
 case pick c x y=>rw [h x (by simp),h y (by simp),h c (by simp)]
 case binOp op t x y u=>rw [h x (by simp),h y (by simp)]
 case insert t m k x=>rw [h m (by simp),h k (by simp),h x (by simp)]
 case mapUpdate t m k x=>rw [h m (by simp),h k (by simp),h x (by simp)]
 case entryStore t m k x=>rw [h m (by simp),h k (by simp),h x (by simp)]
 case mapEntry t m k=>rw [h m (by simp),h k (by simp)]
 case lookup t m k ok=>rw [h m (by simp),h k (by simp)]
 case indexAddr t m k=>rw [h m (by simp),h k (by simp)]
 case index t m k=>rw [h m (by simp),h k (by simp)]
 case makeSlice t m k=>rw [h m (by simp),h k (by simp)]
 all_goals first | rfl | (rename_i x; rw [h x (by simp)]) | (rename_i x _; rw [h x (by simp)]) | (rename_i x _ _; rw [h x (by simp)]) | (rename_i x _ _ _; rw [h x (by simp)])
theorem Qq {e:Env} {d:Nat} {v:Value} {x:Operand} (h:x≠.tmp d):ev (nV e d v) x=ev e x:=by
 cases x <;> simp only [ev]
 case tmp t=>exact iB _ _ λ hh=>h (by rw [hh])
theorem tZ {P:Program} {ops:List Oper} {o:Oper} {e:Env} {d:Option Nat} {v:Value} (h:∀ k,d=some k->k ∉ looks ops o) :
  py P o (ev (fD e d v))=py P o (ev e):=by
 cases d with
 | none=>rfl
 | some d=>
  refine E6 λ x hx=>Qq λ hxd=>h d rfl ?_
  subst hxd
  exact List.mem_append_left _ (List.mem_filterMap.2 ⟨.tmp d,by simpa using hx,rfl⟩)
theorem o7 {ops:List Oper} {o:Oper} {e:Env} {d:Option Nat} {v:Value} (h:∀ k,d=some k->k ∉ looks ops o) :
  gw ops o (fD e d v)=gw ops o e:=by
 cases d with
 | none=>rfl
 | some d=>
  have h:=h d rfl
  unfold gw
  unfold looks at h
  cases hg:o.guard with
  | none=>rfl
  | some g=>
   obtain ⟨j,b⟩:=g
   rw [hg] at h
   dsimp only at h |-
   cases hs:n8 ops j with
   | none=>rfl
   | some s=>
    rw [hs] at h
    have:s≠d:=λ hh=>h (by simp [hh])
    simp only [fD,iB _ _ this]
def NN (ops:List Oper) (x y:Oper):Prop:=
 (∀ d,x.dst=some d->d ∉ looks ops y/\y.dst≠some d)/\(∀ d,y.dst=some d->d ∉ looks ops x)
theorem E7 {e:Env} {d d':Option Nat} {v v':Value} (h:∀ k,d=some k->d'≠some k):fD (fD e d v) d' v'=fD (fD e d' v') d v:=by
 cases d with
 | none=>rfl
 | some d=>cases d' with
  | none=>rfl
  | some d'=>exact Gv _ _ _ λ hh=>h d rfl (by rw [hh])
def qE (P:Program) (ops:List Oper) (o:Oper) (K:Env->World->Prop) (e:Env) (w:World):Prop:=
 if gw ops o e=true then wL P (py P o (ev e)) (λ v w'=>K (fD e o.dst v) w') w else K (fD e o.dst undef) w
theorem qE.mono {P:Program} {ops:List Oper} {o:Oper} {K K':Env->World->Prop} {e:Env} {w:World} (h:qE P ops o K e w)
  (hk:∀ v w',K (fD e o.dst v) w'->K' (fD e o.dst v) w'):qE P ops o K' e w:=by
 unfold qE at *
 split
 ·rename_i hw; rw [if_pos hw] at h; exact h.mono λ v w'=>hk v w'
 rename_i hw; rw [if_neg hw] at h; exact hk _ _ h
def Ci (ops:List Oper) (L:Nat->Bool) (i:Nat):Prop:=L i=false/\∃ o,ops[i]? = some o/\∀ p∈pre o,L p=true
def iC (L:Nat->Bool) (i:Nat):Nat->Bool:=λ k=>if k=i then true else L k
def Down (ops:List Oper) (L:Nat->Bool):Prop:=∀ i o,L i=true->ops[i]? = some o->∀ p∈pre o,L p=true
theorem xj (L:Nat->Bool) (i:Nat):iC L i i=true:=by simp [iC]
theorem ua (L:Nat->Bool) {i k:Nat} (h:k≠i):iC L i k=L k:=by simp [iC,h]
theorem ub (L:Nat->Bool) (i:Nat) {k:Nat} (h:L k=true):iC L i k=true:=by unfold iC; split <;> simp [h]
theorem E8 (L:Nat->Bool) (i j:Nat):iC (iC L i) j=iC (iC L j) i:=by
 funext k; unfold iC; split <;> split <;> rfl
theorem Down.set {ops:List Oper} {L:Nat->Bool} {i:Nat} (h:Down ops L) (hr:Ci ops L i):Down ops (iC L i):=by
 intro k o hk ho p hp
 by_cases e:k=i
 ·subst e
  obtain ⟨_,o',zP,jq⟩:=hr
  rw [ho] at zP; cases zP
  exact ub _ _ (jq p hp)
 rw [ua _ e] at hk
 exact ub _ _ (h k o hk ho p hp)
theorem Ci.set {ops:List Oper} {L:Nat->Bool} {i j:Nat} (h:Ci ops L j) (jV:j≠i):Ci ops (iC L i) j:=
 ⟨by rw [ua _ jV]; exact h.1,let ⟨o,ho,jq⟩:=h.2; ⟨o,ho,λ p hp=>ub _ _ (jq p hp)⟩⟩
inductive Cj (ops:List Oper):Nat->Nat->Prop
 | one {j i:Nat} {o:Oper} (h:ops[j]? = some o) (hp:i∈pre o):Cj ops j i
 | more {j p i:Nat} {o:Oper} (h:ops[j]? = some o) (hp:p∈pre o) (hd:Cj ops p i):Cj ops j i
theorem Cj.eY {ops:List Oper} {L:Nat->Bool} (hL:Down ops L) {j i:Nat} (h:Cj ops j i):(∀ o,ops[j]? = some o->∀ p∈pre o,L p=true)->L i=true:=by
 induction h with
 | one h hp=>intro jq; exact jq _ h _ hp
 | more h hp hd ih=>intro jq; exact ih λ o ho q hq=>hL _ o (jq _ h _ hp) ho q hq
theorem Cj.wR {ops:List Oper} {L:Nat->Bool} (hL:Down ops L) {j i:Nat} (h:Cj ops j i) (hr:Ci ops L j):L i=true:=
 h.eY hL λ o ho p hp=>by obtain ⟨_,o',zP,jq⟩:=hr; rw [ho] at zP; cases zP; exact jq p hp
def WS (P:Program) (ops:List Oper) (Q:Env->World->Prop) (S:Nat->World->Prop):Nat->(Nat->Bool)->Env->World->Prop
 | 0,L,e,w=>(∀ i,¬ Ci ops L i)/\Q e w
 | f+1,L,e,w=>((∀ i,¬ Ci ops L i)->Q e w)/\
   ∀ i o,ops[i]? = some o->Ci ops L i->qE P ops o (λ e' w'=>(w'=w\/S i w')/\WS P ops Q S f (iC L i) e' w') e w
theorem WS.weaken {P:Program} {ops:List Oper} {Q:Env->World->Prop} {S S':Nat->World->Prop} (h:∀ i w,S i w->S' i w) :
  ∀ (f:Nat) (_L:Nat->Bool) (_e:Env) (_w:World),WS P ops Q S f _L _e _w->WS P ops Q S' f _L _e _w
 | 0,_,_,_,hh=>hh
 | f+1,L,e,w,hh=>⟨hh.1,λ i o ho hr=>(hh.2 i o ho hr).mono λ _ _ ⟨h1,h2⟩=>⟨h1.imp id (h _ _),WS.weaken h f _ _ _ h2⟩⟩
theorem WS.first {P:Program} {ops:List Oper} {Q:Env->World->Prop} {S:Nat->World->Prop} {i:Nat} {oi:Oper} {X:uK} {b:Bool} {v:Value}
  (hi:ops[i]? = some oi) (hn:b=false->v=undef) :
  ∀ (f:Nat) (L:Nat->Bool) (e:Env) (w:World),Down ops L->Ci ops L i->
   (∀ j oj,ops[j]? = some oj->j≠i->L j=false->i ∉ pre oj->NN ops oi oj)->
   py P oi (ev e)=X->gw ops oi e=b->(b=true->X.has P w v)->
   WS P ops Q (λ j w'=>S j w'/\(Cj ops j i\/(b=true->X.has P w' v))) f (iC L i) (fD e oi.dst v) w->WS P ops Q S (f+1) L e w:=by
 have done:∀ (K:Env->World->Prop) (e:Env) (w:World),py P oi (ev e)=X->gw ops oi e=b->(b=true->X.has P w v)->K (fD e oi.dst v) w->qE P ops oi K e w:=by
  intro K e w hX hb hy hk
  unfold qE
  rw [hb]
  cases b with
  | true=>rw [if_pos rfl,hX]; exact wL.Gx (hy rfl) hk
  | false=>rw [if_neg (by simp)]; rw [<- hn rfl]; exact hk
 have sub:∀ {f:Nat} {L:Nat->Bool} {e:Env} {w:World},WS P ops Q (λ j w'=>S j w'/\(Cj ops j i\/(b=true->X.has P w' v))) f L e w->WS P ops Q S f L e w:=
  λ h=>WS.weaken (λ _ _ h=>h.1) _ _ _ _ h
 intro f
 induction f with
 | zero=>
  intro L e w hL hr zZ hX hb hy H
  refine ⟨λ h=>absurd hr (h i),λ j oj wS hj=>?_⟩
  by_cases Gy:j=i
  ·subst Gy
   rw [hi] at wS; cases wS
   exact done _ _ _ hX hb hy ⟨.inl rfl,sub H⟩
  ·exact absurd (hj.set Gy) (H.1 j)
 | succ f ih=>
  intro L e w hL hr zZ hX hb hy H
  refine ⟨λ h=>absurd hr (h i),λ j oj wS hj=>?_⟩
  by_cases Gy:j=i
  ·subst Gy
   rw [hi] at wS; cases wS
   exact done _ _ _ hX hb hy ⟨.inl rfl,sub H⟩
  ·have gT:i ∉ pre oj:=λ hp=>by
    obtain ⟨_,o',zP,jq⟩:=hj.2.elim λ o' h=>(⟨trivial,o',h.1,h.2⟩:True/\∃ o',ops[j]? = some o'/\∀ p∈pre o',L p=true)
    rw [wS] at zP; cases zP
    have:=jq i hp
    rw [hr.1] at this; cases this
   have hap:=zZ j oj wS Gy hj.1 gT
   have Qr:¬ Cj ops j i:=λ hd=>by
    have:=hd.wR hL hj
    rw [hr.1] at this; cases this
   have h1:=H.2 j oj wS (hj.set Gy)
   have rdi:∀ k,oi.dst=some k->k ∉ looks ops oj:=λ k hk=>(hap.1 k hk).1
   have rdj:∀ k,oj.dst=some k->k ∉ looks ops oi:=λ k hk=>hap.2 k hk
   have dd:∀ k,oi.dst=some k->oj.dst≠some k:=λ k hk=>(hap.1 k hk).2
   have cont:∀ (u:Value) (w':World),(w'=w\/(S j w'/\(Cj ops j i\/(b=true->X.has P w' v))))->
     WS P ops Q (λ j w'=>S j w'/\(Cj ops j i\/(b=true->X.has P w' v))) f (iC (iC L i) j) (fD (fD e oi.dst v) oj.dst u) w'->
     (w'=w\/S j w')/\WS P ops Q S (f+1) (iC L j) (fD e oj.dst u) w':=by
    intro u w' hw hWS
    refine ⟨hw.imp id λ h=>h.1,?_⟩
    refine ih (iC L j) (fD e oj.dst u) w' (hL.set hj) (hr.set (Ne.symm Gy)) ?_ ?_ ?_ ?_ ?_
    ·intro k ok hk hki KI uL
     refine zZ k ok hk hki ?_ uL
     by_cases Up:k=j
     ·subst Up; exact hj.1
     ·rwa [ua _ Up] at KI
    ·rw [tZ rdj]; exact hX
    ·rw [o7 rdj]; exact hb
    ·intro hbt
     rcases hw with rfl | ⟨_,h | h⟩
     ·exact hy hbt
     ·exact absurd h Qr
     ·exact h hbt
    ·rw [E8,E7 λ k hk=>by intro hh; exact dd k hh hk]
     exact hWS
   unfold qE at h1 |-
   rw [o7 rdi] at h1
   split
   ·rename_i hw
    rw [if_pos hw,tZ rdi] at h1
    exact h1.mono λ u w' hh=>cont u w' hh.1 hh.2
   ·rename_i hw
    rw [if_neg hw] at h1
    exact cont undef w h1.1 h1.2
def wr (ops:List Oper):List Nat:=ops.filterMap (·.dst)
theorem Gz {ops:List Oper} {i:Nat} {o:Oper} {d:Nat} (h:ops[i]? = some o) (hd:o.dst=some d):d∈wr ops:=
 List.mem_filterMap.2 ⟨o,List.mem_of_getElem? h,hd⟩
theorem lz {e e0:Env} {ops:List Oper} {i:Nat} {o:Oper} (h:∀ k,k ∉ wr ops->e k=e0 k) (ho:ops[i]? = some o) (v:Value) :
  ∀ k,k ∉ wr ops->fD e o.dst v k=e0 k:=by
 intro k hk
 cases hd:o.dst with
 | none=>exact h k hk
 | some d=>
  have:k≠d:=λ hh=>hk (by rw [hh]; exact Gz ho hd)
  simp only [fD,iB _ _ this]
  exact h k hk
theorem qE.wpOp {r:Option Nat} {ds:List Nat} {P:Program} {n:Nat} {ops:List Oper} {i:Nat} {o:Oper} {K:Env->World->Prop} {K':Act->World->Prop} {Q':Exit->Act->World->Prop} {e:Env} {a:Act} {w:World}
  (ho:ops[i]? = some o) (hd:∀ k,o.dst=some k->k<n) (ha:ek ds n e a) (h:qE P ops o K e w)
  (hk:∀ v a' w',ek ds n (fD e o.dst v) a'->K (fD e o.dst v) w'->K' a' w'):wpOpIn (FO r) 0 P ops.toArray Q' i K' a w:=by
 unfold Go.wpOpIn
 simp only [List.getElem?_toArray,ho]
 rw [sE ha]
 unfold qE at h
 split
 ·rename_i hw
  rw [if_pos hw] at h
  exact wL.wp ha h λ v w' hv=>hk v _ _ (ha.put hd v) hv
 rename_i hw
 rw [if_neg hw] at h
 exact ⟨ly,hk undef _ _ (ha.put hd undef) h⟩
theorem WS.any {r:Option Nat} {ds:List Nat} {P:Program} {n:Nat} {ops:List Oper} {Q:Env->World->Prop} {Q':Exit->Act->World->Prop} {S:Nat->World->Prop} {e0:Env}
  (hd:∀ d∈wr ops,d<n) (hQ:∀ e a w,ek ds n e a->(∀ k,k ∉ wr ops->e k=e0 k)->Q e w->Q' .normal a w) :
  ∀ (f:Nat) (L:Nat->Bool) (eY:Array Bool) (e:Env) (a:Act) (w:World),ek ds n e a->(∀ k,k ∉ wr ops->e k=e0 k)->eY.size=ops.length->
   (∀ i,eY.getD i false=L i)->WS P ops Q S f L e w->wpAnyIn (FO r) 0 P .any ops.toArray Q' f eY a w:=by
 have rdy:∀ (L:Nat->Bool) (eY:Array Bool) (_:eY.size=ops.length) (_:∀ i,eY.getD i false=L i) (i:Nat),
   i∈Region.ready .any ops.toArray eY↔Ci ops L i:=by
  intro L eY iU hl i
  rw [mem_ready]
  have Uq:∀ o,ops[i]? = some o->eY.getD i true=L i:=λ o ho=>by
   have hi:i<eY.size:=by rw [iU]; exact (List.getElem?_eq_some_iff.1 ho).1
   rw [<- hl i]
   simp [hi]
  unfold Ci pre
  constructor
  ·rintro ⟨h1,o,ho,h2⟩
   have zP:ops[i]? = some o:=by simpa using ho
   refine ⟨by rw [<- Uq o zP]; exact h1,o,zP,λ p hp=>?_⟩
   simp only [List.mem_map,List.mem_filter] at hp
   obtain ⟨x,⟨hx,hb⟩,rfl⟩:=hp
   rw [<- hl]; exact h2 x (by simpa using hx) hb
  ·rintro ⟨h1,o,ho,h2⟩
   refine ⟨by rw [Uq o ho]; exact h1,o,by simpa using ho,λ x hx hb=>?_⟩
   rw [hl]
   exact h2 x.on (by simp only [List.mem_map,List.mem_filter]; exact ⟨x,⟨by simpa using hx,hb⟩,rfl⟩)
 intro f
 induction f with
 | zero=>
  intro L eY e a w ha sw iU hl h
  refine ⟨?_,hQ e a w ha sw h.2⟩
  cases hr:Region.ready .any ops.toArray eY with
  | nil=>rfl
  | cons i r=>exact absurd ((rdy L eY iU hl i).1 (by rw [hr]; exact List.mem_cons_self)) (h.1 i)
 | succ f ih=>
  intro L eY e a w ha sw iU hl h
  refine ⟨λ hn=>hQ e a w ha sw (h.1 λ i hi=>?_),λ i hi=>?_⟩
  ·have:=(rdy L eY iU hl i).2 hi
   rw [hn] at this; cases this
  ·have hr:=(rdy L eY iU hl i).1 hi
   obtain ⟨o,ho,_⟩:=hr.2
   refine qE.wpOp ho (λ k hk=>hd k (Gz ho hk)) ha (h.2 i o ho hr) λ v a' w' tm hh=>?_
   refine ih (iC L i) _ _ a' w' tm (lz sw ho v) (by simpa using iU) (λ k=>?_) hh.2
   have fS:i<eY.size:=by rw [iU]; exact (List.getElem?_eq_some_iff.1 ho).1
   have T4:=hl k
   simp only [Array.getD_eq_getD_getElem?] at T4 |-
   by_cases e:k=i
   ·subst e; rw [Array.getElem?_setIfInBounds_self_of_lt fS,xj]; rfl
   ·rw [Array.getElem?_setIfInBounds_ne (Ne.symm e),ua _ e]; exact T4
theorem WS.region {r:Option Nat} {ds:List Nat} {P:Program} {n:Nat} {id:Nat} {ops:List Oper} {Q:Env->World->Prop} {Q':Exit->Act->World->Prop} {S:Nat->World->Prop} {e:Env} {a:Act} {w:World}
  (hm:P.follows .mixedOrders=true) (hd:∀ d∈wr ops,d<n) (ha:ek ds n e a)
  (hQ:∀ e' a w,ek ds n e' a->(∀ k,k ∉ wr ops->e' k=e k)->Q e' w->Q' .normal a w)
  (h:WS P ops Q S ops.length (λ _=>false) e {w with drawn:=w.drawn+1}):(Code.region id ops.toArray true).wpIn (FO r) 0 P Q' a w:=by
 refine wpIn_region_any hm ?_
 rw [List.size_toArray]
 refine WS.any hd hQ ops.length (λ _=>false) _ e a _ ha (λ _ _=>rfl) (by simp) (λ i=>?_) h
 simp only [Array.getD_eq_getD_getElem?,Array.getElem?_replicate]
 split <;> rfl
def lk (s:Nat):List (Nat × Option Bool)->Option (Option Bool)
 | []=>none
 | q::r=>bif Nat.beq q.1 s then some q.2 else lk s r
def yk (d:Nat):List (Nat × Option Bool)->List (Nat × Option Bool)
 | []=>[]
 | q::r=>bif Nat.beq q.1 d then yk d r else q::yk d r
def del (d:Option Nat) (kg:List (Nat × Option Bool)):List (Nat × Option Bool):=match d with | none=>kg | some d=>yk d kg
def uc (kg:List (Nat × Option Bool)):Operand->Option Bool
 | .const (.bool b)=>some b
 | .tmp t=>match lk t kg with | some b=>b | none=>none
 | _=>none
def NO (kg:List (Nat × Option Bool)):Op->Option Operand
 | .move x=>some x
 | .assign x=>some x
 | .pick (.tmp c) a b=>match lk c kg with | some (some t)=>some (bif t then a else b) | _=>none
 | _=>none
def GA (kg:List (Nat × Option Bool)) (d:Option Nat) (x:Operand):List (Nat × Option Bool):=
 match d,uc kg x with
 | some d,some b=>(d,some b)::yk d kg
 | d,_=>del d kg
def ofK:Option Bool->Value | some b=>.bool b | none=>undef
def gj (kg:List (Nat × Option Bool)) (e:Env):Prop:=∀ s b,lk s kg=some b->e s=ofK b
theorem gO (n:Nat):Nat.beq n n=true:=Nat.beq_refl n
theorem qe {a b:Nat} (h:a≠b):Nat.beq a b=false:=by
 cases hh:Nat.beq a b
 ·rfl
 exact absurd (Nat.eq_of_beq_eq_true hh) h
theorem KY (s d:Nat) (kg:List (Nat × Option Bool)):lk s (yk d kg)=if s=d then none else lk s kg:=by
 induction kg with
 | nil=>simp [yk,lk]
 | cons q r ih=>
  simp only [yk,lk]
  by_cases h1:q.1=d
  ·rw [h1,gO,cond_true,ih]
   by_cases h2:s=d
   ·simp [h2]
   ·rw [if_neg h2,if_neg h2,qe (λ hh=>h2 hh.symm),cond_false]
  ·rw [qe h1,cond_false]
   simp only [lk,ih]
   by_cases h2:q.1=s
   ·rw [h2,gO,cond_true,cond_true,if_neg (λ hh=>h1 (h2.trans hh))]
   ·rw [qe h2,cond_false,cond_false]
theorem gj.nil (e:Env):gj [] e:=λ s b h=>by simp [lk] at h
theorem gj.del {kg:List (Nat × Option Bool)} {e:Env} (h:gj kg e) (d:Option Nat) (v:Value):gj (del d kg) (fD e d v):=by
 cases d with
 | none=>exact h
 | some d=>
  intro s b hs
  simp only [Fw.del,KY] at hs
  by_cases hsd:s=d
  ·simp [hsd] at hs
  ·rw [if_neg hsd] at hs
   simp only [fD,iB _ _ hsd]
   exact h s b hs
theorem gj.cons {kg:List (Nat × Option Bool)} {e:Env} (h:gj kg e) {s:Nat} {b:Option Bool} (hs:e s=ofK b):gj ((s,b)::kg) e:=by
 intro s' b' hh
 simp only [lk] at hh
 by_cases h1:s=s'
 ·subst h1; rw [gO,cond_true] at hh; cases hh; exact hs
 rw [qe h1,cond_false] at hh; exact h _ _ hh
theorem gj.known {kg:List (Nat × Option Bool)} {e:Env} (h:gj kg e) {x:Operand} {b:Bool} (hx:uc kg x=some b):ev e x = .bool b:=by
 cases x with
 | tmp t=>
  have GB:(match lk t kg with | some b=>b | none=>none)=some b:=hx
  split at GB
  ·rename_i b' hb; subst GB; exact h t _ hb
  ·cases GB
 | const v=>cases v <;> simp [uc] at hx; simp [ev,hx]
 | _=>simp [uc] at hx
theorem gj.Z9 {kg:List (Nat × Option Bool)} {e:Env} (h:gj kg e) (d:Option Nat) (x:Operand):gj (GA kg d x) (fD e d (ev e x)):=by
 unfold GA
 split
 ·rename_i d b hb
  have h1:=h.del (some d) (ev e x)
  exact gj.cons (b:=some b) h1 (by simp only [fD,gN]; exact h.known hb)
 exact h.del _ _
def jr (P:Program) (ops:List Oper) (r:Oper) (e:Env) (w:World) (R:Prop):Prop:=
 bif gw ops r e then (match py P r (ev e),r.dst with | .q m,some d=>DF P m (e d) w R | _,_=>False) else R
def qI (P:Program) (ops:List Oper):List Oper->Env->World->Prop->Prop
 | [],_,_,R=>R
 | r::ks,e,w,R=>jr P ops r e w (qI P ops ks e w R)
theorem z0 {P:Program} {ops:List Oper} {ks:List Oper} {e:Env} {w:World} {R:Prop}:qI P ops ks e w R->(∀ r∈ks,jr P ops r e w True)/\R:=by
 induction ks with
 | nil=>intro h; exact ⟨by simp,h⟩
 | cons r ks ih=>
  intro h
  have:jr P ops r e w True/\qI P ops ks e w R:=by
   simp only [qI,jr] at h |-
   cases hw:gw ops r e with
   | false=>rw [hw] at h; exact ⟨trivial,h⟩
   | true=>
    rw [hw] at h
    simp only [cond_true] at h |-
    cases hk:py P r (ev e) <;> rw [hk] at h <;> cases hd:r.dst <;> rw [hd] at h <;> first | exact h.elim | skip
    exact ⟨⟨h.tT,trivial⟩,h.rest⟩
  exact ⟨λ x hx=>(List.mem_cons.1 hx).elim (λ h'=>h'▸this.1) (λ h'=>(ih this.2).1 x h'),(ih this.2).2⟩
def mF (n:Nat) (o:Oper):Bool:=match o.dst with | none=>true | some d=>Nat.blt d n
def pM (P:Program) (ops:List Oper) (o:Oper) (ks:List Oper) (rec:List (Nat × Option Bool)->Env->World->Prop) (kg:List (Nat × Option Bool)) (e:Env) (w:World):Prop:=
 match NO kg o.op with
 | some x=>rec (GA kg o.dst x) (fD e o.dst (ev e x)) w
 | none=>wL P (py P o (ev e)) (λ v w'=>qI P ops ks (fD e o.dst v) w' (rec (del o.dst kg) (fD e o.dst v) w')) w
def Ur (o:Oper) (rec:List (Nat × Option Bool)->Env->World->Prop) (kg:List (Nat × Option Bool)) (e:Env) (w:World):Prop:=
 rec (match o.dst with | some d=>(d,none)::yk d kg | none=>kg) (fD e o.dst undef) w
theorem gj.skip {kg:List (Nat × Option Bool)} {e:Env} (h:gj kg e) (d:Option Nat) :
  gj (match d with | some d=>(d,none)::yk d kg | none=>kg) (fD e d undef):=by
 cases d with
 | none=>exact h
 | some d=>exact gj.cons (b:=none) (h.del (some d) undef) (by simp only [fD,gN]; rfl)
def DS (P:Program) (n:Nat) (ops:List Oper) (q:Oper × List Oper) (rec:List (Nat × Option Bool)->Env->World->Prop) (kg:List (Nat × Option Bool)) (e:Env) (w:World):Prop:=
  bif mF n q.1 then
   match q.1.guard with
   | none=>pM P ops q.1 q.2 rec kg e w
   | some g=>match n8 ops g.1 with
    | none=>False
    | some s=>match lk s kg with
     | some none=>Ur q.1 rec kg e w
     | some (some b')=>bif b' == g.2 then pM P ops q.1 q.2 rec kg e w else Ur q.1 rec kg e w
     | none=>pL (e s)
       (bif g.2 then pM P ops q.1 q.2 rec ((s,some true)::kg) (nV e s (.bool true)) w else Ur q.1 rec ((s,some true)::kg) (nV e s (.bool true)) w)
       (bif g.2 then Ur q.1 rec ((s,some false)::kg) (nV e s (.bool false)) w else pM P ops q.1 q.2 rec ((s,some false)::kg) (nV e s (.bool false)) w)
  else False
def DR (P:Program) (n:Nat) (ops:List Oper):List (Oper × List Oper)->(Env->World->Prop)->List (Nat × Option Bool)->Env->World->Prop
 | [],Q,_,e,w=>Q e w
 | q::rest,Q,kg,e,w=>DS P n ops q (DR P n ops rest Q) kg e w
theorem o8 {P:Program} {ops:List Oper} {o:Oper} {ks:List Oper} {rec:List (Nat × Option Bool)->Env->World->Prop} {kg:List (Nat × Option Bool)} {e:Env} {w:World}
  (hk:gj kg e) (h:pM P ops o ks rec kg e w) :
  wL P (py P o (ev e)) (λ v w'=>(w'=w\/∀ r∈ks,jr P ops r (fD e o.dst v) w' True)/\∃ Cb,gj Cb (fD e o.dst v)/\rec Cb (fD e o.dst v) w') w:=by
 unfold pM at h
 split at h
 ·rename_i x hx
  have hv:(py P o (ev e)).has P w (ev e x):=by
   unfold py
   cases gd:o.op <;> rw [gd] at hx <;> simp only [NO] at hx <;> first | cases hx | skip
   case move y=>simp only [uK.has]
   case assign y=>simp only [uK.has]
   case pick c a b=>
    cases c <;> simp only at hx <;> first | cases hx | skip
    rename_i c
    split at hx
    ·rename_i t ht
     cases hx
     have hc:e c = .bool t:=hk c _ ht
     simp only [uK.has,ev,hc,DG]
     cases t <;> rfl
    ·cases hx
  exact wL.Gx hv ⟨.inl rfl,_,hk.Z9 _ _,h⟩
 refine h.mono λ v w' hh=>?_
 have:=z0 hh
 exact ⟨.inr this.1,_,hk.del _ _,this.2⟩
theorem yl {P:Program} {n:Nat} {ops:List Oper} {q:Oper × List Oper} {rec:List (Nat × Option Bool)->Env->World->Prop} {kg:List (Nat × Option Bool)} {e:Env} {w:World}
  (hk:gj kg e) (h:DS P n ops q rec kg e w) :
  (∀ d,q.1.dst=some d->d<n)/\
  qE P ops q.1 (λ e' w'=>(w'=w\/∀ r∈q.2,jr P ops r e' w' True)/\∃ Cb,gj Cb e'/\rec Cb e' w') e w:=by
 unfold DS at h
 cases hd:mF n q.1 with
 | false=>rw [hd] at h; exact h.elim
 | true=>
  rw [hd] at h
  refine ⟨λ d hdd=>by unfold mF at hd; rw [hdd] at hd; exact Nat.blt_eq▸hd,?_⟩
  have sk:∀ {kg:List (Nat × Option Bool)},gj kg e->Ur q.1 rec kg e w->
    (w=w\/∀ r∈q.2,jr P ops r (fD e q.1.dst undef) w True)/\∃ Cb,gj Cb (fD e q.1.dst undef)/\rec Cb (fD e q.1.dst undef) w:=
   λ hk h=>⟨.inl rfl,_,hk.skip _,h⟩
  simp only [cond_true] at h
  unfold qE
  cases hg:q.1.guard with
  | none=>
   rw [hg] at h
   have hB:gw ops q.1 e=true:=by unfold gw; rw [hg]
   rw [if_pos hB]
   exact o8 hk h
  | some g=>
   obtain ⟨j,b⟩:=g
   rw [hg] at h
   dsimp only at h
   cases hs:n8 ops j with
   | none=>rw [hs] at h; exact h.elim
   | some s=>
    rw [hs] at h
    dsimp only at h
    have hB:∀ t,e s = .bool t->gw ops q.1 e=(t == b):=λ t ht=>by unfold gw; rw [hg]; dsimp only; rw [hs]; dsimp only; rw [ht]
    cases hl:lk s kg with
    | some ob=>
     rw [hl] at h
     cases ob with
     | none=>
      dsimp only at h
      have hu:gw ops q.1 e=false:=by
       unfold gw; rw [hg]; dsimp only; rw [hs]; dsimp only; rw [hk s none hl]; rfl
      rw [if_neg (by rw [hu]; simp)]
      exact sk hk h
     | some b'=>
      dsimp only at h
      rw [hB b' (hk s _ hl)]
      cases hb:b' == b with
      | true=>rw [hb] at h; rw [if_pos rfl]; exact o8 hk h
      | false=>rw [hb] at h; rw [if_neg (by simp)]; exact sk hk h
    | none=>
     rw [hl] at h
     obtain ⟨t,ht,hA,Us⟩:=h.ex
     rw [hB t ht]
     have hid:∀ c,t=c->nV e s (.bool c)=e:=λ c hc=>Qo _ _ _ (by rw [ht,hc])
     cases t with
     | true=>
      have hA:=hA rfl
      rw [hid true rfl] at hA
      cases b with
      | true=>rw [if_pos (by rfl)]; exact o8 (hk.cons (b:=some _) ht) hA
      | false=>rw [if_neg (by simp)]; exact sk (hk.cons (b:=some _) ht) hA
     | false=>
      have Us:=Us rfl
      rw [hid false rfl] at Us
      cases b with
      | true=>rw [if_neg (by simp)]; exact sk (hk.cons (b:=some _) ht) Us
      | false=>rw [if_pos (by rfl)]; exact o8 (hk.cons (b:=some _) ht) Us
theorem DR.list {r:Option Nat} {ds:List Nat} {P:Program} {n:Nat} {ops:List Oper} {Q:Env->World->Prop} {Q':Exit->Act->World->Prop} {e0:Env}
  (hQ:∀ e a w,ek ds n e a->(∀ k,k ∉ wr ops->e k=e0 k)->Q e w->Q' .normal a w) :
  ∀ (l:List Oper) (kg:List (Nat × Option Bool)) (e:Env) (a:Act) (w:World),(∀ o∈l,o∈ops)->ek ds n e a->(∀ k,k ∉ wr ops->e k=e0 k)->gj kg e->
   DR P n ops (l.map λ o=>(o,[])) Q kg e w->wpListIn (FO r) 0 P ops.toArray Q' l a w:=by
 intro l
 induction l with
 | nil=>intro kg e a w _ ha sw _ h; exact hQ e a w ha sw h
 | cons o l ih=>
  intro kg e a w hm ha sw hk h
  obtain ⟨hd,hs⟩:=yl hk h
  obtain ⟨i,hi⟩:=List.getElem?_of_mem (hm o List.mem_cons_self)
  have GC:∀ x∈l,x∈ops:=λ x hx=>hm x (List.mem_cons_of_mem _ hx)
  unfold wpListIn
  rw [sE ha]
  unfold qE at hs
  split
  ·rename_i hw
   rw [if_pos hw] at hs
   exact wL.wp ha hs λ v w' ⟨_,Cb,NP,hv⟩=>ih Cb _ _ w' GC (ha.put hd v) (lz sw hi v) NP hv
  ·rename_i hw
   rw [if_neg hw] at hs
   obtain ⟨_,Cb,NP,hv⟩:=hs
   exact ⟨ly,ih Cb _ _ w GC (ha.put hd undef) (lz sw hi undef) NP hv⟩
theorem DR.region {r:Option Nat} {ds:List Nat} {P:Program} {n:Nat} {id:Nat} {ops:List Oper} {Q:Env->World->Prop} {Q':Exit->Act->World->Prop} {e:Env} {a:Act} {w:World}
  (ha:ek ds n e a) (hQ:∀ e' a w,ek ds n e' a->(∀ k,k ∉ wr ops->e' k=e k)->Q e' w->Q' .normal a w)
  (h:DR P n ops (ops.map λ o=>(o,[])) Q [] e w):(Code.region id ops.toArray false).wpIn (FO r) 0 P Q' a w:=
 wpIn_region_lit (DR.list hQ ops [] e a w (λ _ h=>h) ha (λ _ _=>rfl) (gj.nil e) h)
def GD (P:Program) (ops:List Oper):List Oper->(Env->World->Prop)->Env->World->Prop
 | [],Q,e,w=>Q e w
 | o::r,Q,e,w=>qE P ops o (λ e' w'=>GD P ops r Q e' w') e w
theorem GD.list {r:Option Nat} {ds:List Nat} {P:Program} {n:Nat} {ops:List Oper} {Q:Env->World->Prop} {Q':Exit->Act->World->Prop} {e0:Env}
  (hQ:∀ e a w,ek ds n e a->(∀ k,k ∉ wr ops->e k=e0 k)->Q e w->Q' .normal a w) :
  ∀ (l:List Oper) (e:Env) (a:Act) (w:World),(∀ o∈l,o∈ops/\∀ d,o.dst=some d->d<n)->ek ds n e a->(∀ k,k ∉ wr ops->e k=e0 k)->
   GD P ops l Q e w->wpListIn (FO r) 0 P ops.toArray Q' l a w:=by
 intro l
 induction l with
 | nil=>intro e a w _ ha sw h; exact hQ e a w ha sw h
 | cons o l ih=>
  intro e a w hm ha sw hs
  have hd:=(hm o List.mem_cons_self).2
  obtain ⟨i,hi⟩:=List.getElem?_of_mem (hm o List.mem_cons_self).1
  have GC:∀ x∈l,x∈ops/\∀ d,x.dst=some d->d<n:=λ x hx=>hm x (List.mem_cons_of_mem _ hx)
  unfold wpListIn
  rw [sE ha]
  unfold GD qE at hs
  split
  ·rename_i hw
   rw [if_pos hw] at hs
   exact wL.wp ha hs λ v w' hv=>ih _ _ w' GC (ha.put hd v) (lz sw hi v) hv
  ·rename_i hw
   rw [if_neg hw] at hs
   exact ⟨ly,ih _ _ w GC (ha.put hd undef) (lz sw hi undef) hs⟩
def Ck (P:Program) (o:Oper):Bool:=(py P o λ _=>undef).quiet
def uM (P:Program) (o:Oper):Bool:=(py P o λ _=>undef).reads
theorem uN {P:Program} {o:Oper} (ρ ρ':Operand->Value):(py P o ρ).quiet=(py P o ρ').quiet/\(py P o ρ).reads=(py P o ρ').reads:=by
 unfold py
 cases o.op <;> try exact ⟨rfl,rfl⟩
 case binOp op t x y u=>dsimp only; split <;> exact ⟨rfl,rfl⟩
 case convert s d x=>dsimp only; split <;> exact ⟨rfl,rfl⟩
 case call c=>
  dsimp only
  cases c.callee with
  | value x=>cases x <;> exact ⟨rfl,rfl⟩
  | invoke r nm=>exact ⟨rfl,rfl⟩
  | builtin b=>cases b <;> dsimp only <;> first | exact ⟨rfl,rfl⟩ | (split <;> exact ⟨rfl,rfl⟩)
def iW (d:Nat):List Nat->Bool
 | []=>false
 | x::r=>Nat.beq x d || iW d r
theorem oa {d:Nat} {l:List Nat}:iW d l=true↔d∈l:=by
 induction l with
 | nil=>simp [iW]
 | cons x r ih=>
  simp only [iW,Bool.or_eq_true,ih,List.mem_cons]
  constructor
  ·rintro (h | h)
   ·exact .inl (Nat.eq_of_beq_eq_true h).symm
   ·exact .inr h
  ·rintro (rfl | h)
   ·exact .inl (gO _)
   ·exact .inr h
theorem DH {d:Nat} {l:List Nat}:iW d l=false↔d ∉ l:=by
 rw [<- oa]; simp
def eqO (d:Nat):Option Nat->Bool | none=>false | some k=>Nat.beq k d
theorem KZ {d:Nat} {o:Option Nat}:eqO d o=true↔o=some d:=by
 cases o with
 | none=>simp [eqO]
 | some k=>simp only [eqO,Option.some.injEq]; exact ⟨Nat.eq_of_beq_eq_true,λ h=>by rw [h]; exact gO _⟩
def ym (ops:List Oper) (x y:Oper):Bool:=match y.dst with | none=>true | some d=>!iW d (looks ops x) && !eqO d x.dst
theorem sF {ops:List Oper} {x y:Oper} (h:ym ops x y=true):∀ d,y.dst=some d->d ∉ looks ops x/\x.dst≠some d:=by
 intro d hd
 unfold ym at h
 rw [hd] at h
 simp only [Bool.and_eq_true,Bool.not_eq_true'] at h
 exact ⟨DH.1 h.1,λ hh=>by rw [<- KZ] at hh; rw [hh] at h; cases h.2⟩
def Cl (ops:List Oper) (x y:Oper):Bool:=ym ops y x && ym ops x y
theorem z4 {ops:List Oper} {x y:Oper} (h:Cl ops x y=true):NN ops x y:=by
 simp only [Cl,Bool.and_eq_true] at h
 exact ⟨λ d hd=>sF h.1 d hd,λ d hd=>(sF h.2 d hd).1⟩
def sG (f:Nat->Oper->Bool):Nat->List Oper->Bool
 | _,[]=>true
 | k,o::r=>f k o && sG f (k+1) r
theorem jj {f:Nat->Oper->Bool} {l:List Oper}:∀ {k:Nat},sG f k l=true->∀ i o,l[i]? = some o->f (k+i) o=true:=by
 induction l with
 | nil=>intro k _ i o h; simp at h
 | cons x r ih=>
  intro k h i o ho
  simp only [sG,Bool.and_eq_true] at h
  cases i with
  | zero=>simp at ho; subst ho; exact h.1
  | succ i=>have:=ih h.2 i o (by simpa using ho); rwa [show k+1+i=k+(i+1) from by omega] at this
def tU:List Nat->Nat->Nat
 | [],_=>0
 | x::_,0=>x
 | _::r,n+1=>tU r n
def xk (cls:List Nat):List Nat->Nat
 | []=>0
 | p::r=>Nat.lor (Nat.lor (Nat.shiftLeft 1 p) (tU cls p)) (xk cls r)
def tn (ops:List Oper) (cls:List Nat):Bool:=
 sG (λ j o=>(pre o).all (λ p=>Nat.blt p j) && Nat.beq (tU cls j) (xk cls (pre o))) 0 ops
theorem E9 {cls l:List Nat} {i:Nat} (h:(xk cls l).testBit i=true):∃ p∈l,p=i\/(tU cls p).testBit i=true:=by
 induction l with
 | nil=>simp [xk] at h
 | cons p r ih=>
  have h':(((1 <<< p) ||| tU cls p) ||| xk cls r).testBit i=true:=h
  simp only [Nat.testBit_or,Bool.or_eq_true] at h'
  rcases h' with (h' | h') | h'
  ·refine ⟨p,by simp,.inl ?_⟩
   rw [Nat.one_shiftLeft,Nat.testBit_two_pow] at h'
   simpa using h'
  ·exact ⟨p,by simp,.inr h'⟩
  ·obtain ⟨q,hq,h''⟩:=ih h'
   exact ⟨q,by simp [hq],h''⟩
theorem xl {ops:List Oper} {cls:List Nat} (h:tn ops cls=true):∀ (n j:Nat),j<n->j<ops.length->∀ i,(tU cls j).testBit i=true->Cj ops j i:=by
 intro n
 induction n with
 | zero=>intro j hj; omega
 | succ n ih=>
  intro j hj hlen i hi
  obtain ⟨o,ho⟩:∃ o,ops[j]? = some o:=⟨ops[j],by simp [hlen]⟩
  have:=jj h j o ho
  simp only [Nat.zero_add,Bool.and_eq_true,List.all_eq_true] at this
  obtain ⟨h1,h2⟩:=this
  have h2:=Nat.eq_of_beq_eq_true h2
  rw [h2] at hi
  obtain ⟨p,hp,hh⟩:=E9 hi
  rcases hh with rfl | hh
  ·exact .one ho hp
  ·have hpj:p<j:=by have:=h1 p hp; rwa [Nat.blt_eq] at this
   exact .more ho hp (ih p (by omega) (by omega) i hh)
def bit (m i:Nat):Bool:=Nat.testBit m i
def xm (ops:List Oper) (y:Oper):Bool:=match y.dst with | none=>false | some d=>!iW d (looks ops y)
theorem Cm {ops:List Oper} {y:Oper} (h:xm ops y=true):∃ d,y.dst=some d/\d ∉ looks ops y:=by
 unfold xm at h
 cases hd:y.dst with
 | none=>rw [hd] at h; cases h
 | some d=>rw [hd] at h; exact ⟨d,rfl,DH.1 (by simpa using h)⟩
def GF (P:Program) (ops:List Oper) (cls:List Nat) (m i:Nat) (ks:List Nat):Bool:=
 match ops[i]? with
 | none=>false
 | some o=>
  !bit m i && ((pre o).all (λ p=>bit m p) &&
  (bif Ck P o then
   sG (λ j y=>Nat.beq j i || (bit m j || (iW i (pre y) || Cl ops o y))) 0 ops
  else
   sG (λ j y=>Nat.beq j i || (bit m j || !(pre y).all (λ p=>bit m p))) 0 ops &&
   (sG (λ r y=>!bit m r || (!uM P y || (bit (tU cls i) r || iW r ks))) 0 ops &&
   ks.all (λ r=>match ops[r]? with
    | none=>false
    | some y=>xm ops y && sG (λ j z=>Nat.beq j r || (bit (tU cls r) j || ym ops y z)) 0 ops))))
inductive PT where
 | nil
 | stop
 | op (i:Nat) (ks:List Nat) (r:PT)
 | alt (i:Nat) (ks:List Nat) (r o:PT)
def PT.of:List (Nat × List Nat)->PT
 | []=>.nil
 | q::r=>.op q.1 q.2 (PT.of r)
def PT.ids:PT->List Nat
 | .alt i _ _ o=>i::o.ids
 | _=>[]
def PT.many:PT->Bool
 | .alt _ _ _ _=>true
 | .op _ _ r=>r.many
 | _=>false
def NQ (P:Program) (ops:List Oper) (cls:List Nat) (m i:Nat) (ks:List Nat):Bool:=
 match ops[i]? with
 | none=>false
 | some o=>
  !bit m i && ((pre o).all (λ p=>bit m p) && (!Ck P o && (
   (sG (λ r y=>!bit m r || (!uM P y || (bit (tU cls i) r || iW r ks))) 0 ops &&
   ks.all (λ r=>match ops[r]? with
    | none=>false
    | some y=>xm ops y && sG (λ j z=>Nat.beq j r || (bit (tU cls r) j || ym ops y z)) 0 ops)))))
def Cc (P:Program) (ops:List Oper) (cls:List Nat):Bool->Nat->Nat->PT->Bool
 | c,f,m,.nil=>!c && (Nat.beq f 0 && sG (λ j _=>bit m j) 0 ops)
 | c,_,_,.stop=>c
 | c,f,m,.op i ks r=>!c && (match f with | 0=>false | f'+1=>GF P ops cls m i ks && Cc P ops cls false f' (Nat.lor m (Nat.shiftLeft 1 i)) r)
 | c,f,m,.alt i ks r o=>(c || sG (λ j y=>bit m j || (!(pre y).all (λ p=>bit m p) || iW j (i::o.ids))) 0 ops) &&
  ((match f with | 0=>false | f'+1=>NQ P ops cls m i ks && Cc P ops cls false f' (Nat.lor m (Nat.shiftLeft 1 i)) r) && Cc P ops cls true f m o)
def pN (ops:List Oper):List Nat:=ops.foldl (λ acc o=>acc++[xk acc (pre o)]) []
def PT.run (k:Nat):Nat->PT
 | 0=>.nil
 | n+1=>.op k [] (PT.run (k+1) n)
def hJ (ops:List Oper) (i:Nat):Oper:=(ops[i]?).getD default
def DT (P:Program) (n:Nat) (ops:List Oper):PT->(Env->World->Prop)->List (Nat × Option Bool)->Env->World->Prop
 | .nil,Q,_,e,w=>Q e w
 | .stop,_,_,_,_=>True
 | .op i ks r,Q,kg,e,w=>DS P n ops (hJ ops i,ks.map (hJ ops)) (DT P n ops r Q) kg e w
 | .alt i ks r o,Q,kg,e,w=>DS P n ops (hJ ops i,ks.map (hJ ops)) (DT P n ops r Q) kg e w/\DT P n ops o Q kg e w
def DQ (P:Program) (ops:List Oper):PT->(Env->World->Prop)->Env->World->Prop
 | .nil,Q,e,w=>Q e w
 | .stop,_,_,_=>True
 | .op i ks r,Q,e,w=>qE P ops (hJ ops i) (λ e' w'=>(w'=w\/∀ r∈ks.map (hJ ops),jr P ops r e' w' True)/\DQ P ops r Q e' w') e w
 | .alt i ks r o,Q,e,w=>qE P ops (hJ ops i) (λ e' w'=>(w'=w\/∀ r∈ks.map (hJ ops),jr P ops r e' w' True)/\DQ P ops r Q e' w') e w/\DQ P ops o Q e w
theorem DT.plain {P:Program} {n:Nat} {ops:List Oper} {Q:Env->World->Prop}:∀ (p:PT) (kg:List (Nat × Option Bool)) (e:Env) (w:World),gj kg e->DT P n ops p Q kg e w->DQ P ops p Q e w:=by
 intro p
 induction p with
 | nil=>intro kg e w _ h; exact h
 | stop=>intro kg e w _ _; trivial
 | op i ks p ih=>intro kg e w hk h; exact (yl hk h).2.mono λ v w' ⟨h1,Cb,h2,h3⟩=>⟨h1,ih Cb _ _ h2 h3⟩
 | alt i ks p o ih tq=>intro kg e w hk h; exact ⟨(yl hk h.1).2.mono λ v w' ⟨h1,Cb,h2,h3⟩=>⟨h1,ih Cb _ _ h2 h3⟩,tq kg e w hk h.2⟩
structure Tk where
 idx:Nat
 o:Oper
 b:Bool
 X:uK
 v:Value
structure uO (P:Program) (ops:List Oper) (L:Nat->Bool) (T:List Tk) (e:Env):Prop where
 op:∀ x∈T,ops[x.idx]? = some x.o
 eY:∀ x∈T,L x.idx=true
 kind:∀ x∈T,x.X.reads=uM P x.o
 still:∀ x∈T,x.X.reads=false->x.b=true->∀ w,x.X.has P w x.v
 reads:∀ x∈T,x.X.reads=true->(∀ j z,ops[j]? = some z->j≠x.idx->Cj ops x.idx j\/ym ops x.o z=true)->xm ops x.o=true->
  py P x.o (ev e)=x.X/\gw ops x.o e=x.b/\∃ d,x.o.dst=some d/\(x.b=true->e d=x.v)
def ST (P:Program) (ops:List Oper) (T:List Tk):Nat->World->Prop:=λ j w=>∀ x∈T,Cj ops j x.idx\/(x.b=true->x.X.has P w x.v)
theorem DI {m i:Nat}:(λ k=>bit (Nat.lor m (Nat.shiftLeft 1 i)) k)=iC (λ k=>bit m k) i:=by
 funext k
 show (m ||| 1 <<< i).testBit k=_
 rw [Nat.testBit_or,Nat.one_shiftLeft,Nat.testBit_two_pow]
 unfold iC bit
 by_cases h:k=i
 ·subst h; simp
 rw [if_neg h]
 have:decide (i=k)=false:=by simpa using λ hh:i=k=>h hh.symm
 rw [this,Bool.or_false]
theorem uO.next {P:Program} {ops:List Oper} {L:Nat->Bool} {T:List Tk} {e:Env} (h:uO P ops L T e) (hL:Down ops L) {i:Nat} {o:Oper} (ho:ops[i]? = some o) (hi:L i=false) (v:Value) :
  uO P ops (iC L i) T (fD e o.dst v):=by
 refine ⟨h.op,λ x hx=>ub _ _ (h.eY x hx),h.kind,h.still,λ x hx hr hst hds=>?_⟩
 obtain ⟨h1,h2,d,hd,h3⟩:=h.reads x hx hr hst hds
 have jV:i≠x.idx:=λ hh=>by have:=h.eY x hx; rw [<- hh,hi] at this; cases this
 have Qs:ym ops x.o o=true:=by
  rcases hst i o ho jV with Qr | Qs
  ·have:L i=true:=Qr.eY hL λ o' zP p hp=>hL x.idx o' (h.eY x hx) zP p hp
   rw [hi] at this; cases this
  ·exact Qs
 have hof:=sF Qs
 refine ⟨by rw [tZ λ k hk=>(hof k hk).1]; exact h1,by rw [o7 λ k hk=>(hof k hk).1]; exact h2,d,hd,λ hb=>?_⟩
 have:=h3 hb
 cases DJ:o.dst with
 | none=>exact this
 | some k=>
  have hkd:d≠k:=λ hh=>(hof k DJ).2 (by rw [hd,hh])
  simp only [fD,iB _ _ hkd]
  exact this
theorem z5 {P:Program} {ops:List Oper} {cls:List Nat} (hc:tn ops cls=true) {f m i:Nat} {ks:List Nat} {o:Oper} {T:List Tk} {e:Env} {w:World} {Q:Env->World->Prop} {rec:Env->World->Prop}
  (ho:ops[i]? = some o) (KI:bit m i=false) (hL:Down ops (bit m)) (hT:uO P ops (bit m) T e)
  (m9:∀ (r:Nat) (y:Oper),ops[r]? = some y->(!bit m r || (!uM P y || (bit (tU cls i) r || iW r ks)))=true)
  (z6:∀ r∈ks,(match ops[r]? with | none=>false | some y=>xm ops y && sG (λ j z=>Nat.beq j r || (bit (tU cls r) j || ym ops y z)) 0 ops)=true)
  (hst:qE P ops o (λ e' w'=>(w'=w\/∀ r∈ks.map (hJ ops),jr P ops r e' w' True)/\rec e' w') e w)
  (Qt:∀ v w',uO P ops (iC (bit m) i) T (fD e o.dst v)->rec (fD e o.dst v) w'->WS P ops Q (ST P ops T) f (iC (bit m) i) (fD e o.dst v) w') :
  qE P ops o (λ e' w'=>(w'=w\/ST P ops T i w')/\WS P ops Q (ST P ops T) f (iC (bit m) i) e' w') e w:=by
 refine hst.mono λ v w' hh=>?_
 obtain ⟨hkp,nH⟩:=hh
 have Gk:=hT.next hL ho KI v
 refine ⟨?_,?_⟩
 ·rcases hkp with hw | hkp
  ·exact .inl hw
  refine .inr λ x hx=>?_
  cases Qu:x.X.reads with
  | false=>exact .inr λ hb=>hT.still x hx Qu hb w'
  | true=>
   have h1:=m9 x.idx x.o (hT.op x hx)
   simp only [Bool.or_eq_true,Bool.not_eq_true'] at h1
   rcases h1 with h1 | h1 | h1 | h1
   ·have:=hT.eY x hx; rw [h1] at this; cases this
   ·have:=hT.kind x hx; rw [Qu,h1] at this; cases this
   ·have hjl:i<ops.length:=(List.getElem?_eq_some_iff.1 ho).1
    exact .inl (xl hc (i+1) i (by omega) hjl _ h1)
   ·have wT:=oa.1 h1
    have h2:=z6 x.idx wT
    rw [hT.op x hx] at h2
    simp only [Bool.and_eq_true] at h2
    obtain ⟨hds,h2⟩:=h2
    have h2:=jj h2
    have hxl:x.idx<ops.length:=(List.getElem?_eq_some_iff.1 (hT.op x hx)).1
    obtain ⟨e1,e2,d,hd,e3⟩:=Gk.reads x hx Qu (λ k z hz jV=>by
     have:=h2 k z hz
     simp only [Nat.zero_add,Bool.or_eq_true] at this
     rcases this with h3 | h3 | h3
     ·exact absurd (Nat.eq_of_beq_eq_true h3) jV
     ·exact .inl (xl hc (x.idx+1) x.idx (by omega) hxl _ h3)
     ·exact .inr h3) hds
    refine .inr λ hb=>?_
    have KJ:=hkp x.o (List.mem_map.2 ⟨x.idx,wT,by simp [hJ,hT.op x hx]⟩)
    unfold jr at KJ
    rw [e2,hb,e1,hd] at KJ
    simp only [cond_true] at KJ
    cases hX:x.X <;> rw [hX] at KJ Qu <;> first | exact KJ.elim | cases Qu | skip
    have:=KJ.tT
    rw [e3 hb] at this
    exact this
 exact Qt v w' Gk nH
theorem DK {P:Program} {ops:List Oper} {cls:List Nat} {Q:Env->World->Prop} (hc:tn ops cls=true) :
  ∀ (p:PT) (f m:Nat) (T:List Tk) (e:Env) (w:World),
   Down ops (bit m)->uO P ops (bit m) T e->DQ P ops p Q e w->
   (Cc P ops cls false f m p=true->WS P ops Q (ST P ops T) f (bit m) e w)/\
   (Cc P ops cls true f m p=true->∀ j∈p.ids,∃ f',f=f'+1/\Ci ops (bit m) j/\∀ oj,ops[j]? = some oj->qE P ops oj (λ e' w'=>(w'=w\/ST P ops T j w')/\WS P ops Q (ST P ops T) f' (iC (bit m) j) e' w') e w):=by
 intro p
 induction p with
 | nil=>
  intro f m T e w hL hT h
  refine ⟨λ hp=>?_,λ _ j hj=>by cases hj⟩
  simp only [Cc,Bool.not_false,Bool.true_and,Bool.and_eq_true] at hp
  have jq:=jj hp.2
  rw [Nat.eq_of_beq_eq_true hp.1]
  refine ⟨λ i hr=>?_,h⟩
  obtain ⟨h0,o,ho,_⟩:=hr
  have:=jq i o ho
  rw [Nat.zero_add,h0] at this; cases this
 | stop=>
  intro f m T e w hL hT h
  exact ⟨λ hp=>by simp [Cc] at hp,λ _ j hj=>by cases hj⟩
 | op i ks p ih=>
  intro f m T e w hL hT h
  refine ⟨λ hp=>?_,λ _ j hj=>by cases hj⟩
  simp only [Cc,Bool.not_false,Bool.true_and] at hp
  cases f with
  | zero=>cases hp
  | succ f=>
   simp only [Bool.and_eq_true] at hp
   obtain ⟨hs,hp⟩:=hp
   unfold GF at hs
   cases ho:ops[i]? with
   | none=>rw [ho] at hs; cases hs
   | some o=>
   rw [ho] at hs
   simp only [Bool.and_eq_true,Bool.not_eq_true',List.all_eq_true] at hs
   obtain ⟨KI,Qv,hs⟩:=hs
   have hr:Ci ops (bit m) i:=⟨KI,o,ho,Qv⟩
   have gT:hJ ops i=o:=by simp [hJ,ho]
   have hst:qE P ops (hJ ops i) (λ e' w'=>(w'=w\/∀ r∈ks.map (hJ ops),jr P ops r e' w' True)/\DQ P ops p Q e' w') e w:=h
   rw [gT] at hst
   have lY:(bit (Nat.lor m (Nat.shiftLeft 1 i)))=iC (bit m) i:=DI
   have hL':Down ops (iC (bit m) i):=hL.set hr
   cases hq:Ck P o with
   | true=>
    rw [hq] at hs
    simp only [cond_true] at hs
    have zZ:=jj hs
    have hqq:∀ ρ,(py P o ρ).quiet=true:=λ ρ=>by rw [(uN ρ (λ _=>undef)).1]; exact hq
    obtain ⟨b,v,hb,hn,hy,nH⟩:∃ b v,gw ops o e=b/\(b=false->v=undef)/\(b=true->(py P o (ev e)).has P w v)/\
      DQ P ops p Q (fD e o.dst v) w:=by
     unfold qE at hst
     cases hb:gw ops o e with
     | true=>
      rw [if_pos hb] at hst
      obtain ⟨v,hv,_,nH⟩:=hst.has (hqq _)
      exact ⟨true,v,rfl,by simp,λ _=>hv,nH⟩
     | false=>
      rw [if_neg (by rw [hb]; simp)] at hst
      obtain ⟨_,nH⟩:=hst
      exact ⟨false,undef,rfl,λ _=>rfl,by simp,nH⟩
    refine WS.first (X:=py P o (ev e)) ho hn f (bit m) e w hL hr ?_ rfl hb hy ?_
    ·intro j oj wS Gy abk gT
     have:=zZ j oj wS
     simp only [Nat.zero_add,Bool.or_eq_true] at this
     rcases this with h1 | h1 | h1 | h1
     ·exact absurd (Nat.eq_of_beq_eq_true h1) Gy
     ·rw [abk] at h1; cases h1
     ·exact absurd (oa.1 h1) gT
     ·exact z4 h1
    ·have hT':uO P ops (iC (bit m) i) (⟨i,o,b,py P o (ev e),v⟩::T) (fD e o.dst v):=by
      have Gk:=hT.next hL ho KI v
      constructor
      ·intro x hx; rcases List.mem_cons.1 hx with rfl | hx
       ·exact ho
       ·exact Gk.op x hx
      ·intro x hx; rcases List.mem_cons.1 hx with rfl | hx
       ·exact xj _ _
       ·exact Gk.eY x hx
      ·intro x hx; rcases List.mem_cons.1 hx with rfl | hx
       ·exact (uN _ _).2
       ·exact Gk.kind x hx
      ·intro x hx; rcases List.mem_cons.1 hx with rfl | hx
       ·intro h1 h2 w'; exact uK.E4 h1 (hy h2)
       ·exact Gk.still x hx
      ·intro x hx; rcases List.mem_cons.1 hx with rfl | hx
       ·intro h1 h2 h3
        obtain ⟨d,hd,GG⟩:=Cm h3
        dsimp only at hd GG |-
        have hh:∀ k,o.dst=some k->k ∉ looks ops o:=λ k hk=>by rw [hd] at hk; cases hk; exact GG
        refine ⟨tZ hh,by rw [o7 hh]; exact hb,d,hd,λ _=>?_⟩
        rw [hd]; exact gN _ _ _
       ·exact Gk.reads x hx
     have:=(ih f _ _ _ w (by rw [lY]; exact hL') (by rw [lY]; exact hT') nH).1 hp
     rw [lY] at this
     refine WS.weaken (λ j w' hj=>?_) _ _ _ _ this
     exact ⟨λ x hx=>hj x (List.mem_cons_of_mem _ hx),hj _ List.mem_cons_self⟩
   | false=>
    rw [hq] at hs
    simp only [cond_false,Bool.and_eq_true,List.all_eq_true] at hs
    obtain ⟨GH,m9,z6⟩:=hs
    have GH:=jj GH
    have m9:=jj m9
    refine ⟨λ gT=>absurd hr (gT i),λ j oj wS hj=>?_⟩
    have Gy:j=i:=by
     have:=GH j oj wS
     simp only [Nat.zero_add,Bool.or_eq_true,Bool.not_eq_true'] at this
     rcases this with h1 | h1 | h1
     ·exact Nat.eq_of_beq_eq_true h1
     ·have:=hj.1; rw [h1] at this; cases this
     ·obtain ⟨_,o',zP,jq⟩:=hj
      rw [wS] at zP; cases zP
      have:(pre oj).all (λ p=>bit m p)=true:=List.all_eq_true.2 jq
      rw [this] at h1; cases h1
    subst Gy
    rw [ho] at wS; cases wS
    refine z5 hc ho KI hL hT (λ r y hy=>by have:=m9 r y hy; rwa [Nat.zero_add] at this) z6 hst λ v w' Gk nH=>?_
    have:=(ih f _ T _ w' (by rw [lY]; exact hL') (by rw [lY]; exact Gk) nH).1 hp
    rw [lY] at this
    exact this
 | alt i ks p o' ih tq=>
  intro f m T e w hL hT h
  obtain ⟨h1,h2⟩:qE P ops (hJ ops i) (λ e' w'=>(w'=w\/∀ r∈ks.map (hJ ops),jr P ops r e' w' True)/\DQ P ops p Q e' w') e w/\DQ P ops o' Q e w:=h
  have chain:∀ c,Cc P ops cls c f m (.alt i ks p o')=true->∀ j∈i::o'.ids,∃ f',f=f'+1/\Ci ops (bit m) j/\∀ oj,ops[j]? = some oj->qE P ops oj (λ e' w'=>(w'=w\/ST P ops T j w')/\WS P ops Q (ST P ops T) f' (iC (bit m) j) e' w') e w:=by
   intro c hp
   simp only [Cc,Bool.and_eq_true] at hp
   obtain ⟨_,hp,Ut⟩:=hp
   cases f with
   | zero=>cases hp
   | succ f=>
    simp only [Bool.and_eq_true] at hp
    obtain ⟨hs,hp⟩:=hp
    intro j hj
    rcases List.mem_cons.1 hj with rfl | hj
    ·unfold NQ at hs
     cases ho:ops[j]? with
     | none=>rw [ho] at hs; cases hs
     | some o=>
      rw [ho] at hs
      simp only [Bool.and_eq_true,Bool.not_eq_true',List.all_eq_true] at hs
      obtain ⟨KI,Qv,_,m9,z6⟩:=hs
      have hr:Ci ops (bit m) j:=⟨KI,o,ho,Qv⟩
      refine ⟨f,rfl,hr,λ oj wS=>?_⟩
      cases wS
      have m9:=jj m9
      have gT:hJ ops j=o:=by simp [hJ,ho]
      rw [gT] at h1
      have hst:=h1
      have lY:(bit (Nat.lor m (Nat.shiftLeft 1 j)))=iC (bit m) j:=DI
      have hL':Down ops (iC (bit m) j):=hL.set hr
      refine z5 hc ho KI hL hT (λ r y hy=>by have:=m9 r y hy; rwa [Nat.zero_add] at this) z6 hst λ v w' Gk nH=>?_
      have:=(ih f _ T _ w' (by rw [lY]; exact hL') (by rw [lY]; exact Gk) nH).1 hp
      rw [lY] at this
      exact this
    ·exact (tq (f+1) m T e w hL hT h2).2 Ut j hj
  refine ⟨λ hp=>?_,λ hp=>chain true hp⟩
  have hch:=chain false hp
  simp only [Cc,Bool.false_or,Bool.and_eq_true] at hp
  have abl:=jj hp.1
  obtain ⟨f',rfl,hri,_⟩:=hch i List.mem_cons_self
  refine ⟨λ gT=>absurd hri (gT i),λ j oj wS hj=>?_⟩
  have wT:j∈i::o'.ids:=by
   have:=abl j oj wS
   simp only [Nat.zero_add,Bool.or_eq_true,Bool.not_eq_true'] at this
   rcases this with h3 | h3 | h3
   ·have:=hj.1; rw [h3] at this; cases this
   ·obtain ⟨_,o2,ho2,jq⟩:=hj
    rw [wS] at ho2; cases ho2
    have:(pre oj).all (λ p=>bit m p)=true:=List.all_eq_true.2 jq
    rw [this] at h3; cases h3
   ·exact oa.1 h3
  obtain ⟨f2,hf,_,hst⟩:=hch j wT
  cases hf
  exact hst oj wS
structure xn (F:(World->Prop)->Prop) (G:World->Prop):Prop where
 ex:∃ I:World->Prop,F I/\∀ w,I w->G w
structure GI (B:(World->Prop)->World->Prop) (F:(World->Prop)->Prop):Prop where
 ex:∃ I:Nat->World->Prop,(∃ m,F (I m))/\∀ m w,I m w->B (λ w'=>∃ m',m'<m/\I m' w') w
structure cE (F:(Value->World->Prop)->Prop) (G:Value->World->Prop):Prop where
 ex:∃ I:Value->World->Prop,F I/\∀ x0 w,I x0 w->G x0 w
structure jS (B:(Value->World->Prop)->Value->World->Prop) (F:(Value->World->Prop)->Prop):Prop where
 ex:∃ I:Nat->Value->World->Prop,(∃ m,F (I m))/\∀ m x0 w,I m x0 w->B (λ y0 w'=>∃ m',m'<m/\I m' y0 w') x0 w
structure GJ (F:(Value->Value->World->Prop)->Prop) (G:Value->Value->World->Prop):Prop where
 ex:∃ I:Value->Value->World->Prop,F I/\∀ x0 x1 w,I x0 x1 w->G x0 x1 w
structure l7 (B:(Value->Value->World->Prop)->Value->Value->World->Prop) (F:(Value->Value->World->Prop)->Prop):Prop where
 ex:∃ I:Nat->Value->Value->World->Prop,(∃ m,F (I m))/\∀ m x0 x1 w,I m x0 x1 w->B (λ y0 y1 w'=>∃ m',m'<m/\I m' y0 y1 w') x0 x1 w
structure Uu (F:(Value->Value->Value->World->Prop)->Prop) (G:Value->Value->Value->World->Prop):Prop where
 ex:∃ I:Value->Value->Value->World->Prop,F I/\∀ x0 x1 x2 w,I x0 x1 x2 w->G x0 x1 x2 w
structure Uv (B:(Value->Value->Value->World->Prop)->Value->Value->Value->World->Prop) (F:(Value->Value->Value->World->Prop)->Prop):Prop where
 ex:∃ I:Nat->Value->Value->Value->World->Prop,(∃ m,F (I m))/\∀ m x0 x1 x2 w,I m x0 x1 x2 w->B (λ y0 y1 y2 w'=>∃ m',m'<m/\I m' y0 y1 y2 w') x0 x1 x2 w
structure Uw (F:(Value->Value->Value->Value->World->Prop)->Prop) (G:Value->Value->Value->Value->World->Prop):Prop where
 ex:∃ I:Value->Value->Value->Value->World->Prop,F I/\∀ x0 x1 x2 x3 w,I x0 x1 x2 x3 w->G x0 x1 x2 x3 w
structure Ux (B:(Value->Value->Value->Value->World->Prop)->Value->Value->Value->Value->World->Prop) (F:(Value->Value->Value->Value->World->Prop)->Prop):Prop where
 ex:∃ I:Nat->Value->Value->Value->Value->World->Prop,(∃ m,F (I m))/\∀ m x0 x1 x2 x3 w,I m x0 x1 x2 x3 w->B (λ y0 y1 y2 y3 w'=>∃ m',m'<m/\I m' y0 y1 y2 y3 w') x0 x1 x2 x3 w
structure Uy (F:(Value->Value->Value->Value->Value->World->Prop)->Prop) (G:Value->Value->Value->Value->Value->World->Prop):Prop where
 ex:∃ I:Value->Value->Value->Value->Value->World->Prop,F I/\∀ x0 x1 x2 x3 x4 w,I x0 x1 x2 x3 x4 w->G x0 x1 x2 x3 x4 w
structure Uz (B:(Value->Value->Value->Value->Value->World->Prop)->Value->Value->Value->Value->Value->World->Prop) (F:(Value->Value->Value->Value->Value->World->Prop)->Prop):Prop where
 ex:∃ I:Nat->Value->Value->Value->Value->Value->World->Prop,(∃ m,F (I m))/\∀ m x0 x1 x2 x3 x4 w,I m x0 x1 x2 x3 x4 w->B (λ y0 y1 y2 y3 y4 w'=>∃ m',m'<m/\I m' y0 y1 y2 y3 y4 w') x0 x1 x2 x3 x4 w
def sy (i:Nat):List (Nat × Value)->Value->Value
 | [],d=>d
 | q::r,d=>bif Nat.beq q.1 i then q.2 else sy i r d
def wU (e:Env) (M:Nat) (bs:List (Nat × Value)) (dead:Env):Env:=λ i=>bif bit M i then sy i bs (dead i) else e i
def qJ (l:List Nat) (F:(Env->World->Prop)->Prop) (G:List (Nat × Value)->World->Prop):Prop:=
 match l with
 | []=>xn (λ K=>F (λ e w=>K w)) (λ w=>G [] w)
 | [a0]=>cE (λ K=>F (λ e w=>K (e a0) w)) (λ x0 w=>G [(a0,x0)] w)
 | [a0,a1]=>GJ (λ K=>F (λ e w=>K (e a0) (e a1) w)) (λ x0 x1 w=>G [(a0,x0),(a1,x1)] w)
 | [a0,a1,a2]=>Uu (λ K=>F (λ e w=>K (e a0) (e a1) (e a2) w)) (λ x0 x1 x2 w=>G [(a0,x0),(a1,x1),(a2,x2)] w)
 | [a0,a1,a2,a3]=>Uw (λ K=>F (λ e w=>K (e a0) (e a1) (e a2) (e a3) w)) (λ x0 x1 x2 x3 w=>G [(a0,x0),(a1,x1),(a2,x2),(a3,x3)] w)
 | [a0,a1,a2,a3,a4]=>Uy (λ K=>F (λ e w=>K (e a0) (e a1) (e a2) (e a3) (e a4) w)) (λ x0 x1 x2 x3 x4 w=>G [(a0,x0),(a1,x1),(a2,x2),(a3,x3),(a4,x4)] w)
 | _=>False
def qK (l:List Nat) (B:(Env->World->Prop)->List (Nat × Value)->World->Prop) (e:Env) (w:World):Prop:=
 match l with
 | []=>GI (λ K w=>B (λ e' w'=>K w') [] w) (λ K=>K w)
 | [a0]=>jS (λ K x0 w=>B (λ e' w'=>K (e' a0) w') [(a0,x0)] w) (λ K=>K (e a0) w)
 | [a0,a1]=>l7 (λ K x0 x1 w=>B (λ e' w'=>K (e' a0) (e' a1) w') [(a0,x0),(a1,x1)] w) (λ K=>K (e a0) (e a1) w)
 | [a0,a1,a2]=>Uv (λ K x0 x1 x2 w=>B (λ e' w'=>K (e' a0) (e' a1) (e' a2) w') [(a0,x0),(a1,x1),(a2,x2)] w) (λ K=>K (e a0) (e a1) (e a2) w)
 | [a0,a1,a2,a3]=>Ux (λ K x0 x1 x2 x3 w=>B (λ e' w'=>K (e' a0) (e' a1) (e' a2) (e' a3) w') [(a0,x0),(a1,x1),(a2,x2),(a3,x3)] w) (λ K=>K (e a0) (e a1) (e a2) (e a3) w)
 | [a0,a1,a2,a3,a4]=>Uz (λ K x0 x1 x2 x3 x4 w=>B (λ e' w'=>K (e' a0) (e' a1) (e' a2) (e' a3) (e' a4) w') [(a0,x0),(a1,x1),(a2,x2),(a3,x3),(a4,x4)] w) (λ K=>K (e a0) (e a1) (e a2) (e a3) (e a4) w)
 | _=>False
def fE (l:List Nat) (e:Env):List (Nat × Value):=l.map λ a=>(a,e a)
theorem qJ.spec {l:List Nat} {F:(Env->World->Prop)->Prop} {G:List (Nat × Value)->World->Prop} (h:qJ l F G) :
  ∃ I:List (Nat × Value)->World->Prop,F (λ e w=>I (fE l e) w)/\∀ (e:Env) w,I (fE l e) w->G (fE l e) w:=by
 unfold qJ at h
 split at h
 ·obtain ⟨I,h1,h2⟩:=h.ex
  exact ⟨λ _ w=>I w,h1,λ _ w hi=>h2 w hi⟩
 ·obtain ⟨I,h1,h2⟩:=h.ex
  exact ⟨λ q w=>match q with | [x0]=>I x0.2 w | _=>False,h1,λ e w hi=>h2 _ w hi⟩
 ·obtain ⟨I,h1,h2⟩:=h.ex
  exact ⟨λ q w=>match q with | [x0,x1]=>I x0.2 x1.2 w | _=>False,h1,λ e w hi=>h2 _ _ w hi⟩
 ·obtain ⟨I,h1,h2⟩:=h.ex
  exact ⟨λ q w=>match q with | [x0,x1,x2]=>I x0.2 x1.2 x2.2 w | _=>False,h1,λ e w hi=>h2 _ _ _ w hi⟩
 ·obtain ⟨I,h1,h2⟩:=h.ex
  exact ⟨λ q w=>match q with | [x0,x1,x2,x3]=>I x0.2 x1.2 x2.2 x3.2 w | _=>False,h1,λ e w hi=>h2 _ _ _ _ w hi⟩
 ·obtain ⟨I,h1,h2⟩:=h.ex
  exact ⟨λ q w=>match q with | [x0,x1,x2,x3,x4]=>I x0.2 x1.2 x2.2 x3.2 x4.2 w | _=>False,h1,λ e w hi=>h2 _ _ _ _ _ w hi⟩
 exact h.elim
theorem qK.spec {l:List Nat} {B:(Env->World->Prop)->List (Nat × Value)->World->Prop} {e:Env} {w:World} (h:qK l B e w) :
  ∃ I:Nat->List (Nat × Value)->World->Prop,(∃ m,I m (fE l e) w)/\
   ∀ m e w,I m (fE l e) w->B (λ e' w'=>∃ m',m'<m/\I m' (fE l e') w') (fE l e) w:=by
 unfold qK at h
 split at h
 ·obtain ⟨I,⟨m,h1⟩,h2⟩:=h.ex
  exact ⟨λ m _ w=>I m w,⟨m,h1⟩,λ m _ w hi=>h2 m w hi⟩
 ·obtain ⟨I,⟨m,h1⟩,h2⟩:=h.ex
  exact ⟨λ m q w=>match q with | [x0]=>I m x0.2 w | _=>False,⟨m,h1⟩,λ m e w hi=>h2 m _ w hi⟩
 ·obtain ⟨I,⟨m,h1⟩,h2⟩:=h.ex
  exact ⟨λ m q w=>match q with | [x0,x1]=>I m x0.2 x1.2 w | _=>False,⟨m,h1⟩,λ m e w hi=>h2 m _ _ w hi⟩
 ·obtain ⟨I,⟨m,h1⟩,h2⟩:=h.ex
  exact ⟨λ m q w=>match q with | [x0,x1,x2]=>I m x0.2 x1.2 x2.2 w | _=>False,⟨m,h1⟩,λ m e w hi=>h2 m _ _ _ w hi⟩
 ·obtain ⟨I,⟨m,h1⟩,h2⟩:=h.ex
  exact ⟨λ m q w=>match q with | [x0,x1,x2,x3]=>I m x0.2 x1.2 x2.2 x3.2 w | _=>False,⟨m,h1⟩,λ m e w hi=>h2 m _ _ _ _ w hi⟩
 ·obtain ⟨I,⟨m,h1⟩,h2⟩:=h.ex
  exact ⟨λ m q w=>match q with | [x0,x1,x2,x3,x4]=>I m x0.2 x1.2 x2.2 x3.2 x4.2 w | _=>False,⟨m,h1⟩,λ m e w hi=>h2 m _ _ _ _ _ w hi⟩
 exact h.elim
def GK (m d:Nat):Nat:=Nat.lor m (Nat.shiftLeft 1 d)
def UA (m d:Nat):Nat:=bif bit m d then Nat.sub m (Nat.shiftLeft 1 d) else m
def qf:List Nat->Nat
 | []=>0
 | d::r=>GK (qf r) d
def oc:List Operand->Nat->Nat
 | [],m=>m
 | .tmp t::r,m=>GK (oc r m) t
 | _::r,m=>oc r m
def lkX (id:Nat):List (Nat × Nat)->Nat
 | []=>0
 | q::r=>bif Nat.beq q.1 id then q.2 else lkX id r
def GL:List Oper->Nat->Nat
 | [],lo=>lo
 | o::r,lo=>oc o.op.operands.toList (match o.dst with | some d=>UA (GL r lo) d | none=>GL r lo)
def UB:List Nat->Nat->Nat
 | [],m=>m
 | d::r,m=>UB r (UA m d)
def li (rl:Nat):Code->List (Nat × Nat)->Nat->Nat
 | .skip,_,lo=>lo
 | .ret,_,_=>rl
 | .exit id,X,_=>lkX id X
 | .region _ ops _,_,lo=>GL ops.toList lo
 | .seq a b,X,lo=>li rl a X (li rl b X lo)
 | .cond c a b,X,lo=>oc [c] (Nat.lor (li rl a X lo) (li rl b X lo))
 | .block id c,X,lo=>li rl c ((id,lo)::X) lo
 | .loop c,X,_=>li rl c X (li rl c X 0)
 | .rangeFunc g ps a b,X,lo=>oc [g] (Nat.lor lo (UB ps.toList (li rl a X (li rl b X lo))))
 | _,_,_=>0
def cL:Code->Bool
 | .seq a b=>cL a || cL b
 | .cond _ a b=>cL a || cL b
 | .block _ c=>cL c
 | .loop c=>cL c
 | .rangeFunc _ _ _ _=>true
 | _=>false
def fg:Code->Nat
 | .region _ ops _=>qf (wr ops.toList)
 | .seq a b=>Nat.lor (fg a) (fg b)
 | .cond _ a b=>Nat.lor (fg a) (fg b)
 | .block _ c=>fg c
 | .loop c=>fg c
 | _=>0
def guarded:List Oper->Bool
 | []=>false
 | o::r=>o.guard.isSome || guarded r
def La (a b:Nat):Nat:=Nat.add a b
mutual
def Lb (id:Nat):Code->Nat
 | .exit k=>bif Nat.beq k id then 1 else 0
 | .seq a b=>bif Nat.beq (Lc a) 0 then Lb id a else La (Lb id a) (Lb id b)
 | .cond _ a b=>La (Lb id a) (Lb id b)
 | .block _ c=>Lb id c
 | .loop c=>Lb id c
 | .rangeFunc _ _ _ b=>Lb id b
 | _=>0
def Lc:Code->Nat
 | .skip=>1
 | .region _ ops _=>bif guarded ops.toList then 2 else 1
 | .seq a b=>bif Nat.beq (Lc a) 0 then 0 else Lc b
 | .cond _ a b=>La (Lc a) (Lc b)
 | .block id c=>La (Lc c) (Lb id c)
 | .rangeFunc _ _ _ _=>1
 | _=>0
end
def eA (m:Nat):Nat->Nat->List Nat
 | 0,_=>[]
 | f+1,i=>bif bit m i then i::eA m f (i+1) else eA m f (i+1)
abbrev tV:=Exit->List Nat->Env->World->Prop
def l8 (K:List Nat->Env->World->Prop) (Q:tV):tV
 | .normal,ds,e,w=>K ds e w
 | x,ds,e,w=>Q x ds e w
def GN (id:Nat) (Q:tV):tV
 | .exit k,ds,e,w=>bif Nat.beq k id then Q .normal ds e w else Q (.exit k) ds e w
 | x,ds,e,w=>Q x ds e w
def GO (K:Option Code->World->Prop):tV
 | .normal,_,_,w=>K none w
 | .ret,_,_,w=>K (some .ret) w
 | .exit id,_,_,w=>K (some (.exit id)) w
 | _,_,_,_=>False
def Z9 (N R:Nat->World->Prop) (X:Nat->Nat->World->Prop):Option Code->Nat->World->Prop
 | none=>N
 | some .ret=>R
 | some (.exit id)=>X id
 | _=>λ _ _=>False
def outs:List Nat->Code->Bool
 | l,.exit id=>!(l.any λ k=>Nat.beq k id)
 | l,.seq a b=>outs l a || outs l b
 | l,.cond _ a b=>outs l a || outs l b
 | l,.block id c=>outs (id::l) c
 | l,.loop c=>outs l c
 | _,_=>false
def Fa:List Value->Nat->Value
 | [],_=>undef
 | v::_,0=>v
 | _::r,k+1=>Fa r k
def pO (args:List Value):List Nat->Nat->Env->Env
 | [],_,e=>e
 | p::r,k,e=>pO args r (k+1) (nV e p (Fa args k))
def iv (ds:List Nat):Value:=.tuple (ds.map fun (D:Nat)=>Value.int .u64 (D:Int)).toArray
def Qw:Value->Nat
 | .int _ n=>n.toNat
 | _=>0
def z7:Value->List Nat
 | .tuple vs=>vs.toList.map Qw
 | _=>[]
theorem xo (ds:List Nat):z7 (iv ds)=ds:=by
 show (ds.map fun (D:Nat)=>Value.int .u64 (D:Int)).map Qw=ds
 rw [List.map_map]
 conv=>rhs; rw [<- List.map_id ds]
 exact List.map_congr_left λ D _=>by simp [Qw]
structure DN (P:Program) (fv:Value) (np:Nat) (w:World) (round:List Value->World->(World->(World->Prop)->Prop)->(Option Code->World->Prop)->Prop) (after:Option Code->Nat->World->Prop):Prop where
 ex:∃ gf cap,fv = .func (.func gf) #[] cap/\Plain P gf/\∀ L0:Loop,L0.state = .ready->L0.pending=none->
  (∀ (args:List Value) (W:World) (K:Value->World->Prop),args.length=np->W.heap[w.heap.size+1]? = some (.loop L0)->
   round args W (λ w1 k=>w1.heap[w.heap.size+1]? = some (.loop L0)/\k (w1.putObj (w.heap.size+1) (.loop {L0 with state:=.busy})))
    (λ j W'=>W'.heap[w.heap.size+1]? = some (.loop {L0 with state:=.busy})/\K (.bool j.isNone) (W'.putObj (w.heap.size+1) (.loop {L0 with state:=if j.isNone then .ready else .done,pending:=j})))->
   YieldAt (FO none) 0 P (w.heap.size+1) args.toArray W (mE K))->
  Calls P gf (#[.func (.yield (w.heap.size+1)) #[] #[]]++cap) ((w.alloc (.deferred (some []))).alloc (.loop L0))
   (mE λ _ W2=>∃ st j,st≠.busy/\W2.heap[w.heap.size+1]? = some (.loop {L0 with state:=st,pending:=j})/\after j w.heap.size (W2.putObj (w.heap.size+1) (.loop {L0 with state:=.exhausted,pending:=j})))
abbrev dB:=Nat->PT
def z8 (pl:dB):Code->Bool
 | .region id _ true=>(pl id).many
 | .block _ c=>z8 pl c
 | .seq a b=>z8 pl a || z8 pl b
 | .cond _ a b=>z8 pl a || z8 pl b
 | _=>false
def drew (w:World):World:={w with drawn:=w.drawn+1}
def D (P:Program) (n:Nat) (pl:dB) (rl:Nat):Code->List (Nat × Nat)->Nat->tV->List Nat->Env->World->Prop
 | .skip,_,_,Q,ds,e,w=>Q .normal ds e w
 | .ret,_,_,Q,ds,e,w=>Q .ret ds e w
 | .exit id,_,_,Q,ds,e,w=>Q (.exit id) ds e w
 | .region _ ops false,_,_,Q,ds,e,w=>DR P n ops.toList (ops.toList.map λ o=>(o,[])) (Q .normal ds) [] e w
 | .region id ops true,_,_,Q,ds,e,w=>
  bif ops.toList.all (mF n) && (tn ops.toList (pN ops.toList) && Cc P ops.toList (pN ops.toList) false ops.toList.length 0 (pl id)) then
   DT P n ops.toList (pl id) (Q .normal ds) [] e (drew w)
  else False
 | .seq a b,X,lo,Q,ds,e,w=>
  bif Nat.ble (Lc a) 1 && !z8 pl a then D P n pl rl a X (li rl b X lo) (l8 (D P n pl rl b X lo Q) Q) ds e w
  else bif cL a then qJ (n::eA (Nat.land (fg a) (li rl b X lo)) n 0)
   (λ K=>D P n pl rl a X (li rl b X lo) (l8 (λ ds e w=>K (nV e n (iv ds)) w) Q) ds e w)
   (λ bs w'=>∀ dead,D P n pl rl b X lo Q (z7 (sy n bs undef)) (wU e (fg a) bs.tail dead) w')
  else qJ (eA (Nat.land (fg a) (li rl b X lo)) n 0)
   (λ K=>D P n pl rl a X (li rl b X lo) (l8 (λ _ e w=>K e w) Q) ds e w)
   (λ bs w'=>∀ dead,D P n pl rl b X lo Q ds (wU e (fg a) bs dead) w')
 | .cond c a b,X,lo,Q,ds,e,w=>pL (ev e c) (D P n pl rl a X lo Q ds e w) (D P n pl rl b X lo Q ds e w)
 | .block id c,X,lo,Q,ds,e,w=>D P n pl rl c ((id,lo)::X) lo (GN id Q) ds e w
 | .loop c,X,_,Q,ds,e,w=>
  bif cL c then qK (n::eA (Nat.land (fg c) (li rl c X (li rl c X 0))) n 0)
   (λ K bs w=>∀ dead,D P n pl rl c X (li rl c X (li rl c X 0)) (l8 (λ ds e w=>K (nV e n (iv ds)) w) Q) (z7 (sy n bs undef)) (wU e (fg c) bs.tail dead) w) (nV e n (iv ds)) w
  else qK (eA (Nat.land (fg c) (li rl c X (li rl c X 0))) n 0)
   (λ K bs w=>∀ dead,D P n pl rl c X (li rl c X (li rl c X 0)) (l8 (λ _ e w=>K e w) Q) ds (wU e (fg c) bs dead) w) e w
 | .rangeFunc g ps asx bd,_,_,Q,ds,e,w=>
  bif ps.toList.all (λ p=>Nat.blt p n) && (!cL asx && !cL bd) then
   DN P (ev e g) ps.toList.length w
    (λ args W B K=>D P n pl 0 asx [] (li 0 bd [] 0) (l8 (λ ds1 e1 w1=>B w1 λ w2=>D P n pl 0 bd [] 0 (GO K) ds1 e1 w2) (λ _ _ _ _=>False)) [] (pO args ps.toList 0 e) W)
    (Z9 (λ D w=>Q .normal (D::ds) e w) (λ D w=>Q .ret (D::ds) e w) (bif outs [] bd then (λ id D w=>Q (.exit id) (D::ds) e w) else λ _ _ _=>False))
  else False
 | _,_,_,_,_,_,_=>False
theorem GP {a b i:Nat}:bit (Nat.lor a b) i=(bit a i || bit b i):=Nat.testBit_or ..
theorem GQ {m d i:Nat}:bit (GK m d) i=(bit m i || decide (i=d)):=by
 show (m ||| 1 <<< d).testBit i=_
 rw [Nat.testBit_or,Nat.one_shiftLeft,Nat.testBit_two_pow]
 unfold bit
 congr 1
 simp [eq_comm]
theorem Cn {l:List Nat} {i:Nat}:bit (qf l) i=true↔i∈l:=by
 induction l with
 | nil=>simp [qf,bit]
 | cons d r ih=>simp only [qf,GQ,Bool.or_eq_true,ih,decide_eq_true_eq,List.mem_cons]; exact or_comm
theorem Co {l:List Nat} {e:Env} {i:Nat}:sy i (fE l e) (e i)=e i:=by
 induction l with
 | nil=>rfl
 | cons a r ih=>
  show (bif Nat.beq a i then e a else sy i (fE r e) (e i))=e i
  by_cases h:a=i
  ·rw [h,gO]; rfl
  ·rw [qe h]; exact ih
theorem o9 {e e':Env} {M:Nat} {l:List Nat} (h:∀ i,bit M i=false->e' i=e i):wU e M (fE l e') e'=e':=by
 funext i
 unfold wU
 cases hb:bit M i with
 | true=>simp only [cond_true]; exact Co
 | false=>simp only [cond_false]; exact (h i hb).symm
theorem z9 {m:Nat}:∀ (f i k:Nat),k∈eA m f i->k<i+f:=by
 intro f
 induction f with
 | zero=>intro i k h; cases h
 | succ f ih=>
  intro i k h
  unfold eA at h
  cases hb:bit m i with
  | true=>
   rw [hb] at h
   rcases List.mem_cons.1 h with rfl | h
   ·omega
   ·have:=ih (i+1) k h; omega
  | false=>rw [hb] at h; have:=ih (i+1) k h; omega
theorem Cp {l:List Nat} {n:Nat} {v:Value} {e:Env} (h:∀ k∈l,k<n):fE l (nV e n v)=fE l e:=
 List.map_congr_left λ k hk=>by rw [iB _ _ (Nat.ne_of_lt (h k hk))]
theorem xp {l:List Nat} {n:Nat} {ds:List Nat} {e:Env} (h:∀ k∈l,k<n):fE (n::l) (nV e n (iv ds))=(n,iv ds)::fE l e:=by
 show (n,nV e n (iv ds) n)::fE l (nV e n (iv ds))=_
 rw [gN,Cp h]
theorem DO {m n:Nat}:∀ k∈eA m n 0,k<n:=λ k hk=>by have:=z9 n 0 k hk; omega
def pP (n:Nat) (M:Nat) (b:Bool) (ds:List Nat) (e:Env) (Q:tV):Exit->Act->World->Prop:=
 λ x a' w'=>∃ kK e',ek kK n e' a'/\(∀ i,bit M i=false->e' i=e i)/\(b=false->kK=ds)/\Q x kK e' w'
theorem least {p:Nat->Prop} (h:∃ m,p m):∃ m,p m/\∀ k,p k->m<=k:=by
 obtain ⟨m,hm⟩:=h
 induction m using Nat.strongRecOn with
 | _ m ih=>
  by_cases hk:∃ k,k<m/\p k
  ·obtain ⟨k,KJ,sB⟩:=hk; exact ih k KJ sB
  ·exact ⟨m,hm,λ k hp=>Nat.le_of_not_lt λ fS=>hk ⟨k,fS,hp⟩⟩
theorem qL {n:Nat} {args:List Value}:∀ (ps:List Nat) (k:Nat) (e:Env) (a:Act),(∀ p∈ps,p<n)->ek [] n e a->k+ps.length<=args.length->
  ek [] n (pO args ps k e) {a with tmps:=(ps.zip (args.drop k)).foldl (λ t (q:Nat × Value)=>t.setIfInBounds q.1 q.2) a.tmps}:=by
 intro ps
 induction ps with
 | nil=>intro k e a _ ha _; simpa [pO] using ha
 | cons p ps ih=>
  intro k e a hp ha hk
  have fS:k<args.length:=by simp at hk; omega
  have hd:args.drop k=Fa args k::args.drop (k+1):=by
   rw [List.drop_eq_getElem_cons fS]
   congr 1
   clear ih ha hk hp
   induction args generalizing k with
   | nil=>simp at fS
   | cons v r tq=>cases k with
    | zero=>rfl
    | succ k=>exact tq k (by simpa using fS)
  rw [hd]
  have h1:=ha.put (d:=some p) (λ k hk=>by cases hk; exact hp p List.mem_cons_self) (Fa args k)
  exact ih (k+1) _ _ (λ q hq=>hp q (List.mem_cons_of_mem _ hq)) h1 (by simp at hk |-; omega)
theorem GR {P:Program} {n:Nat} {pl:dB} {g:Operand} {ps:Array Tmp} {asx bd:Code}
  (ihA:∀ (r:Option Nat) (rl:Nat) (X:List (Nat × Nat)) (lo:Nat) (Q:tV) (ds:List Nat) (e:Env) (a:Act) (w:World),
   (r=none\/cL asx=false)->ek ds n e a->D P n pl rl asx X lo Q ds e w->asx.wpIn (FO r) 0 P (pP n (fg asx) (cL asx) ds e Q) a w)
  (ihB:∀ (r:Option Nat) (rl:Nat) (X:List (Nat × Nat)) (lo:Nat) (Q:tV) (ds:List Nat) (e:Env) (a:Act) (w:World),
   (r=none\/cL bd=false)->ek ds n e a->D P n pl rl bd X lo Q ds e w->bd.wpIn (FO r) 0 P (pP n (fg bd) (cL bd) ds e Q) a w)
  (rl:Nat) (X:List (Nat × Nat)) (lo:Nat) (Q:tV) (ds:List Nat) (e:Env) (a:Act) (w:World) (ha:ek ds n e a) (h:D P n pl rl (.rangeFunc g ps asx bd) X lo Q ds e w) :
  (Code.rangeFunc g ps asx bd).wpIn (FO none) 0 P (pP n 0 true ds e Q) a w:=by
 have h':(bif ps.toList.all (λ p=>Nat.blt p n) && (!cL asx && !cL bd) then
  DN P (ev e g) ps.toList.length w
   (λ args W B K=>D P n pl 0 asx [] (li 0 bd [] 0) (l8 (λ ds1 e1 w1=>B w1 λ w2=>D P n pl 0 bd [] 0 (GO K) ds1 e1 w2) (λ _ _ _ _=>False)) [] (pO args ps.toList 0 e) W)
   (Z9 (λ D w=>Q .normal (D::ds) e w) (λ D w=>Q .ret (D::ds) e w) (bif outs [] bd then (λ id D w=>Q (.exit id) (D::ds) e w) else λ _ _ _=>False))
  else False):=h
 cases hc:(ps.toList.all (λ p=>Nat.blt p n) && (!cL asx && !cL bd)) with
 | false=>rw [hc] at h'; exact h'.elim
 | true=>
  rw [hc] at h'
  simp only [cond_true] at h'
  simp only [Bool.and_eq_true,Bool.not_eq_true'] at hc
  obtain ⟨T5,hA,hB⟩:=hc
  have Qx:∀ p∈ps.toList,p<n:=λ p hp=>Nat.blt_eq▸List.all_eq_true.1 T5 p hp
  obtain ⟨gf,cap,hfv,pz,lB⟩:=h'.ex
  refine wpIn_rangeFunc λ fn _=>?_
  let L0:Loop:={state:=.ready,pending:=none,fn,tmps:=a.tmps,params:=ps,assign:=asx,body:=bd,defers:=w.heap.size}
  have hY:=lB L0 rfl rfl (λ args W K hlen hl Qy=>?_)
  ·have hC:=hY.mono (R':=rangePost (FO none) 0 P (w.heap.size+1) (pP n 0 true ds e Q) {a with defers:=[{target:=.collected w.heap.size,args:=#[]}]++a.defers}) (λ x w3 hx=>?_)
   ·have hC1:=(lx (r:=none) (n:=0)).2 hC
    refine ⟨w.heap.size+1,[{target:=.collected w.heap.size,args:=#[]}],(w.alloc (.deferred (some []))).alloc (.loop L0),
     {target:=.fn (.func gf) cap,args:=#[.func (.yield (w.heap.size+1)) #[] #[]]},(w.alloc (.deferred (some []))).alloc (.loop L0),gf,#[.func (.yield (w.heap.size+1)) #[] #[]]++cap,
     (w.alloc (.deferred (some []))).alloc (.loop L0),run_enterLoop_outer ..,?_,λ _ _=>trivial,?_,qH,?_⟩
    rotate_left 2
    ·exact hC1
    ·have hg:a.eval g = .func (.func gf) #[] cap:=by rw [ha.eval]; exact hfv
     simp only [resolve,hg]
     simp [go_sem]
    ·show (callFunc gf (#[.func (.yield (w.heap.size+1)) #[] #[]]++cap)).run P _=_
     exact m8 pz _ _
   ·
    obtain ⟨v,rfl,st,j,hst,hl3,hk⟩:=hx
    refine ⟨j,_,run_endLoop hl3 (by simpa using hst),?_⟩
    have yn:ek (w.heap.size::ds) n e {a with defers:=[{target:=.collected w.heap.size,args:=#[]}]++a.defers}:=⟨by rw [ha.defers]; rfl,ha.size,ha.get⟩
    cases j with
    | none=>exact ⟨_,e,yn,λ _ _=>rfl,λ hh=>(by cases hh),hk⟩
    | some c=>
     cases c with
     | ret=>exact wpIn_ret ⟨_,e,yn,λ _ _=>rfl,λ hh=>(by cases hh),hk⟩
     | exit id=>
       have NP:(bif outs [] bd then (λ id D w=>Q (.exit id) (D::ds) e w) else λ _ _ _=>False:Nat->Nat->World->Prop) id w.heap.size _:=hk
       cases ho:outs [] bd with
       | true=>rw [ho] at NP; exact wpIn_exit ⟨_,e,yn,λ _ _=>rfl,λ hh=>(by cases hh),NP⟩
       | false=>rw [ho] at NP; exact NP.elim
     | _=>exact hk.elim
  ·
   have fS:w.heap.size+1<W.heap.size:=(Array.getElem?_eq_some_iff.1 hl).1
   refine ⟨fn,_,asx,bd,run_yield hl (by simp [hlen,L0]),roundIn_of_wpIn trivial ?_⟩
   have yn:ek [] n (pO args ps.toList 0 e) {tmps:=(ps.zip args.toArray).foldl (λ t (q:Nat × Value)=>t.setIfInBounds q.1 q.2) a.tmps,defers:=[]}:=by
    have h0:ek [] n e {tmps:=a.tmps,defers:=[]}:=⟨rfl,ha.size,ha.get⟩
    have:=qL ps.toList 0 e _ Qx h0 (by simpa using Nat.le_of_eq hlen.symm)
    have e1:(ps.zip args.toArray).foldl (λ t (q:Nat × Value)=>t.setIfInBounds q.1 q.2) a.tmps=(ps.toList.zip (args.drop 0)).foldl (λ t (q:Nat × Value)=>t.setIfInBounds q.1 q.2) a.tmps:=by
     rw [<- Array.foldl_toList,Array.toList_zip]; simp
    rw [e1]; exact this
   refine wpIn_mono (ihA (some (w.heap.size+1)) 0 [] _ _ [] _ _ W (.inr hA) yn Qy) λ x a1 w1 hp=>?_
   obtain ⟨ds1,e1,ha1,_,hd1,hq⟩:=hp
   cases x with
   | normal=>
    obtain ⟨hl1,hq⟩:=hq
    refine ⟨_,run_beginRound hl1 rfl,?_⟩
    refine wpIn_mono (ihB (some (w.heap.size+1)) 0 [] _ _ ds1 e1 a1 _ (.inr hB) ha1 hq) λ x a2 w2 hp=>?_
    obtain ⟨NR,e2,Gl,_,_,hq⟩:=hp
    cases x with
    | normal=>obtain ⟨NS,hk⟩:=hq; exact ⟨_,_,run_endRound none NS,_,rfl,hk⟩
    | ret=>obtain ⟨NS,hk⟩:=hq; exact ⟨_,_,run_endRound (some .ret) NS,_,rfl,hk⟩
    | exit id=>obtain ⟨NS,hk⟩:=hq; exact ⟨_,_,run_endRound (some (.exit id)) NS,_,rfl,hk⟩
    | _=>exact hq.elim
   | _=>exact hq.elim
theorem Ld {P:Program} {n:Nat} {pl:dB} (hm:P.follows .mixedOrders=true) :
  ∀ (c:Code) (r:Option Nat) (rl:Nat) (X:List (Nat × Nat)) (lo:Nat) (Q:tV) (ds:List Nat) (e:Env) (a:Act) (w:World),
   (r=none\/cL c=false)->ek ds n e a->D P n pl rl c X lo Q ds e w->c.wpIn (FO r) 0 P (pP n (fg c) (cL c) ds e Q) a w:=by
 intro c
 induction c with
 | skip=>intro r rl X lo Q ds e a w _ ha h; exact wpIn_skip ⟨ds,e,ha,λ _ _=>rfl,λ _=>rfl,h⟩
 | ret=>intro r rl X lo Q ds e a w _ ha h; exact wpIn_ret ⟨ds,e,ha,λ _ _=>rfl,λ _=>rfl,h⟩
 | exit id=>intro r rl X lo Q ds e a w _ ha h; exact wpIn_exit ⟨ds,e,ha,λ _ _=>rfl,λ _=>rfl,h⟩
 | region id ops draw=>
  intro r rl X lo Q ds e a w _ ha h
  have hQ:∀ (e':Env) (a':Act) (w':World),ek ds n e' a'->(∀ k,k ∉ wr ops.toList->e' k=e k)->Q .normal ds e' w'->pP n (fg (.region id ops draw)) (cL (.region id ops draw)) ds e Q .normal a' w':=
   λ e' a' w' tm hf hq=>by
    refine ⟨ds,e',tm,λ i hi=>hf i λ wT=>?_,λ _=>rfl,hq⟩
    have h1:bit (qf (wr ops.toList)) i=true:=Cn.2 wT
    have h2:bit (qf (wr ops.toList)) i=false:=hi
    rw [h1] at h2; cases h2
  cases draw with
  | false=>
   have:=DR.region (r:=r) (id:=id) ha hQ (show DR P n ops.toList (ops.toList.map λ o=>(o,[])) (Q .normal ds) [] e w from h)
   simpa using this
  | true=>
   have h':(bif ops.toList.all (mF n) && (tn ops.toList (pN ops.toList) && Cc P ops.toList (pN ops.toList) false ops.toList.length 0 (pl id)) then
    DT P n ops.toList (pl id) (Q .normal ds) [] e (drew w) else False):=h
   cases hc:(ops.toList.all (mF n) && (tn ops.toList (pN ops.toList) && Cc P ops.toList (pN ops.toList) false ops.toList.length 0 (pl id))) with
   | false=>rw [hc] at h'; exact h'.elim
   | true=>
    rw [hc] at h'
    simp only [Bool.and_eq_true] at hc
    obtain ⟨h2,h3,h4⟩:=hc
    have hd:∀ d∈wr ops.toList,d<n:=λ d hd=>by
     obtain ⟨o,ho,DJ⟩:=List.mem_filterMap.1 hd
     have:=List.all_eq_true.1 h2 o ho
     unfold mF at this
     rw [DJ] at this
     exact Nat.blt_eq▸this
    have hz:(bit 0)=λ _=>false:=by funext i; simp [bit]
    have T6:=(DK (Q:=Q .normal ds) h3 (pl id) ops.toList.length 0 [] e (drew w) (λ i o hi=>by simp [bit] at hi) (by constructor <;> simp) (DT.plain _ _ _ _ (gj.nil e) h')).1 h4
    rw [hz] at T6
    have:=WS.region (r:=r) (id:=id) hm hd ha hQ T6
    simpa using this
 | seq c1 c2 yo tq=>
  intro r rl X lo Q ds e a w hr ha h
  have DP:r=none\/cL c1=false:=hr.imp id λ h=>by have:(cL c1 || cL c2)=false:=h; rw [Bool.or_eq_false_iff] at this; exact this.1
  have wM:r=none\/cL c2=false:=hr.imp id λ h=>by have:(cL c1 || cL c2)=false:=h; rw [Bool.or_eq_false_iff] at this; exact this.2
  have key:∀ (K:List Nat->Env->World->Prop),D P n pl rl c1 X (li rl c2 X lo) (l8 K Q) ds e w->
    (∀ kK e' a' w',ek kK n e' a'->(∀ i,bit (fg c1) i=false->e' i=e i)->(cL c1=false->kK=ds)->K kK e' w'->c2.wpIn (FO r) 0 P (pP n (fg c2) (cL c2) kK e' Q) a' w')->
    (Code.seq c1 c2).wpIn (FO r) 0 P (pP n (fg (.seq c1 c2)) (cL (.seq c1 c2)) ds e Q) a w:=by
   intro K hK hk
   refine wpIn_seq (wpIn_mono (yo r rl X _ _ ds e a w DP ha hK) λ x a' w' hp=>?_)
   obtain ⟨kK,e',tm,hf,hds,hq⟩:=hp
   have NT:∀ i,bit (fg (.seq c1 c2)) i=false->bit (fg c1) i=false/\bit (fg c2) i=false:=λ i hi=>by
    have:bit (Nat.lor (fg c1) (fg c2)) i=false:=hi
    rw [GP,Bool.or_eq_false_iff] at this; exact this
   have NU:cL (.seq c1 c2)=false->cL c1=false/\cL c2=false:=λ hh=>by
    have:(cL c1 || cL c2)=false:=hh
    rw [Bool.or_eq_false_iff] at this; exact this
   cases x with
   | normal=>
    refine wpIn_mono (hk kK e' a' w' tm hf hds hq) λ x2 a2 w2 Ut=>?_
    obtain ⟨NR,e2,Gl,Lf,Qz,od⟩:=Ut
    exact ⟨NR,e2,Gl,λ i hi=>(Lf i (NT i hi).2).trans (hf i (NT i hi).1),λ hh=>(Qz (NU hh).2).trans (hds (NU hh).1),od⟩
   | _=>exact ⟨kK,e',tm,λ i hi=>hf i (NT i hi).1,λ hh=>hds (NU hh).1,hq⟩
  have h':(bif Nat.ble (Lc c1) 1 && !z8 pl c1 then D P n pl rl c1 X (li rl c2 X lo) (l8 (D P n pl rl c2 X lo Q) Q) ds e w
   else bif cL c1 then qJ (n::eA (Nat.land (fg c1) (li rl c2 X lo)) n 0)
    (λ K=>D P n pl rl c1 X (li rl c2 X lo) (l8 (λ ds e w=>K (nV e n (iv ds)) w) Q) ds e w)
    (λ bs w'=>∀ dead,D P n pl rl c2 X lo Q (z7 (sy n bs undef)) (wU e (fg c1) bs.tail dead) w')
   else qJ (eA (Nat.land (fg c1) (li rl c2 X lo)) n 0)
    (λ K=>D P n pl rl c1 X (li rl c2 X lo) (l8 (λ _ e w=>K e w) Q) ds e w)
    (λ bs w'=>∀ dead,D P n pl rl c2 X lo Q ds (wU e (fg c1) bs dead) w')):=h
  cases hc:(Nat.ble (Lc c1) 1 && !z8 pl c1) with
  | true=>
   rw [hc] at h'
   exact key _ h' λ kK e' a' w' tm _ _ hk=>tq r rl X lo Q kK e' a' w' wM tm hk
  | false=>
   rw [hc] at h'
   simp only [cond_false] at h'
   cases Gm:cL c1 with
   | false=>
    rw [Gm] at h'
    simp only [cond_false] at h'
    obtain ⟨I,h1,h2⟩:=qJ.spec h'
    refine key _ h1 λ kK e' a' w' tm hf hds hk=>?_
    have:=h2 e' w' hk e'
    rw [o9 hf] at this
    rw [hds Gm] at tm |-
    exact tq r rl X lo Q ds e' a' w' wM tm this
   | true=>
    rw [Gm] at h'
    simp only [cond_true] at h'
    obtain ⟨I,h1,h2⟩:=qJ.spec h'
    refine key _ h1 λ kK e' a' w' tm hf hds hk=>?_
    have:=h2 (nV e' n (iv kK)) w' hk e'
    rw [xp DO] at this
    rw [show ((n,iv kK)::fE (eA (Nat.land (fg c1) (li rl c2 X lo)) n 0) e').tail=fE (eA (Nat.land (fg c1) (li rl c2 X lo)) n 0) e' from rfl,o9 hf,
     show sy n ((n,iv kK)::fE (eA (Nat.land (fg c1) (li rl c2 X lo)) n 0) e') undef=iv kK by show (bif Nat.beq n n then iv kK else _)=_; rw [gO]; rfl,xo] at this
    exact tq r rl X lo Q kK e' a' w' wM tm this
 | cond c c1 c2 yo tq=>
  intro r rl X lo Q ds e a w hr ha h
  obtain ⟨t,ht,hA,hB⟩:=(show pL (ev e c) (D P n pl rl c1 X lo Q ds e w) (D P n pl rl c2 X lo Q ds e w) from h).ex
  have NT:∀ i,bit (fg (.cond c c1 c2)) i=false->bit (fg c1) i=false/\bit (fg c2) i=false:=λ i hi=>by
   have:bit (Nat.lor (fg c1) (fg c2)) i=false:=hi
   rw [GP,Bool.or_eq_false_iff] at this; exact this
  have NU:cL (.cond c c1 c2)=false->cL c1=false/\cL c2=false:=λ hh=>by
   have:(cL c1 || cL c2)=false:=hh
   rw [Bool.or_eq_false_iff] at this; exact this
  refine wpIn_cond_split (t:=t) (by rw [ha.eval]; exact ht) (λ h1=>?_) (λ h1=>?_)
  ·exact wpIn_mono (yo r rl X lo Q ds e a w (hr.imp id λ h=>(NU h).1) ha (hA h1)) λ x a' w' ⟨kK,e',tm,hf,hds,hq⟩=>⟨kK,e',tm,λ i hi=>hf i (NT i hi).1,λ hh=>hds (NU hh).1,hq⟩
  ·exact wpIn_mono (tq r rl X lo Q ds e a w (hr.imp id λ h=>(NU h).2) ha (hB h1)) λ x a' w' ⟨kK,e',tm,hf,hds,hq⟩=>⟨kK,e',tm,λ i hi=>hf i (NT i hi).2,λ hh=>hds (NU hh).2,hq⟩
 | block id c ih=>
  intro r rl X lo Q ds e a w hr ha h
  refine wpIn_block (wpIn_mono (ih r rl _ _ _ ds e a w hr ha h) λ x a' w' hp=>?_)
  obtain ⟨kK,e',tm,hf,hds,hq⟩:=hp
  cases x with
  | exit k=>
   simp only [Exit.inBlock]
   simp only [GN] at hq
   by_cases hk:k=id
   ·subst hk
    rw [gO] at hq
    rw [if_pos rfl]
    exact ⟨kK,e',tm,hf,hds,hq⟩
   ·rw [qe hk] at hq
    rw [if_neg hk]
    exact ⟨kK,e',tm,hf,hds,hq⟩
  | _=>exact ⟨kK,e',tm,hf,hds,hq⟩
 | loop c ih=>
  intro r rl X lo Q ds e a w hr ha h
  have key:∀ (V:List Nat->Env->List (Nat × Value)) (I:Nat->List (Nat × Value)->World->Prop),(∃ m,I m (V ds e) w)->
    (∀ m kK e' w',(∀ i,bit (fg c) i=false->e' i=e i)->(cL c=false->kK=ds)->I m (V kK e') w'->D P n pl rl c X (li rl c X (li rl c X 0)) (l8 (λ NR e2 w2=>∃ m',m'<m/\I m' (V NR e2) w2) Q) kK e' w')->
    (Code.loop c).wpIn (FO r) 0 P (pP n (fg (.loop c)) (cL (.loop c)) ds e Q) a w:=by
   intro V I ⟨m,h1⟩ h2
   let Inv:Nat->Act->World->Prop:=λ m a' w'=>∃ kK e',ek kK n e' a'/\(∀ i,bit (fg c) i=false->e' i=e i)/\(cL c=false->kK=ds)/\I m (V kK e') w'
   have body:∀ m a' w',Inv m a' w'->c.wpIn (FO r) 0 P (Exit.then (λ a2 w2=>∃ m',m'<m/\Inv m' a2 w2) (pP n (fg (.loop c)) (cL (.loop c)) ds e Q)) a' w':=by
    rintro m a' w' ⟨kK,e',tm,hf,hds,hi⟩
    refine wpIn_mono (ih r rl X _ _ kK e' a' w' hr tm (h2 m kK e' w' hf hds hi)) λ x a2 w2 hp=>?_
    obtain ⟨NR,e2,Gl,Lf,Qz,hq⟩:=hp
    have hfe:∀ i,bit (fg c) i=false->e2 i=e i:=λ i hi=>(Lf i hi).trans (hf i hi)
    have UC:cL c=false->NR=ds:=λ hh=>(Qz hh).trans (hds hh)
    cases x with
    | normal=>obtain ⟨m',GC,zQ⟩:=hq; exact ⟨m',GC,NR,e2,Gl,hfe,UC,zQ⟩
    | _=>exact ⟨NR,e2,Gl,hfe,UC,hq⟩
   classical
   let J:Act->World->Prop:=λ a' w'=>∃ m,Inv m a' w'
   let μ:Act->World->Nat:=λ a' w'=>if h:∃ m,Inv m a' w' then Classical.choose (least h) else 0
   have hμ:∀ a' w',J a' w'->Inv (μ a' w') a' w'/\∀ k,Inv k a' w'->μ a' w'<=k:=λ a' w' hj=>by
    have e1:μ a' w'=Classical.choose (least hj):=dif_pos hj
    rw [e1]
    exact Classical.choose_spec (least hj)
   refine wpIn_loop J μ ⟨m,ds,e,ha,λ _ _=>rfl,λ _=>rfl,h1⟩ λ a' w' hj=>?_
   refine wpIn_mono (body _ a' w' (hμ a' w' hj).1) λ x a2 w2 hp=>?_
   cases x with
   | normal=>
    obtain ⟨m',GC,zQ⟩:=hp
    exact ⟨⟨m',zQ⟩,Nat.lt_of_le_of_lt ((hμ a2 w2 ⟨m',zQ⟩).2 m' zQ) GC⟩
   | _=>exact hp
  have h':(bif cL c then qK (n::eA (Nat.land (fg c) (li rl c X (li rl c X 0))) n 0)
    (λ K bs w=>∀ dead,D P n pl rl c X (li rl c X (li rl c X 0)) (l8 (λ ds e w=>K (nV e n (iv ds)) w) Q) (z7 (sy n bs undef)) (wU e (fg c) bs.tail dead) w) (nV e n (iv ds)) w
   else qK (eA (Nat.land (fg c) (li rl c X (li rl c X 0))) n 0)
    (λ K bs w=>∀ dead,D P n pl rl c X (li rl c X (li rl c X 0)) (l8 (λ _ e w=>K e w) Q) ds (wU e (fg c) bs dead) w) e w):=h
  cases hc:cL c with
  | false=>
   rw [hc] at h'
   simp only [cond_false] at h'
   obtain ⟨I,h1,h2⟩:=qK.spec h'
   rw [show cL (.loop c)=cL c from rfl] at key
   have:=key (λ _ e=>fE (eA (Nat.land (fg c) (li rl c X (li rl c X 0))) n 0) e) I h1 λ m kK e' w' hf hds hi=>by
    have:=h2 m e' w' hi e'
    rw [o9 hf] at this
    rw [hds hc]
    exact this
   exact this
  | true=>
   rw [hc] at h'
   simp only [cond_true] at h'
   obtain ⟨I,h1,h2⟩:=qK.spec h'
   refine key (λ ds e=>fE (n::eA (Nat.land (fg c) (li rl c X (li rl c X 0))) n 0) (nV e n (iv ds))) I h1 λ m kK e' w' hf hds hi=>?_
   have:=h2 m (nV e' n (iv kK)) w' hi e'
   rw [xp DO] at this
   rw [show ((n,iv kK)::fE (eA (Nat.land (fg c) (li rl c X (li rl c X 0))) n 0) e').tail=fE (eA (Nat.land (fg c) (li rl c X (li rl c X 0))) n 0) e' from rfl,o9 hf,
    show sy n ((n,iv kK)::fE (eA (Nat.land (fg c) (li rl c X (li rl c X 0))) n 0) e') undef=iv kK by show (bif Nat.beq n n then iv kK else _)=_; rw [gO]; rfl,xo] at this
   exact this
 | rangeFunc g ps asx bd ihA ihB=>
  intro r rl X lo Q ds e a w hr ha h
  have NV:r=none:=hr.resolve_right (by simp [cL])
  subst NV
  exact GR ihA ihB rl X lo Q ds e a w ha h
 | _=>intro r rl X lo Q ds e a w _ ha h; exact h.elim
def yp (P:Program):List ResultVar->Env->(List Value->Prop)->World->Prop
 | [],_,K,_=>K []
 | .tmp t::r,e,K,w=>yp P r e (λ vs=>K (e t::vs)) w
 | .cell a t::r,e,K,w=>yj P (Instr.loadAt t (e a)) w (λ v=>yp P r e (λ vs=>K (v::vs)) w)
def Cq:List Value->Value
 | [v]=>v
 | vs=>.tuple vs.toArray
def kN:List Nat->World->(World->Prop)->Prop
 | [],w,K=>K w
 | D::r,w,K=>w.heap[D]? = some (.deferred (some []))/\kN r (w.putObj D (.deferred none)) K
def Cr (P:Program) (rs:List ResultVar) (K:Value->World->Prop):tV
 | .normal,ds,e,w=>kN ds w λ w=>yp P rs e (λ vs=>K (Cq vs) w) w
 | .ret,ds,e,w=>kN ds w λ w=>yp P rs e (λ vs=>K (Cq vs) w) w
 | _,_,_,_=>False
def pA:List Value->Env
 | [],_=>undef
 | v::_,0=>v
 | _::r,n+1=>pA r n
theorem uP (l:List Value) (i:Nat):pA l i=l.getD i undef:=by
 induction l generalizing i with
 | nil=>simp [pA]
 | cons v r ih=>cases i with
  | zero=>rfl
  | succ i=>simp [pA,ih]
def Fb (tmps:Array Value):ResultVar->Sem Value
 | .tmp t=>pure (tmps.getD t undef)
 | .cell a t=>do loadVar t (<- asAddr (tmps.getD a undef))
theorem yq {P:Program} {t:TypeId} {v u:Value} {w:World} (h:(Instr.loadAt t v).run P w = .ok u w):(do loadVar t (<- asAddr v):Sem Value).run P w = .ok u w:=by
 cases v with
 | pointer a=>cases a with
  | none => exact absurd (show (Result.halt (.stuck "an address expected (no nilCheck in front?)") w : Result Value) = .ok u w from h) (by simp)
  | some a=>exact h
 | _ => exact absurd (show (Result.halt (.stuck "an address expected (no nilCheck in front?)") w : Result Value) = .ok u w from h) (by simp)
theorem Aa {P:Program} {ds:List Nat} {n:Nat} {e:Env} {a:Act} (ha:ek ds n e a):∀ (rs:List ResultVar) (K:List Value->Prop) (w:World),yp P rs e K w->
  ∃ vs,(rs.mapM (Fb a.tmps)).run P w = .ok vs w/\K vs:=by
 intro rs
 induction rs with
 | nil=>intro K w h; exact ⟨[],rfl,h⟩
 | cons r rs ih=>
  intro K w h
  have step:∀ v,(Fb a.tmps r).run P w = .ok v w->yp P rs e (λ vs=>K (v::vs)) w->∃ vs,((r::rs).mapM (Fb a.tmps)).run P w = .ok vs w/\K vs:=by
   intro v hv hr
   obtain ⟨vs,h1,h2⟩:=ih _ w hr
   refine ⟨v::vs,?_,h2⟩
   rw [List.mapM_cons,aY hv,aY h1]
   rfl
  cases r with
  | tmp t=>exact step (e t) (by rw [<- ha.get t]; rfl) h
  | cell c t=>
   obtain ⟨v,hv,hr⟩:=h.ex
   refine step v ?_ hr
   show (do loadVar t (<- asAddr (a.tmps.getD c undef)):Sem Value).run P w=_
   rw [ha.get c]
   exact yq hv
theorem tu {P:Program} {fn:Func} {rs:List ResultVar} (hr:fn.results=rs.toArray) {tmps:Array Value} {w:World} {vs:List Value}
  (h:(rs.mapM (Fb tmps)).run P w = .ok vs w):(results fn tmps).run P w = .ok (Cq vs) w:=by
 have e:results fn tmps=(rs.toArray.mapM (Fb tmps) >>= λ vs=>pure (if h:vs.size=1 then vs[0] else .tuple vs)):=by
  unfold results; rw [hr]; rfl
 rw [e,List.mapM_toArray]
 have h1:(Functor.map (λ a=>a.toArray) (rs.mapM (Fb tmps))).run P w = .ok vs.toArray w:=by
  rw [<- bind_pure_comp,aY h]; rfl
 rw [aY h1]
 show Result.ok _ w=Result.ok _ w
 congr 1
 match vs with
 | []=>rfl
 | [v]=>rfl
 | a::b::r=>simp [Cq]
theorem qM {P:Program} {fn:Func} {tmps:Array Value} {R:Ending->World->Prop}:∀ (ds:List Nat) (w:World),kN ds w (λ w'=>∃ v,(results fn tmps).run P w' = .ok v w'/\R (.returned v) w')->
  LeavesInM (FO none) 0 P fn tmps R (ds.map mark) .returning w:=by
 intro ds
 induction ds with
 | nil=>intro w ⟨v,h1,h2⟩; exact ⟨v,h1,h2⟩
 | cons D r ih=>intro w h; exact ⟨by simp,.inl ⟨D,_,rfl,run_takeDeferred h.1,ih _ h.2⟩⟩
theorem kN.mono {ds:List Nat} {K K':World->Prop} (hk:∀ w,K w->K' w):∀ {w:World},kN ds w K->kN ds w K':=by
 induction ds with
 | nil=>intro w h; exact hk w h
 | cons D r ih=>intro w h; exact ⟨h.1,ih h.2⟩
theorem uQ {P:Program} {n:Nat} {pl:dB} {rl:Nat} {f:FuncId} {fn:Func} {c:Code} {rs:List ResultVar} {args:List Value} {w:World} {K:Value->World->Prop}
  (hm:P.follows .mixedOrders=true) (hf:P.funcs[f]? = some fn) (hb:fn.body=some c) (hn:fn.ntmps=n) (hr:fn.results=rs.toArray) (hle:args.length<=n)
  (h:D P n pl rl c [] rl (Cr P rs K) [] (pA args) w):Calls P f args.toArray w (mE K):=by
 refine lx.1 (callsIn_of_wp_marks (F:=FO none) (n:=0) hf hb trivial ?_)
 have ha:ek [] n (pA args) {tmps:=args.toArray++Array.replicate (fn.ntmps - args.toArray.size) undef,defers:=[]}:=by
  refine ⟨rfl,by simp [hn]; omega,λ i=>?_⟩
  rw [uP,Array.getD_eq_getD_getElem?,Array.getElem?_append]
  simp only [List.size_toArray,List.getElem?_toArray,Array.getElem?_replicate]
  by_cases hi:i<args.length
  ·rw [if_pos hi]; simp [hi]
  ·rw [if_neg hi]
   have:args[i]? = none:=by simp; omega
   simp only [List.getD_eq_getElem?_getD,this,Option.getD_none]
   split <;> rfl
 refine wpIn_mono (Ld hm c none rl [] rl _ [] _ _ w (.inl rfl) ha h) λ x a' w' hp=>?_
 obtain ⟨kK,e',tm,_,_,hq⟩:=hp
 have fin:kN kK w' (λ w=>yp P rs e' (λ vs=>K (Cq vs) w) w)->LeavesInM (FO none) 0 P fn a'.tmps (mE K) a'.defers .returning w':=λ hq=>by
  rw [tm.defers]
  refine qM kK w' (hq.mono λ w1 h1=>?_)
  obtain ⟨vs,h1,h2⟩:=Aa tm rs _ w1 h1
  exact ⟨_,tu hr h1,_,rfl,h2⟩
 cases x with
 | normal=>exact fin hq
 | ret=>exact fin hq
 | _=>exact hq.elim
theorem okD {P:Program} {n:Nat} {pl:dB} {rl:Nat} {f:FuncId} {fn:Func} {c:Code} {rs:List ResultVar} {args:List Value} {w:World} {K:Value->World->Prop} {S:Prop}
  (hf:P.funcs[f]? = some fn) (hb:fn.body=some c) (hn:fn.ntmps=n) (hr:fn.results=rs.toArray) (hm:P.follows .mixedOrders=true) (hle:args.length<=n)
  (e:D P n pl rl c [] rl (Cr P rs K) [] (pA args) w=S) (h:S):Calls P f args.toArray w (mE K):=uQ hm hf hb hn hr hle (e.mpr h)
theorem okE {P:Program} (n:Nat) (pl:dB) (rl:Nat) (rs:List ResultVar) {f:FuncId} {fn:Func} {args:List Value} {w:World} {K:Value->World->Prop} {S:Prop}
  (hf:P.funcs[f]? = some fn) (hb:fn.body=some (fn.body.getD .skip)) (hn:fn.ntmps=n) (hr:fn.results=rs.toArray) (hm:P.follows .mixedOrders=true) (hle:args.length<=n)
  (e:D P n pl rl (fn.body.getD .skip) [] rl (Cr P rs K) [] (pA args) w=S) (h:S):Calls P f args.toArray w (mE K):=okD hf hb hn hr hm hle e h
theorem okZ {P:Program} (n:Nat) (pl:dB) (rl:Nat) (rs:List ResultVar) {f:FuncId} {fn:Func} {args:List Value} {w:World} {K:Value->World->Prop} {S:Prop}
  (hf:P.funcs[f]? = some fn) (hm:P.follows .mixedOrders=true) (hc:(fn.body.isSome,fn.ntmps,fn.results,Nat.ble args.length n)=(true,n,rs.toArray,true))
  (e:D P n pl rl (fn.body.getD .skip) [] rl (Cr P rs K) [] (pA args) w=S) (h:S):Calls P f args.toArray w (mE K):=by
 have h1:fn.body.isSome=true:=congrArg (λ x=>x.1) hc
 have h2:fn.ntmps=n:=congrArg (λ x=>x.2.1) hc
 have h3:fn.results=rs.toArray:=congrArg (λ x=>x.2.2.1) hc
 have h4:Nat.ble args.length n=true:=congrArg (λ x=>x.2.2.2) hc
 have h5:fn.body=some (fn.body.getD .skip):=by
  cases hb:fn.body with
  | none=>rw [hb] at h1; cases h1
  | some c=>rfl
 exact okD hf h5 h2 h3 hm (Nat.le_of_ble_eq_true h4) e h
theorem eM {P : Program} {f : FuncId} {fn : Func} (hf : P.funcs[f]? = some fn) (h : (fn.name == "runtime.NumGoroutine", fn.body.isNone) = (false, false) := by kernel_rfl) : Plain P f := ⟨fn, hf, congrArg (λ x => x.1) h, congrArg (λ x => x.2) h⟩
theorem vb {a b:Bool} (h:a=b):Value.bool a=Value.bool b:=congrArg _ h
theorem Gn {p:Prop} [Decidable p] (h:p):Value.bool true=Value.bool (decide p):=vb (decide_eq_true h).symm
theorem jvF {p:Prop} [Decidable p] (h:¬ p):Value.bool false=Value.bool (decide p):=vb (decide_eq_false h).symm
theorem Ab {p q:Prop} [Decidable p] [Decidable q] (h:p↔q):Value.bool (decide p)=Value.bool (decide q):=vb (decide_eq_decide.2 h)
end Go.Fw
namespace Go.Proofs.YtnjcingfdhjfkaaGreat
open Go.Fw
variable (w:World) (K:Value->World->Prop)
abbrev i (n:Int):Value:=.int .i64 n
abbrev tt:Value:=.bool true
abbrev ff:Value:=.bool false
abbrev fA (T:Nat) (v:Value) (f:Nat) (K:Value->Prop):Prop:=dW Tryz.prog (Instr.fieldAt T v f) K
abbrev iA (T:Nat) (v j:Value) (K:Value->Prop):Prop:=dW Tryz.prog (Instr.indexAt T v j) K
abbrev lA (T:Nat) (p:Value) (w:World) (K:Value->Prop):Prop:=yj Tryz.prog (Instr.loadAt T p) w K
abbrev sA (T:Nat) (p v:Value) (w:World) (K:World->Prop):Prop:=Gw Tryz.prog (Instr.storeAt T p v) w K
abbrev bA (o:BinOp) (T:Nat) (x y:Value) (K:Value->Prop):Prop:=dW Tryz.prog (gD o T false false x y) K
abbrev bB (o:BinOp) (T:Nat) (x y:Value) (K:Value->Prop):Prop:=dW Tryz.prog (gD o T false true x y) K
abbrev bC (o:BinOp) (T:Nat) (x y:Value) (K:Value->Prop):Prop:=dW Tryz.prog (gD o T true false x y) K
abbrev cF (f:Nat) (args:List Value) (w:World) (K:Value->World->Prop):Prop:=tj Tryz.prog f args w K
abbrev nC (v:Value) (K:Value->Prop):Prop:=dW Tryz.prog (Cg v) K
abbrev lN (T:Nat) (v:Value) (K:Value->Prop):Prop:=dW Tryz.prog (Builtin.len_ #[T] 3 [v].toArray) K
abbrev aL (T:Nat) (w:World) (K:Value->World->Prop):Prop:=ji Tryz.prog (Instr.alloc T true (.tuple #[])) w K
abbrev xT (v:Value) (k:Nat) (K:Value->Prop):Prop:=dW Tryz.prog (Instr.extract v k) K
abbrev kA (T:Nat) (p v:Value) (w:World) (R:Prop):Prop:=DF Tryz.prog (Instr.loadAt T p) v w R
abbrev aP (T:Nat) (a b:Value) (w:World) (K:Value->World->Prop):Prop:=ji Tryz.prog (Builtin.append_ #[T,T] T [a,b].toArray) w K
abbrev bS (T n:Nat) (l:List (Nat × Value)) (w:World) (K:Value->World->Prop):Prop:=ji Tryz.prog (Instr.buildSlice T n l.toArray) w K
abbrev cV (v:Value) (a b:Prop):Prop:=pL v a b
noncomputable abbrev PG:Program:=Tryz.prog
abbrev CR (n:Nat) (a:List Value) (w:World) (K:Value->World->Prop):Prop:=Calls Tryz.prog n a.toArray w (mE K)
abbrev PL (n:Nat):Prop:=Plain Tryz.prog n
theorem mixed:Tryz.prog.follows .mixedOrders=true:=by kernel_rfl
theorem kF (n:Nat) (pl:dB) (rl:Nat) (rs:List ResultVar) {f:FuncId} {fn:Func} {args:List Value} {w:World} {K:Value->World->Prop} {S:Prop}
  (hf:PG.funcs[f]? = some fn) (h:S) (hc:(fn.body.isSome,fn.ntmps,fn.results,Nat.ble args.length n)=(true,n,rs.toArray,true):=by kernel_rfl)
  (e:D PG n pl rl (fn.body.getD .skip) [] rl (Cr PG rs K) [] (pA args) w=S:=by kernel_rfl):CR f args w K:=okZ n pl rl rs hf mixed hc e h
def Fc:List ResultVar->Nat
 | []=>0
 | .tmp t::r=>GK (Fc r) t
 | .cell a _::r=>GK (Fc r) a
theorem Cs {f:FuncId} {fn:Func} (hf:Tryz.prog.funcs[f]? = some fn) {args:List Value} {w:World} {K:Value->World->Prop} {pl:dB}
  (h:D Tryz.prog fn.ntmps pl (Fc fn.results.toList) (fn.body.getD .skip) [] (Fc fn.results.toList) (Cr Tryz.prog fn.results.toList K) [] (pA args) w)
  (hc:(fn.body.isSome,Nat.ble args.length fn.ntmps)=(true,true):=by kernel_rfl):Calls Tryz.prog f args.toArray w (mE K):=by
 have h1:fn.body.isSome=true:=congrArg (λ x=>x.1) hc
 have h5:fn.body=some (fn.body.getD .skip):=by
  cases hb:fn.body with
  | none=>rw [hb] at h1; cases h1
  | some c=>rfl
 exact uQ mixed hf h5 rfl (by simp) (Nat.le_of_ble_eq_true (congrArg (λ x=>x.2) hc)) h
theorem jT {f:FuncId} {fn:Func} (hf:Tryz.prog.funcs[f]? = some fn) {args:List Value} {w:World} {K:Value->World->Prop}
  (h:D Tryz.prog fn.ntmps (λ _=>.nil) (Fc fn.results.toList) (fn.body.getD .skip) [] (Fc fn.results.toList) (Cr Tryz.prog fn.results.toList K) [] (pA args) w)
  (hc:(fn.body.isSome,Nat.ble args.length fn.ntmps)=(true,true):=by kernel_rfl):Calls Tryz.prog f args.toArray w (mE K):=Cs hf h hc
def P4:dB:=λ i=>match i with
 | 12=>.run 0 15
 | _=>.nil
def P5:dB:=λ i=>match i with
 | 10=>(.op 0 [] (.op 1 [] (.op 2 [] (.op 3 [] (.op 4 [] (.alt 5 [3] (.alt 6 [] (.of [(7,[3]),(8,[])]) (.alt 7 [3] (.of [(6,[]),(8,[])]) .stop)) (.alt 7 [3] (.of [(5,[3]),(6,[]),(8,[])]) .stop)))))))
 | 17=>(.of [(0,[]),(2,[]),(1,[]),(3,[]),(4,[]),(5,[]),(6,[]),(8,[]),(7,[]),(9,[]),(10,[]),(11,[]),(12,[]),(13,[]),(15,[]),(14,[15]),(16,[]),(17,[])])
 | _=>.nil
def P6:dB:=λ i=>match i with
 | 17=>(.op 0 [] (.op 1 [] (.op 2 [] (.op 3 [] (.op 4 [] (.op 6 [] (.op 7 [] (.op 8 [] (.op 9 [] (.op 10 [] (.alt 5 [3,10] (.alt 11 [] (.of [(12,[3,10]),(13,[])]) (.alt 12 [3,10] (.of [(11,[]),(13,[])]) .stop)) (.alt 12 [3,10] (.of [(5,[3,10]),(11,[]),(13,[])]) .stop))))))))))))
 | _=>.nil
def S7 (u0 oe:Value):Prop:=
 ji Tryz.prog (Instr.box 36 u0) w λ u2 a=>lA 36 u2 a λ b=>cF 34 [b] a λ c d=>sA 36 u2 c d λ e=>jS (λ K1 i5 f=>∀ _:Env,
 fA 36 u2 4 λ g=>lA 30 g f λ h=>lN 30 h λ j=>bA .lss 3 i5 j λ k=>cV k (fA 36 u2 4 λ l=>lA 30 l f λ n=>iA 30 n i5 λ o=>fA 33 o 2 λ p=>lA 31 p f λ q=>lN 31 q λ r=>
 bB .gtr 3 r (i 8) λ s=>cV s (cF 14 [] f λ t u=>K t u) (bB .add 3 i5 (i 1) λ v=>K1 v f)) (lA 36 u2 f λ x=>cF 15 [x,oe] f λ y z=>xT y 0 λ aa=>xT y 1 λ ab=>lA 36 u2 z λ ac=>
 cF 26 [ac,oe] z λ ad ae=>xT ad 0 λ af=>xT ad 1 λ ag=>cE (λ K2=>bA .neq 37 ab ag λ ah=>cV ah (K2 tt ae) (bB .eql 42 aa (.pointer none) λ ai=>bB .eql 68 af (.pointer none) λ aj=>
 bA .neq 4 ai aj λ ak=>K2 ak ae)) (λ al am=>∀ _:Env,
 cV al (K ff am) (cE (λ K3=>bB .eql 42 aa (.pointer none) λ an=>cV an (cF 14 [] am λ ao ap=>K3 ao ap) (cF 27 [aa,af] am λ aq ar=>cV aq (cF 14 [] ar λ asx au=>K3 asx au) (
 K3 ff ar))) (λ av aw=>∀ _:Env,
 K av aw))))) (λ K1=>K1 (i 0) e)
theorem UD (u0 oe:Value) (h:S7 w K u0 oe):CR 7 [u0,oe] w K:=
 kF 60 (λ _=>.nil) 16 [.tmp 4] Tryz.func7 h
def S8 (p0 DU:Value):Prop:=
 ji Tryz.prog (Instr.box 27 p0) w λ p2 a=>lA 27 p2 a λ b=>cF 11 [b] a λ c d=>cF 12 [c] d λ e f=>xT e 0 λ g=>xT e 1 λ h=>aL 36 f λ u5 j=>sA 36 u5 g j λ k=>bB .neq 37 h (i 0) λ l=>
 cV l (cF 14 [] k λ n o=>K n o) (lA 36 u5 k λ p=>cF 15 [p,(i 3)] k λ q r=>xT q 0 λ s=>xT q 1 λ t=>cE (λ K1=>bB .eql 42 s (.pointer none) λ u=>cV u (K1 tt r) (
 bB .neq 37 t (i 0) λ v=>K1 v r)) (λ x y=>∀ _:Env,
 cV x (K ff y) (bS 28 2 [(0,(i (-1))),(1,(i (-1)))] y λ z aa=>l7 (λ K2 og i10 ab=>∀ _:Env,
 cE (λ K3=>lN 57 DU λ ac=>bA .lss 3 i10 ac λ ad=>cV ad (bB .lss 3 i10 (i 80) λ ae=>K3 ae ab) (K3 ff ab)) (λ af ag=>∀ _:Env,
 cV af (cE (λ K4=>cE (λ K5=>iA 57 DU i10 λ ah=>lA 64 ah (drew ag) λ ai=>((cF 16 [s] (drew ag) λ aj ak=>kA 64 ah ai ak (((cF 31 [s] ak λ al am=>kA 64 ah ai am (
 ((cF 18 [s] am λ an ao=>kA 64 ah ai ao (dW Tryz.prog (Instr.field 54 an 0) λ ap=>((cF 24 [ai,aj,al,ap] ao λ aq ar=>aL 52 ar λ UE asx=>kA 64 ah ai asx (sA 52 UE aq asx λ au=>
 K5 UE au))
 /\((aL 52 ao λ NW av=>kA 64 ah ai av (cF 24 [ai,aj,al,ap] av λ aw ax=>sA 52 NW aw ax λ ay=>K5 NW ay))
 /\
 True))))
 /\((aL 52 am λ NX az=>kA 64 ah ai az (cF 18 [s] az λ a0 a1=>kA 64 ah ai a1 (dW Tryz.prog (Instr.field 54 a0 0) λ a2=>cF 24 [ai,aj,al,a2] a1 λ a3 a4=>sA 52 NX a3 a4 λ a5=>
 K5 NX a5)))
 /\
 True))))
 /\((aL 52 ak λ NY a6=>kA 64 ah ai a6 (cF 31 [s] a6 λ a7 a8=>kA 64 ah ai a8 (cF 18 [s] a8 λ a9 ba=>kA 64 ah ai ba (dW Tryz.prog (Instr.field 54 a9 0) λ bb=>cF 24 [ai,aj,a7,bb] ba λ bc bd=>
 sA 52 NY bc bd λ be=>K5 NY be))))
 /\
 True))))
 /\((aL 52 (drew ag) λ NZ bf=>kA 64 ah ai bf (cF 16 [s] bf λ bg bh=>kA 64 ah ai bh (cF 31 [s] bh λ bi bj=>kA 64 ah ai bj (cF 18 [s] bj λ bk bl=>kA 64 ah ai bl (dW Tryz.prog (Instr.field 54 bk 0) λ bm=>
 cF 24 [ai,bg,bi,bm] bl λ bn bo=>sA 52 NZ bn bo λ bp=>K5 NZ bp)))))
 /\
 True))) (λ DV bq=>∀ _:Env,
 fA 52 DV 1 λ br=>lA 3 br bq λ bs=>cF 35 [s,bs] bq λ bt bu=>lA 52 DV bu λ bv=>cF 17 [s,bv] bu λ bw bx=>xT bw 0 λ bz=>xT bw 1 λ b0=>aL 48 bx λ b1 b2=>
 sA 48 b1 bz b2 λ b3=>bB .neq 37 b0 (i 0) λ b4=>cV b4 (K4 og b3) (cE (λ K6=>fA 48 b1 0 λ b5=>lA 3 b5 b3 λ b6=>bB .eql 3 b6 (i 8) λ b7=>cV b7 (K6 tt b3) (fA 48 b1 0 λ b8=>
 lA 3 b8 b3 λ b9=>bB .eql 3 b9 (i 9) λ ca=>cV ca (K6 tt b3) (fA 48 b1 0 λ cb=>lA 3 cb b3 λ cc=>bB .eql 3 cc (i 7) λ cd=>cV cd (K6 tt b3) (fA 48 b1 0 λ ce=>lA 3 ce b3 λ cf=>
 bB .eql 3 cf (i 10) λ cg=>cV cg (K6 tt b3) (fA 48 b1 0 λ ch=>lA 3 ch b3 λ ci=>bB .eql 3 ci (i 11) λ cj=>K6 cj b3))))) (λ Lg ck=>∀ _:Env,
 cE (λ K7=>cV Lg (lN 80 bt λ cl=>bB .gtr 3 cl (i 0) λ cm=>cV cm (K7 tt ck) (fA 48 b1 1 λ cn=>lA 3 cn ck λ co=>fA 52 DV 1 λ cp=>lA 3 cp ck λ cq=>bA .neq 3 co cq λ cr=>
 K7 cr ck)) (fA 48 b1 1 λ cs=>lA 3 cs ck λ ct=>fA 52 DV 1 λ cu=>lA 3 cu ck λ cv=>bA .neq 3 ct cv λ cw=>K7 cw ck)) (λ cx cy=>∀ _:Env,
 cV cx (K ff cy) (cE (λ K8=>fA 48 b1 0 λ cz=>lA 3 cz cy λ c0=>bB .eql 3 c0 (i 10) λ c1=>cV c1 (K8 tt cy) (fA 48 b1 0 λ c2=>lA 3 c2 cy λ c3=>bB .eql 3 c3 (i 11) λ c4=>
 K8 c4 cy)) (λ QA c5=>∀ _:Env,
 cE (λ K9=>cV QA (fA 48 b1 2 λ c6=>lA 3 c6 c5 λ c7=>bB .lss 3 c7 (i 0) λ c8=>cV c8 (K9 tt c5) (fA 48 b1 2 λ c9=>lA 3 c9 c5 λ da=>bB .gtr 3 da (i 1) λ db=>
 K9 db c5)) (K9 ff c5)) (λ dc dd=>∀ _:Env,
 cV dc (K ff dd) (fA 48 b1 0 λ de=>lA 3 de dd λ df=>bB .eql 3 df (i 10) λ dg=>cV dg (fA 48 b1 2 λ dh=>lA 3 dh dd λ di=>iA 28 og di λ dj=>lA 3 dj dd λ dk=>bB .neq 3 dk (i (-1)) λ dl=>
 cV dl (K ff dd) (fA 48 b1 2 λ dm=>lA 3 dm dd λ dn=>fA 48 b1 1 λ dp=>lA 3 dp dd λ dq=>iA 28 og dn λ dr=>sA 3 dr dq dd λ ds=>K4 og ds)) (bB .eql 3 df (i 11) λ dt=>
 cV dt (fA 48 b1 2 λ du=>lA 3 du (drew dd) λ dv=>iA 28 og dv λ dw=>lA 3 dw (drew dd) λ dx=>fA 48 b1 1 λ dy=>lA 3 dy (drew dd) λ dz=>bA .neq 3 dx dz λ d0=>cV d0 (
 K ff (drew dd)) (fA 48 b1 2 λ d1=>lA 3 d1 (drew dd) λ d2=>iA 28 og d2 λ d3=>sA 3 d3 (i (-1)) (drew dd) λ d4=>K4 og d4)) (bB .eql 3 df (i 15) λ d5=>cV d5 (bS 28 2 [(0,(i (-1))),(1,(i (-1)))] dd λ d6 d7=>
 K4 d6 d7) (K4 og dd)))))))))))) (λ GU d8=>∀ _:Env,
 bB .add 3 i10 (i 1) λ d9=>K2 GU d9 d8)) (cF 14 [] ag λ ea eb=>K ea eb))) (λ K2=>K2 z (i 0) aa))))
def P8:dB:=λ i=>match i with
 | 11=>(.op 0 [] (.op 1 [] (.op 2 [] (.op 3 [] (.op 4 [] (.op 6 [] (.op 8 [] (.alt 5 [3] (.alt 7 [3] (.alt 9 [3] (.op 10 [] (.alt 11 [] (.of [(12,[3]),(13,[])]) (.alt 12 [3] (.of [(11,[]),(13,[])]) .stop))) (.alt 12 [3] (.of [(9,[3]),(10,[]),(11,[]),(13,[])]) .stop)) (.alt 12 [3] (.of [(7,[3]),(9,[3]),(10,[]),(11,[]),(13,[])]) .stop)) (.alt 12 [3] (.of [(5,[3]),(7,[3]),(9,[3]),(10,[]),(11,[]),(13,[])]) .stop)))))))))
 | 27=>.run 0 8
 | _=>.nil
def S16 (m0:Value):Prop:=
 nC m0 λ a=>fA 115 a 6 λ b=>lA 3 b w λ c=>bB .neq 3 c (i 0) λ d=>cV d (K (.slice none 0 0) w) (nC m0 λ e=>fA 115 e 4 λ f=>lA 113 f w λ g=>lN 113 g λ h=>l7 (λ K1 jW j k=>∀ _:Env,
 bA .lss 3 j h λ l=>cV l (iA 113 g j λ n=>lA 119 n k λ o=>cE (λ K2=>cF 56 [m0,o] k λ p q=>cV p (dW Tryz.prog (Instr.build 52 [(0,(i 1)),(1,j)].toArray) λ r=>
 bS 45 1 [(0,r)] q λ s t=>aP 45 jW s t λ u v=>K2 u v) (K2 jW q)) (λ iX x=>∀ _:Env,
 nC o λ y=>fA 122 y 0 λ z=>lA 109 z x λ aa=>cF 57 [aa] x λ ab ac=>lN 28 ab λ ad=>l7 (λ K3 qg ae af=>∀ _:Env,
 bA .lss 3 ae ad λ ag=>cV ag (iA 28 ab ae λ ah=>lA 3 ah af λ ai=>dW Tryz.prog (Instr.build 52 [(0,(i 2)),(1,j),(2,ai)].toArray) λ aj=>bS 45 1 [(0,aj)] af λ ak al=>
 aP 45 qg ak al λ am an=>bB .add 3 ae (i 1) λ ao=>K3 am ao an) (bB .add 3 j (i 1) λ ap=>K1 qg ap af)) (λ K3=>K3 iX (i 0) ac))) (K jW k)) (λ K1=>K1 (.slice none 0 0) (i 0) w))
theorem QB (m0:Value) (h:S16 w K m0):CR 16 [m0] w K:=
 kF 50 (λ _=>.nil) 4 [.tmp 2] Tryz.func16 h
def P18:dB:=λ i=>match i with
 | 2=>(.of [(0,[]),(1,[]),(2,[]),(3,[]),(4,[]),(5,[]),(6,[]),(7,[]),(8,[]),(9,[]),(10,[]),(11,[]),(12,[]),(13,[3,7,11]),(14,[])])
 | _=>.nil
def P20:dB:=λ i=>match i with
 | 6=>.run 0 51
 | _=>.nil
def S21 (a0 b1:Value):Prop:=
 lN 28 a0 λ a=>lN 28 b1 λ b=>bA .neq 3 a b λ c=>cV c (K ff w) (jS (λ K1 i5 d=>∀ _:Env,
 lN 28 a0 λ e=>bA .lss 3 i5 e λ f=>cV f (iA 28 a0 i5 λ g=>lA 3 g (drew d) λ h=>iA 28 b1 i5 λ j=>lA 3 j (drew d) λ k=>bA .neq 3 h k λ l=>cV l (K ff (drew d)) (bB .add 3 i5 (i 1) λ n=>
 K1 n (drew d))) (K tt d)) (λ K1=>K1 (i 0) w))
def P21:dB:=λ i=>match i with
 | 6=>.run 0 9
 | _=>.nil
theorem QC (a0 b1:Value) (h:S21 w K a0 b1):CR 21 [a0,b1] w K:=
 kF 26 P21 16 [.tmp 4] Tryz.func21 h
def S26 (u0 oe:Value):Prop:=
 ji Tryz.prog (Instr.box 36 u0) w λ u2 a=>lA 36 u2 a λ b=>cF 74 [b] a λ c d=>dW Tryz.prog (Op.unary .not c) λ e=>cV e (K (.tuple #[(.pointer none),(i 8)]) d) (cF 75 [oe] d λ f g=>
 xT f 0 λ _=>xT f 1 λ h=>bB .neq 37 h (i 0) λ j=>cV j (K (.tuple #[(.pointer none),h]) g) (fA 36 u2 0 λ k=>lA 28 k g λ l=>fA 36 u2 1 λ n=>lA 3 n g λ o=>fA 36 u2 2 λ p=>
 lA 28 p g λ q=>cF 76 [l,o,q] g λ r s=>xT r 0 λ t=>xT r 1 λ _=>lA 36 u2 s λ u=>dW Tryz.prog (Instr.build 75 [(0,u),(1,oe),(3,t)].toArray) λ v=>ji Tryz.prog (Instr.box 75 v) s λ x y=>
 fA 36 u2 4 λ z=>lA 30 z y λ aa=>cF 77 [x,aa] y λ _ ab=>K (.tuple #[x,(i 0)]) ab))
theorem QD (u0 oe:Value) (h:S26 w K u0 oe):CR 26 [u0,oe] w K:=
 kF 42 (λ _=>.nil) 48 [.tmp 4,.tmp 5] Tryz.func26 h
theorem Lh:PL 14:=eM Tryz.func14
theorem abr:PL 15:=eM Tryz.func15
theorem UF:PL 16:=eM Tryz.func16
theorem abt:PL 18:=eM Tryz.func18
theorem abu:PL 20:=eM Tryz.func20
theorem Li:PL 21:=eM Tryz.func21
theorem UH:PL 22:=eM Tryz.func22
theorem abv:PL 23:=eM Tryz.func23
theorem UI:PL 25:=eM Tryz.func25
theorem QE:PL 26:=eM Tryz.func26
variable (w:World) (K:Value->World->Prop)
def S27 (m0 k1:Value):Prop:=
 cE (λ K1=>cF 16 [m0] (drew w) λ a b=>cF 32 [k1] b λ c d=>cF 20 [a,c] d λ e f=>dW Tryz.prog (Op.unary .not e) λ g=>cV g (K1 tt f) (cF 18 [m0] f λ h j=>cF 78 [k1] j λ k l=>
 bA .neq 54 h k λ n=>cV n (K1 tt l) (nC k1 λ o=>fA 75 o 3 λ p=>lA 72 p l λ q=>nC q λ r=>fA 143 r 2 λ s=>lA 28 s l λ t=>cF 22 [m0] l λ u v=>kA 72 p q v (kA 28 s t v (
 cF 21 [u,t] v λ x y=>dW Tryz.prog (Op.unary .not x) λ z=>cV z (K1 tt y) (nC k1 λ aa=>fA 75 aa 3 λ ab=>lA 72 ab y λ ac=>nC ac λ ad=>fA 143 ad 3 λ ae=>lA 28 ae y λ af=>
 cF 23 [m0] y λ ag ah=>kA 72 ab ac ah (kA 28 ae af ah (cF 21 [ag,af] ah λ ai aj=>dW Tryz.prog (Op.unary .not ai) λ ak=>cV ak (K1 tt aj) (cF 49 [m0] aj λ al am=>cF 79 [k1] am λ an ao=>
 cF 50 [al,an] ao λ ap aq=>dW Tryz.prog (Op.unary .not ap) λ ar=>K1 ar aq))))))))) (λ asx au=>∀ _:Env,
 cV asx (K ff au) (jS (λ K2 i5 av=>∀ _:Env,
 nC k1 λ aw=>fA 75 aw 5 λ ax=>lA 73 ax av λ ay=>lN 73 ay λ az=>bA .lss 3 i5 az λ a0=>cV a0 (cE (λ K3=>nC k1 λ a1=>fA 75 a1 5 λ a2=>lA 73 a2 (drew av) λ a3=>
 iA 73 a3 i5 λ a4=>lA 146 a4 (drew av) λ a5=>nC a5 λ a6=>fA 145 a6 2 λ a7=>lA 28 a7 (drew av) λ a8=>cF 25 [m0,i5] (drew av) λ a9 ba=>kA 73 a2 a3 ba (kA 146 a4 a5 ba (
 kA 28 a7 a8 ba (cF 21 [a9,a8] ba λ bb bc=>dW Tryz.prog (Op.unary .not bb) λ bd=>cV bd (K3 tt bc) (nC k1 λ be=>fA 75 be 5 λ bf=>lA 73 bf bc λ bg=>iA 73 bg i5 λ bh=>
 lA 146 bh bc λ bi=>nC bi λ bj=>fA 145 bj 4 λ bk=>lA 136 bk bc λ bl=>nC bl λ bm=>fA 148 bm 1 λ bn=>lA 80 bn bc λ bo=>cF 35 [m0,i5] bc λ bp bq=>kA 73 bf bg bq (
 kA 146 bh bi bq (kA 136 bk bl bq (kA 80 bn bo bq (cF 36 [bp,bo] bq λ br bs=>dW Tryz.prog (Op.unary .not br) λ bt=>K3 bt bs))))))))) (λ bu bv=>∀ _:Env,
 cV bu (K ff bv) (bB .add 3 i5 (i 1) λ bw=>K2 bw bv))) (cE (λ K4=>nC k1 λ bx=>fA 75 bx 5 λ bz=>lA 73 bz av λ b0=>lN 73 b0 λ b1=>cF 25 [m0,b1] av λ b2 b3=>lN 28 b2 λ b4=>
 bB .eql 3 b4 (i 0) λ b5=>cV b5 (cF 35 [m0,(i (-1))] b3 λ b6 b7=>lN 80 b6 λ b8=>bB .eql 3 b8 (i 0) λ b9=>K4 b9 b7) (K4 ff b3)) (λ ca cb=>∀ _:Env,
 K ca cb))) (λ K2=>K2 (i 0) au)))
def P27:dB:=λ i=>match i with
 | 1=>(.of [(0,[]),(2,[]),(1,[]),(3,[]),(4,[]),(5,[]),(6,[]),(7,[]),(9,[]),(8,[]),(10,[]),(11,[]),(12,[]),(13,[]),(14,[]),(16,[]),(17,[]),(18,[]),(19,[]),(20,[]),(21,[]),(22,[]),(15,[19,22]),(23,[]),(24,[]),(25,[]),(26,[]),(27,[]),(29,[]),(30,[]),(31,[]),(32,[]),(33,[]),(34,[]),(35,[]),(28,[32,35]),(36,[]),(37,[]),(38,[]),(39,[]),(40,[]),(42,[]),(41,[]),(43,[]),(44,[]),(45,[]),(46,[])])
 | 6=>(.of [(0,[]),(1,[]),(3,[]),(4,[]),(5,[]),(6,[]),(7,[]),(8,[]),(9,[]),(10,[]),(11,[]),(12,[]),(2,[6,9,12]),(13,[]),(14,[]),(15,[]),(16,[]),(17,[]),(19,[]),(20,[]),(21,[]),(22,[]),(23,[]),(24,[]),(25,[]),(26,[]),(27,[]),(28,[]),(29,[]),(30,[]),(31,[]),(18,[22,25,28,31]),(32,[]),(33,[]),(34,[])])
 | _=>.nil
theorem QF (m0 k1:Value) (h:S27 w K m0 k1):CR 27 [m0,k1] w K:=
 kF 112 P27 16 [.tmp 4] Tryz.func27 h
def S32 (m0:Value):Prop:=
 bS 45 0 [] w λ a b=>l7 (λ K1 jW i4 c=>∀ _:Env,
 cE (λ K2=>nC m0 λ d=>fA 75 d 5 λ e=>lA 73 e c λ f=>lN 73 f λ g=>bA .lss 3 i4 g λ h=>cV h (nC m0 λ j=>fA 75 j 6 λ k=>lA 3 k c λ l=>bB .eql 3 l (i 0) λ n=>
 K2 n c) (K2 ff c)) (λ o p=>∀ _:Env,
 cV o (cE (λ K3=>nC m0 λ q=>fA 75 q 5 λ r=>lA 73 r p λ s=>iA 73 s i4 λ t=>lA 146 t p λ u=>cF 83 [m0,u] p λ v x=>cV v (dW Tryz.prog (Instr.build 52 [(0,(i 1)),(1,i4)].toArray) λ y=>
 bS 45 1 [(0,y)] x λ z aa=>aP 45 jW z aa λ ab ac=>K3 ab ac) (K3 jW x)) (λ iX ad=>∀ _:Env,
 nC m0 λ ae=>fA 75 ae 5 λ af=>lA 73 af ad λ ag=>iA 73 ag i4 λ ah=>lA 146 ah ad λ ai=>nC ai λ aj=>fA 145 aj 4 λ ak=>lA 136 ak ad λ al=>cF 84 [al] ad λ am an=>
 l7 (λ K4 qg k6 ao=>∀ _:Env,
 lN 28 am λ ap=>bA .lss 3 k6 ap λ aq=>cV aq (iA 28 am k6 λ ar=>lA 3 ar ao λ asx=>dW Tryz.prog (Instr.build 52 [(0,(i 2)),(1,i4),(2,asx)].toArray) λ au=>bS 45 1 [(0,au)] ao λ av aw=>
 aP 45 qg av aw λ ax ay=>bB .add 3 k6 (i 1) λ az=>K4 ax az ay) (bB .add 3 i4 (i 1) λ a0=>K1 qg a0 ao)) (λ K4=>K4 iX (i 0) an))) (K jW p))) (λ K1=>K1 a (i 0) b)
theorem QG (m0:Value) (h:S32 w K m0):CR 32 [m0] w K:=
 kF 65 (λ _=>.nil) 4 [.tmp 2] Tryz.func32 h
def S34 (u0:Value):Prop:=
 ji Tryz.prog (Instr.box 36 u0) w λ u1 a=>aL 36 a λ b c=>cE (λ K1=>fA 36 u1 0 λ d=>lA 28 d (drew c) λ e=>fA 36 u1 0 λ f=>lA 28 f (drew c) λ g=>lN 28 g λ h=>
 dW Tryz.prog (Builtin.min_ #[3,3] 3 [h,(i 10)].toArray) λ j=>dW Tryz.prog (Instr.sliceAt 28 e none (some j) none) λ k=>fA 36 u1 1 λ l=>lA 3 l (drew c) λ n=>fA 36 u1 2 λ o=>
 lA 28 o (drew c) λ p=>fA 36 u1 2 λ q=>lA 28 q (drew c) λ s=>lN 28 s λ t=>dW Tryz.prog (Builtin.min_ #[3,3] 3 [t,(i 10)].toArray) λ u=>dW Tryz.prog (Instr.sliceAt 28 p none (some u) none) λ v=>
 fA 36 u1 3 λ x=>lA 3 x (drew c) λ y=>fA 36 u1 5 λ z=>lA 33 z (drew c) λ aa=>((cF 90 [aa] (drew c) λ ab ac=>kA 28 d e ac (kA 28 f g ac (kA 3 l n ac (kA 28 o p ac (kA 28 q s ac (
 kA 3 x y ac (dW Tryz.prog (Instr.build 36 [(0,k),(1,n),(2,v),(3,y),(5,ab)].toArray) λ ad=>aL 36 ac λ v3 ae=>kA 28 d e ae (kA 28 f g ae (kA 3 l n ae (kA 28 o p ae (
 kA 28 q s ae (kA 3 x y ae (kA 33 z aa ae (sA 36 v3 ad ae λ af=>K1 v3 af))))))))))))))
 /\((aL 36 (drew c) λ UJ ag=>kA 28 d e ag (kA 28 f g ag (kA 3 l n ag (kA 28 o p ag (kA 28 q s ag (kA 3 x y ag (kA 33 z aa ag (cF 90 [aa] ag λ ah ai=>kA 28 d e ai (kA 28 f g ai (
 kA 3 l n ai (kA 28 o p ai (kA 28 q s ai (kA 3 x y ai (dW Tryz.prog (Instr.build 36 [(0,k),(1,n),(2,v),(3,y),(5,ah)].toArray) λ aj=>sA 36 UJ aj ai λ ak=>K1 UJ ak))))))))))))))
 /\
 True))) (λ GV al=>∀ _:Env,
 jS (λ K2 i4 am=>∀ _:Env,
 cE (λ K3=>fA 36 u1 4 λ an=>lA 30 an am λ ao=>lN 30 ao λ ap=>bA .lss 3 i4 ap λ aq=>cV aq (bB .lss 3 i4 (i 4) λ ar=>K3 ar am) (K3 ff am)) (λ asx au=>∀ _:Env,
 cV asx (fA 36 GV 4 λ av=>lA 30 av (drew au) λ aw=>fA 36 u1 4 λ ax=>lA 30 ax (drew au) λ ay=>iA 30 ay i4 λ az=>lA 33 az (drew au) λ a0=>cF 90 [a0] (drew au) λ a1 a2=>
 kA 30 av aw a2 (bS 30 1 [(0,a1)] a2 λ a3 a4=>kA 30 av aw a4 (aP 30 aw a3 a4 λ a5 a6=>fA 36 GV 4 λ a7=>sA 30 a7 a5 a6 λ a8=>bB .add 3 i4 (i 1) λ a9=>K2 a9 a8))) (
 jS (λ K4 i5 ba=>∀ _:Env,
 cE (λ K5=>fA 36 u1 6 λ bb=>lA 34 bb ba λ bc=>lN 34 bc λ bd=>bA .lss 3 i5 bd λ be=>cV be (bB .lss 3 i5 (i 5) λ bf=>K5 bf ba) (K5 ff ba)) (λ bg bh=>∀ _:Env,
 cV bg (fA 36 GV 6 λ bi=>lA 34 bi (drew bh) λ bj=>fA 36 u1 6 λ bk=>lA 34 bk (drew bh) λ bl=>iA 34 bl i5 λ bm=>lA 99 bm (drew bh) λ bn=>fA 36 u1 6 λ bo=>lA 34 bo (drew bh) λ bp=>
 iA 34 bp i5 λ bq=>lA 99 bq (drew bh) λ br=>lN 99 br λ bs=>dW Tryz.prog (Builtin.min_ #[3,3] 3 [bs,(i 50)].toArray) λ bt=>dW Tryz.prog (Instr.sliceAt 99 bn none (some bt) none) λ bu=>
 bS 34 1 [(0,bu)] (drew bh) λ bv bw=>kA 34 bi bj bw (aP 34 bj bv bw λ bx bz=>fA 36 GV 6 λ b0=>sA 34 b0 bx bz λ b1=>bB .add 3 i5 (i 1) λ b2=>K4 b2 b1)) (lA 36 GV bh λ b3=>
 sA 36 b b3 bh λ b4=>lA 36 b b4 λ r=>K r b4))) (λ K4=>K4 (i 0) au)))) (λ K2=>K2 (i 0) al))
def P34:dB:=λ i=>match i with
 | 1=>(.op 0 [] (.op 1 [] (.op 2 [] (.op 3 [] (.op 4 [] (.op 5 [] (.op 6 [] (.op 7 [] (.op 8 [] (.op 9 [] (.op 10 [] (.op 11 [] (.op 12 [] (.op 13 [] (.op 14 [] (.op 15 [] (.op 16 [] (.op 17 [] (.op 18 [] (.op 19 [] (.alt 20 [1,3,8,10,12,17] (.of [(21,[]),(22,[1,3,8,10,12,17,19]),(23,[])]) (.alt 22 [1,3,8,10,12,17,19] (.of [(20,[1,3,8,10,12,17]),(21,[]),(23,[])]) .stop))))))))))))))))))))))
 | 5=>(.of [(0,[]),(1,[]),(2,[]),(3,[]),(4,[]),(5,[]),(6,[]),(7,[1]),(8,[1]),(9,[]),(10,[]),(11,[])])
 | 9=>(.of [(0,[]),(1,[]),(2,[]),(3,[]),(4,[]),(5,[]),(6,[]),(7,[]),(8,[]),(9,[]),(10,[]),(11,[]),(12,[]),(13,[]),(14,[]),(15,[1]),(16,[]),(17,[]),(18,[])])
 | _=>.nil
theorem QH (u0:Value) (h:S34 w K u0):CR 34 [u0] w K:=
 kF 80 P34 4 [.cell 2 36] Tryz.func34 h
def S36 (a0 b1:Value):Prop:=
 lN 80 a0 λ a=>lN 80 b1 λ b=>bA .neq 3 a b λ c=>cV c (K ff w) (jS (λ K1 i5 d=>∀ _:Env,
 lN 80 a0 λ e=>bA .lss 3 i5 e λ f=>cV f (iA 80 a0 i5 λ g=>lA 161 g (drew d) λ h=>iA 80 b1 i5 λ j=>lA 161 j (drew d) λ k=>bA .neq 161 h k λ l=>cV l (K ff (drew d)) (
 bB .add 3 i5 (i 1) λ n=>K1 n (drew d))) (K tt d)) (λ K1=>K1 (i 0) w))
def P36:dB:=λ i=>match i with
 | 6=>.run 0 9
 | _=>.nil
theorem QI (a0 b1:Value) (h:S36 w K a0 b1):CR 36 [a0,b1] w K:=
 kF 26 P36 16 [.tmp 4] Tryz.func36 h
def P41:dB:=λ i=>match i with
 | 1=>(.of [(0,[]),(3,[]),(4,[]),(5,[]),(1,[4]),(2,[]),(6,[]),(7,[])])
 | _=>.nil
def S49 (m0:Value):Prop:=
 nC m0 λ a=>fA 115 a 0 λ b=>fA 36 b 6 λ c=>lA 34 c w λ d=>lN 34 d λ e=>l7 (λ K1 jW f g=>∀ _:Env,
 bA .lss 3 f e λ h=>cV h (cE (λ K2=>iA 34 d f λ j=>lA 99 j g λ k=>nC m0 λ l=>fA 115 l 0 λ n=>fA 36 n 1 λ o=>lA 3 o (drew g) λ p=>cF 22 [m0] (drew g) λ q r=>
 kA 3 o p r (dW Tryz.prog (Instr.sliceAt 28 q none (some p) none) λ s=>cF 110 [k,s] r λ t u=>xT t 0 λ v=>xT t 1 λ x=>bB .eql 37 x (i 0) λ y=>cV y (bB .neq 3 v (i 0) λ z=>
 bS 105 1 [(0,z)] u λ aa ab=>aP 105 jW aa ab λ ac ad=>K2 ac ad) (bS 105 1 [(0,ff)] u λ ae af=>aP 105 jW ae af λ ag ah=>K2 ag ah))) (λ iX ai=>∀ _:Env,
 bB .add 3 f (i 1) λ aj=>K1 iX aj ai)) (K jW g)) (λ K1=>K1 (.slice none 0 0) (i 0) w)
def P49:dB:=λ i=>match i with
 | 5=>(.of [(0,[]),(1,[]),(3,[]),(4,[]),(5,[]),(6,[]),(7,[]),(2,[7]),(8,[]),(9,[]),(10,[]),(11,[]),(12,[]),(13,[]),(14,[])])
 | _=>.nil
theorem QJ (m0:Value) (h:S49 w K m0):CR 49 [m0] w K:=
 kF 42 P49 4 [.tmp 2] Tryz.func49 h
def P50:dB:=λ i=>match i with
 | 6=>.run 0 9
 | _=>.nil
def S51 (u0:Value):Prop:=
 ji Tryz.prog (Instr.box 36 u0) w λ u1 a=>cE (λ K1=>fA 36 u1 0 λ b=>lA 28 b a λ c=>lN 28 c λ d=>bB .gtr 3 d (i 20) λ e=>cV e (K1 tt a) (fA 36 u1 1 λ f=>lA 3 f a λ g=>
 bB .lss 3 g (i 0) λ h=>cV h (K1 tt a) (fA 36 u1 1 λ j=>lA 3 j a λ k=>fA 36 u1 0 λ l=>lA 28 l a λ n=>lN 28 n λ o=>bA .gtr 3 k o λ p=>cV p (K1 tt a) (fA 36 u1 2 λ q=>
 lA 28 q a λ r=>lN 28 r λ s=>fA 36 u1 0 λ t=>lA 28 t a λ u=>lN 28 u λ v=>bA .neq 3 s v λ x=>cV x (K1 tt a) (fA 36 u1 3 λ y=>lA 3 y a λ z=>bB .lss 3 z (i 0) λ aa=>
 cV aa (K1 tt a) (fA 36 u1 3 λ ab=>lA 3 ab a λ ac=>bB .gtr 3 ac (i 2) λ ad=>cV ad (K1 tt a) (fA 36 u1 4 λ ae=>lA 30 ae a λ af=>lN 30 af λ ag=>bB .lss 3 ag (i 1) λ ah=>
 cV ah (K1 tt a) (fA 36 u1 4 λ ai=>lA 30 ai a λ aj=>lN 30 aj λ ak=>bB .gtr 3 ak (i 3) λ al=>K1 al a)))))))) (λ am an=>∀ _:Env,
 cV am (K ff an) (fA 36 u1 0 λ ao=>lA 28 ao an λ ap=>lN 28 ap λ aq=>l7 (λ K2 N0 ar asx=>∀ _:Env,
 bA .lss 3 ar aq λ au=>cV au (iA 28 ap ar λ av=>lA 3 av asx λ aw=>cE (λ K3=>bB .gtr 3 ar (i 0) λ ax=>cV ax (fA 36 u1 1 λ ay=>lA 3 ay asx λ az=>bA .lss 3 ar az λ a0=>
 cV a0 (bA .eql 3 aw N0 λ a1=>K3 a1 asx) (K3 ff asx)) (K3 ff asx)) (λ UL a2=>∀ _:Env,
 cE (λ K4=>dW Tryz.prog (Op.unary .not UL) λ a3=>cV a3 (bB .add 3 N0 (i 1) λ a4=>bA .neq 3 aw a4 λ a5=>K4 a5 a2) (K4 ff a2)) (λ a6 a7=>∀ _:Env,
 cV a6 (K ff a7) (bB .add 3 ar (i 1) λ a8=>K2 aw a8 a7)))) (cE (λ K5=>fA 36 u1 2 λ a9=>lA 28 a9 asx λ ba=>cF 117 [ba,(.func (.func 111) #[] #[])] asx λ bb bc=>dW Tryz.prog (Op.unary .not bb) λ bd=>
 cV bd (fA 36 u1 4 λ be=>lA 30 be bc λ bf=>cF 118 [bf,(.func (Go.Fn.func 112) [].toArray [u1].toArray)] bc λ bg bh=>dW Tryz.prog (Op.unary .not bg) λ bi=>cV bi (fA 36 u1 5 λ bj=>
 lA 33 bj bh λ bk=>gi Tryz.prog (.func (Go.Fn.func 112) [].toArray [u1].toArray) [bk] bh λ bl bm=>dW Tryz.prog (Op.unary .not bl) λ bn=>cV bn (fA 36 u1 6 λ bo=>lA 34 bo bm λ bp=>
 cF 119 [bp,(.func (Go.Fn.func 115) [].toArray [u1].toArray)] bm λ bq br=>dW Tryz.prog (Op.unary .not bq) λ bs=>K5 bs br) (K5 ff bm)) (K5 ff bh)) (K5 ff bc)) (λ bt bu=>∀ _:Env,
 K bt bu))) (λ K2=>K2 (i (-1)) (i 0) an)))
theorem QK (u0:Value) (h:S51 w K u0):CR 51 [u0] w K:=
 kF 117 (λ _=>.nil) 4 [.tmp 2] Tryz.func51 h
def S52 (mG:Value):Prop:=
 cE (λ K1=>bB .lss 3 mG (i 1) λ a=>cV a (K1 tt w) (bB .gtr 3 mG (i 16) λ b=>K1 b w)) (λ c d=>∀ _:Env,
 cV c (K (.tuple #[(.pointer none),(i 1)]) d) (dW Tryz.prog (Instr.build 197 [(0,mG)].toArray) λ e=>ji Tryz.prog (Instr.box 197 e) d λ f g=>K (.tuple #[f,(i 0)]) g))
theorem QL (mG:Value) (h:S52 w K mG):CR 52 [mG] w K:=
 kF 13 (λ _=>.nil) 12 [.tmp 2,.tmp 3] Tryz.func52 h
def P53:dB:=λ i=>match i with
 | 1=>(.of [(0,[]),(1,[]),(3,[]),(4,[]),(6,[]),(7,[]),(2,[4,7]),(9,[]),(5,[7]),(8,[]),(10,[]),(11,[]),(12,[]),(13,[]),(14,[])])
 | _=>.nil
def P55:dB:=λ i=>match i with
 | 9=>(.op 0 [] (.op 1 [] (.op 2 [] (.op 3 [] (.op 5 [] (.op 6 [] (.alt 4 [1,6] (.of [(7,[1,3]),(8,[]),(9,[]),(10,[])]) (.alt 7 [1,3] (.of [(4,[1,6]),(8,[]),(9,[]),(10,[])]) .stop))))))))
 | _=>.nil
def P56:dB:=λ i=>match i with
 | 17=>.run 0 14
 | _=>.nil
def S57 (b0:Value):Prop:=
 nC b0 λ a=>fA 197 a 1 λ b=>lA 80 b w λ c=>lN 80 c λ d=>l7 (λ K1 jW e f=>∀ _:Env,
 bA .lss 3 e d λ g=>cV g (cE (λ K2=>cF 124 [b0,e] f λ h j=>cV h (bS 28 1 [(0,e)] j λ k l=>aP 28 jW k l λ n o=>K2 n o) (K2 jW j)) (λ iX p=>∀ _:Env,
 bB .add 3 e (i 1) λ q=>K1 iX q p)) (K jW f)) (λ K1=>K1 (.slice none 0 0) (i 0) w)
theorem QM (b0:Value) (h:S57 w K b0):CR 57 [b0] w K:=
 kF 22 (λ _=>.nil) 4 [.tmp 2] Tryz.func57 h
def P65:dB:=λ i=>match i with
 | 1=>.run 0 11
 | 3=>.run 0 13
 | _=>.nil
def P74:dB:=λ i=>match i with
 | 16=>(.of [(0,[]),(1,[]),(2,[]),(3,[]),(4,[]),(5,[]),(6,[]),(7,[]),(8,[]),(10,[]),(11,[]),(9,[1,4,6,11]),(12,[]),(13,[])])
 | 21=>.run 0 9
 | 23=>(.of [(0,[]),(1,[]),(2,[]),(3,[]),(4,[]),(5,[]),(7,[]),(8,[]),(6,[1,3,8]),(9,[]),(10,[])])
 | _=>.nil
theorem abw:PL 27:=eM Tryz.func27
theorem UM:PL 32:=eM Tryz.func32
theorem abx:PL 34:=eM Tryz.func34
theorem UN:PL 35:=eM Tryz.func35
theorem aby:PL 36:=eM Tryz.func36
theorem abz:PL 49:=eM Tryz.func49
theorem abA:PL 50:=eM Tryz.func50
theorem abB:PL 51:=eM Tryz.func51
theorem UO:PL 52:=eM Tryz.func52
theorem abC:PL 53:=eM Tryz.func53
theorem abD:PL 54:=eM Tryz.func54
theorem abE:PL 55:=eM Tryz.func55
theorem abF:PL 56:=eM Tryz.func56
theorem abG:PL 57:=eM Tryz.func57
theorem abH:PL 64:=eM Tryz.func64
theorem QN:PL 65:=eM Tryz.func65
theorem QO:PL 66:=eM Tryz.func66
theorem abI:PL 67:=eM Tryz.func67
theorem abJ:PL 68:=eM Tryz.func68
theorem yr:PL 70:=eM Tryz.func70
theorem abK:PL 72:=eM Tryz.func72
theorem abL:PL 73:=eM Tryz.func73
theorem abM:PL 74:=eM Tryz.func74
variable (w:World) (K:Value->World->Prop)
def S75 (mG:Value):Prop:=
 cE (λ K1=>bB .lss 3 mG (i 1) λ a=>cV a (K1 tt w) (bB .gtr 3 mG (i 16) λ b=>K1 b w)) (λ c d=>∀ _:Env,
 cV c (K (.tuple #[(.pointer none),(i 1)]) d) (dW Tryz.prog (Instr.build 148 [(0,mG)].toArray) λ e=>ji Tryz.prog (Instr.box 148 e) d λ f g=>K (.tuple #[f,(i 0)]) g))
theorem QP (mG:Value) (h:S75 w K mG):CR 75 [mG] w K:=
 kF 13 (λ _=>.nil) 12 [.tmp 2,.tmp 3] Tryz.func75 h
def S76 (Cd oo nc:Value):Prop:=
 cE (λ K1=>lN 28 Cd λ a=>lN 28 nc λ b=>bA .neq 3 a b λ c=>cV c (K1 tt w) (lN 28 Cd λ d=>bB .gtr 3 d (i 20) λ e=>cV e (K1 tt w) (bB .lss 3 oo (i 0) λ f=>
 cV f (K1 tt w) (lN 28 Cd λ g=>bA .gtr 3 oo g λ h=>K1 h w)))) (λ j k=>∀ _:Env,
 cV j (K (.tuple #[(.pointer none),(i 1)]) k) (jS (λ K2 i8 l=>∀ _:Env,
 bA .lss 3 i8 oo λ n=>cV n (cE (λ K3=>bB .eql 3 i8 (i 0) λ o=>cV o (iA 28 Cd (i 0) λ p=>lA 3 p (drew l) λ q=>bB .neq 3 q (i 0) λ r=>cV r (K3 tt (drew l)) (
 bB .gtr 3 i8 (i 0) λ s=>cV s (iA 28 Cd i8 λ t=>lA 3 t (drew l) λ u=>bB .sub 3 i8 (i 1) λ v=>iA 28 Cd v λ x=>lA 3 x (drew l) λ y=>bA .neq 3 u y λ z=>cV z (iA 28 Cd i8 λ aa=>
 lA 3 aa (drew l) λ ab=>bB .sub 3 i8 (i 1) λ ac=>iA 28 Cd ac λ ad=>lA 3 ad (drew l) λ ae=>bB .add 3 ae (i 1) λ af=>bA .neq 3 ab af λ ag=>K3 ag (drew l)) (K3 ff (drew l))) (
 K3 ff (drew l)))) (bB .gtr 3 i8 (i 0) λ ah=>cV ah (iA 28 Cd i8 λ ai=>lA 3 ai (drew l) λ aj=>bB .sub 3 i8 (i 1) λ ak=>iA 28 Cd ak λ al=>lA 3 al (drew l) λ am=>bA .neq 3 aj am λ an=>
 cV an (iA 28 Cd i8 λ ao=>lA 3 ao (drew l) λ ap=>bB .sub 3 i8 (i 1) λ aq=>iA 28 Cd aq λ ar=>lA 3 ar (drew l) λ asx=>bB .add 3 asx (i 1) λ au=>bA .neq 3 ap au λ av=>
 K3 av (drew l)) (K3 ff (drew l))) (K3 ff (drew l)))) (λ aw ax=>∀ _:Env,
 cV aw (K (.tuple #[(.pointer none),(i 1)]) ax) (bB .add 3 i8 (i 1) λ ay=>K2 ay ax))) (bS 28 0 [] l λ az a0=>dW Tryz.prog (Instr.sliceAt 28 Cd none (some oo) none) λ a1=>
 aP 28 az a1 a0 λ a2 a3=>bS 28 0 [] a3 λ a4 a5=>aP 28 a4 nc a5 λ a6 a7=>dW Tryz.prog (Instr.build 143 [(0,a2),(1,a6)].toArray) λ a8=>ji Tryz.prog (Instr.box 143 a8) a7 λ a9 ba=>
 bS 28 0 [] ba λ bb bc=>aP 28 bb nc bc λ bd be=>nC a9 λ bf=>fA 143 bf 2 λ bg=>sA 28 bg bd be λ bh=>bS 28 0 [] bh λ bi bj=>dW Tryz.prog (Instr.sliceAt 28 nc none (some oo) none) λ bk=>
 aP 28 bi bk bj λ bl bm=>nC a9 λ bn=>fA 143 bn 3 λ bo=>sA 28 bo bl bm λ bp=>K (.tuple #[a9,(i 0)]) bp)) (λ K2=>K2 (i 0) k)))
def P76:dB:=λ i=>match i with
 | 6=>.run 0 37
 | _=>.nil
theorem QQ (Cd oo nc:Value) (h:S76 w K Cd oo nc):CR 76 [Cd,oo,nc] w K:=
 kF 97 P76 192 [.tmp 6,.tmp 7] Tryz.func76 h
def S77 (m0 l1:Value):Prop:=
 nC m0 λ a=>fA 75 a 5 λ b=>sA 73 b (.slice none 0 0) w λ c=>nC m0 λ d=>fA 75 d 4 λ e=>sA 28 e (.slice none 0 0) c λ f=>jS (λ K1 i4 g=>∀ _:Env,
 nC m0 λ h=>fA 75 h 0 λ j=>fA 36 j 3 λ k=>lA 3 k g λ l=>bA .lss 3 i4 l λ n=>cV n (nC m0 λ o=>fA 75 o 4 λ p=>lA 28 p g λ q=>bS 28 1 [(0,(i (-1)))] g λ r s=>
 aP 28 q r s λ t u=>nC m0 λ v=>fA 75 v 4 λ x=>sA 28 x t u λ y=>bB .add 3 i4 (i 1) λ z=>K1 z y) (jS (λ K2 i5 aa=>∀ _:Env,
 lN 30 l1 λ ab=>bA .lss 3 i5 ab λ ac=>cV ac (xn (λ K3=>nC m0 λ ad=>fA 75 ad 1 λ ae=>lA 3 ae aa λ af=>cF 75 [af] aa λ ag ah=>xT ag 0 λ ai=>xT ag 1 λ _=>
 cE (λ K4=>iA 30 l1 i5 λ aj=>lA 33 aj (drew ah) λ ak=>iA 30 l1 i5 λ al=>fA 33 al 0 λ am=>lA 3 am (drew ah) λ an=>iA 30 l1 i5 λ ao=>fA 33 ao 1 λ ap=>lA 3 ap (drew ah) λ aq=>
 ((ji Tryz.prog (Instr.makeSlice 28 an an) (drew ah) λ ar asx=>kA 33 aj ak asx (kA 3 ap aq asx (ji Tryz.prog (Instr.makeSlice 28 aq aq) asx λ au av=>kA 33 aj ak av (kA 3 am an av (
 dW Tryz.prog (Instr.build 145 [(0,ak),(4,ai),(2,ar),(3,au)].toArray) λ aw=>ji Tryz.prog (Instr.box 145 aw) av λ ax ay=>K4 ax ay)))))
 /\((ji Tryz.prog (Instr.makeSlice 28 aq aq) (drew ah) λ az a0=>kA 33 aj ak a0 (kA 3 am an a0 (ji Tryz.prog (Instr.makeSlice 28 an an) a0 λ a1 a2=>kA 33 aj ak a2 (kA 3 ap aq a2 (
 dW Tryz.prog (Instr.build 145 [(0,ak),(4,ai),(2,a1),(3,az)].toArray) λ a3=>ji Tryz.prog (Instr.box 145 a3) a2 λ a4 a5=>K4 a4 a5)))))
 /\
 True))) (λ t8 a6=>∀ _:Env,
 cF 141 [t8] a6 λ _ a7=>nC m0 λ a8=>fA 75 a8 5 λ a9=>lA 73 a9 a7 λ ba=>bS 73 1 [(0,t8)] a7 λ bb bc=>aP 73 ba bb bc λ bd be=>nC m0 λ bf=>fA 75 bf 5 λ bg=>sA 73 bg bd be λ bh=>
 K3 bh)) (λ bi=>∀ _:Env,
 bB .add 3 i5 (i 1) λ bj=>K2 bj bi)) (K (.tuple #[]) aa)) (λ K2=>K2 (i 0) g))) (λ K1=>K1 (i 0) f)
def P77:dB:=λ i=>match i with
 | 10=>(.op 0 [] (.op 1 [] (.op 2 [] (.op 3 [] (.op 4 [] (.op 5 [] (.op 6 [] (.op 7 [] (.op 8 [] (.op 9 [] (.op 11 [] (.op 12 [] (.op 13 [] (.op 14 [] (.op 15 [] (.alt 10 [3,15] (.of [(16,[3,9]),(17,[]),(18,[]),(19,[])]) (.alt 16 [3,9] (.of [(10,[3,15]),(17,[]),(18,[]),(19,[])]) .stop)))))))))))))))))
 | _=>.nil
theorem QS (m0 l1:Value) (h:S77 w K m0 l1):CR 77 [m0,l1] w K:=
 kF 78 P77 0 [] Tryz.func77 h
def S78 (m0:Value):Prop:=
 aL 54 w λ a b=>nC m0 λ c=>fA 75 c 2 λ d=>lA 3 d (drew b) λ e=>nC m0 λ f=>fA 75 f 6 λ g=>lA 3 g (drew b) λ h=>nC m0 λ j=>fA 75 j 7 λ k=>lA 3 k (drew b) λ l=>
 nC m0 λ n=>fA 75 n 6 λ o=>lA 3 o (drew b) λ p=>bB .eql 3 p (i 0) λ q=>dW Tryz.prog (Instr.build 54 [(0,e),(1,h),(2,l),(3,q)].toArray) λ s=>aL 54 (drew b) λ s3 t=>
 kA 3 d e t (kA 3 g h t (kA 3 k l t (kA 3 o p t (sA 54 s3 s t λ u=>jS (λ K1 i4 v=>∀ _:Env,
 nC m0 λ x=>fA 75 x 5 λ y=>lA 73 y v λ z=>lN 73 z λ aa=>bA .lss 3 i4 aa λ ab=>cV ab (xn (λ K2=>cE (λ K3=>nC m0 λ ac=>fA 75 ac 5 λ ad=>lA 73 ad (drew v) λ ae=>
 iA 73 ae i4 λ af=>lA 146 af (drew v) λ ag=>nC ag λ ah=>fA 145 ah 1 λ ai=>lA 3 ai (drew v) λ aj=>nC m0 λ ak=>fA 75 ak 5 λ al=>lA 73 al (drew v) λ am=>iA 73 am i4 λ an=>
 lA 146 an (drew v) λ ao=>nC ao λ ap=>fA 145 ap 0 λ aq=>fA 33 aq 2 λ ar=>lA 31 ar (drew v) λ asx=>lN 31 asx λ au=>bA .lss 3 aj au λ av=>cV av (K3 tt (drew v)) (nC m0 λ aw=>
 fA 75 aw 5 λ ax=>lA 73 ax (drew v) λ ay=>iA 73 ay i4 λ az=>lA 146 az (drew v) λ a0=>nC a0 λ a1=>fA 145 a1 4 λ a2=>lA 136 a2 (drew v) λ a3=>nC a3 λ a4=>fA 148 a4 1 λ a5=>
 lA 80 a5 (drew v) λ a6=>lN 80 a6 λ a7=>bB .gtr 3 a7 (i 0) λ a8=>K3 a8 (drew v))) (λ a9 ba=>∀ _:Env,
 cV a9 (fA 54 s3 3 λ bb=>sA 4 bb ff ba λ bc=>K2 bc) (K2 ba))) (λ bd=>∀ _:Env,
 bB .add 3 i4 (i 1) λ be=>K1 be bd)) (xn (λ K4=>nC m0 λ bf=>fA 75 bf 6 λ bg=>lA 3 bg v λ bh=>bB .eql 3 bh (i 0) λ bi=>cV bi (fA 54 s3 3 λ bj=>lA 4 bj v λ bk=>
 dW Tryz.prog (Op.unary .not bk) λ bl=>cV bl (cF 32 [m0] v λ bm bn=>lN 45 bm λ bo=>bB .eql 3 bo (i 0) λ bp=>fA 54 s3 4 λ bq=>sA 4 bq bp bn λ br=>K4 br) (fA 54 s3 4 λ bs=>
 sA 4 bs ff v λ bt=>K4 bt)) (fA 54 s3 4 λ bu=>sA 4 bu ff v λ bv=>K4 bv)) (λ bw=>∀ _:Env,
 lA 54 s3 bw λ bx=>sA 54 a bx bw λ bz=>lA 54 a bz λ r=>K r bz))) (λ K1=>K1 (i 0) u)))))
def P78:dB:=λ i=>match i with
 | 1=>(.of [(0,[]),(1,[]),(2,[]),(3,[]),(4,[]),(5,[]),(6,[]),(7,[]),(8,[]),(9,[]),(10,[]),(11,[]),(12,[]),(13,[]),(14,[]),(15,[]),(16,[]),(17,[]),(18,[3,7,11,15]),(19,[])])
 | 5=>.run 0 40
 | _=>.nil
theorem QT (m0:Value) (h:S78 w K m0):CR 78 [m0] w K:=
 kF 91 P78 4 [.cell 2 54] Tryz.func78 h
def S79 (m0:Value):Prop:=
 bS 105 0 [] w λ a b=>l7 (λ K1 jW i4 c=>∀ _:Env,
 nC m0 λ d=>fA 75 d 0 λ e=>fA 36 e 6 λ f=>lA 34 f c λ g=>lN 34 g λ h=>bA .lss 3 i4 h λ j=>cV j (cE (λ K2=>nC m0 λ k=>fA 75 k 0 λ l=>fA 36 l 6 λ n=>
 lA 34 n (drew c) λ o=>iA 34 o i4 λ p=>lA 99 p (drew c) λ q=>nC m0 λ r=>fA 75 r 3 λ s=>lA 72 s (drew c) λ t=>nC t λ u=>fA 143 u 2 λ v=>lA 28 v (drew c) λ x=>
 nC m0 λ y=>fA 75 y 0 λ z=>fA 36 z 1 λ aa=>lA 3 aa (drew c) λ ab=>dW Tryz.prog (Instr.sliceAt 28 x none (some ab) none) λ ac=>cF 142 [q,ac] (drew c) λ ad ae=>xT ad 0 λ af=>
 xT ad 1 λ ag=>bB .eql 37 ag (i 0) λ ah=>cV ah (bB .neq 3 af (i 0) λ ai=>bS 105 1 [(0,ai)] ae λ aj ak=>aP 105 jW aj ak λ al am=>K2 al am) (bS 105 1 [(0,ff)] ae λ an ao=>
 aP 105 jW an ao λ ap aq=>K2 ap aq)) (λ iX ar=>∀ _:Env,
 bB .add 3 i4 (i 1) λ asx=>K1 iX asx ar)) (K jW c)) (λ K1=>K1 a (i 0) b)
def P79:dB:=λ i=>match i with
 | 5=>.run 0 27
 | _=>.nil
theorem QU (m0:Value) (h:S79 w K m0):CR 79 [m0] w K:=
 kF 53 P79 4 [.tmp 2] Tryz.func79 h
def S83 (m0 t1:Value):Prop:=
 nC t1 λ a=>fA 145 a 1 λ b=>lA 3 b (drew w) λ c=>nC t1 λ d=>fA 145 d 0 λ e=>fA 33 e 2 λ f=>lA 31 f (drew w) λ g=>lN 31 g λ h=>bA .geq 3 c h λ j=>cV j (K ff (drew w)) (
 nC t1 λ k=>fA 145 k 0 λ l=>fA 33 l 2 λ n=>lA 31 n (drew (drew w)) λ o=>nC t1 λ p=>fA 145 p 1 λ q=>lA 3 q (drew (drew w)) λ r=>iA 31 o r λ s=>lA 129 s (drew (drew w)) λ t=>
 aL 129 (drew (drew w)) λ u v=>kA 31 n o v (kA 3 q r v (kA 129 s t v (sA 129 u t v λ x=>cE (λ K1=>nC t1 λ y=>fA 145 y 5 λ z=>lA 3 z x λ aa=>bB .neq 3 aa (i 0) λ ab=>
 cV ab (K1 tt x) (fA 129 u 0 λ ac=>lA 3 ac x λ ad=>bB .eql 3 ad (i 2) λ ae=>K1 ae x)) (λ af ag=>∀ _:Env,
 cV af (K tt ag) (cE (λ K2=>fA 129 u 0 λ ah=>lA 3 ah ag λ ai=>bB .eql 3 ai (i 3) λ aj=>cV aj (K2 tt ag) (fA 129 u 0 λ ak=>lA 3 ak ag λ al=>bB .eql 3 al (i 5) λ am=>
 cV am (K2 tt ag) (fA 129 u 0 λ an=>lA 3 an ag λ ao=>bB .eql 3 ao (i 6) λ ap=>cV ap (K2 tt ag) (fA 129 u 0 λ aq=>lA 3 aq ag λ ar=>bB .eql 3 ar (i 7) λ asx=>K2 asx ag))))
 (λ au av=>∀ _:Env,
 cV au (nC t1 λ aw=>fA 145 aw 4 λ ax=>lA 136 ax (drew av) λ ay=>nC ay λ az=>fA 148 az 1 λ a0=>lA 80 a0 (drew av) λ a1=>lN 80 a1 λ a2=>nC m0 λ a3=>fA 75 a3 1 λ a4=>
 lA 3 a4 (drew av) λ a5=>bA .lss 3 a2 a5 λ a6=>K a6 (drew av)) (cE (λ K3=>nC t1 λ a7=>fA 145 a7 4 λ a8=>lA 136 a8 (drew av) λ a9=>nC a9 λ ba=>fA 148 ba 1 λ bb=>
 lA 80 bb (drew av) λ bc=>lN 80 bc λ bd=>bB .eql 3 bd (i 0) λ be=>cV be (fA 129 u 0 λ bf=>lA 3 bf (drew av) λ bg=>bB .neq 3 bg (i 9) λ bh=>cV bh (K3 tt (drew av)) (
 nC m0 λ bi=>fA 75 bi 4 λ bj=>lA 28 bj (drew av) λ bk=>fA 129 u 2 λ bl=>lA 3 bl (drew av) λ bm=>iA 28 bk bm λ bn=>lA 3 bn (drew av) λ bo=>bB .eql 3 bo (i (-1)) λ bp=>
 K3 bp (drew av))) (K3 ff (drew av))) (λ bq br=>∀ _:Env,
 K bq br)))))))))
def P83:dB:=λ i=>match i with
 | 1=>.run 0 11
 | 3=>(.of [(0,[]),(1,[]),(2,[]),(3,[]),(4,[]),(5,[]),(6,[]),(7,[]),(8,[]),(9,[]),(10,[]),(11,[4,8,10]),(12,[])])
 | 7=>.run 0 14
 | 8=>.run 0 26
 | _=>.nil
theorem QV (m0 t1:Value) (h:S83 w K m0 t1):CR 83 [m0,t1] w K:=
 kF 94 P83 16 [.tmp 4] Tryz.func83 h
def S84 (b0:Value):Prop:=
 bS 28 0 [] w λ a b=>l7 (λ K1 jW i4 c=>∀ _:Env,
 nC b0 λ d=>fA 148 d 1 λ e=>lA 80 e c λ f=>lN 80 f λ g=>bA .lss 3 i4 g λ h=>cV h (cE (λ K2=>cF 146 [b0,i4] c λ j k=>cV j (bS 28 1 [(0,i4)] k λ l n=>aP 28 jW l n λ o p=>
 K2 o p) (K2 jW k)) (λ iX q=>∀ _:Env,
 bB .add 3 i4 (i 1) λ r=>K1 iX r q)) (K jW c)) (λ K1=>K1 a (i 0) b)
theorem QW (b0:Value) (h:S84 w K b0):CR 84 [b0] w K:=
 kF 23 (λ _=>.nil) 4 [.tmp 2] Tryz.func84 h
def S91 (b0:Value):Prop:=
 nC b0 λ a=>fA 197 a 1 λ b=>lA 80 b w λ c=>cF 154 [c] w λ d e=>K d e
theorem QX (b0:Value) (h:S91 w K b0):CR 91 [b0] w K:=
 kF 8 (λ _=>.nil) 4 [.tmp 2] Tryz.func91 h
theorem UP:PL 75:=eM Tryz.func75
theorem abN:PL 76:=eM Tryz.func76
theorem abO:PL 77:=eM Tryz.func77
theorem abP:PL 78:=eM Tryz.func78
theorem abQ:PL 79:=eM Tryz.func79
theorem abR:PL 83:=eM Tryz.func83
theorem abS:PL 84:=eM Tryz.func84
theorem QY:PL 90:=eM Tryz.func90
theorem UQ:PL 91:=eM Tryz.func91
variable (w:World) (K:Value->World->Prop)
def S110 (l0 ot:Value):Prop:=
 lN 28 ot λ a=>cF 116 [l0,a] w λ b c=>dW Tryz.prog (Op.unary .not b) λ d=>cV d (K (.tuple #[(i 0),(i 8)]) c) (aL 247 c λ p6 e=>lN 99 l0 λ f=>jS (λ K1 g h=>∀ _:Env,
 bA .lss 3 g f λ j=>cV j (xn (λ K2=>iA 99 l0 g λ k=>lA 200 k h λ l=>aL 200 h λ n o=>sA 200 n l o λ p=>fA 200 n 0 λ q=>lA 3 q p λ r=>cF 171 [r] p λ s t=>
 bB .eql 3 s (i 0) λ u=>cV u (fA 200 n 1 λ v=>lA 3 v t λ x=>cE (λ K3=>fA 200 n 0 λ y=>lA 3 y t λ z=>bB .eql 3 z (i 2) λ aa=>cV aa (fA 200 n 1 λ ab=>lA 3 ab t λ ac=>
 iA 28 ot ac λ ad=>lA 3 ad t λ ae=>K3 ae t) (K3 x t)) (λ n9 af=>∀ _:Env,
 cF 172 [p6,n9] af λ _ ag=>K2 ag)) (bB .eql 3 s (i 1) λ ah=>cV ah (fA 200 n 0 λ ai=>lA 3 ai (drew t) λ aj=>fA 247 p6 0 λ ak=>cF 174 [ak] (drew t) λ al am=>kA 3 ai aj am (
 cF 173 [aj,al] am λ an ao=>xT an 0 λ ap=>xT an 1 λ _=>cF 172 [p6,ap] ao λ _ aq=>K2 aq)) (fA 247 p6 0 λ ar=>cF 174 [ar] t λ asx au=>fA 200 n 0 λ av=>lA 3 av (drew au) λ aw=>
 fA 247 p6 0 λ ax=>cF 174 [ax] (drew au) λ ay az=>kA 3 av aw az (cF 175 [aw,ay,asx] az λ a0 a1=>xT a0 0 λ a2=>xT a0 1 λ a3=>bB .neq 37 a3 (i 0) λ a4=>cV a4 (K (.tuple #[(i 0),a3]) a1) (
 cF 172 [p6,a2] a1 λ _ a5=>K2 a5))))) (λ a6=>∀ _:Env,
 bB .add 3 g (i 1) λ a7=>K1 a7 a6)) (fA 247 p6 0 λ a8=>cF 174 [a8] h λ a9 ba=>K (.tuple #[a9,(i 0)]) ba)) (λ K1=>K1 (i 0) e))
def abT:dB:=λ i=>match i with
 | 9=>(.of [(0,[]),(1,[]),(2,[]),(4,[]),(3,[1]),(5,[]),(6,[]),(7,[]),(8,[]),(9,[]),(10,[])])
 | 19=>(.of [(0,[]),(1,[]),(2,[]),(3,[1]),(4,[]),(5,[]),(6,[]),(7,[]),(8,[]),(9,[])])
 | _=>.nil
theorem Lj (l0 ot:Value) (h:S110 w K l0 ot):CR 110 [l0,ot] w K:=
 kF 74 abT 48 [.tmp 4,.tmp 5] Tryz.func110 h
def S111 (n0:Value):Prop:=
 cE (λ K1=>bB .lss 3 n0 (i 0) λ a=>cV a (K1 tt w) (bB .gtr 3 n0 (i 4294967296) λ b=>K1 b w)) (λ c d=>∀ _:Env,
 K c d)
theorem Lk (n0:Value) (h:S111 w K n0):CR 111 [n0] w K:=
 kF 9 (λ _=>.nil) 4 [.tmp 2] Tryz.func111 h
def S112 (c0 a:Value):Prop:=
 ji Tryz.prog (Instr.box 33 c0) w λ c2 b=>lA 33 c2 (drew b) λ c=>fA 36 a 0 λ d=>lA 28 d (drew b) λ e=>lN 28 e λ f=>lA 36 a (drew b) λ g=>fA 36 a 3 λ h=>lA 3 h (drew b) λ j=>
 cF 114 [g] (drew b) λ k l=>kA 33 c2 c l (kA 28 d e l (kA 3 h j l (cF 113 [c,f,k,j] l λ n o=>dW Tryz.prog (Op.unary .not n) λ p=>K p o)))
def abU:dB:=λ i=>match i with
 | 1=>(.of [(0,[]),(1,[]),(2,[]),(3,[]),(4,[]),(6,[]),(7,[]),(5,[0,2,7]),(8,[]),(9,[]),(10,[])])
 | _=>.nil
theorem Ll (c0 x1:Value) (h:S112 w K c0 x1):CR 112 [c0,x1] w K:=
 kF 14 abU 8 [.tmp 3] Tryz.func112 h
def S113 (c0 yt yu yw:Value):Prop:=
 ji Tryz.prog (Instr.box 33 c0) w λ c4 a=>cE (λ K1=>fA 33 c4 0 λ b=>lA 3 b a λ c=>bB .lss 3 c (i 0) λ d=>cV d (K1 tt a) (fA 33 c4 0 λ e=>lA 3 e a λ f=>bB .gtr 3 f (i 4) λ g=>
 cV g (K1 tt a) (fA 33 c4 1 λ h=>lA 3 h a λ j=>bB .lss 3 j (i 0) λ k=>cV k (K1 tt a) (fA 33 c4 1 λ l=>lA 3 l a λ n=>bB .gtr 3 n (i 12) λ o=>K1 o a)))) (λ p q=>∀ _:Env,
 cV p (K ff q) (fA 33 c4 2 λ r=>lA 31 r q λ s=>lN 31 s λ t=>jS (λ K2 u v=>∀ _:Env,
 bA .lss 3 u t λ x=>cV x (iA 31 s u λ y=>lA 129 y v λ z=>aL 129 v λ aa ab=>sA 129 aa z ab λ ac=>cE (λ K3=>fA 129 aa 0 λ ad=>lA 3 ad ac λ ae=>bB .lss 3 ae (i 1) λ af=>
 cV af (K3 tt ac) (fA 129 aa 0 λ ag=>lA 3 ag ac λ ah=>bB .geq 3 ah (i 16) λ ai=>K3 ai ac)) (λ aj ak=>∀ _:Env,
 cV aj (K ff ak) (fA 129 aa 1 λ al=>lA 3 al (drew ak) λ am=>fA 33 c4 0 λ an=>lA 3 an (drew ak) λ ao=>gi Tryz.prog (.func (Go.Fn.func 176) [].toArray [aa].toArray) [(.int .u8 114)] (drew ak) λ ap aq=>
 kA 3 al am aq (kA 3 an ao aq (cF 179 [ap,am,ao] aq λ ar asx=>cE (λ K4=>gi Tryz.prog (.func (Go.Fn.func 176) [].toArray [aa].toArray) [(.int .u8 107)] asx λ au av=>cV au (
 fA 129 aa 1 λ aw=>lA 3 aw av λ ax=>fA 33 c4 1 λ ay=>lA 3 ay av λ az=>cF 179 [tt,ax,az] av λ a0 a1=>K4 a0 a1) (K4 ar av)) (λ a12 a2=>∀ _:Env,
 fA 129 aa 2 λ a3=>lA 3 a3 a2 λ a4=>bB .eql 3 a4 (i 0) λ a5=>cE (λ K5=>gi Tryz.prog (.func (Go.Fn.func 176) [].toArray [aa].toArray) [(.int .u8 99)] a2 λ a6 a7=>
 cV a6 (fA 129 aa 2 λ a8=>lA 3 a8 a7 λ a9=>cF 179 [tt,a9,yt] a7 λ ba bb=>K5 ba bb) (gi Tryz.prog (.func (Go.Fn.func 176) [].toArray [aa].toArray) [(.int .u8 108)] a7 λ bc bd=>
 cV bc (fA 129 aa 2 λ be=>lA 3 be bd λ bf=>cF 179 [tt,bf,yu] bd λ bg bh=>K5 bg bh) (gi Tryz.prog (.func (Go.Fn.func 176) [].toArray [aa].toArray) [(.int .u8 109)] bd λ bi bj=>
 cV bi (fA 129 aa 2 λ bk=>lA 3 bk bj λ bl=>cF 179 [tt,bl,yw] bj λ bm bn=>K5 bm bn) (gi Tryz.prog (.func (Go.Fn.func 176) [].toArray [aa].toArray) [(.int .u8 110)] bj λ bo bp=>
 cV bo (fA 129 aa 2 λ bq=>lA 3 bq bp λ br=>bB .geq 3 br (i 1) λ bs=>cV bs (fA 129 aa 2 λ bt=>lA 3 bt bp λ bu=>bB .leq 3 bu (i 8) λ bv=>K5 bv bp) (K5 ff bp)) (K5 a5 bp)))))
 (λ b13 bw=>∀ _:Env,
 cE (λ K6=>gi Tryz.prog (.func (Go.Fn.func 176) [].toArray [aa].toArray) [(.int .u8 101)] bw λ bx bz=>cV bx (fA 129 aa 3 λ b0=>lA 99 b0 bz λ b1=>fA 33 c4 0 λ b2=>
 lA 3 b2 bz λ b3=>cF 116 [b1,b3] bz λ b4 b5=>cV b4 (K6 tt b5) (gi Tryz.prog (.func (Go.Fn.func 176) [].toArray [aa].toArray) [(.int .u8 101)] b5 λ b6 b7=>dW Tryz.prog (Op.unary .not b6) λ b8=>
 cV b8 (fA 129 aa 3 λ b9=>lA 99 b9 b7 λ ca=>lN 99 ca λ cb=>bB .eql 3 cb (i 0) λ cc=>K6 cc b7) (K6 ff b7))) (gi Tryz.prog (.func (Go.Fn.func 176) [].toArray [aa].toArray) [(.int .u8 101)] bz λ cd ce=>
 dW Tryz.prog (Op.unary .not cd) λ cf=>cV cf (fA 129 aa 3 λ cg=>lA 99 cg ce λ ch=>lN 99 ch λ ci=>bB .eql 3 ci (i 0) λ cj=>K6 cj ce) (K6 ff ce))) (λ e14 ck=>∀ _:Env,
 cE (λ K7=>gi Tryz.prog (.func (Go.Fn.func 176) [].toArray [aa].toArray) [(.int .u8 102)] ck λ cl cm=>cV cl (fA 129 aa 4 λ cn=>lA 99 cn cm λ co=>fA 33 c4 0 λ cp=>
 lA 3 cp cm λ cq=>cF 116 [co,cq] cm λ cr cs=>cV cr (K7 tt cs) (gi Tryz.prog (.func (Go.Fn.func 176) [].toArray [aa].toArray) [(.int .u8 102)] cs λ ct cu=>dW Tryz.prog (Op.unary .not ct) λ cv=>
 cV cv (fA 129 aa 4 λ cw=>lA 99 cw cu λ cx=>lN 99 cx λ cy=>bB .eql 3 cy (i 0) λ cz=>K7 cz cu) (K7 ff cu))) (gi Tryz.prog (.func (Go.Fn.func 176) [].toArray [aa].toArray) [(.int .u8 102)] cm λ c1 c2=>
 dW Tryz.prog (Op.unary .not c1) λ c3=>cV c3 (fA 129 aa 4 λ c5=>lA 99 c5 c2 λ c6=>lN 99 c6 λ c7=>bB .eql 3 c7 (i 0) λ c8=>K7 c8 c2) (K7 ff c2))) (λ f15 c9=>∀ _:Env,
 fA 129 aa 5 λ da=>lA 3 da c9 λ db=>bB .eql 3 db (i 0) λ dc=>cE (λ K8=>cE (λ K9=>gi Tryz.prog (.func (Go.Fn.func 176) [].toArray [aa].toArray) [(.int .u8 116)] c9 λ dd de=>
 cV dd (fA 129 aa 0 λ df=>lA 3 df de λ dg=>bB .eql 3 dg (i 14) λ dh=>K9 dh de) (K9 ff de)) (λ di dj=>∀ _:Env,
 cV di (fA 33 c4 2 λ dk=>lA 31 dk dj λ dl=>cF 180 [dl,u] dj λ dm dn=>K8 dm dn) (gi Tryz.prog (.func (Go.Fn.func 176) [].toArray [aa].toArray) [(.int .u8 116)] dj λ dp dq=>
 cV dp (fA 129 aa 5 λ dr=>lA 3 dr dq λ ds=>bA .gtr 3 ds u λ dt=>cV dt (fA 129 aa 5 λ du=>lA 3 du dq λ dv=>fA 33 c4 2 λ dw=>lA 31 dw dq λ dx=>lN 31 dx λ dy=>
 bA .leq 3 dv dy λ dz=>K8 dz dq) (K8 ff dq)) (K8 dc dq)))) (λ abV d0=>∀ _:Env,
 cE (λ K10=>dW Tryz.prog (Op.unary .not a12) λ d1=>cV d1 (K10 tt d0) (dW Tryz.prog (Op.unary .not b13) λ d2=>cV d2 (K10 tt d0) (dW Tryz.prog (Op.unary .not e14) λ d3=>
 cV d3 (K10 tt d0) (dW Tryz.prog (Op.unary .not f15) λ d4=>cV d4 (K10 tt d0) (dW Tryz.prog (Op.unary .not abV) λ d5=>K10 d5 d0))))) (λ d6 d7=>∀ _:Env,
 cV d6 (K ff d7) (bB .add 3 u (i 1) λ d8=>K2 d8 d7)))))))))))) (fA 33 c4 2 λ d9=>lA 31 d9 v λ ea=>cF 181 [ea] v λ eb ec=>K eb ec)) (λ K2=>K2 (i 0) q)))
def abW:dB:=λ i=>match i with
 | 9=>(.of [(0,[]),(2,[]),(3,[]),(4,[]),(5,[]),(1,[3,5]),(6,[]),(7,[])])
 | _=>.nil
theorem Lm (c0 yt yu yw:Value) (h:S113 w K c0 yt yu yw):CR 113 [c0,yt,yu,yw] w K:=
 kF 193 abW 256 [.tmp 8] Tryz.func113 h
def S114 (u0:Value):Prop:=
 ji Tryz.prog (Instr.box 36 u0) w λ u1 a=>cE (λ K1=>fA 36 u1 1 λ b=>lA 3 b a λ c=>bB .lss 3 c (i 1) λ d=>cV d (K1 tt a) (fA 36 u1 1 λ e=>lA 3 e a λ f=>fA 36 u1 0 λ g=>
 lA 28 g a λ h=>lN 28 h λ j=>bA .gtr 3 f j λ k=>K1 k a)) (λ l n=>∀ _:Env,
 cV l (K (i 0) n) (fA 36 u1 0 λ o=>lA 28 o n λ p=>fA 36 u1 1 λ q=>lA 3 q n λ r=>bB .sub 3 r (i 1) λ s=>iA 28 p s λ t=>lA 3 t n λ u=>bB .add 3 u (i 1) λ v=>K v n))
theorem Ln (u0:Value) (h:S114 w K u0):CR 114 [u0] w K:=
 kF 22 (λ _=>.nil) 4 [.tmp 2] Tryz.func114 h
def S115 (l0 a:Value):Prop:=
 fA 36 a 1 λ b=>lA 3 b w λ c=>cF 116 [l0,c] w λ d e=>dW Tryz.prog (Op.unary .not d) λ f=>K f e
theorem Lo (l0 x1:Value) (h:S115 w K l0 x1):CR 115 [l0,x1] w K:=
 kF 9 (λ _=>.nil) 8 [.tmp 3] Tryz.func115 h
def abX:dB:=λ i=>match i with
 | 5=>(.of [(0,[]),(1,[]),(2,[]),(3,[]),(4,[]),(5,[]),(6,[]),(7,[]),(8,[]),(9,[]),(10,[]),(11,[]),(13,[]),(14,[]),(15,[]),(16,[]),(17,[]),(18,[]),(12,[1,4,14,18]),(19,[1,4]),(20,[]),(21,[]),(22,[4]),(23,[]),(24,[]),(25,[])])
 | _=>.nil
def S122 (t0:Value):Prop:=
 GI (λ K1 a=>∀ _:Env,
 cF 65 [t0] a λ b c=>xT b 0 λ d=>xT b 1 λ e=>aL 129 c λ f g=>sA 129 f d g λ h=>dW Tryz.prog (Op.unary .not e) λ j=>cV j (K (.tuple #[]) h) (fA 129 f 3 λ k=>lA 99 k h λ l=>
 cF 189 [t0,l] h λ n o=>xT n 0 λ p=>xT n 1 λ q=>nC t0 λ r=>fA 122 r 6 λ s=>sA 3 s p o λ t=>dW Tryz.prog (Op.unary .not q) λ u=>cV u (K (.tuple #[]) t) (fA 129 f 4 λ v=>
 lA 99 v t λ x=>cF 189 [t0,x] t λ y z=>xT y 0 λ aa=>xT y 1 λ ab=>nC t0 λ ac=>fA 122 ac 7 λ ad=>sA 3 ad aa z λ ae=>dW Tryz.prog (Op.unary .not ab) λ af=>cV af (
 K (.tuple #[]) ae) (nC t0 λ ag=>fA 122 ag 2 λ ah=>lA 3 ah ae λ ai=>bB .add 3 ai (i 1) λ aj=>cE (λ K2=>fA 129 f 0 λ ak=>lA 3 ak ae λ al=>bB .eql 3 al (i 1) λ am=>
 cV am (nC t0 λ an=>fA 122 an 3 λ ao=>lA 28 ao (drew ae) λ ap=>fA 129 f 1 λ aq=>lA 3 aq (drew ae) λ ar=>nC t0 λ asx=>fA 122 asx 6 λ au=>lA 3 au (drew ae) λ av=>
 iA 28 ap ar λ aw=>sA 3 aw av (drew ae) λ ax=>K2 aj ax) (bB .eql 3 al (i 11) λ ay=>cV ay (fA 129 f 5 λ az=>lA 3 az ae λ a0=>K2 a0 ae) (bB .eql 3 al (i 12) λ a1=>cV a1 (
 nC t0 λ a2=>fA 122 a2 6 λ a3=>lA 3 a3 ae λ a4=>bB .eql 3 a4 (i 0) λ a5=>cV a5 (fA 129 f 5 λ a6=>lA 3 a6 ae λ a7=>K2 a7 ae) (K2 aj ae)) (bB .eql 3 al (i 13) λ a8=>
 cV a8 (nC t0 λ a9=>fA 122 a9 4 λ ba=>lA 28 ba (drew ae) λ bb=>fA 129 f 1 λ bc=>lA 3 bc (drew ae) λ bd=>fA 129 f 2 λ be=>lA 3 be (drew ae) λ bf=>iA 28 bb bd λ bg=>
 sA 3 bg bf (drew ae) λ bh=>K2 aj bh) (bB .eql 3 al (i 14) λ bi=>cV bi (nC t0 λ bj=>fA 122 bj 4 λ bk=>lA 28 bk (drew ae) λ bl=>fA 129 f 1 λ bm=>lA 3 bm (drew ae) λ bn=>
 iA 28 bl bn λ bo=>lA 3 bo (drew ae) λ bp=>bB .sub 3 bp (i 1) λ bq=>iA 28 bl bn λ br=>sA 3 br bq (drew ae) λ bs=>nC t0 λ bt=>fA 122 bt 4 λ bu=>lA 28 bu (drew bs) λ bv=>
 fA 129 f 1 λ bw=>lA 3 bw (drew bs) λ bx=>iA 28 bv bx λ bz=>lA 3 bz (drew bs) λ b0=>bB .gtr 3 b0 (i 0) λ b1=>cV b1 (fA 129 f 5 λ b2=>lA 3 b2 (drew bs) λ b3=>K2 b3 (drew bs)) (
 K2 aj (drew bs))) (bB .eql 3 al (i 15) λ b4=>cV b4 (nC t0 λ b5=>fA 122 b5 6 λ b6=>lA 3 b6 ae λ b7=>bB .eql 3 b7 (i 0) λ b8=>cV b8 (nC t0 λ b9=>fA 122 b9 5 λ ca=>
 sA 3 ca (i 1) ae λ cb=>K (.tuple #[]) cb) (K2 aj ae)) (K (.tuple #[]) ae))))))) (λ to5 cc=>∀ _:Env,
 nC t0 λ cd=>fA 122 cd 2 λ ce=>sA 3 ce to5 cc λ cf=>K1 cf))))) (λ K1=>K1 w)
def abY:dB:=λ i=>match i with
 | 10=>.run 0 12
 | 17=>.run 0 10
 | 19=>.run 0 11
 | 20=>.run 0 9
 | _=>.nil
theorem Lp (t0:Value) (h:S122 w K t0):CR 122 [t0] w K:=
 kF 118 abY 0 [] Tryz.func122 h
def S123 (b0:Value):Prop:=
 nC b0 λ a=>fA 197 a 1 λ b=>lA 80 b (drew w) λ c=>lN 80 c λ d=>nC b0 λ e=>fA 197 e 0 λ f=>lA 3 f (drew w) λ g=>bA .geq 3 d g λ h=>K h (drew w)
def abZ:dB:=λ i=>match i with
 | 1=>.run 0 11
 | _=>.nil
theorem Lq (b0:Value) (h:S123 w K b0):CR 123 [b0] w K:=
 kF 13 abZ 4 [.tmp 2] Tryz.func123 h
def S124 (b0 i1:Value):Prop:=
 ji Tryz.prog (Instr.box 109 b0) w λ b2 a=>ji Tryz.prog (Instr.box 3 i1) a λ i3 b=>cE (λ K1=>lA 3 i3 (drew b) λ c=>bB .lss 3 c (i 0) λ d=>cV d (K1 tt (drew b)) (
 lA 3 i3 (drew b) λ e=>lA 109 b2 (drew b) λ f=>nC f λ g=>fA 197 g 1 λ h=>lA 80 h (drew b) λ j=>lN 80 j λ k=>bA .geq 3 e k λ l=>K1 l (drew b))) (λ n o=>∀ _:Env,
 cV n (K ff o) (lA 109 b2 (drew o) λ p=>nC p λ q=>fA 197 q 1 λ r=>lA 80 r (drew o) λ s=>lA 3 i3 (drew o) λ t=>dW Tryz.prog (Instr.sliceAt 80 s none (some t) none) λ u=>
 cF 192 [u,(.func (Go.Fn.func 190) [].toArray [b2,i3].toArray)] (drew o) λ v x=>dW Tryz.prog (Op.unary .not v) λ y=>K y x))
def ab0:dB:=λ i=>match i with
 | 1=>.run 0 11
 | 4=>.run 0 10
 | _=>.nil
theorem Lr (b0 i1:Value) (h:S124 w K b0 i1):CR 124 [b0,i1] w K:=
 kF 27 ab0 16 [.tmp 4] Tryz.func124 h
def P128:dB:=λ i=>match i with
 | 6=>(.of [(0,[]),(1,[]),(2,[]),(3,[]),(4,[]),(5,[]),(6,[]),(7,[]),(8,[]),(9,[]),(10,[]),(11,[]),(12,[]),(13,[]),(14,[3,8,10]),(15,[3]),(16,[])])
 | _=>.nil
def ab1:dB:=λ i=>match i with
 | 6=>.run 0 18
 | 14=>(.op 0 [] (.op 1 [] (.op 2 [] (.op 3 [] (.op 4 [] (.op 5 [] (.op 6 [] (.op 7 [] (.op 8 [] (.op 9 [] (.alt 10 [1,4,6,9] (.of [(11,[1,4,6,9]),(12,[6,9]),(13,[])]) (.alt 11 [1,4,6,9] (.of [(10,[1,4,6,9]),(12,[6,9]),(13,[])]) .stop))))))))))))
 | _=>.nil
def S140 (l0 many1:Value):Prop:=
 jS (λ K1 i5 a=>∀ _:Env,
 lN 99 l0 λ b=>bA .lss 3 i5 b λ c=>cV c (iA 99 l0 i5 λ d=>fA 200 d 0 λ e=>lA 3 e (drew a) λ f=>iA 99 l0 i5 λ g=>fA 200 g 1 λ h=>lA 3 h (drew a) λ j=>cE (λ K2=>
 bB .lss 3 f (i 1) λ k=>cV k (K2 tt (drew a)) (bB .gtr 3 f (i 15) λ l=>cV l (K2 tt (drew a)) (bB .eql 3 f (i 1) λ n=>cV n (bB .lss 3 j (i 0) λ o=>cV o (K2 tt (drew a)) (
 bB .gtr 3 j (i 4294967296) λ p=>cV p (K2 tt (drew a)) (bB .eql 3 f (i 2) λ q=>cV q (bB .lss 3 j (i 0) λ r=>cV r (K2 tt (drew a)) (bA .geq 3 j many1 λ s=>cV s (K2 tt (drew a)) (
 bB .gtr 3 f (i 2) λ t=>cV t (bB .neq 3 j (i 0) λ u=>K2 u (drew a)) (K2 ff (drew a))))) (bB .gtr 3 f (i 2) λ v=>cV v (bB .neq 3 j (i 0) λ x=>K2 x (drew a)) (K2 ff (drew a)))))) (
 bB .eql 3 f (i 2) λ y=>cV y (bB .lss 3 j (i 0) λ z=>cV z (K2 tt (drew a)) (bA .geq 3 j many1 λ aa=>cV aa (K2 tt (drew a)) (bB .gtr 3 f (i 2) λ ab=>cV ab (bB .neq 3 j (i 0) λ ac=>
 K2 ac (drew a)) (K2 ff (drew a))))) (bB .gtr 3 f (i 2) λ ad=>cV ad (bB .neq 3 j (i 0) λ ae=>K2 ae (drew a)) (K2 ff (drew a))))))) (λ af ag=>∀ _:Env,
 cV af (K ff ag) (bB .add 3 i5 (i 1) λ ah=>K1 ah ag))) (cE (λ K3=>lN 99 l0 λ ai=>bB .geq 3 ai (i 1) λ aj=>cV aj (lN 99 l0 λ ak=>bB .leq 3 ak (i 40) λ al=>cV al (
 lN 99 l0 λ am=>cF 200 [l0,am] a λ an ao=>bB .eql 3 an (i 1) λ ap=>K3 ap ao) (K3 ff a)) (K3 ff a)) (λ aq ar=>∀ _:Env,
 K aq ar))) (λ K1=>K1 (i 0) w)
def ab2:dB:=λ i=>match i with
 | 4=>.run 0 12
 | _=>.nil
theorem Ls (l0 many1:Value) (h:S140 w K l0 many1):CR 140 [l0,many1] w K:=
 kF 78 ab2 16 [.tmp 4] Tryz.func140 h
def S141 (t0:Value):Prop:=
 GI (λ K1 a=>∀ _:Env,
 nC t0 λ b=>fA 145 b 1 λ c=>lA 3 c (drew a) λ d=>nC t0 λ e=>fA 145 e 0 λ f=>fA 33 f 2 λ g=>lA 31 g (drew a) λ h=>lN 31 h λ j=>bA .lss 3 d j λ k=>cV k (nC t0 λ l=>
 fA 145 l 0 λ n=>fA 33 n 2 λ o=>lA 31 o (drew (drew a)) λ p=>nC t0 λ q=>fA 145 q 1 λ r=>lA 3 r (drew (drew a)) λ s=>iA 31 p s λ t=>lA 129 t (drew (drew a)) λ u=>
 aL 129 (drew (drew a)) λ v x=>kA 31 o p x (kA 3 r s x (kA 129 t u x (sA 129 v u x λ y=>fA 129 v 3 λ z=>lA 99 z y λ aa=>cF 151 [t0,aa] y λ ab ac=>xT ab 0 λ ad=>xT ab 1 λ ae=>
 fA 129 v 4 λ af=>lA 99 af ac λ ag=>cF 151 [t0,ag] ac λ ah ai=>xT ah 0 λ _=>xT ah 1 λ aj=>cE (λ K2=>dW Tryz.prog (Op.unary .not ae) λ ak=>cV ak (K2 tt ai) (
 dW Tryz.prog (Op.unary .not aj) λ al=>K2 al ai)) (λ am an=>∀ _:Env,
 cV am (nC t0 λ ao=>fA 145 ao 5 λ ap=>sA 3 ap (i 2) an λ aq=>K (.tuple #[]) aq) (nC t0 λ ar=>fA 145 ar 1 λ asx=>lA 3 asx an λ au=>bB .add 3 au (i 1) λ av=>cE (λ K3=>
 fA 129 v 0 λ aw=>lA 3 aw an λ ax=>bB .eql 3 ax (i 1) λ ay=>cV ay (nC t0 λ az=>fA 145 az 2 λ a0=>lA 28 a0 (drew an) λ a1=>fA 129 v 1 λ a2=>lA 3 a2 (drew an) λ a3=>
 iA 28 a1 a3 λ a4=>sA 3 a4 ad (drew an) λ a5=>K3 av a5) (cE (λ K4=>fA 129 v 0 λ a6=>lA 3 a6 an λ a7=>bB .eql 3 a7 (i 11) λ a8=>cV a8 (K4 tt an) (fA 129 v 0 λ a9=>
 lA 3 a9 an λ ba=>bB .eql 3 ba (i 12) λ bb=>cV bb (bB .eql 3 ad (i 0) λ bc=>K4 bc an) (K4 ff an))) (λ bd be=>∀ _:Env,
 cV bd (fA 129 v 5 λ bf=>lA 3 bf be λ bg=>K3 bg be) (fA 129 v 0 λ bh=>lA 3 bh be λ bi=>bB .eql 3 bi (i 13) λ bj=>cV bj (nC t0 λ bk=>fA 145 bk 3 λ bl=>lA 28 bl (drew be) λ bm=>
 fA 129 v 1 λ bn=>lA 3 bn (drew be) λ bo=>fA 129 v 2 λ bp=>lA 3 bp (drew be) λ bq=>iA 28 bm bo λ br=>sA 3 br bq (drew be) λ bs=>K3 av bs) (fA 129 v 0 λ bt=>lA 3 bt be λ bu=>
 bB .eql 3 bu (i 14) λ bv=>cV bv (nC t0 λ bw=>fA 145 bw 3 λ bx=>lA 28 bx (drew be) λ bz=>fA 129 v 1 λ b0=>lA 3 b0 (drew be) λ b1=>nC t0 λ b2=>fA 145 b2 3 λ b3=>
 lA 28 b3 (drew be) λ b4=>fA 129 v 1 λ b5=>lA 3 b5 (drew be) λ b6=>iA 28 b4 b6 λ b7=>lA 3 b7 (drew be) λ b8=>bB .sub 3 b8 (i 1) λ b9=>iA 28 bz b1 λ ca=>sA 3 ca b9 (drew be) λ cb=>
 nC t0 λ cc=>fA 145 cc 3 λ cd=>lA 28 cd (drew cb) λ ce=>fA 129 v 1 λ cf=>lA 3 cf (drew cb) λ cg=>iA 28 ce cg λ ch=>lA 3 ch (drew cb) λ ci=>bB .gtr 3 ci (i 0) λ cj=>
 cV cj (fA 129 v 5 λ ck=>lA 3 ck (drew cb) λ cl=>K3 cl (drew cb)) (K3 av (drew cb))) (cE (λ K5=>fA 129 v 0 λ cm=>lA 3 cm be λ cn=>bB .eql 3 cn (i 15) λ co=>cV co (
 bB .eql 3 ad (i 0) λ cp=>K5 cp be) (K5 ff be)) (λ cq cr=>∀ _:Env,
 cV cq (nC t0 λ cs=>fA 145 cs 5 λ ct=>sA 3 ct (i 1) cr λ cu=>K (.tuple #[]) cu) (cE (λ K6=>fA 129 v 0 λ cv=>lA 3 cv cr λ cw=>bB .neq 3 cw (i 12) λ cx=>cV cx (
 fA 129 v 0 λ cy=>lA 3 cy cr λ cz=>bB .neq 3 cz (i 15) λ c0=>K6 c0 cr) (K6 ff cr)) (λ c1 c2=>∀ _:Env,
 cV c1 (K (.tuple #[]) c2) (K3 av c2)))))))))) (λ to7 c3=>∀ _:Env,
 nC t0 λ c4=>fA 145 c4 1 λ c5=>sA 3 c5 to7 c3 λ c6=>K1 c6))))))) (K (.tuple #[]) (drew a))) (λ K1=>K1 w)
def ab3:dB:=λ i=>match i with
 | 0=>.run 0 11
 | 1=>(.of [(0,[]),(1,[]),(2,[]),(3,[]),(4,[]),(5,[]),(6,[]),(7,[]),(8,[]),(9,[]),(10,[]),(11,[4,8,10]),(12,[])])
 | 8=>.run 0 9
 | 12=>.run 0 10
 | 14=>.run 0 17
 | 15=>.run 0 9
 | _=>.nil
theorem Lt (t0:Value) (h:S141 w K t0):CR 141 [t0] w K:=
 kF 147 ab3 0 [] Tryz.func141 h
def S142 (l0 ot:Value):Prop:=
 lN 28 ot λ a=>cF 140 [l0,a] w λ b c=>dW Tryz.prog (Op.unary .not b) λ d=>cV d (K (.tuple #[(i 0),(i 8)]) c) (bS 28 0 [] c λ e f=>l7 (λ K1 p6 i7 g=>∀ _:Env,
 lN 99 l0 λ h=>bA .lss 3 i7 h λ j=>cV j (cE (λ K2=>iA 99 l0 i7 λ k=>fA 200 k 0 λ l=>lA 3 l g λ n=>lN 28 p6 λ o=>bB .sub 3 o (i 1) λ p=>bB .eql 3 n (i 1) λ q=>
 cV q (iA 99 l0 i7 λ r=>fA 200 r 1 λ s=>lA 3 s g λ t=>bS 28 1 [(0,t)] g λ u v=>aP 28 p6 u v λ x y=>K2 x y) (bB .eql 3 n (i 2) λ z=>cV z (iA 99 l0 i7 λ aa=>fA 200 aa 1 λ ab=>
 lA 3 ab g λ ac=>iA 28 ot ac λ ad=>lA 3 ad g λ ae=>bS 28 1 [(0,ae)] g λ af ag=>aP 28 p6 af ag λ ah ai=>K2 ah ai) (cE (λ K3=>bB .eql 3 n (i 3) λ aj=>cV aj (
 K3 tt g) (bB .eql 3 n (i 4) λ ak=>K3 ak g)) (λ al am=>∀ _:Env,
 cV al (iA 28 p6 p λ an=>lA 3 an am λ ao=>cF 201 [n,ao] am λ ap aq=>xT ap 0 λ ar=>xT ap 1 λ _=>iA 28 p6 p λ asx=>sA 3 asx ar aq λ au=>K2 p6 au) (bB .sub 3 p (i 1) λ av=>
 iA 28 p6 av λ aw=>lA 3 aw (drew am) λ ax=>iA 28 p6 p λ ay=>lA 3 ay (drew am) λ az=>cF 202 [n,ax,az] (drew am) λ a0 a1=>xT a0 0 λ a2=>xT a0 1 λ a3=>bB .neq 37 a3 (i 0) λ a4=>
 cV a4 (K (.tuple #[(i 0),a3]) a1) (dW Tryz.prog (Instr.sliceAt 28 p6 none (some p) none) λ a5=>bB .sub 3 p (i 1) λ a6=>iA 28 a5 a6 λ a7=>sA 3 a7 a2 a1 λ a8=>K2 a5 a8))))))
 (λ ab4 a9=>∀ _:Env,
 bB .add 3 i7 (i 1) λ ba=>K1 ab4 ba a9)) (iA 28 p6 (i 0) λ bb=>lA 3 bb g λ bc=>K (.tuple #[bc,(i 0)]) g)) (λ K1=>K1 e (i 0) f))
def ab5:dB:=λ i=>match i with
 | 15=>.run 0 16
 | _=>.nil
theorem Lu (l0 ot:Value) (h:S142 w K l0 ot):CR 142 [l0,ot] w K:=
 kF 104 ab5 48 [.tmp 4,.tmp 5] Tryz.func142 h
def S146 (b0 i1:Value):Prop:=
 cE (λ K1=>bB .lss 3 i1 (i 0) λ a=>cV a (K1 tt w) (nC b0 λ b=>fA 148 b 1 λ c=>lA 80 c w λ d=>lN 80 d λ e=>bA .geq 3 i1 e λ f=>K1 f w)) (λ g h=>∀ _:Env,
 cV g (K ff h) (jS (λ K2 k5 j=>∀ _:Env,
 bA .lss 3 k5 i1 λ k=>cV k (nC b0 λ l=>fA 148 l 1 λ n=>lA 80 n (drew j) λ o=>iA 80 o i1 λ p=>lA 161 p (drew j) λ q=>nC b0 λ r=>fA 148 r 1 λ s=>lA 80 s (drew j) λ t=>
 iA 80 t k5 λ u=>lA 161 u (drew j) λ v=>cF 203 [q,v] (drew j) λ x y=>dW Tryz.prog (Op.unary .not x) λ z=>cV z (K ff y) (bB .add 3 k5 (i 1) λ aa=>K2 aa y)) (K tt j))
 (λ K2=>K2 (i 0) h)))
def ab6:dB:=λ i=>match i with
 | 6=>.run 0 16
 | _=>.nil
theorem Lv (b0 i1:Value) (h:S146 w K b0 i1):CR 146 [b0,i1] w K:=
 kF 38 ab6 16 [.tmp 4] Tryz.func146 h
theorem N1:PL 110:=eM Tryz.func110
theorem UR:PL 111:=eM Tryz.func111
theorem N2:PL 112:=eM Tryz.func112
theorem US:PL 113:=eM Tryz.func113
theorem UT:PL 114:=eM Tryz.func114
theorem UU:PL 115:=eM Tryz.func115
theorem DW:PL 116:=eM Tryz.func116
theorem UW:PL 117:=eM Tryz.func117
theorem UX:PL 118:=eM Tryz.func118
theorem UY:PL 119:=eM Tryz.func119
theorem N3:PL 120:=eM Tryz.func120
theorem GW:PL 121:=eM Tryz.func121
theorem U1:PL 122:=eM Tryz.func122
theorem U3:PL 123:=eM Tryz.func123
theorem U4:PL 124:=eM Tryz.func124
theorem U5:PL 136:=eM Tryz.func136
theorem N4:PL 138:=eM Tryz.func138
theorem N5:PL 139:=eM Tryz.func139
theorem uR:PL 140:=eM Tryz.func140
theorem U6:PL 141:=eM Tryz.func141
theorem N6:PL 142:=eM Tryz.func142
theorem U7:PL 146:=eM Tryz.func146
variable (w:World) (K:Value->World->Prop)
def S151 (t0 l1:Value):Prop:=
 lN 99 l1 λ a=>bB .eql 3 a (i 0) λ b=>cV b (K (.tuple #[(i 0),tt]) w) (nC t0 λ c=>fA 145 c 2 λ d=>lA 28 d w λ e=>cF 142 [l1,e] w λ f g=>xT f 0 λ h=>xT f 1 λ j=>
 bB .eql 37 j (i 0) λ k=>K (.tuple #[h,k]) g)
theorem Lw (t0 l1:Value) (h:S151 w K t0 l1):CR 151 [t0,l1] w K:=
 kF 23 (λ _=>.nil) 48 [.tmp 4,.tmp 5] Tryz.func151 h
def S154 (s0:Value):Prop:=
 bB .eql 80 s0 (.slice none 0 0) λ a=>cV a (K (.slice none 0 0) w) (bS 80 0 [] w λ b c=>aP 80 b s0 c λ d e=>K d e)
theorem Lx (s0:Value) (h:S154 w K s0):CR 154 [s0] w K:=
 kF 8 (λ _=>.nil) 4 [.tmp 2] Tryz.func154 h
def P165:dB:=λ i=>match i with
 | 1=>.run 0 17
 | _=>.nil
def ab7:dB:=λ i=>match i with
 | 1=>.run 0 15
 | _=>.nil
def S173 (ou a1:Value):Prop:=
 bB .eql 3 ou (i 3) λ a=>cV a (dW Tryz.prog (Op.unary .neg a1) λ b=>K (.tuple #[b,(i 0)]) w) (bB .eql 3 ou (i 4) λ c=>cV c (cF 218 [a1] w λ d e=>dW Tryz.prog (Op.unary .not d) λ f=>
 cF 217 [f] e λ g h=>K (.tuple #[g,(i 0)]) h) (K (.tuple #[(i 0),(i 1)]) w))
theorem Ly (ou a1:Value) (h:S173 w K ou a1):CR 173 [ou,a1] w K:=
 kF 17 (λ _=>.nil) 48 [.tmp 4,.tmp 5] Tryz.func173 h
def ab8:dB:=λ i=>match i with
 | 1=>.run 0 13
 | 2=>.run 0 15
 | _=>.nil
def S175 (ou a1 b2:Value):Prop:=
 cE (λ K1=>bB .lss 3 ou (i 0) λ a=>cV a (K1 tt w) (bB .geq 3 ou (i 16) λ b=>K1 b w)) (λ c d=>∀ _:Env,
 cV c (K (.tuple #[(i 0),(i 1)]) d) (cF 219 [] d λ e f=>dW Tryz.prog (Instr.index 289 e ou) λ g=>bB .eql 288 g .nilFunc λ h=>cV h (K (.tuple #[(i 0),(i 1)]) f) (cE (λ K2=>
 bB .eql 3 ou (i 8) λ j=>cV j (bB .eql 3 b2 (i 0) λ k=>K2 k f) (bB .eql 3 ou (i 9) λ l=>cV l (bB .eql 3 b2 (i 0) λ n=>K2 n f) (K2 ff f))) (λ o p=>∀ _:Env,
 cV o (K (.tuple #[(i 0),(i 12)]) p) (gi Tryz.prog g [a1,b2] p λ q r=>K (.tuple #[q,(i 0)]) r)))))
theorem Lz (ou a1 b2:Value) (h:S175 w K ou a1 b2):CR 175 [ou,a1,b2] w K:=
 kF 36 (λ _=>.nil) 192 [.tmp 6,.tmp 7] Tryz.func175 h
def ab9:dB:=λ i=>match i with
 | 1=>(.of [(1,[]),(2,[]),(5,[]),(0,[2]),(3,[]),(4,[]),(6,[]),(7,[])])
 | _=>.nil
def S180 (l0 i1:Value):Prop:=
 iA 31 l0 i1 λ a=>lA 129 a w λ b=>aL 129 w λ c d=>sA 129 c b d λ e=>cE (λ K1=>fA 129 c 5 λ f=>lA 3 f (drew e) λ g=>bB .lss 3 g (i 1) λ h=>cV h (K1 tt (drew e)) (
 fA 129 c 5 λ j=>lA 3 j (drew e) λ k=>bA .gtr 3 k i1 λ l=>cV l (K1 tt (drew e)) (fA 129 c 5 λ n=>lA 3 n (drew e) λ o=>bB .sub 3 o (i 1) λ p=>iA 31 l0 p λ q=>fA 129 q 0 λ r=>
 lA 3 r (drew e) λ s=>bB .neq 3 s (i 13) λ t=>cV t (K1 tt (drew e)) (fA 129 c 5 λ u=>lA 3 u (drew e) λ v=>bB .sub 3 v (i 1) λ x=>iA 31 l0 x λ y=>fA 129 y 1 λ z=>
 lA 3 z (drew e) λ aa=>fA 129 c 1 λ ab=>lA 3 ab (drew e) λ ac=>bA .neq 3 aa ac λ ad=>K1 ad (drew e))))) (λ ae af=>∀ _:Env,
 cV ae (K ff af) (fA 129 c 5 λ ag=>lA 3 ag af λ ah=>dW Tryz.prog (Instr.sliceAt 31 l0 (some ah) (some i1) none) λ ai=>cF 221 [ai,(.func (Go.Fn.func 222) [].toArray [c].toArray)] af λ aj ak=>
 dW Tryz.prog (Op.unary .not aj) λ al=>K al ak))
def aca:dB:=λ i=>match i with
 | 2=>.run 0 31
 | _=>.nil
theorem LA (l0 i1:Value) (h:S180 w K l0 i1):CR 180 [l0,i1] w K:=
 kF 49 aca 16 [.tmp 4] Tryz.func180 h
def S181 (l0:Value):Prop:=
 lN 31 l0 λ a=>l7 (λ K1 qN b c=>∀ _:Env,
 bA .lss 3 b a λ d=>cV d (cE (λ K2=>iA 31 l0 b λ e=>lA 129 e c λ f=>aL 129 c λ g h=>sA 129 g f h λ j=>fA 129 g 0 λ k=>lA 3 k j λ l=>bB .neq 3 l (i 14) λ n=>
 cV n (K2 qN j) (fA 129 g 5 λ o=>lA 3 o j λ p=>bB .sub 3 p (i 1) λ q=>lN 28 qN λ r=>jS (λ K3 s t=>∀ _:Env,
 bA .lss 3 s r λ u=>cV u (iA 28 qN s λ v=>lA 3 v t λ x=>iA 31 l0 x λ y=>fA 129 y 5 λ z=>lA 3 z t λ aa=>bB .sub 3 aa (i 1) λ ab=>cE (λ K4=>bA .lss 3 ab q λ ac=>
 cV ac (bA .geq 3 x q λ ad=>K4 ad t) (K4 ff t)) (λ ae af=>∀ _:Env,
 cV ae (K ff af) (bB .add 3 s (i 1) λ ag=>K3 ag af))) (bS 28 1 [(0,b)] t λ ah ai=>aP 28 qN ah ai λ aj ak=>K2 aj ak)) (λ K3=>K3 (i 0) j))) (λ ud al=>∀ _:Env,
 bB .add 3 b (i 1) λ am=>K1 ud am al)) (K tt c)) (λ K1=>K1 (.slice none 0 0) (i 0) w)
theorem LB (l0:Value) (h:S181 w K l0):CR 181 [l0] w K:=
 kF 49 (λ _=>.nil) 4 [.tmp 2] Tryz.func181 h
def S189 (t0 l1:Value):Prop:=
 lN 99 l1 λ a=>bB .eql 3 a (i 0) λ b=>cV b (K (.tuple #[(i 0),tt]) w) (nC t0 λ c=>fA 122 c 3 λ d=>lA 28 d w λ e=>cF 110 [l1,e] w λ f g=>xT f 0 λ h=>xT f 1 λ j=>
 xn (λ K1=>bB .neq 37 j (i 0) λ k=>cV k (nC t0 λ l=>fA 122 l 5 λ n=>sA 3 n (i 2) g λ o=>K1 o) (K1 g)) (λ p=>∀ _:Env,
 bB .eql 37 j (i 0) λ q=>K (.tuple #[h,q]) p))
theorem LC (t0 l1:Value) (h:S189 w K t0 l1):CR 189 [t0,l1] w K:=
 kF 28 (λ _=>.nil) 48 [.tmp 4,.tmp 5] Tryz.func189 h
def S190 (yx a b:Value):Prop:=
 ji Tryz.prog (Instr.box 161 yx) w λ sH c=>lA 109 a (drew c) λ d=>nC d λ e=>fA 197 e 1 λ f=>lA 80 f (drew c) λ g=>lA 3 b (drew c) λ h=>iA 80 g h λ j=>
 lA 161 j (drew c) λ k=>lA 161 sH (drew c) λ l=>cF 191 [k,l] (drew c) λ n o=>dW Tryz.prog (Op.unary .not n) λ p=>K p o
def acb:dB:=λ i=>match i with
 | 1=>.run 0 11
 | _=>.nil
theorem LD (yx x1 x2:Value) (h:S190 w K yx x1 x2):CR 190 [yx,x1,x2] w K:=
 kF 15 acb 16 [.tmp 4] Tryz.func190 h
def S191 (a yz:Value):Prop:=
 ji Tryz.prog (Instr.box 161 a) w λ b c=>ji Tryz.prog (Instr.box 161 yz) c λ sH d=>cE (λ K1=>fA 161 b 0 λ e=>lA 3 e d λ f=>bB .eql 3 f (i 7) λ g=>cV g (
 K1 tt d) (fA 161 sH 0 λ h=>lA 3 h d λ j=>bB .eql 3 j (i 7) λ k=>K1 k d)) (λ QZ l=>∀ _:Env,
 cE (λ K2=>dW Tryz.prog (Op.unary .not QZ) λ n=>cV n (fA 161 b 0 λ o=>lA 3 o l λ p=>bB .eql 3 p (i 6) λ q=>cV q (fA 161 b 1 λ r=>lA 3 r l λ s=>fA 161 sH 1 λ t=>
 lA 3 t l λ u=>bA .neq 3 s u λ v=>K2 v l) (fA 161 sH 0 λ x=>lA 3 x l λ y=>bB .eql 3 y (i 6) λ z=>cV z (fA 161 b 1 λ aa=>lA 3 aa l λ ab=>fA 161 sH 1 λ ac=>
 lA 3 ac l λ ad=>bA .neq 3 ab ad λ ae=>K2 ae l) (K2 ff l))) (K2 ff l)) (λ af ag=>∀ _:Env,
 K af ag))
theorem LF (x0 yz:Value) (h:S191 w K x0 yz):CR 191 [x0,yz] w K:=
 kF 33 (λ _=>.nil) 16 [.tmp 4] Tryz.func191 h
def S192 (s0 f1:Value):Prop:=
 cF 224 [s0,f1] w λ a b=>bB .geq 3 a (i 0) λ c=>K c b
theorem LG (s0 f1:Value) (h:S192 w K s0 f1):CR 192 [s0,f1] w K:=
 kF 9 (λ _=>.nil) 16 [.tmp 4] Tryz.func192 h
def acd:dB:=λ i=>match i with
 | 2=>.run 0 8
 | _=>.nil
def S198 (l0 i1:Value):Prop:=
 iA 31 l0 i1 λ a=>lA 129 a w λ b=>aL 129 w λ c d=>sA 129 c b d λ e=>cE (λ K1=>fA 129 c 0 λ f=>lA 3 f e λ g=>bB .eql 3 g (i 11) λ h=>cV h (K1 tt e) (fA 129 c 0 λ j=>
 lA 3 j e λ k=>bB .eql 3 k (i 12) λ l=>K1 l e)) (λ n o=>∀ _:Env,
 cV n (cE (λ K2=>fA 129 c 5 λ p=>lA 3 p o λ q=>bA .gtr 3 q i1 λ r=>cV r (fA 129 c 5 λ s=>lA 3 s o λ t=>lN 31 l0 λ u=>bA .leq 3 t u λ v=>K2 v o) (K2 ff o))
 (λ x y=>∀ _:Env,
 K x y)) (fA 129 c 0 λ z=>lA 3 z o λ aa=>bB .neq 3 aa (i 14) λ ab=>cV ab (fA 129 c 5 λ ac=>lA 3 ac o λ ad=>bB .eql 3 ad (i 0) λ ae=>K ae o) (cE (λ K3=>fA 129 c 5 λ af=>
 lA 3 af (drew o) λ ag=>bB .lss 3 ag (i 1) λ ah=>cV ah (K3 tt (drew o)) (fA 129 c 5 λ ai=>lA 3 ai (drew o) λ aj=>bA .gtr 3 aj i1 λ ak=>cV ak (K3 tt (drew o)) (fA 129 c 5 λ al=>
 lA 3 al (drew o) λ am=>bB .sub 3 am (i 1) λ an=>iA 31 l0 an λ ao=>fA 129 ao 0 λ ap=>lA 3 ap (drew o) λ aq=>bB .neq 3 aq (i 13) λ ar=>cV ar (K3 tt (drew o)) (fA 129 c 5 λ asx=>
 lA 3 asx (drew o) λ au=>bB .sub 3 au (i 1) λ av=>iA 31 l0 av λ aw=>fA 129 aw 1 λ ax=>lA 3 ax (drew o) λ ay=>fA 129 c 1 λ az=>lA 3 az (drew o) λ a0=>bA .neq 3 ay a0 λ a1=>
 K3 a1 (drew o))))) (λ a2 a3=>∀ _:Env,
 cV a2 (K ff a3) (fA 129 c 5 λ a4=>lA 3 a4 a3 λ a5=>jS (λ K4 k6 a6=>∀ _:Env,
 bA .lss 3 k6 i1 λ a7=>cV a7 (cE (λ K5=>iA 31 l0 k6 λ a8=>fA 129 a8 0 λ a9=>lA 3 a9 (drew a6) λ ba=>bB .eql 3 ba (i 13) λ bb=>cV bb (iA 31 l0 k6 λ bc=>fA 129 bc 1 λ bd=>
 lA 3 bd (drew a6) λ be=>fA 129 c 1 λ bf=>lA 3 bf (drew a6) λ bg=>bA .eql 3 be bg λ bh=>K5 bh (drew a6)) (K5 ff (drew a6))) (λ bi bj=>∀ _:Env,
 cV bi (K ff bj) (bB .add 3 k6 (i 1) λ bk=>K4 bk bj))) (K tt a6)) (λ K4=>K4 a5 a3))))))
def ace:dB:=λ i=>match i with
 | 6=>.run 0 31
 | 11=>.run 0 16
 | _=>.nil
theorem LH (l0 i1:Value) (h:S198 w K l0 i1):CR 198 [l0,i1] w K:=
 kF 90 ace 16 [.tmp 4] Tryz.func198 h
def S200 (l0 k1:Value):Prop:=
 l7 (λ K1 n5 i6 a=>∀ _:Env,
 bA .lss 3 i6 k1 λ b=>cV b (cE (λ K2=>cE (λ K3=>iA 99 l0 i6 λ c=>fA 200 c 0 λ d=>lA 3 d a λ e=>bB .eql 3 e (i 3) λ f=>cV f (K3 tt a) (iA 99 l0 i6 λ g=>
 fA 200 g 0 λ h=>lA 3 h a λ j=>bB .eql 3 j (i 4) λ k=>K3 k a)) (λ l n=>∀ _:Env,
 cV l (bB .sub 3 n5 (i 1) λ o=>K2 o n) (K2 n5 n))) (λ U8 p=>∀ _:Env,
 cE (λ K4=>cE (λ K5=>iA 99 l0 i6 λ q=>fA 200 q 0 λ r=>lA 3 r p λ s=>bB .geq 3 s (i 5) λ t=>cV t (iA 99 l0 i6 λ u=>fA 200 u 0 λ v=>lA 3 v p λ x=>bB .leq 3 x (i 15) λ y=>
 K5 y p) (K5 ff p)) (λ z aa=>∀ _:Env,
 cV z (bB .sub 3 U8 (i 2) λ ab=>K4 ab aa) (K4 U8 aa))) (λ GX ac=>∀ _:Env,
 bB .lss 3 GX (i 0) λ ad=>cV ad (K (i (-1)) ac) (bB .add 3 GX (i 1) λ ae=>bB .add 3 i6 (i 1) λ af=>K1 ae af ac)))) (K n5 a)) (λ K1=>K1 (i 0) (i 0) w)
theorem LI (l0 k1:Value) (h:S200 w K l0 k1):CR 200 [l0,k1] w K:=
 kF 49 (λ _=>.nil) 16 [.tmp 4] Tryz.func200 h
theorem N7:PL 151:=eM Tryz.func151
theorem U9:PL 154:=eM Tryz.func154
theorem N9:PL 171:=eM Tryz.func171
theorem DX:PL 172:=eM Tryz.func172
theorem Va:PL 173:=eM Tryz.func173
theorem DY:PL 174:=eM Tryz.func174
theorem Vb:PL 175:=eM Tryz.func175
theorem l9:PL 176:=eM Tryz.func176
theorem lC:PL 177:=eM Tryz.func177
theorem Vc:PL 178:=eM Tryz.func178
theorem Ac:PL 179:=eM Tryz.func179
theorem Vd:PL 180:=eM Tryz.func180
theorem Ve:PL 181:=eM Tryz.func181
theorem Vf:PL 182:=eM Tryz.func182
theorem Vg:PL 183:=eM Tryz.func183
theorem Vh:PL 184:=eM Tryz.func184
theorem Vi:PL 185:=eM Tryz.func185
theorem Vj:PL 186:=eM Tryz.func186
theorem Vk:PL 187:=eM Tryz.func187
theorem Vl:PL 188:=eM Tryz.func188
theorem Oa:PL 189:=eM Tryz.func189
theorem Vm:PL 190:=eM Tryz.func190
theorem Vn:PL 191:=eM Tryz.func191
theorem Vo:PL 192:=eM Tryz.func192
theorem Vp:PL 197:=eM Tryz.func197
theorem Vq:PL 198:=eM Tryz.func198
theorem Vr:PL 199:=eM Tryz.func199
theorem Vs:PL 200:=eM Tryz.func200
variable (w:World) (K:Value->World->Prop)
def S201 (ou a1:Value):Prop:=
 bB .eql 3 ou (i 3) λ a=>cV a (bC .sub 3 (i 0) a1 λ b=>K (.tuple #[b,(i 0)]) w) (bB .eql 3 ou (i 4) λ c=>cV c (bB .eql 3 a1 (i 0) λ d=>cF 228 [d] w λ e f=>K (.tuple #[e,(i 0)]) f) (
 K (.tuple #[(i 0),(i 1)]) w))
theorem LJ (ou a1:Value) (h:S201 w K ou a1):CR 201 [ou,a1] w K:=
 kF 15 (λ _=>.nil) 48 [.tmp 4,.tmp 5] Tryz.func201 h
def S202 (ou a1 b2:Value):Prop:=
 bB .eql 3 ou (i 5) λ a=>cV a (bA .add 3 a1 b2 λ b=>K (.tuple #[b,(i 0)]) w) (bB .eql 3 ou (i 6) λ c=>cV c (bA .sub 3 a1 b2 λ d=>K (.tuple #[d,(i 0)]) w) (bB .eql 3 ou (i 7) λ e=>
 cV e (bA .mul 3 a1 b2 λ f=>K (.tuple #[f,(i 0)]) w) (bB .eql 3 ou (i 8) λ g=>cV g (bB .eql 3 b2 (i 0) λ h=>cV h (K (.tuple #[(i 0),(i 12)]) w) (cF 229 [a1,b2] w λ j k=>
 K (.tuple #[j,(i 0)]) k)) (bB .eql 3 ou (i 9) λ l=>cV l (bB .eql 3 b2 (i 0) λ n=>cV n (K (.tuple #[(i 0),(i 12)]) w) (cF 229 [a1,b2] w λ o p=>bA .mul 3 b2 o λ q=>bA .sub 3 a1 q λ r=>
 K (.tuple #[r,(i 0)]) p)) (bB .eql 3 ou (i 10) λ s=>cV s (bA .eql 3 a1 b2 λ t=>cF 228 [t] w λ u v=>K (.tuple #[u,(i 0)]) v) (bB .eql 3 ou (i 11) λ x=>cV x (bA .neq 3 a1 b2 λ y=>
 cF 228 [y] w λ z aa=>K (.tuple #[z,(i 0)]) aa) (bB .eql 3 ou (i 12) λ ab=>cV ab (bA .lss 3 a1 b2 λ ac=>cF 228 [ac] w λ ad ae=>K (.tuple #[ad,(i 0)]) ae) (bB .eql 3 ou (i 13) λ af=>
 cV af (bA .leq 3 a1 b2 λ ag=>cF 228 [ag] w λ ah ai=>K (.tuple #[ah,(i 0)]) ai) (bB .eql 3 ou (i 14) λ aj=>cV aj (GJ (λ K1=>bB .neq 3 a1 (i 0) λ ak=>cV ak (bB .neq 3 b2 (i 0) λ al=>
 cF 228 [al] w λ am an=>K1 am (i 0) an) (cF 228 [ff] w λ ao ap=>K1 ao (i 0) ap)) (λ aq ar asx=>∀ _:Env,
 K (.tuple #[aq,ar]) asx)) (bB .eql 3 ou (i 15) λ au=>cV au (GJ (λ K2=>bB .neq 3 a1 (i 0) λ av=>cV av (cF 228 [tt] w λ aw ax=>K2 aw (i 0) ax) (bB .neq 3 b2 (i 0) λ ay=>
 cF 228 [ay] w λ az a0=>K2 az (i 0) a0)) (λ a2 a3 a4=>∀ _:Env,
 K (.tuple #[a2,a3]) a4)) (K (.tuple #[(i 0),(i 1)]) w)))))))))))
theorem LK (ou a1 b2:Value) (h:S202 w K ou a1 b2):CR 202 [ou,a1,b2] w K:=
 kF 84 (λ _=>.nil) 192 [.tmp 6,.tmp 7] Tryz.func202 h
def S203 (a y1:Value):Prop:=
 ji Tryz.prog (Instr.box 161 a) w λ b c=>ji Tryz.prog (Instr.box 161 y1) c λ y3 d=>cE (λ K1=>fA 161 b 0 λ e=>lA 3 e d λ f=>bB .eql 3 f (i 7) λ g=>cV g (K1 tt d) (
 fA 161 y3 0 λ h=>lA 3 h d λ j=>bB .eql 3 j (i 7) λ k=>cV k (K1 tt d) (fA 161 b 1 λ l=>lA 3 l d λ n=>fA 161 y3 1 λ o=>lA 3 o d λ p=>bA .eql 3 n p λ q=>K1 q d)))
 (λ r s=>∀ _:Env,
 cV r (K ff s) (cE (λ K2=>fA 161 b 0 λ t=>lA 3 t s λ u=>bB .eql 3 u (i 6) λ v=>cV v (K2 tt s) (fA 161 y3 0 λ x=>lA 3 x s λ y=>bB .eql 3 y (i 6) λ z=>K2 z s))
 (λ aa ab=>∀ _:Env,
 K aa ab)))
theorem LL (x0 y1:Value) (h:S203 w K x0 y1):CR 203 [x0,y1] w K:=
 kF 28 (λ _=>.nil) 16 [.tmp 4] Tryz.func203 h
def S219:Prop:=
 aL 289 w λ a b=>aL 289 b λ l1 c=>iA 289 l1 (i 5) λ d=>sA 288 d (.func (.func 238) #[] #[]) c λ e=>iA 289 l1 (i 6) λ f=>sA 288 f (.func (.func 239) #[] #[]) e λ g=>
 iA 289 l1 (i 7) λ h=>sA 288 h (.func (.func 240) #[] #[]) g λ j=>iA 289 l1 (i 8) λ k=>sA 288 k (.func (.func 241) #[] #[]) j λ l=>iA 289 l1 (i 9) λ n=>sA 288 n (.func (.func 242) #[] #[]) l λ o=>
 gi Tryz.prog (.func (.func 236) #[] #[]) [(.func (.func 243) #[] #[])] o λ p q=>iA 289 l1 (i 10) λ s=>sA 288 s p q λ t=>gi Tryz.prog (.func (.func 236) #[] #[]) [(.func (.func 244) #[] #[])] t λ u v=>
 iA 289 l1 (i 11) λ x=>sA 288 x u v λ y=>gi Tryz.prog (.func (.func 236) #[] #[]) [(.func (.func 245) #[] #[])] y λ z aa=>iA 289 l1 (i 12) λ ab=>sA 288 ab z aa λ ac=>
 gi Tryz.prog (.func (.func 236) #[] #[]) [(.func (.func 246) #[] #[])] ac λ ad ae=>iA 289 l1 (i 13) λ af=>sA 288 af ad ae λ ag=>gi Tryz.prog (.func (.func 236) #[] #[]) [(.func (.func 247) #[] #[])] ag λ ah ai=>
 iA 289 l1 (i 14) λ aj=>sA 288 aj ah ai λ ak=>gi Tryz.prog (.func (.func 236) #[] #[]) [(.func (.func 248) #[] #[])] ak λ al am=>iA 289 l1 (i 15) λ an=>sA 288 an al am λ ao=>
 lA 289 l1 ao λ ap=>sA 289 a ap ao λ aq=>lA 289 a aq λ r=>K r aq
theorem LM (h:S219 w K):CR 219 [] w K:=
 kF 27 (λ _=>.nil) 1 [.cell 0 289] Tryz.func219 h
def S222 (y0 a:Value):Prop:=
 ji Tryz.prog (Instr.box 129 y0) w λ y2 b=>cE (λ K1=>fA 129 y2 0 λ c=>lA 3 c b λ d=>bB .eql 3 d (i 13) λ e=>cV e (fA 129 y2 1 λ f=>lA 3 f b λ g=>fA 129 a 1 λ h=>
 lA 3 h b λ j=>bA .eql 3 g j λ k=>K1 k b) (K1 ff b)) (λ l n=>∀ _:Env,
 K l n)
theorem LN (y0 x1:Value) (h:S222 w K y0 x1):CR 222 [y0,x1] w K:=
 kF 14 (λ _=>.nil) 8 [.tmp 3] Tryz.func222 h
def S224 (s0 f1:Value):Prop:=
 lN 80 s0 λ a=>jS (λ K1 b c=>∀ _:Env,
 bA .lss 3 b a λ d=>cV d (iA 80 s0 b λ e=>lA 161 e c λ f=>gi Tryz.prog f1 [f] c λ g h=>cV g (K b h) (bB .add 3 b (i 1) λ j=>K1 j h)) (K (i (-1)) c)) (λ K1=>K1 (i 0) w)
theorem LO (s0 f1:Value) (h:S224 w K s0 f1):CR 224 [s0,f1] w K:=
 kF 19 (λ _=>.nil) 16 [.tmp 4] Tryz.func224 h
theorem Ob:PL 201:=eM Tryz.func201
theorem Vt:PL 202:=eM Tryz.func202
theorem Vu:PL 203:=eM Tryz.func203
theorem Vv:PL 216:=eM Tryz.func216
theorem Oc:PL 217:=eM Tryz.func217
theorem Ad:PL 218:=eM Tryz.func218
theorem Vw:PL 219:=eM Tryz.func219
theorem Vx:PL 220:=eM Tryz.func220
theorem Vy:PL 221:=eM Tryz.func221
theorem Vz:PL 222:=eM Tryz.func222
theorem VA:PL 223:=eM Tryz.func223
theorem VB:PL 224:=eM Tryz.func224
theorem Ae:PL 227:=eM Tryz.func227
theorem qO:PL 228:=eM Tryz.func228
theorem Od:PL 229:=eM Tryz.func229
theorem xq:PL 236:=eM Tryz.func236
theorem xr:PL 237:=eM Tryz.func237
theorem VC:PL 238:=eM Tryz.func238
theorem VD:PL 239:=eM Tryz.func239
theorem VE:PL 240:=eM Tryz.func240
theorem VF:PL 241:=eM Tryz.func241
theorem VG:PL 242:=eM Tryz.func242
theorem VH:PL 243:=eM Tryz.func243
theorem VI:PL 244:=eM Tryz.func244
theorem VJ:PL 245:=eM Tryz.func245
theorem VK:PL 246:=eM Tryz.func246
theorem VL:PL 247:=eM Tryz.func247
theorem VM:PL 248:=eM Tryz.func248
theorem VN:PL 249:=eM Tryz.func249
end Go.Proofs.YtnjcingfdhjfkaaGreat
namespace Go.Fw
def ow (w:World) (b:Nat) (cs:List Value):Prop:=∃ ty,w.heap[b]? = some (.cells cs.toArray ty (0,0))
def Cell (w:World) (b o:Nat) (v:Value):Prop:=w.cell? ⟨b,o,none⟩=some v
structure kj (A:Nat->Prop) (w w':World):Prop where
 os:w'.os=w.os
 tape:w'.tape=w.tape
 output:w'.output=w.output
 size:w.heap.size<=w'.heap.size
 cZ:∀ b,b<w.heap.size->¬ A b->w'.heap[b]? = w.heap[b]?
def aZ:Nat->Prop:=λ _=>False
abbrev Ext (w w':World):Prop:=kj aZ w w'
theorem kj.refl (A:Nat->Prop) (w:World):kj A w w:=⟨rfl,rfl,rfl,Nat.le_refl _,λ _ _ _=>rfl⟩
theorem kj.trans {A B C:Nat->Prop} {w w1 w2:World} (h:kj A w w1) (k:kj B w1 w2) (hA:∀ b,A b->C b) (hB:∀ b,b<w.heap.size->B b->C b):kj C w w2:=
 ⟨k.os.trans h.os,k.tape.trans h.tape,k.output.trans h.output,Nat.le_trans h.size k.size,λ b hb hn=>
  (k.cZ b (Nat.lt_of_lt_of_le hb h.size) λ hh=>hn (hB b hb hh)).trans (h.cZ b hb λ hh=>hn (hA b hh))⟩
theorem kj.then {A:Nat->Prop} {w w1 w2:World} (h:kj A w w1) (k:Ext w1 w2):kj A w w2:=h.trans k (λ _ h=>h) λ _ _ h=>h.elim
theorem kj.mono {A B:Nat->Prop} {w w':World} (h:kj A w w') (hh:∀ b,A b->B b):kj B w w':=⟨h.os,h.tape,h.output,h.size,λ b hb hn=>h.cZ b hb λ x=>hn (hh b x)⟩
theorem Ext.refl (w:World):Ext w w:=kj.refl _ _
theorem Ext.trans {w w1 w2:World} (h:Ext w w1) (k:Ext w1 w2):Ext w w2:=kj.then h k
theorem Ext.drew (w:World):Ext w (drew w):=⟨rfl,rfl,rfl,Nat.le_refl _,λ _ _ _=>rfl⟩
theorem kj.below {w w':World} (h:Ext w w'):Go.RowKit.Below w.heap.size w w':=⟨h.os,h.tape,h.output,h.size,λ b hb=>h.cZ b hb (λ x=>x)⟩
theorem qh {w:World} {b:Nat} {o:Obj} (h:w.heap[b]? = some o):b<w.heap.size:=(Array.getElem?_eq_some_iff.1 h).1
theorem ow.lt {w:World} {b:Nat} {cs:List Value} (h:ow w b cs):b<w.heap.size:=qh h.choose_spec
theorem Cell.lt {w:World} {b o:Nat} {v:Value} (h:Cell w b o v):b<w.heap.size:=by
 unfold Cell World.cell? at h
 cases hb:w.heap[b]? with
 | none=>rw [hb] at h; simp at h
 | some x=>exact qh hb
theorem Cell.of_eq {w w':World} {b o:Nat} {v:Value} (h:Cell w b o v) (hh:w'.heap[b]? = w.heap[b]?):Cell w' b o v:=by
 unfold Cell World.cell? at *
 dsimp only at *
 rw [hh]; exact h
theorem ow.of_eq {w w':World} {b:Nat} {cs:List Value} (h:ow w b cs) (hh:w'.heap[b]? = w.heap[b]?):ow w' b cs:=by
 obtain ⟨ty,h⟩:=h; exact ⟨ty,hh.trans h⟩
theorem Cell.aD {A:Nat->Prop} {w w':World} {b o:Nat} {v:Value} (h:Cell w b o v) (hc:kj A w w') (hn:¬ A b):Cell w' b o v:=h.of_eq (hc.cZ b h.lt hn)
theorem Cell.ext {w w':World} {b o:Nat} {v:Value} (h:Cell w b o v) (hc:Ext w w'):Cell w' b o v:=h.aD hc (λ x=>x)
theorem ow.cell {w:World} {b o:Nat} {cs:List Value} {v:Value} (h:ow w b cs) (hv:cs[o]? = some v):Cell w b o v:=by
 obtain ⟨ty,h⟩:=h
 unfold Cell World.cell?
 dsimp only
 rw [h]
 simpa using hv
theorem ow.frozen {w:World} {b o:Nat} {cs:List Value} (h:ow w b cs):w.frozen? ⟨b,o,none⟩=false:=by
 obtain ⟨ty,h⟩:=h
 unfold World.frozen?
 dsimp only
 rw [h]
 simp
theorem qP (w:World) (b o:Nat) (v:Value) (k:Nat) (h:k≠b):(w.setCell ⟨b,o,none⟩ v).heap[k]? = w.heap[k]?:=by
 simp only [World.setCell,Array.getElem?_modify]
 rw [if_neg (λ hh=>h hh.symm)]
theorem ow.setCell {w:World} {b o:Nat} {cs:List Value} (h:ow w b cs) (v:Value):ow (w.setCell ⟨b,o,none⟩ v) b (cs.set o v):=by
 obtain ⟨ty,h⟩:=h
 refine ⟨ty,?_⟩
 simp only [World.setCell,Array.getElem?_modify,if_true,h]
 simp
theorem kj.setCell (w:World) (b o:Nat) (v:Value):kj (· = b) w (w.setCell ⟨b,o,none⟩ v):=
 ⟨rfl,rfl,rfl,by simp [World.setCell],λ k _ hn=>qP w b o v k hn⟩
def push (w:World) (o:Obj):World:={w with heap:=w.heap.push o}
theorem sI (w:World) (o:Obj) (k:Nat) (h:k<w.heap.size):(push w o).heap[k]? = w.heap[k]?:=by
 show (w.heap.push o)[k]? = _
 rw [Array.getElem?_push,if_neg (by omega)]
theorem ox (w:World) (o:Obj):(push w o).heap[w.heap.size]? = some o:=by
 show (w.heap.push o)[_]? = _
 rw [Array.getElem?_push,if_pos rfl]
theorem Fe (w:World) (o:Obj):(push w o).heap.size=w.heap.size+1:=by simp [push]
theorem Ext.push (w:World) (o:Obj):Ext w (push w o):=⟨rfl,rfl,rfl,by rw [Fe]; omega,λ b hb _=>sI w o b hb⟩
theorem ow.push (w:World) (cs:List Value) (ty:TypeId):ow (push w (.cells cs.toArray ty)) w.heap.size cs:=⟨ty,ox _ _⟩
structure HP where
 p:World->(Nat->Prop)->Prop
 loc:∀ w w' F,p w F->(∀ b,F b->w'.heap[b]? = w.heap[b]?)->p w' F
 lt:∀ w F b,p w F->F b->b<w.heap.size
def cZ (b:Nat) (cs:List Value):HP where
 p w F:=ow w b cs/\∀ k,F k↔k=b
 loc w w' F h hh:=⟨h.1.of_eq (hh b ((h.2 b).2 rfl)),h.2⟩
 lt w F b' h hb:=by rw [(h.2 b').1 hb]; exact h.1.lt
def lZ (w0:World) (A:Nat->Prop):List HP->World->(Nat->Prop)->Prop
 | [],_,U=>∀ b,¬ U b
 | H::L,w,U=>∃ F U',H.p w F/\(∀ b,F b->A b\/w0.heap.size<=b)/\(∀ b,F b->¬ U' b)/\(∀ b,U b↔F b\/U' b)/\lZ w0 A L w U'
structure St (w0:World) (A:Nat->Prop) (L:List HP) (w:World):Prop where
 aD:kj A w0 w
 ng:∃ U,lZ w0 A L w U
theorem lZ.lt {w0:World} {A:Nat->Prop} {L:List HP} {w:World} {U:Nat->Prop} (h:lZ w0 A L w U):∀ b,U b->b<w.heap.size:=by
 induction L generalizing U with
 | nil=>intro b hb; exact (h b hb).elim
 | cons H L ih=>
  obtain ⟨F,U',h1,h2,h3,h4,h5⟩:=h
  intro b hb
  rcases (h4 b).1 hb with hf | hu
  ·exact H.lt _ _ _ h1 hf
  ·exact ih h5 b hu
theorem lZ.loc {w0:World} {A:Nat->Prop} {L:List HP} {w w':World} {U:Nat->Prop} (h:lZ w0 A L w U) (hh:∀ b,U b->w'.heap[b]? = w.heap[b]?):lZ w0 A L w' U:=by
 induction L generalizing U with
 | nil=>exact h
 | cons H L ih=>
  obtain ⟨F,U',h1,h2,h3,h4,h5⟩:=h
  exact ⟨F,U',H.loc _ _ _ h1 λ b hb=>hh b ((h4 b).2 (.inl hb)),h2,h3,h4,ih h5 λ b hb=>hh b ((h4 b).2 (.inr hb))⟩
theorem St.start (w:World):St w aZ [] w:=⟨kj.refl _ _,aZ,λ _ h=>h⟩
theorem St.begin {w:World} {F:Nat->Prop} {H:HP} (h:H.p w F):St w F [H] w:=
 ⟨kj.refl _ _,F,F,aZ,h,λ _ h=>.inl h,λ _ _ h=>h,λ _=>⟨.inl,λ h=>h.elim id λ h=>h.elim⟩,λ _ h=>h⟩
theorem St.ext {w0:World} {A:Nat->Prop} {L:List HP} {w w':World} (h:St w0 A L w) (e:Ext w w'):St w0 A L w':=by
 obtain ⟨U,hU⟩:=h.ng
 exact ⟨h.aD.then e,U,hU.loc λ b hb=>e.cZ b (hU.lt b hb) (λ x=>x)⟩
theorem St.drew {w0:World} {A:Nat->Prop} {L:List HP} {w:World} (h:St w0 A L w):St w0 A L (drew w):=h.ext (Ext.drew w)
theorem St.new {w0:World} {A:Nat->Prop} {L:List HP} {w w':World} {H:HP} {F:Nat->Prop} (h:St w0 A L w) (e:Ext w w') (hH:H.p w' F) (hF:∀ b,F b->w.heap.size<=b):St w0 A (H::L) w':=by
 obtain ⟨U,hU⟩:=(h.ext e).ng
 obtain ⟨U0,hU0⟩:=h.ng
 have acg:lZ w0 A L w' U0:=hU0.loc λ b hb=>e.cZ b (hU0.lt b hb) (λ x=>x)
 refine ⟨(h.ext e).aD,λ b=>F b\/U0 b,F,U0,hH,λ b hb=>.inr ?_,λ b hb hu=>?_,λ b=>Iff.rfl,acg⟩
 ·exact Nat.le_trans h.aD.size (hF b hb)
 have:=hU0.lt b hu; have:=hF b hb; omega
theorem St.sJ {w0:World} {A:Nat->Prop} {L:List HP} {w w':World} {H H':HP} (h:St w0 A (H::L) w)
  (hk:∀ F,H.p w F->∃ F',H'.p w' F'/\(∀ b,F' b->F b\/w.heap.size<=b)/\kj F w w'):St w0 A (H'::L) w':=by
 obtain ⟨U,F,U',h1,h2,h3,h4,h5⟩:=h.ng
 obtain ⟨F',g1,g2,g3⟩:=hk F h1
 refine ⟨h.aD.trans g3 (λ _ h=>h) λ b hb hf=>?_,λ b=>F' b\/U' b,F',U',g1,λ b hb=>?_,λ b hb hu=>?_,λ b=>Iff.rfl,?_⟩
 ·exact (h2 b hf).elim id λ hh=>by omega
 ·rcases g2 b hb with hf | hf
  ·exact h2 b hf
  exact .inr (Nat.le_trans h.aD.size hf)
 ·rcases g2 b hb with hf | hf
  ·exact h3 b hf hu
  have:=h5.lt b hu; omega
 exact h5.loc λ b hb=>g3.cZ b (h5.lt b hb) λ hf=>h3 b hf hb
theorem St.drop {w0:World} {A:Nat->Prop} {L:List HP} {w:World} {H:HP} (h:St w0 A (H::L) w):St w0 A L w:=by
 obtain ⟨U,F,U',h1,h2,h3,h4,h5⟩:=h.ng
 exact ⟨h.aD,U',h5⟩
theorem lZ.swap {w0:World} {A:Nat->Prop} {L:List HP} {w:World} {H H':HP} {U:Nat->Prop} (h:lZ w0 A (H::H'::L) w U):lZ w0 A (H'::H::L) w U:=by
 obtain ⟨F,U',h1,h2,h3,h4,F2,U2,g1,g2,g3,g4,g5⟩:=h
 refine ⟨F2,λ b=>F b\/U2 b,g1,g2,λ b hb=>?_,λ b=>?_,F,U2,h1,h2,λ b hb hu=>?_,λ b=>Iff.rfl,g5⟩
 ·rintro (hf | hu)
  ·exact h3 b hf ((g4 b).2 (.inl hb))
  exact g3 b hb hu
 ·rw [h4 b,g4 b]
  constructor
  ·rintro (h | h | h)
   ·exact .inr (.inl h)
   ·exact .inl h
   exact .inr (.inr h)
  rintro (h | h | h)
  ·exact .inr (.inl h)
  ·exact .inl h
  exact .inr (.inr h)
 exact h3 b hb ((g4 b).2 (.inr hu))
theorem lZ.under {w0:World} {A:Nat->Prop} {L L':List HP} {w:World} {H:HP} {U:Nat->Prop} (hk:∀ U,lZ w0 A L w U->lZ w0 A L' w U) (h:lZ w0 A (H::L) w U):lZ w0 A (H::L') w U:=by
 obtain ⟨F,U',h1,h2,h3,h4,h5⟩:=h
 exact ⟨F,U',h1,h2,h3,h4,hk _ h5⟩
theorem lZ.pull {w0:World} {A:Nat->Prop} {L1 L2:List HP} {w:World} {H:HP} {U:Nat->Prop} (h:lZ w0 A (L1++H::L2) w U):lZ w0 A (H::(L1++L2)) w U:=by
 induction L1 generalizing U with
 | nil=>exact h
 | cons X L1 ih=>exact lZ.swap (lZ.under (λ U h=>ih h) h)
theorem St.pull {w0:World} {A:Nat->Prop} {w:World} (L1:List HP) {H:HP} {L2:List HP} (h:St w0 A (L1++H::L2) w):St w0 A (H::(L1++L2)) w:=by
 obtain ⟨U,hU⟩:=h.ng
 exact ⟨h.aD,U,hU.pull⟩
theorem St.p1 {w0:World} {A:Nat->Prop} {w:World} {P0 H:HP} {R:List HP} (h:St w0 A (P0::H::R) w):St w0 A (H::P0::R) w:=St.pull [P0] h
theorem St.p2 {w0:World} {A:Nat->Prop} {w:World} {P0 P1 H:HP} {R:List HP} (h:St w0 A (P0::P1::H::R) w):St w0 A (H::P0::P1::R) w:=St.pull [P0,P1] h
theorem St.p3 {w0:World} {A:Nat->Prop} {w:World} {P0 P1 P2 H:HP} {R:List HP} (h:St w0 A (P0::P1::P2::H::R) w):St w0 A (H::P0::P1::P2::R) w:=St.pull [P0,P1,P2] h
theorem St.p4 {w0:World} {A:Nat->Prop} {w:World} {P0 P1 P2 P3 H:HP} {R:List HP} (h:St w0 A (P0::P1::P2::P3::H::R) w):St w0 A (H::P0::P1::P2::P3::R) w:=St.pull [P0,P1,P2,P3] h
theorem St.p5 {w0:World} {A:Nat->Prop} {w:World} {P0 P1 P2 P3 P4 H:HP} {R:List HP} (h:St w0 A (P0::P1::P2::P3::P4::H::R) w):St w0 A (H::P0::P1::P2::P3::P4::R) w:=St.pull [P0,P1,P2,P3,P4] h
theorem St.p6 {w0:World} {A:Nat->Prop} {w:World} {P0 P1 P2 P3 P4 P5 H:HP} {R:List HP} (h:St w0 A (P0::P1::P2::P3::P4::P5::H::R) w):St w0 A (H::P0::P1::P2::P3::P4::P5::R) w:=St.pull [P0,P1,P2,P3,P4,P5] h
theorem St.p7 {w0:World} {A:Nat->Prop} {w:World} {P0 P1 P2 P3 P4 P5 P6 H:HP} {R:List HP} (h:St w0 A (P0::P1::P2::P3::P4::P5::P6::H::R) w):St w0 A (H::P0::P1::P2::P3::P4::P5::P6::R) w:=St.pull [P0,P1,P2,P3,P4,P5,P6] h
theorem St.p8 {w0:World} {A:Nat->Prop} {w:World} {P0 P1 P2 P3 P4 P5 P6 P7 H:HP} {R:List HP} (h:St w0 A (P0::P1::P2::P3::P4::P5::P6::P7::H::R) w):St w0 A (H::P0::P1::P2::P3::P4::P5::P6::P7::R) w:=St.pull [P0,P1,P2,P3,P4,P5,P6,P7] h
theorem St.p9 {w0:World} {A:Nat->Prop} {w:World} {P0 P1 P2 P3 P4 P5 P6 P7 P8 H:HP} {R:List HP} (h:St w0 A (P0::P1::P2::P3::P4::P5::P6::P7::P8::H::R) w):St w0 A (H::P0::P1::P2::P3::P4::P5::P6::P7::P8::R) w:=St.pull [P0,P1,P2,P3,P4,P5,P6,P7,P8] h
theorem St.head {w0:World} {A:Nat->Prop} {L:List HP} {w:World} {H:HP} (h:St w0 A (H::L) w):∃ F,H.p w F/\∀ b,F b->A b\/w0.heap.size<=b:=by
 obtain ⟨U,F,U',h1,h2,_⟩:=h.ng; exact ⟨F,h1,h2⟩
theorem St.hb {w0:World} {A:Nat->Prop} {L:List HP} {w:World} {b:Nat} {cs:List Value} (h:St w0 A (cZ b cs::L) w):ow w b cs:=by
 obtain ⟨F,h1,_⟩:=h.head; exact h1.1
def eK:Value->Bool
 | .agg _=>false
 | .tuple _=>false
 | _=>true
def bY (P:Program) (T:TypeId):Option (Bool × Nat):=
 match P.underlying T with
 | some d=>(P.info? T).map λ i=>(match d with | .struct _ | .array _ _=>true | _=>false,i.size)
 | none=>none
def aQ (P:Program) (T f:Nat):Option (Nat × Option Bool):=
 match P.underlying T with
 | some (.struct fs)=>(fs[f]?).map λ fd=>(fd.offset,(P.info? fd.type).map λ i=>i.size != 0)
 | _=>none
def dJ (P:Program) (T:TypeId):Option (TypeId × Nat × Nat × Option Nat):=
 match P.underlying T with
 | some (.slice E)=>(P.info? E).map λ i=>(E,i.size,i.bytes,i.zero.map λ z=>z.cells.size)
 | _=>none
def dX (P:Program) (T:TypeId):Option (Option Value):=(P.info? T).map λ i=>i.zero
abbrev Ff (P:Program) (T:TypeId):Prop:=bY P T=some (false,1)
abbrev GY (P:Program) (T:TypeId) (n:Nat):Prop:=bY P T=some (true,n)
abbrev oy (P:Program) (T f off:Nat):Prop:=aQ P T f=some (off,some true)
abbrev Q0 (P:Program) (T E n bytes:Nat):Prop:=dJ P T=some (E,n,bytes,some n)
abbrev xu (P:Program) (T:TypeId) (z:Value):Prop:=dX P T=some (some z)
theorem ib {P:Program} {T:TypeId} {i:TypeInfo} (h:P.info? T=some i):pr P (typeInfo T)=some i:=by
 show pr P (match P.info? T with | some i => pure i | none => stuck "no such type") = _
 rw [h]; rfl
theorem aS {P:Program} {T:TypeId} {d:TypeDesc} (h:P.underlying T=some d):pr P (underlying T)=some d:=by
 show pr P (match P.underlying T with | some d => pure d | none => stuck "no such type") = _
 rw [h]; rfl
theorem fC {P:Program} {T:TypeId} {i:TypeInfo} (h:P.info? T=some i):pr P (sizeOf T)=some i.size:=by
 unfold sizeOf; rw [aU,ib h]; rfl
theorem kP {P:Program} {α β:Type} (m:Sem α) (f:α->β):pr P (do pure (f (<- m)))=(pr P m).map f:=by
 rw [aU]; cases pr P m <;> rfl
theorem ej {P:Program} {T:TypeId} {a:Bool} {n:Nat} (h:bY P T=some (a,n)):pr P (isAgg T)=some a/\pr P (sizeOf T)=some n:=by
 unfold bY at h
 cases hd:P.underlying T with
 | none=>rw [hd] at h; cases h
 | some d=>
  rw [hd] at h
  cases hi:P.info? T with
  | none=>rw [hi] at h; cases h
  | some i=>
   rw [hi] at h
   simp only [Option.map_some,Option.some.injEq,Prod.mk.injEq] at h
   obtain ⟨h1,h2⟩:=h
   refine ⟨?_,by rw [fC hi,h2]⟩
   unfold isAgg
   rw [aU,aS hd]
   show pr P (match d with | .struct _ | .array _ _=>pure true | _=>pure false)=_
   rw [<- h1]
   cases d <;> rfl
theorem dS {P:Program} {T E n by':Nat} {z:Option Nat} (h:dJ P T=some (E,n,by',z)) :
  P.underlying T=some (.slice E)/\∃ i,P.info? E=some i/\i.size=n/\i.bytes=by'/\i.zero.map (λ z=>z.cells.size)=z:=by
 unfold dJ at h
 split at h
 ·rename_i E' hE
  cases hi:P.info? E' with
  | none=>rw [hi] at h; cases h
  | some i=>
   rw [hi] at h
   simp only [Option.map_some,Option.some.injEq,Prod.mk.injEq] at h
   obtain ⟨rfl,h2,h3,h4⟩:=h
   exact ⟨hE,i,hi,h2,h3,h4⟩
 cases h
section
variable {P:Program} {w:World}
theorem pop {m:Sem Value} {v:Value} {K:Value->Prop} (h:pr P m=some v) (k:K v):dW P m K:=⟨v,h,k⟩
theorem aE {a:Addr} {K:Value->Prop} (k:K (.pointer (some a))):dW P (Cg (.pointer (some a))) K:=⟨_,rfl,k⟩
theorem bO {b:Bool} {K:Value->Prop} (k:K (.bool (!b))):dW P (Op.unary .not (.bool b)) K:=⟨_,rfl,k⟩
theorem Af {p:Prop} [Decidable p] {K:Value->Prop} (k:K (.bool (decide (¬ p)))):dW P (Op.unary .not (.bool (decide p))) K:=by
 refine bO ?_
 by_cases h:p <;> simp_all
theorem bI {vs:List Value} {i:Nat} {v:Value} {K:Value->Prop} (h:vs[i]? = some v) (k:K v):dW P (Instr.extract (.tuple vs.toArray) i) K:=
 ⟨v,by simp only [Instr.extract,List.getElem?_toArray,h]; rfl,k⟩
theorem aN {T:Nat} {cx cy:Bool} {a b:Int} {K:Value->Prop} (k:K (.bool (decide (a<b)))):dW P (gD .lss T cx cy (.int .i64 a) (.int .i64 b)) K:=⟨_,rfl,k⟩
theorem fW {T:Nat} {cx cy:Bool} {a b:Int} {K:Value->Prop} (k:K (.bool (decide (a<=b)))):dW P (gD .leq T cx cy (.int .i64 a) (.int .i64 b)) K:=⟨_,rfl,k⟩
theorem cC {T:Nat} {cx cy:Bool} {a b:Int} {K:Value->Prop} (k:K (.bool (decide (b<a)))):dW P (gD .gtr T cx cy (.int .i64 a) (.int .i64 b)) K:=⟨_,rfl,k⟩
theorem cY {T:Nat} {cx cy:Bool} {a b:Int} {K:Value->Prop} (k:K (.bool (decide (b<=a)))):dW P (gD .geq T cx cy (.int .i64 a) (.int .i64 b)) K:=⟨_,rfl,k⟩
theorem aF {T:Nat} {cx cy:Bool} {a b:Int} {K:Value->Prop} (k:K (.bool (decide (a=b)))):dW P (gD .eql T cx cy (.int .i64 a) (.int .i64 b)) K:=⟨_,rfl,k⟩
theorem bJ {T:Nat} {cx cy:Bool} {a b:Int} {K:Value->Prop} (k:K (.bool (decide (a≠b)))):dW P (gD .neq T cx cy (.int .i64 a) (.int .i64 b)) K:=
 ⟨_,(show pr P (gD .neq T cx cy (.int .i64 a) (.int .i64 b))=some (.bool (decide (a≠b))) from by
  show some (Value.bool (a != b))=_
  congr 2
  by_cases h:a=b <;> simp [h]),k⟩
theorem aW {T:Nat} {cx cy:Bool} {a b:Int} {K:Value->Prop} (h : -9223372036854775808<=a+b/\a+b<=9223372036854775807) (k:K (.int .i64 (a+b))) :
  dW P (gD .add T cx cy (.int .i64 a) (.int .i64 b)) K:=
 ⟨_,(show pr P (gD .add T cx cy (.int .i64 a) (.int .i64 b))=some (.int .i64 (a+b)) from by
  show some (Value.int .i64 (IntKind.i64.wrap (a+b)))=_
  rw [IntWalk.i64_in _ h]),k⟩
theorem eC {T:Nat} {cx cy:Bool} {a b:Int} {K:Value->Prop} (h : -9223372036854775808<=a - b/\a - b<=9223372036854775807) (k:K (.int .i64 (a - b))) :
  dW P (gD .sub T cx cy (.int .i64 a) (.int .i64 b)) K:=
 ⟨_,(show pr P (gD .sub T cx cy (.int .i64 a) (.int .i64 b))=some (.int .i64 (a - b)) from by
  show some (Value.int .i64 (IntKind.i64.wrap (a - b)))=_
  rw [IntWalk.i64_in _ h]),k⟩
theorem aC {p:Prop} [Decidable p] {A B:Prop} (h1:p->A) (h2:¬ p->B):pL (.bool (decide p)) A B:=
 ⟨_,rfl,λ h=>h1 (of_decide_eq_true h),λ h=>h2 (of_decide_eq_false h)⟩
theorem eZ {A B:Prop} (h:A):pL (.bool true) A B:=⟨_,rfl,λ _=>h,λ h=>by cases h⟩
theorem dN {A B:Prop} (h:B):pL (.bool false) A B:=⟨_,rfl,λ h=>(by cases h),λ _=>h⟩
theorem bD {b:Bool} {A B:Prop} (h1:b=true->A) (h2:b=false->B):pL (.bool b) A B:=⟨_,rfl,h1,h2⟩
theorem gx {α:Type} (l:List α) {i:Nat} (h:i<l.length):∃ x,l[i]? = some x:=⟨_,List.getElem?_eq_getElem h⟩
theorem ft {a b:Nat} (h:Nat.ble a b=true):a<=b:=Nat.le_of_ble_eq_true h
theorem gW {f:FuncId} {args:List Value} {Φ K:Value->World->Prop} (pl:Plain P f) (h:Calls P f args.toArray w (mE Φ)) (k:∀ v w',Φ v w'->K v w') :
  tj P f args w K:=⟨.inl ⟨pl,h.mono λ _ _ r=>r.mono k⟩⟩
theorem eF {g:FuncId} {args first cap:List Value} {Φ K:Value->World->Prop} (pl:Plain P g) (h:Calls P g (first++args++cap).toArray w (mE Φ)) (k:∀ v w',Φ v w'->K v w') :
  gi P (.func (.func g) first.toArray cap.toArray) args w K:=⟨.inl ⟨g,_,_,rfl,pl,by simpa using h.mono λ _ _ r=>r.mono k⟩⟩
theorem GZ {f:FuncId} {args:List Value} {Φ Ψ:Value->World->Prop} (h:Calls P f args.toArray w (mE Φ)) (k:∀ v w',Φ v w'->Ψ v w'):Calls P f args.toArray w (mE Ψ):=
 h.mono λ _ _ r=>r.mono k
variable {w0:World} {A:Nat->Prop} {L:List HP}
theorem run_load (a:Addr) (v:Value) (h:w.cell? a=some v):(load a).run P w = .ok v w:=by
 unfold load
 simp only [Sem.run,h]
theorem dG (b o j:Nat):(Addr.mk b o none).add j=⟨b,o+j,none⟩:=by
 unfold Addr.add; split
 ·rename_i h; subst h; rfl
 rfl
theorem run_loadCellsFrom (b o:Nat):∀ (n i:Nat) (acc:Array Value) (cs:List Value),cs.length=n->(∀ j c,cs[j]? = some c->Cell w b (o+i+j) c)->
  (loadCellsFrom ⟨b,o,none⟩ i n acc).run P w = .ok (acc++cs.toArray) w:=by
 intro n
 induction n with
 | zero=>intro i acc cs hl _; obtain rfl:=List.length_eq_zero_iff.1 hl; simp [loadCellsFrom]
 | succ n ih=>
  intro i acc cs hl h
  match cs,hl with
  | c::cs,hl=>
   unfold loadCellsFrom
   rw [aY (run_load _ c (by rw [dG]; exact h 0 c rfl))]
   rw [ih (i+1) (acc.push c) cs (by simpa using hl) (λ j d hd=>by have:=h (j+1) d (by simpa using hd); rwa [show o+i+(j+1)=o+(i+1)+j from by omega] at this)]
   simp
theorem run_loadCells {b o:Nat} {cs:List Value} (h:∀ j c,cs[j]? = some c->Cell w b (o+j) c):(loadCells ⟨b,o,none⟩ cs.length).run P w = .ok cs.toArray w:=by
 unfold loadCells
 rw [run_loadCellsFrom b o cs.length 0 #[] cs rfl (λ j c hc=>by simpa using h j c hc)]
 simp
theorem aH {T:TypeId} {b o:Nat} {v:Value} (ht:Ff P T) (h:Cell w b o v):(Instr.loadAt T (.pointer (some ⟨b,o,none⟩))).run P w = .ok v w:=by
 show (loadVar T ⟨b,o,none⟩).run P w=_
 unfold loadVar
 rw [aY (bZ (ej ht).1 w)]
 exact run_load _ v h
theorem oz {T:TypeId} {b o:Nat} {cs:List Value} (ht:GY P T cs.length) (h:∀ j c,cs[j]? = some c->Cell w b (o+j) c) :
  (Instr.loadAt T (.pointer (some ⟨b,o,none⟩))).run P w = .ok (.agg cs.toArray) w:=by
 show (loadVar T ⟨b,o,none⟩).run P w=_
 unfold loadVar
 rw [aY (bZ (ej ht).1 w)]
 simp only [if_true]
 rw [aY (bZ (ej ht).2 w),aY (run_loadCells h)]
 rfl
theorem aB {T:TypeId} {b o:Nat} {cs:List Value} {v:Value} {K:Value->Prop} (ht:Ff P T) (hb:ow w b cs) (hc:cs[o]? = some v) (k:K v) :
  yj P (Instr.loadAt T (.pointer (some ⟨b,o,none⟩))) w K:=⟨v,aH ht (hb.cell hc),k⟩
theorem uS {T:TypeId} {b n:Nat} {cs:List Value} {K:Value->Prop} (ht:GY P T n) (hb:ow w b cs) (hn:cs.length=n) (k:K (.agg cs.toArray)) :
  yj P (Instr.loadAt T (.pointer (some ⟨b,0,none⟩))) w K:=by
 subst hn
 exact ⟨_,oz ht λ j c hc=>by rw [Nat.zero_add]; exact hb.cell hc,k⟩
theorem uT {T f off b o:Nat} (ht:oy P T f off):pr P (Instr.fieldAt T (.pointer (some ⟨b,o,none⟩)) f)=some (.pointer (some ⟨b,o+off,none⟩)):=by
 unfold oy aQ at ht
 split at ht
 ·rename_i fs hfs
  cases hf:fs[f]? with
  | none=>rw [hf] at ht; cases ht
  | some fd=>
   rw [hf] at ht
   simp only [Option.map_some,Option.some.injEq,Prod.mk.injEq] at ht
   obtain ⟨ho,hz⟩:=ht
   cases hi:P.info? fd.type with
   | none=>rw [hi] at hz; cases hz
   | some i=>
    rw [hi] at hz
    have hz':i.size≠0:=by simpa using hz
    unfold Instr.fieldAt
    rw [aU,aS hfs]
    simp only [Option.bind_some,hf]
    show pr P (do pure (Value.pointer (some (<- fieldPlace ⟨b,o,none⟩ fd))))=_
    rw [kP]
    unfold fieldPlace
    rw [aU,fC hi]
    simp only [Option.bind_some,if_neg hz',dG,ho]
    rfl
 cases ht
theorem aA {T f off b o:Nat} {K:Value->Prop} (ht:oy P T f off) (k:K (.pointer (some ⟨b,o+off,none⟩))) :
  dW P (Instr.fieldAt T (.pointer (some ⟨b,o,none⟩)) f) K:=⟨_,uT ht,k⟩
theorem pfb {T f off b o T2:Nat} {cs:List Value} {v:Value} {K:Value->Prop} (ht:oy P T f off) (h2:Ff P T2) (hb:ow w b cs) (hc:cs[o+off]? = some v) (k:K v) :
  dW P (Instr.fieldAt T (.pointer (some ⟨b,o,none⟩)) f) λ p=>yj P (Instr.loadAt T2 p) w K:=aA ht (aB h2 hb hc k)
theorem ue (T:TypeId) (v:Value):(Instr.box T v).run P w = .ok (.pointer (some ⟨w.heap.size,0,none⟩)) (push w (.cells v.cells T)):=rfl
theorem St.push {T:TypeId} {cs:List Value} (hs:St w0 A L w):St w0 A (cZ w.heap.size cs::L) (push w (.cells cs.toArray T)):=
 hs.new (Ext.push _ _) (F:=λ k=>k=w.heap.size) ⟨ow.push w cs T,λ _=>Iff.rfl⟩ λ b hb=>by rw [hb]; exact Nat.le_refl _
theorem qQ {T:TypeId} {v:Value} {K:Value->World->Prop} (hs:St w0 A L w) (hv:eK v=true)
  (k:∀ b w',St w0 A (cZ b [v]::L) w'->K (.pointer (some ⟨b,0,none⟩)) w'):ji P (Instr.box T v) w K:=by
 refine ⟨_,_,ue T v,k _ _ ?_⟩
 have:v.cells=[v].toArray:=by cases v <;> first | rfl | cases hv
 rw [this]
 exact hs.push
theorem js {T:TypeId} {cs:List Value} {K:Value->World->Prop} (hs:St w0 A L w)
  (k:∀ b w',St w0 A (cZ b cs::L) w'->K (.pointer (some ⟨b,0,none⟩)) w'):ji P (Instr.box T (.agg cs.toArray)) w K:=
 ⟨_,_,ue T _,k _ _ hs.push⟩
theorem Ct {T:TypeId} {z:Value} {K:Value->World->Prop} (hs:St w0 A L w) (hz:xu P T z) (hv:eK z=true)
  (k:∀ b w',St w0 A (cZ b [z]::L) w'->K (.pointer (some ⟨b,0,none⟩)) w'):ji P (Instr.alloc T true (.tuple #[])) w K:=by
 unfold xu dX at hz
 cases hi:P.info? T with
 | none=>rw [hi] at hz; cases hz
 | some i=>
  rw [hi] at hz
  simp only [Option.map_some,Option.some.injEq] at hz
  have h1:pr P (zeroValue T)=some z:=by unfold zeroValue; rw [aU,ib hi]; simp only [Option.bind_some,hz]; rfl
  refine ⟨_,push w (.cells [z].toArray T),?_,k _ _ (hs.push (T:=T))⟩
  unfold Instr.alloc
  rw [aY (bZ h1 w)]
  have:z.cells=[z].toArray:=by cases z <;> first | rfl | cases hv
  show (do pure (Value.pointer (some (<- newVar T z))):Sem Value).run P w=_
  unfold newVar
  rw [this]
  rfl
theorem bT {T:TypeId} {cs:List Value} {K:Value->World->Prop} (hs:St w0 A L w) (hz:xu P T (.agg cs.toArray))
  (k:∀ b w',St w0 A (cZ b cs::L) w'->K (.pointer (some ⟨b,0,none⟩)) w'):ji P (Instr.alloc T true (.tuple #[])) w K:=by
 unfold xu dX at hz
 cases hi:P.info? T with
 | none=>rw [hi] at hz; cases hz
 | some i=>
  rw [hi] at hz
  simp only [Option.map_some,Option.some.injEq] at hz
  have h1:pr P (zeroValue T)=some (.agg cs.toArray):=by unfold zeroValue; rw [aU,ib hi]; simp only [Option.bind_some,hz]; rfl
  refine ⟨_,push w (.cells cs.toArray T),?_,k _ _ (hs.push (T:=T))⟩
  unfold Instr.alloc
  rw [aY (bZ h1 w)]
  rfl
theorem run_store {b o:Nat} {cs:List Value} {v:Value} (hb:ow w b cs) (ho:o<cs.length) (hv:eK v=true) :
  (store ⟨b,o,none⟩ v).run P w = .ok () (w.setCell ⟨b,o,none⟩ v):=by
 have h1:w.cell? ⟨b,o,none⟩=some cs[o]:=hb.cell (by simp [ho])
 have h2:=hb.frozen (o:=o)
 unfold store
 cases v <;> first | cases hv | skip
 all_goals
  simp only [Sem.run,h1,h2]
  rfl
theorem Ag {b o:Nat} {cs:List Value} {v:Value} (hs:St w0 A (cZ b cs::L) w):St w0 A (cZ b (cs.set o v)::L) (w.setCell ⟨b,o,none⟩ v):=
 hs.sJ λ F hF=>⟨F,⟨hF.1.setCell v,hF.2⟩,λ _ h=>.inl h,(kj.setCell w b o v).mono λ k hk=>(hF.2 k).2 hk⟩
theorem bH {T:TypeId} {b o:Nat} {cs:List Value} {v:Value} {K:World->Prop} (hs:St w0 A (cZ b cs::L) w) (ht:Ff P T) (ho:o<cs.length) (hv:eK v=true)
  (k:∀ w',St w0 A (cZ b (cs.set o v)::L) w'->K w'):Gw P (Instr.storeAt T (.pointer (some ⟨b,o,none⟩)) v) w K:=by
 refine ⟨_,?_,k _ (Ag hs)⟩
 show (storeVar T ⟨b,o,none⟩ v).run P w=_
 have hc:v.cells = #[v]:=by cases v <;> first | rfl | cases hv
 unfold storeVar
 rw [aY (bZ (ej ht).2 w),hc]
 simp only [List.size_toArray,List.length_cons,List.length_nil,Nat.zero_add,ne_eq,not_true_eq_false,if_false]
 show (storeCells ⟨b,o,none⟩ [v]).run P w=_
 unfold storeCells
 rw [dG,Nat.add_zero,aY (run_store hs.hb ho hv)]
 rfl
def eS:List Value->Nat->List Value->List Value
 | cs,_,[]=>cs
 | cs,o,v::r=>eS (cs.set o v) (o+1) r
theorem gg (cs:List Value) (o:Nat) (vs:List Value):(eS cs o vs).length=cs.length:=by
 induction vs generalizing cs o with
 | nil=>rfl
 | cons v r ih=>simp [eS,ih]
theorem uU {b o:Nat}:∀ (vs:List Value) (i:Nat) (cs:List Value) (w:World),St w0 A (cZ b cs::L) w->o+i+vs.length<=cs.length->(∀ v∈vs,eK v=true)->
  ∃ w',(storeCells ⟨b,o,none⟩ vs i).run P w = .ok () w'/\St w0 A (cZ b (eS cs (o+i) vs)::L) w':=by
 intro vs
 induction vs with
 | nil=>intro i cs w hs _ _; exact ⟨w,rfl,hs⟩
 | cons v r ih=>
  intro i cs w hs hl hv
  have hl':o+i+(r.length+1)<=cs.length:=by simpa using hl
  have h1:=run_store (P:=P) hs.hb (o:=o+i) (v:=v) (by omega) (hv v (by simp))
  obtain ⟨w',h2,h3⟩:=ih (i+1) (cs.set (o+i) v) _ (Ag hs) (by simp; omega) (λ x hx=>hv x (by simp [hx]))
  refine ⟨w',?_,by rw [show o+(i+1)=o+i+1 from by omega] at h3; exact h3⟩
  show (do store ((Addr.mk b o none).add i) v; storeCells ⟨b,o,none⟩ r (i+1):Sem Unit).run P w=_
  rw [dG,aY h1,h2]
theorem qR {T:TypeId} {b o n:Nat} {cs vs:List Value} {K:World->Prop} (hs:St w0 A (cZ b cs::L) w) (ht:GY P T n) (hn:vs.length=n) (ho:o+n<=cs.length) (hv:∀ v∈vs,eK v=true)
  (k:∀ w',St w0 A (cZ b (eS cs o vs)::L) w'->K w'):Gw P (Instr.storeAt T (.pointer (some ⟨b,o,none⟩)) (.agg vs.toArray)) w K:=by
 subst hn
 obtain ⟨w',h1,h2⟩:=uU (P:=P) (o:=o) vs 0 cs w hs (by omega) hv
 refine ⟨w',?_,k w' h2⟩
 show (storeVar T ⟨b,o,none⟩ (.agg vs.toArray)).run P w=_
 unfold storeVar
 rw [aY (bZ (ej ht).2 w)]
 simp only [Value.cells,List.size_toArray,ne_eq,not_true_eq_false,if_false]
 exact h1
end
end Go.Fw
