/-
  Part 1.
-/
import Derived.Test.YtfkgkbhbdffckaaGreatDoorProg
import Derived.Orders
import Derived.Tactics
import Derived.OrdersIn
import Derived.TacticsIn
import Derived.RangeFuncSeq
import Derived.RangeFuncLeaves
import Derived.Laws.Sem
import Derived.KernelRfl
import Derived.Below
import Derived.IntWalk
import Derived.Laws.AppendOwn
import Derived.Laws.MakeOwn
import Derived.WalkKit
import Derived.ProofKit
import Derived.OpenShut
import Derived.ChangeCalls
import Derived.Laws.Strings
import Derived.Lib.ConvBytes
import Derived.MapKept
import Derived.Deep.AppendSrc
import Derived.Lib.AppendZeros
import Derived.Scope
import Derived.Maps.RangeRun
import Derived.LaidMore
import Derived.Lay
import Derived.SevenTiedAt
import Derived.Stop.Joined
set_option linter.all false
set_option maxHeartbeats 8000000
set_option maxRecDepth 100000
namespace Go.Fw
abbrev Env:=Nat->Value
def ev (e:Env):Operand->Value
 | .tmp t=>e t
 | .const v=>v
 | .global g=>.pointer (some ⟨g,0,none⟩)
 | .func f=>.func (.func f) #[] #[]
def rz (e:Env) (d:Nat) (v:Value):Env:=λ i=>bif Nat.beq i d then v else e i
def gC (e:Env) (d:Option Nat) (v:Value):Env:=match d with | some d=>rz e d v | none=>e
theorem ja (e:Env) (d:Nat) (v:Value):rz e d v d=v:=by simp [rz]
theorem jP (e:Env) {d i:Nat} (v:Value) (h:i≠d):rz e d v i=e i:=by
 have:Nat.beq i d=false:=by
  cases hh:Nat.beq i d
  ·rfl
  ·exact absurd (Nat.eq_of_beq_eq_true hh) h
 simp [rz,this]
theorem PB (e:Env) {d d':Nat} (v v':Value) (h:d≠d'):rz (rz e d v) d' v'=rz (rz e d' v') d v:=by
 funext i
 by_cases h1:i=d
 ·subst h1; rw [jP _ _ h,ja,ja]
 by_cases h2:i=d'
 ·subst h2; rw [ja,jP _ _ h1,ja]
 rw [jP _ _ h2,jP _ _ h1,jP _ _ h1,jP _ _ h2]
theorem abt (e:Env) (d:Nat) (v:Value) (h:e d=v):rz e d v=e:=by
 funext i
 by_cases h1:i=d
 ·subst h1; rw [ja,h]
 rw [jP _ _ h1]
def mark (D:Nat):Deferred:={target:=.collected D,args:=#[]}
structure eI (ds:List Nat) (n:Nat) (e:Env) (a:Act):Prop where
 defers:a.defers=ds.map mark
 size:a.tmps.size=n
 get:∀ i,a.tmps.getD i undef=e i
theorem eI.eval {ds:List Nat} {n:Nat} {e:Env} {a:Act} (h:eI ds n e a):a.eval=ev e:=by
 funext x
 cases x <;> simp [Act.eval,ev]
 case tmp t=>simpa using h.get t
theorem eI.put {ds:List Nat} {n:Nat} {e:Env} {a:Act} (h:eI ds n e a) {d:Option Nat} (hd:∀ k,d=some k->k<n) (v:Value) :
  eI ds n (gC e d v) (a.put d v):=by
 cases d with
 | none=>exact h
 | some d=>
  have hd:=hd d rfl
  refine ⟨h.defers,by simp [Act.put,h.size],λ i=>?_⟩
  have hg:=h.get i
  simp only [Act.put,gC,Array.getD_eq_getD_getElem?] at *
  by_cases hi:i=d
  ·subst hi
   rw [Array.getElem?_setIfInBounds_self_of_lt (by rw [h.size]; exact hd),ja]
   rfl
  ·rw [Array.getElem?_setIfInBounds_ne (Ne.symm hi),jP _ _ hi]
   exact hg
def pr (P:Program) {α:Type}:Sem α->Option α
 | .pure a=>some a
 | .program k=>pr P (k P)
 | .mark _ k=>pr P k
 | _=>none
theorem bM {P:Program} {α:Type} {m:Sem α} {v:α} (h:pr P m=some v) (w:World):m.run P w = .ok v w:=by
 induction m with
 | pure a=>simp only [pr,Option.some.injEq] at h; subst h; rfl
 | program k ih=>exact ih P h
 | mark x k ih=>exact ih h
 | _=>simp [pr] at h
theorem cR {P:Program} {α:Type} (a:α):pr P (pure a:Sem α)=some a:=rfl
theorem aK {P:Program} {α β:Type} (m:Sem α) (f:α->Sem β):pr P (m >>= f)=(pr P m).bind λ a=>pr P (f a):=by
 show pr P (m.bind f)=_
 induction m with
 | pure a=>rfl
 | program k ih=>exact ih P
 | mark x k ih=>exact ih
 | _=>rfl
theorem run_bind {P:Program} {α β:Type} (m:Sem α) (f:α->Sem β) (w:World) :
  (m >>= f).run P w=match m.run P w with | .ok a w'=>(f a).run P w' | .halt h w'=>.halt h w':=by
 show (m.bind f).run P w=_
 induction m generalizing w with
 | pure a=>rfl
 | load m a k ih=>simp only [Sem.bind,Sem.run]; (repeat' split) <;> simp_all
 | store m a v k ih=>cases v <;> simp only [Sem.bind,Sem.run] <;> (repeat' split) <;> simp_all
 | new o k ih=>simp only [Sem.bind,Sem.run,ih]
 | shape r k ih=>simp only [Sem.bind,Sem.run,ih]
 | freeze a n k ih=>simp only [Sem.bind,Sem.run,ih]
 | frozen a k ih=>simp only [Sem.bind,Sem.run,ih]
 | getObj r k ih=>simp only [Sem.bind,Sem.run]; (repeat' split) <;> simp_all
 | setObj r o k ih=>simp only [Sem.bind,Sem.run]; (repeat' split) <;> simp_all
 | choose q k ih=>simp only [Sem.bind,Sem.run]; split <;> simp_all
 | sys c k ih=>simp only [Sem.bind,Sem.run,ih]
 | program k ih=>exact ih P w
 | mark x k ih=>exact ih w
 | halt h=>rfl
theorem aZ {P:Program} {α β:Type} {m:Sem α} {f:α->Sem β} {w w':World} {a:α} (h:m.run P w = .ok a w') :
  (m >>= f).run P w=(f a).run P w':=by rw [run_bind,h]
theorem run_pure {P:Program} {α:Type} (a:α) (w:World):(pure a:Sem α).run P w = .ok a w:=rfl
abbrev FO (r:Option Nat):Fence:={Fence.wide with round:=r}
theorem vm {r:Option Nat} {p:Prop}:(FO r).depth.isSome=true->p:=λ h=>by cases h
theorem lS {r:Option Nat} {n:Nat} {P:Program} {f:FuncId} {args:Array Value} {w:World} {R:Ending->World->Prop}:CallsIn (FO r) n P f args w R↔Calls P f args w R:=
 callsIn_wide (n:=n)
def mW (K:Value->World->Prop):Ending->World->Prop:=λ e w=>∃ v,e = .returned v/\K v w
theorem mW.mono {K K':Value->World->Prop} {e:Ending} {w:World} (h:mW K e w) (k:∀ v w,K v w->K' v w):mW K' e w:=
 let ⟨v,he,hk⟩:=h; ⟨v,he,k _ _ hk⟩
def Plain (P : Program) (f : FuncId) : Prop := ∃ fn, P.funcs[f]? = some fn /\ (fn.name == "runtime.NumGoroutine") = false /\ fn.body.isNone = false
theorem qe {P:Program} {f:FuncId} (h:Plain P f) (args:Array Value) (w:World) :
  (callFunc f args).run P w = .ok (.enter f args) w:=by
 obtain ⟨fn,h1,h2,h3⟩:=h
 show (match P.funcs[f]? with | none=>_ | some fn=>_:Sem Next).run P w=_
 rw [h1]
 simp [h2,h3]
structure cU (P:Program) (m:Sem Value) (K:Value->Prop):Prop where
 ex:∃ v,pr P m=some v/\K v
structure q7 (P:Program) (m:Sem Value) (w:World) (K:Value->Prop):Prop where
 ex:∃ v,m.run P w = .ok v w/\K v
structure gd (P:Program) (m:Sem Value) (w:World) (K:Value->World->Prop):Prop where
 ex:∃ v w',m.run P w = .ok v w'/\K v w'
structure BT (P:Program) (m:Sem Unit) (w:World) (K:World->Prop):Prop where
 ex:∃ w',m.run P w = .ok () w'/\K w'
structure xX (P:Program) (f:FuncId) (args:List Value) (w:World) (K:Value->World->Prop):Prop where
 ex:(Plain P f/\Calls P f args.toArray w (mW K))\/∃ v w',(callFunc f args.toArray).run P w = .ok (.value v) w'/\K v w'
structure eg (P:Program) (fv:Value) (args:List Value) (w:World) (K:Value->World->Prop):Prop where
 ex:(∃ g first cap,fv = .func (.func g) first cap/\Plain P g/\Calls P g (first++args.toArray++cap) w (mW K))\/
  ∃ l,fv = .func (.yield l) #[] #[]/\YieldAt (FO none) 0 P l args.toArray w (mW K)
structure uc (v:Value) (A B:Prop):Prop where
 ex:∃ t,v = .bool t/\(t=true->A)/\(t=false->B)
structure Dj (P:Program) (m:Sem Value) (v:Value) (w:World) (R:Prop):Prop where
 qf:m.run P w = .ok v w
 rest:R
inductive zD where
 | val (v:Value)
 | p (m:Sem Value)
 | q (m:Sem Value)
 | e (m:Sem Value)
 | u (m:Sem Unit)
 | call (f:FuncId) (args:List Value)
 | BU (fv:Value) (args:List Value)
 | bad
def ID:Operand->Bool | .const _=>true | _=>false
def IU:Value->Sem Value
 | .pointer none | .nilIface | .nilFunc => stuck "nil"
 | .func (.method _) _ _ => stuck "method"
 | x=>pure x
def KP (c a b:Value):Sem Value:=do pure (if <- asBool c then a else b)
def Vf (op:BinOp) (t:TypeId) (cx cy:Bool) (a b:Value):Sem Value:=
 match a,b with
 | .nilIface, .nilIface => if cx || cy then binOp op t a b else stuck "two nil interfaces"
 | .agg _, .agg _ => .program λ p => if p.eqGuardType p.depth t then stuck "an interface in a part" else binOp op t a b
 | _,_=>binOp op t a b
def fL (op:BinOp) (t:TypeId) (cx cy:Bool) (a b:Value):Sem Value:=
 match op with
 | .eql=>Vf .eql t cx cy a b
 | .neq=>Vf .neq t cx cy a b
 | op=>binOp op t a b
def Vg (P:Program) (op:BinOp) (t:TypeId) (x y:Operand):Bool:=
 match op with
 | .eql | .neq=>match P.underlying t with
  | some (.pointer _) | some .unsafePointer=>!(ID x || ID y)
  | _=>false
 | _=>false
def isMap (P:Program) (t:TypeId):Bool:=match P.underlying t with | some (.map _ _) | some (.chan _ _)=>true | _=>false
def BV (P:Program) (s d:TypeId):Nat:=
 match P.underlying d with
 | some (.slice _)=>2
 | some .string=>match P.underlying s with | some (.slice _)=>1 | _=>0
 | _=>0
def tL (P:Program) (o:Oper) (ρ:Operand->Value):zD:=
 match o.op with
 | .move x | .assign x=>.val (ρ x)
 | .pick c a b=>.p (KP (ρ c) (ρ a) (ρ b))
 | .alloc t=>.e (Instr.alloc t true (.tuple #[]))
 | .box t x=>.e (Instr.box t (ρ x))
 | .build t parts=>.p (Instr.build t (parts.toList.map λ q=>(q.1,ρ q.2)).toArray)
 | .buildSlice t n parts=>.e (Instr.buildSlice t n (parts.toList.map λ q=>(q.1,ρ q.2)).toArray)
 | .load t a=>.q (Instr.loadAt t (ρ a))
 | .store t a x=>.u (Instr.storeAt t (ρ a) (ρ x))
 | .nilCheck x=>.p (IU (ρ x))
 | .binOp op t x y _=>if Vg P op t x y then .q (fL op t (ID x) (ID y) (ρ x) (ρ y)) else .p (fL op t (ID x) (ID y) (ρ x) (ρ y))
 | .unOp op _ x=>.p (Op.unary op (ρ x))
 | .convert s d x=>match BV P s d with | 0=>.p (convert s d (ρ x)) | 1=>.q (convert s d (ρ x)) | _=>.e (convert s d (ρ x))
 | .makeInterface t x=>.q (Instr.makeInterface t (ρ x))
 | .makeFunc fn first cap=>.val (.func fn (first.toList.map ρ).toArray (cap.toList.map ρ).toArray)
 | .makeMap t r=>.e (Instr.makeMap t (r.map ρ))
 | .makeSlice t l c=>.e (Instr.makeSlice t (ρ l) (ρ c))
 | .slice t x lo hi mx=>.p (Instr.sliceAt t (ρ x) (lo.map ρ) (hi.map ρ) (mx.map ρ))
 | .fieldAddr s x f=>.p (Instr.fieldAt s (ρ x) f)
 | .field t x f=>.p (Instr.field t (ρ x) f)
 | .indexAddr t x i=>.p (Instr.indexAt t (ρ x) (ρ i))
 | .index t x i=>.p (Instr.index t (ρ x) (ρ i))
 | .lookup t x i ok=>.q (Instr.lookup t (ρ x) (ρ i) ok)
 | .mapUpdate t m k x | .insert t m k x=>.u (Instr.mapUpdate t (ρ m) (ρ k) (ρ x))
 | .mapEntry t m k=>.e (Instr.mapEntry t (ρ m) (ρ k))
 | .entryStore t m s x=>.u (Instr.entryStore t (ρ m) (ρ s) (ρ x))
 | .range t x=>.e (Instr.range t (ρ x))
 | .next it s=>.e (Instr.next (ρ it) s o.type)
 | .entry it=>.q (Instr.entry (ρ it))
 | .typeAssert x t u ok=>.q (Instr.typeAssert (ρ x) t u ok)
 | .extract t i=>.p (Instr.extract (ρ t) i)
 | .call c=>
  match c.callee with
  | .value (.func f)=>.call f (c.args.toList.map ρ)
  | .value x=>.BU (ρ x) (c.args.toList.map ρ)
  | .invoke ..=>.bad
  | .builtin b=>
   match b with
   | .len=>if isMap P (c.argTypes.getD 0 0) then .q (Builtin.len_ c.argTypes o.type (c.args.toList.map ρ).toArray) else .p (Builtin.len_ c.argTypes o.type (c.args.toList.map ρ).toArray)
   | .cap=>.p (Builtin.cap_ c.argTypes o.type (c.args.toList.map ρ).toArray)
   | .min=>.p (Builtin.min_ c.argTypes o.type (c.args.toList.map ρ).toArray)
   | .max=>.p (Builtin.max_ c.argTypes o.type (c.args.toList.map ρ).toArray)
   | .append=>.e (Builtin.append_ c.argTypes o.type (c.args.toList.map ρ).toArray)
   | .copy=>.e (Builtin.copy_ c.argTypes o.type (c.args.toList.map ρ).toArray)
   | .clear=>.e (Builtin.clear_ c.argTypes o.type (c.args.toList.map ρ).toArray)
   | .delete=>.e (Builtin.delete_ c.argTypes o.type (c.args.toList.map ρ).toArray)
   | _=>.bad
 | _=>.bad
def zE (P:Program) (k:zD) (K:Value->World->Prop) (w:World):Prop:=
 match k with
 | .val v=>K v w
 | .p m=>cU P m (λ v=>K v w)
 | .q m=>q7 P m w (λ v=>K v w)
 | .e m=>gd P m w K
 | .u m=>BT P m w (λ w'=>K undef w')
 | .call f args=>xX P f args w K
 | .BU fv args=>eg P fv args w K
 | .bad=>False
def zD.quiet:zD->Bool
 | .val _ | .p _ | .q _=>true
 | _=>false
def zD.reads:zD->Bool
 | .q _=>true
 | _=>false
def zD.has (P:Program) (k:zD) (w:World) (v:Value):Prop:=
 match k with
 | .val x=>x=v
 | .p m=>pr P m=some v
 | .q m=>m.run P w = .ok v w
 | _=>False
theorem zE.has {P:Program} {k:zD} {K:Value->World->Prop} {w:World} (hq:k.quiet=true) (h:zE P k K w):∃ v,k.has P w v/\K v w:=by
 cases k <;> simp only [zD.quiet,Bool.false_eq_true] at hq <;> simp only [zE] at h
 case val v=>exact ⟨v,rfl,h⟩
 case p m=>exact h.ex
 case q m=>exact h.ex
theorem zD.Nj {P:Program} {k:zD} {w w':World} {v:Value} (hr:k.reads=false) (h:k.has P w v):k.has P w' v:=by
 cases k <;> simp only [zD.has,zD.reads,Bool.true_eq_false] at *
 ·exact h
 exact h
theorem zE.PC {P:Program} {k:zD} {K:Value->World->Prop} {w:World} {v:Value} (h:k.has P w v) (hk:K v w):zE P k K w:=by
 cases k <;> simp only [zD.has] at h <;> simp only [zE]
 case val u=>subst h; exact hk
 case p m=>exact ⟨v,h,hk⟩
 case q m=>exact ⟨v,h,hk⟩
theorem zE.mono {P:Program} {k:zD} {K K':Value->World->Prop} {w:World} (h:zE P k K w) (hk:∀ v w,K v w->K' v w):zE P k K' w:=by
 cases k <;> simp only [zE] at *
 case val v=>exact hk _ _ h
 case p m=>exact ⟨let ⟨v,a,b⟩:=h.ex; ⟨v,a,hk _ _ b⟩⟩
 case q m=>exact ⟨let ⟨v,a,b⟩:=h.ex; ⟨v,a,hk _ _ b⟩⟩
 case e m=>exact ⟨let ⟨v,w',a,b⟩:=h.ex; ⟨v,w',a,hk _ _ b⟩⟩
 case u m=>exact ⟨let ⟨w',a,b⟩:=h.ex; ⟨w',a,hk _ _ b⟩⟩
 case call f args=>
  rcases h.ex with ⟨a,b⟩ | ⟨v,w',a,b⟩
  ·exact ⟨.inl ⟨a,b.mono λ e w' r=>r.mono hk⟩⟩
  ·exact ⟨.inr ⟨v,w',a,hk _ _ b⟩⟩
 case BU fv args=>
  rcases h.ex with ⟨g,f,c,a,b,d⟩ | ⟨l,a,fn,t,s,b,c,d⟩
  ·exact ⟨.inl ⟨g,f,c,a,b,d.mono λ e w' r=>r.mono hk⟩⟩
  ·exact ⟨.inr ⟨l,a,fn,t,s,b,c,d.mono λ e w' r=>r.mono hk⟩⟩
theorem nG {r:Option Nat} {P:Program} {o:Oper} {a:Act} {w:World}:∀ f,o.about P w a.eval=some f->(FO r).fn f:=λ _ _=>trivial
theorem Fh {r:Option Nat} {P:Program} {o:Oper} {a:Act} {next:Act->World->Prop} {Q:Exit->Act->World->Prop} {f:FuncId} {args:Array Value} {w:World}
  {K:Value->World->Prop} (h:Calls P f args w (mW K)) (hk:∀ v w',K v w'->next (a.put o.dst v) w'):o.uponIn (FO r) 0 P a next Q (.ok (.enter f args) w):=by
 rw [Oper.uponIn_enter]
 refine ⟨vm,lS.2 (h.mono λ e w' ⟨v,he,hv⟩=>?_)⟩
 subst he
 exact hk _ _ hv
theorem Bw {r:Option Nat} {P:Program} {o:Oper} {a:Act} {next:Act->World->Prop} {Q:Exit->Act->World->Prop} {l:Nat} {f:FuncId} {tmps:Array Value} {assign body:Code} {w:World}
  {K:Value->World->Prop} (h:RoundIn (FO none) 0 P l f tmps assign body w (mW K)) (hk:∀ v w',K v w'->next (a.put o.dst v) w'):o.uponIn (FO r) 0 P a next Q (.ok (.round l f tmps assign body) w):=by
 rw [Oper.uponIn_round]
 refine ⟨vm,?_⟩
 have h':RoundIn (FO r) 0 P l f tmps assign body w (mW K):=h
 refine h'.mono λ e w' ⟨v,he,hv⟩=>?_
 subst he
 exact hk _ _ hv
theorem iF {r:Option Nat} {P:Program} {o:Oper} {a:Act} {next:Act->World->Prop} {Q:Exit->Act->World->Prop} {w w':World} {v:Value} (E9:∀ c,o.op≠.defer c)
  (h:(execOp a.eval o).run P w = .ok (.value v) w') (hk:next (a.put o.dst v) w'):o.wpIn (FO r) 0 P a w next Q:=by
 unfold Oper.wpIn; rw [Oper.semAt_eq _ _ _ E9,h,Oper.uponIn_value]; exact ⟨nG,hk⟩
theorem IV {r:Option Nat} {P:Program} {o:Oper} {a:Act} {next:Act->World->Prop} {Q:Exit->Act->World->Prop} {w w':World} (E9:∀ c,o.op≠.defer c)
  (h:(execOp a.eval o).run P w = .ok .skip w') (hk:next (a.put o.dst undef) w'):o.wpIn (FO r) 0 P a w next Q:=by
 unfold Oper.wpIn; rw [Oper.semAt_eq _ _ _ E9,h,Oper.uponIn_skip]; exact ⟨nG,hk⟩
theorem BW {P:Program} {m:Sem Value} {w w':World} {v:Value} (h:m.run P w = .ok v w') :
  (do pure (.value (<- m)):Sem Next).run P w = .ok (.value v) w':=by rw [aZ h]; rfl
theorem af1 {P:Program} {m:Sem Unit} {w w':World} (h:m.run P w = .ok () w') :
  (do m; pure .skip:Sem Next).run P w = .ok .skip w':=by rw [aZ h]; rfl
theorem yR {α β:Type} (f:α->β) (l:Array α):(l.toList.map f).toArray=l.map f:=by
 apply Array.ext'; simp
def eqG (t:TypeId) (x y:Operand) (a b:Value):Sem Unit:=
 match a,b with
 | .nilIface,.nilIface=>if (ID x || ID y)=true then pure () else do
   if <- Op.eqGuardIn Op.maxDepth t a b then unsupported (.noEntry "binop/eql: two nil values of an interface type with methods, neither of them the literal nil")
 | .agg _,.agg _=>do
  if !(<- program).eqGuardType (<- program).depth t then return
  if <- Op.eqGuardIn Op.maxDepth t a b then unsupported (.noEntry "binop/eql: two nil values of an interface type with methods, in a part of a struct or an array")
 | _,_=>pure ()
theorem xY {P:Program} {op:BinOp} (gZ:op = .eql\/op = .neq) {t:TypeId} {x y:Operand} {a b:Value} {w w':World} {v:Value}
  (h:(Vf op t (ID x) (ID y) a b).run P w = .ok v w'):(eqGuard op t x y a b).run P w = .ok () w/\(binOp op t a b).run P w = .ok v w':=by
 have hg:eqGuard op t x y a b=eqG t x y a b:=by rcases gZ with rfl | rfl <;> cases x <;> cases y <;> rfl
 rw [hg]
 clear hg
 unfold eqG
 unfold Vf at h
 split at h
 ·split at h
  ·rename_i hc
   refine ⟨?_,h⟩
   show ((if (ID x || ID y)=true then pure () else _:Sem Unit).run P w)=_
   rw [if_pos hc]
   rfl
  simp [stuck] at h
 ·rename_i c1 c2
  have h' : (if P.eqGuardType P.depth t then stuck "an interface in a part" else binOp op t (.agg c1) (.agg c2) : Sem Value).run P w = .ok v w' := h
  split at h'
  ·simp [stuck] at h'
  rename_i hc
  refine ⟨?_,h'⟩
  show ((if (!P.eqGuardType P.depth t)=true then pure () else _:Sem Unit).run P w)=_
  rw [if_pos (by simpa using hc)]
  rfl
 exact ⟨rfl,h⟩
theorem Fi {P:Program} {op:BinOp} {t:TypeId} {x y:Operand} {a b:Value} {w w':World} {v:Value}
  (h:(fL op t (ID x) (ID y) a b).run P w = .ok v w'):(do eqGuard op t x y a b; binOp op t a b:Sem Value).run P w = .ok v w':=by
 unfold fL at h
 split at h
 ·obtain ⟨h1,h2⟩:=xY (.inl rfl) h
  rw [aZ h1]; exact h2
 ·obtain ⟨h1,h2⟩:=xY (.inr rfl) h
  rw [aZ h1]; exact h2
 rename_i n1 n2
 have h1:(eqGuard op t x y a b).run P w = .ok () w:=by
  unfold eqGuard
  cases op <;> first | rfl | exact (n1 rfl).elim | exact (n2 rfl).elim
 rw [aZ h1]; exact h
theorem zE.wp {r:Option Nat} {ds:List Nat} {P:Program} {n:Nat} {o:Oper} {e:Env} {a:Act} {w:World} {K:Value->World->Prop} {Q:Exit->Act->World->Prop} {next:Act->World->Prop}
  (ha:eI ds n e a) (h:zE P (tL P o (ev e)) K w) (hk:∀ v w',K v w'->next (a.put o.dst v) w'):o.wpIn (FO r) 0 P a w next Q:=by
 have he:=ha.eval
 have E9:∀ c,o.op≠.defer c:=λ c hc=>by unfold tL at h; rw [hc] at h; exact h
 have V:∀ {m:Sem Value},cU P m (λ v=>K v w)->execOp (ev e) o=(do pure (.value (<- m)):Sem Next)->o.wpIn (FO r) 0 P a w next Q:=λ hp hx=>by
  obtain ⟨v,h1,h2⟩:=hp.ex
  exact iF (w':=w) E9 (by rw [he,hx]; exact BW (bM h1 w)) (hk _ _ h2)
 have V':∀ {m:Sem Value},q7 P m w (λ v=>K v w)->execOp (ev e) o=(do pure (.value (<- m)):Sem Next)->o.wpIn (FO r) 0 P a w next Q:=λ hp hx=>by
  obtain ⟨v,h1,h2⟩:=hp.ex
  exact iF (w':=w) E9 (by rw [he,hx]; exact BW h1) (hk _ _ h2)
 have E:∀ {m:Sem Value},gd P m w K->execOp (ev e) o=(do pure (.value (<- m)):Sem Next)->o.wpIn (FO r) 0 P a w next Q:=λ hp hx=>by
  obtain ⟨v,w',h1,h2⟩:=hp.ex
  exact iF E9 (by rw [he,hx]; exact BW h1) (hk _ _ h2)
 have U:∀ {m:Sem Unit},BT P m w (λ w'=>K undef w')->execOp (ev e) o=(do m; pure .skip:Sem Next)->o.wpIn (FO r) 0 P a w next Q:=λ hp hx=>by
  obtain ⟨w',h1,h2⟩:=hp.ex
  exact IV E9 (by rw [he,hx]; exact af1 h1) (hk _ _ h2)
 unfold tL at h
 cases gZ:o.op with
 | move x=>rw [gZ] at h; exact iF (w':=w) E9 (by rw [he]; simp only [execOp,gZ]; rfl) (hk _ _ h)
 | assign x=>rw [gZ] at h; exact iF (w':=w) E9 (by rw [he]; simp only [execOp,gZ]; rfl) (hk _ _ h)
 | pick c x y=>
  rw [gZ] at h
  obtain ⟨v,h1,h2⟩:=h.ex
  refine iF (w':=w) E9 ?_ (hk _ _ h2)
  rw [he]; simp only [execOp,gZ]
  have:=bM h1 w
  unfold KP at this
  revert this
  cases ev e c <;> simp only [asBool] <;> intro this <;> first | (simp only [stuck] at this; exact absurd this (by simp [Sem.run])) | skip
  case bool t=>
   have e2:v=(if t=true then ev e x else ev e y):=by
    have:(Result.ok (if t=true then ev e x else ev e y) w:Result Value) = .ok v w:=this
    simpa using this.symm
   rw [e2]; rfl
 | alloc t=>rw [gZ] at h; exact E h (by simp only [execOp,gZ])
 | box t x=>rw [gZ] at h; exact E h (by simp only [execOp,gZ])
 | build t ps=>rw [gZ] at h; exact V h (by simp only [execOp,gZ,yR])
 | buildSlice t n ps=>rw [gZ] at h; exact E h (by simp only [execOp,gZ,yR])
 | insert t m k x=>rw [gZ] at h; exact U h (by simp only [execOp,gZ])
 | load t x=>rw [gZ] at h; exact V' h (by simp only [execOp,gZ])
 | store t x y=>rw [gZ] at h; exact U h (by simp only [execOp,gZ])
 | nilCheck x=>
  rw [gZ] at h
  obtain ⟨v,h1,h2⟩:=h.ex
  refine iF (w':=w) E9 ?_ (hk _ _ h2)
  rw [he]; simp only [execOp,gZ]
  revert h1
  cases hx:ev e x with
  | pointer p=>cases p <;> simp [IU,stuck,pr,cR] <;> (try (rintro rfl; rfl))
  | func fn f c=>cases fn <;> simp [IU,stuck,pr,cR] <;> (try (rintro rfl; rfl))
  | _=>simp [IU,stuck,pr,cR] <;> (try (rintro rfl; rfl))
 | binOp op t x y u=>
  rw [gZ] at h
  dsimp only at h
  split at h
  ·obtain ⟨v,h1,h2⟩:=h.ex
   exact iF (w':=w) E9 (by rw [he]; simp only [execOp,gZ]; exact BW (Fi h1)) (hk _ _ h2)
  ·obtain ⟨v,h1,h2⟩:=h.ex
   exact iF (w':=w) E9 (by rw [he]; simp only [execOp,gZ]; exact BW (Fi (bM h1 w))) (hk _ _ h2)
 | unOp op t x=>rw [gZ] at h; exact V h (by simp only [execOp,gZ])
 | convert s d x=>
  rw [gZ] at h
  dsimp only at h
  split at h
  ·exact V h (by simp only [execOp,gZ])
  ·exact V' h (by simp only [execOp,gZ])
  ·exact E h (by simp only [execOp,gZ])
 | makeInterface t x=>rw [gZ] at h; exact V' h (by simp only [execOp,gZ])
 | makeFunc fn f c=>rw [gZ] at h; exact iF (w':=w) E9 (by rw [he]; simp only [execOp,gZ,<- yR]; rfl) (hk _ _ h)
 | makeMap t r=>rw [gZ] at h; exact E h (by simp only [execOp,gZ])
 | makeSlice t l c=>rw [gZ] at h; exact E h (by simp only [execOp,gZ])
 | slice t x lo hi mx=>rw [gZ] at h; exact V h (by simp only [execOp,gZ])
 | fieldAddr s x f=>rw [gZ] at h; exact V h (by simp only [execOp,gZ])
 | field t x f=>rw [gZ] at h; exact V h (by simp only [execOp,gZ])
 | indexAddr t x i=>rw [gZ] at h; exact V h (by simp only [execOp,gZ])
 | index t x i=>rw [gZ] at h; exact V h (by simp only [execOp,gZ])
 | lookup t x i ok=>rw [gZ] at h; exact V' h (by simp only [execOp,gZ])
 | mapUpdate t m k x=>rw [gZ] at h; exact U h (by simp only [execOp,gZ])
 | mapEntry t m k=>rw [gZ] at h; exact E h (by simp only [execOp,gZ])
 | entryStore t m s x=>rw [gZ] at h; exact U h (by simp only [execOp,gZ])
 | range t x=>rw [gZ] at h; exact E h (by simp only [execOp,gZ])
 | next it s=>rw [gZ] at h; exact E h (by simp only [execOp,gZ])
 | entry it=>rw [gZ] at h; exact V' h (by simp only [execOp,gZ])
 | typeAssert x t u ok=>rw [gZ] at h; exact V' h (by simp only [execOp,gZ])
 | extract t i=>rw [gZ] at h; exact V h (by simp only [execOp,gZ])
 | call c=>
  rw [gZ] at h
  dsimp only at h
  have Vh:(c.args.toList.map (ev e)).toArray=c.args.map (ev e):=yR _ _
  cases hc:c.callee with
  | value x=>
   rw [hc] at h
   have hval:∀ {g:FuncId} {first cap:Array Value},ev e x = .func (.func g) first cap->Plain P g->Calls P g (first++(c.args.toList.map (ev e)).toArray++cap) w (mW K)->o.wpIn (FO r) 0 P a w next Q:=by
    intro g first cap hx hp gD
    unfold Oper.wpIn
    rw [Oper.semAt_eq _ _ _ E9]
    have hr:(execOp a.eval o).run P w = .ok (.enter g (first++(c.args.toList.map (ev e)).toArray++cap)) w:=by
     rw [he]
     simp only [execOp,gZ]
     have h1:(resolve (ev e) c o.type).run P w = .ok {target:=.fn (.func g) cap,args:=first++c.args.map (ev e)} w:=by
      simp only [resolve,hc,hx]; rfl
     rw [aZ h1]
     show (callFunc g (first++c.args.map (ev e)++cap)).run P w=_
     rw [qe hp,Vh]
    rw [hr]
    exact ⟨nG,Fh gD λ v w' hv=>hk v w' hv⟩
   have hyl:∀ {l:Nat},ev e x = .func (.yield l) #[] #[]->YieldAt (FO none) 0 P l (c.args.toList.map (ev e)).toArray w (mW K)->o.wpIn (FO r) 0 P a w next Q:=by
    rintro l hx ⟨fn,tmps,assign,body,hy,hr⟩
    unfold Oper.wpIn
    rw [Oper.semAt_eq _ _ _ E9]
    have Fa:(execOp a.eval o).run P w = .ok (.round l fn tmps assign body) w:=by
     rw [he]
     simp only [execOp,gZ]
     have h1:(resolve (ev e) c o.type).run P w = .ok {target:=.fn (.yield l) #[],args:=#[]++c.args.map (ev e)} w:=by
      simp only [resolve,hc,hx]; rfl
     rw [aZ h1]
     show (Instr.yield l (#[]++c.args.map (ev e))).run P w=_
     rw [Array.empty_append,<- Vh]; exact hy
    rw [Fa]
    exact ⟨nG,Bw hr λ v w' hv=>hk v w' hv⟩
   have Dk:eg P (ev e x) (c.args.toList.map (ev e)) w K->o.wpIn (FO r) 0 P a w next Q:=λ h=>by
    rcases h.ex with ⟨g,first,cap,h1,h2,h3⟩ | ⟨l,h1,h2⟩
    ·exact hval h1 h2 h3
    ·exact hyl h1 h2
   cases x with
   | func f=>
    rcases h.ex with ⟨h1,h2⟩ | ⟨v,w',h1,h2⟩
    ·exact hval (g:=f) (first:=#[]) (cap:=#[]) rfl h1 (by simpa using h2)
    ·refine iF E9 ?_ (hk _ _ h2)
     rw [he]
     simp only [execOp,gZ]
     have h3:(resolve (ev e) c o.type).run P w = .ok {target:=.fn (.func f) #[],args:=#[]++c.args.map (ev e)} w:=by
      simp only [resolve,hc,ev]; rfl
     rw [aZ h3]
     show (callFunc f (#[]++c.args.map (ev e)++#[])).run P w=_
     rw [<- Vh,Array.empty_append,Array.append_empty]
     exact h1
   | tmp t=>exact Dk h
   | const v=>exact Dk h
   | global g=>exact Dk h
  | invoke r nm=>rw [hc] at h; exact h.elim
  | builtin b=>
   rw [hc] at h
   dsimp only at h
   have hb:∀ {m:Sem Value},builtin b c.argTypes o.type (c.args.map fun | .const _=>true | _=>false) (c.args.map (ev e))=(do pure (.value (<- m)):Sem Next)->
     execOp (ev e) o=(do pure (.value (<- m)):Sem Next):=by
    intro m hm
    simp only [execOp,gZ]
    have h1:resolve (ev e) c o.type=pure {target:=.builtin b c.argTypes o.type (c.args.map fun | .const _=>true | _=>false),args:=c.args.map (ev e)}:=by
     simp only [resolve,hc]; rfl
    rw [h1]
    exact hm
   rw [Vh] at h
   cases b <;> first | exact h.elim | skip
   case len=>
    dsimp only at h
    split at h
    ·exact V' h (hb rfl)
    ·exact V h (hb rfl)
   case cap=>exact V h (hb rfl)
   case min=>exact V h (hb rfl)
   case max=>exact V h (hb rfl)
   case append=>exact E h (hb rfl)
   case copy=>exact E h (hb rfl)
   case clear=>exact E h (hb rfl)
   case delete=>exact E h (hb rfl)
 | _=>rw [gZ] at h; exact h.elim
def pre (o:Oper):List Nat:=(o.after.toList.filter λ e=>Region.binds .any e).map (·.on)
def rH (ops:List Oper) (j:Nat):Option Nat:=(ops[j]?).bind (·.dst)
def looks (ops:List Oper) (o:Oper):List Nat:=
 (o.op.operands.toList.filterMap fun | .tmp t=>some t | _=>none)++(match o.guard with | some (j,_)=>(rH ops j).toList | none=>[])
def iG (ops:List Oper) (o:Oper) (e:Env):Bool:=
 match o.guard with
 | none=>true
 | some (j,b)=>match rH ops j with
  | none=>false
  | some s=>match e s with
   | .bool b'=>b' == b
   | _=>false
theorem wT {ds:List Nat} {n:Nat} {e:Env} {a:Act} (h:eI ds n e a) (ops:List Oper) (o:Oper):Region.wanted o (yielded ops.toArray a.tmps)=iG ops o e:=by
 unfold Region.wanted iG
 cases o.guard with
 | none=>rfl
 | some g=>
  obtain ⟨j,b⟩:=g
  simp only [yielded,rH,List.getElem?_toArray]
  cases (ops[j]?).bind (·.dst) with
  | none=>simp
  | some s=>
   have hg:=h.get s
   simp only [Option.bind_some]
   rw [<- hg,Array.getD_eq_getD_getElem?]
   cases a.tmps[s]? with
   | none=>simp [undef]
   | some v=>cases v <;> simp
theorem Nk {P:Program} {o:Oper} {ρ ρ':Operand->Value} (h:∀ x∈o.op.operands,ρ x=ρ' x):tL P o ρ=tL P o ρ':=by
 unfold tL
 cases gZ:o.op <;> rw [gZ] at h <;> simp only [Op.operands] at h <;> dsimp only
 case call c=>
  have ha:∀ x∈c.args,ρ x=ρ' x:=λ x hx=>h x (by simp [Call.operands,hx])
  have hm:c.args.toList.map ρ=c.args.toList.map ρ':=List.map_congr_left λ x hx=>ha x (by simpa using hx)
  rw [hm]
  cases hc:c.callee with
  | value x=>
   have hx:ρ x=ρ' x:=h x (by simp [Call.operands,hc])
   cases x <;> simp only [hx]
  | _=>rfl
 case build t ps=>
  have hm:(ps.toList.map λ q=>(q.1,ρ q.2))=ps.toList.map λ q=>(q.1,ρ' q.2):=
   List.map_congr_left λ q hq=>by rw [h q.2 (by simp; exact ⟨q.1,by simpa using hq⟩)]
  simp only [hm]
 case buildSlice t n ps=>
  have hm:(ps.toList.map λ q=>(q.1,ρ q.2))=ps.toList.map λ q=>(q.1,ρ' q.2):=
   List.map_congr_left λ q hq=>by rw [h q.2 (by simp; exact ⟨q.1,by simpa using hq⟩)]
  simp only [hm]
 case makeFunc fn f c=>
  have h1:f.toList.map ρ=f.toList.map ρ':=List.map_congr_left λ x hx=>h x (by simp at hx |-; exact .inl hx)
  have h2:c.toList.map ρ=c.toList.map ρ':=List.map_congr_left λ x hx=>h x (by simp at hx |-; exact .inr hx)
  simp only [h1,h2]
 case makeMap t r=>
  have:r.map ρ=r.map ρ':=by cases r with | none=>rfl | some x=>simp [h x (by simp)]
  simp only [this]
 case slice t x lo hi mx=>
  have h0:ρ x=ρ' x:=h x (by simp)
  have h1:lo.map ρ=lo.map ρ':=by cases lo with | none=>rfl | some y=>simp [h y (by simp)]
  have h2:hi.map ρ=hi.map ρ':=by cases hi with | none=>rfl | some y=>simp [h y (by simp)]
  have h3:mx.map ρ=mx.map ρ':=by cases mx with | none=>rfl | some y=>simp [h y (by simp)]
  simp only [h0,h1,h2,h3]
 case load t x=>rw [h x (by simp)]
 case store t x y=>rw [h x (by simp),h y (by simp)]
 case pick c x y=>rw [h x (by simp),h y (by simp),h c (by simp)]
 case binOp op t x y u=>rw [h x (by simp),h y (by simp)]
 case insert t m k x=>rw [h m (by simp),h k (by simp),h x (by simp)]
 case mapUpdate t m k x=>rw [h m (by simp),h k (by simp),h x (by simp)]
 case entryStore t m k x=>rw [h m (by simp),h k (by simp),h x (by simp)]
 case mapEntry t m k=>rw [h m (by simp),h k (by simp)]
 case lookup t m k ok=>rw [h m (by simp),h k (by simp)]
 case indexAddr t m k=>rw [h m (by simp),h k (by simp)]
 case index t m k=>rw [h m (by simp),h k (by simp)]
 case makeSlice t m k=>rw [h m (by simp),h k (by simp)]
 all_goals first | rfl | (rename_i x; rw [h x (by simp)]) | (rename_i x _; rw [h x (by simp)]) | (rename_i x _ _; rw [h x (by simp)]) | (rename_i x _ _ _; rw [h x (by simp)])
theorem abu {e:Env} {d:Nat} {v:Value} {x:Operand} (h:x≠.tmp d):ev (rz e d v) x=ev e x:=by
 cases x <;> simp only [ev]
 case tmp t=>exact jP _ _ λ hh=>h (by rw [hh])
theorem yS {P:Program} {ops:List Oper} {o:Oper} {e:Env} {d:Option Nat} {v:Value} (h:∀ k,d=some k->k ∉ looks ops o) :
  tL P o (ev (gC e d v))=tL P o (ev e):=by
 cases d with
 | none=>rfl
 | some d=>
  refine Nk λ x hx=>abu λ hxd=>h d rfl ?_
  subst hxd
  exact List.mem_append_left _ (List.mem_filterMap.2 ⟨.tmp d,by simpa using hx,rfl⟩)
theorem sR {ops:List Oper} {o:Oper} {e:Env} {d:Option Nat} {v:Value} (h:∀ k,d=some k->k ∉ looks ops o) :
  iG ops o (gC e d v)=iG ops o e:=by
 cases d with
 | none=>rfl
 | some d=>
  have h:=h d rfl
  unfold iG
  unfold looks at h
  cases hg:o.guard with
  | none=>rfl
  | some g=>
   obtain ⟨j,b⟩:=g
   rw [hg] at h
   dsimp only at h |-
   cases hs:rH ops j with
   | none=>rfl
   | some s=>
    rw [hs] at h
    have:s≠d:=λ hh=>h (by simp [hh])
    simp only [gC,jP _ _ this]
def ZH (ops:List Oper) (x y:Oper):Prop:=
 (∀ d,x.dst=some d->d ∉ looks ops y/\y.dst≠some d)/\(∀ d,y.dst=some d->d ∉ looks ops x)
theorem Nl {e:Env} {d d':Option Nat} {v v':Value} (h:∀ k,d=some k->d'≠some k):gC (gC e d v) d' v'=gC (gC e d' v') d v:=by
 cases d with
 | none=>rfl
 | some d=>cases d' with
  | none=>rfl
  | some d'=>exact PB _ _ _ λ hh=>h d rfl (by rw [hh])
def vh (P:Program) (ops:List Oper) (o:Oper) (K:Env->World->Prop) (e:Env) (w:World):Prop:=
 if iG ops o e=true then zE P (tL P o (ev e)) (λ v w'=>K (gC e o.dst v) w') w else K (gC e o.dst undef) w
theorem vh.mono {P:Program} {ops:List Oper} {o:Oper} {K K':Env->World->Prop} {e:Env} {w:World} (h:vh P ops o K e w)
  (hk:∀ v w',K (gC e o.dst v) w'->K' (gC e o.dst v) w'):vh P ops o K' e w:=by
 unfold vh at *
 split
 ·rename_i hw; rw [if_pos hw] at h; exact h.mono λ v w'=>hk v w'
 rename_i hw; rw [if_neg hw] at h; exact hk _ _ h
def IW (ops:List Oper) (L:Nat->Bool) (i:Nat):Prop:=L i=false/\∃ o,ops[i]? = some o/\∀ p∈pre o,L p=true
def jQ (L:Nat->Bool) (i:Nat):Nat->Bool:=λ k=>if k=i then true else L k
def Down (ops:List Oper) (L:Nat->Bool):Prop:=∀ i o,L i=true->ops[i]? = some o->∀ p∈pre o,L p=true
theorem BX (L:Nat->Bool) (i:Nat):jQ L i i=true:=by simp [jQ]
theorem yT (L:Nat->Bool) {i k:Nat} (h:k≠i):jQ L i k=L k:=by simp [jQ,h]
theorem yU (L:Nat->Bool) (i:Nat) {k:Nat} (h:L k=true):jQ L i k=true:=by unfold jQ; split <;> simp [h]
theorem Nm (L:Nat->Bool) (i j:Nat):jQ (jQ L i) j=jQ (jQ L j) i:=by
 funext k; unfold jQ; split <;> split <;> rfl
theorem Down.set {ops:List Oper} {L:Nat->Bool} {i:Nat} (h:Down ops L) (hr:IW ops L i):Down ops (jQ L i):=by
 intro k o hk ho p hp
 by_cases e:k=i
 ·subst e
  obtain ⟨_,o',Fb,iH⟩:=hr
  rw [ho] at Fb; cases Fb
  exact yU _ _ (iH p hp)
 rw [yT _ e] at hk
 exact yU _ _ (h k o hk ho p hp)
theorem IW.set {ops:List Oper} {L:Nat->Bool} {i j:Nat} (h:IW ops L j) (iS:j≠i):IW ops (jQ L i) j:=
 ⟨by rw [yT _ iS]; exact h.1,let ⟨o,ho,iH⟩:=h.2; ⟨o,ho,λ p hp=>yU _ _ (iH p hp)⟩⟩
inductive IX (ops:List Oper):Nat->Nat->Prop
 | one {j i:Nat} {o:Oper} (h:ops[j]? = some o) (hp:i∈pre o):IX ops j i
 | more {j p i:Nat} {o:Oper} (h:ops[j]? = some o) (hp:p∈pre o) (hd:IX ops p i):IX ops j i
theorem IX.listed {ops:List Oper} {L:Nat->Bool} (hL:Down ops L) {j i:Nat} (h:IX ops j i):(∀ o,ops[j]? = some o->∀ p∈pre o,L p=true)->L i=true:=by
 induction h with
 | one h hp=>intro iH; exact iH _ h _ hp
 | more h hp hd ih=>intro iH; exact ih λ o ho q hq=>hL _ o (iH _ h _ hp) ho q hq
theorem IX.Bx {ops:List Oper} {L:Nat->Bool} (hL:Down ops L) {j i:Nat} (h:IX ops j i) (hr:IW ops L j):L i=true:=
 h.listed hL λ o ho p hp=>by obtain ⟨_,o',Fb,iH⟩:=hr; rw [ho] at Fb; cases Fb; exact iH p hp
def WS (P:Program) (ops:List Oper) (Q:Env->World->Prop) (S:Nat->World->Prop):Nat->(Nat->Bool)->Env->World->Prop
 | 0,L,e,w=>(∀ i,¬ IW ops L i)/\Q e w
 | f+1,L,e,w=>((∀ i,¬ IW ops L i)->Q e w)/\
   ∀ i o,ops[i]? = some o->IW ops L i->vh P ops o (λ e' w'=>(w'=w\/S i w')/\WS P ops Q S f (jQ L i) e' w') e w
theorem WS.weaken {P:Program} {ops:List Oper} {Q:Env->World->Prop} {S S':Nat->World->Prop} (h:∀ i w,S i w->S' i w) :
  ∀ (f:Nat) (_L:Nat->Bool) (_e:Env) (_w:World),WS P ops Q S f _L _e _w->WS P ops Q S' f _L _e _w
 | 0,_,_,_,hh=>hh
 | f+1,L,e,w,hh=>⟨hh.1,λ i o ho hr=>(hh.2 i o ho hr).mono λ _ _ ⟨h1,h2⟩=>⟨h1.imp id (h _ _),WS.weaken h f _ _ _ h2⟩⟩
theorem WS.first {P:Program} {ops:List Oper} {Q:Env->World->Prop} {S:Nat->World->Prop} {i:Nat} {oi:Oper} {X:zD} {b:Bool} {v:Value}
  (hi:ops[i]? = some oi) (hn:b=false->v=undef) :
  ∀ (f:Nat) (L:Nat->Bool) (e:Env) (w:World),Down ops L->IW ops L i->
   (∀ j oj,ops[j]? = some oj->j≠i->L j=false->i ∉ pre oj->ZH ops oi oj)->
   tL P oi (ev e)=X->iG ops oi e=b->(b=true->X.has P w v)->
   WS P ops Q (λ j w'=>S j w'/\(IX ops j i\/(b=true->X.has P w' v))) f (jQ L i) (gC e oi.dst v) w->WS P ops Q S (f+1) L e w:=by
 have done:∀ (K:Env->World->Prop) (e:Env) (w:World),tL P oi (ev e)=X->iG ops oi e=b->(b=true->X.has P w v)->K (gC e oi.dst v) w->vh P ops oi K e w:=by
  intro K e w hX hb hy hk
  unfold vh
  rw [hb]
  cases b with
  | true=>rw [if_pos rfl,hX]; exact zE.PC (hy rfl) hk
  | false=>rw [if_neg (by simp)]; rw [<- hn rfl]; exact hk
 have sub:∀ {f:Nat} {L:Nat->Bool} {e:Env} {w:World},WS P ops Q (λ j w'=>S j w'/\(IX ops j i\/(b=true->X.has P w' v))) f L e w->WS P ops Q S f L e w:=
  λ h=>WS.weaken (λ _ _ h=>h.1) _ _ _ _ h
 intro f
 induction f with
 | zero=>
  intro L e w hL hr Fj hX hb hy H
  refine ⟨λ h=>absurd hr (h i),λ j oj By hj=>?_⟩
  by_cases PH:j=i
  ·subst PH
   rw [hi] at By; cases By
   exact done _ _ _ hX hb hy ⟨.inl rfl,sub H⟩
  ·exact absurd (hj.set PH) (H.1 j)
 | succ f ih=>
  intro L e w hL hr Fj hX hb hy H
  refine ⟨λ h=>absurd hr (h i),λ j oj By hj=>?_⟩
  by_cases PH:j=i
  ·subst PH
   rw [hi] at By; cases By
   exact done _ _ _ hX hb hy ⟨.inl rfl,sub H⟩
  ·have eA:i ∉ pre oj:=λ hp=>by
    obtain ⟨_,o',Fb,iH⟩:=hj.2.elim λ o' h=>(⟨trivial,o',h.1,h.2⟩:True/\∃ o',ops[j]? = some o'/\∀ p∈pre o',L p=true)
    rw [By] at Fb; cases Fb
    have:=iH i hp
    rw [hr.1] at this; cases this
   have hap:=Fj j oj By PH hj.1 eA
   have abv:¬ IX ops j i:=λ hd=>by
    have:=hd.Bx hL hj
    rw [hr.1] at this; cases this
   have h1:=H.2 j oj By (hj.set PH)
   have rdi:∀ k,oi.dst=some k->k ∉ looks ops oj:=λ k hk=>(hap.1 k hk).1
   have rdj:∀ k,oj.dst=some k->k ∉ looks ops oi:=λ k hk=>hap.2 k hk
   have dd:∀ k,oi.dst=some k->oj.dst≠some k:=λ k hk=>(hap.1 k hk).2
   have cont:∀ (u:Value) (w':World),(w'=w\/(S j w'/\(IX ops j i\/(b=true->X.has P w' v))))->
     WS P ops Q (λ j w'=>S j w'/\(IX ops j i\/(b=true->X.has P w' v))) f (jQ (jQ L i) j) (gC (gC e oi.dst v) oj.dst u) w'->
     (w'=w\/S j w')/\WS P ops Q S (f+1) (jQ L j) (gC e oj.dst u) w':=by
    intro u w' hw hWS
    refine ⟨hw.imp id λ h=>h.1,?_⟩
    refine ih (jQ L j) (gC e oj.dst u) w' (hL.set hj) (hr.set (Ne.symm PH)) ?_ ?_ ?_ ?_ ?_
    ·intro k ok hk US UT hnk
     refine Fj k ok hk US ?_ hnk
     by_cases hkj:k=j
     ·subst hkj; exact hj.1
     ·rwa [yT _ hkj] at UT
    ·rw [yS rdj]; exact hX
    ·rw [sR rdj]; exact hb
    ·intro hbt
     rcases hw with rfl | ⟨_,h | h⟩
     ·exact hy hbt
     ·exact absurd h abv
     ·exact h hbt
    ·rw [Nm,Nl λ k hk=>by intro hh; exact dd k hh hk]
     exact hWS
   unfold vh at h1 |-
   rw [sR rdi] at h1
   split
   ·rename_i hw
    rw [if_pos hw,yS rdi] at h1
    exact h1.mono λ u w' hh=>cont u w' hh.1 hh.2
   ·rename_i hw
    rw [if_neg hw] at h1
    exact cont undef w h1.1 h1.2
def wr (ops:List Oper):List Nat:=ops.filterMap (·.dst)
theorem PI {ops:List Oper} {i:Nat} {o:Oper} {d:Nat} (h:ops[i]? = some o) (hd:o.dst=some d):d∈wr ops:=
 List.mem_filterMap.2 ⟨o,List.mem_of_getElem? h,hd⟩
theorem nH {e e0:Env} {ops:List Oper} {i:Nat} {o:Oper} (h:∀ k,k ∉ wr ops->e k=e0 k) (ho:ops[i]? = some o) (v:Value) :
  ∀ k,k ∉ wr ops->gC e o.dst v k=e0 k:=by
 intro k hk
 cases hd:o.dst with
 | none=>exact h k hk
 | some d=>
  have:k≠d:=λ hh=>hk (by rw [hh]; exact PI ho hd)
  simp only [gC,jP _ _ this]
  exact h k hk
theorem vh.wpOp {r:Option Nat} {ds:List Nat} {P:Program} {n:Nat} {ops:List Oper} {i:Nat} {o:Oper} {K:Env->World->Prop} {K':Act->World->Prop} {Q':Exit->Act->World->Prop} {e:Env} {a:Act} {w:World}
  (ho:ops[i]? = some o) (hd:∀ k,o.dst=some k->k<n) (ha:eI ds n e a) (h:vh P ops o K e w)
  (hk:∀ v a' w',eI ds n (gC e o.dst v) a'->K (gC e o.dst v) w'->K' a' w'):wpOpIn (FO r) 0 P ops.toArray Q' i K' a w:=by
 unfold Go.wpOpIn
 simp only [List.getElem?_toArray,ho]
 rw [wT ha]
 unfold vh at h
 split
 ·rename_i hw
  rw [if_pos hw] at h
  exact zE.wp ha h λ v w' hv=>hk v _ _ (ha.put hd v) hv
 rename_i hw
 rw [if_neg hw] at h
 exact ⟨nG,hk undef _ _ (ha.put hd undef) h⟩
theorem WS.any {r:Option Nat} {ds:List Nat} {P:Program} {n:Nat} {ops:List Oper} {Q:Env->World->Prop} {Q':Exit->Act->World->Prop} {S:Nat->World->Prop} {e0:Env}
  (hd:∀ d∈wr ops,d<n) (hQ:∀ e a w,eI ds n e a->(∀ k,k ∉ wr ops->e k=e0 k)->Q e w->Q' .normal a w) :
  ∀ (f:Nat) (L:Nat->Bool) (listed:Array Bool) (e:Env) (a:Act) (w:World),eI ds n e a->(∀ k,k ∉ wr ops->e k=e0 k)->listed.size=ops.length->
   (∀ i,listed.getD i false=L i)->WS P ops Q S f L e w->wpAnyIn (FO r) 0 P .any ops.toArray Q' f listed a w:=by
 have rdy:∀ (L:Nat->Bool) (listed:Array Bool) (_:listed.size=ops.length) (_:∀ i,listed.getD i false=L i) (i:Nat),
   i∈Region.ready .any ops.toArray listed↔IW ops L i:=by
  intro L listed iN hl i
  rw [mem_ready]
  have af3:∀ o,ops[i]? = some o->listed.getD i true=L i:=λ o ho=>by
   have hi:i<listed.size:=by rw [iN]; exact (List.getElem?_eq_some_iff.1 ho).1
   rw [<- hl i]
   simp [hi]
  unfold IW pre
  constructor
  ·rintro ⟨h1,o,ho,h2⟩
   have Fb:ops[i]? = some o:=by simpa using ho
   refine ⟨by rw [<- af3 o Fb]; exact h1,o,Fb,λ p hp=>?_⟩
   simp only [List.mem_map,List.mem_filter] at hp
   obtain ⟨x,⟨hx,hb⟩,rfl⟩:=hp
   rw [<- hl]; exact h2 x (by simpa using hx) hb
  ·rintro ⟨h1,o,ho,h2⟩
   refine ⟨by rw [af3 o ho]; exact h1,o,by simpa using ho,λ x hx hb=>?_⟩
   rw [hl]
   exact h2 x.on (by simp only [List.mem_map,List.mem_filter]; exact ⟨x,⟨by simpa using hx,hb⟩,rfl⟩)
 intro f
 induction f with
 | zero=>
  intro L listed e a w ha gz iN hl h
  refine ⟨?_,hQ e a w ha gz h.2⟩
  cases hr:Region.ready .any ops.toArray listed with
  | nil=>rfl
  | cons i r=>exact absurd ((rdy L listed iN hl i).1 (by rw [hr]; exact List.mem_cons_self)) (h.1 i)
 | succ f ih=>
  intro L listed e a w ha gz iN hl h
  refine ⟨λ hn=>hQ e a w ha gz (h.1 λ i hi=>?_),λ i hi=>?_⟩
  ·have:=(rdy L listed iN hl i).2 hi
   rw [hn] at this; cases this
  ·have hr:=(rdy L listed iN hl i).1 hi
   obtain ⟨o,ho,_⟩:=hr.2
   refine vh.wpOp ho (λ k hk=>hd k (PI ho hk)) ha (h.2 i o ho hr) λ v a' w' xZ hh=>?_
   refine ih (jQ L i) _ _ a' w' xZ (nH gz ho v) (by simpa using iN) (λ k=>?_) hh.2
   have eU:i<listed.size:=by rw [iN]; exact (List.getElem?_eq_some_iff.1 ho).1
   have hlk:=hl k
   simp only [Array.getD_eq_getD_getElem?] at hlk |-
   by_cases e:k=i
   ·subst e; rw [Array.getElem?_setIfInBounds_self_of_lt eU,BX]; rfl
   ·rw [Array.getElem?_setIfInBounds_ne (Ne.symm e),yT _ e]; exact hlk
theorem WS.region {r:Option Nat} {ds:List Nat} {P:Program} {n:Nat} {id:Nat} {ops:List Oper} {Q:Env->World->Prop} {Q':Exit->Act->World->Prop} {S:Nat->World->Prop} {e:Env} {a:Act} {w:World}
  (hm:P.follows .mixedOrders=true) (hd:∀ d∈wr ops,d<n) (ha:eI ds n e a)
  (hQ:∀ e' a w,eI ds n e' a->(∀ k,k ∉ wr ops->e' k=e k)->Q e' w->Q' .normal a w)
  (h:WS P ops Q S ops.length (λ _=>false) e {w with drawn:=w.drawn+1}):(Code.region id ops.toArray true).wpIn (FO r) 0 P Q' a w:=by
 refine wpIn_region_any hm ?_
 rw [List.size_toArray]
 refine WS.any hd hQ ops.length (λ _=>false) _ e a _ ha (λ _ _=>rfl) (by simp) (λ i=>?_) h
 simp only [Array.getD_eq_getD_getElem?,Array.getElem?_replicate]
 split <;> rfl
def lk (s:Nat):List (Nat × Option Bool)->Option (Option Bool)
 | []=>none
 | q::r=>bif Nat.beq q.1 s then some q.2 else lk s r
def Dl (d:Nat):List (Nat × Option Bool)->List (Nat × Option Bool)
 | []=>[]
 | q::r=>bif Nat.beq q.1 d then Dl d r else q::Dl d r
def del (d:Option Nat) (kg:List (Nat × Option Bool)):List (Nat × Option Bool):=match d with | none=>kg | some d=>Dl d kg
def yV (kg:List (Nat × Option Bool)):Operand->Option Bool
 | .const (.bool b)=>some b
 | .tmp t=>match lk t kg with | some b=>b | none=>none
 | _=>none
def ZI (kg:List (Nat × Option Bool)):Op->Option Operand
 | .move x=>some x
 | .assign x=>some x
 | .pick (.tmp c) a b=>match lk c kg with | some (some t)=>some (bif t then a else b) | _=>none
 | _=>none
def PJ (kg:List (Nat × Option Bool)) (d:Option Nat) (x:Operand):List (Nat × Option Bool):=
 match d,yV kg x with
 | some d,some b=>(d,some b)::Dl d kg
 | d,_=>del d kg
def ofK:Option Bool->Value | some b=>.bool b | none=>undef
def ik (kg:List (Nat × Option Bool)) (e:Env):Prop:=∀ s b,lk s kg=some b->e s=ofK b
theorem jc (n:Nat):Nat.beq n n=true:=Nat.beq_refl n
theorem uG {a b:Nat} (h:a≠b):Nat.beq a b=false:=by
 cases hh:Nat.beq a b
 ·rfl
 exact absurd (Nat.eq_of_beq_eq_true hh) h
theorem Vi (s d:Nat) (kg:List (Nat × Option Bool)):lk s (Dl d kg)=if s=d then none else lk s kg:=by
 induction kg with
 | nil=>simp [Dl,lk]
 | cons q r ih=>
  simp only [Dl,lk]
  by_cases h1:q.1=d
  ·rw [h1,jc,cond_true,ih]
   by_cases h2:s=d
   ·simp [h2]
   ·rw [if_neg h2,if_neg h2,uG (λ hh=>h2 hh.symm),cond_false]
  ·rw [uG h1,cond_false]
   simp only [lk,ih]
   by_cases h2:q.1=s
   ·rw [h2,jc,cond_true,cond_true,if_neg (λ hh=>h1 (h2.trans hh))]
   ·rw [uG h2,cond_false,cond_false]
theorem ik.nil (e:Env):ik [] e:=λ s b h=>by simp [lk] at h
theorem ik.del {kg:List (Nat × Option Bool)} {e:Env} (h:ik kg e) (d:Option Nat) (v:Value):ik (del d kg) (gC e d v):=by
 cases d with
 | none=>exact h
 | some d=>
  intro s b hs
  simp only [Fw.del,Vi] at hs
  by_cases hsd:s=d
  ·simp [hsd] at hs
  ·rw [if_neg hsd] at hs
   simp only [gC,jP _ _ hsd]
   exact h s b hs
theorem ik.cons {kg:List (Nat × Option Bool)} {e:Env} (h:ik kg e) {s:Nat} {b:Option Bool} (hs:e s=ofK b):ik ((s,b)::kg) e:=by
 intro s' b' hh
 simp only [lk] at hh
 by_cases h1:s=s'
 ·subst h1; rw [jc,cond_true] at hh; cases hh; exact hs
 rw [uG h1,cond_false] at hh; exact h _ _ hh
theorem ik.known {kg:List (Nat × Option Bool)} {e:Env} (h:ik kg e) {x:Operand} {b:Bool} (hx:yV kg x=some b):ev e x = .bool b:=by
 cases x with
 | tmp t=>
  have Nn:(match lk t kg with | some b=>b | none=>none)=some b:=hx
  split at Nn
  ·rename_i b' hb; subst Nn; exact h t _ hb
  ·cases Nn
 | const v=>cases v <;> simp [yV] at hx; simp [ev,hx]
 | _=>simp [yV] at hx
theorem ik.Pm {kg:List (Nat × Option Bool)} {e:Env} (h:ik kg e) (d:Option Nat) (x:Operand):ik (PJ kg d x) (gC e d (ev e x)):=by
 unfold PJ
 split
 ·rename_i d b hb
  have h1:=h.del (some d) (ev e x)
  exact ik.cons (b:=some b) h1 (by simp only [gC,ja]; exact h.known hb)
 exact h.del _ _
def kU (P:Program) (ops:List Oper) (r:Oper) (e:Env) (w:World) (R:Prop):Prop:=
 bif iG ops r e then (match tL P r (ev e),r.dst with | .q m,some d=>Dj P m (e d) w R | _,_=>False) else R
def vn (P:Program) (ops:List Oper):List Oper->Env->World->Prop->Prop
 | [],_,_,R=>R
 | r::ks,e,w,R=>kU P ops r e w (vn P ops ks e w R)
theorem Fk {P:Program} {ops:List Oper} {ks:List Oper} {e:Env} {w:World} {R:Prop}:vn P ops ks e w R->(∀ r∈ks,kU P ops r e w True)/\R:=by
 induction ks with
 | nil=>intro h; exact ⟨by simp,h⟩
 | cons r ks ih=>
  intro h
  have:kU P ops r e w True/\vn P ops ks e w R:=by
   simp only [vn,kU] at h |-
   cases hw:iG ops r e with
   | false=>rw [hw] at h; exact ⟨trivial,h⟩
   | true=>
    rw [hw] at h
    simp only [cond_true] at h |-
    cases hk:tL P r (ev e) <;> rw [hk] at h <;> cases hd:r.dst <;> rw [hd] at h <;> first | exact h.elim | skip
    exact ⟨⟨h.qf,trivial⟩,h.rest⟩
  exact ⟨λ x hx=>(List.mem_cons.1 hx).elim (λ h'=>h'▸this.1) (λ h'=>(ih this.2).1 x h'),(ih this.2).2⟩
def po (n:Nat) (o:Oper):Bool:=match o.dst with | none=>true | some d=>Nat.blt d n
def goF (P:Program) (ops:List Oper) (o:Oper) (ks:List Oper) (rec:List (Nat × Option Bool)->Env->World->Prop) (kg:List (Nat × Option Bool)) (e:Env) (w:World):Prop:=
 match ZI kg o.op with
 | some x=>rec (PJ kg o.dst x) (gC e o.dst (ev e x)) w
 | none=>zE P (tL P o (ev e)) (λ v w'=>vn P ops ks (gC e o.dst v) w' (rec (del o.dst kg) (gC e o.dst v) w')) w
def skF (o:Oper) (rec:List (Nat × Option Bool)->Env->World->Prop) (kg:List (Nat × Option Bool)) (e:Env) (w:World):Prop:=
 rec (match o.dst with | some d=>(d,none)::Dl d kg | none=>kg) (gC e o.dst undef) w
theorem ik.skip {kg:List (Nat × Option Bool)} {e:Env} (h:ik kg e) (d:Option Nat) :
  ik (match d with | some d=>(d,none)::Dl d kg | none=>kg) (gC e d undef):=by
 cases d with
 | none=>exact h
 | some d=>exact ik.cons (b:=none) (h.del (some d) undef) (by simp only [gC,ja]; rfl)
def DS (P:Program) (n:Nat) (ops:List Oper) (q:Oper × List Oper) (rec:List (Nat × Option Bool)->Env->World->Prop) (kg:List (Nat × Option Bool)) (e:Env) (w:World):Prop:=
  bif po n q.1 then
   match q.1.guard with
   | none=>goF P ops q.1 q.2 rec kg e w
   | some g=>match rH ops g.1 with
    | none=>False
    | some s=>match lk s kg with
     | some none=>skF q.1 rec kg e w
     | some (some b')=>bif b' == g.2 then goF P ops q.1 q.2 rec kg e w else skF q.1 rec kg e w
     | none=>uc (e s)
       (bif g.2 then goF P ops q.1 q.2 rec ((s,some true)::kg) (rz e s (.bool true)) w else skF q.1 rec ((s,some true)::kg) (rz e s (.bool true)) w)
       (bif g.2 then skF q.1 rec ((s,some false)::kg) (rz e s (.bool false)) w else goF P ops q.1 q.2 rec ((s,some false)::kg) (rz e s (.bool false)) w)
  else False
def DR (P:Program) (n:Nat) (ops:List Oper):List (Oper × List Oper)->(Env->World->Prop)->List (Nat × Option Bool)->Env->World->Prop
 | [],Q,_,e,w=>Q e w
 | q::rest,Q,kg,e,w=>DS P n ops q (DR P n ops rest Q) kg e w
theorem sS {P:Program} {ops:List Oper} {o:Oper} {ks:List Oper} {rec:List (Nat × Option Bool)->Env->World->Prop} {kg:List (Nat × Option Bool)} {e:Env} {w:World}
  (hk:ik kg e) (h:goF P ops o ks rec kg e w) :
  zE P (tL P o (ev e)) (λ v w'=>(w'=w\/∀ r∈ks,kU P ops r (gC e o.dst v) w' True)/\∃ IE,ik IE (gC e o.dst v)/\rec IE (gC e o.dst v) w') w:=by
 unfold goF at h
 split at h
 ·rename_i x hx
  have hv:(tL P o (ev e)).has P w (ev e x):=by
   unfold tL
   cases gZ:o.op <;> rw [gZ] at hx <;> simp only [ZI] at hx <;> first | cases hx | skip
   case move y=>simp only [zD.has]
   case assign y=>simp only [zD.has]
   case pick c a b=>
    cases c <;> simp only at hx <;> first | cases hx | skip
    rename_i c
    split at hx
    ·rename_i t ht
     cases hx
     have hc:e c = .bool t:=hk c _ ht
     simp only [zD.has,ev,hc,KP]
     cases t <;> rfl
    ·cases hx
  exact zE.PC hv ⟨.inl rfl,_,hk.Pm _ _,h⟩
 refine h.mono λ v w' hh=>?_
 have:=Fk hh
 exact ⟨.inr this.1,_,hk.del _ _,this.2⟩
theorem Dm {P:Program} {n:Nat} {ops:List Oper} {q:Oper × List Oper} {rec:List (Nat × Option Bool)->Env->World->Prop} {kg:List (Nat × Option Bool)} {e:Env} {w:World}
  (hk:ik kg e) (h:DS P n ops q rec kg e w) :
  (∀ d,q.1.dst=some d->d<n)/\
  vh P ops q.1 (λ e' w'=>(w'=w\/∀ r∈q.2,kU P ops r e' w' True)/\∃ IE,ik IE e'/\rec IE e' w') e w:=by
 unfold DS at h
 cases hd:po n q.1 with
 | false=>rw [hd] at h; exact h.elim
 | true=>
  rw [hd] at h
  refine ⟨λ d hdd=>by unfold po at hd; rw [hdd] at hd; exact Nat.blt_eq▸hd,?_⟩
  have sk:∀ {kg:List (Nat × Option Bool)},ik kg e->skF q.1 rec kg e w->
    (w=w\/∀ r∈q.2,kU P ops r (gC e q.1.dst undef) w True)/\∃ IE,ik IE (gC e q.1.dst undef)/\rec IE (gC e q.1.dst undef) w:=
   λ hk h=>⟨.inl rfl,_,hk.skip _,h⟩
  simp only [cond_true] at h
  unfold vh
  cases hg:q.1.guard with
  | none=>
   rw [hg] at h
   have hB:iG ops q.1 e=true:=by unfold iG; rw [hg]
   rw [if_pos hB]
   exact sS hk h
  | some g=>
   obtain ⟨j,b⟩:=g
   rw [hg] at h
   dsimp only at h
   cases hs:rH ops j with
   | none=>rw [hs] at h; exact h.elim
   | some s=>
    rw [hs] at h
    dsimp only at h
    have hB:∀ t,e s = .bool t->iG ops q.1 e=(t == b):=λ t ht=>by unfold iG; rw [hg]; dsimp only; rw [hs]; dsimp only; rw [ht]
    cases hl:lk s kg with
    | some ob=>
     rw [hl] at h
     cases ob with
     | none=>
      dsimp only at h
      have hu:iG ops q.1 e=false:=by
       unfold iG; rw [hg]; dsimp only; rw [hs]; dsimp only; rw [hk s none hl]; rfl
      rw [if_neg (by rw [hu]; simp)]
      exact sk hk h
     | some b'=>
      dsimp only at h
      rw [hB b' (hk s _ hl)]
      cases hb:b' == b with
      | true=>rw [hb] at h; rw [if_pos rfl]; exact sS hk h
      | false=>rw [hb] at h; rw [if_neg (by simp)]; exact sk hk h
    | none=>
     rw [hl] at h
     obtain ⟨t,ht,hA,hA'⟩:=h.ex
     rw [hB t ht]
     have hid:∀ c,t=c->rz e s (.bool c)=e:=λ c hc=>abt _ _ _ (by rw [ht,hc])
     cases t with
     | true=>
      have hA:=hA rfl
      rw [hid true rfl] at hA
      cases b with
      | true=>rw [if_pos (by rfl)]; exact sS (hk.cons (b:=some _) ht) hA
      | false=>rw [if_neg (by simp)]; exact sk (hk.cons (b:=some _) ht) hA
     | false=>
      have hA':=hA' rfl
      rw [hid false rfl] at hA'
      cases b with
      | true=>rw [if_neg (by simp)]; exact sk (hk.cons (b:=some _) ht) hA'
      | false=>rw [if_pos (by rfl)]; exact sS (hk.cons (b:=some _) ht) hA'
theorem DR.list {r:Option Nat} {ds:List Nat} {P:Program} {n:Nat} {ops:List Oper} {Q:Env->World->Prop} {Q':Exit->Act->World->Prop} {e0:Env}
  (hQ:∀ e a w,eI ds n e a->(∀ k,k ∉ wr ops->e k=e0 k)->Q e w->Q' .normal a w) :
  ∀ (l:List Oper) (kg:List (Nat × Option Bool)) (e:Env) (a:Act) (w:World),(∀ o∈l,o∈ops)->eI ds n e a->(∀ k,k ∉ wr ops->e k=e0 k)->ik kg e->
   DR P n ops (l.map λ o=>(o,[])) Q kg e w->wpListIn (FO r) 0 P ops.toArray Q' l a w:=by
 intro l
 induction l with
 | nil=>intro kg e a w _ ha gz _ h; exact hQ e a w ha gz h
 | cons o l ih=>
  intro kg e a w hm ha gz hk h
  obtain ⟨hd,hs⟩:=Dm hk h
  obtain ⟨i,hi⟩:=List.getElem?_of_mem (hm o List.mem_cons_self)
  have PK:∀ x∈l,x∈ops:=λ x hx=>hm x (List.mem_cons_of_mem _ hx)
  unfold wpListIn
  rw [wT ha]
  unfold vh at hs
  split
  ·rename_i hw
   rw [if_pos hw] at hs
   exact zE.wp ha hs λ v w' ⟨_,IE,Bs,hv⟩=>ih IE _ _ w' PK (ha.put hd v) (nH gz hi v) Bs hv
  ·rename_i hw
   rw [if_neg hw] at hs
   obtain ⟨_,IE,Bs,hv⟩:=hs
   exact ⟨nG,ih IE _ _ w PK (ha.put hd undef) (nH gz hi undef) Bs hv⟩
theorem DR.region {r:Option Nat} {ds:List Nat} {P:Program} {n:Nat} {id:Nat} {ops:List Oper} {Q:Env->World->Prop} {Q':Exit->Act->World->Prop} {e:Env} {a:Act} {w:World}
  (ha:eI ds n e a) (hQ:∀ e' a w,eI ds n e' a->(∀ k,k ∉ wr ops->e' k=e k)->Q e' w->Q' .normal a w)
  (h:DR P n ops (ops.map λ o=>(o,[])) Q [] e w):(Code.region id ops.toArray false).wpIn (FO r) 0 P Q' a w:=
 wpIn_region_lit (DR.list hQ ops [] e a w (λ _ h=>h) ha (λ _ _=>rfl) (ik.nil e) h)
def PM (P:Program) (ops:List Oper):List Oper->(Env->World->Prop)->Env->World->Prop
 | [],Q,e,w=>Q e w
 | o::r,Q,e,w=>vh P ops o (λ e' w'=>PM P ops r Q e' w') e w
theorem PM.list {r:Option Nat} {ds:List Nat} {P:Program} {n:Nat} {ops:List Oper} {Q:Env->World->Prop} {Q':Exit->Act->World->Prop} {e0:Env}
  (hQ:∀ e a w,eI ds n e a->(∀ k,k ∉ wr ops->e k=e0 k)->Q e w->Q' .normal a w) :
  ∀ (l:List Oper) (e:Env) (a:Act) (w:World),(∀ o∈l,o∈ops/\∀ d,o.dst=some d->d<n)->eI ds n e a->(∀ k,k ∉ wr ops->e k=e0 k)->
   PM P ops l Q e w->wpListIn (FO r) 0 P ops.toArray Q' l a w:=by
 intro l
 induction l with
 | nil=>intro e a w _ ha gz h; exact hQ e a w ha gz h
 | cons o l ih=>
  intro e a w hm ha gz hs
  have hd:=(hm o List.mem_cons_self).2
  obtain ⟨i,hi⟩:=List.getElem?_of_mem (hm o List.mem_cons_self).1
  have PK:∀ x∈l,x∈ops/\∀ d,x.dst=some d->d<n:=λ x hx=>hm x (List.mem_cons_of_mem _ hx)
  unfold wpListIn
  rw [wT ha]
  unfold PM vh at hs
  split
  ·rename_i hw
   rw [if_pos hw] at hs
   exact zE.wp ha hs λ v w' hv=>ih _ _ w' PK (ha.put hd v) (nH gz hi v) hv
  ·rename_i hw
   rw [if_neg hw] at hs
   exact ⟨nG,ih _ _ w PK (ha.put hd undef) (nH gz hi undef) hs⟩
def IY (P:Program) (o:Oper):Bool:=(tL P o λ _=>undef).quiet
def zF (P:Program) (o:Oper):Bool:=(tL P o λ _=>undef).reads
theorem zG {P:Program} {o:Oper} (ρ ρ':Operand->Value):(tL P o ρ).quiet=(tL P o ρ').quiet/\(tL P o ρ).reads=(tL P o ρ').reads:=by
 unfold tL
 cases o.op <;> try exact ⟨rfl,rfl⟩
 case binOp op t x y u=>dsimp only; split <;> exact ⟨rfl,rfl⟩
 case convert s d x=>dsimp only; split <;> exact ⟨rfl,rfl⟩
 case call c=>
  dsimp only
  cases c.callee with
  | value x=>cases x <;> exact ⟨rfl,rfl⟩
  | invoke r nm=>exact ⟨rfl,rfl⟩
  | builtin b=>cases b <;> dsimp only <;> first | exact ⟨rfl,rfl⟩ | (split <;> exact ⟨rfl,rfl⟩)
def fb (d:Nat):List Nat->Bool
 | []=>false
 | x::r=>Nat.beq x d || fb d r
theorem nI {d:Nat} {l:List Nat}:fb d l=true↔d∈l:=by
 induction l with
 | nil=>simp [fb]
 | cons x r ih=>
  simp only [fb,Bool.or_eq_true,ih,List.mem_cons]
  constructor
  ·rintro (h | h)
   ·exact .inl (Nat.eq_of_beq_eq_true h).symm
   ·exact .inr h
  ·rintro (rfl | h)
   ·exact .inl (jc _)
   ·exact .inr h
theorem KQ {d:Nat} {l:List Nat}:fb d l=false↔d ∉ l:=by
 rw [<- nI]; simp
def eqO (d:Nat):Option Nat->Bool | none=>false | some k=>Nat.beq k d
theorem Vj {d:Nat} {o:Option Nat}:eqO d o=true↔o=some d:=by
 cases o with
 | none=>simp [eqO]
 | some k=>simp only [eqO,Option.some.injEq]; exact ⟨Nat.eq_of_beq_eq_true,λ h=>by rw [h]; exact jc _⟩
def Dn (ops:List Oper) (x y:Oper):Bool:=match y.dst with | none=>true | some d=>!fb d (looks ops x) && !eqO d x.dst
theorem wU {ops:List Oper} {x y:Oper} (h:Dn ops x y=true):∀ d,y.dst=some d->d ∉ looks ops x/\x.dst≠some d:=by
 intro d hd
 unfold Dn at h
 rw [hd] at h
 simp only [Bool.and_eq_true,Bool.not_eq_true'] at h
 exact ⟨KQ.1 h.1,λ hh=>by rw [<- Vj] at hh; rw [hh] at h; cases h.2⟩
def IZ (ops:List Oper) (x y:Oper):Bool:=Dn ops y x && Dn ops x y
theorem Fl {ops:List Oper} {x y:Oper} (h:IZ ops x y=true):ZH ops x y:=by
 simp only [IZ,Bool.and_eq_true] at h
 exact ⟨λ d hd=>wU h.1 d hd,λ d hd=>(wU h.2 d hd).1⟩
def wV (f:Nat->Oper->Bool):Nat->List Oper->Bool
 | _,[]=>true
 | k,o::r=>f k o && wV f (k+1) r
theorem kG {f:Nat->Oper->Bool} {l:List Oper}:∀ {k:Nat},wV f k l=true->∀ i o,l[i]? = some o->f (k+i) o=true:=by
 induction l with
 | nil=>intro k _ i o h; simp at h
 | cons x r ih=>
  intro k h i o ho
  simp only [wV,Bool.and_eq_true] at h
  cases i with
  | zero=>simp at ho; subst ho; exact h.1
  | succ i=>have:=ih h.2 i o (by simpa using ho); rwa [show k+1+i=k+(i+1) from by omega] at this
def yG:List Nat->Nat->Nat
 | [],_=>0
 | x::_,0=>x
 | _::r,n+1=>yG r n
def BY (cls:List Nat):List Nat->Nat
 | []=>0
 | p::r=>Nat.lor (Nat.lor (Nat.shiftLeft 1 p) (yG cls p)) (BY cls r)
def ya (ops:List Oper) (cls:List Nat):Bool:=
 wV (λ j o=>(pre o).all (λ p=>Nat.blt p j) && Nat.beq (yG cls j) (BY cls (pre o))) 0 ops
theorem No {cls l:List Nat} {i:Nat} (h:(BY cls l).testBit i=true):∃ p∈l,p=i\/(yG cls p).testBit i=true:=by
 induction l with
 | nil=>simp [BY] at h
 | cons p r ih=>
  have h':(((1 <<< p) ||| yG cls p) ||| BY cls r).testBit i=true:=h
  simp only [Nat.testBit_or,Bool.or_eq_true] at h'
  rcases h' with (h' | h') | h'
  ·refine ⟨p,by simp,.inl ?_⟩
   rw [Nat.one_shiftLeft,Nat.testBit_two_pow] at h'
   simpa using h'
  ·exact ⟨p,by simp,.inr h'⟩
  ·obtain ⟨q,hq,h''⟩:=ih h'
   exact ⟨q,by simp [hq],h''⟩
theorem BZ {ops:List Oper} {cls:List Nat} (h:ya ops cls=true):∀ (n j:Nat),j<n->j<ops.length->∀ i,(yG cls j).testBit i=true->IX ops j i:=by
 intro n
 induction n with
 | zero=>intro j hj; omega
 | succ n ih=>
  intro j hj hlen i hi
  obtain ⟨o,ho⟩:∃ o,ops[j]? = some o:=⟨ops[j],by simp [hlen]⟩
  have:=kG h j o ho
  simp only [Nat.zero_add,Bool.and_eq_true,List.all_eq_true] at this
  obtain ⟨h1,h2⟩:=this
  have h2:=Nat.eq_of_beq_eq_true h2
  rw [h2] at hi
  obtain ⟨p,hp,hh⟩:=No hi
  rcases hh with rfl | hh
  ·exact .one ho hp
  ·have hpj:p<j:=by have:=h1 p hp; rwa [Nat.blt_eq] at this
   exact .more ho hp (ih p (by omega) (by omega) i hh)
def bit (m i:Nat):Bool:=Nat.testBit m i
def B0 (ops:List Oper) (y:Oper):Bool:=match y.dst with | none=>false | some d=>!fb d (looks ops y)
theorem I0 {ops:List Oper} {y:Oper} (h:B0 ops y=true):∃ d,y.dst=some d/\d ∉ looks ops y:=by
 unfold B0 at h
 cases hd:y.dst with
 | none=>rw [hd] at h; cases h
 | some d=>rw [hd] at h; exact ⟨d,rfl,KQ.1 (by simpa using h)⟩
def PN (P:Program) (ops:List Oper) (cls:List Nat) (m i:Nat) (ks:List Nat):Bool:=
 match ops[i]? with
 | none=>false
 | some o=>
  !bit m i && ((pre o).all (λ p=>bit m p) &&
  (bif IY P o then
   wV (λ j y=>Nat.beq j i || (bit m j || (fb i (pre y) || IZ ops o y))) 0 ops
  else
   wV (λ j y=>Nat.beq j i || (bit m j || !(pre y).all (λ p=>bit m p))) 0 ops &&
   (wV (λ r y=>!bit m r || (!zF P y || (bit (yG cls i) r || fb r ks))) 0 ops &&
   ks.all (λ r=>match ops[r]? with
    | none=>false
    | some y=>B0 ops y && wV (λ j z=>Nat.beq j r || (bit (yG cls r) j || Dn ops y z)) 0 ops))))
inductive PT where
 | nil
 | stop
 | op (i:Nat) (ks:List Nat) (r:PT)
 | alt (i:Nat) (ks:List Nat) (r o:PT)
def PT.of:List (Nat × List Nat)->PT
 | []=>.nil
 | q::r=>.op q.1 q.2 (PT.of r)
def PT.ids:PT->List Nat
 | .alt i _ _ o=>i::o.ids
 | _=>[]
def PT.many:PT->Bool
 | .alt _ _ _ _=>true
 | .op _ _ r=>r.many
 | _=>false
def ZJ (P:Program) (ops:List Oper) (cls:List Nat) (m i:Nat) (ks:List Nat):Bool:=
 match ops[i]? with
 | none=>false
 | some o=>
  !bit m i && ((pre o).all (λ p=>bit m p) && (!IY P o && (
   (wV (λ r y=>!bit m r || (!zF P y || (bit (yG cls i) r || fb r ks))) 0 ops &&
   ks.all (λ r=>match ops[r]? with
    | none=>false
    | some y=>B0 ops y && wV (λ j z=>Nat.beq j r || (bit (yG cls r) j || Dn ops y z)) 0 ops)))))
def IF (P:Program) (ops:List Oper) (cls:List Nat):Bool->Nat->Nat->PT->Bool
 | c,f,m,.nil=>!c && (Nat.beq f 0 && wV (λ j _=>bit m j) 0 ops)
 | c,_,_,.stop=>c
 | c,f,m,.op i ks r=>!c && (match f with | 0=>false | f'+1=>PN P ops cls m i ks && IF P ops cls false f' (Nat.lor m (Nat.shiftLeft 1 i)) r)
 | c,f,m,.alt i ks r o=>(c || wV (λ j y=>bit m j || (!(pre y).all (λ p=>bit m p) || fb j (i::o.ids))) 0 ops) &&
  ((match f with | 0=>false | f'+1=>ZJ P ops cls m i ks && IF P ops cls false f' (Nat.lor m (Nat.shiftLeft 1 i)) r) && IF P ops cls true f m o)
def ud (ops:List Oper):List Nat:=ops.foldl (λ acc o=>acc++[BY acc (pre o)]) []
def PT.run (k:Nat):Nat->PT
 | 0=>.nil
 | n+1=>.op k [] (PT.run (k+1) n)
def jo (ops:List Oper) (i:Nat):Oper:=(ops[i]?).getD default
def DT (P:Program) (n:Nat) (ops:List Oper):PT->(Env->World->Prop)->List (Nat × Option Bool)->Env->World->Prop
 | .nil,Q,_,e,w=>Q e w
 | .stop,_,_,_,_=>True
 | .op i ks r,Q,kg,e,w=>DS P n ops (jo ops i,ks.map (jo ops)) (DT P n ops r Q) kg e w
 | .alt i ks r o,Q,kg,e,w=>DS P n ops (jo ops i,ks.map (jo ops)) (DT P n ops r Q) kg e w/\DT P n ops o Q kg e w
def DQ (P:Program) (ops:List Oper):PT->(Env->World->Prop)->Env->World->Prop
 | .nil,Q,e,w=>Q e w
 | .stop,_,_,_=>True
 | .op i ks r,Q,e,w=>vh P ops (jo ops i) (λ e' w'=>(w'=w\/∀ r∈ks.map (jo ops),kU P ops r e' w' True)/\DQ P ops r Q e' w') e w
 | .alt i ks r o,Q,e,w=>vh P ops (jo ops i) (λ e' w'=>(w'=w\/∀ r∈ks.map (jo ops),kU P ops r e' w' True)/\DQ P ops r Q e' w') e w/\DQ P ops o Q e w
theorem DT.plain {P:Program} {n:Nat} {ops:List Oper} {Q:Env->World->Prop}:∀ (p:PT) (kg:List (Nat × Option Bool)) (e:Env) (w:World),ik kg e->DT P n ops p Q kg e w->DQ P ops p Q e w:=by
 intro p
 induction p with
 | nil=>intro kg e w _ h; exact h
 | stop=>intro kg e w _ _; trivial
 | op i ks p ih=>intro kg e w hk h; exact (Dm hk h).2.mono λ v w' ⟨h1,IE,h2,h3⟩=>⟨h1,ih IE _ _ h2 h3⟩
 | alt i ks p o ih yb=>intro kg e w hk h; exact ⟨(Dm hk h.1).2.mono λ v w' ⟨h1,IE,h2,h3⟩=>⟨h1,ih IE _ _ h2 h3⟩,yb kg e w hk h.2⟩
structure Tk where
 idx:Nat
 o:Oper
 b:Bool
 X:zD
 v:Value
structure zH (P:Program) (ops:List Oper) (L:Nat->Bool) (T:List Tk) (e:Env):Prop where
 op:∀ x∈T,ops[x.idx]? = some x.o
 listed:∀ x∈T,L x.idx=true
 kind:∀ x∈T,x.X.reads=zF P x.o
 still:∀ x∈T,x.X.reads=false->x.b=true->∀ w,x.X.has P w x.v
 reads:∀ x∈T,x.X.reads=true->(∀ j z,ops[j]? = some z->j≠x.idx->IX ops x.idx j\/Dn ops x.o z=true)->B0 ops x.o=true->
  tL P x.o (ev e)=x.X/\iG ops x.o e=x.b/\∃ d,x.o.dst=some d/\(x.b=true->e d=x.v)
def ST (P:Program) (ops:List Oper) (T:List Tk):Nat->World->Prop:=λ j w=>∀ x∈T,IX ops j x.idx\/(x.b=true->x.X.has P w x.v)
theorem KR {m i:Nat}:(λ k=>bit (Nat.lor m (Nat.shiftLeft 1 i)) k)=jQ (λ k=>bit m k) i:=by
 funext k
 show (m ||| 1 <<< i).testBit k=_
 rw [Nat.testBit_or,Nat.one_shiftLeft,Nat.testBit_two_pow]
 unfold jQ bit
 by_cases h:k=i
 ·subst h; simp
 rw [if_neg h]
 have:decide (i=k)=false:=by simpa using λ hh:i=k=>h hh.symm
 rw [this,Bool.or_false]
theorem zH.next {P:Program} {ops:List Oper} {L:Nat->Bool} {T:List Tk} {e:Env} (h:zH P ops L T e) (hL:Down ops L) {i:Nat} {o:Oper} (ho:ops[i]? = some o) (hi:L i=false) (v:Value) :
  zH P ops (jQ L i) T (gC e o.dst v):=by
 refine ⟨h.op,λ x hx=>yU _ _ (h.listed x hx),h.kind,h.still,λ x hx hr hst hds=>?_⟩
 obtain ⟨h1,h2,d,hd,h3⟩:=h.reads x hx hr hst hds
 have iS:i≠x.idx:=λ hh=>by have:=h.listed x hx; rw [<- hh,hi] at this; cases this
 have aby:Dn ops x.o o=true:=by
  rcases hst i o ho iS with abv | aby
  ·have:L i=true:=abv.listed hL λ o' Fb p hp=>hL x.idx o' (h.listed x hx) Fb p hp
   rw [hi] at this; cases this
  ·exact aby
 have hof:=wU aby
 refine ⟨by rw [yS λ k hk=>(hof k hk).1]; exact h1,by rw [sR λ k hk=>(hof k hk).1]; exact h2,d,hd,λ hb=>?_⟩
 have:=h3 hb
 cases IG:o.dst with
 | none=>exact this
 | some k=>
  have hkd:d≠k:=λ hh=>(hof k IG).2 (by rw [hd,hh])
  simp only [gC,jP _ _ hkd]
  exact this
theorem Fm {P:Program} {ops:List Oper} {cls:List Nat} (hc:ya ops cls=true) {f m i:Nat} {ks:List Nat} {o:Oper} {T:List Tk} {e:Env} {w:World} {Q:Env->World->Prop} {rec:Env->World->Prop}
  (ho:ops[i]? = some o) (UT:bit m i=false) (hL:Down ops (bit m)) (hT:zH P ops (bit m) T e)
  (qg:∀ (r:Nat) (y:Oper),ops[r]? = some y->(!bit m r || (!zF P y || (bit (yG cls i) r || fb r ks)))=true)
  (Fo:∀ r∈ks,(match ops[r]? with | none=>false | some y=>B0 ops y && wV (λ j z=>Nat.beq j r || (bit (yG cls r) j || Dn ops y z)) 0 ops)=true)
  (hst:vh P ops o (λ e' w'=>(w'=w\/∀ r∈ks.map (jo ops),kU P ops r e' w' True)/\rec e' w') e w)
  (amY:∀ v w',zH P ops (jQ (bit m) i) T (gC e o.dst v)->rec (gC e o.dst v) w'->WS P ops Q (ST P ops T) f (jQ (bit m) i) (gC e o.dst v) w') :
  vh P ops o (λ e' w'=>(w'=w\/ST P ops T i w')/\WS P ops Q (ST P ops T) f (jQ (bit m) i) e' w') e w:=by
 refine hst.mono λ v w' hh=>?_
 obtain ⟨hkp,q8⟩:=hh
 have Pn:=hT.next hL ho UT v
 refine ⟨?_,?_⟩
 ·rcases hkp with hw | hkp
  ·exact .inl hw
  refine .inr λ x hx=>?_
  cases Fp:x.X.reads with
  | false=>exact .inr λ hb=>hT.still x hx Fp hb w'
  | true=>
   have h1:=qg x.idx x.o (hT.op x hx)
   simp only [Bool.or_eq_true,Bool.not_eq_true'] at h1
   rcases h1 with h1 | h1 | h1 | h1
   ·have:=hT.listed x hx; rw [h1] at this; cases this
   ·have:=hT.kind x hx; rw [Fp,h1] at this; cases this
   ·have Vk:i<ops.length:=(List.getElem?_eq_some_iff.1 ho).1
    exact .inl (BZ hc (i+1) i (by omega) Vk _ h1)
   ·have tM:=nI.1 h1
    have h2:=Fo x.idx tM
    rw [hT.op x hx] at h2
    simp only [Bool.and_eq_true] at h2
    obtain ⟨hds,h2⟩:=h2
    have h2:=kG h2
    have hxl:x.idx<ops.length:=(List.getElem?_eq_some_iff.1 (hT.op x hx)).1
    obtain ⟨e1,e2,d,hd,e3⟩:=Pn.reads x hx Fp (λ k z hz iS=>by
     have:=h2 k z hz
     simp only [Nat.zero_add,Bool.or_eq_true] at this
     rcases this with h3 | h3 | h3
     ·exact absurd (Nat.eq_of_beq_eq_true h3) iS
     ·exact .inl (BZ hc (x.idx+1) x.idx (by omega) hxl _ h3)
     ·exact .inr h3) hds
    refine .inr λ hb=>?_
    have Po:=hkp x.o (List.mem_map.2 ⟨x.idx,tM,by simp [jo,hT.op x hx]⟩)
    unfold kU at Po
    rw [e2,hb,e1,hd] at Po
    simp only [cond_true] at Po
    cases hX:x.X <;> rw [hX] at Po Fp <;> first | exact Po.elim | cases Fp | skip
    have:=Po.qf
    rw [e3 hb] at this
    exact this
 exact amY v w' Pn q8
theorem KS {P:Program} {ops:List Oper} {cls:List Nat} {Q:Env->World->Prop} (hc:ya ops cls=true) :
  ∀ (p:PT) (f m:Nat) (T:List Tk) (e:Env) (w:World),
   Down ops (bit m)->zH P ops (bit m) T e->DQ P ops p Q e w->
   (IF P ops cls false f m p=true->WS P ops Q (ST P ops T) f (bit m) e w)/\
   (IF P ops cls true f m p=true->∀ j∈p.ids,∃ f',f=f'+1/\IW ops (bit m) j/\∀ oj,ops[j]? = some oj->vh P ops oj (λ e' w'=>(w'=w\/ST P ops T j w')/\WS P ops Q (ST P ops T) f' (jQ (bit m) j) e' w') e w):=by
 intro p
 induction p with
 | nil=>
  intro f m T e w hL hT h
  refine ⟨λ hp=>?_,λ _ j hj=>by cases hj⟩
  simp only [IF,Bool.not_false,Bool.true_and,Bool.and_eq_true] at hp
  have iH:=kG hp.2
  rw [Nat.eq_of_beq_eq_true hp.1]
  refine ⟨λ i hr=>?_,h⟩
  obtain ⟨h0,o,ho,_⟩:=hr
  have:=iH i o ho
  rw [Nat.zero_add,h0] at this; cases this
 | stop=>
  intro f m T e w hL hT h
  exact ⟨λ hp=>by simp [IF] at hp,λ _ j hj=>by cases hj⟩
 | op i ks p ih=>
  intro f m T e w hL hT h
  refine ⟨λ hp=>?_,λ _ j hj=>by cases hj⟩
  simp only [IF,Bool.not_false,Bool.true_and] at hp
  cases f with
  | zero=>cases hp
  | succ f=>
   simp only [Bool.and_eq_true] at hp
   obtain ⟨hs,hp⟩:=hp
   unfold PN at hs
   cases ho:ops[i]? with
   | none=>rw [ho] at hs; cases hs
   | some o=>
   rw [ho] at hs
   simp only [Bool.and_eq_true,Bool.not_eq_true',List.all_eq_true] at hs
   obtain ⟨UT,PO,hs⟩:=hs
   have hr:IW ops (bit m) i:=⟨UT,o,ho,PO⟩
   have eA:jo ops i=o:=by simp [jo,ho]
   have hst:vh P ops (jo ops i) (λ e' w'=>(w'=w\/∀ r∈ks.map (jo ops),kU P ops r e' w' True)/\DQ P ops p Q e' w') e w:=h
   rw [eA] at hst
   have ml:(bit (Nat.lor m (Nat.shiftLeft 1 i)))=jQ (bit m) i:=KR
   have hL':Down ops (jQ (bit m) i):=hL.set hr
   cases hq:IY P o with
   | true=>
    rw [hq] at hs
    simp only [cond_true] at hs
    have Fj:=kG hs
    have hqq:∀ ρ,(tL P o ρ).quiet=true:=λ ρ=>by rw [(zG ρ (λ _=>undef)).1]; exact hq
    obtain ⟨b,v,hb,hn,hy,q8⟩:∃ b v,iG ops o e=b/\(b=false->v=undef)/\(b=true->(tL P o (ev e)).has P w v)/\
      DQ P ops p Q (gC e o.dst v) w:=by
     unfold vh at hst
     cases hb:iG ops o e with
     | true=>
      rw [if_pos hb] at hst
      obtain ⟨v,hv,_,q8⟩:=hst.has (hqq _)
      exact ⟨true,v,rfl,by simp,λ _=>hv,q8⟩
     | false=>
      rw [if_neg (by rw [hb]; simp)] at hst
      obtain ⟨_,q8⟩:=hst
      exact ⟨false,undef,rfl,λ _=>rfl,by simp,q8⟩
    refine WS.first (X:=tL P o (ev e)) ho hn f (bit m) e w hL hr ?_ rfl hb hy ?_
    ·intro j oj By PH am0 eA
     have:=Fj j oj By
     simp only [Nat.zero_add,Bool.or_eq_true] at this
     rcases this with h1 | h1 | h1 | h1
     ·exact absurd (Nat.eq_of_beq_eq_true h1) PH
     ·rw [am0] at h1; cases h1
     ·exact absurd (nI.1 h1) eA
     ·exact Fl h1
    ·have hT':zH P ops (jQ (bit m) i) (⟨i,o,b,tL P o (ev e),v⟩::T) (gC e o.dst v):=by
      have Pn:=hT.next hL ho UT v
      constructor
      ·intro x hx; rcases List.mem_cons.1 hx with rfl | hx
       ·exact ho
       ·exact Pn.op x hx
      ·intro x hx; rcases List.mem_cons.1 hx with rfl | hx
       ·exact BX _ _
       ·exact Pn.listed x hx
      ·intro x hx; rcases List.mem_cons.1 hx with rfl | hx
       ·exact (zG _ _).2
       ·exact Pn.kind x hx
      ·intro x hx; rcases List.mem_cons.1 hx with rfl | hx
       ·intro h1 h2 w'; exact zD.Nj h1 (hy h2)
       ·exact Pn.still x hx
      ·intro x hx; rcases List.mem_cons.1 hx with rfl | hx
       ·intro h1 h2 h3
        obtain ⟨d,hd,Dp⟩:=I0 h3
        dsimp only at hd Dp |-
        have hh:∀ k,o.dst=some k->k ∉ looks ops o:=λ k hk=>by rw [hd] at hk; cases hk; exact Dp
        refine ⟨yS hh,by rw [sR hh]; exact hb,d,hd,λ _=>?_⟩
        rw [hd]; exact ja _ _ _
       ·exact Pn.reads x hx
     have:=(ih f _ _ _ w (by rw [ml]; exact hL') (by rw [ml]; exact hT') q8).1 hp
     rw [ml] at this
     refine WS.weaken (λ j w' hj=>?_) _ _ _ _ this
     exact ⟨λ x hx=>hj x (List.mem_cons_of_mem _ hx),hj _ List.mem_cons_self⟩
   | false=>
    rw [hq] at hs
    simp only [cond_false,Bool.and_eq_true,List.all_eq_true] at hs
    obtain ⟨PQ,qg,Fo⟩:=hs
    have PQ:=kG PQ
    have qg:=kG qg
    refine ⟨λ eA=>absurd hr (eA i),λ j oj By hj=>?_⟩
    have PH:j=i:=by
     have:=PQ j oj By
     simp only [Nat.zero_add,Bool.or_eq_true,Bool.not_eq_true'] at this
     rcases this with h1 | h1 | h1
     ·exact Nat.eq_of_beq_eq_true h1
     ·have:=hj.1; rw [h1] at this; cases this
     ·obtain ⟨_,o',Fb,iH⟩:=hj
      rw [By] at Fb; cases Fb
      have:(pre oj).all (λ p=>bit m p)=true:=List.all_eq_true.2 iH
      rw [this] at h1; cases h1
    subst PH
    rw [ho] at By; cases By
    refine Fm hc ho UT hL hT (λ r y hy=>by have:=qg r y hy; rwa [Nat.zero_add] at this) Fo hst λ v w' Pn q8=>?_
    have:=(ih f _ T _ w' (by rw [ml]; exact hL') (by rw [ml]; exact Pn) q8).1 hp
    rw [ml] at this
    exact this
 | alt i ks p o' ih yb=>
  intro f m T e w hL hT h
  obtain ⟨h1,h2⟩:vh P ops (jo ops i) (λ e' w'=>(w'=w\/∀ r∈ks.map (jo ops),kU P ops r e' w' True)/\DQ P ops p Q e' w') e w/\DQ P ops o' Q e w:=h
  have chain:∀ c,IF P ops cls c f m (.alt i ks p o')=true->∀ j∈i::o'.ids,∃ f',f=f'+1/\IW ops (bit m) j/\∀ oj,ops[j]? = some oj->vh P ops oj (λ e' w'=>(w'=w\/ST P ops T j w')/\WS P ops Q (ST P ops T) f' (jQ (bit m) j) e' w') e w:=by
   intro c hp
   simp only [IF,Bool.and_eq_true] at hp
   obtain ⟨_,hp,Vl⟩:=hp
   cases f with
   | zero=>cases hp
   | succ f=>
    simp only [Bool.and_eq_true] at hp
    obtain ⟨hs,hp⟩:=hp
    intro j hj
    rcases List.mem_cons.1 hj with rfl | hj
    ·unfold ZJ at hs
     cases ho:ops[j]? with
     | none=>rw [ho] at hs; cases hs
     | some o=>
      rw [ho] at hs
      simp only [Bool.and_eq_true,Bool.not_eq_true',List.all_eq_true] at hs
      obtain ⟨UT,PO,_,qg,Fo⟩:=hs
      have hr:IW ops (bit m) j:=⟨UT,o,ho,PO⟩
      refine ⟨f,rfl,hr,λ oj By=>?_⟩
      cases By
      have qg:=kG qg
      have eA:jo ops j=o:=by simp [jo,ho]
      rw [eA] at h1
      have hst:=h1
      have ml:(bit (Nat.lor m (Nat.shiftLeft 1 j)))=jQ (bit m) j:=KR
      have hL':Down ops (jQ (bit m) j):=hL.set hr
      refine Fm hc ho UT hL hT (λ r y hy=>by have:=qg r y hy; rwa [Nat.zero_add] at this) Fo hst λ v w' Pn q8=>?_
      have:=(ih f _ T _ w' (by rw [ml]; exact hL') (by rw [ml]; exact Pn) q8).1 hp
      rw [ml] at this
      exact this
    ·exact (yb (f+1) m T e w hL hT h2).2 Vl j hj
  refine ⟨λ hp=>?_,λ hp=>chain true hp⟩
  have hch:=chain false hp
  simp only [IF,Bool.false_or,Bool.and_eq_true] at hp
  have am1:=kG hp.1
  obtain ⟨f',rfl,hri,_⟩:=hch i List.mem_cons_self
  refine ⟨λ eA=>absurd hri (eA i),λ j oj By hj=>?_⟩
  have tM:j∈i::o'.ids:=by
   have:=am1 j oj By
   simp only [Nat.zero_add,Bool.or_eq_true,Bool.not_eq_true'] at this
   rcases this with h3 | h3 | h3
   ·have:=hj.1; rw [h3] at this; cases this
   ·obtain ⟨_,o2,ho2,iH⟩:=hj
    rw [By] at ho2; cases ho2
    have:(pre oj).all (λ p=>bit m p)=true:=List.all_eq_true.2 iH
    rw [this] at h3; cases h3
   ·exact nI.1 h3
  obtain ⟨f2,hf,_,hst⟩:=hch j tM
  cases hf
  exact hst oj By
structure rI (F:(World->Prop)->Prop) (G:World->Prop):Prop where
 ex:∃ I:World->Prop,F I/\∀ w,I w->G w
structure PR (B:(World->Prop)->World->Prop) (F:(World->Prop)->Prop):Prop where
 ex:∃ I:Nat->World->Prop,(∃ m,F (I m))/\∀ m w,I m w->B (λ w'=>∃ m',m'<m/\I m' w') w
structure cE (F:(Value->World->Prop)->Prop) (G:Value->World->Prop):Prop where
 ex:∃ I:Value->World->Prop,F I/\∀ x0 w,I x0 w->G x0 w
structure fh (B:(Value->World->Prop)->Value->World->Prop) (F:(Value->World->Prop)->Prop):Prop where
 ex:∃ I:Nat->Value->World->Prop,(∃ m,F (I m))/\∀ m x0 w,I m x0 w->B (λ y0 w'=>∃ m',m'<m/\I m' y0 w') x0 w
structure ZK (F:(Value->Value->World->Prop)->Prop) (G:Value->Value->World->Prop):Prop where
 ex:∃ I:Value->Value->World->Prop,F I/\∀ x0 x1 w,I x0 x1 w->G x0 x1 w
structure mn (B:(Value->Value->World->Prop)->Value->Value->World->Prop) (F:(Value->Value->World->Prop)->Prop):Prop where
 ex:∃ I:Nat->Value->Value->World->Prop,(∃ m,F (I m))/\∀ m x0 x1 w,I m x0 x1 w->B (λ y0 y1 w'=>∃ m',m'<m/\I m' y0 y1 w') x0 x1 w
structure af7 (F:(Value->Value->Value->World->Prop)->Prop) (G:Value->Value->Value->World->Prop):Prop where
 ex:∃ I:Value->Value->Value->World->Prop,F I/\∀ x0 x1 x2 w,I x0 x1 x2 w->G x0 x1 x2 w
structure KT (B:(Value->Value->Value->World->Prop)->Value->Value->Value->World->Prop) (F:(Value->Value->Value->World->Prop)->Prop):Prop where
 ex:∃ I:Nat->Value->Value->Value->World->Prop,(∃ m,F (I m))/\∀ m x0 x1 x2 w,I m x0 x1 x2 w->B (λ y0 y1 y2 w'=>∃ m',m'<m/\I m' y0 y1 y2 w') x0 x1 x2 w
structure af8 (F:(Value->Value->Value->Value->World->Prop)->Prop) (G:Value->Value->Value->Value->World->Prop):Prop where
 ex:∃ I:Value->Value->Value->Value->World->Prop,F I/\∀ x0 x1 x2 x3 w,I x0 x1 x2 x3 w->G x0 x1 x2 x3 w
structure af9 (B:(Value->Value->Value->Value->World->Prop)->Value->Value->Value->Value->World->Prop) (F:(Value->Value->Value->Value->World->Prop)->Prop):Prop where
 ex:∃ I:Nat->Value->Value->Value->Value->World->Prop,(∃ m,F (I m))/\∀ m x0 x1 x2 x3 w,I m x0 x1 x2 x3 w->B (λ y0 y1 y2 y3 w'=>∃ m',m'<m/\I m' y0 y1 y2 y3 w') x0 x1 x2 x3 w
structure aga (F:(Value->Value->Value->Value->Value->World->Prop)->Prop) (G:Value->Value->Value->Value->Value->World->Prop):Prop where
 ex:∃ I:Value->Value->Value->Value->Value->World->Prop,F I/\∀ x0 x1 x2 x3 x4 w,I x0 x1 x2 x3 x4 w->G x0 x1 x2 x3 x4 w
structure agb (B:(Value->Value->Value->Value->Value->World->Prop)->Value->Value->Value->Value->Value->World->Prop) (F:(Value->Value->Value->Value->Value->World->Prop)->Prop):Prop where
 ex:∃ I:Nat->Value->Value->Value->Value->Value->World->Prop,(∃ m,F (I m))/\∀ m x0 x1 x2 x3 x4 w,I m x0 x1 x2 x3 x4 w->B (λ y0 y1 y2 y3 y4 w'=>∃ m',m'<m/\I m' y0 y1 y2 y3 y4 w') x0 x1 x2 x3 x4 w
def UW (i:Nat):List (Nat × Value)->Value->Value
 | [],d=>d
 | q::r,d=>bif Nat.beq q.1 i then q.2 else UW i r d
def Bz (e:Env) (M:Nat) (bs:List (Nat × Value)) (dead:Env):Env:=λ i=>bif bit M i then UW i bs (dead i) else e i
def vo (l:List Nat) (F:(Env->World->Prop)->Prop) (G:List (Nat × Value)->World->Prop):Prop:=
 match l with
 | []=>rI (λ K=>F (λ e w=>K w)) (λ w=>G [] w)
 | [a0]=>cE (λ K=>F (λ e w=>K (e a0) w)) (λ x0 w=>G [(a0,x0)] w)
 | [a0,a1]=>ZK (λ K=>F (λ e w=>K (e a0) (e a1) w)) (λ x0 x1 w=>G [(a0,x0),(a1,x1)] w)
 | [a0,a1,a2]=>af7 (λ K=>F (λ e w=>K (e a0) (e a1) (e a2) w)) (λ x0 x1 x2 w=>G [(a0,x0),(a1,x1),(a2,x2)] w)
 | [a0,a1,a2,a3]=>af8 (λ K=>F (λ e w=>K (e a0) (e a1) (e a2) (e a3) w)) (λ x0 x1 x2 x3 w=>G [(a0,x0),(a1,x1),(a2,x2),(a3,x3)] w)
 | [a0,a1,a2,a3,a4]=>aga (λ K=>F (λ e w=>K (e a0) (e a1) (e a2) (e a3) (e a4) w)) (λ x0 x1 x2 x3 x4 w=>G [(a0,x0),(a1,x1),(a2,x2),(a3,x3),(a4,x4)] w)
 | _=>False
def vp (l:List Nat) (B:(Env->World->Prop)->List (Nat × Value)->World->Prop) (e:Env) (w:World):Prop:=
 match l with
 | []=>PR (λ K w=>B (λ e' w'=>K w') [] w) (λ K=>K w)
 | [a0]=>fh (λ K x0 w=>B (λ e' w'=>K (e' a0) w') [(a0,x0)] w) (λ K=>K (e a0) w)
 | [a0,a1]=>mn (λ K x0 x1 w=>B (λ e' w'=>K (e' a0) (e' a1) w') [(a0,x0),(a1,x1)] w) (λ K=>K (e a0) (e a1) w)
 | [a0,a1,a2]=>KT (λ K x0 x1 x2 w=>B (λ e' w'=>K (e' a0) (e' a1) (e' a2) w') [(a0,x0),(a1,x1),(a2,x2)] w) (λ K=>K (e a0) (e a1) (e a2) w)
 | [a0,a1,a2,a3]=>af9 (λ K x0 x1 x2 x3 w=>B (λ e' w'=>K (e' a0) (e' a1) (e' a2) (e' a3) w') [(a0,x0),(a1,x1),(a2,x2),(a3,x3)] w) (λ K=>K (e a0) (e a1) (e a2) (e a3) w)
 | [a0,a1,a2,a3,a4]=>agb (λ K x0 x1 x2 x3 x4 w=>B (λ e' w'=>K (e' a0) (e' a1) (e' a2) (e' a3) (e' a4) w') [(a0,x0),(a1,x1),(a2,x2),(a3,x3),(a4,x4)] w) (λ K=>K (e a0) (e a1) (e a2) (e a3) (e a4) w)
 | _=>False
def gE (l:List Nat) (e:Env):List (Nat × Value):=l.map λ a=>(a,e a)
theorem vo.spec {l:List Nat} {F:(Env->World->Prop)->Prop} {G:List (Nat × Value)->World->Prop} (h:vo l F G) :
  ∃ I:List (Nat × Value)->World->Prop,F (λ e w=>I (gE l e) w)/\∀ (e:Env) w,I (gE l e) w->G (gE l e) w:=by
 unfold vo at h
 split at h
 ·obtain ⟨I,h1,h2⟩:=h.ex
  exact ⟨λ _ w=>I w,h1,λ _ w hi=>h2 w hi⟩
 ·obtain ⟨I,h1,h2⟩:=h.ex
  exact ⟨λ q w=>match q with | [x0]=>I x0.2 w | _=>False,h1,λ e w hi=>h2 _ w hi⟩
 ·obtain ⟨I,h1,h2⟩:=h.ex
  exact ⟨λ q w=>match q with | [x0,x1]=>I x0.2 x1.2 w | _=>False,h1,λ e w hi=>h2 _ _ w hi⟩
 ·obtain ⟨I,h1,h2⟩:=h.ex
  exact ⟨λ q w=>match q with | [x0,x1,x2]=>I x0.2 x1.2 x2.2 w | _=>False,h1,λ e w hi=>h2 _ _ _ w hi⟩
 ·obtain ⟨I,h1,h2⟩:=h.ex
  exact ⟨λ q w=>match q with | [x0,x1,x2,x3]=>I x0.2 x1.2 x2.2 x3.2 w | _=>False,h1,λ e w hi=>h2 _ _ _ _ w hi⟩
 ·obtain ⟨I,h1,h2⟩:=h.ex
  exact ⟨λ q w=>match q with | [x0,x1,x2,x3,x4]=>I x0.2 x1.2 x2.2 x3.2 x4.2 w | _=>False,h1,λ e w hi=>h2 _ _ _ _ _ w hi⟩
 exact h.elim
theorem vp.spec {l:List Nat} {B:(Env->World->Prop)->List (Nat × Value)->World->Prop} {e:Env} {w:World} (h:vp l B e w) :
  ∃ I:Nat->List (Nat × Value)->World->Prop,(∃ m,I m (gE l e) w)/\
   ∀ m e w,I m (gE l e) w->B (λ e' w'=>∃ m',m'<m/\I m' (gE l e') w') (gE l e) w:=by
 unfold vp at h
 split at h
 ·obtain ⟨I,⟨m,h1⟩,h2⟩:=h.ex
  exact ⟨λ m _ w=>I m w,⟨m,h1⟩,λ m _ w hi=>h2 m w hi⟩
 ·obtain ⟨I,⟨m,h1⟩,h2⟩:=h.ex
  exact ⟨λ m q w=>match q with | [x0]=>I m x0.2 w | _=>False,⟨m,h1⟩,λ m e w hi=>h2 m _ w hi⟩
 ·obtain ⟨I,⟨m,h1⟩,h2⟩:=h.ex
  exact ⟨λ m q w=>match q with | [x0,x1]=>I m x0.2 x1.2 w | _=>False,⟨m,h1⟩,λ m e w hi=>h2 m _ _ w hi⟩
 ·obtain ⟨I,⟨m,h1⟩,h2⟩:=h.ex
  exact ⟨λ m q w=>match q with | [x0,x1,x2]=>I m x0.2 x1.2 x2.2 w | _=>False,⟨m,h1⟩,λ m e w hi=>h2 m _ _ _ w hi⟩
 ·obtain ⟨I,⟨m,h1⟩,h2⟩:=h.ex
  exact ⟨λ m q w=>match q with | [x0,x1,x2,x3]=>I m x0.2 x1.2 x2.2 x3.2 w | _=>False,⟨m,h1⟩,λ m e w hi=>h2 m _ _ _ _ w hi⟩
 ·obtain ⟨I,⟨m,h1⟩,h2⟩:=h.ex
  exact ⟨λ m q w=>match q with | [x0,x1,x2,x3,x4]=>I m x0.2 x1.2 x2.2 x3.2 x4.2 w | _=>False,⟨m,h1⟩,λ m e w hi=>h2 m _ _ _ _ _ w hi⟩
 exact h.elim
def PU (m d:Nat):Nat:=Nat.lor m (Nat.shiftLeft 1 d)
def agc (m d:Nat):Nat:=bif bit m d then Nat.sub m (Nat.shiftLeft 1 d) else m
def uH:List Nat->Nat
 | []=>0
 | d::r=>PU (uH r) d
def rJ:List Operand->Nat->Nat
 | [],m=>m
 | .tmp t::r,m=>PU (rJ r m) t
 | _::r,m=>rJ r m
def lkX (id:Nat):List (Nat × Nat)->Nat
 | []=>0
 | q::r=>bif Nat.beq q.1 id then q.2 else lkX id r
def PV:List Oper->Nat->Nat
 | [],lo=>lo
 | o::r,lo=>rJ o.op.operands.toList (match o.dst with | some d=>agc (PV r lo) d | none=>PV r lo)
def agd:List Nat->Nat->Nat
 | [],m=>m
 | d::r,m=>agd r (agc m d)
def li (rl:Nat):Code->List (Nat × Nat)->Nat->Nat
 | .skip,_,lo=>lo
 | .ret,_,_=>rl
 | .exit id,X,_=>lkX id X
 | .region _ ops _,_,lo=>PV ops.toList lo
 | .seq a b,X,lo=>li rl a X (li rl b X lo)
 | .cond c a b,X,lo=>rJ [c] (Nat.lor (li rl a X lo) (li rl b X lo))
 | .block id c,X,lo=>li rl c ((id,lo)::X) lo
 | .loop c,X,_=>li rl c X (li rl c X 0)
 | .rangeFunc g ps a b,X,lo=>rJ [g] (Nat.lor lo (agd ps.toList (li rl a X (li rl b X lo))))
 | _,_,_=>0
def dy:Code->Bool
 | .seq a b=>dy a || dy b
 | .cond _ a b=>dy a || dy b
 | .block _ c=>dy c
 | .loop c=>dy c
 | .rangeFunc _ _ _ _=>true
 | _=>false
def fW:Code->Nat
 | .region _ ops _=>uH (wr ops.toList)
 | .seq a b=>Nat.lor (fW a) (fW b)
 | .cond _ a b=>Nat.lor (fW a) (fW b)
 | .block _ c=>fW c
 | .loop c=>fW c
 | _=>0
def guarded:List Oper->Bool
 | []=>false
 | o::r=>o.guard.isSome || guarded r
def Vm (a b:Nat):Nat:=Nat.add a b
mutual
def Vn (id:Nat):Code->Nat
 | .exit k=>bif Nat.beq k id then 1 else 0
 | .seq a b=>bif Nat.beq (Vo a) 0 then Vn id a else Vm (Vn id a) (Vn id b)
 | .cond _ a b=>Vm (Vn id a) (Vn id b)
 | .block _ c=>Vn id c
 | .loop c=>Vn id c
 | .rangeFunc _ _ _ b=>Vn id b
 | _=>0
def Vo:Code->Nat
 | .skip=>1
 | .region _ ops _=>bif guarded ops.toList then 2 else 1
 | .seq a b=>bif Nat.beq (Vo a) 0 then 0 else Vo b
 | .cond _ a b=>Vm (Vo a) (Vo b)
 | .block id c=>Vm (Vo c) (Vn id c)
 | .rangeFunc _ _ _ _=>1
 | _=>0
end
def eV (m:Nat):Nat->Nat->List Nat
 | 0,_=>[]
 | f+1,i=>bif bit m i then i::eV m f (i+1) else eV m f (i+1)
abbrev yH:=Exit->List Nat->Env->World->Prop
def ox (K:List Nat->Env->World->Prop) (Q:yH):yH
 | .normal,ds,e,w=>K ds e w
 | x,ds,e,w=>Q x ds e w
def PW (id:Nat) (Q:yH):yH
 | .exit k,ds,e,w=>bif Nat.beq k id then Q .normal ds e w else Q (.exit k) ds e w
 | x,ds,e,w=>Q x ds e w
def PY (K:Option Code->World->Prop):yH
 | .normal,_,_,w=>K none w
 | .ret,_,_,w=>K (some .ret) w
 | .exit id,_,_,w=>K (some (.exit id)) w
 | _,_,_,_=>False
def Pm (N R:Nat->World->Prop) (X:Nat->Nat->World->Prop):Option Code->Nat->World->Prop
 | none=>N
 | some .ret=>R
 | some (.exit id)=>X id
 | _=>λ _ _=>False
def outs:List Nat->Code->Bool
 | l,.exit id=>!(l.any λ k=>Nat.beq k id)
 | l,.seq a b=>outs l a || outs l b
 | l,.cond _ a b=>outs l a || outs l b
 | l,.block id c=>outs (id::l) c
 | l,.loop c=>outs l c
 | _,_=>false
def qh:List Value->Nat->Value
 | [],_=>undef
 | v::_,0=>v
 | _::r,k+1=>qh r k
def ue (args:List Value):List Nat->Nat->Env->Env
 | [],_,e=>e
 | p::r,k,e=>ue args r (k+1) (rz e p (qh args k))
def jd (ds:List Nat):Value:=.tuple (ds.map fun (D:Nat)=>Value.int .u64 (D:Int)).toArray
def abA:Value->Nat
 | .int _ n=>n.toNat
 | _=>0
def vq:Value->List Nat
 | .tuple vs=>vs.toList.map abA
 | _=>[]
theorem wW (ds:List Nat):vq (jd ds)=ds:=by
 show (ds.map fun (D:Nat)=>Value.int .u64 (D:Int)).map abA=ds
 rw [List.map_map]
 conv=>rhs; rw [<- List.map_id ds]
 exact List.map_congr_left λ D _=>by simp [abA]
structure l9 (P:Program) (fv:Value) (np:Nat) (w:World) (round:List Value->World->(World->(World->Prop)->Prop)->(Option Code->World->Prop)->Prop) (after:Option Code->Nat->World->Prop):Prop where
 ex:∃ gf cap,fv = .func (.func gf) #[] cap/\Plain P gf/\∀ L0:Loop,L0.state = .ready->L0.pending=none->
  (∀ (args:List Value) (W:World) (K:Value->World->Prop),args.length=np->W.heap[w.heap.size+1]? = some (.loop L0)->
   round args W (λ w1 k=>w1.heap[w.heap.size+1]? = some (.loop L0)/\k (w1.putObj (w.heap.size+1) (.loop {L0 with state:=.busy})))
    (λ j W'=>W'.heap[w.heap.size+1]? = some (.loop {L0 with state:=.busy})/\K (.bool j.isNone) (W'.putObj (w.heap.size+1) (.loop {L0 with state:=if j.isNone then .ready else .done,pending:=j})))->
   YieldAt (FO none) 0 P (w.heap.size+1) args.toArray W (mW K))->
  Calls P gf (#[.func (.yield (w.heap.size+1)) #[] #[]]++cap) ((w.alloc (.deferred (some []))).alloc (.loop L0))
   (mW λ _ W2=>∃ st j,st≠.busy/\W2.heap[w.heap.size+1]? = some (.loop {L0 with state:=st,pending:=j})/\after j w.heap.size (W2.putObj (w.heap.size+1) (.loop {L0 with state:=.exhausted,pending:=j})))
abbrev eh:=Nat->PT
def Fq (pl:eh):Code->Bool
 | .region id _ true=>(pl id).many
 | .block _ c=>Fq pl c
 | .seq a b=>Fq pl a || Fq pl b
 | .cond _ a b=>Fq pl a || Fq pl b
 | _=>false
def drew (w:World):World:={w with drawn:=w.drawn+1}
def D (P:Program) (n:Nat) (pl:eh) (rl:Nat):Code->List (Nat × Nat)->Nat->yH->List Nat->Env->World->Prop
 | .skip,_,_,Q,ds,e,w=>Q .normal ds e w
 | .ret,_,_,Q,ds,e,w=>Q .ret ds e w
 | .exit id,_,_,Q,ds,e,w=>Q (.exit id) ds e w
 | .region _ ops false,_,_,Q,ds,e,w=>DR P n ops.toList (ops.toList.map λ o=>(o,[])) (Q .normal ds) [] e w
 | .region id ops true,_,_,Q,ds,e,w=>
  bif ops.toList.all (po n) && (ya ops.toList (ud ops.toList) && IF P ops.toList (ud ops.toList) false ops.toList.length 0 (pl id)) then
   DT P n ops.toList (pl id) (Q .normal ds) [] e (drew w)
  else False
 | .seq a b,X,lo,Q,ds,e,w=>
  bif Nat.ble (Vo a) 1 && !Fq pl a then D P n pl rl a X (li rl b X lo) (ox (D P n pl rl b X lo Q) Q) ds e w
  else bif dy a then vo (n::eV (Nat.land (fW a) (li rl b X lo)) n 0)
   (λ K=>D P n pl rl a X (li rl b X lo) (ox (λ ds e w=>K (rz e n (jd ds)) w) Q) ds e w)
   (λ bs w'=>∀ dead,D P n pl rl b X lo Q (vq (UW n bs undef)) (Bz e (fW a) bs.tail dead) w')
  else vo (eV (Nat.land (fW a) (li rl b X lo)) n 0)
   (λ K=>D P n pl rl a X (li rl b X lo) (ox (λ _ e w=>K e w) Q) ds e w)
   (λ bs w'=>∀ dead,D P n pl rl b X lo Q ds (Bz e (fW a) bs dead) w')
 | .cond c a b,X,lo,Q,ds,e,w=>uc (ev e c) (D P n pl rl a X lo Q ds e w) (D P n pl rl b X lo Q ds e w)
 | .block id c,X,lo,Q,ds,e,w=>D P n pl rl c ((id,lo)::X) lo (PW id Q) ds e w
 | .loop c,X,_,Q,ds,e,w=>
  bif dy c then vp (n::eV (Nat.land (fW c) (li rl c X (li rl c X 0))) n 0)
   (λ K bs w=>∀ dead,D P n pl rl c X (li rl c X (li rl c X 0)) (ox (λ ds e w=>K (rz e n (jd ds)) w) Q) (vq (UW n bs undef)) (Bz e (fW c) bs.tail dead) w) (rz e n (jd ds)) w
  else vp (eV (Nat.land (fW c) (li rl c X (li rl c X 0))) n 0)
   (λ K bs w=>∀ dead,D P n pl rl c X (li rl c X (li rl c X 0)) (ox (λ _ e w=>K e w) Q) ds (Bz e (fW c) bs dead) w) e w
 | .rangeFunc g ps asx bd,_,_,Q,ds,e,w=>
  bif ps.toList.all (λ p=>Nat.blt p n) && (!dy asx && !dy bd) then
   l9 P (ev e g) ps.toList.length w
    (λ args W B K=>D P n pl 0 asx [] (li 0 bd [] 0) (ox (λ ds1 e1 w1=>B w1 λ w2=>D P n pl 0 bd [] 0 (PY K) ds1 e1 w2) (λ _ _ _ _=>False)) [] (ue args ps.toList 0 e) W)
    (Pm (λ D w=>Q .normal (D::ds) e w) (λ D w=>Q .ret (D::ds) e w) (bif outs [] bd then (λ id D w=>Q (.exit id) (D::ds) e w) else λ _ _ _=>False))
  else False
 | _,_,_,_,_,_,_=>False
theorem Qa {a b i:Nat}:bit (Nat.lor a b) i=(bit a i || bit b i):=Nat.testBit_or ..
theorem Qb {m d i:Nat}:bit (PU m d) i=(bit m i || decide (i=d)):=by
 show (m ||| 1 <<< d).testBit i=_
 rw [Nat.testBit_or,Nat.one_shiftLeft,Nat.testBit_two_pow]
 unfold bit
 congr 1
 simp [eq_comm]
theorem I1 {l:List Nat} {i:Nat}:bit (uH l) i=true↔i∈l:=by
 induction l with
 | nil=>simp [uH,bit]
 | cons d r ih=>simp only [uH,Qb,Bool.or_eq_true,ih,decide_eq_true_eq,List.mem_cons]; exact or_comm
theorem I2 {l:List Nat} {e:Env} {i:Nat}:UW i (gE l e) (e i)=e i:=by
 induction l with
 | nil=>rfl
 | cons a r ih=>
  show (bif Nat.beq a i then e a else UW i (gE r e) (e i))=e i
  by_cases h:a=i
  ·rw [h,jc]; rfl
  ·rw [uG h]; exact ih
theorem sT {e e':Env} {M:Nat} {l:List Nat} (h:∀ i,bit M i=false->e' i=e i):Bz e M (gE l e') e'=e':=by
 funext i
 unfold Bz
 cases hb:bit M i with
 | true=>simp only [cond_true]; exact I2
 | false=>simp only [cond_false]; exact (h i hb).symm
theorem Fs {m:Nat}:∀ (f i k:Nat),k∈eV m f i->k<i+f:=by
 intro f
 induction f with
 | zero=>intro i k h; cases h
 | succ f ih=>
  intro i k h
  unfold eV at h
  cases hb:bit m i with
  | true=>
   rw [hb] at h
   rcases List.mem_cons.1 h with rfl | h
   ·omega
   ·have:=ih (i+1) k h; omega
  | false=>rw [hb] at h; have:=ih (i+1) k h; omega
theorem I3 {l:List Nat} {n:Nat} {v:Value} {e:Env} (h:∀ k∈l,k<n):gE l (rz e n v)=gE l e:=
 List.map_congr_left λ k hk=>by rw [jP _ _ (Nat.ne_of_lt (h k hk))]
theorem B2 {l:List Nat} {n:Nat} {ds:List Nat} {e:Env} (h:∀ k∈l,k<n):gE (n::l) (rz e n (jd ds))=(n,jd ds)::gE l e:=by
 show (n,rz e n (jd ds) n)::gE l (rz e n (jd ds))=_
 rw [ja,I3 h]
theorem KU {m n:Nat}:∀ k∈eV m n 0,k<n:=λ k hk=>by have:=Fs n 0 k hk; omega
def uf (n:Nat) (M:Nat) (b:Bool) (ds:List Nat) (e:Env) (Q:yH):Exit->Act->World->Prop:=
 λ x a' w'=>∃ mX e',eI mX n e' a'/\(∀ i,bit M i=false->e' i=e i)/\(b=false->mX=ds)/\Q x mX e' w'
theorem least {p:Nat->Prop} (h:∃ m,p m):∃ m,p m/\∀ k,p k->m<=k:=by
 obtain ⟨m,hm⟩:=h
 induction m using Nat.strongRecOn with
 | _ m ih=>
  by_cases hk:∃ k,k<m/\p k
  ·obtain ⟨k,Po,wP⟩:=hk; exact ih k Po wP
  ·exact ⟨m,hm,λ k hp=>Nat.le_of_not_lt λ eU=>hk ⟨k,eU,hp⟩⟩
theorem vr {n:Nat} {args:List Value}:∀ (ps:List Nat) (k:Nat) (e:Env) (a:Act),(∀ p∈ps,p<n)->eI [] n e a->k+ps.length<=args.length->
  eI [] n (ue args ps k e) {a with tmps:=(ps.zip (args.drop k)).foldl (λ t (q:Nat × Value)=>t.setIfInBounds q.1 q.2) a.tmps}:=by
 intro ps
 induction ps with
 | nil=>intro k e a _ ha _; simpa [ue] using ha
 | cons p ps ih=>
  intro k e a hp ha hk
  have eU:k<args.length:=by simp at hk; omega
  have hd:args.drop k=qh args k::args.drop (k+1):=by
   rw [List.drop_eq_getElem_cons eU]
   congr 1
   clear ih ha hk hp
   induction args generalizing k with
   | nil=>simp at eU
   | cons v r yb=>cases k with
    | zero=>rfl
    | succ k=>exact yb k (by simpa using eU)
  rw [hd]
  have h1:=ha.put (d:=some p) (λ k hk=>by cases hk; exact hp p List.mem_cons_self) (qh args k)
  exact ih (k+1) _ _ (λ q hq=>hp q (List.mem_cons_of_mem _ hq)) h1 (by simp at hk |-; omega)
theorem Qc {P:Program} {n:Nat} {pl:eh} {g:Operand} {ps:Array Tmp} {asx bd:Code}
  (ihA:∀ (r:Option Nat) (rl:Nat) (X:List (Nat × Nat)) (lo:Nat) (Q:yH) (ds:List Nat) (e:Env) (a:Act) (w:World),
   (r=none\/dy asx=false)->eI ds n e a->D P n pl rl asx X lo Q ds e w->asx.wpIn (FO r) 0 P (uf n (fW asx) (dy asx) ds e Q) a w)
  (ihB:∀ (r:Option Nat) (rl:Nat) (X:List (Nat × Nat)) (lo:Nat) (Q:yH) (ds:List Nat) (e:Env) (a:Act) (w:World),
   (r=none\/dy bd=false)->eI ds n e a->D P n pl rl bd X lo Q ds e w->bd.wpIn (FO r) 0 P (uf n (fW bd) (dy bd) ds e Q) a w)
  (rl:Nat) (X:List (Nat × Nat)) (lo:Nat) (Q:yH) (ds:List Nat) (e:Env) (a:Act) (w:World) (ha:eI ds n e a) (h:D P n pl rl (.rangeFunc g ps asx bd) X lo Q ds e w) :
  (Code.rangeFunc g ps asx bd).wpIn (FO none) 0 P (uf n 0 true ds e Q) a w:=by
 have h':(bif ps.toList.all (λ p=>Nat.blt p n) && (!dy asx && !dy bd) then
  l9 P (ev e g) ps.toList.length w
   (λ args W B K=>D P n pl 0 asx [] (li 0 bd [] 0) (ox (λ ds1 e1 w1=>B w1 λ w2=>D P n pl 0 bd [] 0 (PY K) ds1 e1 w2) (λ _ _ _ _=>False)) [] (ue args ps.toList 0 e) W)
   (Pm (λ D w=>Q .normal (D::ds) e w) (λ D w=>Q .ret (D::ds) e w) (bif outs [] bd then (λ id D w=>Q (.exit id) (D::ds) e w) else λ _ _ _=>False))
  else False):=h
 cases hc:(ps.toList.all (λ p=>Nat.blt p n) && (!dy asx && !dy bd)) with
 | false=>rw [hc] at h'; exact h'.elim
 | true=>
  rw [hc] at h'
  simp only [cond_true] at h'
  simp only [Bool.and_eq_true,Bool.not_eq_true'] at hc
  obtain ⟨hps,hA,hB⟩:=hc
  have abB:∀ p∈ps.toList,p<n:=λ p hp=>Nat.blt_eq▸List.all_eq_true.1 hps p hp
  obtain ⟨gf,cap,hfv,lT,vt⟩:=h'.ex
  refine wpIn_rangeFunc λ fn _=>?_
  let L0:Loop:={state:=.ready,pending:=none,fn,tmps:=a.tmps,params:=ps,assign:=asx,body:=bd,defers:=w.heap.size}
  have hY:=vt L0 rfl rfl (λ args W K hlen hl zI=>?_)
  ·have hC:=hY.mono (R':=rangePost (FO none) 0 P (w.heap.size+1) (uf n 0 true ds e Q) {a with defers:=[{target:=.collected w.heap.size,args:=#[]}]++a.defers}) (λ x w3 hx=>?_)
   ·have hC1:=(lS (r:=none) (n:=0)).2 hC
    refine ⟨w.heap.size+1,[{target:=.collected w.heap.size,args:=#[]}],(w.alloc (.deferred (some []))).alloc (.loop L0),
     {target:=.fn (.func gf) cap,args:=#[.func (.yield (w.heap.size+1)) #[] #[]]},(w.alloc (.deferred (some []))).alloc (.loop L0),gf,#[.func (.yield (w.heap.size+1)) #[] #[]]++cap,
     (w.alloc (.deferred (some []))).alloc (.loop L0),run_enterLoop_outer ..,?_,λ _ _=>trivial,?_,vm,?_⟩
    rotate_left 2
    ·exact hC1
    ·have hg:a.eval g = .func (.func gf) #[] cap:=by rw [ha.eval]; exact hfv
     simp only [resolve,hg]
     simp [go_sem]
    ·show (callFunc gf (#[.func (.yield (w.heap.size+1)) #[] #[]]++cap)).run P _=_
     exact qe lT _ _
   ·
    obtain ⟨v,rfl,st,j,hst,hl3,hk⟩:=hx
    refine ⟨j,_,run_endLoop hl3 (by simpa using hst),?_⟩
    have Dq:eI (w.heap.size::ds) n e {a with defers:=[{target:=.collected w.heap.size,args:=#[]}]++a.defers}:=⟨by rw [ha.defers]; rfl,ha.size,ha.get⟩
    cases j with
    | none=>exact ⟨_,e,Dq,λ _ _=>rfl,λ hh=>(by cases hh),hk⟩
    | some c=>
     cases c with
     | ret=>exact wpIn_ret ⟨_,e,Dq,λ _ _=>rfl,λ hh=>(by cases hh),hk⟩
     | exit id=>
       have Bs:(bif outs [] bd then (λ id D w=>Q (.exit id) (D::ds) e w) else λ _ _ _=>False:Nat->Nat->World->Prop) id w.heap.size _:=hk
       cases ho:outs [] bd with
       | true=>rw [ho] at Bs; exact wpIn_exit ⟨_,e,Dq,λ _ _=>rfl,λ hh=>(by cases hh),Bs⟩
       | false=>rw [ho] at Bs; exact Bs.elim
     | _=>exact hk.elim
  ·
   have eU:w.heap.size+1<W.heap.size:=(Array.getElem?_eq_some_iff.1 hl).1
   refine ⟨fn,_,asx,bd,run_yield hl (by simp [hlen,L0]),roundIn_of_wpIn trivial ?_⟩
   have Dq:eI [] n (ue args ps.toList 0 e) {tmps:=(ps.zip args.toArray).foldl (λ t (q:Nat × Value)=>t.setIfInBounds q.1 q.2) a.tmps,defers:=[]}:=by
    have h0:eI [] n e {tmps:=a.tmps,defers:=[]}:=⟨rfl,ha.size,ha.get⟩
    have:=vr ps.toList 0 e _ abB h0 (by simpa using Nat.le_of_eq hlen.symm)
    have e1:(ps.zip args.toArray).foldl (λ t (q:Nat × Value)=>t.setIfInBounds q.1 q.2) a.tmps=(ps.toList.zip (args.drop 0)).foldl (λ t (q:Nat × Value)=>t.setIfInBounds q.1 q.2) a.tmps:=by
     rw [<- Array.foldl_toList,Array.toList_zip]; simp
    rw [e1]; exact this
   refine wpIn_mono (ihA (some (w.heap.size+1)) 0 [] _ _ [] _ _ W (.inr hA) Dq zI) λ x a1 w1 hp=>?_
   obtain ⟨ds1,e1,ha1,_,hd1,hq⟩:=hp
   cases x with
   | normal=>
    obtain ⟨ZL,hq⟩:=hq
    refine ⟨_,run_beginRound ZL rfl,?_⟩
    refine wpIn_mono (ihB (some (w.heap.size+1)) 0 [] _ _ ds1 e1 a1 _ (.inr hB) ha1 hq) λ x a2 w2 hp=>?_
    obtain ⟨ZM,e2,Ft,_,_,hq⟩:=hp
    cases x with
    | normal=>obtain ⟨vi,hk⟩:=hq; exact ⟨_,_,run_endRound none vi,_,rfl,hk⟩
    | ret=>obtain ⟨vi,hk⟩:=hq; exact ⟨_,_,run_endRound (some .ret) vi,_,rfl,hk⟩
    | exit id=>obtain ⟨vi,hk⟩:=hq; exact ⟨_,_,run_endRound (some (.exit id)) vi,_,rfl,hk⟩
    | _=>exact hq.elim
   | _=>exact hq.elim
theorem Vp {P:Program} {n:Nat} {pl:eh} (hm:P.follows .mixedOrders=true) :
  ∀ (c:Code) (r:Option Nat) (rl:Nat) (X:List (Nat × Nat)) (lo:Nat) (Q:yH) (ds:List Nat) (e:Env) (a:Act) (w:World),
   (r=none\/dy c=false)->eI ds n e a->D P n pl rl c X lo Q ds e w->c.wpIn (FO r) 0 P (uf n (fW c) (dy c) ds e Q) a w:=by
 intro c
 induction c with
 | skip=>intro r rl X lo Q ds e a w _ ha h; exact wpIn_skip ⟨ds,e,ha,λ _ _=>rfl,λ _=>rfl,h⟩
 | ret=>intro r rl X lo Q ds e a w _ ha h; exact wpIn_ret ⟨ds,e,ha,λ _ _=>rfl,λ _=>rfl,h⟩
 | exit id=>intro r rl X lo Q ds e a w _ ha h; exact wpIn_exit ⟨ds,e,ha,λ _ _=>rfl,λ _=>rfl,h⟩
 | region id ops draw=>
  intro r rl X lo Q ds e a w _ ha h
  have hQ:∀ (e':Env) (a':Act) (w':World),eI ds n e' a'->(∀ k,k ∉ wr ops.toList->e' k=e k)->Q .normal ds e' w'->uf n (fW (.region id ops draw)) (dy (.region id ops draw)) ds e Q .normal a' w':=
   λ e' a' w' xZ hf hq=>by
    refine ⟨ds,e',xZ,λ i hi=>hf i λ tM=>?_,λ _=>rfl,hq⟩
    have h1:bit (uH (wr ops.toList)) i=true:=I1.2 tM
    have h2:bit (uH (wr ops.toList)) i=false:=hi
    rw [h1] at h2; cases h2
  cases draw with
  | false=>
   have:=DR.region (r:=r) (id:=id) ha hQ (show DR P n ops.toList (ops.toList.map λ o=>(o,[])) (Q .normal ds) [] e w from h)
   simpa using this
  | true=>
   have h':(bif ops.toList.all (po n) && (ya ops.toList (ud ops.toList) && IF P ops.toList (ud ops.toList) false ops.toList.length 0 (pl id)) then
    DT P n ops.toList (pl id) (Q .normal ds) [] e (drew w) else False):=h
   cases hc:(ops.toList.all (po n) && (ya ops.toList (ud ops.toList) && IF P ops.toList (ud ops.toList) false ops.toList.length 0 (pl id))) with
   | false=>rw [hc] at h'; exact h'.elim
   | true=>
    rw [hc] at h'
    simp only [Bool.and_eq_true] at hc
    obtain ⟨h2,h3,h4⟩:=hc
    have hd:∀ d∈wr ops.toList,d<n:=λ d hd=>by
     obtain ⟨o,ho,IG⟩:=List.mem_filterMap.1 hd
     have:=List.all_eq_true.1 h2 o ho
     unfold po at this
     rw [IG] at this
     exact Nat.blt_eq▸this
    have hz:(bit 0)=λ _=>false:=by funext i; simp [bit]
    have hws:=(KS (Q:=Q .normal ds) h3 (pl id) ops.toList.length 0 [] e (drew w) (λ i o hi=>by simp [bit] at hi) (by constructor <;> simp) (DT.plain _ _ _ _ (ik.nil e) h')).1 h4
    rw [hz] at hws
    have:=WS.region (r:=r) (id:=id) hm hd ha hQ hws
    simpa using this
 | seq c1 c2 Dr yb=>
  intro r rl X lo Q ds e a w hr ha h
  have BA:r=none\/dy c1=false:=hr.imp id λ h=>by have:(dy c1 || dy c2)=false:=h; rw [Bool.or_eq_false_iff] at this; exact this.1
  have Fc:r=none\/dy c2=false:=hr.imp id λ h=>by have:(dy c1 || dy c2)=false:=h; rw [Bool.or_eq_false_iff] at this; exact this.2
  have key:∀ (K:List Nat->Env->World->Prop),D P n pl rl c1 X (li rl c2 X lo) (ox K Q) ds e w->
    (∀ mX e' a' w',eI mX n e' a'->(∀ i,bit (fW c1) i=false->e' i=e i)->(dy c1=false->mX=ds)->K mX e' w'->c2.wpIn (FO r) 0 P (uf n (fW c2) (dy c2) mX e' Q) a' w')->
    (Code.seq c1 c2).wpIn (FO r) 0 P (uf n (fW (.seq c1 c2)) (dy (.seq c1 c2)) ds e Q) a w:=by
   intro K hK hk
   refine wpIn_seq (wpIn_mono (Dr r rl X _ _ ds e a w BA ha hK) λ x a' w' hp=>?_)
   obtain ⟨mX,e',xZ,hf,hds,hq⟩:=hp
   have hor:∀ i,bit (fW (.seq c1 c2)) i=false->bit (fW c1) i=false/\bit (fW c2) i=false:=λ i hi=>by
    have:bit (Nat.lor (fW c1) (fW c2)) i=false:=hi
    rw [Qa,Bool.or_eq_false_iff] at this; exact this
   have ZN:dy (.seq c1 c2)=false->dy c1=false/\dy c2=false:=λ hh=>by
    have:(dy c1 || dy c2)=false:=hh
    rw [Bool.or_eq_false_iff] at this; exact this
   cases x with
   | normal=>
    refine wpIn_mono (hk mX e' a' w' xZ hf hds hq) λ x2 a2 w2 Vl=>?_
    obtain ⟨ZM,e2,Ft,hf2,abC,oe⟩:=Vl
    exact ⟨ZM,e2,Ft,λ i hi=>(hf2 i (hor i hi).2).trans (hf i (hor i hi).1),λ hh=>(abC (ZN hh).2).trans (hds (ZN hh).1),oe⟩
   | _=>exact ⟨mX,e',xZ,λ i hi=>hf i (hor i hi).1,λ hh=>hds (ZN hh).1,hq⟩
  have h':(bif Nat.ble (Vo c1) 1 && !Fq pl c1 then D P n pl rl c1 X (li rl c2 X lo) (ox (D P n pl rl c2 X lo Q) Q) ds e w
   else bif dy c1 then vo (n::eV (Nat.land (fW c1) (li rl c2 X lo)) n 0)
    (λ K=>D P n pl rl c1 X (li rl c2 X lo) (ox (λ ds e w=>K (rz e n (jd ds)) w) Q) ds e w)
    (λ bs w'=>∀ dead,D P n pl rl c2 X lo Q (vq (UW n bs undef)) (Bz e (fW c1) bs.tail dead) w')
   else vo (eV (Nat.land (fW c1) (li rl c2 X lo)) n 0)
    (λ K=>D P n pl rl c1 X (li rl c2 X lo) (ox (λ _ e w=>K e w) Q) ds e w)
    (λ bs w'=>∀ dead,D P n pl rl c2 X lo Q ds (Bz e (fW c1) bs dead) w')):=h
  cases hc:(Nat.ble (Vo c1) 1 && !Fq pl c1) with
  | true=>
   rw [hc] at h'
   exact key _ h' λ mX e' a' w' xZ _ _ hk=>yb r rl X lo Q mX e' a' w' Fc xZ hk
  | false=>
   rw [hc] at h'
   simp only [cond_false] at h'
   cases Np:dy c1 with
   | false=>
    rw [Np] at h'
    simp only [cond_false] at h'
    obtain ⟨I,h1,h2⟩:=vo.spec h'
    refine key _ h1 λ mX e' a' w' xZ hf hds hk=>?_
    have:=h2 e' w' hk e'
    rw [sT hf] at this
    rw [hds Np] at xZ |-
    exact yb r rl X lo Q ds e' a' w' Fc xZ this
   | true=>
    rw [Np] at h'
    simp only [cond_true] at h'
    obtain ⟨I,h1,h2⟩:=vo.spec h'
    refine key _ h1 λ mX e' a' w' xZ hf hds hk=>?_
    have:=h2 (rz e' n (jd mX)) w' hk e'
    rw [B2 KU] at this
    rw [show ((n,jd mX)::gE (eV (Nat.land (fW c1) (li rl c2 X lo)) n 0) e').tail=gE (eV (Nat.land (fW c1) (li rl c2 X lo)) n 0) e' from rfl,sT hf,
     show UW n ((n,jd mX)::gE (eV (Nat.land (fW c1) (li rl c2 X lo)) n 0) e') undef=jd mX by show (bif Nat.beq n n then jd mX else _)=_; rw [jc]; rfl,wW] at this
    exact yb r rl X lo Q mX e' a' w' Fc xZ this
 | cond c c1 c2 Dr yb=>
  intro r rl X lo Q ds e a w hr ha h
  obtain ⟨t,ht,hA,hB⟩:=(show uc (ev e c) (D P n pl rl c1 X lo Q ds e w) (D P n pl rl c2 X lo Q ds e w) from h).ex
  have hor:∀ i,bit (fW (.cond c c1 c2)) i=false->bit (fW c1) i=false/\bit (fW c2) i=false:=λ i hi=>by
   have:bit (Nat.lor (fW c1) (fW c2)) i=false:=hi
   rw [Qa,Bool.or_eq_false_iff] at this; exact this
  have ZN:dy (.cond c c1 c2)=false->dy c1=false/\dy c2=false:=λ hh=>by
   have:(dy c1 || dy c2)=false:=hh
   rw [Bool.or_eq_false_iff] at this; exact this
  refine wpIn_cond_split (t:=t) (by rw [ha.eval]; exact ht) (λ h1=>?_) (λ h1=>?_)
  ·exact wpIn_mono (Dr r rl X lo Q ds e a w (hr.imp id λ h=>(ZN h).1) ha (hA h1)) λ x a' w' ⟨mX,e',xZ,hf,hds,hq⟩=>⟨mX,e',xZ,λ i hi=>hf i (hor i hi).1,λ hh=>hds (ZN hh).1,hq⟩
  ·exact wpIn_mono (yb r rl X lo Q ds e a w (hr.imp id λ h=>(ZN h).2) ha (hB h1)) λ x a' w' ⟨mX,e',xZ,hf,hds,hq⟩=>⟨mX,e',xZ,λ i hi=>hf i (hor i hi).2,λ hh=>hds (ZN hh).2,hq⟩
 | block id c ih=>
  intro r rl X lo Q ds e a w hr ha h
  refine wpIn_block (wpIn_mono (ih r rl _ _ _ ds e a w hr ha h) λ x a' w' hp=>?_)
  obtain ⟨mX,e',xZ,hf,hds,hq⟩:=hp
  cases x with
  | exit k=>
   simp only [Exit.inBlock]
   simp only [PW] at hq
   by_cases hk:k=id
   ·subst hk
    rw [jc] at hq
    rw [if_pos rfl]
    exact ⟨mX,e',xZ,hf,hds,hq⟩
   ·rw [uG hk] at hq
    rw [if_neg hk]
    exact ⟨mX,e',xZ,hf,hds,hq⟩
  | _=>exact ⟨mX,e',xZ,hf,hds,hq⟩
 | loop c ih=>
  intro r rl X lo Q ds e a w hr ha h
  have key:∀ (V:List Nat->Env->List (Nat × Value)) (I:Nat->List (Nat × Value)->World->Prop),(∃ m,I m (V ds e) w)->
    (∀ m mX e' w',(∀ i,bit (fW c) i=false->e' i=e i)->(dy c=false->mX=ds)->I m (V mX e') w'->D P n pl rl c X (li rl c X (li rl c X 0)) (ox (λ ZM e2 w2=>∃ m',m'<m/\I m' (V ZM e2) w2) Q) mX e' w')->
    (Code.loop c).wpIn (FO r) 0 P (uf n (fW (.loop c)) (dy (.loop c)) ds e Q) a w:=by
   intro V I ⟨m,h1⟩ h2
   let Inv:Nat->Act->World->Prop:=λ m a' w'=>∃ mX e',eI mX n e' a'/\(∀ i,bit (fW c) i=false->e' i=e i)/\(dy c=false->mX=ds)/\I m (V mX e') w'
   have body:∀ m a' w',Inv m a' w'->c.wpIn (FO r) 0 P (Exit.then (λ a2 w2=>∃ m',m'<m/\Inv m' a2 w2) (uf n (fW (.loop c)) (dy (.loop c)) ds e Q)) a' w':=by
    rintro m a' w' ⟨mX,e',xZ,hf,hds,hi⟩
    refine wpIn_mono (ih r rl X _ _ mX e' a' w' hr xZ (h2 m mX e' w' hf hds hi)) λ x a2 w2 hp=>?_
    obtain ⟨ZM,e2,Ft,hf2,abC,hq⟩:=hp
    have hfe:∀ i,bit (fW c) i=false->e2 i=e i:=λ i hi=>(hf2 i hi).trans (hf i hi)
    have agf:dy c=false->ZM=ds:=λ hh=>(abC hh).trans (hds hh)
    cases x with
    | normal=>obtain ⟨m',PK,yW⟩:=hq; exact ⟨m',PK,ZM,e2,Ft,hfe,agf,yW⟩
    | _=>exact ⟨ZM,e2,Ft,hfe,agf,hq⟩
   classical
   let J:Act->World->Prop:=λ a' w'=>∃ m,Inv m a' w'
   let μ:Act->World->Nat:=λ a' w'=>if h:∃ m,Inv m a' w' then Classical.choose (least h) else 0
   have hμ:∀ a' w',J a' w'->Inv (μ a' w') a' w'/\∀ k,Inv k a' w'->μ a' w'<=k:=λ a' w' hj=>by
    have e1:μ a' w'=Classical.choose (least hj):=dif_pos hj
    rw [e1]
    exact Classical.choose_spec (least hj)
   refine wpIn_loop J μ ⟨m,ds,e,ha,λ _ _=>rfl,λ _=>rfl,h1⟩ λ a' w' hj=>?_
   refine wpIn_mono (body _ a' w' (hμ a' w' hj).1) λ x a2 w2 hp=>?_
   cases x with
   | normal=>
    obtain ⟨m',PK,yW⟩:=hp
    exact ⟨⟨m',yW⟩,Nat.lt_of_le_of_lt ((hμ a2 w2 ⟨m',yW⟩).2 m' yW) PK⟩
   | _=>exact hp
  have h':(bif dy c then vp (n::eV (Nat.land (fW c) (li rl c X (li rl c X 0))) n 0)
    (λ K bs w=>∀ dead,D P n pl rl c X (li rl c X (li rl c X 0)) (ox (λ ds e w=>K (rz e n (jd ds)) w) Q) (vq (UW n bs undef)) (Bz e (fW c) bs.tail dead) w) (rz e n (jd ds)) w
   else vp (eV (Nat.land (fW c) (li rl c X (li rl c X 0))) n 0)
    (λ K bs w=>∀ dead,D P n pl rl c X (li rl c X (li rl c X 0)) (ox (λ _ e w=>K e w) Q) ds (Bz e (fW c) bs dead) w) e w):=h
  cases hc:dy c with
  | false=>
   rw [hc] at h'
   simp only [cond_false] at h'
   obtain ⟨I,h1,h2⟩:=vp.spec h'
   rw [show dy (.loop c)=dy c from rfl] at key
   have:=key (λ _ e=>gE (eV (Nat.land (fW c) (li rl c X (li rl c X 0))) n 0) e) I h1 λ m mX e' w' hf hds hi=>by
    have:=h2 m e' w' hi e'
    rw [sT hf] at this
    rw [hds hc]
    exact this
   exact this
  | true=>
   rw [hc] at h'
   simp only [cond_true] at h'
   obtain ⟨I,h1,h2⟩:=vp.spec h'
   refine key (λ ds e=>gE (n::eV (Nat.land (fW c) (li rl c X (li rl c X 0))) n 0) (rz e n (jd ds))) I h1 λ m mX e' w' hf hds hi=>?_
   have:=h2 m (rz e' n (jd mX)) w' hi e'
   rw [B2 KU] at this
   rw [show ((n,jd mX)::gE (eV (Nat.land (fW c) (li rl c X (li rl c X 0))) n 0) e').tail=gE (eV (Nat.land (fW c) (li rl c X (li rl c X 0))) n 0) e' from rfl,sT hf,
    show UW n ((n,jd mX)::gE (eV (Nat.land (fW c) (li rl c X (li rl c X 0))) n 0) e') undef=jd mX by show (bif Nat.beq n n then jd mX else _)=_; rw [jc]; rfl,wW] at this
   exact this
 | rangeFunc g ps asx bd ihA ihB=>
  intro r rl X lo Q ds e a w hr ha h
  have Qd:r=none:=hr.resolve_right (by simp [dy])
  subst Qd
  exact Qc ihA ihB rl X lo Q ds e a w ha h
 | _=>intro r rl X lo Q ds e a w _ ha h; exact h.elim
def BB (P:Program):List ResultVar->Env->(List Value->Prop)->World->Prop
 | [],_,K,_=>K []
 | .tmp t::r,e,K,w=>BB P r e (λ vs=>K (e t::vs)) w
 | .cell a t::r,e,K,w=>q7 P (Instr.loadAt t (e a)) w (λ v=>BB P r e (λ vs=>K (v::vs)) w)
def Fu:List Value->Value
 | [v]=>v
 | vs=>.tuple vs.toArray
def fo:List Nat->World->(World->Prop)->Prop
 | [],w,K=>K w
 | D::r,w,K=>w.heap[D]? = some (.deferred (some []))/\fo r (w.putObj D (.deferred none)) K
def I4 (P:Program) (rs:List ResultVar) (K:Value->World->Prop):yH
 | .normal,ds,e,w=>fo ds w λ w=>BB P rs e (λ vs=>K (Fu vs) w) w
 | .ret,ds,e,w=>fo ds w λ w=>BB P rs e (λ vs=>K (Fu vs) w) w
 | _,_,_,_=>False
def rA:List Value->Env
 | [],_=>undef
 | v::_,0=>v
 | _::r,n+1=>rA r n
theorem vu (l:List Value) (i:Nat):rA l i=l.getD i undef:=by
 induction l generalizing i with
 | nil=>simp [rA]
 | cons v r ih=>cases i with
  | zero=>rfl
  | succ i=>simp [rA,ih]
def Nq (tmps:Array Value):ResultVar->Sem Value
 | .tmp t=>pure (tmps.getD t undef)
 | .cell a t=>do loadVar t (<- asAddr (tmps.getD a undef))
theorem Dt {P:Program} {t:TypeId} {v u:Value} {w:World} (h:(Instr.loadAt t v).run P w = .ok u w):(do loadVar t (<- asAddr v):Sem Value).run P w = .ok u w:=by
 cases v with
 | pointer a=>cases a with
  | none => exact absurd (show (Result.halt (.stuck "an address expected (no nilCheck in front?)") w : Result Value) = .ok u w from h) (by simp)
  | some a=>exact h
 | _ => exact absurd (show (Result.halt (.stuck "an address expected (no nilCheck in front?)") w : Result Value) = .ok u w from h) (by simp)
theorem zJ {P:Program} {ds:List Nat} {n:Nat} {e:Env} {a:Act} (ha:eI ds n e a):∀ (rs:List ResultVar) (K:List Value->Prop) (w:World),BB P rs e K w->
  ∃ vs,(rs.mapM (Nq a.tmps)).run P w = .ok vs w/\K vs:=by
 intro rs
 induction rs with
 | nil=>intro K w h; exact ⟨[],rfl,h⟩
 | cons r rs ih=>
  intro K w h
  have step:∀ v,(Nq a.tmps r).run P w = .ok v w->BB P rs e (λ vs=>K (v::vs)) w->∃ vs,((r::rs).mapM (Nq a.tmps)).run P w = .ok vs w/\K vs:=by
   intro v hv hr
   obtain ⟨vs,h1,h2⟩:=ih _ w hr
   refine ⟨v::vs,?_,h2⟩
   rw [List.mapM_cons,aZ hv,aZ h1]
   rfl
  cases r with
  | tmp t=>exact step (e t) (by rw [<- ha.get t]; rfl) h
  | cell c t=>
   obtain ⟨v,hv,hr⟩:=h.ex
   refine step v ?_ hr
   show (do loadVar t (<- asAddr (a.tmps.getD c undef)):Sem Value).run P w=_
   rw [ha.get c]
   exact Dt hv
theorem rK {P:Program} {fn:Func} {rs:List ResultVar} (hr:fn.results=rs.toArray) {tmps:Array Value} {w:World} {vs:List Value}
  (h:(rs.mapM (Nq tmps)).run P w = .ok vs w):(results fn tmps).run P w = .ok (Fu vs) w:=by
 have e:results fn tmps=(rs.toArray.mapM (Nq tmps) >>= λ vs=>pure (if h:vs.size=1 then vs[0] else .tuple vs)):=by
  unfold results; rw [hr]; rfl
 rw [e,List.mapM_toArray]
 have h1:(Functor.map (λ a=>a.toArray) (rs.mapM (Nq tmps))).run P w = .ok vs.toArray w:=by
  rw [<- bind_pure_comp,aZ h]; rfl
 rw [aZ h1]
 show Result.ok _ w=Result.ok _ w
 congr 1
 match vs with
 | []=>rfl
 | [v]=>rfl
 | a::b::r=>simp [Fu]
theorem qi {P:Program} {fn:Func} {tmps:Array Value} {R:Ending->World->Prop}:∀ (ds:List Nat) (w:World),fo ds w (λ w'=>∃ v,(results fn tmps).run P w' = .ok v w'/\R (.returned v) w')->
  LeavesInM (FO none) 0 P fn tmps R (ds.map mark) .returning w:=by
 intro ds
 induction ds with
 | nil=>intro w ⟨v,h1,h2⟩; exact ⟨v,h1,h2⟩
 | cons D r ih=>intro w h; exact ⟨by simp,.inl ⟨D,_,rfl,run_takeDeferred h.1,ih _ h.2⟩⟩
theorem fo.mono {ds:List Nat} {K K':World->Prop} (hk:∀ w,K w->K' w):∀ {w:World},fo ds w K->fo ds w K':=by
 induction ds with
 | nil=>intro w h; exact hk w h
 | cons D r ih=>intro w h; exact ⟨h.1,ih h.2⟩
theorem zK {P:Program} {n:Nat} {pl:eh} {rl:Nat} {f:FuncId} {fn:Func} {c:Code} {rs:List ResultVar} {args:List Value} {w:World} {K:Value->World->Prop}
  (hm:P.follows .mixedOrders=true) (hf:P.funcs[f]? = some fn) (hb:fn.body=some c) (hn:fn.ntmps=n) (hr:fn.results=rs.toArray) (hle:args.length<=n)
  (h:D P n pl rl c [] rl (I4 P rs K) [] (rA args) w):Calls P f args.toArray w (mW K):=by
 refine lS.1 (callsIn_of_wp_marks (F:=FO none) (n:=0) hf hb trivial ?_)
 have ha:eI [] n (rA args) {tmps:=args.toArray++Array.replicate (fn.ntmps - args.toArray.size) undef,defers:=[]}:=by
  refine ⟨rfl,by simp [hn]; omega,λ i=>?_⟩
  rw [vu,Array.getD_eq_getD_getElem?,Array.getElem?_append]
  simp only [List.size_toArray,List.getElem?_toArray,Array.getElem?_replicate]
  by_cases hi:i<args.length
  ·rw [if_pos hi]; simp [hi]
  ·rw [if_neg hi]
   have:args[i]? = none:=by simp; omega
   simp only [List.getD_eq_getElem?_getD,this,Option.getD_none]
   split <;> rfl
 refine wpIn_mono (Vp hm c none rl [] rl _ [] _ _ w (.inl rfl) ha h) λ x a' w' hp=>?_
 obtain ⟨mX,e',xZ,_,_,hq⟩:=hp
 have fin:fo mX w' (λ w=>BB P rs e' (λ vs=>K (Fu vs) w) w)->LeavesInM (FO none) 0 P fn a'.tmps (mW K) a'.defers .returning w':=λ hq=>by
  rw [xZ.defers]
  refine qi mX w' (hq.mono λ w1 h1=>?_)
  obtain ⟨vs,h1,h2⟩:=zJ xZ rs _ w1 h1
  exact ⟨_,rK hr h1,_,rfl,h2⟩
 cases x with
 | normal=>exact fin hq
 | ret=>exact fin hq
 | _=>exact hq.elim
theorem okD {P:Program} {n:Nat} {pl:eh} {rl:Nat} {f:FuncId} {fn:Func} {c:Code} {rs:List ResultVar} {args:List Value} {w:World} {K:Value->World->Prop} {S:Prop}
  (hf:P.funcs[f]? = some fn) (hb:fn.body=some c) (hn:fn.ntmps=n) (hr:fn.results=rs.toArray) (hm:P.follows .mixedOrders=true) (hle:args.length<=n)
  (e:D P n pl rl c [] rl (I4 P rs K) [] (rA args) w=S) (h:S):Calls P f args.toArray w (mW K):=zK hm hf hb hn hr hle (e.mpr h)
theorem okE {P:Program} (n:Nat) (pl:eh) (rl:Nat) (rs:List ResultVar) {f:FuncId} {fn:Func} {args:List Value} {w:World} {K:Value->World->Prop} {S:Prop}
  (hf:P.funcs[f]? = some fn) (hb:fn.body=some (fn.body.getD .skip)) (hn:fn.ntmps=n) (hr:fn.results=rs.toArray) (hm:P.follows .mixedOrders=true) (hle:args.length<=n)
  (e:D P n pl rl (fn.body.getD .skip) [] rl (I4 P rs K) [] (rA args) w=S) (h:S):Calls P f args.toArray w (mW K):=okD hf hb hn hr hm hle e h
theorem okZ {P:Program} (n:Nat) (pl:eh) (rl:Nat) (rs:List ResultVar) {f:FuncId} {fn:Func} {args:List Value} {w:World} {K:Value->World->Prop} {S:Prop}
  (hf:P.funcs[f]? = some fn) (hm:P.follows .mixedOrders=true) (hc:(fn.body.isSome,fn.ntmps,fn.results,Nat.ble args.length n)=(true,n,rs.toArray,true))
  (e:D P n pl rl (fn.body.getD .skip) [] rl (I4 P rs K) [] (rA args) w=S) (h:S):Calls P f args.toArray w (mW K):=by
 have h1:fn.body.isSome=true:=congrArg (λ x=>x.1) hc
 have h2:fn.ntmps=n:=congrArg (λ x=>x.2.1) hc
 have h3:fn.results=rs.toArray:=congrArg (λ x=>x.2.2.1) hc
 have h4:Nat.ble args.length n=true:=congrArg (λ x=>x.2.2.2) hc
 have h5:fn.body=some (fn.body.getD .skip):=by
  cases hb:fn.body with
  | none=>rw [hb] at h1; cases h1
  | some c=>rfl
 exact okD hf h5 h2 h3 hm (Nat.le_of_ble_eq_true h4) e h
theorem dW {P : Program} {f : FuncId} {fn : Func} (hf : P.funcs[f]? = some fn) (h : (fn.name == "runtime.NumGoroutine", fn.body.isNone) = (false, false) := by kernel_rfl) : Plain P f := ⟨fn, hf, congrArg (λ x => x.1) h, congrArg (λ x => x.2) h⟩
theorem vb {a b:Bool} (h:a=b):Value.bool a=Value.bool b:=congrArg _ h
theorem Qe {p:Prop} [Decidable p] (h:p):Value.bool true=Value.bool (decide p):=vb (decide_eq_true h).symm
theorem jvF {p:Prop} [Decidable p] (h:¬ p):Value.bool false=Value.bool (decide p):=vb (decide_eq_false h).symm
theorem I5 {p q:Prop} [Decidable p] [Decidable q] (h:p↔q):Value.bool (decide p)=Value.bool (decide q):=vb (decide_eq_decide.2 h)
end Go.Fw
namespace Go.Proofs.YtfkgkbhbdffckaaGreatDoor
open Go.Fw
variable (w:World) (K:Value->World->Prop)
abbrev i (n:Int):Value:=.int .i64 n
abbrev tt:Value:=.bool true
abbrev ff:Value:=.bool false
abbrev fA (T:Nat) (v:Value) (f:Nat) (K:Value->Prop):Prop:=cU Tryz.prog (Instr.fieldAt T v f) K
abbrev iA (T:Nat) (v j:Value) (K:Value->Prop):Prop:=cU Tryz.prog (Instr.indexAt T v j) K
abbrev lA (T:Nat) (p:Value) (w:World) (K:Value->Prop):Prop:=q7 Tryz.prog (Instr.loadAt T p) w K
abbrev sA (T:Nat) (p v:Value) (w:World) (K:World->Prop):Prop:=BT Tryz.prog (Instr.storeAt T p v) w K
abbrev bA (o:BinOp) (T:Nat) (x y:Value) (K:Value->Prop):Prop:=cU Tryz.prog (fL o T false false x y) K
abbrev bB (o:BinOp) (T:Nat) (x y:Value) (K:Value->Prop):Prop:=cU Tryz.prog (fL o T false true x y) K
abbrev bC (o:BinOp) (T:Nat) (x y:Value) (K:Value->Prop):Prop:=cU Tryz.prog (fL o T true false x y) K
abbrev cF (f:Nat) (args:List Value) (w:World) (K:Value->World->Prop):Prop:=xX Tryz.prog f args w K
abbrev nC (v:Value) (K:Value->Prop):Prop:=cU Tryz.prog (IU v) K
abbrev lN (T:Nat) (v:Value) (K:Value->Prop):Prop:=cU Tryz.prog (Builtin.len_ #[T] 3 [v].toArray) K
abbrev aL (T:Nat) (w:World) (K:Value->World->Prop):Prop:=gd Tryz.prog (Instr.alloc T true (.tuple #[])) w K
abbrev xT (v:Value) (k:Nat) (K:Value->Prop):Prop:=cU Tryz.prog (Instr.extract v k) K
abbrev kA (T:Nat) (p v:Value) (w:World) (R:Prop):Prop:=Dj Tryz.prog (Instr.loadAt T p) v w R
abbrev aP (T:Nat) (a b:Value) (w:World) (K:Value->World->Prop):Prop:=gd Tryz.prog (Builtin.append_ #[T,T] T [a,b].toArray) w K
abbrev bS (T n:Nat) (l:List (Nat × Value)) (w:World) (K:Value->World->Prop):Prop:=gd Tryz.prog (Instr.buildSlice T n l.toArray) w K
abbrev cV (v:Value) (a b:Prop):Prop:=uc v a b
noncomputable abbrev PG:Program:=Tryz.prog
abbrev CR (n:Nat) (a:List Value) (w:World) (K:Value->World->Prop):Prop:=Calls Tryz.prog n a.toArray w (mW K)
abbrev PL (n:Nat):Prop:=Plain Tryz.prog n
theorem mixed:Tryz.prog.follows .mixedOrders=true:=by kernel_rfl
theorem eN (n:Nat) (pl:eh) (rl:Nat) (rs:List ResultVar) {f:FuncId} {fn:Func} {args:List Value} {w:World} {K:Value->World->Prop} {S:Prop}
  (hf:PG.funcs[f]? = some fn) (h:S) (hc:(fn.body.isSome,fn.ntmps,fn.results,Nat.ble args.length n)=(true,n,rs.toArray,true):=by kernel_rfl)
  (e:D PG n pl rl (fn.body.getD .skip) [] rl (I4 PG rs K) [] (rA args) w=S:=by kernel_rfl):CR f args w K:=okZ n pl rl rs hf mixed hc e h
def Nr:List ResultVar->Nat
 | []=>0
 | .tmp t::r=>PU (Nr r) t
 | .cell a _::r=>PU (Nr r) a
theorem Vq {f:FuncId} {fn:Func} (hf:Tryz.prog.funcs[f]? = some fn) {args:List Value} {w:World} {K:Value->World->Prop} {pl:eh}
  (h:D Tryz.prog fn.ntmps pl (Nr fn.results.toList) (fn.body.getD .skip) [] (Nr fn.results.toList) (I4 Tryz.prog fn.results.toList K) [] (rA args) w)
  (hc:(fn.body.isSome,Nat.ble args.length fn.ntmps)=(true,true):=by kernel_rfl):Calls Tryz.prog f args.toArray w (mW K):=by
 have h1:fn.body.isSome=true:=congrArg (λ x=>x.1) hc
 have h5:fn.body=some (fn.body.getD .skip):=by
  cases hb:fn.body with
  | none=>rw [hb] at h1; cases h1
  | some c=>rfl
 exact zK mixed hf h5 rfl (by simp) (Nat.le_of_ble_eq_true (congrArg (λ x=>x.2) hc)) h
theorem tN {f:FuncId} {fn:Func} (hf:Tryz.prog.funcs[f]? = some fn) {args:List Value} {w:World} {K:Value->World->Prop}
  (h:D Tryz.prog fn.ntmps (λ _=>.nil) (Nr fn.results.toList) (fn.body.getD .skip) [] (Nr fn.results.toList) (I4 Tryz.prog fn.results.toList K) [] (rA args) w)
  (hc:(fn.body.isSome,Nat.ble args.length fn.ntmps)=(true,true):=by kernel_rfl):Calls Tryz.prog f args.toArray w (mW K):=Vq hf h hc
def Vr:eh:=λ i=>match i with
 | 1=>(.op 0 [] (.op 1 [] (.op 3 [] (.op 4 [] (.op 6 [] (.op 7 [] (.op 9 [] (.op 10 [] (.alt 2 [4,7,10] (.alt 5 [7,10] (.alt 8 [10] (.alt 11 [] (.of [(12,[]),(13,[1,4,7,10]),(14,[])]) (.alt 13 [1,4,7,10] (.of [(11,[]),(12,[]),(14,[])]) .stop)) (.alt 13 [1,4,7,10] (.of [(8,[10]),(11,[]),(12,[]),(14,[])]) .stop)) (.alt 13 [1,4,7,10] (.of [(5,[7,10]),(8,[10]),(11,[]),(12,[]),(14,[])]) .stop)) (.alt 13 [1,4,7,10] (.of [(2,[4,7,10]),(5,[7,10]),(8,[10]),(11,[]),(12,[]),(14,[])]) .stop))))))))))
 | 5=>(.of [(0,[]),(1,[]),(2,[]),(3,[]),(4,[]),(5,[]),(6,[]),(7,[1]),(8,[1]),(9,[]),(10,[]),(11,[])])
 | 9=>(.of [(0,[]),(1,[]),(2,[]),(3,[]),(4,[]),(5,[]),(6,[]),(7,[]),(9,[]),(10,[]),(11,[]),(12,[]),(13,[]),(14,[]),(8,[1,10,14]),(15,[]),(16,[1]),(17,[]),(18,[]),(19,[])])
 | _=>.nil
def P14:eh:=λ i=>match i with
 | 6=>.run 0 51
 | _=>.nil
def S15 (a0 b1:Value):Prop:=
 lN 45 a0 λ a=>lN 45 b1 λ b=>bA .neq 3 a b λ c=>cV c (K ff w) (fh (λ K1 i5 d=>∀ _:Env,
 lN 45 a0 λ e=>bA .lss 3 i5 e λ f=>cV f (iA 45 a0 i5 λ g=>lA 3 g (drew d) λ h=>iA 45 b1 i5 λ j=>lA 3 j (drew d) λ k=>bA .neq 3 h k λ l=>cV l (K ff (drew d)) (bB .add 3 i5 (i 1) λ n=>
 K1 n (drew d))) (K tt d)) (λ K1=>K1 (i 0) w))
def P15:eh:=λ i=>match i with
 | 6=>.run 0 9
 | _=>.nil
theorem abE (a0 b1:Value) (h:S15 w K a0 b1):CR 15 [a0,b1] w K:=
 eN 26 P15 16 [.tmp 4] Tryz.func15 h
def S23 (B3:Value):Prop:=
 cE (λ K1=>bB .lss 3 B3 (i 1) λ a=>cV a (K1 tt w) (bB .gtr 3 B3 (i 16) λ b=>K1 b w)) (λ c d=>∀ _:Env,
 cV c (K (.tuple #[(.pointer none),(i 1)]) d) (cU Tryz.prog (Instr.build 137 [(0,B3)].toArray) λ e=>gd Tryz.prog (Instr.box 137 e) d λ f g=>K (.tuple #[f,(i 0)]) g))
theorem abF (B3:Value) (h:S23 w K B3):CR 23 [B3] w K:=
 eN 13 (λ _=>.nil) 12 [.tmp 2,.tmp 3] Tryz.func23 h
def P31:eh:=λ i=>match i with
 | 5=>.run 0 9
 | _=>.nil
def P47:eh:=λ i=>match i with
 | 5=>(.op 0 [] (.op 1 [] (.op 2 [] (.op 3 [] (.op 4 [] (.op 5 [] (.op 6 [] (.op 7 [] (.op 8 [] (.op 9 [] (.op 10 [] (.op 11 [] (.op 12 [] (.op 13 [] (.op 14 [] (.op 15 [] (.op 16 [] (.op 17 [] (.op 18 [] (.op 19 [] (.op 20 [] (.op 21 [] (.op 22 [] (.alt 23 [4,9,17] (.of [(24,[]),(25,[4,9,17,22]),(26,[])]) (.alt 25 [4,9,17,22] (.of [(23,[4,9,17]),(24,[]),(26,[])]) .stop)))))))))))))))))))))))))
 | 9=>(.of [(0,[]),(1,[]),(2,[]),(3,[]),(4,[]),(5,[]),(6,[]),(7,[]),(8,[]),(9,[]),(10,[]),(11,[]),(12,[]),(13,[]),(14,[]),(15,[]),(16,[]),(17,[]),(18,[]),(19,[]),(20,[]),(21,[1]),(22,[]),(23,[]),(24,[])])
 | _=>.nil
def S52 (m0:Value):Prop:=
 gd Tryz.prog (Instr.makeMap 188 none) w λ a b=>cF 106 [m0] b λ c d=>gd Tryz.prog (Instr.makeSlice 45 c c) d λ e f=>KT (λ K1 fp jB is6 g=>∀ _:Env,
 cV is6 (cE (λ K2=>cF 74 [m0,jB] g λ h j=>xT h 0 λ k=>xT h 1 λ _=>aL 192 j λ abG l=>cU Tryz.prog (Instr.sliceAt 192 abG none none none) λ n=>gd Tryz.prog (Builtin.copy_ #[45,45] 3 [n,k].toArray) l λ _ o=>
 lA 192 abG o λ p=>q7 Tryz.prog (Instr.lookup 188 a p false) o λ q=>cU Tryz.prog (Op.unary .not q) λ r=>cV r (lA 192 abG o λ s=>BT Tryz.prog (Instr.mapUpdate 188 a s tt) o λ t=>
 cF 71 [jB] t λ u v=>bS 113 1 [(0,u)] v λ x y=>aP 113 fp x y λ z aa=>K2 z aa) (K2 fp o)) (λ mL ab=>∀ _:Env,
 cF 107 [m0,jB] ab λ ac ad=>xT ac 0 λ ae=>xT ac 1 λ af=>K1 mL ae af ad)) (K fp g)) (λ K1=>K1 (.slice none 0 0) e tt f)
theorem abH (m0:Value) (h:S52 w K m0):CR 52 [m0] w K:=
 eN 42 (λ _=>.nil) 4 [.tmp 2] Tryz.func52 h
theorem am6:PL 10:=dW Tryz.func10
theorem am7:PL 14:=dW Tryz.func14
theorem agh:PL 15:=dW Tryz.func15
theorem agi:PL 23:=dW Tryz.func23
theorem am8:PL 31:=dW Tryz.func31
theorem Ns:PL 46:=dW Tryz.func46
theorem Du:PL 47:=dW Tryz.func47
theorem abI:PL 48:=dW Tryz.func48
theorem am9:PL 52:=dW Tryz.func52
variable (w:World) (K:Value->World->Prop)
def S54 (b0:Value):Prop:=
 nC b0 λ a=>fA 137 a 1 λ b=>lA 135 b w λ c=>lN 135 c λ d=>mn (λ K1 fp e f=>∀ _:Env,
 bA .lss 3 e d λ g=>cV g (cE (λ K2=>cF 109 [b0,e] f λ h j=>cV h (bS 45 1 [(0,e)] j λ k l=>aP 45 fp k l λ n o=>K2 n o) (K2 fp j)) (λ mL p=>∀ _:Env,
 bB .add 3 e (i 1) λ q=>K1 mL q p)) (K fp f)) (λ K1=>K1 (.slice none 0 0) (i 0) w)
theorem abJ (b0:Value) (h:S54 w K b0):CR 54 [b0] w K:=
 eN 22 (λ _=>.nil) 4 [.tmp 2] Tryz.func54 h
def S74 (m0 wX:Value):Prop:=
 lN 45 wX λ a=>cF 106 [m0] w λ b c=>bA .neq 3 a b λ d=>cV d (K (.tuple #[(.slice none 0 0),(i 1)]) c) (cF 100 [m0] c λ e f=>lN 45 wX λ g=>fh (λ K1 h j=>∀ _:Env,
 bA .lss 3 h g λ k=>cV k (iA 45 wX h λ l=>lA 3 l j λ n=>cE (λ K2=>bB .lss 3 n (i 0) λ o=>cV o (K2 tt j) (nC m0 λ p=>fA 146 p 4 λ q=>lA 144 q j λ r=>q7 Tryz.prog (Instr.lookup 144 r h false) j λ s=>
 lN 216 s λ t=>bA .gtr 3 n t λ u=>K2 u j)) (λ v x=>∀ _:Env,
 cV v (K (.tuple #[(.slice none 0 0),(i 1)]) x) (nC m0 λ y=>fA 146 y 4 λ z=>lA 144 z x λ aa=>q7 Tryz.prog (Instr.lookup 144 aa h false) x λ ab=>cU Tryz.prog (Instr.sliceAt 216 ab none (some n) none) λ ac=>
 lN 216 ac λ ad=>fh (λ K3 ae af=>∀ _:Env,
 bA .lss 3 ae ad λ ag=>cV ag (iA 216 ac ae λ ah=>lA 218 ah af λ ai=>aL 218 af λ aj ak=>sA 218 aj ai ak λ al=>fA 218 aj 0 λ am=>lA 3 am al λ an=>fA 218 aj 1 λ ao=>
 lA 3 ao al λ ap=>iA 45 e an λ aq=>sA 3 aq ap al λ ar=>bB .add 3 ae (i 1) λ asx=>K3 asx ar) (bB .add 3 h (i 1) λ au=>K1 au af)) (λ K3=>K3 (i 0) x)))) (K (.tuple #[e,(i 0)]) j))
 (λ K1=>K1 (i 0) f))
theorem abK (m0 wX:Value) (h:S74 w K m0 wX):CR 74 [m0,wX] w K:=
 eN 60 (λ _=>.nil) 48 [.tmp 4,.tmp 5] Tryz.func74 h
def S76 (b0 i1:Value):Prop:=
 aL 152 w λ a b=>cE (λ K1=>bB .lss 3 i1 (i 0) λ c=>cV c (K1 tt b) (nC b0 λ d=>fA 137 d 1 λ e=>lA 135 e b λ f=>lN 135 f λ g=>bA .geq 3 i1 g λ h=>K1 h b)) (λ j k=>∀ _:Env,
 cV j (cU Tryz.prog (Instr.build 152 [].toArray) λ l=>sA 152 a l k λ n=>lA 152 a n λ r=>K (.tuple #[r,(i 1)]) n) (cF 109 [b0,i1] k λ o p=>cU Tryz.prog (Op.unary .not o) λ q=>
 cV q (cU Tryz.prog (Instr.build 152 [].toArray) λ s=>sA 152 a s p λ t=>lA 152 a t λ Fv=>K (.tuple #[Fv,(i 13)]) t) (nC b0 λ u=>fA 137 u 1 λ v=>lA 135 v p λ x=>
 iA 135 x i1 λ y=>lA 152 y p λ z=>aL 152 p λ aa ab=>sA 152 aa z ab λ ac=>nC b0 λ ad=>fA 137 ad 1 λ ae=>lA 135 ae ac λ af=>cF 137 [af] ac λ ag ah=>bB .add 3 i1 (i 1) λ ai=>
 cF 136 [ag,i1,ai] ah λ aj ak=>nC b0 λ al=>fA 137 al 1 λ am=>sA 135 am aj ak λ an=>lA 152 aa an λ ao=>sA 152 a ao an λ ap=>lA 152 a ap λ Qf=>K (.tuple #[Qf,(i 0)]) ap)))
theorem abL (b0 i1:Value) (h:S76 w K b0 i1):CR 76 [b0,i1] w K:=
 eN 44 (λ _=>.nil) 48 [.cell 4 152,.tmp 5] Tryz.func76 h
def S77 (m0 kH n2:Value):Prop:=
 cE (λ K1=>bB .lss 3 kH (i 0) λ a=>cV a (K1 tt w) (nC m0 λ b=>fA 146 b 2 λ c=>lA 45 c w λ d=>lN 45 d λ e=>bA .geq 3 kH e λ f=>K1 f w)) (λ g h=>∀ _:Env,
 cV g (K (i 1) h) (nC m0 λ j=>fA 146 j 2 λ k=>lA 45 k h λ l=>iA 45 l kH λ n=>sA 3 n n2 h λ o=>rI (λ K2=>nC m0 λ p=>fA 146 p 0 λ q=>lA 45 q o λ r=>lN 45 r λ s=>
 bA .lss 3 kH s λ t=>cV t (nC m0 λ u=>fA 146 u 0 λ v=>lA 45 v o λ x=>iA 45 x kH λ y=>lA 3 y o λ z=>nC m0 λ aa=>fA 146 aa 4 λ ab=>lA 144 ab (drew o) λ ac=>
 nC m0 λ ad=>fA 146 ad 4 λ ae=>lA 144 ae (drew o) λ af=>q7 Tryz.prog (Instr.lookup 144 af z false) (drew o) λ ag=>cU Tryz.prog (Instr.build 218 [(0,kH),(1,n2)].toArray) λ ah=>
 bS 216 1 [(0,ah)] (drew o) λ ai aj=>kA 144 ab ac aj (kA 144 ae af aj (Dj Tryz.prog (Instr.lookup 144 af z false) ag aj (aP 216 ag ai aj λ ak al=>kA 144 ab ac al (BT Tryz.prog (Instr.mapUpdate 144 ac z ak) al λ am=>
 K2 am))))) (K2 o)) (λ an=>∀ _:Env,
 K (i 0) an)))
def P77:eh:=λ i=>match i with
 | 6=>(.of [(0,[]),(1,[]),(2,[]),(3,[]),(4,[]),(5,[]),(6,[]),(7,[]),(8,[]),(9,[]),(10,[]),(11,[]),(12,[]),(13,[]),(14,[3,8,10]),(15,[3]),(16,[])])
 | _=>.nil
theorem abM (m0 kH n2:Value) (h:S77 w K m0 kH n2):CR 77 [m0,kH,n2] w K:=
 eN 56 P77 64 [.tmp 6] Tryz.func77 h
def P78:eh:=λ i=>match i with
 | 6=>.run 0 10
 | _=>.nil
def S84 (b0 a:Value):Prop:=
 gd Tryz.prog (Instr.box 152 a) w λ b c=>lA 152 b c λ d=>cF 141 [d] c λ e f=>cU Tryz.prog (Op.unary .not e) λ g=>cV g (K (i 1) f) (cF 108 [b0] f λ h j=>cV h (K (i 2) j) (
 nC b0 λ k=>fA 137 k 1 λ l=>lA 135 l (drew j) λ n=>lA 152 b (drew j) λ o=>bS 135 1 [(0,o)] (drew j) λ p q=>kA 135 l n q (aP 135 n p q λ r s=>nC b0 λ t=>fA 137 t 1 λ u=>
 sA 135 u r s λ v=>K (i 0) v)))
def P84:eh:=λ i=>match i with
 | 5=>(.of [(0,[]),(1,[]),(2,[]),(3,[]),(4,[]),(5,[]),(6,[4]),(7,[]),(8,[]),(9,[]),(10,[])])
 | _=>.nil
theorem abN (b0 x1:Value) (h:S84 w K b0 x1):CR 84 [b0,x1] w K:=
 eN 22 P84 16 [.tmp 4] Tryz.func84 h
def S87 (b0:Value):Prop:=
 nC b0 λ a=>fA 137 a 1 λ b=>lA 135 b w λ c=>cF 137 [c] w λ d e=>K d e
theorem abO (b0:Value) (h:S87 w K b0):CR 87 [b0] w K:=
 eN 8 (λ _=>.nil) 4 [.tmp 2] Tryz.func87 h
theorem ana:PL 54:=dW Tryz.func54
theorem anb:PL 55:=dW Tryz.func55
theorem Fx:PL 71:=dW Tryz.func71
theorem agj:PL 74:=dW Tryz.func74
theorem anc:PL 75:=dW Tryz.func75
theorem agk:PL 76:=dW Tryz.func76
theorem agl:PL 77:=dW Tryz.func77
theorem ane:PL 78:=dW Tryz.func78
theorem Vs:PL 84:=dW Tryz.func84
theorem anf:PL 87:=dW Tryz.func87
variable (w:World) (K:Value->World->Prop)
def P94:eh:=λ i=>match i with
 | 1=>.run 0 18
 | _=>.nil
def ang:eh:=λ i=>match i with
 | 3=>.run 0 14
 | _=>.nil
def S107 (m0 wX:Value):Prop:=
 cF 71 [wX] w λ a b=>lN 45 a λ c=>bB .sub 3 c (i 1) λ d=>fh (λ K1 i7 e=>∀ _:Env,
 bB .geq 3 i7 (i 0) λ f=>cV f (iA 45 a i7 λ g=>lA 3 g (drew e) λ h=>nC m0 λ j=>fA 146 j 4 λ k=>lA 144 k (drew e) λ l=>q7 Tryz.prog (Instr.lookup 144 l i7 false) (drew e) λ n=>
 lN 216 n λ o=>bA .lss 3 h o λ p=>cV p (iA 45 a i7 λ q=>lA 3 q (drew e) λ r=>bB .add 3 r (i 1) λ s=>iA 45 a i7 λ t=>sA 3 t s (drew e) λ u=>K (.tuple #[a,tt]) u) (
 iA 45 a i7 λ v=>sA 3 v (i 0) (drew e) λ x=>bB .sub 3 i7 (i 1) λ y=>K1 y x)) (K (.tuple #[(.slice none 0 0),ff]) e)) (λ K1=>K1 d b)
def anh:eh:=λ i=>match i with
 | 5=>.run 0 12
 | _=>.nil
theorem Vt (m0 wX:Value) (h:S107 w K m0 wX):CR 107 [m0,wX] w K:=
 eN 39 anh 48 [.tmp 4,.tmp 5] Tryz.func107 h
def S108 (b0:Value):Prop:=
 nC b0 λ a=>fA 137 a 1 λ b=>lA 135 b (drew w) λ c=>lN 135 c λ d=>nC b0 λ e=>fA 137 e 0 λ f=>lA 3 f (drew w) λ g=>bA .geq 3 d g λ h=>K h (drew w)
def ani:eh:=λ i=>match i with
 | 1=>.run 0 11
 | _=>.nil
theorem Vu (b0:Value) (h:S108 w K b0):CR 108 [b0] w K:=
 eN 13 ani 4 [.tmp 2] Tryz.func108 h
def S109 (b0 i1:Value):Prop:=
 gd Tryz.prog (Instr.box 74 b0) w λ b2 a=>gd Tryz.prog (Instr.box 3 i1) a λ i3 b=>cE (λ K1=>lA 3 i3 (drew b) λ c=>bB .lss 3 c (i 0) λ d=>cV d (K1 tt (drew b)) (
 lA 3 i3 (drew b) λ e=>lA 74 b2 (drew b) λ f=>nC f λ g=>fA 137 g 1 λ h=>lA 135 h (drew b) λ j=>lN 135 j λ k=>bA .geq 3 e k λ l=>K1 l (drew b))) (λ n o=>∀ _:Env,
 cV n (K ff o) (lA 74 b2 (drew o) λ p=>nC p λ q=>fA 137 q 1 λ r=>lA 135 r (drew o) λ s=>lA 3 i3 (drew o) λ t=>cU Tryz.prog (Instr.sliceAt 135 s none (some t) none) λ u=>
 cF 157 [u,(.func (Go.Fn.func 155) [].toArray [b2,i3].toArray)] (drew o) λ v x=>cU Tryz.prog (Op.unary .not v) λ y=>K y x))
def anj:eh:=λ i=>match i with
 | 1=>.run 0 11
 | 4=>.run 0 10
 | _=>.nil
theorem Vv (b0 i1:Value) (h:S109 w K b0 i1):CR 109 [b0,i1] w K:=
 eN 27 anj 16 [.tmp 4] Tryz.func109 h
def S136 (s0 i1 j2:Value):Prop:=
 lN 135 s0 λ a=>cU Tryz.prog (Instr.sliceAt 135 s0 (some i1) (some j2) (some a)) λ _=>bA .eql 3 i1 j2 λ b=>cV b (K s0 w) (lN 135 s0 λ c=>cU Tryz.prog (Instr.sliceAt 135 s0 none (some i1) none) λ d=>
 cU Tryz.prog (Instr.sliceAt 135 s0 (some j2) none none) λ e=>aP 135 d e (drew w) λ f g=>lN 135 f λ h=>cU Tryz.prog (Instr.sliceAt 135 f (some h) (some c) none) λ j=>
 gd Tryz.prog (Builtin.clear_ #[135] 0 [j].toArray) g λ _ k=>K f k)
def ank:eh:=λ i=>match i with
 | 5=>.run 0 8
 | _=>.nil
theorem Vw (s0 i1 j2:Value) (h:S136 w K s0 i1 j2):CR 136 [s0,i1,j2] w K:=
 eN 33 ank 64 [.tmp 6] Tryz.func136 h
def S137 (s0:Value):Prop:=
 bB .eql 135 s0 (.slice none 0 0) λ a=>cV a (K (.slice none 0 0) w) (bS 135 0 [] w λ b c=>aP 135 b s0 c λ d e=>K d e)
theorem Vx (s0:Value) (h:S137 w K s0):CR 137 [s0] w K:=
 eN 8 (λ _=>.nil) 4 [.tmp 2] Tryz.func137 h
def S139 (b0 kH:Value):Prop:=
 gd Tryz.prog (Instr.box 3 kH) w λ lQ a=>aL 3 a λ b c=>aL 4 c λ d e=>nC b0 λ f=>fA 137 f 1 λ g=>lA 135 g e λ h=>cF 178 [h] e λ j k=>l9 Tryz.prog j 2 k (λ a1 l B1 R1=>
 aL 152 l λ n o=>sA 152 n (qh a1 1) o λ p=>B1 p λ q=>cE (λ K1=>fA 152 n 0 λ s=>lA 3 s q λ t=>bB .eql 3 t (i 3) λ u=>cV u (fA 152 n 2 λ v=>lA 3 v q λ x=>
 lA 3 lQ q λ y=>bA .eql 3 x y λ z=>K1 z q) (K1 ff q)) (λ aa ab=>∀ _:Env,
 cV aa (fA 152 n 3 λ ac=>lA 3 ac ab λ ad=>sA 3 b ad ab λ ae=>sA 4 d tt ae λ af=>R1 (some .ret) af) (R1 none ab))) (Pm (λ D ag=>sA 3 b (i 0) ag λ ah=>sA 4 d ff ah λ ai=>
 fo (D::[]) ai λ aj=>lA 3 b aj λ r=>lA 4 d aj λ Fv=>K (.tuple #[r,Fv]) aj) (λ D ak=>fo (D::[]) ak λ al=>lA 3 b al λ Qf=>lA 4 d al λ r_3=>K (.tuple #[Qf,r_3]) al)
 (λ _ _ _=>False))
theorem Vy (b0 kH:Value) (h:S139 w K b0 kH):CR 139 [b0,kH] w K:=
 eN 26 (λ _=>.nil) 48 [.cell 4 3,.cell 5 4] Tryz.func139 h
def S141 (a:Value):Prop:=
 gd Tryz.prog (Instr.box 152 a) w λ b c=>fA 152 b 0 λ d=>lA 3 d c λ e=>bB .eql 3 e (i 3) λ f=>cV f (cE (λ K1=>fA 152 b 1 λ g=>lA 3 g c λ h=>bB .geq 3 h (i 0) λ j=>
 cV j (fA 152 b 2 λ k=>lA 3 k c λ l=>bB .geq 3 l (i 0) λ n=>K1 n c) (K1 ff c)) (λ o p=>∀ _:Env,
 K o p)) (cE (λ K2=>bB .eql 3 e (i 5) λ q=>cV q (K2 q c) (bB .eql 3 e (i 6) λ r=>K2 r c)) (λ s t=>∀ _:Env,
 cV s (cE (λ K3=>fA 152 b 1 λ u=>lA 3 u t λ v=>bB .geq 3 v (i 0) λ x=>cV x (fA 152 b 2 λ y=>lA 3 y t λ z=>bB .eql 3 z (i 0) λ aa=>cV aa (fA 152 b 3 λ ab=>
 lA 3 ab t λ ac=>bB .eql 3 ac (i 0) λ ad=>K3 ad t) (K3 ff t)) (K3 ff t)) (λ ae af=>∀ _:Env,
 K ae af)) (lA 152 b t λ ag=>cU Tryz.prog (Instr.build 152 [(0,(i 7))].toArray) λ ah=>bA .eql 152 ag ah λ ai=>K ai t)))
theorem Vz (x0:Value) (h:S141 w K x0):CR 141 [x0] w K:=
 eN 34 (λ _=>.nil) 4 [.tmp 2] Tryz.func141 h
theorem agn:PL 100:=dW Tryz.func100
theorem ZO:PL 101:=dW Tryz.func101
theorem Qg:PL 106:=dW Tryz.func106
theorem ago:PL 107:=dW Tryz.func107
theorem ZP:PL 108:=dW Tryz.func108
theorem ZQ:PL 109:=dW Tryz.func109
theorem agp:PL 136:=dW Tryz.func136
theorem ZR:PL 137:=dW Tryz.func137
theorem agq:PL 139:=dW Tryz.func139
theorem agr:PL 141:=dW Tryz.func141
variable (w:World) (K:Value->World->Prop)
def S154 (l0 Fy:Value):Prop:=
 lN 45 Fy λ a=>cF 189 [l0,a] w λ b c=>cU Tryz.prog (Op.unary .not b) λ d=>cV d (K (.tuple #[(i 0),(i 8)]) c) (aL 272 c λ p6 e=>lN 233 l0 λ f=>fh (λ K1 g h=>∀ _:Env,
 bA .lss 3 g f λ j=>cV j (rI (λ K2=>iA 233 l0 g λ k=>lA 274 k h λ l=>aL 274 h λ n o=>sA 274 n l o λ p=>fA 274 n 0 λ q=>lA 3 q p λ r=>cF 190 [r] p λ s t=>
 bB .eql 3 s (i 0) λ u=>cV u (fA 274 n 1 λ v=>lA 3 v t λ x=>cE (λ K3=>fA 274 n 0 λ y=>lA 3 y t λ z=>bB .eql 3 z (i 2) λ aa=>cV aa (fA 274 n 1 λ ab=>lA 3 ab t λ ac=>
 iA 45 Fy ac λ ad=>lA 3 ad t λ ae=>K3 ae t) (K3 x t)) (λ n9 af=>∀ _:Env,
 cF 191 [p6,n9] af λ _ ag=>K2 ag)) (bB .eql 3 s (i 1) λ ah=>cV ah (fA 274 n 0 λ ai=>lA 3 ai (drew t) λ aj=>fA 272 p6 0 λ ak=>cF 193 [ak] (drew t) λ al am=>kA 3 ai aj am (
 cF 192 [aj,al] am λ an ao=>xT an 0 λ ap=>xT an 1 λ _=>cF 191 [p6,ap] ao λ _ aq=>K2 aq)) (fA 272 p6 0 λ ar=>cF 193 [ar] t λ asx au=>fA 274 n 0 λ av=>lA 3 av (drew au) λ aw=>
 fA 272 p6 0 λ ax=>cF 193 [ax] (drew au) λ ay az=>kA 3 av aw az (cF 194 [aw,ay,asx] az λ a0 a1=>xT a0 0 λ a2=>xT a0 1 λ a3=>bB .neq 29 a3 (i 0) λ a4=>cV a4 (K (.tuple #[(i 0),a3]) a1) (
 cF 191 [p6,a2] a1 λ _ a5=>K2 a5))))) (λ a6=>∀ _:Env,
 bB .add 3 g (i 1) λ a7=>K1 a7 a6)) (fA 272 p6 0 λ a8=>cF 193 [a8] h λ a9 ba=>K (.tuple #[a9,(i 0)]) ba)) (λ K1=>K1 (i 0) e))
def anl:eh:=λ i=>match i with
 | 9=>(.of [(0,[]),(1,[]),(2,[]),(4,[]),(3,[1]),(5,[]),(6,[]),(7,[]),(8,[]),(9,[]),(10,[])])
 | 19=>(.of [(0,[]),(1,[]),(2,[]),(3,[1]),(4,[]),(5,[]),(6,[]),(7,[]),(8,[]),(9,[])])
 | _=>.nil
theorem VA (l0 Fy:Value) (h:S154 w K l0 Fy):CR 154 [l0,Fy] w K:=
 eN 74 anl 48 [.tmp 4,.tmp 5] Tryz.func154 h
def S155 (Dv a b:Value):Prop:=
 gd Tryz.prog (Instr.box 152 Dv) w λ wY c=>lA 74 a (drew c) λ d=>nC d λ e=>fA 137 e 1 λ f=>lA 135 f (drew c) λ g=>lA 3 b (drew c) λ h=>iA 135 g h λ j=>
 lA 152 j (drew c) λ k=>lA 152 wY (drew c) λ l=>cF 156 [k,l] (drew c) λ n o=>cU Tryz.prog (Op.unary .not n) λ p=>K p o
def anm:eh:=λ i=>match i with
 | 1=>.run 0 11
 | _=>.nil
theorem VB (Dv x1 x2:Value) (h:S155 w K Dv x1 x2):CR 155 [Dv,x1,x2] w K:=
 eN 15 anm 16 [.tmp 4] Tryz.func155 h
def S156 (a Dw:Value):Prop:=
 gd Tryz.prog (Instr.box 152 a) w λ b c=>gd Tryz.prog (Instr.box 152 Dw) c λ wY d=>cE (λ K1=>fA 152 b 0 λ e=>lA 3 e d λ f=>bB .eql 3 f (i 7) λ g=>cV g (
 K1 tt d) (fA 152 wY 0 λ h=>lA 3 h d λ j=>bB .eql 3 j (i 7) λ k=>K1 k d)) (λ abP l=>∀ _:Env,
 cE (λ K2=>cU Tryz.prog (Op.unary .not abP) λ n=>cV n (fA 152 b 0 λ o=>lA 3 o l λ p=>bB .eql 3 p (i 6) λ q=>cV q (fA 152 b 1 λ r=>lA 3 r l λ s=>fA 152 wY 1 λ t=>
 lA 3 t l λ u=>bA .neq 3 s u λ v=>K2 v l) (fA 152 wY 0 λ x=>lA 3 x l λ y=>bB .eql 3 y (i 6) λ z=>cV z (fA 152 b 1 λ aa=>lA 3 aa l λ ab=>fA 152 wY 1 λ ac=>
 lA 3 ac l λ ad=>bA .neq 3 ab ad λ ae=>K2 ae l) (K2 ff l))) (K2 ff l)) (λ af ag=>∀ _:Env,
 K af ag))
theorem VC (x0 Dw:Value) (h:S156 w K x0 Dw):CR 156 [x0,Dw] w K:=
 eN 33 (λ _=>.nil) 16 [.tmp 4] Tryz.func156 h
def S157 (s0 f1:Value):Prop:=
 cF 195 [s0,f1] w λ a b=>bB .geq 3 a (i 0) λ c=>K c b
theorem VD (s0 f1:Value) (h:S157 w K s0 f1):CR 157 [s0,f1] w K:=
 eN 9 (λ _=>.nil) 16 [.tmp 4] Tryz.func157 h
def S178 (s0:Value):Prop:=
 gd Tryz.prog (Instr.box 135 s0) w λ s1 a=>K (.func (Go.Fn.func 206) [].toArray [s1].toArray) a
theorem VE (s0:Value) (h:S178 w K s0):CR 178 [s0] w K:=
 eN 4 (λ _=>.nil) 4 [.tmp 2] Tryz.func178 h
theorem ags:PL 154:=dW Tryz.func154
theorem agt:PL 155:=dW Tryz.func155
theorem agu:PL 156:=dW Tryz.func156
theorem agv:PL 157:=dW Tryz.func157
theorem agw:PL 178:=dW Tryz.func178
variable (w:World) (K:Value->World->Prop)
def ann:eh:=λ i=>match i with
 | 1=>.run 0 15
 | _=>.nil
def S192 (yX a1:Value):Prop:=
 bB .eql 3 yX (i 3) λ a=>cV a (cU Tryz.prog (Op.unary .neg a1) λ b=>K (.tuple #[b,(i 0)]) w) (bB .eql 3 yX (i 4) λ c=>cV c (cF 221 [a1] w λ d e=>cU Tryz.prog (Op.unary .not d) λ f=>
 cF 220 [f] e λ g h=>K (.tuple #[g,(i 0)]) h) (K (.tuple #[(i 0),(i 1)]) w))
theorem VF (yX a1:Value) (h:S192 w K yX a1):CR 192 [yX,a1] w K:=
 eN 17 (λ _=>.nil) 48 [.tmp 4,.tmp 5] Tryz.func192 h
def ano:eh:=λ i=>match i with
 | 1=>.run 0 13
 | 2=>.run 0 15
 | _=>.nil
def S194 (yX a1 b2:Value):Prop:=
 cE (λ K1=>bB .lss 3 yX (i 0) λ a=>cV a (K1 tt w) (bB .geq 3 yX (i 16) λ b=>K1 b w)) (λ c d=>∀ _:Env,
 cV c (K (.tuple #[(i 0),(i 1)]) d) (cF 222 [] d λ e f=>cU Tryz.prog (Instr.index 301 e yX) λ g=>bB .eql 240 g .nilFunc λ h=>cV h (K (.tuple #[(i 0),(i 1)]) f) (cE (λ K2=>
 bB .eql 3 yX (i 8) λ j=>cV j (bB .eql 3 b2 (i 0) λ k=>K2 k f) (bB .eql 3 yX (i 9) λ l=>cV l (bB .eql 3 b2 (i 0) λ n=>K2 n f) (K2 ff f))) (λ o p=>∀ _:Env,
 cV o (K (.tuple #[(i 0),(i 12)]) p) (eg Tryz.prog g [a1,b2] p λ q r=>K (.tuple #[q,(i 0)]) r)))))
theorem VG (yX a1 b2:Value) (h:S194 w K yX a1 b2):CR 194 [yX,a1,b2] w K:=
 eN 36 (λ _=>.nil) 192 [.tmp 6,.tmp 7] Tryz.func194 h
def S195 (s0 f1:Value):Prop:=
 lN 135 s0 λ a=>fh (λ K1 b c=>∀ _:Env,
 bA .lss 3 b a λ d=>cV d (iA 135 s0 b λ e=>lA 152 e c λ f=>eg Tryz.prog f1 [f] c λ g h=>cV g (K b h) (bB .add 3 b (i 1) λ j=>K1 j h)) (K (i (-1)) c)) (λ K1=>K1 (i 0) w)
theorem VH (s0 f1:Value) (h:S195 w K s0 f1):CR 195 [s0,f1] w K:=
 eN 19 (λ _=>.nil) 16 [.tmp 4] Tryz.func195 h
def S206 (jh a:Value):Prop:=
 lA 135 a w λ b=>lN 135 b λ c=>bB .sub 3 c (i 1) λ d=>fh (λ K1 i3 e=>∀ _:Env,
 bB .geq 3 i3 (i 0) λ f=>cV f (lA 135 a e λ g=>iA 135 g i3 λ h=>lA 152 h e λ j=>eg Tryz.prog jh [i3,j] e λ k l=>cU Tryz.prog (Op.unary .not k) λ n=>cV n (
 K (.tuple #[]) l) (bB .sub 3 i3 (i 1) λ o=>K1 o l)) (K (.tuple #[]) e)) (λ K1=>K1 d w)
theorem VI (jh x1:Value) (h:S206 w K jh x1):CR 206 [jh,x1] w K:=
 eN 19 (λ _=>.nil) 0 [] Tryz.func206 h
theorem agx:PL 189:=dW Tryz.func189
theorem Qh:PL 190:=dW Tryz.func190
theorem KV:PL 191:=dW Tryz.func191
theorem agy:PL 192:=dW Tryz.func192
theorem KW:PL 193:=dW Tryz.func193
theorem agz:PL 194:=dW Tryz.func194
theorem agA:PL 195:=dW Tryz.func195
theorem agB:PL 206:=dW Tryz.func206
variable (w:World) (K:Value->World->Prop)
def S222:Prop:=
 aL 301 w λ a b=>aL 301 b λ l1 c=>iA 301 l1 (i 5) λ d=>sA 240 d (.func (.func 237) #[] #[]) c λ e=>iA 301 l1 (i 6) λ f=>sA 240 f (.func (.func 238) #[] #[]) e λ g=>
 iA 301 l1 (i 7) λ h=>sA 240 h (.func (.func 239) #[] #[]) g λ j=>iA 301 l1 (i 8) λ k=>sA 240 k (.func (.func 240) #[] #[]) j λ l=>iA 301 l1 (i 9) λ n=>sA 240 n (.func (.func 241) #[] #[]) l λ o=>
 eg Tryz.prog (.func (.func 235) #[] #[]) [(.func (.func 242) #[] #[])] o λ p q=>iA 301 l1 (i 10) λ s=>sA 240 s p q λ t=>eg Tryz.prog (.func (.func 235) #[] #[]) [(.func (.func 243) #[] #[])] t λ u v=>
 iA 301 l1 (i 11) λ x=>sA 240 x u v λ y=>eg Tryz.prog (.func (.func 235) #[] #[]) [(.func (.func 244) #[] #[])] y λ z aa=>iA 301 l1 (i 12) λ ab=>sA 240 ab z aa λ ac=>
 eg Tryz.prog (.func (.func 235) #[] #[]) [(.func (.func 245) #[] #[])] ac λ ad ae=>iA 301 l1 (i 13) λ af=>sA 240 af ad ae λ ag=>eg Tryz.prog (.func (.func 235) #[] #[]) [(.func (.func 246) #[] #[])] ag λ ah ai=>
 iA 301 l1 (i 14) λ aj=>sA 240 aj ah ai λ ak=>eg Tryz.prog (.func (.func 235) #[] #[]) [(.func (.func 247) #[] #[])] ak λ al am=>iA 301 l1 (i 15) λ an=>sA 240 an al am λ ao=>
 lA 301 l1 ao λ ap=>sA 301 a ap ao λ aq=>lA 301 a aq λ r=>K r aq
theorem VJ (h:S222 w K):CR 222 [] w K:=
 eN 27 (λ _=>.nil) 1 [.cell 0 301] Tryz.func222 h
theorem agC:PL 216:=dW Tryz.func216
theorem agD:PL 217:=dW Tryz.func217
theorem agE:PL 218:=dW Tryz.func218
theorem agF:PL 219:=dW Tryz.func219
theorem Qi:PL 220:=dW Tryz.func220
theorem Fz:PL 221:=dW Tryz.func221
theorem agG:PL 222:=dW Tryz.func222
theorem agH:PL 234:=dW Tryz.func234
theorem B4:PL 235:=dW Tryz.func235
theorem B5:PL 236:=dW Tryz.func236
theorem agI:PL 237:=dW Tryz.func237
theorem agJ:PL 238:=dW Tryz.func238
theorem agK:PL 239:=dW Tryz.func239
theorem agL:PL 240:=dW Tryz.func240
theorem agM:PL 241:=dW Tryz.func241
theorem agN:PL 242:=dW Tryz.func242
theorem agO:PL 243:=dW Tryz.func243
theorem agP:PL 244:=dW Tryz.func244
theorem agQ:PL 245:=dW Tryz.func245
theorem agR:PL 246:=dW Tryz.func246
theorem agS:PL 247:=dW Tryz.func247
end Go.Proofs.YtfkgkbhbdffckaaGreatDoor
namespace Go.Fw
def q9 (w:World) (b:Nat) (cs:List Value):Prop:=∃ ty,w.heap[b]? = some (.cells cs.toArray ty (0,0))
def Cell (w:World) (b o:Nat) (v:Value):Prop:=w.cell? ⟨b,o,none⟩=some v
structure gM (A:Nat->Prop) (w w':World):Prop where
 os:w'.os=w.os
 tape:w'.tape=w.tape
 output:w'.output=w.output
 size:w.heap.size<=w'.heap.size
 cP:∀ b,b<w.heap.size->¬ A b->w'.heap[b]? = w.heap[b]?
def bD:Nat->Prop:=λ _=>False
abbrev Ext (w w':World):Prop:=gM bD w w'
theorem gM.refl (A:Nat->Prop) (w:World):gM A w w:=⟨rfl,rfl,rfl,Nat.le_refl _,λ _ _ _=>rfl⟩
theorem gM.trans {A B C:Nat->Prop} {w w1 w2:World} (h:gM A w w1) (k:gM B w1 w2) (hA:∀ b,A b->C b) (hB:∀ b,b<w.heap.size->B b->C b):gM C w w2:=
 ⟨k.os.trans h.os,k.tape.trans h.tape,k.output.trans h.output,Nat.le_trans h.size k.size,λ b hb hn=>
  (k.cP b (Nat.lt_of_lt_of_le hb h.size) λ hh=>hn (hB b hb hh)).trans (h.cP b hb λ hh=>hn (hA b hh))⟩
theorem gM.then {A:Nat->Prop} {w w1 w2:World} (h:gM A w w1) (k:Ext w1 w2):gM A w w2:=h.trans k (λ _ h=>h) λ _ _ h=>h.elim
theorem gM.mono {A B:Nat->Prop} {w w':World} (h:gM A w w') (hh:∀ b,A b->B b):gM B w w':=⟨h.os,h.tape,h.output,h.size,λ b hb hn=>h.cP b hb λ x=>hn (hh b x)⟩
theorem Ext.refl (w:World):Ext w w:=gM.refl _ _
theorem Ext.trans {w w1 w2:World} (h:Ext w w1) (k:Ext w1 w2):Ext w w2:=gM.then h k
theorem Ext.aE {A:Nat->Prop} {w w':World} (h:Ext w w'):gM A w w':=h.mono λ _ h=>h.elim
theorem Ext.drew (w:World):Ext w (drew w):=⟨rfl,rfl,rfl,Nat.le_refl _,λ _ _ _=>rfl⟩
theorem gM.below {w w':World} (h:Ext w w'):Go.RowKit.Below w.heap.size w w':=⟨h.os,h.tape,h.output,h.size,λ b hb=>h.cP b hb (λ x=>x)⟩
theorem gF {w:World} {b:Nat} {o:Obj} (h:w.heap[b]? = some o):b<w.heap.size:=(Array.getElem?_eq_some_iff.1 h).1
theorem q9.lt {w:World} {b:Nat} {cs:List Value} (h:q9 w b cs):b<w.heap.size:=gF h.choose_spec
theorem Cell.lt {w:World} {b o:Nat} {v:Value} (h:Cell w b o v):b<w.heap.size:=by
 unfold Cell World.cell? at h
 cases hb:w.heap[b]? with
 | none=>rw [hb] at h; simp at h
 | some x=>exact gF hb
theorem Cell.of_eq {w w':World} {b o:Nat} {v:Value} (h:Cell w b o v) (hh:w'.heap[b]? = w.heap[b]?):Cell w' b o v:=by
 unfold Cell World.cell? at *
 dsimp only at *
 rw [hh]; exact h
theorem q9.of_eq {w w':World} {b:Nat} {cs:List Value} (h:q9 w b cs) (hh:w'.heap[b]? = w.heap[b]?):q9 w' b cs:=by
 obtain ⟨ty,h⟩:=h; exact ⟨ty,hh.trans h⟩
theorem Cell.aE {A:Nat->Prop} {w w':World} {b o:Nat} {v:Value} (h:Cell w b o v) (hc:gM A w w') (hn:¬ A b):Cell w' b o v:=h.of_eq (hc.cP b h.lt hn)
theorem Cell.ext {w w':World} {b o:Nat} {v:Value} (h:Cell w b o v) (hc:Ext w w'):Cell w' b o v:=h.aE hc (λ x=>x)
theorem q9.cell {w:World} {b o:Nat} {cs:List Value} {v:Value} (h:q9 w b cs) (hv:cs[o]? = some v):Cell w b o v:=by
 obtain ⟨ty,h⟩:=h
 unfold Cell World.cell?
 dsimp only
 rw [h]
 simpa using hv
theorem q9.frozen {w:World} {b o:Nat} {cs:List Value} (h:q9 w b cs):w.frozen? ⟨b,o,none⟩=false:=by
 obtain ⟨ty,h⟩:=h
 unfold World.frozen?
 dsimp only
 rw [h]
 simp
theorem vw (w:World) (b o:Nat) (v:Value) (k:Nat) (h:k≠b):(w.setCell ⟨b,o,none⟩ v).heap[k]? = w.heap[k]?:=by
 simp only [World.setCell,Array.getElem?_modify]
 rw [if_neg (λ hh=>h hh.symm)]
theorem q9.setCell {w:World} {b o:Nat} {cs:List Value} (h:q9 w b cs) (v:Value):q9 (w.setCell ⟨b,o,none⟩ v) b (cs.set o v):=by
 obtain ⟨ty,h⟩:=h
 refine ⟨ty,?_⟩
 simp only [World.setCell,Array.getElem?_modify,if_true,h]
 simp
theorem gM.setCell (w:World) (b o:Nat) (v:Value):gM (· = b) w (w.setCell ⟨b,o,none⟩ v):=
 ⟨rfl,rfl,rfl,by simp [World.setCell],λ k _ hn=>vw w b o v k hn⟩
def push (w:World) (o:Obj):World:={w with heap:=w.heap.push o}
theorem wZ (w:World) (o:Obj) (k:Nat) (h:k<w.heap.size):(push w o).heap[k]? = w.heap[k]?:=by
 show (w.heap.push o)[k]? = _
 rw [Array.getElem?_push,if_neg (by omega)]
theorem jX (w:World) (o:Obj):(push w o).heap[w.heap.size]? = some o:=by
 show (w.heap.push o)[_]? = _
 rw [Array.getElem?_push,if_pos rfl]
theorem xc (w:World) (o:Obj):(push w o).heap.size=w.heap.size+1:=by simp [push]
theorem Ext.push (w:World) (o:Obj):Ext w (push w o):=⟨rfl,rfl,rfl,by rw [xc]; omega,λ b hb _=>wZ w o b hb⟩
theorem q9.push (w:World) (cs:List Value) (ty:TypeId):q9 (push w (.cells cs.toArray ty)) w.heap.size cs:=⟨ty,jX _ _⟩
structure HP where
 p:World->(Nat->Prop)->Prop
 loc:∀ w w' F,p w F->(∀ b,F b->w'.heap[b]? = w.heap[b]?)->p w' F
 lt:∀ w F b,p w F->F b->b<w.heap.size
def cP (b:Nat) (cs:List Value):HP where
 p w F:=q9 w b cs/\∀ k,F k↔k=b
 loc w w' F h hh:=⟨h.1.of_eq (hh b ((h.2 b).2 rfl)),h.2⟩
 lt w F b' h hb:=by rw [(h.2 b').1 hb]; exact h.1.lt
def ot (w0:World) (A:Nat->Prop):List HP->World->(Nat->Prop)->Prop
 | [],_,U=>∀ b,¬ U b
 | H::L,w,U=>∃ F U',H.p w F/\(∀ b,F b->A b\/w0.heap.size<=b)/\(∀ b,F b->¬ U' b)/\(∀ b,U b↔F b\/U' b)/\ot w0 A L w U'
structure St (w0:World) (A:Nat->Prop) (L:List HP) (w:World):Prop where
 aE:gM A w0 w
 oO:∃ U,ot w0 A L w U
theorem ot.lt {w0:World} {A:Nat->Prop} {L:List HP} {w:World} {U:Nat->Prop} (h:ot w0 A L w U):∀ b,U b->b<w.heap.size:=by
 induction L generalizing U with
 | nil=>intro b hb; exact (h b hb).elim
 | cons H L ih=>
  obtain ⟨F,U',h1,h2,h3,h4,h5⟩:=h
  intro b hb
  rcases (h4 b).1 hb with hf | hu
  ·exact H.lt _ _ _ h1 hf
  ·exact ih h5 b hu
theorem ot.loc {w0:World} {A:Nat->Prop} {L:List HP} {w w':World} {U:Nat->Prop} (h:ot w0 A L w U) (hh:∀ b,U b->w'.heap[b]? = w.heap[b]?):ot w0 A L w' U:=by
 induction L generalizing U with
 | nil=>exact h
 | cons H L ih=>
  obtain ⟨F,U',h1,h2,h3,h4,h5⟩:=h
  exact ⟨F,U',H.loc _ _ _ h1 λ b hb=>hh b ((h4 b).2 (.inl hb)),h2,h3,h4,ih h5 λ b hb=>hh b ((h4 b).2 (.inr hb))⟩
theorem St.start (w:World):St w bD [] w:=⟨gM.refl _ _,bD,λ _ h=>h⟩
theorem St.begin {w:World} {F:Nat->Prop} {H:HP} (h:H.p w F):St w F [H] w:=
 ⟨gM.refl _ _,F,F,bD,h,λ _ h=>.inl h,λ _ _ h=>h,λ _=>⟨.inl,λ h=>h.elim id λ h=>h.elim⟩,λ _ h=>h⟩
theorem St.ext {w0:World} {A:Nat->Prop} {L:List HP} {w w':World} (h:St w0 A L w) (e:Ext w w'):St w0 A L w':=by
 obtain ⟨U,hU⟩:=h.oO
 exact ⟨h.aE.then e,U,hU.loc λ b hb=>e.cP b (hU.lt b hb) (λ x=>x)⟩
theorem St.drew {w0:World} {A:Nat->Prop} {L:List HP} {w:World} (h:St w0 A L w):St w0 A L (drew w):=h.ext (Ext.drew w)
theorem St.new {w0:World} {A:Nat->Prop} {L:List HP} {w w':World} {H:HP} {F:Nat->Prop} (h:St w0 A L w) (e:Ext w w') (hH:H.p w' F) (hF:∀ b,F b->w.heap.size<=b):St w0 A (H::L) w':=by
 obtain ⟨U,hU⟩:=(h.ext e).oO
 obtain ⟨U0,hU0⟩:=h.oO
 have anq:ot w0 A L w' U0:=hU0.loc λ b hb=>e.cP b (hU0.lt b hb) (λ x=>x)
 refine ⟨(h.ext e).aE,λ b=>F b\/U0 b,F,U0,hH,λ b hb=>.inr ?_,λ b hb hu=>?_,λ b=>Iff.rfl,anq⟩
 ·exact Nat.le_trans h.aE.size (hF b hb)
 have:=hU0.lt b hu; have:=hF b hb; omega
theorem St.kV {w0:World} {A:Nat->Prop} {L:List HP} {w w':World} {H H':HP} (h:St w0 A (H::L) w)
  (hk:∀ F,H.p w F->∃ F',H'.p w' F'/\(∀ b,F' b->F b\/w.heap.size<=b)/\gM F w w'):St w0 A (H'::L) w':=by
 obtain ⟨U,F,U',h1,h2,h3,h4,h5⟩:=h.oO
 obtain ⟨F',g1,g2,g3⟩:=hk F h1
 refine ⟨h.aE.trans g3 (λ _ h=>h) λ b hb hf=>?_,λ b=>F' b\/U' b,F',U',g1,λ b hb=>?_,λ b hb hu=>?_,λ b=>Iff.rfl,?_⟩
 ·exact (h2 b hf).elim id λ hh=>by omega
 ·rcases g2 b hb with hf | hf
  ·exact h2 b hf
  exact .inr (Nat.le_trans h.aE.size hf)
 ·rcases g2 b hb with hf | hf
  ·exact h3 b hf hu
  have:=h5.lt b hu; omega
 exact h5.loc λ b hb=>g3.cP b (h5.lt b hb) λ hf=>h3 b hf hb
theorem St.drop {w0:World} {A:Nat->Prop} {L:List HP} {w:World} {H:HP} (h:St w0 A (H::L) w):St w0 A L w:=by
 obtain ⟨U,F,U',h1,h2,h3,h4,h5⟩:=h.oO
 exact ⟨h.aE,U',h5⟩
theorem ot.swap {w0:World} {A:Nat->Prop} {L:List HP} {w:World} {H H':HP} {U:Nat->Prop} (h:ot w0 A (H::H'::L) w U):ot w0 A (H'::H::L) w U:=by
 obtain ⟨F,U',h1,h2,h3,h4,F2,U2,g1,g2,g3,g4,g5⟩:=h
 refine ⟨F2,λ b=>F b\/U2 b,g1,g2,λ b hb=>?_,λ b=>?_,F,U2,h1,h2,λ b hb hu=>?_,λ b=>Iff.rfl,g5⟩
 ·rintro (hf | hu)
  ·exact h3 b hf ((g4 b).2 (.inl hb))
  exact g3 b hb hu
 ·rw [h4 b,g4 b]
  constructor
  ·rintro (h | h | h)
   ·exact .inr (.inl h)
   ·exact .inl h
   exact .inr (.inr h)
  rintro (h | h | h)
  ·exact .inr (.inl h)
  ·exact .inl h
  exact .inr (.inr h)
 exact h3 b hb ((g4 b).2 (.inr hu))
theorem ot.under {w0:World} {A:Nat->Prop} {L L':List HP} {w:World} {H:HP} {U:Nat->Prop} (hk:∀ U,ot w0 A L w U->ot w0 A L' w U) (h:ot w0 A (H::L) w U):ot w0 A (H::L') w U:=by
 obtain ⟨F,U',h1,h2,h3,h4,h5⟩:=h
 exact ⟨F,U',h1,h2,h3,h4,hk _ h5⟩
theorem ot.pull {w0:World} {A:Nat->Prop} {L1 L2:List HP} {w:World} {H:HP} {U:Nat->Prop} (h:ot w0 A (L1++H::L2) w U):ot w0 A (H::(L1++L2)) w U:=by
 induction L1 generalizing U with
 | nil=>exact h
 | cons X L1 ih=>exact ot.swap (ot.under (λ U h=>ih h) h)
theorem St.pull {w0:World} {A:Nat->Prop} {w:World} (L1:List HP) {H:HP} {L2:List HP} (h:St w0 A (L1++H::L2) w):St w0 A (H::(L1++L2)) w:=by
 obtain ⟨U,hU⟩:=h.oO
 exact ⟨h.aE,U,hU.pull⟩
theorem St.p1 {w0:World} {A:Nat->Prop} {w:World} {P0 H:HP} {R:List HP} (h:St w0 A (P0::H::R) w):St w0 A (H::P0::R) w:=St.pull [P0] h
theorem St.p2 {w0:World} {A:Nat->Prop} {w:World} {P0 P1 H:HP} {R:List HP} (h:St w0 A (P0::P1::H::R) w):St w0 A (H::P0::P1::R) w:=St.pull [P0,P1] h
theorem St.p3 {w0:World} {A:Nat->Prop} {w:World} {P0 P1 P2 H:HP} {R:List HP} (h:St w0 A (P0::P1::P2::H::R) w):St w0 A (H::P0::P1::P2::R) w:=St.pull [P0,P1,P2] h
theorem St.p4 {w0:World} {A:Nat->Prop} {w:World} {P0 P1 P2 P3 H:HP} {R:List HP} (h:St w0 A (P0::P1::P2::P3::H::R) w):St w0 A (H::P0::P1::P2::P3::R) w:=St.pull [P0,P1,P2,P3] h
theorem St.p5 {w0:World} {A:Nat->Prop} {w:World} {P0 P1 P2 P3 P4 H:HP} {R:List HP} (h:St w0 A (P0::P1::P2::P3::P4::H::R) w):St w0 A (H::P0::P1::P2::P3::P4::R) w:=St.pull [P0,P1,P2,P3,P4] h
theorem St.p6 {w0:World} {A:Nat->Prop} {w:World} {P0 P1 P2 P3 P4 P5 H:HP} {R:List HP} (h:St w0 A (P0::P1::P2::P3::P4::P5::H::R) w):St w0 A (H::P0::P1::P2::P3::P4::P5::R) w:=St.pull [P0,P1,P2,P3,P4,P5] h
theorem St.p7 {w0:World} {A:Nat->Prop} {w:World} {P0 P1 P2 P3 P4 P5 P6 H:HP} {R:List HP} (h:St w0 A (P0::P1::P2::P3::P4::P5::P6::H::R) w):St w0 A (H::P0::P1::P2::P3::P4::P5::P6::R) w:=St.pull [P0,P1,P2,P3,P4,P5,P6] h
theorem St.p8 {w0:World} {A:Nat->Prop} {w:World} {P0 P1 P2 P3 P4 P5 P6 P7 H:HP} {R:List HP} (h:St w0 A (P0::P1::P2::P3::P4::P5::P6::P7::H::R) w):St w0 A (H::P0::P1::P2::P3::P4::P5::P6::P7::R) w:=St.pull [P0,P1,P2,P3,P4,P5,P6,P7] h
theorem St.p9 {w0:World} {A:Nat->Prop} {w:World} {P0 P1 P2 P3 P4 P5 P6 P7 P8 H:HP} {R:List HP} (h:St w0 A (P0::P1::P2::P3::P4::P5::P6::P7::P8::H::R) w):St w0 A (H::P0::P1::P2::P3::P4::P5::P6::P7::P8::R) w:=St.pull [P0,P1,P2,P3,P4,P5,P6,P7,P8] h
theorem St.p10 {w0:World} {A:Nat->Prop} {w:World} {P0 P1 P2 P3 P4 P5 P6 P7 P8 P9 H:HP} {R:List HP} (h:St w0 A (P0::P1::P2::P3::P4::P5::P6::P7::P8::P9::H::R) w):St w0 A (H::P0::P1::P2::P3::P4::P5::P6::P7::P8::P9::R) w:=St.pull [P0,P1,P2,P3,P4,P5,P6,P7,P8,P9] h
theorem St.p11 {w0:World} {A:Nat->Prop} {w:World} {P0 P1 P2 P3 P4 P5 P6 P7 P8 P9 Vr H:HP} {R:List HP} (h:St w0 A (P0::P1::P2::P3::P4::P5::P6::P7::P8::P9::Vr::H::R) w):St w0 A (H::P0::P1::P2::P3::P4::P5::P6::P7::P8::P9::Vr::R) w:=St.pull [P0,P1,P2,P3,P4,P5,P6,P7,P8,P9,Vr] h
theorem St.p12 {w0:World} {A:Nat->Prop} {w:World} {P0 P1 P2 P3 P4 P5 P6 P7 P8 P9 Vr P11 H:HP} {R:List HP} (h:St w0 A (P0::P1::P2::P3::P4::P5::P6::P7::P8::P9::Vr::P11::H::R) w):St w0 A (H::P0::P1::P2::P3::P4::P5::P6::P7::P8::P9::Vr::P11::R) w:=St.pull [P0,P1,P2,P3,P4,P5,P6,P7,P8,P9,Vr,P11] h
theorem St.p0 {w0:World} {A:Nat->Prop} {w:World} {L:List HP} (h:St w0 A L w):St w0 A L w:=h
theorem St.head {w0:World} {A:Nat->Prop} {L:List HP} {w:World} {H:HP} (h:St w0 A (H::L) w):∃ F,H.p w F/\∀ b,F b->A b\/w0.heap.size<=b:=by
 obtain ⟨U,F,U',h1,h2,_⟩:=h.oO; exact ⟨F,h1,h2⟩
theorem St.hb {w0:World} {A:Nat->Prop} {L:List HP} {w:World} {b:Nat} {cs:List Value} (h:St w0 A (cP b cs::L) w):q9 w b cs:=by
 obtain ⟨F,h1,_⟩:=h.head; exact h1.1
def fe:Value->Bool
 | .agg _=>false
 | .tuple _=>false
 | _=>true
def bT (P:Program) (T:TypeId):Option (Bool × Nat):=
 match P.underlying T with
 | some d=>(P.info? T).map λ i=>(match d with | .struct _ | .array _ _=>true | _=>false,i.size)
 | none=>none
def aQ (P:Program) (T f:Nat):Option (Nat × Option Bool):=
 match P.underlying T with
 | some (.struct fs)=>(fs[f]?).map λ fd=>(fd.offset,(P.info? fd.type).map λ i=>i.size != 0)
 | _=>none
def cT (P:Program) (T:TypeId):Option (TypeId × Nat × Nat × Option Nat):=
 match P.underlying T with
 | some (.slice E)=>(P.info? E).map λ i=>(E,i.size,i.bytes,i.zero.map λ z=>z.cells.size)
 | _=>none
def cH (P:Program) (T:TypeId):Option (Option Value):=(P.info? T).map λ i=>i.zero
abbrev Nt (P:Program) (T:TypeId):Prop:=bT P T=some (false,1)
abbrev Qj (P:Program) (T:TypeId) (n:Nat):Prop:=bT P T=some (true,n)
abbrev uI (P:Program) (T f off:Nat):Prop:=aQ P T f=some (off,some true)
abbrev Qk (P:Program) (T E n bytes:Nat):Prop:=cT P T=some (E,n,bytes,some n)
abbrev jI (P:Program) (T:TypeId) (z:Value):Prop:=cH P T=some (some z)
theorem fS {P:Program} {T:TypeId} {i:TypeInfo} (h:P.info? T=some i):pr P (typeInfo T)=some i:=by
 show pr P (match P.info? T with | some i => pure i | none => stuck "no such type") = _
 rw [h]; rfl
theorem aM {P:Program} {T:TypeId} {d:TypeDesc} (h:P.underlying T=some d):pr P (underlying T)=some d:=by
 show pr P (match P.underlying T with | some d => pure d | none => stuck "no such type") = _
 rw [h]; rfl
theorem fX {P:Program} {T:TypeId} {i:TypeInfo} (h:P.info? T=some i):pr P (sizeOf T)=some i.size:=by
 unfold sizeOf; rw [aK,fS h]; rfl
theorem m8 {P:Program} {α β:Type} (m:Sem α) (f:α->β):pr P (do pure (f (<- m)))=(pr P m).map f:=by
 rw [aK]; cases pr P m <;> rfl
theorem eD {P:Program} {T:TypeId} {a:Bool} {n:Nat} (h:bT P T=some (a,n)):pr P (isAgg T)=some a/\pr P (sizeOf T)=some n:=by
 unfold bT at h
 cases hd:P.underlying T with
 | none=>rw [hd] at h; cases h
 | some d=>
  rw [hd] at h
  cases hi:P.info? T with
  | none=>rw [hi] at h; cases h
  | some i=>
   rw [hi] at h
   simp only [Option.map_some,Option.some.injEq,Prod.mk.injEq] at h
   obtain ⟨h1,h2⟩:=h
   refine ⟨?_,by rw [fX hi,h2]⟩
   unfold isAgg
   rw [aK,aM hd]
   show pr P (match d with | .struct _ | .array _ _=>pure true | _=>pure false)=_
   rw [<- h1]
   cases d <;> rfl
theorem dz {P:Program} {T E n by':Nat} {z:Option Nat} (h:cT P T=some (E,n,by',z)) :
  P.underlying T=some (.slice E)/\∃ i,P.info? E=some i/\i.size=n/\i.bytes=by'/\i.zero.map (λ z=>z.cells.size)=z:=by
 unfold cT at h
 split at h
 ·rename_i E' hE
  cases hi:P.info? E' with
  | none=>rw [hi] at h; cases h
  | some i=>
   rw [hi] at h
   simp only [Option.map_some,Option.some.injEq,Prod.mk.injEq] at h
   obtain ⟨rfl,h2,h3,h4⟩:=h
   exact ⟨hE,i,hi,h2,h3,h4⟩
 cases h
section
variable {P:Program} {w:World}
theorem pop {m:Sem Value} {v:Value} {K:Value->Prop} (h:pr P m=some v) (k:K v):cU P m K:=⟨v,h,k⟩
theorem aH {a:Addr} {K:Value->Prop} (k:K (.pointer (some a))):cU P (IU (.pointer (some a))) K:=⟨_,rfl,k⟩
theorem bH {b:Bool} {K:Value->Prop} (k:K (.bool (!b))):cU P (Op.unary .not (.bool b)) K:=⟨_,rfl,k⟩
theorem zL {p:Prop} [Decidable p] {K:Value->Prop} (k:K (.bool (decide (¬ p)))):cU P (Op.unary .not (.bool (decide p))) K:=by
 refine bH ?_
 by_cases h:p <;> simp_all
theorem aR {vs:List Value} {i:Nat} {v:Value} {K:Value->Prop} (h:vs[i]? = some v) (k:K v):cU P (Instr.extract (.tuple vs.toArray) i) K:=
 ⟨v,by simp only [Instr.extract,List.getElem?_toArray,h]; rfl,k⟩
theorem aS {T:Nat} {cx cy:Bool} {a b:Int} {K:Value->Prop} (k:K (.bool (decide (a<b)))):cU P (fL .lss T cx cy (.int .i64 a) (.int .i64 b)) K:=⟨_,rfl,k⟩
theorem ma {T:Nat} {cx cy:Bool} {a b:Int} {K:Value->Prop} (k:K (.bool (decide (a<=b)))):cU P (fL .leq T cx cy (.int .i64 a) (.int .i64 b)) K:=⟨_,rfl,k⟩
theorem er {T:Nat} {cx cy:Bool} {a b:Int} {K:Value->Prop} (k:K (.bool (decide (b<a)))):cU P (fL .gtr T cx cy (.int .i64 a) (.int .i64 b)) K:=⟨_,rfl,k⟩
theorem dO {T:Nat} {cx cy:Bool} {a b:Int} {K:Value->Prop} (k:K (.bool (decide (b<=a)))):cU P (fL .geq T cx cy (.int .i64 a) (.int .i64 b)) K:=⟨_,rfl,k⟩
theorem aI {T:Nat} {cx cy:Bool} {a b:Int} {K:Value->Prop} (k:K (.bool (decide (a=b)))):cU P (fL .eql T cx cy (.int .i64 a) (.int .i64 b)) K:=⟨_,rfl,k⟩
theorem cS {T:Nat} {cx cy:Bool} {a b:Int} {K:Value->Prop} (k:K (.bool (decide (a≠b)))):cU P (fL .neq T cx cy (.int .i64 a) (.int .i64 b)) K:=
 ⟨_,(show pr P (fL .neq T cx cy (.int .i64 a) (.int .i64 b))=some (.bool (decide (a≠b))) from by
  show some (Value.bool (a != b))=_
  congr 2
  by_cases h:a=b <;> simp [h]),k⟩
theorem aT {T:Nat} {cx cy:Bool} {a b:Int} {K:Value->Prop} (h : -9223372036854775808<=a+b/\a+b<=9223372036854775807) (k:K (.int .i64 (a+b))) :
  cU P (fL .add T cx cy (.int .i64 a) (.int .i64 b)) K:=
 ⟨_,(show pr P (fL .add T cx cy (.int .i64 a) (.int .i64 b))=some (.int .i64 (a+b)) from by
  show some (Value.int .i64 (IntKind.i64.wrap (a+b)))=_
  rw [IntWalk.i64_in _ h]),k⟩
theorem iT {T:Nat} {cx cy:Bool} {a b:Int} {K:Value->Prop} (h : -9223372036854775808<=a - b/\a - b<=9223372036854775807) (k:K (.int .i64 (a - b))) :
  cU P (fL .sub T cx cy (.int .i64 a) (.int .i64 b)) K:=
 ⟨_,(show pr P (fL .sub T cx cy (.int .i64 a) (.int .i64 b))=some (.int .i64 (a - b)) from by
  show some (Value.int .i64 (IntKind.i64.wrap (a - b)))=_
  rw [IntWalk.i64_in _ h]),k⟩
theorem VK {T:Nat} {cx cy:Bool} {a b:Int} {K:Value->Prop} (h : -9223372036854775808<=a * b/\a * b<=9223372036854775807) (k:K (.int .i64 (a * b))) :
  cU P (fL .mul T cx cy (.int .i64 a) (.int .i64 b)) K:=
 ⟨_,(show pr P (fL .mul T cx cy (.int .i64 a) (.int .i64 b))=some (.int .i64 (a * b)) from by
  show some (Value.int .i64 (IntKind.i64.wrap (a * b)))=_
  rw [IntWalk.i64_in _ h]),k⟩
theorem aC {p:Prop} [Decidable p] {A B:Prop} (h1:p->A) (h2:¬ p->B):uc (.bool (decide p)) A B:=
 ⟨_,rfl,λ h=>h1 (of_decide_eq_true h),λ h=>h2 (of_decide_eq_false h)⟩
theorem gk {A B:Prop} (h:A):uc (.bool true) A B:=⟨_,rfl,λ _=>h,λ h=>by cases h⟩
theorem eu {A B:Prop} (h:B):uc (.bool false) A B:=⟨_,rfl,λ h=>(by cases h),λ _=>h⟩
theorem bI {b:Bool} {A B:Prop} (h1:b=true->A) (h2:b=false->B):uc (.bool b) A B:=⟨_,rfl,h1,h2⟩
theorem gx {α:Type} (l:List α) {i:Nat} (h:i<l.length):∃ x,l[i]? = some x:=⟨_,List.getElem?_eq_getElem h⟩
theorem fw {a b:Nat} (h:Nat.ble a b=true):a<=b:=Nat.le_of_ble_eq_true h
theorem eW {f:FuncId} {args:List Value} {Φ K:Value->World->Prop} (pl:Plain P f) (h:Calls P f args.toArray w (mW Φ)) (k:∀ v w',Φ v w'->K v w') :
  xX P f args w K:=⟨.inl ⟨pl,h.mono λ _ _ r=>r.mono k⟩⟩
theorem ft {g:FuncId} {args first cap:List Value} {Φ K:Value->World->Prop} (pl:Plain P g) (h:Calls P g (first++args++cap).toArray w (mW Φ)) (k:∀ v w',Φ v w'->K v w') :
  eg P (.func (.func g) first.toArray cap.toArray) args w K:=⟨.inl ⟨g,_,_,rfl,pl,by simpa using h.mono λ _ _ r=>r.mono k⟩⟩
variable {w0:World} {A:Nat->Prop} {L:List HP}
theorem run_load (a:Addr) (v:Value) (h:w.cell? a=some v):(load a).run P w = .ok v w:=by
 unfold load
 simp only [Sem.run,h]
theorem dK (b o j:Nat):(Addr.mk b o none).add j=⟨b,o+j,none⟩:=by
 unfold Addr.add; split
 ·rename_i h; subst h; rfl
 rfl
theorem run_loadCellsFrom (b o:Nat):∀ (n i:Nat) (acc:Array Value) (cs:List Value),cs.length=n->(∀ j c,cs[j]? = some c->Cell w b (o+i+j) c)->
  (loadCellsFrom ⟨b,o,none⟩ i n acc).run P w = .ok (acc++cs.toArray) w:=by
 intro n
 induction n with
 | zero=>intro i acc cs hl _; obtain rfl:=List.length_eq_zero_iff.1 hl; simp [loadCellsFrom]
 | succ n ih=>
  intro i acc cs hl h
  match cs,hl with
  | c::cs,hl=>
   unfold loadCellsFrom
   rw [aZ (run_load _ c (by rw [dK]; exact h 0 c rfl))]
   rw [ih (i+1) (acc.push c) cs (by simpa using hl) (λ j d hd=>by have:=h (j+1) d (by simpa using hd); rwa [show o+i+(j+1)=o+(i+1)+j from by omega] at this)]
   simp
theorem run_loadCells {b o:Nat} {cs:List Value} (h:∀ j c,cs[j]? = some c->Cell w b (o+j) c):(loadCells ⟨b,o,none⟩ cs.length).run P w = .ok cs.toArray w:=by
 unfold loadCells
 rw [run_loadCellsFrom b o cs.length 0 #[] cs rfl (λ j c hc=>by simpa using h j c hc)]
 simp
theorem aD {T:TypeId} {b o:Nat} {v:Value} (ht:Nt P T) (h:Cell w b o v):(Instr.loadAt T (.pointer (some ⟨b,o,none⟩))).run P w = .ok v w:=by
 show (loadVar T ⟨b,o,none⟩).run P w=_
 unfold loadVar
 rw [aZ (bM (eD ht).1 w)]
 exact run_load _ v h
theorem rL {T:TypeId} {b o:Nat} {cs:List Value} (ht:Qj P T cs.length) (h:∀ j c,cs[j]? = some c->Cell w b (o+j) c) :
  (Instr.loadAt T (.pointer (some ⟨b,o,none⟩))).run P w = .ok (.agg cs.toArray) w:=by
 show (loadVar T ⟨b,o,none⟩).run P w=_
 unfold loadVar
 rw [aZ (bM (eD ht).1 w)]
 simp only [if_true]
 rw [aZ (bM (eD ht).2 w),aZ (run_loadCells h)]
 rfl
theorem aB {T:TypeId} {b o:Nat} {cs:List Value} {v:Value} {K:Value->Prop} (ht:Nt P T) (hb:q9 w b cs) (hc:cs[o]? = some v) (k:K v) :
  q7 P (Instr.loadAt T (.pointer (some ⟨b,o,none⟩))) w K:=⟨v,aD ht (hb.cell hc),k⟩
theorem vx {T:TypeId} {b n:Nat} {cs:List Value} {K:Value->Prop} (ht:Qj P T n) (hb:q9 w b cs) (hn:cs.length=n) (k:K (.agg cs.toArray)) :
  q7 P (Instr.loadAt T (.pointer (some ⟨b,0,none⟩))) w K:=by
 subst hn
 exact ⟨_,rL ht λ j c hc=>by rw [Nat.zero_add]; exact hb.cell hc,k⟩
theorem zM {T f off b o:Nat} (ht:uI P T f off):pr P (Instr.fieldAt T (.pointer (some ⟨b,o,none⟩)) f)=some (.pointer (some ⟨b,o+off,none⟩)):=by
 unfold uI aQ at ht
 split at ht
 ·rename_i fs hfs
  cases hf:fs[f]? with
  | none=>rw [hf] at ht; cases ht
  | some fd=>
   rw [hf] at ht
   simp only [Option.map_some,Option.some.injEq,Prod.mk.injEq] at ht
   obtain ⟨ho,hz⟩:=ht
   cases hi:P.info? fd.type with
   | none=>rw [hi] at hz; cases hz
   | some i=>
    rw [hi] at hz
    have Ql:i.size≠0:=by simpa using hz
    unfold Instr.fieldAt
    rw [aK,aM hfs]
    simp only [Option.bind_some,hf]
    show pr P (do pure (Value.pointer (some (<- fieldPlace ⟨b,o,none⟩ fd))))=_
    rw [m8]
    unfold fieldPlace
    rw [aK,fX hi]
    simp only [Option.bind_some,if_neg Ql,dK,ho]
    rfl
 cases ht
theorem aA {T f off b o:Nat} {K:Value->Prop} (ht:uI P T f off) (k:K (.pointer (some ⟨b,o+off,none⟩))) :
  cU P (Instr.fieldAt T (.pointer (some ⟨b,o,none⟩)) f) K:=⟨_,zM ht,k⟩
theorem pfb {T f off b o T2:Nat} {cs:List Value} {v:Value} {K:Value->Prop} (ht:uI P T f off) (h2:Nt P T2) (hb:q9 w b cs) (hc:cs[o+off]? = some v) (k:K v) :
  cU P (Instr.fieldAt T (.pointer (some ⟨b,o,none⟩)) f) λ p=>q7 P (Instr.loadAt T2 p) w K:=aA ht (aB h2 hb hc k)
theorem yY (T:TypeId) (v:Value):(Instr.box T v).run P w = .ok (.pointer (some ⟨w.heap.size,0,none⟩)) (push w (.cells v.cells T)):=rfl
theorem St.push {T:TypeId} {cs:List Value} (hs:St w0 A L w):St w0 A (cP w.heap.size cs::L) (push w (.cells cs.toArray T)):=
 hs.new (Ext.push _ _) (F:=λ k=>k=w.heap.size) ⟨q9.push w cs T,λ _=>Iff.rfl⟩ λ b hb=>by rw [hb]; exact Nat.le_refl _
theorem jY {T:TypeId} {v:Value} {K:Value->World->Prop} (hs:St w0 A L w) (hv:fe v=true)
  (k:∀ b w',St w0 A (cP b [v]::L) w'->K (.pointer (some ⟨b,0,none⟩)) w'):gd P (Instr.box T v) w K:=by
 refine ⟨_,_,yY T v,k _ _ ?_⟩
 have:v.cells=[v].toArray:=by cases v <;> first | rfl | cases hv
 rw [this]
 exact hs.push
theorem vy {T:TypeId} {cs:List Value} {K:Value->World->Prop} (hs:St w0 A L w)
  (k:∀ b w',St w0 A (cP b cs::L) w'->K (.pointer (some ⟨b,0,none⟩)) w'):gd P (Instr.box T (.agg cs.toArray)) w K:=
 ⟨_,_,yY T _,k _ _ hs.push⟩
theorem fx {T:TypeId} {z:Value} {K:Value->World->Prop} (hs:St w0 A L w) (hz:jI P T z) (hv:fe z=true)
  (k:∀ b w',St w0 A (cP b [z]::L) w'->K (.pointer (some ⟨b,0,none⟩)) w'):gd P (Instr.alloc T true (.tuple #[])) w K:=by
 unfold jI cH at hz
 cases hi:P.info? T with
 | none=>rw [hi] at hz; cases hz
 | some i=>
  rw [hi] at hz
  simp only [Option.map_some,Option.some.injEq] at hz
  have h1:pr P (zeroValue T)=some z:=by unfold zeroValue; rw [aK,fS hi]; simp only [Option.bind_some,hz]; rfl
  refine ⟨_,push w (.cells [z].toArray T),?_,k _ _ (hs.push (T:=T))⟩
  unfold Instr.alloc
  rw [aZ (bM h1 w)]
  have:z.cells=[z].toArray:=by cases z <;> first | rfl | cases hv
  show (do pure (Value.pointer (some (<- newVar T z))):Sem Value).run P w=_
  unfold newVar
  rw [this]
  rfl
theorem aN {T:TypeId} {cs:List Value} {K:Value->World->Prop} (hs:St w0 A L w) (hz:jI P T (.agg cs.toArray))
  (k:∀ b w',St w0 A (cP b cs::L) w'->K (.pointer (some ⟨b,0,none⟩)) w'):gd P (Instr.alloc T true (.tuple #[])) w K:=by
 unfold jI cH at hz
 cases hi:P.info? T with
 | none=>rw [hi] at hz; cases hz
 | some i=>
  rw [hi] at hz
  simp only [Option.map_some,Option.some.injEq] at hz
  have h1:pr P (zeroValue T)=some (.agg cs.toArray):=by unfold zeroValue; rw [aK,fS hi]; simp only [Option.bind_some,hz]; rfl
  refine ⟨_,push w (.cells cs.toArray T),?_,k _ _ (hs.push (T:=T))⟩
  unfold Instr.alloc
  rw [aZ (bM h1 w)]
  rfl
theorem run_store {b o:Nat} {cs:List Value} {v:Value} (hb:q9 w b cs) (ho:o<cs.length) (hv:fe v=true) :
  (store ⟨b,o,none⟩ v).run P w = .ok () (w.setCell ⟨b,o,none⟩ v):=by
 have h1:w.cell? ⟨b,o,none⟩=some cs[o]:=hb.cell (by simp [ho])
 have h2:=hb.frozen (o:=o)
 unfold store
 cases v <;> first | cases hv | skip
 all_goals
  simp only [Sem.run,h1,h2]
  rfl
theorem FA {b o:Nat} {cs:List Value} {v:Value} (hs:St w0 A (cP b cs::L) w):St w0 A (cP b (cs.set o v)::L) (w.setCell ⟨b,o,none⟩ v):=
 hs.kV λ F hF=>⟨F,⟨hF.1.setCell v,hF.2⟩,λ _ h=>.inl h,(gM.setCell w b o v).mono λ k hk=>(hF.2 k).2 hk⟩
theorem bF {T:TypeId} {b o:Nat} {cs:List Value} {v:Value} {K:World->Prop} (hs:St w0 A (cP b cs::L) w) (ht:Nt P T) (ho:o<cs.length) (hv:fe v=true)
  (k:∀ w',St w0 A (cP b (cs.set o v)::L) w'->K w'):BT P (Instr.storeAt T (.pointer (some ⟨b,o,none⟩)) v) w K:=by
 refine ⟨_,?_,k _ (FA hs)⟩
 show (storeVar T ⟨b,o,none⟩ v).run P w=_
 have hc:v.cells = #[v]:=by cases v <;> first | rfl | cases hv
 unfold storeVar
 rw [aZ (bM (eD ht).2 w),hc]
 simp only [List.size_toArray,List.length_cons,List.length_nil,Nat.zero_add,ne_eq,not_true_eq_false,if_false]
 show (storeCells ⟨b,o,none⟩ [v]).run P w=_
 unfold storeCells
 rw [dK,Nat.add_zero,aZ (run_store hs.hb ho hv)]
 rfl
def eC:List Value->Nat->List Value->List Value
 | cs,_,[]=>cs
 | cs,o,v::r=>eC (cs.set o v) (o+1) r
theorem hG (cs:List Value) (o:Nat) (vs:List Value):(eC cs o vs).length=cs.length:=by
 induction vs generalizing cs o with
 | nil=>rfl
 | cons v r ih=>simp [eC,ih]
theorem zN {b o:Nat}:∀ (vs:List Value) (i:Nat) (cs:List Value) (w:World),St w0 A (cP b cs::L) w->o+i+vs.length<=cs.length->(∀ v∈vs,fe v=true)->
  ∃ w',(storeCells ⟨b,o,none⟩ vs i).run P w = .ok () w'/\St w0 A (cP b (eC cs (o+i) vs)::L) w':=by
 intro vs
 induction vs with
 | nil=>intro i cs w hs _ _; exact ⟨w,rfl,hs⟩
 | cons v r ih=>
  intro i cs w hs hl hv
  have hl':o+i+(r.length+1)<=cs.length:=by simpa using hl
  have h1:=run_store (P:=P) hs.hb (o:=o+i) (v:=v) (by omega) (hv v (by simp))
  obtain ⟨w',h2,h3⟩:=ih (i+1) (cs.set (o+i) v) _ (FA hs) (by simp; omega) (λ x hx=>hv x (by simp [hx]))
  refine ⟨w',?_,by rw [show o+(i+1)=o+i+1 from by omega] at h3; exact h3⟩
  show (do store ((Addr.mk b o none).add i) v; storeCells ⟨b,o,none⟩ r (i+1):Sem Unit).run P w=_
  rw [dK,aZ h1,h2]
theorem zO {T:TypeId} {b o n:Nat} {cs vs:List Value} {K:World->Prop} (hs:St w0 A (cP b cs::L) w) (ht:Qj P T n) (hn:vs.length=n) (ho:o+n<=cs.length) (hv:∀ v∈vs,fe v=true)
  (k:∀ w',St w0 A (cP b (eC cs o vs)::L) w'->K w'):BT P (Instr.storeAt T (.pointer (some ⟨b,o,none⟩)) (.agg vs.toArray)) w K:=by
 subst hn
 obtain ⟨w',h1,h2⟩:=zN (P:=P) (o:=o) vs 0 cs w hs (by omega) hv
 refine ⟨w',?_,k w' h2⟩
 show (storeVar T ⟨b,o,none⟩ (.agg vs.toArray)).run P w=_
 unfold storeVar
 rw [aZ (bM (eD ht).2 w)]
 simp only [Value.cells,List.size_toArray,ne_eq,not_true_eq_false,if_false]
 exact h1
end
end Go.Fw
namespace Go.Fw
class Flat (α:Type) where
 agg:Bool
 sz:Nat
 enc:α->List Value
 val:α->Value
 pos:0<sz
 len:∀ a,(enc a).length=sz
 one:∀ a v,v∈enc a->fe v=true
 mo:agg=true->∀ a,val a = .agg (enc a).toArray
 mM:agg=false->∀ a,enc a=[val a]
instance:Flat Int where
 agg:=false
 sz:=1
 enc n:=[.int .i64 n]
 val n:=.int .i64 n
 pos:=by decide
 len _:=rfl
 one a v h:=by rw [List.mem_singleton.1 h]; rfl
 mo h:=by cases h
 mM _ _:=rfl
instance:Flat Bool where
 agg:=false
 sz:=1
 enc n:=[.bool n]
 val n:=.bool n
 pos:=by decide
 len _:=rfl
 one a v h:=by rw [List.mem_singleton.1 h]; rfl
 mo h:=by cases h
 mM _ _:=rfl
instance:Flat ByteArray where
 agg:=false
 sz:=1
 enc n:=[.string n]
 val n:=.string n
 pos:=by decide
 len _:=rfl
 one a v h:=by rw [List.mem_singleton.1 h]; rfl
 mo h:=by cases h
 mM _ _:=rfl
section
variable {α:Type} [Flat α]
def flat (xs:List α):List Value:=xs.flatMap Flat.enc
theorem gQ:flat ([]:List α)=[]:=rfl
theorem gP (x:α) (xs:List α):flat (x::xs)=Flat.enc x++flat xs:=by simp [flat]
theorem fJ (xs ys:List α):flat (xs++ys)=flat xs++flat ys:=by simp [flat]
theorem bZ (xs:List α):(flat xs).length=xs.length * Flat.sz α:=by
 induction xs with
 | nil=>simp [gQ]
 | cons x xs ih=>rw [gP,List.length_append,ih,Flat.len,List.length_cons,Nat.succ_mul]; omega
theorem vz {xs:List α}:∀ v∈flat xs,fe v=true:=by
 intro v hv
 obtain ⟨x,_,hx⟩:=List.mem_flatMap.1 hv
 exact Flat.one x v hx
theorem pq {xs:List α} {i j:Nat} {x:α} {c:Value} (hx:xs[i]? = some x) (hc:(Flat.enc x)[j]? = some c):(flat xs)[i * Flat.sz α+j]? = some c:=by
 induction xs generalizing i with
 | nil=>simp at hx
 | cons y ys ih=>
  rw [gP]
  cases i with
  | zero=>
   simp at hx; subst hx
   have hj:j<(Flat.enc y).length:=(List.getElem?_eq_some_iff.1 hc).1
   rw [Nat.zero_mul,Nat.zero_add,List.getElem?_append_left hj]; exact hc
  | succ i=>
   have:=ih (by simpa using hx)
   rw [List.getElem?_append_right (by rw [Flat.len,Nat.succ_mul]; omega),Flat.len]
   rw [show (i+1) * Flat.sz α+j - Flat.sz α=i * Flat.sz α+j from by rw [Nat.succ_mul]; omega]
   exact this
theorem B6 (xs:List α) (n:Nat):flat (xs.take n)=(flat xs).take (n * Flat.sz α):=by
 induction xs generalizing n with
 | nil=>simp [gQ]
 | cons x xs ih=>
  cases n with
  | zero=>simp [gQ]
  | succ n=>
   rw [List.take_succ_cons,gP,gP,ih,List.take_append,Flat.len]
   have h1:(n+1) * Flat.sz α - Flat.sz α=n * Flat.sz α:=by rw [Nat.succ_mul]; omega
   rw [h1,List.take_of_length_le (i:=(n+1) * Flat.sz α) (l:=Flat.enc x) (by rw [Flat.len,Nat.succ_mul]; omega)]
theorem B7 (xs:List α) (n:Nat):flat (xs.drop n)=(flat xs).drop (n * Flat.sz α):=by
 induction xs generalizing n with
 | nil=>simp [gQ]
 | cons x xs ih=>
  cases n with
  | zero=>simp
  | succ n=>
   rw [List.drop_succ_cons,gP,ih,List.drop_append,Flat.len]
   have h1:(n+1) * Flat.sz α - Flat.sz α=n * Flat.sz α:=by rw [Nat.succ_mul]; omega
   rw [h1,List.drop_of_length_le (i:=(n+1) * Flat.sz α) (l:=Flat.enc x) (by rw [Flat.len,Nat.succ_mul]; omega),List.nil_append]
def At (S:Nat->Prop) (w:World) (p:Value) (x:α):Prop:=
 ∃ b o,p = .pointer (some ⟨b,o,none⟩)/\S b/\∀ j c,(Flat.enc x)[j]? = some c->Cell w b (o+j) c
def dx (S:Nat->Prop) (w:World) (v:Value) (xs:List α):Prop:=
 ∃ a cap,v = .slice a xs.length cap/\xs.length<=cap/\((xs=[]/\cap=0)\/∃ b o,a=some ⟨b,o,none⟩/\(xs≠[]->S b)/\∀ j c,(flat xs)[j]? = some c->Cell w b (o+j) c)
def bJ (v:Value) (xs:List α):HP where
 p w F:=(v = .slice none 0 0/\xs=[]/\∀ b,¬ F b)\/
  ∃ b cap rest,v = .slice (some ⟨b,0,none⟩) xs.length cap/\q9 w b (flat xs++rest)/\(xs.length<=cap/\cap * Flat.sz α<=(flat xs++rest).length)/\∀ k,F k↔k=b
 loc w w' F h hh:=by
  rcases h with h | ⟨b,cap,rest,h1,h2,h3,h4⟩
  ·exact .inl h
  ·exact .inr ⟨b,cap,rest,h1,h2.of_eq (hh b ((h4 b).2 rfl)),h3,h4⟩
 lt w F b h hb:=by
  rcases h with h | ⟨b',cap,rest,h1,h2,h3,h4⟩
  ·exact (h.2.2 b hb).elim
  ·rw [(h4 b).1 hb]; exact h2.lt
variable {P:Program} {w w0:World} {A S:Nat->Prop} {L:List HP} {xs ys:List α}
theorem At.aE {A:Nat->Prop} {w w':World} {p:Value} {x:α} (h:At S w p x) (hc:gM A w w') (hd:∀ b,S b->¬ A b):At S w' p x:=by
 obtain ⟨b,o,h1,h2,h3⟩:=h; exact ⟨b,o,h1,h2,λ j c hj=>(h3 j c hj).aE hc (hd b h2)⟩
theorem At.ext {w w':World} {p:Value} {x:α} (h:At S w p x) (hc:Ext w w'):At S w' p x:=h.aE hc λ _ _ h=>h
theorem dx.aE {A:Nat->Prop} {w w':World} {v:Value} (h:dx S w v xs) (hc:gM A w w') (hd:∀ b,S b->¬ A b):dx S w' v xs:=by
 obtain ⟨a,cap,h1,h2,h3⟩:=h
 refine ⟨a,cap,h1,h2,?_⟩
 rcases h3 with h3 | ⟨b,o,h3,h4,h5⟩
 ·exact .inl h3
 exact .inr ⟨b,o,h3,h4,λ j c hj=>(h5 j c hj).aE hc (hd b (h4 λ h=>by subst h; simp [gQ] at hj))⟩
theorem dx.ext {w w':World} {v:Value} (h:dx S w v xs) (hc:Ext w w'):dx S w' v xs:=h.aE hc λ _ _ h=>h
theorem dx.mono {S':Nat->Prop} {v:Value} (h:dx S w v xs) (hd:∀ b,S b->S' b):dx S' w v xs:=by
 obtain ⟨a,cap,h1,h2,h3⟩:=h
 exact ⟨a,cap,h1,h2,h3.imp id λ ⟨b,o,h3,h4,h5⟩=>⟨b,o,h3,λ h=>hd b (h4 h),h5⟩⟩
theorem dx.nil (S:Nat->Prop) (w:World):dx S w (.slice none 0 0) ([]:List α):=⟨none,0,rfl,Nat.le_refl _,.inl ⟨rfl,rfl⟩⟩
theorem bJ.rd {v:Value} {F:Nat->Prop} (h:(bJ v xs).p w F):dx F w v xs:=by
 rcases h with ⟨h1,h2,h3⟩ | ⟨b,cap,rest,h1,h2,h3,h4⟩
 ·subst h1 h2; exact dx.nil _ _
 refine ⟨_,cap,h1,?_,.inr ⟨b,0,rfl,λ _=>(h4 b).2 rfl,λ j c hj=>?_⟩⟩
 ·exact h3.1
 rw [Nat.zero_add]
 exact h2.cell (by rw [List.getElem?_append_left (List.getElem?_eq_some_iff.1 hj).1]; exact hj)
theorem St.rd {v:Value} (hs:St w0 A (bJ v xs::L) w):∃ S,(∀ b,S b->A b\/w0.heap.size<=b)/\dx S w v xs:=by
 obtain ⟨F,h1,h2⟩:=hs.head; exact ⟨F,h2,bJ.rd h1⟩
theorem St.gg {v:Value} (hs:St w0 A (bJ v xs::L) w):dx (λ _=>True) w v xs:=by
 obtain ⟨S,_,h⟩:=hs.rd; exact h.mono λ _ _=>trivial
theorem St.fy (hs:St w0 A L w):St w0 A (bJ (.slice none 0 0) ([]:List α)::L) w:=
 hs.new (Ext.refl w) (F:=bD) (.inl ⟨rfl,rfl,λ _ h=>h⟩) λ _ h=>h.elim
theorem aF {T:TypeId} {p:Value} {x:α} {K:Value->Prop} (ht:bT P T=some (Flat.agg α,Flat.sz α)) (h:At S w p x) (k:K (Flat.val x)):q7 P (Instr.loadAt T p) w K:=by
 obtain ⟨b,o,rfl,_,h3⟩:=h
 cases ha:Flat.agg α with
 | true=>
  rw [ha] at ht
  refine ⟨_,?_,k⟩
  rw [Flat.mo ha x]
  exact rL (by rw [Flat.len]; exact ht) h3
 | false=>
  rw [ha] at ht
  have h1:=Flat.mM ha x
  have iN:Flat.sz α=1:=by rw [<- Flat.len x,h1]; rfl
  rw [iN] at ht
  exact ⟨_,aD ht (by have:=h3 0 (Flat.val x) (by rw [h1]; rfl); simpa using this),k⟩
theorem St.At {b:Nat} {x:α} (hs:St w0 A (Fw.cP b (Flat.enc x)::L) w):Fw.At (λ _=>True) w (.pointer (some ⟨b,0,none⟩)) x:=
 ⟨b,0,rfl,trivial,λ j c hj=>by rw [Nat.zero_add]; exact hs.hb.cell hj⟩
theorem ee {β:Type} [Flat β] {T f off:Nat} {p:Value} {x:α} (y:β) {K:Value->Prop} (ht:uI P T f off) (h:At S w p x) (hy:(Flat.enc x)[off]? = some (Flat.val y)) (ha:Flat.agg β=false)
  (k:∀ q,At S w q y->K q):cU P (Instr.fieldAt T p f) K:=by
 obtain ⟨b,o,rfl,h2,h3⟩:=h
 refine aA ht (k _ ⟨b,o+off,rfl,h2,λ j c hj=>?_⟩)
 rw [Flat.mM ha] at hj
 cases j with
 | zero=>simp at hj; subst hj; exact h3 off _ hy
 | succ j=>simp at hj
theorem rM {T R E n by':Nat} {z:Option Nat} {a:Option Addr} {l c:Nat} (ht:cT P T=some (E,n,by',z)):pr P (Builtin.len_ #[T] R [Value.slice a l c].toArray)=some (.int .i64 l):=by
 show pr P (do
  match <- underlying T,Value.slice a l c with
  | .string,.string s=>pure (goInt s.size)
  | .array n _,_=>pure (goInt n)
  | .pointer arr,_=>
   let .array n _ <- underlying arr | stuck "len: pointer to array expected"
   pure (goInt n)
  | .slice _,.slice _ n _=>pure (goInt n)
  | .map _ _,.map none | .chan _ _,.chan none=>pure (goInt 0)
  | .map _ _,.map (some r)=>
   let .map entries _ <- getObj r | stuck "len: map expected"
   pure (goInt entries.size)
  | .chan _ _,.chan (some r)=>
   let .chan _ buf _ _ _ timer <- getObj r | stuck "len: channel expected"
   pure (goInt (if timer then 0 else buf.size))
  | _, _ => stuck "len: string, array, pointer to array, slice, map or channel expected") = _
 rw [aK,aM (dz ht).1]
 rfl
theorem aG {T R E n by':Nat} {z:Option Nat} {v:Value} {K:Value->Prop} (ht:cT P T=some (E,n,by',z)) (h:dx S w v xs) (k:K (.int .i64 (xs.length:Int))) :
  cU P (Builtin.len_ #[T] R [v].toArray) K:=by
 obtain ⟨a,cap,rfl,_⟩:=h
 exact ⟨_,rM ht,k⟩
theorem aU {T E by':Nat} {z:Option Nat} {v:Value} {i:Int} {x:α} {K:Value->Prop} (ht:cT P T=some (E,Flat.sz α,by',z)) (h:dx S w v xs) (h0:0<=i) (hx:xs[i.toNat]? = some x)
  (k:∀ p,At S w p x->K p):cU P (Instr.indexAt T v (.int .i64 i)) K:=by
 obtain ⟨a,cap,rfl,vA,h3⟩:=h
 have eU:i.toNat<xs.length:=(List.getElem?_eq_some_iff.1 hx).1
 rcases h3 with ⟨rfl,_⟩ | ⟨b,o,rfl,h4,h5⟩
 ·simp at hx
 obtain ⟨hu,inf,hi,iN,_⟩:=dz ht
 refine ⟨.pointer (some ⟨b,o+i.toNat * Flat.sz α,none⟩),?_,k _ ⟨b,_,rfl,h4 (by intro h; subst h; simp at hx),λ j c hj=>?_⟩⟩
 ·unfold Instr.indexAt
  rw [aK]
  show pr P _=_
  simp only [asIntOf]
  have e1:pr P (underlying T)=some (.slice E):=aM hu
  have e2:pr P (sizeOf E)=some (Flat.sz α):=by rw [fX hi,iN]
  simp only [aK,e1,e2,Option.bind_some,cR]
  have rN:0<=i/\i<(xs.length:Int):=⟨h0,by omega⟩
  simp only [if_pos rN,aK,e2,Option.bind_some,cR,dK]
 have:=h5 (i.toNat * Flat.sz α+j) c (pq hx hj)
 rwa [show o+(i.toNat * Flat.sz α+j)=o+i.toNat * Flat.sz α+j from by omega] at this
end
end Go.Fw
namespace Go.Fw
section
variable {α:Type} [Flat α] {P:Program} {w w0:World} {A S:Nat->Prop} {L:List HP} {xs ys:List α}
theorem iI {y:Nat} {i:Int} {code:BoundsCode} (h0:0<=i) (h1:i<=y):pr P (Instr.sliceBound (.int .i64 i) y code)=some i.toNat:=by
 unfold Instr.sliceBound
 rw [aK]
 simp only [asIntOf,cR,Option.bind_some,if_pos (show 0<=i/\i<=(y:Int) from ⟨h0,h1⟩)]
theorem rO {T E sz by':Nat} {z:Option Nat} {a:Option Addr} {n cap l h:Nat} {lo hi:Option Value} (ht:cT P T=some (E,sz,by',z))
  (hb:pr P (Instr.sliceBounds true n cap lo hi none)=some (l,h,cap)) :
  pr P (Instr.sliceAt T (.slice a n cap) lo hi none)=some (.slice (if cap=l then a else a.map (·.add (l * sz))) (h - l) (cap - l)):=by
 obtain ⟨hu,inf,yW,iN,_⟩:=dz ht
 unfold Instr.sliceAt
 rw [aK,aM hu]
 simp only [Option.bind_some]
 unfold Instr.slice
 rw [aK,aM hu]
 simp only [Option.bind_some]
 rw [aK,hb]
 simp only [Option.bind_some]
 rw [aK,fX yW,iN]
 rfl
theorem kJ {n cap l h:Nat} {lo hi:Option Value} (hl:lo=none/\l=0\/∃ i:Int,lo=some (.int .i64 i)/\0<=i/\l=i.toNat) (hh:hi=none/\h=n\/∃ i:Int,hi=some (.int .i64 i)/\0<=i/\h=i.toNat)
  (h1:l<=h) (h2:h<=cap):pr P (Instr.sliceBounds true n cap lo hi none)=some (l,h,cap):=by
 rcases hl with ⟨rfl,rfl⟩ | ⟨i,rfl,h0,rfl⟩ <;> rcases hh with ⟨rfl,rfl⟩ | ⟨i',rfl,h0',rfl⟩ <;> simp only [Instr.sliceBounds,aK,cR,Option.bind_some]
 ·rw [iI h0' (by omega)]; rfl
 ·rw [iI h0 (by omega)]; rfl
 rw [iI h0' (by omega)]; simp only [Option.bind_some]; rw [iI h0 (by omega)]; rfl
theorem dx.cut {v:Value} {a:Option Addr} {n cap l h:Nat} (hv:v = .slice a n cap) (hr:dx S w v xs) (h1:l<=h) (h2:h<=xs.length) :
  dx S w (.slice (if cap=l then a else a.map (·.add (l * Flat.sz α))) (h - l) (cap - l)) ((xs.take h).drop l):=by
 obtain ⟨a',BC,oP,vA,h3⟩:=hr
 rw [oP] at hv
 simp only [Value.slice.injEq] at hv
 obtain ⟨rfl,hn,rfl⟩:=hv
 have hlen:((xs.take h).drop l).length=h - l:=by simp; omega
 rcases h3 with ⟨hxs,ug⟩ | ⟨b,o,rfl,h4,h5⟩
 ·subst hxs
  exact ⟨_,BC - l,by rw [hlen],by simp,.inl ⟨by simp,by omega⟩⟩
 refine ⟨_,BC - l,by rw [hlen],by rw [hlen]; omega,.inr ?_⟩
 have iS:(xs.take h).drop l≠[]->xs≠[]:=λ hh hx=>hh (by rw [hx]; simp)
 by_cases hh:BC=l
 ·rw [if_pos hh]
  refine ⟨b,o,rfl,λ hx=>h4 (iS hx),λ j c hj=>?_⟩
  have:((xs.take h).drop l)=[]:=by rw [<- List.length_eq_zero_iff,hlen]; omega
  rw [this] at hj; simp [gQ] at hj
 rw [if_neg hh]
 refine ⟨b,o+l * Flat.sz α,by simp [dK],λ hx=>h4 (iS hx),λ j c hj=>?_⟩
 rw [B7,B6,List.getElem?_drop,List.getElem?_take] at hj
 split at hj
 ·have:=h5 _ c hj
  rwa [show o+(l * Flat.sz α+j)=o+l * Flat.sz α+j from by omega] at this
 cases hj
theorem KX {T E by':Nat} {z:Option Nat} {v:Value} {lo hi:Option Value} {l h:Nat} {K:Value->Prop} (ht:cT P T=some (E,Flat.sz α,by',z)) (hr:dx S w v xs)
  (hl:lo=none/\l=0\/∃ i:Int,lo=some (.int .i64 i)/\0<=i/\l=i.toNat) (hh:hi=none/\h=xs.length\/∃ i:Int,hi=some (.int .i64 i)/\0<=i/\h=i.toNat)
  (h1:l<=h) (h2:h<=xs.length) (k:∀ v',dx S w v' ((xs.take h).drop l)->K v'):cU P (Instr.sliceAt T v lo hi none) K:=by
 have Fa:=hr
 obtain ⟨a,cap,rfl,vA,h3⟩:=hr
 exact ⟨_,rO ht (kJ hl hh h1 (by omega)),k _ (Fa.cut rfl h1 h2)⟩
theorem Nu {T E by':Nat} {z:Option Nat} {v:Value} {i:Int} {K:Value->Prop} (ht:cT P T=some (E,Flat.sz α,by',z)) (hr:dx S w v xs) (h0:0<=i) (h2:i<=xs.length)
  (k:∀ v',dx S w v' (xs.take i.toNat)->K v'):cU P (Instr.sliceAt T v none (some (.int .i64 i)) none) K:=
 KX ht hr (.inl ⟨rfl,rfl⟩) (.inr ⟨i,rfl,h0,rfl⟩) (by omega) (by omega) λ v' h=>k v' (by simpa using h)
theorem Nv {T E by':Nat} {z:Option Nat} {v:Value} {i:Int} {K:Value->Prop} (ht:cT P T=some (E,Flat.sz α,by',z)) (hr:dx S w v xs) (h0:0<=i) (h2:i<=xs.length)
  (k:∀ v',dx S w v' (xs.drop i.toNat)->K v'):cU P (Instr.sliceAt T v (some (.int .i64 i)) none none) K:=
 KX ht hr (.inr ⟨i,rfl,h0,rfl⟩) (.inl ⟨rfl,rfl⟩) (by omega) (by omega) λ v' h=>k v' (by simpa using h)
theorem jC {b o:Nat}:∀ (vs:List Value) (i:Nat) (cs:List Value) (w:World),q9 w b cs->o+i+vs.length<=cs.length->(∀ v∈vs,fe v=true)->
  ∃ w',(storeCells ⟨b,o,none⟩ vs i).run P w = .ok () w'/\q9 w' b (eC cs (o+i) vs)/\gM (· = b) w w':=by
 intro vs
 induction vs with
 | nil=>intro i cs w hb _ _; exact ⟨w,rfl,hb,gM.refl _ _⟩
 | cons v r ih=>
  intro i cs w hb hl hv
  have hl':o+i+(r.length+1)<=cs.length:=by simpa using hl
  have h1:=run_store (P:=P) hb (o:=o+i) (v:=v) (by omega) (hv v (by simp))
  obtain ⟨w',h2,h3,h4⟩:=ih (i+1) (cs.set (o+i) v) _ (hb.setCell v) (by simp; omega) (λ x hx=>hv x (by simp [hx]))
  refine ⟨w',?_,by rw [show o+(i+1)=o+i+1 from by omega] at h3; exact h3,(gM.setCell w b (o+i) v).trans h4 (λ _ h=>h) (λ _ _ h=>h)⟩
  show (do store ((Addr.mk b o none).add i) v; storeCells ⟨b,o,none⟩ r (i+1):Sem Unit).run P w=_
  rw [dK,aZ h1,h2]
theorem iU (pre B8 post vs:List Value) (h:B8.length=vs.length):eC (pre++B8++post) pre.length vs=pre++vs++post:=by
 induction vs generalizing pre B8 with
 | nil=>obtain rfl:=List.length_eq_zero_iff.1 h; simp [eC]
 | cons v r ih=>
  match B8,h with
  | m::B8,h=>
   have e:(pre++(m::B8)++post).set pre.length v=(pre++[v])++B8++post:=by simp
   simp only [eC,e]
   have:=ih (pre++[v]) B8 (by simpa using h)
   rw [show (pre++[v]).length=pre.length+1 from by simp] at this
   rw [this]; simp
theorem sU {sz:Nat} {v:Value} (iN:sz=Flat.sz α) (h:dx S w v ys):(Builtin.firstCells sz ys.length v).run P w = .ok (flat ys).toArray w:=by
 subst iN
 obtain ⟨a,cap,rfl,_,h3⟩:=h
 rcases h3 with ⟨rfl,_⟩ | ⟨b,o,rfl,_,h5⟩
 ·cases a with
  | none=>rfl
  | some a=>simp [Builtin.firstCells,loadCells,loadCellsFrom,gQ]
 have:=run_loadCells (P:=P) h5
 rw [bZ] at this
 exact this
theorem xd {b o:Nat} {cs:List Value} (h:∀ j c,cs[j]? = some c->Cell w b (o+j) c):∀ j v,cs[j]? = some v->w.cell? ((⟨b,o,none⟩:Addr).add j)=some v:=λ j v hj=>by
 rw [dK]; exact h j v hj
theorem yc {T E by' R:Nat} {v src:Value} {F:Nat->Prop} (ht:Qk P T E (Flat.sz α) by') (hv:(bJ v xs).p w F) (pw:dx S w src ys)
  (hn:xs.length+ys.length<=17592186044416) (hm:(xs.length+ys.length) * by'<=140737488355328) :
  ∃ v' w' F',(Builtin.append_ #[T,T] R [v,src].toArray).run P w = .ok v' w'/\(bJ v' (xs++ys)).p w' F'/\(∀ b,F' b->F b\/w.heap.size<=b)/\gM F w w':=by
 obtain ⟨hu,inf,hi,iN,nJ,hz⟩:=dz ht
 obtain ⟨zv,hzv,hzs⟩:∃ zv,inf.zero=some zv/\zv.cells.size=Flat.sz α:=by
  cases yZ:inf.zero with
  | none=>rw [yZ] at hz; cases hz
  | some zv=>rw [yZ] at hz; exact ⟨zv,rfl,by simpa using hz⟩
 have hmul:(xs.length+ys.length) * inf.bytes<=140737488355328:=by rw [show inf.bytes=by' by omega]; exact hm
 have made:∀ (cap:Nat),cap<xs.length+ys.length->
   (bJ (.slice (some ⟨w.heap.size,0,none⟩) (xs.length+ys.length) (grownCap w (xs.length+ys.length) cap E)) (xs++ys)).p
    (w.drew.alloc (.cells ((flat xs).toArray++(flat ys).toArray++Builtin.zeroCells zv.cells (grownCap w (xs.length+ys.length) cap E - (xs.length+ys.length))) E)) (λ k=>k=w.heap.size):=by
  intro cap hc
  have FB:=grownCap_ge w (xs.length+ys.length) cap E
  refine .inr ⟨w.heap.size,grownCap w (xs.length+ys.length) cap E,(Builtin.zeroCells zv.cells (grownCap w (xs.length+ys.length) cap E - (xs.length+ys.length))).toList,by simp,⟨E,?_⟩,?_,λ _=>Iff.rfl⟩
  ·have:=jX w.drew (.cells ((flat xs).toArray++(flat ys).toArray++Builtin.zeroCells zv.cells (grownCap w (xs.length+ys.length) cap E - (xs.length+ys.length))) E)
   refine Eq.trans this ?_
   congr 2
   apply Array.ext'
   simp [fJ]
  ·refine ⟨by rw [List.length_append]; exact FB,Nat.le_of_eq (Eq.symm ?_)⟩
   have e:(Builtin.zeroCells zv.cells (grownCap w (xs.length+ys.length) cap E - (xs.length+ys.length))).toList.length=(grownCap w (xs.length+ys.length) cap E - (xs.length+ys.length)) * Flat.sz α:=by
    rw [Array.length_toList,size_zeroCells,hzs]
   rw [List.length_append,e,bZ,List.length_append,<- Nat.add_mul]
   congr 1
   omega
 have agV:∀ o,gM F w (w.drew.alloc o):=λ o=>⟨rfl,rfl,rfl,by simp,λ b hb _=>wZ w.drew o b hb⟩
 have rd:=pw
 obtain ⟨sa,Qm,rfl,hsc,hs3⟩:=rd
 rcases hv with ⟨rfl,rfl,hF⟩ | ⟨b,cap,rest,rfl,hb,hl,hF⟩
 ·
  simp only [List.length_nil,Nat.zero_add,List.nil_append] at *
  by_cases hm:ys=[]
  ·subst hm
   refine ⟨.slice none 0 0,w,F,?_,.inl ⟨rfl,rfl,hF⟩,λ b hb=>.inl hb,gM.refl _ _⟩
   cases sa <;> simp [Builtin.append_,run_underlying hu,sizeOf,typeInfo,hi,Builtin.lenOf,Builtin.firstCells,loadCells,loadCellsFrom]
  have uJ:0<ys.length:=List.length_pos_iff.2 hm
  rcases hs3 with ⟨h,_⟩ | ⟨b,o,rfl,_,hcs⟩
  ·exact absurd h hm
  have hr:=run_append_nil (P:=P) w T R E inf zv hu hi hzv ⟨b,o,none⟩ ys.length Qm (flat ys) (by rw [bZ,iN]) (xd hcs) uJ (by omega) (by omega)
  refine ⟨_,_,λ k=>k=w.heap.size,hr,?_,λ k hk=>.inr (by rw [hk]; exact Nat.le_refl _),agV _⟩
  have:=made 0 uJ
  simpa [gQ] using this
 have vA:xs.length<=cap:=hl.1
 replace hl:=hl.2
 by_cases jJ:xs.length+ys.length<=cap
 ·
  have uK:(xs.length+ys.length) * Flat.sz α<=cap * Flat.sz α:=Nat.mul_le_mul_right _ jJ
  have KY:(flat xs).length=xs.length * Flat.sz α:=bZ xs
  have q8:(flat ys).length<=rest.length:=by
   rw [List.length_append,KY] at hl; rw [bZ]; rw [Nat.add_mul] at uK; omega
  obtain ⟨w',h1,h2,h3⟩:=jC (P:=P) (o:=xs.length * Flat.sz α) (flat ys) 0 (flat xs++rest) w hb (by rw [List.length_append,KY]; omega) vz
  have ml:eC (flat xs++rest) (xs.length * Flat.sz α+0) (flat ys)=flat (xs++ys)++rest.drop (flat ys).length:=by
   have:=iU (flat xs) (rest.take (flat ys).length) (rest.drop (flat ys).length) (flat ys) (by simp; omega)
   rw [KY] at this
   rw [Nat.add_zero,fJ]
   rw [<- this]
   simp
  rw [ml] at h2
  refine ⟨.slice (some ⟨b,0,none⟩) (xs.length+ys.length) cap,w',F,?_,.inr ⟨b,cap,_,by simp,h2,?_,hF⟩,λ b hb=>.inl hb,h3.mono λ k hk=>(hF k).2 hk⟩
  ·have hf:=sU (α:=α) (P:=P) (sz:=Flat.sz α) rfl pw
   have abT:(⟨b,0,none⟩:Addr).add (xs.length * Flat.sz α)=⟨b,xs.length * Flat.sz α,none⟩:=by rw [dK,Nat.zero_add]
   simp [Builtin.append_,run_underlying hu,sizeOf,typeInfo,hi,Builtin.lenOf,jJ,hf,iN,abT,h1]
  refine ⟨by rw [List.length_append]; exact jJ,Nat.le_trans hl (Nat.le_of_eq ?_)⟩
  rw [List.length_append,List.length_append,fJ,List.length_append,List.length_drop]; omega
 -- a new row
 have hr:=run_append_grow (P:=P) w T R E inf zv hu hi hzv ⟨b,0,none⟩ xs.length cap (flat xs) (by rw [bZ,iN])
  (xd λ j c hj=>by rw [Nat.zero_add]; exact hb.cell (by rw [List.getElem?_append_left (List.getElem?_eq_some_iff.1 hj).1]; exact hj))
 rcases hs3 with ⟨h,_⟩ | ⟨b',o,rfl,_,hcs⟩
 ·subst h; simp at jJ; omega
 have hr:=hr ⟨b',o,none⟩ ys.length Qm (flat ys) (by rw [bZ,iN]) (xd hcs) (by omega) (by omega) (growslice_fits (by omega) hmul)
 exact ⟨_,_,λ k=>k=w.heap.size,hr,made cap (by omega),λ k hk=>.inr (by rw [hk]; exact Nat.le_refl _),agV _⟩
theorem abU {T E by' R:Nat} {v src:Value} {F:Nat->Prop} (ht:Qk P T E (Flat.sz α) by') (hv:(bJ v xs).p w F) (pw:dx S w src ys)
  (hn:xs.length+ys.length<=1073741824) (UX:by'<=8192) :
  ∃ v' w' F',(Builtin.append_ #[T,T] R [v,src].toArray).run P w = .ok v' w'/\(bJ v' (xs++ys)).p w' F'/\(∀ b,F' b->F b\/w.heap.size<=b)/\gM F w w':=
 yc ht hv pw (by omega) (by have:=Nat.mul_le_mul hn UX; omega)
theorem FC {T E by' R:Nat} {v src:Value} {K:Value->World->Prop} (hs:St w0 A (bJ v xs::L) w) (ht:Qk P T E (Flat.sz α) by') (pw:dx S w src ys)
  (hn:xs.length+ys.length<=17592186044416) (hm:(xs.length+ys.length) * by'<=140737488355328) (k:∀ v' w',St w0 A (bJ v' (xs++ys)::L) w'->K v' w'):gd P (Builtin.append_ #[T,T] R [v,src].toArray) w K:=by
 obtain ⟨U,F,U',h1,h2,h3,h4,h5⟩:=hs.oO
 obtain ⟨v',w',F',g1,g2,g3,g4⟩:=yc (R:=R) ht h1 pw hn hm
 refine ⟨v',w',g1,k v' w' ?_⟩
 refine ⟨hs.aE.trans g4 (λ _ h=>h) λ b hb hf=>(h2 b hf).elim id λ hh=>by omega,λ b=>F' b\/U' b,F',U',g2,λ b hb=>?_,λ b hb hu=>?_,λ b=>Iff.rfl,?_⟩
 ·rcases g3 b hb with hf | hf
  ·exact h2 b hf
  exact .inr (Nat.le_trans hs.aE.size hf)
 ·rcases g3 b hb with hf | hf
  ·exact h3 b hf hu
  have:=h5.lt b hu; omega
 exact h5.loc λ b hb=>g4.cP b (h5.lt b hb) λ hf=>h3 b hf hb
theorem dw {T E by' R:Nat} {v src:Value} {K:Value->World->Prop} (hs:St w0 A (bJ v xs::L) w) (ht:Qk P T E (Flat.sz α) by') (pw:dx S w src ys)
  (hn:xs.length+ys.length<=1073741824) (UX:by'<=8192) (k:∀ v' w',St w0 A (bJ v' (xs++ys)::L) w'->K v' w'):gd P (Builtin.append_ #[T,T] R [v,src].toArray) w K:=
 FC hs ht pw (by omega) (by have:=Nat.mul_le_mul hn UX; omega) k
end
end Go.Fw
namespace Go.Fw
section
variable {α:Type} [Flat α] {P:Program} {w w0:World} {A S:Nat->Prop} {L:List HP} {xs ys:List α}
theorem lU (x:α):(Flat.val x).cells=(Flat.enc x).toArray:=by
 cases h:Flat.agg α with
 | true=>rw [Flat.mo h]; rfl
 | false=>
  have h1:=Flat.mM h x
  have h2:=Flat.one x (Flat.val x) (by rw [h1]; simp)
  rw [h1]
  revert h2
  cases Flat.val x <;> simp [fe,Value.cells]
theorem I6 (cs:List Value) (o:Nat) (v:Value) (r:List Value):eC cs o (v::r)=eC (cs.set o v) (o+1) r:=rfl
theorem yd (off:Nat):∀ (l:List Value) (k:Nat) (cs:Array Value),((l.zipIdx k).foldl (fun (cs:Array Value) q=>cs.setIfInBounds (off+q.2) q.1) cs).toList=eC cs.toList (off+k) l:=by
 intro l
 induction l with
 | nil=>intro k cs; rfl
 | cons v r ih=>
  intro k cs
  rw [List.zipIdx_cons,List.foldl_cons,ih (k+1),I6]
  simp [Nat.add_assoc]
theorem Dx (off:Nat) (l:List Value) (cs:Array Value) :
  (l.toArray.zipIdx.foldl (fun (cs:Array Value) (q:Value × Nat)=>match q with | (c,j)=>cs.setIfInBounds (off+j) c) cs).toList=eC cs.toList off l:=by
 rw [<- Array.foldl_toList]
 have e:(l.toArray.zipIdx).toList=l.zipIdx 0:=by simp
 rw [e]
 exact yd off l 0 cs
theorem Nw:∀ (xs:List α) (k:Nat) (pre B8:List Value),pre.length=k * Flat.sz α->B8.length=xs.length * Flat.sz α->
  Instr.fill (λ i=>some (i * Flat.sz α,Flat.sz α)) (pre++B8).toArray ((xs.zipIdx k).map λ q=>(q.2,Flat.val q.1))=some (pre++flat xs).toArray:=by
 intro xs
 induction xs with
 | nil=>intro k pre B8 _ hm; simp at hm; subst hm; simp [Instr.fill,gQ]
 | cons x xs ih=>
  intro k pre B8 hp hm
  rw [List.zipIdx_cons,List.map_cons]
  unfold Instr.fill
  dsimp only
  have iN:(Flat.val x).cells.size=Flat.sz α:=by rw [lU]; simp [Flat.len]
  have hml:B8.length=xs.length * Flat.sz α+Flat.sz α:=by rw [hm,List.length_cons,Nat.succ_mul]
  rw [if_neg (by simp only [iN,ne_eq,not_true_eq_false,decide_false,Bool.false_or,decide_eq_true_eq,List.size_toArray,List.length_append]; omega)]
  have e:((Flat.val x).cells.zipIdx.foldl (fun (cs:Array Value) (q:Value × Nat)=>match q with | (c,j)=>cs.setIfInBounds (k * Flat.sz α+j) c) (pre++B8).toArray) =
    ((pre++Flat.enc x)++B8.drop (Flat.sz α)).toArray:=by
   apply Array.ext'
   rw [lU,Dx]
   have h1:=iU pre (B8.take (Flat.sz α)) (B8.drop (Flat.sz α)) (Flat.enc x) (by simp [Flat.len]; omega)
   rw [hp] at h1
   rw [<- List.take_append_drop (Flat.sz α) B8] at *
   simpa using h1
  rw [e]
  have:=ih (k+1) (pre++Flat.enc x) (B8.drop (Flat.sz α)) (by rw [List.length_append,hp,Flat.len,Nat.succ_mul]) (by rw [List.length_drop]; omega)
  rw [this,gP,List.append_assoc]
theorem cO {T E by' n:Nat} {parts:List (Nat × Value)} {K:Value->World->Prop} (xs:List α) (hs:St w0 A L w) (ht:Qk P T E (Flat.sz α) by') (hn:xs.length=n)
  (hp:parts=xs.zipIdx.map λ q=>(q.2,Flat.val q.1)) (hl:xs.length * Flat.sz α<=16777216) (k:∀ v w',St w0 A (bJ v xs::L) w'->K v w') :
  gd P (Instr.buildSlice T n parts.toArray) w K:=by
 subst hn
 obtain ⟨hu,inf,hi,iN,nJ,hz⟩:=dz ht
 obtain ⟨zv,hzv,hzs⟩:∃ zv,inf.zero=some zv/\zv.cells.size=Flat.sz α:=by
  cases yZ:inf.zero with
  | none=>rw [yZ] at hz; cases hz
  | some zv=>rw [yZ] at hz; exact ⟨zv,rfl,by simpa using hz⟩
 have es:pr P (sizeOf E)=some (Flat.sz α):=by rw [fX hi,iN]
 have ez:pr P (zeroValue E)=some zv:=by unfold zeroValue; rw [aK,fS hi]; simp only [Option.bind_some,hzv]; rfl
 refine ⟨.slice (some ⟨w.heap.size,0,none⟩) xs.length xs.length,push w (.cells (flat xs).toArray E),?_,k _ _ ?_⟩
 ·have key:∀ z:Array Value,Instr.fill (λ i=>some (i * Flat.sz α,Flat.sz α)) ((Array.range (xs.length * Flat.sz α)).map (z[· % z.size]!)) parts=some (flat xs).toArray:=by
   intro z
   have:=Nw xs 0 [] ((Array.range (xs.length * Flat.sz α)).map (z[· % z.size]!)).toList (by simp) (by simp)
   rw [hp]
   rw [List.nil_append,List.nil_append,Array.toArray_toList] at this
   exact this
  unfold Instr.buildSlice
  rw [aZ (bM (aM hu) w)]
  dsimp only
  rw [aZ (bM es w),if_neg (by omega)]
  by_cases h0:xs.length * Flat.sz α=0
  ·simp only [if_pos h0]
   rw [aZ (run_pure _ w),key]
   rfl
  simp only [if_neg h0]
  rw [aZ (bM ez w),aZ (run_pure _ w),key]
  rfl
 refine hs.new (Ext.push _ _) (F:=λ k=>k=w.heap.size) (.inr ⟨w.heap.size,xs.length,[],rfl,⟨E,?_⟩,⟨Nat.le_refl _,by simp [bZ]⟩,λ _=>Iff.rfl⟩) λ b hb=>by rw [hb]; exact Nat.le_refl _
 rw [List.append_nil]; exact jX _ _
theorem rP (z:α) (n:Nat):(madeCells (Flat.enc z).toArray (n * Flat.sz α)).toList=flat (List.replicate n z):=by
 apply List.ext_getElem?
 intro i
 have uJ:=Flat.pos (α:=α)
 by_cases hi:i<n * Flat.sz α
 ·have h1:i / Flat.sz α<n:=by rw [Nat.div_lt_iff_lt_mul uJ]; exact hi
  have h2:i % Flat.sz α<(Flat.enc z).length:=by rw [Flat.len]; exact Nat.mod_lt _ uJ
  have:=pq (xs:=List.replicate n z) (i:=i / Flat.sz α) (j:=i % Flat.sz α) (x:=z) (c:=(Flat.enc z)[i % Flat.sz α]) (by simp [h1]) (by simp [h2])
  rw [Nat.div_add_mod' i (Flat.sz α)] at this
  rw [this]
  unfold madeCells
  simp [hi,Flat.len]
  rw [Flat.len] at h2
  simp [Flat.len,h2]
 have e1:(madeCells (Flat.enc z).toArray (n * Flat.sz α)).toList[i]? = none:=by
  rw [List.getElem?_eq_none_iff,Array.length_toList,size_madeCells]; omega
 have e2:(flat (List.replicate n z))[i]? = none:=by
  rw [List.getElem?_eq_none_iff,bZ,List.length_replicate]; omega
 rw [e1,e2]
theorem FD {T E by':Nat} {n:Int} {K:Value->World->Prop} (z:α) (hs:St w0 A L w) (ht:Qk P T E (Flat.sz α) by') (hz:jI P E (Flat.val z)) (h0:0<=n) (h1:n<=1073741824) (UX:by'<=8192)
  (k:∀ v w',St w0 A (bJ v (List.replicate n.toNat z)::L) w'->K v w'):gd P (Instr.makeSlice T (.int .i64 n) (.int .i64 n)) w K:=by
 obtain ⟨hu,inf,hi,iN,nJ,_⟩:=dz ht
 unfold jI cH at hz
 rw [hi] at hz
 simp only [Option.map_some,Option.some.injEq] at hz
 have hb:(inf.bytes:Int) * n<=281474976710656:=by
  have h2:(inf.bytes:Int)<=8192:=by omega
  have h3:(inf.bytes:Int) * n<=8192 * n:=Int.mul_le_mul_of_nonneg_right h2 h0
  omega
 have hr:=run_make (P:=P) w T E inf (Flat.val z) hu hi hz .i64 .i64 n n h0 (Int.le_refl _) hb (by omega)
 rw [iN,lU] at hr
 refine ⟨_,_,hr,k _ _ ?_⟩
 refine hs.new (w':=w.alloc (.cells (madeCells (Flat.enc z).toArray (n.toNat * Flat.sz α)) E)) ⟨rfl,rfl,rfl,by simp,λ b hb _=>wZ w _ b hb⟩ (F:=λ k=>k=w.heap.size)
  (.inr ⟨w.heap.size,n.toNat,[],by simp,⟨E,?_⟩,⟨by simp,by rw [List.append_nil,bZ,List.length_replicate]; exact Nat.le_refl _⟩,λ _=>Iff.rfl⟩) λ b hb=>by rw [hb]; exact Nat.le_refl _
 rw [List.append_nil,<- rP]
 have:=jX w (.cells (madeCells (Flat.enc z).toArray (n.toNat * Flat.sz α)) E)
 rw [Array.toArray_toList]
 exact this
def B9 (α:Type) [Flat α] (v:Value) (i:Nat) (p:Value):Prop:=∃ b n c,v = .slice (some ⟨b,0,none⟩) n c/\p = .pointer (some ⟨b,i * Flat.sz α,none⟩)
theorem eS {T E by':Nat} {z:Option Nat} {v:Value} {i:Int} {K:Value->Prop} (hs:St w0 A (bJ v xs::L) w) (ht:cT P T=some (E,Flat.sz α,by',z)) (h0:0<=i) (h1:i<xs.length)
  (k:∀ p,B9 α v i.toNat p->K p):cU P (Instr.indexAt T v (.int .i64 i)) K:=by
 obtain ⟨F,h,_⟩:=hs.head
 rcases h with ⟨rfl,rfl,_⟩ | ⟨b,cap,rest,rfl,hb,hl,_⟩
 ·simp at h1; omega
 obtain ⟨hu,inf,hi,iN,_⟩:=dz ht
 refine ⟨.pointer (some ⟨b,i.toNat * Flat.sz α,none⟩),?_,k _ ⟨b,_,_,rfl,rfl⟩⟩
 unfold Instr.indexAt
 have e1:pr P (underlying T)=some (.slice E):=aM hu
 have e2:pr P (sizeOf E)=some (Flat.sz α):=by rw [fX hi,iN]
 simp only [asIntOf,aK,e1,e2,Option.bind_some,cR]
 simp only [if_pos (show 0<=i/\i<(xs.length:Int) from ⟨h0,h1⟩),aK,e2,Option.bind_some,cR,dK,Nat.zero_add]
theorem nB {v:Value} {F:Nat->Prop} {i:Nat} (h:(bJ v xs).p w F) (hi:i<xs.length):∃ b cap rest,v = .slice (some ⟨b,0,none⟩) xs.length cap/\q9 w b (flat xs++rest)/\(xs.length<=cap/\cap * Flat.sz α<=(flat xs++rest).length)/\∀ k,F k↔k=b:=by
 rcases h with ⟨rfl,rfl,_⟩ | h
 ·simp at hi
 exact h
theorem qj {T:Nat} {v p:Value} {i:Nat} {x:α} {K:Value->Prop} (hs:St w0 A (bJ v xs::L) w) (ht:bT P T=some (Flat.agg α,Flat.sz α)) (hp:B9 α v i p) (hx:xs[i]? = some x) (k:K (Flat.val x)) :
  q7 P (Instr.loadAt T p) w K:=by
 obtain ⟨F,h,_⟩:=hs.head
 obtain ⟨b,cap,rest,hv,hb,hl,_⟩:=nB h (List.getElem?_eq_some_iff.1 hx).1
 obtain ⟨b',n,c,oP,rfl⟩:=hp
 rw [hv] at oP
 simp only [Value.slice.injEq,Option.some.injEq,Addr.mk.injEq] at oP
 obtain ⟨⟨rfl,_,_⟩,_,_⟩:=oP
 refine aF (S:=λ _=>True) ht ⟨b,i * Flat.sz α,rfl,trivial,λ j c hj=>hb.cell ?_⟩ k
 have:=pq hx hj
 rw [List.getElem?_append_left (List.getElem?_eq_some_iff.1 this).1]; exact this
theorem FE {i:Nat} (y:α) (h:i<xs.length):flat (xs.set i y)=flat (xs.take i)++Flat.enc y++flat (xs.drop (i+1)):=by
 rw [List.set_eq_take_append_cons_drop,if_pos h,fJ,gP,List.append_assoc]
theorem uL {i:Nat} {x:α} (h:xs[i]? = some x):flat xs=flat (xs.take i)++Flat.enc x++flat (xs.drop (i+1)):=by
 have hi:=(List.getElem?_eq_some_iff.1 h).1
 have:xs=xs.take i++x::xs.drop (i+1):=by
  rw [<- (List.getElem?_eq_some_iff.1 h).2,List.getElem_cons_drop,List.take_append_drop]
 conv=>lhs; rw [this]
 rw [fJ,gP,List.append_assoc]
theorem I7 {T:Nat} {v p:Value} {i:Nat} {F:Nat->Prop} (y:α) (h:(bJ v xs).p w F) (ht:bT P T=some (Flat.agg α,Flat.sz α)) (hp:B9 α v i p) (hi:i<xs.length) :
  ∃ w',(Instr.storeAt T p (Flat.val y)).run P w = .ok () w'/\(bJ v (xs.set i y)).p w' F/\gM F w w':=by
 obtain ⟨b,cap,rest,hv,hb,hl,hF⟩:=nB h hi
 obtain ⟨b',n,c,oP,rfl⟩:=hp
 rw [hv] at oP
 simp only [Value.slice.injEq,Option.some.injEq,Addr.mk.injEq] at oP
 obtain ⟨⟨rfl,_,_⟩,_,_⟩:=oP
 have hx:xs[i]? = some xs[i]:=by simp [hi]
 have Nx:=uL hx
 have Qn:(flat (xs.take i)).length=i * Flat.sz α:=by rw [bZ,List.length_take,Nat.min_eq_left (by omega)]
 have hlen:i * Flat.sz α+Flat.sz α<=(flat xs).length:=by
  rw [bZ,<- Nat.succ_mul]; exact Nat.mul_le_mul_right _ hi
 obtain ⟨w',h1,h2,h3⟩:=jC (P:=P) (o:=i * Flat.sz α) (Flat.enc y) 0 (flat xs++rest) w hb (by rw [Flat.len,List.length_append]; omega) (Flat.one y)
 have ml:eC (flat xs++rest) (i * Flat.sz α+0) (Flat.enc y)=flat (xs.set i y)++rest:=by
  have:=iU (flat (xs.take i)) (Flat.enc xs[i]) (flat (xs.drop (i+1))++rest) (Flat.enc y) (by rw [Flat.len,Flat.len])
  rw [Qn] at this
  rw [Nat.add_zero,FE y hi,Nx]
  simpa using this
 rw [ml] at h2
 refine ⟨w',?_,.inr ⟨b,cap,rest,by rw [List.length_set]; exact hv,h2,?_,hF⟩,h3.mono λ k hk=>(hF k).2 hk⟩
 ·show (storeVar T ⟨b,i * Flat.sz α,none⟩ (Flat.val y)).run P w=_
  unfold storeVar
  rw [aZ (bM (eD ht).2 w),lU]
  simp only [List.size_toArray,Flat.len,ne_eq,not_true_eq_false,if_false]
  exact h1
 rw [List.length_append,bZ] at hl |-; rw [List.length_set]; exact hl
theorem mc {T:Nat} {v p:Value} {i:Nat} {K:World->Prop} (y:α) (hs:St w0 A (bJ v xs::L) w) (ht:bT P T=some (Flat.agg α,Flat.sz α)) (hp:B9 α v i p) (hi:i<xs.length)
  (k:∀ w',St w0 A (bJ v (xs.set i y)::L) w'->K w'):BT P (Instr.storeAt T p (Flat.val y)) w K:=by
 obtain ⟨U,F,U',h1,h2,h3,h4,h5⟩:=hs.oO
 obtain ⟨w',g1,g2,g3⟩:=I7 y h1 ht hp hi
 refine ⟨w',g1,k w' ⟨hs.aE.trans g3 (λ _ h=>h) λ b hb hf=>(h2 b hf).elim id λ hh=>by omega,U,F,U',g2,h2,h3,h4,h5.loc λ b hb=>g3.cP b (h5.lt b hb) λ hf=>h3 b hf hb⟩⟩
end
end Go.Fw
namespace Go.Fw
section
variable {P:Program} {w w0:World} {A S:Nat->Prop} {L:List HP}
theorem bW {T:TypeId} {b o:Nat} {v:Value} {K:Value->Prop} (ht:Nt P T) (hb:Cell w b o v) (k:K v) :
  q7 P (Instr.loadAt T (.pointer (some ⟨b,o,none⟩))) w K:=⟨v,aD ht hb,k⟩
theorem cZ {α:Type} [Flat α] {T:TypeId} {x:α} {K:Value->World->Prop} (hs:St w0 A L w)
  (k:∀ b w',St w0 A (cP b (Flat.enc x)::L) w'->K (.pointer (some ⟨b,0,none⟩)) w'):gd P (Instr.box T (Flat.val x)) w K:=by
 refine ⟨_,_,yY T _,k _ _ ?_⟩
 rw [lU]
 exact hs.push
theorem KZ {T:Nat} {cx cy:Bool} {a b:Int} {K:Value->Prop} (ha:0<=a) (hb:0<b) (k:K (.int .i64 (a % b))):cU P (fL .rem T cx cy (.int .i64 a) (.int .i64 b)) K:=by
 refine ⟨_,?_,k⟩
 show pr P (Op.intDiv .rem .i64 a b)=_
 unfold Op.intDiv
 rw [if_neg (by omega)]
 show some (Value.int .i64 (a.tmod b))=_
 rw [Int.tmod_eq_emod_of_nonneg ha]
def uM (a b:Int):Int:=((BitVec.ofInt 64 a &&& BitVec.ofInt 64 b).toNat:Int)
theorem zP (a:Int) {b:Int} (h0:0<=b) (h1:b<=9223372036854775807):0<=uM a b/\uM a b<=b:=by
 unfold uM
 refine ⟨by omega,?_⟩
 have h2:(BitVec.ofInt 64 a &&& BitVec.ofInt 64 b).toNat<=(BitVec.ofInt 64 b).toNat:=by
  rw [BitVec.toNat_and]; exact Nat.and_le_right
 have h3:((BitVec.ofInt 64 b).toNat:Int)=b:=by
  rw [BitVec.toNat_ofInt]
  have:b % (2 ^ 64:Int)=b:=Int.emod_eq_of_lt h0 (by omega)
  show ((b % ((2 ^ 64:Nat):Int)).toNat:Int)=b
  rw [show (((2 ^ 64:Nat):Int))=(2 ^ 64:Int) from by norm_cast,this]
  omega
 omega
theorem VL {T:Nat} {cx cy:Bool} {a b:Int} {K:Value->Prop} (h0:0<=b) (h1:b<=9223372036854775807) (k:K (.int .i64 (uM a b))):cU P (fL .and T cx cy (.int .i64 a) (.int .i64 b)) K:=by
 refine ⟨_,?_,k⟩
 show some (Value.int .i64 (IntKind.i64.wrap ((BitVec.ofInt 64 a &&& BitVec.ofInt 64 b).toNat:Int)))=_
 have:=zP a h0 h1
 unfold uM at this |-
 rw [IntWalk.i64_in _ (by omega)]
theorem uh {T:Nat} {a b:Bool} (h:P.underlying T=some .bool):pr P (Op.equal T (.bool a) (.bool b))=some (a == b):=by
 show pr P (Op.equalIn 10000 T (.bool a) (.bool b))=_
 unfold Op.equalIn
 rw [aK,aM h]
 rfl
theorem vB {T:Nat} {cx cy:Bool} {a b:Bool} {K:Value->Prop} (h:P.underlying T=some .bool) (k:K (.bool (a == b))):cU P (fL .eql T cx cy (.bool a) (.bool b)) K:=by
 refine ⟨_,?_,k⟩
 show pr P (do pure (Value.bool (<- Op.equal T (.bool a) (.bool b))))=_
 rw [m8,uh h]; rfl
theorem Dy {T e:Nat} {p:Option Addr} (h:P.underlying T=some (.pointer e)):pr P (Op.equal T (.pointer p) (.pointer none))=some p.isNone:=by
 show pr P (Op.equalIn 10000 T (.pointer p) (.pointer none))=_
 unfold Op.equalIn
 rw [aK,aM h]
 cases p <;> rfl
theorem px {T e:Nat} {cx cy:Bool} {p:Option Addr} {K:Value->Prop} (h:P.underlying T=some (.pointer e)) (k:K (.bool p.isNone)):cU P (fL .eql T cx cy (.pointer p) (.pointer none)) K:=by
 refine ⟨_,?_,k⟩
 show pr P (do pure (Value.bool (<- Op.equal T (.pointer p) (.pointer none))))=_
 rw [m8,Dy h]; rfl
theorem BD {T e:Nat} {a:Option Addr} {n c:Nat} (h:P.underlying T=some (.slice e)) (ha:a=none->n=0/\c=0):pr P (Op.equal T (.slice a n c) (.slice none 0 0))=some a.isNone:=by
 show pr P (Op.equalIn 10000 T (.slice a n c) (.slice none 0 0))=_
 unfold Op.equalIn
 rw [aK,aM h]
 cases a <;> rfl
theorem Qo {T e:Nat} {cx cy:Bool} {a:Option Addr} {n c:Nat} {K:Value->Prop} (h:P.underlying T=some (.slice e)) (ha:a=none->n=0/\c=0) (k:K (.bool a.isNone)):cU P (fL .eql T cx cy (.slice a n c) (.slice none 0 0)) K:=by
 refine ⟨_,?_,k⟩
 show pr P (do pure (Value.bool (<- Op.equal T (.slice a n c) (.slice none 0 0))))=_
 rw [m8,BD h ha]; rfl
def ko:TypeDesc->Option Nat
 | .int .i64=>some 0
 | .bool=>some 1
 | .string=>some 2
 | _=>none
def jj:Value->Option Nat
 | .int .i64 _=>some 0
 | .bool _=>some 1
 | .string _=>some 2
 | _=>none
def eqV:Value->Value->Bool
 | .int _ a,.int _ b=>decide (a=b)
 | .bool a,.bool b=>a == b
 | .string a,.string b=>a == b
 | _,_=>false
def lR:List Value->List Value->Bool
 | a::x,b::y=>eqV a b && lR x y
 | _,_=>true
def kK (P:Program):Nat->List Field->Option (List Nat)
 | _,[]=>some []
 | k,f::fs=>
  if f.name ≠ "_" /\ f.offset = k then
   match P.underlying f.type with
   | some d=>match ko d,kK P (k+1) fs with
    | some n,some r=>some (n::r)
    | _,_=>none
   | none=>none
  else none
def oQ (P:Program) (T:TypeId):Option (List Nat):=
 match P.underlying T with
 | some (.struct fs)=>if P.stoodInHeld T=false/\P.eqGuardType P.depth T=false then kK P 0 fs.toList else none
 | _=>none
def I8 (d:Nat) (xs ys:Array Value):List Field->Sem Bool
 | []=>pure true
 | f :: r => if f.name ≠ "_" then do
   let same <- Op.equalIn d f.type (<- part f.type xs f.offset) (<- part f.type ys f.offset)
   if (!same)=true then pure false else I8 d xs ys r
  else I8 d xs ys r
theorem yI {T:TypeId} {d:TypeDesc} {n:Nat} (h:P.underlying T=some d) (hs:ko d=some n):pr P (isAgg T)=some false:=by
 unfold isAgg
 rw [aK,aM h]
 cases d <;> simp [ko] at hs <;> rfl
theorem Dz {T:TypeId} {d:TypeDesc} {n o:Nat} {cs:Array Value} {v:Value} (h:P.underlying T=some d) (hs:ko d=some n) (hv:cs[o]? = some v):pr P (part T cs o)=some v:=by
 unfold part
 rw [aK,yI h hs]
 simp only [Option.bind_some,Bool.false_eq_true,if_false,hv]
 rfl
theorem ye {k:Nat} {T:TypeId} {d:TypeDesc} {n:Nat} {a b:Value} (h:P.underlying T=some d) (hs:ko d=some n) (ha:jj a=some n) (hb:jj b=some n) :
  pr P (Op.equalIn (k+1) T a b)=some (eqV a b):=by
 unfold Op.equalIn
 rw [aK,aM h]
 simp only [Option.bind_some]
 cases d <;> simp only [ko] at hs <;> try (cases hs; done)
 case int kd=>
  cases kd <;> simp at hs
  subst hs
  cases a <;> simp only [jj] at ha <;> try (cases ha; done)
  rename_i ka na
  cases b <;> simp only [jj] at hb <;> try (cases hb; done)
  rename_i kb nb
  cases ka <;> simp at ha
  cases kb <;> simp at hb
  rfl
 case bool=>
  cases hs
  cases a <;> simp only [jj] at ha <;> first | (rename_i ka na; cases ka <;> simp at ha) | skip
  all_goals try (simp at ha; done)
  cases b <;> simp only [jj] at hb <;> first | (rename_i kb nb; cases kb <;> simp at hb) | skip
  all_goals try (simp at hb; done)
  rfl
 case string=>
  cases hs
  cases a <;> simp only [jj] at ha <;> first | (rename_i ka na; cases ka <;> simp at ha) | skip
  all_goals try (simp at ha; done)
  cases b <;> simp only [jj] at hb <;> first | (rename_i kb nb; cases kb <;> simp at hb) | skip
  all_goals try (simp at hb; done)
  rfl
theorem FG {k:Nat} {xs ys:List Value}:∀ (fs:List Field) (i:Nat) (ks:List Nat),kK P i fs=some ks->(∀ j n,ks[j]? = some n->∃ a b,xs[i+j]? = some a/\ys[i+j]? = some b/\jj a=some n/\jj b=some n)->
  pr P (I8 (k+1) xs.toArray ys.toArray fs)=some (lR ((xs.drop i).take ks.length) ((ys.drop i).take ks.length)):=by
 intro fs
 induction fs with
 | nil=>intro i ks h _; simp only [kK,Option.some.injEq] at h; subst h; simp [I8,lR]; rfl
 | cons f fs ih=>
  intro i ks h hk
  unfold kK at h
  split at h
  ·rename_i hf
   cases hu:P.underlying f.type with
   | none=>rw [hu] at h; cases h
   | some d=>
    rw [hu] at h
    dsimp only at h
    cases hd:ko d with
    | none=>rw [hd] at h; cases h
    | some n=>
     rw [hd] at h
     cases hr:kK P (i+1) fs with
     | none=>rw [hr] at h; cases h
     | some r=>
      rw [hr] at h
      simp only [Option.some.injEq] at h
      subst h
      obtain ⟨a,b,ha,hb,ka,kb⟩:=hk 0 n rfl
      rw [Nat.add_zero] at ha hb
      have hxd:xs.drop i=a::xs.drop (i+1):=by
       rw [<- List.getElem_cons_drop (List.getElem?_eq_some_iff.1 ha).1,(List.getElem?_eq_some_iff.1 ha).2]
      have hyd:ys.drop i=b::ys.drop (i+1):=by
       rw [<- List.getElem_cons_drop (List.getElem?_eq_some_iff.1 hb).1,(List.getElem?_eq_some_iff.1 hb).2]
      have ih':=ih (i+1) r hr λ j m hj=>by
       obtain ⟨a',b',h1,h2,h3,h4⟩:=hk (j+1) m (by simpa using hj)
       exact ⟨a',b',by rwa [show i+1+j=i+(j+1) from by omega],by rwa [show i+1+j=i+(j+1) from by omega],h3,h4⟩
      unfold I8
      rw [if_pos hf.1,aK,Dz hu hd (v:=a) (by rw [hf.2]; simpa using ha)]
      simp only [Option.bind_some]
      rw [aK,Dz hu hd (v:=b) (by rw [hf.2]; simpa using hb)]
      simp only [Option.bind_some]
      rw [aK,ye hu hd ka kb]
      simp only [Option.bind_some,List.length_cons,hxd,hyd,List.take_succ_cons,lR]
      cases he:eqV a b with
      | false=>rfl
      | true=>simp only [Bool.not_true,Bool.false_eq_true,if_false,Bool.true_and]; exact ih'
  ·cases h
theorem vC {d:Nat} {t:TypeId} {fs:Array Field} {xs ys:Array Value} (ht:P.underlying t=some (.struct fs)) (hp:P.stoodInHeld t=false) :
  pr P (Op.equalIn (d+1) t (.agg xs) (.agg ys))=pr P (I8 d xs ys fs.toList):=by
 unfold Op.equalIn
 rw [aK,aM ht]
 simp only [Option.bind_some,aK]
 rw [show pr P program=some P from rfl]
 simp only [Option.bind_some,hp,Bool.false_eq_true,if_false]
 rw [<- Array.forIn_toList]
 generalize fs.toList=l
 clear ht
 induction l with
 | nil=>rfl
 | cons f l ih=>
  rw [aK] at ih
  simp only [List.forIn_cons,I8,aK]
  split
  ·simp only [aK]
   cases pr P (part f.type xs f.offset) with
   | none=>rfl
   | some a=>
    simp only [Option.bind_some]
    cases pr P (part f.type ys f.offset) with
    | none=>rfl
    | some b=>
     simp only [Option.bind_some]
     cases pr P (Op.equalIn d f.type a b) with
     | none=>rfl
     | some r=>
      cases r
      ·rfl
      ·simp only [Option.bind_some,Bool.not_true,Bool.false_eq_true,if_false,cR]
       exact ih
  ·simp only [cR,Option.bind_some]
   exact ih
theorem qk {T:TypeId} {ks:List Nat} {xs ys:List Value} (h:oQ P T=some ks) (hx:xs.map jj=ks.map some) (hy:ys.map jj=ks.map some) :
  pr P (Op.equal T (.agg xs.toArray) (.agg ys.toArray))=some (lR xs ys)/\P.eqGuardType P.depth T=false:=by
 unfold oQ at h
 split at h
 ·rename_i fs hfs
  split at h
  ·rename_i hc
   refine ⟨?_,hc.2⟩
   show pr P (Op.equalIn 10000 T _ _)=_
   rw [vC hfs hc.1]
   have hlx:xs.length=ks.length:=by have:=congrArg List.length hx; simpa using this
   have hly:ys.length=ks.length:=by have:=congrArg List.length hy; simpa using this
   rw [FG (xs:=xs) (ys:=ys) fs.toList 0 ks h λ j n hj=>?_]
   ·simp only [List.drop_zero]
    rw [List.take_of_length_le (by omega),List.take_of_length_le (by omega)]
   have Vk:j<ks.length:=(List.getElem?_eq_some_iff.1 hj).1
   refine ⟨xs[j]'(by omega),ys[j]'(by omega),by simp,by simp,?_,?_⟩
   ·have:=congrArg (λ l=>l[j]?) hx
    simp only [List.getElem?_map,hj,Option.map_some] at this
    rw [List.getElem?_eq_getElem (by omega)] at this
    simpa using this
   have:=congrArg (λ l=>l[j]?) hy
   simp only [List.getElem?_map,hj,Option.map_some] at this
   rw [List.getElem?_eq_getElem (by omega)] at this
   simpa using this
  cases h
 cases h
theorem Ca {T:Nat} {cx cy:Bool} {ks:List Nat} {xs ys:List Value} {K:Value->Prop} (h:oQ P T=some ks) (hx:xs.map jj=ks.map some) (hy:ys.map jj=ks.map some) (k:K (.bool (lR xs ys))) :
  cU P (fL .eql T cx cy (.agg xs.toArray) (.agg ys.toArray)) K:=by
 obtain ⟨h1,h2⟩:=qk h hx hy
 refine ⟨_,?_,k⟩
 show pr P (if P.eqGuardType P.depth T = true then stuck "an interface in a part" else (do pure (Value.bool (<- Op.equal T (.agg xs.toArray) (.agg ys.toArray))) : Sem Value)) = _
 rw [h2,if_neg (by simp),m8,h1]; rfl
theorem Cb {T:Nat} {cx cy:Bool} {ks:List Nat} {xs ys:List Value} {K:Value->Prop} (h:oQ P T=some ks) (hx:xs.map jj=ks.map some) (hy:ys.map jj=ks.map some) (k:K (.bool (!lR xs ys))) :
  cU P (fL .neq T cx cy (.agg xs.toArray) (.agg ys.toArray)) K:=by
 obtain ⟨h1,h2⟩:=qk h hx hy
 refine ⟨_,?_,k⟩
 show pr P (if P.eqGuardType P.depth T = true then stuck "an interface in a part" else (do pure (Value.bool (!(<- Op.equal T (.agg xs.toArray) (.agg ys.toArray)))) : Sem Value)) = _
 rw [h2,if_neg (by simp),m8 _ (λ b=>Value.bool (!b)),h1]; rfl
theorem Cc {T:Nat} {cx cy:Bool} {ks:List Nat} {xs ys:List Value} {K:Value->Prop} {p:Prop} [Decidable p] (h:oQ P T=some ks) (hx:xs.map jj=ks.map some) (hy:ys.map jj=ks.map some)
  (hp:lR xs ys=decide p) (k:K (.bool (decide p))):cU P (fL .eql T cx cy (.agg xs.toArray) (.agg ys.toArray)) K:=Ca h hx hy (hp▸k)
theorem Cd {T:Nat} {cx cy:Bool} {ks:List Nat} {xs ys:List Value} {K:Value->Prop} {p:Prop} [Decidable p] (h:oQ P T=some ks) (hx:xs.map jj=ks.map some) (hy:ys.map jj=ks.map some)
  (hp:lR xs ys=decide p) (k:K (.bool (decide (¬ p)))):cU P (fL .neq T cx cy (.agg xs.toArray) (.agg ys.toArray)) K:=Cb h hx hy (by rw [hp]; by_cases h:p <;> simp_all)
end
end Go.Fw
