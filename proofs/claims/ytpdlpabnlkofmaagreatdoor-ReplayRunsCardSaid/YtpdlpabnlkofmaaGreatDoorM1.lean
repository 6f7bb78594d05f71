/-
  Part 1.
-/
import Derived.Test.YtpdlpabnlkofmaaGreatDoorProg
import Derived.Orders
import Derived.Tactics
import Derived.OrdersIn
import Derived.TacticsIn
import Derived.RangeFuncSeq
import Derived.RangeFuncLeaves
import Derived.Laws.Sem
import Derived.KernelRfl
import Derived.Below
import Derived.IntWalk
import Derived.Laws.AppendOwn
import Derived.Laws.MakeOwn
import Derived.WalkKit
import Derived.ProofKit
import Derived.OpenShut
import Derived.ChangeCalls
import Derived.Laws.Strings
import Derived.Lib.ConvBytes
import Derived.MapKept
import Derived.Maps.RangeRun
import Derived.Lib.AppendZeros
import Derived.LaidMore
import Derived.Lay
import Derived.SevenTiedAt
import Derived.Stop.Joined
set_option maxHeartbeats 8000000
set_option linter.all false
set_option maxRecDepth 100000
namespace Go.Fw
abbrev Env:=Nat->Value
def ev(e:Env):Operand->Value
 | .tmp t=>e t
 | .const v=>v
 | .global g=>.pointer (some ⟨g,0,none⟩)
 | .func f=>.func (.func f) #[] #[]
def zy(e:Env)(d:Nat)(v:Value):Env:=λ i=>bif Nat.beq i d then v else e i
def jO(e:Env)(d:Option Nat)(v:Value):Env:=match d with|some d=>zy e d v|none=>e
theorem nh(e:Env)(d:Nat)(v:Value):zy e d v d=v:=by simp[zy]
theorem ox(e:Env){d i:Nat}(v:Value)(h:i≠d):zy e d v i=e i:=by
 have:Nat.beq i d=false:=by
  cases hh:Nat.beq i d
  ·rfl
  simp_all
 simp[zy,this]
theorem UW(e:Env){d d':Nat}(v v':Value)(h:d≠d'):zy (zy e d v) d' v'=zy (zy e d' v') d v:=by
 funext i
 by_cases h1:i=d
 ·subst h1;rw[ox _ _ h,nh,nh]
 by_cases h2:i=d'
 ·subst h2;rw[nh,ox _ _ h1,nh]
 rw[ox _ _ h2,ox _ _ h1,ox _ _ h1,ox _ _ h2]
theorem agL(e:Env)(d:Nat)(v:Value)(h:e d=v):zy e d v=e:=by
 funext i
 by_cases h1:i=d
 ·subst h1;rw[nh,h]
 rw[ox _ _ h1]
def mark(D:Nat):Deferred:={target:=.collected D,args:=#[]}
structure jt(ds:List Nat)(n:Nat)(e:Env)(a:Act):Prop where
 defers:a.defers=ds.map mark
 size:a.tmps.size=n
 get:∀i,a.tmps.getD i undef=e i
theorem jt.eval{ds:List Nat}{n:Nat}{e:Env}{a:Act}(h:jt ds n e a):a.eval=ev e:=by
 funext x
 cases x<;>simp[Act.eval,ev]
 case tmp t=>simpa using h.get t
theorem jt.put{ds:List Nat}{n:Nat}{e:Env}{a:Act}(h:jt ds n e a){d:Option Nat}(hd:∀k,d=some k->k<n)(v:Value) :
  jt ds n (jO e d v) (a.put d v):=by
 cases d with
 | none=>exact h
 | some d=>
  have hd:=hd d rfl
  refine⟨h.defers,by simp[Act.put,h.size],λ i=>?_⟩
  have hg:=h.get i
  simp only[Act.put,jO,Array.getD_eq_getD_getElem?]at *
  by_cases hi:i=d
  ·subst hi
   rw[Array.getElem?_setIfInBounds_self_of_lt (by rw[h.size];exact hd),nh]
   rfl
  ·rw[Array.getElem?_setIfInBounds_ne (Ne.symm hi),ox _ _ hi]
   exact hg
def pr(P:Program){α:Type}:Sem α->Option α
 | .pure a=>some a
 | .program k=>pr P (k P)
 | .mark _ k=>pr P k
 | _=>none
theorem fS{P:Program}{α:Type}{m:Sem α}{v:α}(h:pr P m=some v)(w:World):m.run P w=.ok v w:=by
 induction m with
 | pure a=>simp only[pr,Option.some.injEq]at h;simp_all
 | program k ih=>exact ih P h
 | mark x k ih=>exact ih h
 | _=>simp[pr]at h
theorem fM{P:Program}{α:Type}(a:α):pr P (pure a:Sem α)=some a:=rfl
theorem cX{P:Program}{α β:Type}(m:Sem α)(f:α->Sem β):pr P (m >>= f)=(pr P m).bind λ a=>pr P (f a):=by
 show pr P (m.bind f)=_
 induction m with
 | pure a=>rfl
 | program k ih=>exact ih P
 | mark x k ih=>exact ih
 | _=>rfl
theorem eH{P:Program}{α β:Type}{m:Sem α}{f:α->Sem β}{w w':World}{a:α}(h:m.run P w=.ok a w') :
  (m >>= f).run P w=(f a).run P w':=by simp_all
theorem run_pure{P:Program}{α:Type}(a:α)(w:World):(pure a:Sem α).run P w=.ok a w:=rfl
abbrev FO(r:Option Nat):Fence:={Fence.wide with round:=r}
theorem Dm{r:Option Nat}{p:Prop}:(FO r).depth.isSome=true->p:=λ h=>by cases h
theorem yC{r:Option Nat}{n:Nat}{P:Program}{f:FuncId}{args:Array Value}{w:World}{R:Ending->World->Prop}:CallsIn (FO r) n P f args w R↔Calls P f args w R:=
 callsIn_wide (n:=n)
def tX(K:Value->World->Prop):Ending->World->Prop:=λ e w=>∃v,e=.returned v/\K v w
theorem tX.mono{K K':Value->World->Prop}{e:Ending}{w:World}(h:tX K e w)(k:∀v w,K v w->K' v w):tX K' e w:=
 let ⟨v,he,hk⟩:=h;⟨v,he,k _ _ hk⟩
def Plain(P : Program)(f : FuncId) : Prop := ∃fn, P.funcs[f]?=some fn /\ (fn.name == "runtime.NumGoroutine")=false /\ fn.body.isNone=false
theorem zC{P:Program}{f:FuncId}(h:Plain P f)(args:Array Value)(w:World) :
  (callFunc f args).run P w=.ok (.enter f args) w:=by
 obtain⟨fn,h1,h2,h3⟩:=h
 show(match P.funcs[f]? with|none=>_|some fn=>_:Sem Next).run P w=_
 rw[h1]
 simp[h2,h3]
structure eN(P:Program)(m:Sem Value)(K:Value->Prop):Prop where
 ex:∃v,pr P m=some v/\K v
structure JB(P:Program)(m:Sem Value)(w:World)(K:Value->Prop):Prop where
 ex:∃v,m.run P w=.ok v w/\K v
structure rC(P:Program)(m:Sem Value)(w:World)(K:Value->World->Prop):Prop where
 ex:∃v w',m.run P w=.ok v w'/\K v w'
structure Uz(P:Program)(m:Sem Unit)(w:World)(K:World->Prop):Prop where
 ex:∃w',m.run P w=.ok () w'/\K w'
structure B2(P:Program)(f:FuncId)(args:List Value)(w:World)(K:Value->World->Prop):Prop where
 ex:(Plain P f/\Calls P f args.toArray w (tX K))\/∃v w',(callFunc f args.toArray).run P w=.ok (.value v) w'/\K v w'
structure kq(P:Program)(fv:Value)(args:List Value)(w:World)(K:Value->World->Prop):Prop where
 ex:(∃g first cap,fv=.func (.func g) first cap/\Plain P g/\Calls P g (first++args.toArray++cap) w (tX K))\/
  ∃l,fv=.func (.yield l) #[] #[]/\YieldAt (FO none) 0 P l args.toArray w (tX K)
structure yb(v:Value)(A B:Prop):Prop where
 ex:∃t,v=.bool t/\(t=true->A)/\(t=false->B)
structure Qr(P:Program)(m:Sem Value)(v:Value)(w:World)(R:Prop):Prop where
 alw:m.run P w=.ok v w
 rest:R
inductive Dn where
 | val (v:Value)
 | p (m:Sem Value)
 | q (m:Sem Value)
 | e (m:Sem Value)
 | u (m:Sem Unit)
 | call (f:FuncId) (args:List Value)
 | Qs (fv:Value) (args:List Value)
 | bad
def UA:Operand->Bool|.const _=>true|_=>false
def SJ:Value->Sem Value
 | .pointer none|.nilIface|.nilFunc => stuck "nil"
 | .func (.method _) _ _ => stuck "method"
 | x=>pure x
def UX(c a b:Value):Sem Value:=do pure (if <- asBool c then a else b)
def aaW(op:BinOp)(t:TypeId)(cx cy:Bool)(a b:Value):Sem Value:=
 match a,b with
 | .nilIface, .nilIface => if cx||cy then binOp op t a b else stuck "two nil interfaces"
 | .agg _, .agg _ => .program λ p => if p.eqGuardType p.depth t then stuck "an interface in a part" else binOp op t a b
 | _,_=>binOp op t a b
def jz(op:BinOp)(t:TypeId)(cx cy:Bool)(a b:Value):Sem Value:=
 match op with
 | .eql=>aaW .eql t cx cy a b
 | .neq=>aaW .neq t cx cy a b
 | op=>binOp op t a b
def aaX(P:Program)(op:BinOp)(t:TypeId)(x y:Operand):Bool:=
 match op with
 | .eql|.neq=>match P.underlying t with
  | some (.pointer _)|some .unsafePointer=>!(UA x||UA y)
  | _=>false
 | _=>false
def isMap(P:Program)(t:TypeId):Bool:=match P.underlying t with|some (.map _ _)|some (.chan _ _)=>true|_=>false
def alx(P:Program)(s d:TypeId):Nat:=
 match P.underlying d with
 | some (.slice _)=>2
 | some .string=>match P.underlying s with|some (.slice _)=>1|_=>0
 | _=>0
def zD(P:Program)(o:Oper)(ρ:Operand->Value):Dn:=
 match o.op with
 | .move x|.assign x=>.val (ρ x)
 | .pick c a b=>.p (UX (ρ c) (ρ a) (ρ b))
 | .alloc t=>.e (Instr.alloc t true (.tuple #[]))
 | .box t x=>.e (Instr.box t (ρ x))
 | .build t parts=>.p (Instr.build t (parts.toList.map λ q=>(q.1,ρ q.2)).toArray)
 | .buildSlice t n parts=>.e (Instr.buildSlice t n (parts.toList.map λ q=>(q.1,ρ q.2)).toArray)
 | .load t a=>.q (Instr.loadAt t (ρ a))
 | .store t a x=>.u (Instr.storeAt t (ρ a) (ρ x))
 | .nilCheck x=>.p (SJ (ρ x))
 | .binOp op t x y _=>if aaX P op t x y then .q (jz op t (UA x) (UA y) (ρ x) (ρ y))else .p (jz op t (UA x) (UA y) (ρ x) (ρ y))
 | .unOp op _ x=>.p (Op.unary op (ρ x))
 | .convert s d x=>match alx P s d with|0=>.p (convert s d (ρ x))|1=>.q (convert s d (ρ x))|_=>.e (convert s d (ρ x))
 | .makeInterface t x=>.q (Instr.makeInterface t (ρ x))
 | .makeFunc fn first cap=>.val (.func fn (first.toList.map ρ).toArray (cap.toList.map ρ).toArray)
 | .makeMap t r=>.e (Instr.makeMap t (r.map ρ))
 | .makeSlice t l c=>.e (Instr.makeSlice t (ρ l) (ρ c))
 | .slice t x lo hi mx=>.p (Instr.sliceAt t (ρ x) (lo.map ρ) (hi.map ρ) (mx.map ρ))
 | .fieldAddr s x f=>.p (Instr.fieldAt s (ρ x) f)
 | .field t x f=>.p (Instr.field t (ρ x) f)
 | .indexAddr t x i=>.p (Instr.indexAt t (ρ x) (ρ i))
 | .index t x i=>.p (Instr.index t (ρ x) (ρ i))
 | .lookup t x i ok=>.q (Instr.lookup t (ρ x) (ρ i) ok)
 | .mapUpdate t m k x|.insert t m k x=>.u (Instr.mapUpdate t (ρ m) (ρ k) (ρ x))
 | .mapEntry t m k=>.e (Instr.mapEntry t (ρ m) (ρ k))
 | .entryStore t m s x=>.u (Instr.entryStore t (ρ m) (ρ s) (ρ x))
 | .range t x=>.e (Instr.range t (ρ x))
 | .next it s=>.e (Instr.next (ρ it) s o.type)
 | .entry it=>.q (Instr.entry (ρ it))
 | .typeAssert x t u ok=>.q (Instr.typeAssert (ρ x) t u ok)
 | .extract t i=>.p (Instr.extract (ρ t) i)
 | .call c=>
  match c.callee with
  | .value (.func f)=>.call f (c.args.toList.map ρ)
  | .value x=>.Qs (ρ x) (c.args.toList.map ρ)
  | .invoke ..=>.bad
  | .builtin b=>
   match b with
   | .len=>if isMap P (c.argTypes.getD 0 0)then .q (Builtin.len_ c.argTypes o.type (c.args.toList.map ρ).toArray)else .p (Builtin.len_ c.argTypes o.type (c.args.toList.map ρ).toArray)
   | .cap=>.p (Builtin.cap_ c.argTypes o.type (c.args.toList.map ρ).toArray)
   | .min=>.p (Builtin.min_ c.argTypes o.type (c.args.toList.map ρ).toArray)
   | .max=>.p (Builtin.max_ c.argTypes o.type (c.args.toList.map ρ).toArray)
   | .append=>.e (Builtin.append_ c.argTypes o.type (c.args.toList.map ρ).toArray)
   | .copy=>.e (Builtin.copy_ c.argTypes o.type (c.args.toList.map ρ).toArray)
   | .clear=>.e (Builtin.clear_ c.argTypes o.type (c.args.toList.map ρ).toArray)
   | .delete=>.e (Builtin.delete_ c.argTypes o.type (c.args.toList.map ρ).toArray)
   | _=>.bad
 | _=>.bad
def Gd(P:Program)(k:Dn)(K:Value->World->Prop)(w:World):Prop:=
 match k with
 | .val v=>K v w
 | .p m=>eN P m (λ v=>K v w)
 | .q m=>JB P m w (λ v=>K v w)
 | .e m=>rC P m w K
 | .u m=>Uz P m w (λ w'=>K undef w')
 | .call f args=>B2 P f args w K
 | .Qs fv args=>kq P fv args w K
 | .bad=>False
def Dn.quiet:Dn->Bool
 | .val _|.p _|.q _=>true
 | _=>false
def Dn.reads:Dn->Bool
 | .q _=>true
 | _=>false
def Dn.has(P:Program)(k:Dn)(w:World)(v:Value):Prop:=
 match k with
 | .val x=>x=v
 | .p m=>pr P m=some v
 | .q m=>m.run P w=.ok v w
 | _=>False
theorem Gd.has{P:Program}{k:Dn}{K:Value->World->Prop}{w:World}(hq:k.quiet=true)(h:Gd P k K w):∃v,k.has P w v/\K v w:=by
 cases k<;>simp only[Dn.quiet,Bool.false_eq_true]at hq<;>simp only[Gd]at h
 case val v=>exact⟨v,rfl,h⟩
 case p m=>exact h.ex
 case q m=>exact h.ex
theorem Dn.SK{P:Program}{k:Dn}{w w':World}{v:Value}(hr:k.reads=false)(h:k.has P w v):k.has P w' v:=by
 cases k<;>simp only[Dn.has,Dn.reads,Bool.true_eq_false]at *
 ·exact h
 exact h
theorem Gd.UY{P:Program}{k:Dn}{K:Value->World->Prop}{w:World}{v:Value}(h:k.has P w v)(hk:K v w):Gd P k K w:=by
 cases k<;>simp only[Dn.has]at h<;>simp only[Gd]
 case val u=>grind
 case p m=>exact⟨v,h,hk⟩
 case q m=>exact⟨v,h,hk⟩
theorem Gd.mono{P:Program}{k:Dn}{K K':Value->World->Prop}{w:World}(h:Gd P k K w)(hk:∀v w,K v w->K' v w):Gd P k K' w:=by
 cases k<;>simp only[Gd]at *
 case val v=>grind
 case p m=>exact⟨let ⟨v,a,b⟩:=h.ex;⟨v,a,hk _ _ b⟩⟩
 case q m=>exact⟨let ⟨v,a,b⟩:=h.ex;⟨v,a,hk _ _ b⟩⟩
 case e m=>exact⟨let ⟨v,w',a,b⟩:=h.ex;⟨v,w',a,hk _ _ b⟩⟩
 case u m=>exact⟨let ⟨w',a,b⟩:=h.ex;⟨w',a,hk _ _ b⟩⟩
 case call f args=>
  rcases h.ex with⟨a,b⟩|⟨v,w',a,b⟩
  ·exact⟨.inl ⟨a,b.mono λ e w' r=>r.mono hk⟩⟩
  ·exact⟨.inr ⟨v,w',a,hk _ _ b⟩⟩
 case Qs fv args=>
  rcases h.ex with⟨g,f,c,a,b,d⟩|⟨l,a,fn,t,s,b,c,d⟩
  ·exact⟨.inl ⟨g,f,c,a,b,d.mono λ e w' r=>r.mono hk⟩⟩
  ·exact⟨.inr ⟨l,a,fn,t,s,b,c,d.mono λ e w' r=>r.mono hk⟩⟩
theorem tY{r:Option Nat}{P:Program}{o:Oper}{a:Act}{w:World}:∀f,o.about P w a.eval=some f->(FO r).fn f:=λ _ _=>trivial
theorem JJ{r:Option Nat}{P:Program}{o:Oper}{a:Act}{next:Act->World->Prop}{Q:Exit->Act->World->Prop}{f:FuncId}{args:Array Value}{w:World}
  {K:Value->World->Prop}(h:Calls P f args w (tX K)) (hk:∀v w',K v w'->next (a.put o.dst v) w'):o.uponIn (FO r) 0 P a next Q (.ok (.enter f args) w):=by
 rw[Oper.uponIn_enter]
 refine⟨Dm,yC.2 (h.mono λ e w' ⟨v,he,hv⟩=>?_)⟩
 grind
theorem FK{r:Option Nat}{P:Program}{o:Oper}{a:Act}{next:Act->World->Prop}{Q:Exit->Act->World->Prop}{l:Nat}{f:FuncId}{tmps:Array Value}{assign body:Code}{w:World}
  {K:Value->World->Prop}(h:RoundIn (FO none) 0 P l f tmps assign body w (tX K)) (hk:∀v w',K v w'->next (a.put o.dst v) w'):o.uponIn (FO r) 0 P a next Q (.ok (.round l f tmps assign body) w):=by
 rw[Oper.uponIn_round]
 refine⟨Dm,?_⟩
 have h':RoundIn (FO r) 0 P l f tmps assign body w (tX K):=h
 refine h'.mono λ e w' ⟨v,he,hv⟩=>?_
 grind
theorem kr{r:Option Nat}{P:Program}{o:Oper}{a:Act}{next:Act->World->Prop}{Q:Exit->Act->World->Prop}{w w':World}{v:Value}(JC:∀c,o.op≠.defer c)
  (h:(execOp a.eval o).run P w=.ok (.value v) w') (hk:next (a.put o.dst v) w'):o.wpIn (FO r) 0 P a w next Q:=by
 unfold Oper.wpIn;rw[Oper.semAt_eq _ _ _ JC,h,Oper.uponIn_value];exact⟨tY,hk⟩
theorem NI{r:Option Nat}{P:Program}{o:Oper}{a:Act}{next:Act->World->Prop}{Q:Exit->Act->World->Prop}{w w':World}(JC:∀c,o.op≠.defer c)
  (h:(execOp a.eval o).run P w=.ok .skip w') (hk:next (a.put o.dst undef) w'):o.wpIn (FO r) 0 P a w next Q:=by
 unfold Oper.wpIn;rw[Oper.semAt_eq _ _ _ JC,h,Oper.uponIn_skip];exact⟨tY,hk⟩
theorem JK{P:Program}{m:Sem Value}{w w':World}{v:Value}(h:m.run P w=.ok v w') :
  (do pure (.value (<- m)):Sem Next).run P w=.ok (.value v) w':=by simp_all
theorem aly{P:Program}{m:Sem Unit}{w w':World}(h:m.run P w=.ok () w') :
  (do m;pure .skip:Sem Next).run P w=.ok .skip w':=by simp_all
theorem CL{α β:Type}(f:α->β)(l:Array α):(l.toList.map f).toArray=l.map f:=by
 grind
def eqG(t:TypeId)(x y:Operand)(a b:Value):Sem Unit:=
 match a,b with
 | .nilIface,.nilIface=>if (UA x||UA y)=true then pure ()else do
   if <- Op.eqGuardIn Op.maxDepth t a b then unsupported (.noEntry "binop/eql: two nil values of an interface type with methods, neither of them the literal nil")
 | .agg _,.agg _=>do
  if !(<- program).eqGuardType (<- program).depth t then return
  if <- Op.eqGuardIn Op.maxDepth t a b then unsupported (.noEntry "binop/eql: two nil values of an interface type with methods, in a part of a struct or an array")
 | _,_=>pure ()
theorem B3{P:Program}{op:BinOp}(j1:op=.eql\/op=.neq){t:TypeId}{x y:Operand}{a b:Value}{w w':World}{v:Value}
  (h:(aaW op t (UA x) (UA y) a b).run P w=.ok v w'):(eqGuard op t x y a b).run P w=.ok () w/\(binOp op t a b).run P w=.ok v w':=by
 have hg:eqGuard op t x y a b=eqG t x y a b:=by rcases j1 with rfl|rfl<;>cases x<;>cases y<;>rfl
 rw[hg]
 clear hg
 unfold eqG
 unfold aaW at h
 split at h
 ·split at h
  ·simp_all
  simp_all
 ·rename_i c1 c2
  have h' : (if P.eqGuardType P.depth t then stuck "an interface in a part" else binOp op t (.agg c1) (.agg c2) : Sem Value).run P w=.ok v w' := h
  split at h'
  ·simp_all
  simp_all
 simp_all
theorem JL{P:Program}{op:BinOp}{t:TypeId}{x y:Operand}{a b:Value}{w w':World}{v:Value}
  (h:(jz op t (UA x) (UA y) a b).run P w=.ok v w'):(do eqGuard op t x y a b;binOp op t a b:Sem Value).run P w=.ok v w':=by
 unfold jz at h
 split at h
 ·obtain⟨h1,h2⟩:=B3 (.inl rfl) h
  simp_all
 ·obtain⟨h1,h2⟩:=B3 (.inr rfl) h
  simp_all
 rename_i n1 n2
 have h1:(eqGuard op t x y a b).run P w=.ok () w:=by
  unfold eqGuard
  simp_all
 simp_all
theorem Gd.wp{r:Option Nat}{ds:List Nat}{P:Program}{n:Nat}{o:Oper}{e:Env}{a:Act}{w:World}{K:Value->World->Prop}{Q:Exit->Act->World->Prop}{next:Act->World->Prop}
  (ha:jt ds n e a) (h:Gd P (zD P o (ev e)) K w) (hk:∀v w',K v w'->next (a.put o.dst v) w'):o.wpIn (FO r) 0 P a w next Q:=by
 have he:=ha.eval
 have JC:∀c,o.op≠.defer c:=λ c hc=>by unfold zD at h;rw[hc]at h;exact h
 have V:∀{m:Sem Value},eN P m (λ v=>K v w)->execOp (ev e) o=(do pure (.value (<- m)):Sem Next)->o.wpIn (FO r) 0 P a w next Q:=λ hp hx=>by
  obtain⟨v,h1,h2⟩:=hp.ex
  exact kr (w':=w) JC (by rw[he,hx];exact JK (fS h1 w)) (hk _ _ h2)
 have V':∀{m:Sem Value},JB P m w (λ v=>K v w)->execOp (ev e) o=(do pure (.value (<- m)):Sem Next)->o.wpIn (FO r) 0 P a w next Q:=λ hp hx=>by
  obtain⟨v,h1,h2⟩:=hp.ex
  exact kr (w':=w) JC (by rw[he,hx];exact JK h1) (hk _ _ h2)
 have E:∀{m:Sem Value},rC P m w K->execOp (ev e) o=(do pure (.value (<- m)):Sem Next)->o.wpIn (FO r) 0 P a w next Q:=λ hp hx=>by
  obtain⟨v,w',h1,h2⟩:=hp.ex
  exact kr JC (by rw[he,hx];exact JK h1) (hk _ _ h2)
 have U:∀{m:Sem Unit},Uz P m w (λ w'=>K undef w')->execOp (ev e) o=(do m;pure .skip:Sem Next)->o.wpIn (FO r) 0 P a w next Q:=λ hp hx=>by
  obtain⟨w',h1,h2⟩:=hp.ex
  exact NI JC (by rw[he,hx];exact aly h1) (hk _ _ h2)
 unfold zD at h
 cases j1:o.op with
 | move x=>rw[j1]at h;exact kr (w':=w) JC (by rw[he];simp only[execOp,j1];rfl) (hk _ _ h)
 | assign x=>rw[j1]at h;exact kr (w':=w) JC (by rw[he];simp only[execOp,j1];rfl) (hk _ _ h)
 | pick c x y=>
  rw[j1]at h
  obtain⟨v,h1,h2⟩:=h.ex
  refine kr (w':=w) JC ?_ (hk _ _ h2)
  rw[he];simp only[execOp,j1]
  have:=fS h1 w
  unfold UX at this
  revert this
  cases ev e c<;>simp only[asBool]<;>intro this<;>first|(simp only[stuck]at this;exact absurd this (by simp[Sem.run]))|skip
  case bool t=>
   have e2:v=(if t=true then ev e x else ev e y):=by
    have:(Result.ok (if t=true then ev e x else ev e y) w:Result Value)=.ok v w:=this
    simpa using this.symm
   rw[e2];rfl
 | alloc t=>rw[j1]at h;exact E h (by simp only[execOp,j1])
 | box t x=>rw[j1]at h;exact E h (by simp only[execOp,j1])
 | build t ps=>rw[j1]at h;exact V h (by simp only[execOp,j1,CL])
 | buildSlice t n ps=>rw[j1]at h;exact E h (by simp only[execOp,j1,CL])
 | insert t m k x=>rw[j1]at h;exact U h (by simp only[execOp,j1])
 | load t x=>rw[j1]at h;exact V' h (by simp only[execOp,j1])
 | store t x y=>rw[j1]at h;exact U h (by simp only[execOp,j1])
 | nilCheck x=>
  rw[j1]at h
  obtain⟨v,h1,h2⟩:=h.ex
  refine kr (w':=w) JC ?_ (hk _ _ h2)
  rw[he];simp only[execOp,j1]
  revert h1
  cases hx:ev e x with
  | pointer p=>cases p<;>simp[SJ,stuck,pr,fM]<;>(try(rintro rfl;rfl))
  | func fn f c=>cases fn<;>simp[SJ,stuck,pr,fM]<;>(try(rintro rfl;rfl))
  | _=>simp[SJ,stuck,pr,fM]<;>(try(rintro rfl;rfl))
 | binOp op t x y u=>
  rw[j1]at h
  dsimp only at h
  split at h
  ·obtain⟨v,h1,h2⟩:=h.ex
   exact kr (w':=w) JC (by rw[he];simp only[execOp,j1];exact JK (JL h1)) (hk _ _ h2)
  ·obtain⟨v,h1,h2⟩:=h.ex
   exact kr (w':=w) JC (by rw[he];simp only[execOp,j1];exact JK (JL (fS h1 w))) (hk _ _ h2)
 | unOp op t x=>rw[j1]at h;exact V h (by simp only[execOp,j1])
 | convert s d x=>
  rw[j1]at h
  dsimp only at h
  split at h
  ·exact V h (by simp only[execOp,j1])
  ·exact V' h (by simp only[execOp,j1])
  ·exact E h (by simp only[execOp,j1])
 | makeInterface t x=>rw[j1]at h;exact V' h (by simp only[execOp,j1])
 | makeFunc fn f c=>rw[j1]at h;exact kr (w':=w) JC (by rw[he];simp only[execOp,j1,<- CL];rfl) (hk _ _ h)
 | makeMap t r=>rw[j1]at h;exact E h (by simp only[execOp,j1])
 | makeSlice t l c=>rw[j1]at h;exact E h (by simp only[execOp,j1])
 | slice t x lo hi mx=>rw[j1]at h;exact V h (by simp only[execOp,j1])
 | fieldAddr s x f=>rw[j1]at h;exact V h (by simp only[execOp,j1])
 | field t x f=>rw[j1]at h;exact V h (by simp only[execOp,j1])
 | indexAddr t x i=>rw[j1]at h;exact V h (by simp only[execOp,j1])
 | index t x i=>rw[j1]at h;exact V h (by simp only[execOp,j1])
 | lookup t x i ok=>rw[j1]at h;exact V' h (by simp only[execOp,j1])
 | mapUpdate t m k x=>rw[j1]at h;exact U h (by simp only[execOp,j1])
 | mapEntry t m k=>rw[j1]at h;exact E h (by simp only[execOp,j1])
 | entryStore t m s x=>rw[j1]at h;exact U h (by simp only[execOp,j1])
 | range t x=>rw[j1]at h;exact E h (by simp only[execOp,j1])
 | next it s=>rw[j1]at h;exact E h (by simp only[execOp,j1])
 | entry it=>rw[j1]at h;exact V' h (by simp only[execOp,j1])
 | typeAssert x t u ok=>rw[j1]at h;exact V' h (by simp only[execOp,j1])
 | extract t i=>rw[j1]at h;exact V h (by simp only[execOp,j1])
 | call c=>
  rw[j1]at h
  dsimp only at h
  have aaY:(c.args.toList.map (ev e)).toArray=c.args.map (ev e):=CL _ _
  cases hc:c.callee with
  | value x=>
   rw[hc]at h
   have hval:∀{g:FuncId}{first cap:Array Value},ev e x=.func (.func g) first cap->Plain P g->Calls P g (first++(c.args.toList.map (ev e)).toArray++cap) w (tX K)->o.wpIn (FO r) 0 P a w next Q:=by
    intro g first cap hx hp jT
    unfold Oper.wpIn
    rw[Oper.semAt_eq _ _ _ JC]
    have hr:(execOp a.eval o).run P w=.ok (.enter g (first++(c.args.toList.map (ev e)).toArray++cap)) w:=by
     rw[he]
     simp only[execOp,j1]
     have h1:(resolve (ev e) c o.type).run P w=.ok {target:=.fn (.func g) cap,args:=first++c.args.map (ev e)} w:=by
      simp only[resolve,hc,hx];rfl
     rw[eH h1]
     show(callFunc g (first++c.args.map (ev e)++cap)).run P w=_
     rw[zC hp,aaY]
    rw[hr]
    exact⟨tY,JJ jT λ v w' hv=>hk v w' hv⟩
   have hyl:∀{l:Nat},ev e x=.func (.yield l) #[] #[]->YieldAt (FO none) 0 P l (c.args.toList.map (ev e)).toArray w (tX K)->o.wpIn (FO r) 0 P a w next Q:=by
    rintro l hx ⟨fn,tmps,assign,body,hy,hr⟩
    unfold Oper.wpIn
    rw[Oper.semAt_eq _ _ _ JC]
    have hr':(execOp a.eval o).run P w=.ok (.round l fn tmps assign body) w:=by
     rw[he]
     simp only[execOp,j1]
     have h1:(resolve (ev e) c o.type).run P w=.ok {target:=.fn (.yield l) #[],args:=#[]++c.args.map (ev e)} w:=by
      simp only[resolve,hc,hx];rfl
     rw[eH h1]
     show(Instr.yield l (#[]++c.args.map (ev e))).run P w=_
     rw[Array.empty_append,<- aaY];exact hy
    rw[hr']
    exact⟨tY,FK hr λ v w' hv=>hk v w' hv⟩
   have vW:kq P (ev e x) (c.args.toList.map (ev e)) w K->o.wpIn (FO r) 0 P a w next Q:=λ h=>by
    rcases h.ex with⟨g,first,cap,h1,h2,h3⟩|⟨l,h1,h2⟩
    ·exact hval h1 h2 h3
    ·exact hyl h1 h2
   cases x with
   | func f=>
    rcases h.ex with⟨h1,h2⟩|⟨v,w',h1,h2⟩
    ·exact hval (g:=f) (first:=#[]) (cap:=#[]) rfl h1 (by simpa using h2)
    ·refine kr JC ?_ (hk _ _ h2)
     rw[he]
     simp only[execOp,j1]
     have h3:(resolve (ev e) c o.type).run P w=.ok {target:=.fn (.func f) #[],args:=#[]++c.args.map (ev e)} w:=by
      simp only[resolve,hc,ev];rfl
     rw[eH h3]
     show(callFunc f (#[]++c.args.map (ev e)++#[])).run P w=_
     rw[<- aaY,Array.empty_append,Array.append_empty]
     exact h1
   | tmp t=>exact vW h
   | const v=>exact vW h
   | global g=>exact vW h
  | invoke r nm=>rw[hc]at h;exact h.elim
  | builtin b=>
   rw[hc]at h
   dsimp only at h
   have hb:∀{m:Sem Value},builtin b c.argTypes o.type (c.args.map fun|.const _=>true|_=>false) (c.args.map (ev e))=(do pure (.value (<- m)):Sem Next)->
     execOp (ev e) o=(do pure (.value (<- m)):Sem Next):=by
    intro m hm
    simp only[execOp,j1]
    have h1:resolve (ev e) c o.type=pure {target:=.builtin b c.argTypes o.type (c.args.map fun|.const _=>true|_=>false),args:=c.args.map (ev e)}:=by
     simp only[resolve,hc];rfl
    rw[h1]
    exact hm
   rw[aaY]at h
   cases b<;>first|exact h.elim|skip
   case len=>
    dsimp only at h
    split at h
    ·exact V' h (hb rfl)
    ·exact V h (hb rfl)
   case cap=>exact V h (hb rfl)
   case min=>exact V h (hb rfl)
   case max=>exact V h (hb rfl)
   case append=>exact E h (hb rfl)
   case copy=>exact E h (hb rfl)
   case clear=>exact E h (hb rfl)
   case delete=>exact E h (hb rfl)
 | _=>rw[j1]at h;exact h.elim
def pre(o:Oper):List Nat:=(o.after.toList.filter λ e=>Region.binds .any e).map (·.on)
def A8(ops:List Oper)(j:Nat):Option Nat:=(ops[j]?).bind (·.dst)
def looks(ops:List Oper)(o:Oper):List Nat:=
 (o.op.operands.toList.filterMap fun|.tmp t=>some t|_=>none)++(match o.guard with|some (j,_)=>(A8 ops j).toList|none=>[])
def oy(ops:List Oper)(o:Oper)(e:Env):Bool:=
 match o.guard with
 | none=>true
 | some (j,b)=>match A8 ops j with
  | none=>false
  | some s=>match e s with
   | .bool b'=>b' == b
   | _=>false
theorem Ge{ds:List Nat}{n:Nat}{e:Env}{a:Act}(h:jt ds n e a)(ops:List Oper)(o:Oper):Region.wanted o (yielded ops.toArray a.tmps)=oy ops o e:=by
 unfold Region.wanted oy
 cases o.guard with
 | none=>rfl
 | some g=>
  obtain⟨j,b⟩:=g
  simp only[yielded,A8,List.getElem?_toArray]
  cases (ops[j]?).bind (·.dst)with
  | none=>simp
  | some s=>
   have hg:=h.get s
   simp only[Option.bind_some]
   rw[<- hg,Array.getD_eq_getD_getElem?]
   cases a.tmps[s]? with
   | none=>simp[undef]
   | some v=>grind
theorem SL{P:Program}{o:Oper}{ρ ρ':Operand->Value}(h:∀x∈o.op.operands,ρ x=ρ' x):zD P o ρ=zD P o ρ':=by
 unfold zD
 cases j1:o.op<;>rw[j1]at h<;>simp only[Op.operands]at h<;>dsimp only
 case call c=>
  have ha:∀x∈c.args,ρ x=ρ' x:=λ x hx=>h x (by simp[Call.operands,hx])
  have hm:c.args.toList.map ρ=c.args.toList.map ρ':=List.map_congr_left λ x hx=>ha x (by grind)
  rw[hm]
  cases hc:c.callee with
  | value x=>
   have hx:ρ x=ρ' x:=h x (by simp[Call.operands,hc])
   grind
  | _=>rfl
 case build t ps=>
  have hm:(ps.toList.map λ q=>(q.1,ρ q.2))=ps.toList.map λ q=>(q.1,ρ' q.2):=
   List.map_congr_left λ q hq=>by grind
  grind
 case buildSlice t n ps=>
  have hm:(ps.toList.map λ q=>(q.1,ρ q.2))=ps.toList.map λ q=>(q.1,ρ' q.2):=
   List.map_congr_left λ q hq=>by grind
  grind
 case makeFunc fn f c=>
  simp_all
 case makeMap t r=>
  have:r.map ρ=r.map ρ':=by cases r with|none=>rfl|some x=>grind
  grind
 case slice t x lo hi mx=>
  have h0:ρ x=ρ' x:=h x (by simp)
  have h1:lo.map ρ=lo.map ρ':=by cases lo with|none=>rfl|some y=>grind
  have h2:hi.map ρ=hi.map ρ':=by cases hi with|none=>rfl|some y=>grind
  have h3:mx.map ρ=mx.map ρ':=by cases mx with|none=>rfl|some y=>grind
  grind
 case load t x=>grind
 case store t x y=>grind
 case pick c x y=>grind
 case binOp op t x y u=>grind
 case insert t m k x=>grind
 case mapUpdate t m k x=>grind
 case entryStore t m k x=>grind
 case mapEntry t m k=>grind
 case lookup t m k ok=>grind
 case indexAddr t m k=>grind
 case index t m k=>grind
 case makeSlice t m k=>grind
 all_goals grind
theorem agM{e:Env}{d:Nat}{v:Value}{x:Operand}(h:x≠.tmp d):ev (zy e d v) x=ev e x:=by
 cases x<;>simp only[ev]
 case tmp t=>exact ox _ _ λ hh=>h (by rw[hh])
theorem CM{P:Program}{ops:List Oper}{o:Oper}{e:Env}{d:Option Nat}{v:Value}(h:∀k,d=some k->k ∉ looks ops o) :
  zD P o (ev (jO e d v))=zD P o (ev e):=by
 cases d with
 | none=>rfl
 | some d=>
  refine SL λ x hx=>agM λ hxd=>h d rfl ?_
  subst hxd
  exact List.mem_append_left _ (List.mem_filterMap.2 ⟨.tmp d,by grind,rfl⟩)
theorem xn{ops:List Oper}{o:Oper}{e:Env}{d:Option Nat}{v:Value}(h:∀k,d=some k->k ∉ looks ops o) :
  oy ops o (jO e d v)=oy ops o e:=by
 cases d with
 | none=>rfl
 | some d=>
  have h:=h d rfl
  unfold oy
  unfold looks at h
  cases hg:o.guard with
  | none=>rfl
  | some g=>
   obtain⟨j,b⟩:=g
   rw[hg]at h
   dsimp only at h |-
   cases hs:A8 ops j with
   | none=>rfl
   | some s=>
    rw[hs]at h
    have:s≠d:=λ hh=>h (by simp[hh])
    simp only[jO,ox _ _ this]
def UZ(ops:List Oper)(x y:Oper):Prop:=
 (∀d,x.dst=some d->d ∉ looks ops y/\y.dst≠some d)/\(∀d,y.dst=some d->d ∉ looks ops x)
theorem SM{e:Env}{d d':Option Nat}{v v':Value}(h:∀k,d=some k->d'≠some k):jO (jO e d v) d' v'=jO (jO e d' v') d v:=by
 cases d with
 | none=>rfl
 | some d=>cases d' with
  | none=>rfl
  | some d'=>exact UW _ _ _ λ hh=>h d rfl (by rw[hh])
def CN(P:Program)(ops:List Oper)(o:Oper)(K:Env->World->Prop)(e:Env)(w:World):Prop:=
 if oy ops o e=true then Gd P (zD P o (ev e)) (λ v w'=>K (jO e o.dst v) w') w else K (jO e o.dst undef) w
theorem CN.mono{P:Program}{ops:List Oper}{o:Oper}{K K':Env->World->Prop}{e:Env}{w:World}(h:CN P ops o K e w)
  (hk:∀v w',K (jO e o.dst v) w'->K' (jO e o.dst v) w'):CN P ops o K' e w:=by
 unfold CN at *
 split
 ·rename_i hw;rw[if_pos hw]at h;exact h.mono λ v w'=>hk v w'
 grind
def NJ(ops:List Oper)(L:Nat->Bool)(i:Nat):Prop:=L i=false/\∃o,ops[i]?=some o/\∀p∈pre o,L p=true
def lX(L:Nat->Bool)(i:Nat):Nat->Bool:=λ k=>if k=i then true else L k
def Down(ops:List Oper)(L:Nat->Bool):Prop:=∀i o,L i=true->ops[i]?=some o->∀p∈pre o,L p=true
theorem SN(L:Nat->Bool)(i:Nat):lX L i i=true:=by simp[lX]
theorem Qt(L:Nat->Bool){i k:Nat}(h:k≠i):lX L i k=L k:=by simp[lX,h]
theorem HL(L:Nat->Bool)(i:Nat){k:Nat}(h:L k=true):lX L i k=true:=by unfold lX;grind
theorem SO(L:Nat->Bool)(i j:Nat):lX (lX L i) j=lX (lX L j) i:=by
 grind[lX]
theorem Down.set{ops:List Oper}{L:Nat->Bool}{i:Nat}(h:Down ops L)(hr:NJ ops L i):Down ops (lX L i):=by
 intro k o hk ho p hp
 by_cases e:k=i
 ·subst e
  obtain⟨_,o',ho',vX⟩:=hr
  grind[lX]
 rw[Qt _ e]at hk
 exact HL _ _ (h k o hk ho p hp)
theorem NJ.set{ops:List Oper}{L:Nat->Bool}{i j:Nat}(h:NJ ops L j)(FL:j≠i):NJ ops (lX L i) j:=
 ⟨by rw[Qt _ FL];exact h.1,let ⟨o,ho,vX⟩:=h.2;⟨o,ho,λ p hp=>HL _ _ (vX p hp)⟩⟩
inductive NK(ops:List Oper):Nat->Nat->Prop
 | one {j i:Nat}{o:Oper}(h:ops[j]?=some o) (hp:i∈pre o):NK ops j i
 | more {j p i:Nat}{o:Oper}(h:ops[j]?=some o) (hp:p∈pre o) (hd:NK ops p i):NK ops j i
theorem NK.listed{ops:List Oper}{L:Nat->Bool}(hL:Down ops L){j i:Nat}(h:NK ops j i):(∀o,ops[j]?=some o->∀p∈pre o,L p=true)->L i=true:=by
 induction h with
 | one h hp=>grind
 | more h hp hd ih=>intro vX;exact ih λ o ho q hq=>hL _ o (vX _ h _ hp) ho q hq
theorem NK.FM{ops:List Oper}{L:Nat->Bool}(hL:Down ops L){j i:Nat}(h:NK ops j i)(hr:NJ ops L j):L i=true:=
 h.listed hL λ o ho p hp=>by obtain⟨_,o',ho',vX⟩:=hr;grind
def WS(P:Program)(ops:List Oper)(Q:Env->World->Prop)(S:Nat->World->Prop):Nat->(Nat->Bool)->Env->World->Prop
 | 0,L,e,w=>(∀i,¬ NJ ops L i)/\Q e w
 | f+1,L,e,w=>((∀i,¬ NJ ops L i)->Q e w)/\
   ∀i o,ops[i]?=some o->NJ ops L i->CN P ops o (λ e' w'=>(w'=w\/S i w')/\WS P ops Q S f (lX L i) e' w') e w
theorem WS.weaken{P:Program}{ops:List Oper}{Q:Env->World->Prop}{S S':Nat->World->Prop}(h:∀i w,S i w->S' i w) :
  ∀(f:Nat) (_L:Nat->Bool) (_e:Env) (_w:World),WS P ops Q S f _L _e _w->WS P ops Q S' f _L _e _w
 | 0,_,_,_,hh=>hh
 | f+1,L,e,w,hh=>⟨hh.1,λ i o ho hr=>(hh.2 i o ho hr).mono λ _ _ ⟨h1,h2⟩=>⟨h1.imp id (h _ _),WS.weaken h f _ _ _ h2⟩⟩
theorem WS.first{P:Program}{ops:List Oper}{Q:Env->World->Prop}{S:Nat->World->Prop}{i:Nat}{oi:Oper}{X:Dn}{b:Bool}{v:Value}
  (hi:ops[i]?=some oi) (hn:b=false->v=undef) :
  ∀(f:Nat) (L:Nat->Bool) (e:Env) (w:World),Down ops L->NJ ops L i->
   (∀j oj,ops[j]?=some oj->j≠i->L j=false->i ∉ pre oj->UZ ops oi oj)->
   zD P oi (ev e)=X->oy ops oi e=b->(b=true->X.has P w v)->
   WS P ops Q (λ j w'=>S j w'/\(NK ops j i\/(b=true->X.has P w' v))) f (lX L i) (jO e oi.dst v) w->WS P ops Q S (f+1) L e w:=by
 have done:∀(K:Env->World->Prop) (e:Env) (w:World),zD P oi (ev e)=X->oy ops oi e=b->(b=true->X.has P w v)->K (jO e oi.dst v) w->CN P ops oi K e w:=by
  intro K e w hX hb hy hk
  unfold CN
  rw[hb]
  cases b with
  | true=>rw[if_pos rfl,hX];exact Gd.UY (hy rfl) hk
  | false=>grind
 have sub:∀{f:Nat}{L:Nat->Bool}{e:Env}{w:World},WS P ops Q (λ j w'=>S j w'/\(NK ops j i\/(b=true->X.has P w' v))) f L e w->WS P ops Q S f L e w:=
  λ h=>WS.weaken (λ _ _ h=>h.1) _ _ _ _ h
 intro f
 induction f with
 | zero=>
  intro L e w hL hr Qu hX hb hy H
  refine⟨λ h=>absurd hr (h i),λ j oj Qv hj=>?_⟩
  by_cases hji:j=i
  ·grind
  ·exact absurd (hj.set hji) (H.1 j)
 | succ f ih=>
  intro L e w hL hr Qu hX hb hy H
  refine⟨λ h=>absurd hr (h i),λ j oj Qv hj=>?_⟩
  by_cases hji:j=i
  ·grind
  ·have eD:i ∉ pre oj:=λ hp=>by
    obtain⟨_,o',ho',vX⟩:=hj.2.elim λ o' h=>(⟨trivial,o',h.1,h.2⟩:True/\∃o',ops[j]?=some o'/\∀p∈pre o',L p=true)
    rw[Qv]at ho';cases ho'
    have:=vX i hp
    rw[hr.1]at this;cases this
   have hap:=Qu j oj Qv hji hj.1 eD
   have alz:¬ NK ops j i:=λ hd=>by
    have:=hd.FM hL hj
    rw[hr.1]at this;cases this
   have h1:=H.2 j oj Qv (hj.set hji)
   have rdi:∀k,oi.dst=some k->k ∉ looks ops oj:=λ k hk=>(hap.1 k hk).1
   have rdj:∀k,oj.dst=some k->k ∉ looks ops oi:=λ k hk=>hap.2 k hk
   have dd:∀k,oi.dst=some k->oj.dst≠some k:=λ k hk=>(hap.1 k hk).2
   have cont:∀(u:Value) (w':World),(w'=w\/(S j w'/\(NK ops j i\/(b=true->X.has P w' v))))->
     WS P ops Q (λ j w'=>S j w'/\(NK ops j i\/(b=true->X.has P w' v))) f (lX (lX L i) j) (jO (jO e oi.dst v) oj.dst u) w'->
     (w'=w\/S j w')/\WS P ops Q S (f+1) (lX L j) (jO e oj.dst u) w':=by
    intro u w' hw hWS
    refine⟨hw.imp id λ h=>h.1,?_⟩
    refine ih (lX L j) (jO e oj.dst u) w' (hL.set hj) (hr.set (Ne.symm hji)) ?_ ?_ ?_ ?_ ?_
    ·grind[lX,pre,UZ]
    ·rw[CM rdj];exact hX
    ·rw[xn rdj];exact hb
    ·grind
    ·rw[SO,SM λ k hk=>by grind]
     exact hWS
   unfold CN at h1 |-
   rw[xn rdi]at h1
   split
   ·rename_i hw
    rw[if_pos hw,CM rdi]at h1
    exact h1.mono λ u w' hh=>cont u w' hh.1 hh.2
   grind
def wr(ops:List Oper):List Nat:=ops.filterMap (·.dst)
theorem U1{ops:List Oper}{i:Nat}{o:Oper}{d:Nat}(h:ops[i]?=some o)(hd:o.dst=some d):d∈wr ops:=
 List.mem_filterMap.2 ⟨o,List.mem_of_getElem? h,hd⟩
theorem yD{e e0:Env}{ops:List Oper}{i:Nat}{o:Oper}(h:∀k,k ∉ wr ops->e k=e0 k)(ho:ops[i]?=some o)(v:Value) :
  ∀k,k ∉ wr ops->jO e o.dst v k=e0 k:=by
 intro k hk
 cases hd:o.dst with
 | none=>exact h k hk
 | some d=>
  have:k≠d:=λ hh=>hk (by rw[hh];exact U1 ho hd)
  simp only[jO,ox _ _ this]
  grind
theorem CN.wpOp{r:Option Nat}{ds:List Nat}{P:Program}{n:Nat}{ops:List Oper}{i:Nat}{o:Oper}{K:Env->World->Prop}{K':Act->World->Prop}{Q':Exit->Act->World->Prop}{e:Env}{a:Act}{w:World}
  (ho:ops[i]?=some o) (hd:∀k,o.dst=some k->k<n) (ha:jt ds n e a) (h:CN P ops o K e w)
  (hk:∀v a' w',jt ds n (jO e o.dst v) a'->K (jO e o.dst v) w'->K' a' w'):wpOpIn (FO r) 0 P ops.toArray Q' i K' a w:=by
 unfold Go.wpOpIn
 simp only[List.getElem?_toArray,ho]
 rw[Ge ha]
 unfold CN at h
 split
 ·rename_i hw
  rw[if_pos hw]at h
  exact Gd.wp ha h λ v w' hv=>hk v _ _ (ha.put hd v) hv
 rename_i hw
 rw[if_neg hw]at h
 exact⟨tY,hk undef _ _ (ha.put hd undef) h⟩
theorem WS.any{r:Option Nat}{ds:List Nat}{P:Program}{n:Nat}{ops:List Oper}{Q:Env->World->Prop}{Q':Exit->Act->World->Prop}{S:Nat->World->Prop}{e0:Env}
  (hd:∀d∈wr ops,d<n) (hQ:∀e a w,jt ds n e a->(∀k,k ∉ wr ops->e k=e0 k)->Q e w->Q' .normal a w) :
  ∀(f:Nat) (L:Nat->Bool) (listed:Array Bool) (e:Env) (a:Act) (w:World),jt ds n e a->(∀k,k ∉ wr ops->e k=e0 k)->listed.size=ops.length->
   (∀i,listed.getD i false=L i)->WS P ops Q S f L e w->wpAnyIn (FO r) 0 P .any ops.toArray Q' f listed a w:=by
 have rdy:∀(L:Nat->Bool) (listed:Array Bool) (_:listed.size=ops.length) (_:∀i,listed.getD i false=L i) (i:Nat),
   i∈Region.ready .any ops.toArray listed↔NJ ops L i:=by
  intro L listed o7 hl i
  rw[mem_ready]
  have getT:∀o,ops[i]?=some o->listed.getD i true=L i:=λ o ho=>by
   grind
  unfold NJ pre
  grind
 intro f
 induction f with
 | zero=>
  intro L listed e a w ha dW o7 hl h
  refine⟨?_,hQ e a w ha dW h.2⟩
  cases hr:Region.ready .any ops.toArray listed with
  | nil=>rfl
  | cons i r=>exact absurd ((rdy L listed o7 hl i).1 (by grind)) (h.1 i)
 | succ f ih=>
  intro L listed e a w ha dW o7 hl h
  refine⟨λ hn=>hQ e a w ha dW (h.1 λ i hi=>?_),λ i hi=>?_⟩
  ·have:=(rdy L listed o7 hl i).2 hi
   grind
  ·have hr:=(rdy L listed o7 hl i).1 hi
   obtain⟨o,ho,_⟩:=hr.2
   refine CN.wpOp ho (λ k hk=>hd k (U1 ho hk)) ha (h.2 i o ho hr) λ v a' w' HM hh=>?_
   refine ih (lX L i) _ _ a' w' HM (yD dW ho v) (by grind) (λ k=>?_) hh.2
   have nH:i<listed.size:=by grind
   have hlk:=hl k
   simp only[Array.getD_eq_getD_getElem?]at hlk |-
   grind[lX]
theorem WS.region{r:Option Nat}{ds:List Nat}{P:Program}{n:Nat}{id:Nat}{ops:List Oper}{Q:Env->World->Prop}{Q':Exit->Act->World->Prop}{S:Nat->World->Prop}{e:Env}{a:Act}{w:World}
  (hm:P.follows .mixedOrders=true) (hd:∀d∈wr ops,d<n) (ha:jt ds n e a)
  (hQ:∀e' a w,jt ds n e' a->(∀k,k ∉ wr ops->e' k=e k)->Q e' w->Q' .normal a w)
  (h:WS P ops Q S ops.length (λ _=>false) e {w with drawn:=w.drawn+1}):(Code.region id ops.toArray true).wpIn (FO r) 0 P Q' a w:=by
 refine wpIn_region_any hm ?_
 rw[List.size_toArray]
 refine WS.any hd hQ ops.length (λ _=>false) _ e a _ ha (λ _ _=>rfl) (by simp) (λ i=>?_) h
 simp only[Array.getD_eq_getD_getElem?,Array.getElem?_replicate]
 grind
def lk(s:Nat):List (Nat×Option Bool)->Option (Option Bool)
 | []=>none
 | q::r=>bif Nat.beq q.1 s then some q.2 else lk s r
def HN(d:Nat):List (Nat×Option Bool)->List (Nat×Option Bool)
 | []=>[]
 | q::r=>bif Nat.beq q.1 d then HN d r else q::HN d r
def del(d:Option Nat)(kg:List (Nat×Option Bool)):List (Nat×Option Bool):=match d with|none=>kg|some d=>HN d kg
def CO(kg:List (Nat×Option Bool)):Operand->Option Bool
 | .const (.bool b)=>some b
 | .tmp t=>match lk t kg with|some b=>b|none=>none
 | _=>none
def aeF(kg:List (Nat×Option Bool)):Op->Option Operand
 | .move x=>some x
 | .assign x=>some x
 | .pick (.tmp c) a b=>match lk c kg with|some (some t)=>some (bif t then a else b)|_=>none
 | _=>none
def U3(kg:List (Nat×Option Bool))(d:Option Nat)(x:Operand):List (Nat×Option Bool):=
 match d,CO kg x with
 | some d,some b=>(d,some b)::HN d kg
 | d,_=>del d kg
def ofK:Option Bool->Value|some b=>.bool b|none=>undef
def kf(kg:List (Nat×Option Bool))(e:Env):Prop:=∀s b,lk s kg=some b->e s=ofK b
theorem Dp(n:Nat):Nat.beq n n=true:=Nat.beq_refl n
theorem A9{a b:Nat}(h:a≠b):Nat.beq a b=false:=by
 cases hh:Nat.beq a b
 ·rfl
 simp_all
theorem aa1(s d:Nat)(kg:List (Nat×Option Bool)):lk s (HN d kg)=if s=d then none else lk s kg:=by
 induction kg with
 | nil=>simp[HN,lk]
 | cons q r ih=>
  simp only[HN,lk]
  by_cases h1:q.1=d
  ·rw[h1,Dp,cond_true,ih]
   by_cases h2:s=d
   ·simp[h2]
   ·rw[if_neg h2,if_neg h2,A9 (λ hh=>h2 hh.symm),cond_false]
  ·rw[A9 h1,cond_false]
   simp only[lk,ih]
   by_cases h2:q.1=s
   ·grind
   ·rw[A9 h2,cond_false,cond_false]
theorem kf.nil(e:Env):kf [] e:=λ s b h=>by simp[lk]at h
theorem kf.del{kg:List (Nat×Option Bool)}{e:Env}(h:kf kg e)(d:Option Nat)(v:Value):kf (del d kg) (jO e d v):=by
 cases d with
 | none=>exact h
 | some d=>
  intro s b hs
  simp only[Fw.del,aa1]at hs
  by_cases hsd:s=d
  ·simp[hsd]at hs
  ·rw[if_neg hsd]at hs
   simp only[jO,ox _ _ hsd]
   exact h s b hs
theorem kf.cons{kg:List (Nat×Option Bool)}{e:Env}(h:kf kg e){s:Nat}{b:Option Bool}(hs:e s=ofK b):kf ((s,b)::kg) e:=by
 intro s' b' hh
 simp only[lk]at hh
 by_cases h1:s=s'
 ·subst h1;rw[Dp,cond_true]at hh;cases hh;exact hs
 rw[A9 h1,cond_false]at hh;exact h _ _ hh
theorem kf.known{kg:List (Nat×Option Bool)}{e:Env}(h:kf kg e){x:Operand}{b:Bool}(hx:CO kg x=some b):ev e x=.bool b:=by
 cases x with
 | tmp t=>
  have hx':(match lk t kg with|some b=>b|none=>none)=some b:=hx
  split at hx'
  ·rename_i b' hb;subst hx';exact h t _ hb
  grind
 | const v=>cases v<;>simp[CO]at hx;simp[ev,hx]
 | _=>simp[CO]at hx
theorem kf.aft{kg:List (Nat×Option Bool)}{e:Env}(h:kf kg e)(d:Option Nat)(x:Operand):kf (U3 kg d x) (jO e d (ev e x)):=by
 unfold U3
 split
 ·rename_i d b hb
  have h1:=h.del (some d) (ev e x)
  exact kf.cons (b:=some b) h1 (by simp only[jO,nh];exact h.known hb)
 exact h.del _ _
def tZ(P:Program)(ops:List Oper)(r:Oper)(e:Env)(w:World)(R:Prop):Prop:=
 bif oy ops r e then(match zD P r (ev e),r.dst with|.q m,some d=>Qr P m (e d) w R|_,_=>False)else R
def zF(P:Program)(ops:List Oper):List Oper->Env->World->Prop->Prop
 | [],_,_,R=>R
 | r::ks,e,w,R=>tZ P ops r e w (zF P ops ks e w R)
theorem JM{P:Program}{ops:List Oper}{ks:List Oper}{e:Env}{w:World}{R:Prop}:zF P ops ks e w R->(∀r∈ks,tZ P ops r e w True)/\R:=by
 induction ks with
 | nil=>intro h;exact⟨by simp,h⟩
 | cons r ks ih=>
  intro h
  have:tZ P ops r e w True/\zF P ops ks e w R:=by
   simp only[zF,tZ]at h |-
   cases hw:oy ops r e with
   | false=>grind
   | true=>
    rw[hw]at h
    simp only[cond_true]at h |-
    cases hk:zD P r (ev e)<;>rw[hk]at h<;>cases hd:r.dst<;>rw[hd]at h<;>first|grind|skip
    exact⟨⟨h.alw,trivial⟩,h.rest⟩
  grind
def Dr(n:Nat)(o:Oper):Bool:=match o.dst with|none=>true|some d=>Nat.blt d n
def goF(P:Program)(ops:List Oper)(o:Oper)(ks:List Oper)(rec:List (Nat×Option Bool)->Env->World->Prop)(kg:List (Nat×Option Bool))(e:Env)(w:World):Prop:=
 match aeF kg o.op with
 | some x=>rec (U3 kg o.dst x) (jO e o.dst (ev e x)) w
 | none=>Gd P (zD P o (ev e)) (λ v w'=>zF P ops ks (jO e o.dst v) w' (rec (del o.dst kg) (jO e o.dst v) w')) w
def skF(o:Oper)(rec:List (Nat×Option Bool)->Env->World->Prop)(kg:List (Nat×Option Bool))(e:Env)(w:World):Prop:=
 rec (match o.dst with|some d=>(d,none)::HN d kg|none=>kg) (jO e o.dst undef) w
theorem kf.skip{kg:List (Nat×Option Bool)}{e:Env}(h:kf kg e)(d:Option Nat) :
  kf (match d with|some d=>(d,none)::HN d kg|none=>kg) (jO e d undef):=by
 cases d with
 | none=>exact h
 | some d=>exact kf.cons (b:=none) (h.del (some d) undef) (by simp only[jO,nh];rfl)
def DS(P:Program)(n:Nat)(ops:List Oper)(q:Oper×List Oper)(rec:List (Nat×Option Bool)->Env->World->Prop)(kg:List (Nat×Option Bool))(e:Env)(w:World):Prop:=
  bif Dr n q.1 then
   match q.1.guard with
   | none=>goF P ops q.1 q.2 rec kg e w
   | some g=>match A8 ops g.1 with
    | none=>False
    | some s=>match lk s kg with
     | some none=>skF q.1 rec kg e w
     | some (some b')=>bif b' == g.2 then goF P ops q.1 q.2 rec kg e w else skF q.1 rec kg e w
     | none=>yb (e s)
       (bif g.2 then goF P ops q.1 q.2 rec ((s,some true)::kg) (zy e s (.bool true)) w else skF q.1 rec ((s,some true)::kg) (zy e s (.bool true)) w)
       (bif g.2 then skF q.1 rec ((s,some false)::kg) (zy e s (.bool false)) w else goF P ops q.1 q.2 rec ((s,some false)::kg) (zy e s (.bool false)) w)
  else False
def DR(P:Program)(n:Nat)(ops:List Oper):List (Oper×List Oper)->(Env->World->Prop)->List (Nat×Option Bool)->Env->World->Prop
 | [],Q,_,e,w=>Q e w
 | q::rest,Q,kg,e,w=>DS P n ops q (DR P n ops rest Q) kg e w
theorem xo{P:Program}{ops:List Oper}{o:Oper}{ks:List Oper}{rec:List (Nat×Option Bool)->Env->World->Prop}{kg:List (Nat×Option Bool)}{e:Env}{w:World}
  (hk:kf kg e) (h:goF P ops o ks rec kg e w) :
  Gd P (zD P o (ev e)) (λ v w'=>(w'=w\/∀r∈ks,tZ P ops r (jO e o.dst v) w' True)/\∃Nt,kf Nt (jO e o.dst v)/\rec Nt (jO e o.dst v) w') w:=by
 unfold goF at h
 split at h
 ·rename_i x hx
  have hv:(zD P o (ev e)).has P w (ev e x):=by
   unfold zD
   cases j1:o.op<;>rw[j1]at hx<;>simp only[aeF]at hx<;>first|cases hx|skip
   case move y=>simp only[Dn.has]
   case assign y=>simp only[Dn.has]
   case pick c a b=>
    cases c<;>simp only at hx<;>first|cases hx|skip
    rename_i c
    split at hx
    ·rename_i t ht
     cases hx
     have hc:e c=.bool t:=hk c _ ht
     simp only[Dn.has,ev,hc,UX]
     cases t<;>rfl
    ·cases hx
  exact Gd.UY hv ⟨.inl rfl,_,hk.aft _ _,h⟩
 refine h.mono λ v w' hh=>?_
 have:=JM hh
 exact⟨.inr this.1,_,hk.del _ _,this.2⟩
theorem HO{P:Program}{n:Nat}{ops:List Oper}{q:Oper×List Oper}{rec:List (Nat×Option Bool)->Env->World->Prop}{kg:List (Nat×Option Bool)}{e:Env}{w:World}
  (hk:kf kg e) (h:DS P n ops q rec kg e w) :
  (∀d,q.1.dst=some d->d<n)/\
  CN P ops q.1 (λ e' w'=>(w'=w\/∀r∈q.2,tZ P ops r e' w' True)/\∃Nt,kf Nt e'/\rec Nt e' w') e w:=by
 unfold DS at h
 cases hd:Dr n q.1 with
 | false=>grind
 | true=>
  rw[hd]at h
  refine⟨λ d hdd=>by unfold Dr at hd;simp_all,?_⟩
  have sk:∀{kg:List (Nat×Option Bool)},kf kg e->skF q.1 rec kg e w->
    (w=w\/∀r∈q.2,tZ P ops r (jO e q.1.dst undef) w True)/\∃Nt,kf Nt (jO e q.1.dst undef)/\rec Nt (jO e q.1.dst undef) w:=
   λ hk h=>⟨.inl rfl,_,hk.skip _,h⟩
  simp only[cond_true]at h
  unfold CN
  cases hg:q.1.guard with
  | none=>
   rw[hg]at h
   have hB:oy ops q.1 e=true:=by unfold oy;rw[hg]
   rw[if_pos hB]
   exact xo hk h
  | some g=>
   obtain⟨j,b⟩:=g
   rw[hg]at h
   dsimp only at h
   cases hs:A8 ops j with
   | none=>rw[hs]at h;exact h.elim
   | some s=>
    rw[hs]at h
    dsimp only at h
    have hB:∀t,e s=.bool t->oy ops q.1 e=(t == b):=λ t ht=>by unfold oy;rw[hg];dsimp only;rw[hs];dsimp only;rw[ht]
    cases hl:lk s kg with
    | some ob=>
     rw[hl]at h
     cases ob with
     | none=>
      dsimp only at h
      have hu:oy ops q.1 e=false:=by
       unfold oy;rw[hg];dsimp only;rw[hs];dsimp only;rw[hk s none hl];rfl
      rw[if_neg (by rw[hu];simp)]
      exact sk hk h
     | some b'=>
      dsimp only at h
      rw[hB b' (hk s _ hl)]
      cases hb:b' == b with
      | true=>rw[hb]at h;rw[if_pos rfl];exact xo hk h
      | false=>rw[hb]at h;rw[if_neg (by simp)];exact sk hk h
    | none=>
     rw[hl]at h
     obtain⟨t,ht,hA,hA'⟩:=h.ex
     rw[hB t ht]
     have hid:∀c,t=c->zy e s (.bool c)=e:=λ c hc=>agL _ _ _ (by rw[ht,hc])
     cases t with
     | true=>
      have hA:=hA rfl
      rw[hid true rfl]at hA
      cases b with
      | true=>rw[if_pos (by rfl)];exact xo (hk.cons (b:=some _) ht) hA
      | false=>rw[if_neg (by simp)];exact sk (hk.cons (b:=some _) ht) hA
     | false=>
      have hA':=hA' rfl
      rw[hid false rfl]at hA'
      cases b with
      | true=>rw[if_neg (by simp)];exact sk (hk.cons (b:=some _) ht) hA'
      | false=>rw[if_pos (by rfl)];exact xo (hk.cons (b:=some _) ht) hA'
theorem DR.list{r:Option Nat}{ds:List Nat}{P:Program}{n:Nat}{ops:List Oper}{Q:Env->World->Prop}{Q':Exit->Act->World->Prop}{e0:Env}
  (hQ:∀e a w,jt ds n e a->(∀k,k ∉ wr ops->e k=e0 k)->Q e w->Q' .normal a w) :
  ∀(l:List Oper) (kg:List (Nat×Option Bool)) (e:Env) (a:Act) (w:World),(∀o∈l,o∈ops)->jt ds n e a->(∀k,k ∉ wr ops->e k=e0 k)->kf kg e->
   DR P n ops (l.map λ o=>(o,[])) Q kg e w->wpListIn (FO r) 0 P ops.toArray Q' l a w:=by
 intro l
 induction l with
 | nil=>intro kg e a w _ ha dW _ h;exact hQ e a w ha dW h
 | cons o l ih=>
  intro kg e a w hm ha dW hk h
  obtain⟨hd,hs⟩:=HO hk h
  obtain⟨i,hi⟩:=List.getElem?_of_mem (hm o List.mem_cons_self)
  have hm':∀x∈l,x∈ops:=λ x hx=>hm x (List.mem_cons_of_mem _ hx)
  unfold wpListIn
  rw[Ge ha]
  unfold CN at hs
  split
  ·rename_i hw
   rw[if_pos hw]at hs
   exact Gd.wp ha hs λ v w' ⟨_,Nt,JD,hv⟩=>ih Nt _ _ w' hm' (ha.put hd v) (yD dW hi v) JD hv
  ·rename_i hw
   rw[if_neg hw]at hs
   obtain⟨_,Nt,JD,hv⟩:=hs
   exact⟨tY,ih Nt _ _ w hm' (ha.put hd undef) (yD dW hi undef) JD hv⟩
theorem DR.region{r:Option Nat}{ds:List Nat}{P:Program}{n:Nat}{id:Nat}{ops:List Oper}{Q:Env->World->Prop}{Q':Exit->Act->World->Prop}{e:Env}{a:Act}{w:World}
  (ha:jt ds n e a) (hQ:∀e' a w,jt ds n e' a->(∀k,k ∉ wr ops->e' k=e k)->Q e' w->Q' .normal a w)
  (h:DR P n ops (ops.map λ o=>(o,[])) Q [] e w):(Code.region id ops.toArray false).wpIn (FO r) 0 P Q' a w:=
 wpIn_region_lit (DR.list hQ ops [] e a w (λ _ h=>h) ha (λ _ _=>rfl) (kf.nil e) h)
def NL(P:Program)(o:Oper):Bool:=(zD P o λ _=>undef).quiet
def HQ(P:Program)(o:Oper):Bool:=(zD P o λ _=>undef).reads
theorem JN{P:Program}{o:Oper}(ρ ρ':Operand->Value):(zD P o ρ).quiet=(zD P o ρ').quiet/\(zD P o ρ).reads=(zD P o ρ').reads:=by
 unfold zD
 cases o.op<;>try exact⟨rfl,rfl⟩
 case binOp op t x y u=>dsimp only;split<;>exact⟨rfl,rfl⟩
 case convert s d x=>dsimp only;split<;>exact⟨rfl,rfl⟩
 case call c=>
  dsimp only
  cases c.callee with
  | value x=>cases x<;>exact⟨rfl,rfl⟩
  | invoke r nm=>grind
  | builtin b=>cases b<;>dsimp only<;>first|exact⟨rfl,rfl⟩|(split<;>exact⟨rfl,rfl⟩)
def iB(d:Nat):List Nat->Bool
 | []=>false
 | x::r=>Nat.beq x d||iB d r
theorem zG{d:Nat}{l:List Nat}:iB d l=true↔d∈l:=by
 induction l with
 | nil=>simp[iB]
 | cons x r ih=>
  simp only[iB,Bool.or_eq_true,ih,List.mem_cons]
  constructor
  ·rintro(h|h)
   ·simp_all
   grind
  ·rintro(rfl|h)
   ·simp_all
   grind
theorem Qw{d:Nat}{l:List Nat}:iB d l=false↔d ∉ l:=by
 rw[<- zG];simp
def eqO(d:Nat):Option Nat->Bool|none=>false|some k=>Nat.beq k d
theorem aa3{d:Nat}{o:Option Nat}:eqO d o=true↔o=some d:=by
 cases o with
 | none=>simp[eqO]
 | some k=>simp_all[eqO]
def HS(ops:List Oper)(x y:Oper):Bool:=match y.dst with|none=>true|some d=>!iB d (looks ops x)&&!eqO d x.dst
theorem Ba{ops:List Oper}{x y:Oper}(h:HS ops x y=true):∀d,y.dst=some d->d ∉ looks ops x/\x.dst≠some d:=by
 intro d hd
 unfold HS at h
 rw[hd]at h
 simp only[Bool.and_eq_true,Bool.not_eq_true']at h
 exact⟨Qw.1 h.1,λ hh=>by rw[<- aa3]at hh;grind⟩
def NM(ops:List Oper)(x y:Oper):Bool:=HS ops y x&&HS ops x y
theorem JO{ops:List Oper}{x y:Oper}(h:NM ops x y=true):UZ ops x y:=by
 simp only[NM,Bool.and_eq_true]at h
 exact⟨λ d hd=>Ba h.1 d hd,λ d hd=>(Ba h.2 d hd).1⟩
def Bb(f:Nat->Oper->Bool):Nat->List Oper->Bool
 | _,[]=>true
 | k,o::r=>f k o&&Bb f (k+1) r
theorem nZ{f:Nat->Oper->Bool}{l:List Oper}:∀{k:Nat},Bb f k l=true->∀i o,l[i]?=some o->f (k+i) o=true:=by
 induction l with
 | nil=>grind
 | cons x r ih=>
  grind[Bb]
def Cr:List Nat->Nat->Nat
 | [],_=>0
 | x::_,0=>x
 | _::r,n+1=>Cr r n
def Gf(cls:List Nat):List Nat->Nat
 | []=>0
 | p::r=>Nat.lor (Nat.lor (Nat.shiftLeft 1 p) (Cr cls p)) (Gf cls r)
def Gg(ops:List Oper)(cls:List Nat):Bool:=
 Bb (λ j o=>(pre o).all (λ p=>Nat.blt p j)&&Nat.beq (Cr cls j) (Gf cls (pre o))) 0 ops
theorem SP{cls l:List Nat}{i:Nat}(h:(Gf cls l).testBit i=true):∃p∈l,p=i\/(Cr cls p).testBit i=true:=by
 induction l with
 | nil=>simp[Gf]at h
 | cons p r ih=>
  have h':(((1 <<< p) ||| Cr cls p) ||| Gf cls r).testBit i=true:=h
  simp only[Nat.testBit_or,Bool.or_eq_true]at h'
  rcases h' with(h'|h')|h'
  ·refine⟨p,by simp,.inl ?_⟩
   rw[Nat.one_shiftLeft,Nat.testBit_two_pow]at h'
   grind
  ·grind
  grind
theorem Gh{ops:List Oper}{cls:List Nat}(h:Gg ops cls=true):∀(n j:Nat),j<n->j<ops.length->∀i,(Cr cls j).testBit i=true->NK ops j i:=by
 intro n
 induction n with
 | zero=>omega
 | succ n ih=>
  intro j hj hlen i hi
  obtain⟨o,ho⟩:∃o,ops[j]?=some o:=⟨ops[j],by simp[hlen]⟩
  have:=nZ h j o ho
  simp only[Nat.zero_add,Bool.and_eq_true,List.all_eq_true]at this
  obtain⟨h1,h2⟩:=this
  have h2:=Nat.eq_of_beq_eq_true h2
  rw[h2]at hi
  obtain⟨p,hp,hh⟩:=SP hi
  rcases hh with rfl|hh
  ·exact .one ho hp
  ·have hpj:p<j:=by simp_all
   exact .more ho hp (ih p (by omega) (by omega) i hh)
def bit(m i:Nat):Bool:=Nat.testBit m i
def Gi(ops:List Oper)(y:Oper):Bool:=match y.dst with|none=>false|some d=>!iB d (looks ops y)
theorem NN{ops:List Oper}{y:Oper}(h:Gi ops y=true):∃d,y.dst=some d/\d ∉ looks ops y:=by
 unfold Gi at h
 cases hd:y.dst with
 | none=>grind
 | some d=>rw[hd]at h;exact⟨d,rfl,Qw.1 (by grind)⟩
def U4(P:Program)(ops:List Oper)(cls:List Nat)(m i:Nat)(ks:List Nat):Bool:=
 match ops[i]? with
 | none=>false
 | some o=>
  !bit m i&&((pre o).all (λ p=>bit m p) &&
  (bif NL P o then
   Bb (λ j y=>Nat.beq j i||(bit m j||(iB i (pre y)||NM ops o y))) 0 ops
  else
   Bb (λ j y=>Nat.beq j i||(bit m j||!(pre y).all (λ p=>bit m p))) 0 ops &&
   (Bb (λ r y=>!bit m r||(!HQ P y||(bit (Cr cls i) r||iB r ks))) 0 ops &&
   ks.all (λ r=>match ops[r]? with
    | none=>false
    | some y=>Gi ops y&&Bb (λ j z=>Nat.beq j r||(bit (Cr cls r) j||HS ops y z)) 0 ops))))
inductive PT where
 | nil
 | stop
 | op (i:Nat) (ks:List Nat) (r:PT)
 | alt (i:Nat) (ks:List Nat) (r o:PT)
def PT.of:List (Nat×List Nat)->PT
 | []=>.nil
 | q::r=>.op q.1 q.2 (PT.of r)
def PT.ids:PT->List Nat
 | .alt i _ _ o=>i::o.ids
 | _=>[]
def PT.many:PT->Bool
 | .alt _ _ _ _=>true
 | .op _ _ r=>r.many
 | _=>false
def aeH(P:Program)(ops:List Oper)(cls:List Nat)(m i:Nat)(ks:List Nat):Bool:=
 match ops[i]? with
 | none=>false
 | some o=>
  !bit m i&&((pre o).all (λ p=>bit m p)&&(!NL P o&&(
   (Bb (λ r y=>!bit m r||(!HQ P y||(bit (Cr cls i) r||iB r ks))) 0 ops &&
   ks.all (λ r=>match ops[r]? with
    | none=>false
    | some y=>Gi ops y&&Bb (λ j z=>Nat.beq j r||(bit (Cr cls r) j||HS ops y z)) 0 ops)))))
def Qx(P:Program)(ops:List Oper)(cls:List Nat):Bool->Nat->Nat->PT->Bool
 | c,f,m,.nil=>!c&&(Nat.beq f 0&&Bb (λ j _=>bit m j) 0 ops)
 | c,_,_,.stop=>c
 | c,f,m,.op i ks r=>!c&&(match f with|0=>false|f'+1=>U4 P ops cls m i ks&&Qx P ops cls false f' (Nat.lor m (Nat.shiftLeft 1 i)) r)
 | c,f,m,.alt i ks r o=>(c||Bb (λ j y=>bit m j||(!(pre y).all (λ p=>bit m p)||iB j (i::o.ids))) 0 ops) &&
  ((match f with|0=>false|f'+1=>aeH P ops cls m i ks&&Qx P ops cls false f' (Nat.lor m (Nat.shiftLeft 1 i)) r)&&Qx P ops cls true f m o)
def Gj(ops:List Oper):List Nat:=ops.foldl (λ acc o=>acc++[Gf acc (pre o)]) []
def PT.run(k:Nat):Nat->PT
 | 0=>.nil
 | n+1=>.op k [] (PT.run (k+1) n)
def vN(ops:List Oper)(i:Nat):Oper:=(ops[i]?).getD default
def DT(P:Program)(n:Nat)(ops:List Oper):PT->(Env->World->Prop)->List (Nat×Option Bool)->Env->World->Prop
 | .nil,Q,_,e,w=>Q e w
 | .stop,_,_,_,_=>True
 | .op i ks r,Q,kg,e,w=>DS P n ops (vN ops i,ks.map (vN ops)) (DT P n ops r Q) kg e w
 | .alt i ks r o,Q,kg,e,w=>DS P n ops (vN ops i,ks.map (vN ops)) (DT P n ops r Q) kg e w/\DT P n ops o Q kg e w
def DQ(P:Program)(ops:List Oper):PT->(Env->World->Prop)->Env->World->Prop
 | .nil,Q,e,w=>Q e w
 | .stop,_,_,_=>True
 | .op i ks r,Q,e,w=>CN P ops (vN ops i) (λ e' w'=>(w'=w\/∀r∈ks.map (vN ops),tZ P ops r e' w' True)/\DQ P ops r Q e' w') e w
 | .alt i ks r o,Q,e,w=>CN P ops (vN ops i) (λ e' w'=>(w'=w\/∀r∈ks.map (vN ops),tZ P ops r e' w' True)/\DQ P ops r Q e' w') e w/\DQ P ops o Q e w
theorem DT.plain{P:Program}{n:Nat}{ops:List Oper}{Q:Env->World->Prop}:∀(p:PT) (kg:List (Nat×Option Bool)) (e:Env) (w:World),kf kg e->DT P n ops p Q kg e w->DQ P ops p Q e w:=by
 intro p
 induction p with
 | nil=>intro kg e w _ h;exact h
 | stop=>intro kg e w _ _;trivial
 | op i ks p ih=>intro kg e w hk h;exact(HO hk h).2.mono λ v w' ⟨h1,Nt,h2,h3⟩=>⟨h1,ih Nt _ _ h2 h3⟩
 | alt i ks p o ih ih2=>intro kg e w hk h;exact⟨(HO hk h.1).2.mono λ v w' ⟨h1,Nt,h2,h3⟩=>⟨h1,ih Nt _ _ h2 h3⟩,ih2 kg e w hk h.2⟩
structure Tk where
 idx:Nat
 o:Oper
 b:Bool
 X:Dn
 v:Value
structure Ds(P:Program)(ops:List Oper)(L:Nat->Bool)(T:List Tk)(e:Env):Prop where
 op:∀x∈T,ops[x.idx]?=some x.o
 listed:∀x∈T,L x.idx=true
 kind:∀x∈T,x.X.reads=HQ P x.o
 still:∀x∈T,x.X.reads=false->x.b=true->∀w,x.X.has P w x.v
 reads:∀x∈T,x.X.reads=true->(∀j z,ops[j]?=some z->j≠x.idx->NK ops x.idx j\/HS ops x.o z=true)->Gi ops x.o=true->
  zD P x.o (ev e)=x.X/\oy ops x.o e=x.b/\∃d,x.o.dst=some d/\(x.b=true->e d=x.v)
def ST(P:Program)(ops:List Oper)(T:List Tk):Nat->World->Prop:=λ j w=>∀x∈T,NK ops j x.idx\/(x.b=true->x.X.has P w x.v)
theorem Qy{m i:Nat}:(λ k=>bit (Nat.lor m (Nat.shiftLeft 1 i)) k)=lX (λ k=>bit m k) i:=by
 funext k
 show(m ||| 1 <<< i).testBit k=_
 rw[Nat.testBit_or,Nat.one_shiftLeft,Nat.testBit_two_pow]
 grind[lX,bit]
theorem Ds.next{P:Program}{ops:List Oper}{L:Nat->Bool}{T:List Tk}{e:Env}(h:Ds P ops L T e)(hL:Down ops L){i:Nat}{o:Oper}(ho:ops[i]?=some o)(hi:L i=false)(v:Value) :
  Ds P ops (lX L i) T (jO e o.dst v):=by
 refine⟨h.op,λ x hx=>HL _ _ (h.listed x hx),h.kind,h.still,λ x hx hr iL hds=>?_⟩
 obtain⟨h1,h2,d,hd,h3⟩:=h.reads x hx hr iL hds
 have FL:i≠x.idx:=λ hh=>by have:=h.listed x hx;grind
 have alC:HS ops x.o o=true:=by
  rcases iL i o ho FL with alz|alC
  ·have:L i=true:=alz.listed hL λ o' ho' p hp=>hL x.idx o' (h.listed x hx) ho' p hp
   grind
  omega
 have hof:=Ba alC
 refine⟨by rw[CM λ k hk=>(hof k hk).1];exact h1,by rw[xn λ k hk=>(hof k hk).1];exact h2,d,hd,λ hb=>?_⟩
 have:=h3 hb
 cases JP:o.dst with
 | none=>exact this
 | some k=>
  have hkd:d≠k:=λ hh=>(hof k JP).2 (by rw[hd,hh])
  simp only[jO,ox _ _ hkd]
  exact this
theorem JQ{P:Program}{ops:List Oper}{cls:List Nat}(hc:Gg ops cls=true){f m i:Nat}{ks:List Nat}{o:Oper}{T:List Tk}{e:Env}{w:World}{Q:Env->World->Prop}{rec:Env->World->Prop}
  (ho:ops[i]?=some o) (hun:bit m i=false) (hL:Down ops (bit m)) (hT:Ds P ops (bit m) T e)
  (yE:∀(r:Nat) (y:Oper),ops[r]?=some y->(!bit m r||(!HQ P y||(bit (Cr cls i) r||iB r ks)))=true)
  (JR:∀r∈ks,(match ops[r]? with|none=>false|some y=>Gi ops y&&Bb (λ j z=>Nat.beq j r||(bit (Cr cls r) j||HS ops y z)) 0 ops)=true)
  (iL:CN P ops o (λ e' w'=>(w'=w\/∀r∈ks.map (vN ops),tZ P ops r e' w' True)/\rec e' w') e w)
  (hrec:∀v w',Ds P ops (lX (bit m) i) T (jO e o.dst v)->rec (jO e o.dst v) w'->WS P ops Q (ST P ops T) f (lX (bit m) i) (jO e o.dst v) w') :
  CN P ops o (λ e' w'=>(w'=w\/ST P ops T i w')/\WS P ops Q (ST P ops T) f (lX (bit m) i) e' w') e w:=by
 refine iL.mono λ v w' hh=>?_
 obtain⟨hkp,zH⟩:=hh
 have hTn:=hT.next hL ho hun v
 refine⟨?_,?_⟩
 ·rcases hkp with hw|hkp
  ·grind
  refine .inr λ x hx=>?_
  cases UB:x.X.reads with
  | false=>exact .inr λ hb=>hT.still x hx UB hb w'
  | true=>
   have h1:=yE x.idx x.o (hT.op x hx)
   simp only[Bool.or_eq_true,Bool.not_eq_true']at h1
   rcases h1 with h1|h1|h1|h1
   ·have:=hT.listed x hx;grind
   ·have:=hT.kind x hx;grind
   ·have Dt:i<ops.length:=(List.getElem?_eq_some_iff.1 ho).1
    exact .inl (Gh hc (i+1) i (by omega) Dt _ h1)
   ·have JS:=zG.1 h1
    have h2:=JR x.idx JS
    rw[hT.op x hx]at h2
    simp only[Bool.and_eq_true]at h2
    obtain⟨hds,h2⟩:=h2
    have h2:=nZ h2
    have hxl:x.idx<ops.length:=(List.getElem?_eq_some_iff.1 (hT.op x hx)).1
    obtain⟨e1,e2,d,hd,e3⟩:=hTn.reads x hx UB (λ k z hz FL=>by
     have:=h2 k z hz
     simp only[Nat.zero_add,Bool.or_eq_true]at this
     rcases this with h3|h3|h3
     ·simp_all
     ·exact .inl (Gh hc (x.idx+1) x.idx (by omega) hxl _ h3)
     grind) hds
    refine .inr λ hb=>?_
    have Qz:=hkp x.o (List.mem_map.2 ⟨x.idx,JS,by simp[vN,hT.op x hx]⟩)
    unfold tZ at Qz
    rw[e2,hb,e1,hd]at Qz
    simp only[cond_true]at Qz
    cases hX:x.X<;>rw[hX]at Qz UB<;>first|grind|cases UB|skip
    have:=Qz.alw
    rw[e3 hb]at this
    exact this
 grind
theorem aa5{P:Program}{ops:List Oper}{cls:List Nat}{Q:Env->World->Prop}(hc:Gg ops cls=true) :
  ∀(p:PT) (f m:Nat) (T:List Tk) (e:Env) (w:World),
   Down ops (bit m)->Ds P ops (bit m) T e->DQ P ops p Q e w->
   (Qx P ops cls false f m p=true->WS P ops Q (ST P ops T) f (bit m) e w)/\
   (Qx P ops cls true f m p=true->∀j∈p.ids,∃f',f=f'+1/\NJ ops (bit m) j/\∀oj,ops[j]?=some oj->CN P ops oj (λ e' w'=>(w'=w\/ST P ops T j w')/\WS P ops Q (ST P ops T) f' (lX (bit m) j) e' w') e w):=by
 intro p
 induction p with
 | nil=>
  intro f m T e w hL hT h
  refine⟨λ hp=>?_,λ _ j hj=>by cases hj⟩
  simp only[Qx,Bool.not_false,Bool.true_and,Bool.and_eq_true]at hp
  have vX:=nZ hp.2
  rw[Nat.eq_of_beq_eq_true hp.1]
  refine⟨λ i hr=>?_,h⟩
  obtain⟨h0,o,ho,_⟩:=hr
  grind
 | stop=>
  intro f m T e w hL hT h
  exact⟨λ hp=>by simp[Qx]at hp,λ _ j hj=>by cases hj⟩
 | op i ks p ih=>
  intro f m T e w hL hT h
  refine⟨λ hp=>?_,λ _ j hj=>by cases hj⟩
  simp only[Qx,Bool.not_false,Bool.true_and]at hp
  cases f with
  | zero=>cases hp
  | succ f=>
   simp only[Bool.and_eq_true]at hp
   obtain⟨hs,hp⟩:=hp
   unfold U4 at hs
   cases ho:ops[i]? with
   | none=>rw[ho]at hs;cases hs
   | some o=>
   rw[ho]at hs
   simp only[Bool.and_eq_true,Bool.not_eq_true',List.all_eq_true]at hs
   obtain⟨hun,agR,hs⟩:=hs
   have hr:NJ ops (bit m) i:=⟨hun,o,ho,agR⟩
   have eD:vN ops i=o:=by simp[vN,ho]
   have iL:CN P ops (vN ops i) (λ e' w'=>(w'=w\/∀r∈ks.map (vN ops),tZ P ops r e' w' True)/\DQ P ops p Q e' w') e w:=h
   rw[eD]at iL
   have FN:(bit (Nat.lor m (Nat.shiftLeft 1 i)))=lX (bit m) i:=Qy
   have hL':Down ops (lX (bit m) i):=hL.set hr
   cases hq:NL P o with
   | true=>
    rw[hq]at hs
    simp only[cond_true]at hs
    have Qu:=nZ hs
    have hqq:∀ρ,(zD P o ρ).quiet=true:=λ ρ=>by rw[(JN ρ (λ _=>undef)).1];exact hq
    obtain⟨b,v,hb,hn,hy,zH⟩:∃b v,oy ops o e=b/\(b=false->v=undef)/\(b=true->(zD P o (ev e)).has P w v)/\
      DQ P ops p Q (jO e o.dst v) w:=by
     unfold CN at iL
     cases hb:oy ops o e with
     | true=>
      rw[if_pos hb]at iL
      obtain⟨v,hv,_,zH⟩:=iL.has (hqq _)
      exact⟨true,v,rfl,by simp,λ _=>hv,zH⟩
     | false=>
      rw[if_neg (by rw[hb];simp)]at iL
      obtain⟨_,zH⟩:=iL
      exact⟨false,undef,rfl,λ _=>rfl,by simp,zH⟩
    refine WS.first (X:=zD P o (ev e)) ho hn f (bit m) e w hL hr ?_ rfl hb hy ?_
    ·intro j oj Qv hji atc eD
     have:=Qu j oj Qv
     simp only[Nat.zero_add,Bool.or_eq_true]at this
     rcases this with h1|h1|h1|h1
     ·exact absurd (Nat.eq_of_beq_eq_true h1) hji
     ·rw[atc]at h1;cases h1
     ·exact absurd (zG.1 h1) eD
     ·exact JO h1
    ·have hT':Ds P ops (lX (bit m) i) (⟨i,o,b,zD P o (ev e),v⟩::T) (jO e o.dst v):=by
      have hTn:=hT.next hL ho hun v
      constructor
      ·intro x hx;rcases List.mem_cons.1 hx with rfl|hx
       ·exact ho
       ·exact hTn.op x hx
      ·intro x hx;rcases List.mem_cons.1 hx with rfl|hx
       ·exact SN _ _
       ·exact hTn.listed x hx
      ·intro x hx;rcases List.mem_cons.1 hx with rfl|hx
       ·exact(JN _ _).2
       ·exact hTn.kind x hx
      ·intro x hx;rcases List.mem_cons.1 hx with rfl|hx
       ·intro h1 h2 w';exact Dn.SK h1 (hy h2)
       ·exact hTn.still x hx
      ·intro x hx;rcases List.mem_cons.1 hx with rfl|hx
       ·intro h1 h2 h3
        obtain⟨d,hd,U5⟩:=NN h3
        dsimp only at hd U5 |-
        have hh:∀k,o.dst=some k->k ∉ looks ops o:=λ k hk=>by rw[hd]at hk;cases hk;exact U5
        refine⟨CM hh,by rw[xn hh];exact hb,d,hd,λ _=>?_⟩
        rw[hd];exact nh _ _ _
       ·exact hTn.reads x hx
     have:=(ih f _ _ _ w (by rw[FN];exact hL') (by rw[FN];exact hT') zH).1 hp
     rw[FN]at this
     refine WS.weaken (λ j w' hj=>?_) _ _ _ _ this
     exact⟨λ x hx=>hj x (List.mem_cons_of_mem _ hx),hj _ List.mem_cons_self⟩
   | false=>
    rw[hq]at hs
    simp only[cond_false,Bool.and_eq_true,List.all_eq_true]at hs
    obtain⟨U6,yE,JR⟩:=hs
    have U6:=nZ U6
    have yE:=nZ yE
    refine⟨λ eD=>absurd hr (eD i),λ j oj Qv hj=>?_⟩
    have hji:j=i:=by
     have:=U6 j oj Qv
     simp only[Nat.zero_add,Bool.or_eq_true,Bool.not_eq_true']at this
     rcases this with h1|h1|h1
     ·simp_all
     ·have:=hj.1;grind
     ·obtain⟨_,o',ho',vX⟩:=hj
      grind
    subst hji
    rw[ho]at Qv;cases Qv
    refine JQ hc ho hun hL hT (λ r y hy=>by grind) JR iL λ v w' hTn zH=>?_
    grind
 | alt i ks p o' ih ih2=>
  intro f m T e w hL hT h
  obtain⟨h1,h2⟩:CN P ops (vN ops i) (λ e' w'=>(w'=w\/∀r∈ks.map (vN ops),tZ P ops r e' w' True)/\DQ P ops p Q e' w') e w/\DQ P ops o' Q e w:=h
  have chain:∀c,Qx P ops cls c f m (.alt i ks p o')=true->∀j∈i::o'.ids,∃f',f=f'+1/\NJ ops (bit m) j/\∀oj,ops[j]?=some oj->CN P ops oj (λ e' w'=>(w'=w\/ST P ops T j w')/\WS P ops Q (ST P ops T) f' (lX (bit m) j) e' w') e w:=by
   intro c hp
   simp only[Qx,Bool.and_eq_true]at hp
   obtain⟨_,hp,hp2⟩:=hp
   cases f with
   | zero=>cases hp
   | succ f=>
    simp only[Bool.and_eq_true]at hp
    obtain⟨hs,hp⟩:=hp
    intro j hj
    rcases List.mem_cons.1 hj with rfl|hj
    ·unfold aeH at hs
     cases ho:ops[j]? with
     | none=>rw[ho]at hs;cases hs
     | some o=>
      rw[ho]at hs
      simp only[Bool.and_eq_true,Bool.not_eq_true',List.all_eq_true]at hs
      obtain⟨hun,agR,_,yE,JR⟩:=hs
      have hr:NJ ops (bit m) j:=⟨hun,o,ho,agR⟩
      refine⟨f,rfl,hr,λ oj Qv=>?_⟩
      cases Qv
      have yE:=nZ yE
      have eD:vN ops j=o:=by simp[vN,ho]
      rw[eD]at h1
      have iL:=h1
      have FN:(bit (Nat.lor m (Nat.shiftLeft 1 j)))=lX (bit m) j:=Qy
      have hL':Down ops (lX (bit m) j):=hL.set hr
      refine JQ hc ho hun hL hT (λ r y hy=>by grind) JR iL λ v w' hTn zH=>?_
      grind
    ·exact(ih2 (f+1) m T e w hL hT h2).2 hp2 j hj
  refine⟨λ hp=>?_,λ hp=>chain true hp⟩
  have hch:=chain false hp
  simp only[Qx,Bool.false_or,Bool.and_eq_true]at hp
  have atd:=nZ hp.1
  obtain⟨f',rfl,hri,_⟩:=hch i List.mem_cons_self
  refine⟨λ eD=>absurd hri (eD i),λ j oj Qv hj=>?_⟩
  have JS:j∈i::o'.ids:=by
   have:=atd j oj Qv
   simp only[Nat.zero_add,Bool.or_eq_true,Bool.not_eq_true']at this
   rcases this with h3|h3|h3
   ·have:=hj.1;grind
   ·obtain⟨_,o2,ho2,vX⟩:=hj
    grind
   ·exact zG.1 h3
  obtain⟨f2,hf,_,iL⟩:=hch j JS
  simp_all
structure yc(F:(World->Prop)->Prop)(G:World->Prop):Prop where
 ex:∃I:World->Prop,F I/\∀w,I w->G w
structure QA(B:(World->Prop)->World->Prop)(F:(World->Prop)->Prop):Prop where
 ex:∃I:Nat->World->Prop,(∃m,F (I m))/\∀m w,I m w->B (λ w'=>∃m',m'<m/\I m' w') w
structure fc(F:(Value->World->Prop)->Prop)(G:Value->World->Prop):Prop where
 ex:∃I:Value->World->Prop,F I/\∀x0 w,I x0 w->G x0 w
structure kh(B:(Value->World->Prop)->Value->World->Prop)(F:(Value->World->Prop)->Prop):Prop where
 ex:∃I:Nat->Value->World->Prop,(∃m,F (I m))/\∀m x0 w,I m x0 w->B (λ y0 w'=>∃m',m'<m/\I m' y0 w') x0 w
structure Gk(F:(Value->Value->World->Prop)->Prop)(G:Value->Value->World->Prop):Prop where
 ex:∃I:Value->Value->World->Prop,F I/\∀x0 x1 w,I x0 x1 w->G x0 x1 w
structure o8(B:(Value->Value->World->Prop)->Value->Value->World->Prop)(F:(Value->Value->World->Prop)->Prop):Prop where
 ex:∃I:Nat->Value->Value->World->Prop,(∃m,F (I m))/\∀m x0 x1 w,I m x0 x1 w->B (λ y0 y1 w'=>∃m',m'<m/\I m' y0 y1 w') x0 x1 w
structure alD(F:(Value->Value->Value->World->Prop)->Prop)(G:Value->Value->Value->World->Prop):Prop where
 ex:∃I:Value->Value->Value->World->Prop,F I/\∀x0 x1 x2 w,I x0 x1 x2 w->G x0 x1 x2 w
structure aeK(B:(Value->Value->Value->World->Prop)->Value->Value->Value->World->Prop)(F:(Value->Value->Value->World->Prop)->Prop):Prop where
 ex:∃I:Nat->Value->Value->Value->World->Prop,(∃m,F (I m))/\∀m x0 x1 x2 w,I m x0 x1 x2 w->B (λ y0 y1 y2 w'=>∃m',m'<m/\I m' y0 y1 y2 w') x0 x1 x2 w
structure alE(F:(Value->Value->Value->Value->World->Prop)->Prop)(G:Value->Value->Value->Value->World->Prop):Prop where
 ex:∃I:Value->Value->Value->Value->World->Prop,F I/\∀x0 x1 x2 x3 w,I x0 x1 x2 x3 w->G x0 x1 x2 x3 w
structure alF(B:(Value->Value->Value->Value->World->Prop)->Value->Value->Value->Value->World->Prop)(F:(Value->Value->Value->Value->World->Prop)->Prop):Prop where
 ex:∃I:Nat->Value->Value->Value->Value->World->Prop,(∃m,F (I m))/\∀m x0 x1 x2 x3 w,I m x0 x1 x2 x3 w->B (λ y0 y1 y2 y3 w'=>∃m',m'<m/\I m' y0 y1 y2 y3 w') x0 x1 x2 x3 w
structure alG(F:(Value->Value->Value->Value->Value->World->Prop)->Prop)(G:Value->Value->Value->Value->Value->World->Prop):Prop where
 ex:∃I:Value->Value->Value->Value->Value->World->Prop,F I/\∀x0 x1 x2 x3 x4 w,I x0 x1 x2 x3 x4 w->G x0 x1 x2 x3 x4 w
structure alH(B:(Value->Value->Value->Value->Value->World->Prop)->Value->Value->Value->Value->Value->World->Prop)(F:(Value->Value->Value->Value->Value->World->Prop)->Prop):Prop where
 ex:∃I:Nat->Value->Value->Value->Value->Value->World->Prop,(∃m,F (I m))/\∀m x0 x1 x2 x3 x4 w,I m x0 x1 x2 x3 x4 w->B (λ y0 y1 y2 y3 y4 w'=>∃m',m'<m/\I m' y0 y1 y2 y3 y4 w') x0 x1 x2 x3 x4 w
def lkv(i:Nat):List (Nat×Value)->Value->Value
 | [],d=>d
 | q::r,d=>bif Nat.beq q.1 i then q.2 else lkv i r d
def FP(e:Env)(M:Nat)(bs:List (Nat×Value))(dead:Env):Env:=λ i=>bif bit M i then lkv i bs (dead i)else e i
def zI(l:List Nat)(F:(Env->World->Prop)->Prop)(G:List (Nat×Value)->World->Prop):Prop:=
 match l with
 | []=>yc (λ K=>F (λ e w=>K w)) (λ w=>G [] w)
 | [a0]=>fc (λ K=>F (λ e w=>K (e a0) w)) (λ x0 w=>G [(a0,x0)] w)
 | [a0,a1]=>Gk (λ K=>F (λ e w=>K (e a0) (e a1) w)) (λ x0 x1 w=>G [(a0,x0),(a1,x1)] w)
 | [a0,a1,a2]=>alD (λ K=>F (λ e w=>K (e a0) (e a1) (e a2) w)) (λ x0 x1 x2 w=>G [(a0,x0),(a1,x1),(a2,x2)] w)
 | [a0,a1,a2,a3]=>alE (λ K=>F (λ e w=>K (e a0) (e a1) (e a2) (e a3) w)) (λ x0 x1 x2 x3 w=>G [(a0,x0),(a1,x1),(a2,x2),(a3,x3)] w)
 | [a0,a1,a2,a3,a4]=>alG (λ K=>F (λ e w=>K (e a0) (e a1) (e a2) (e a3) (e a4) w)) (λ x0 x1 x2 x3 x4 w=>G [(a0,x0),(a1,x1),(a2,x2),(a3,x3),(a4,x4)] w)
 | _=>False
def zJ(l:List Nat)(B:(Env->World->Prop)->List (Nat×Value)->World->Prop)(e:Env)(w:World):Prop:=
 match l with
 | []=>QA (λ K w=>B (λ e' w'=>K w') [] w) (λ K=>K w)
 | [a0]=>kh (λ K x0 w=>B (λ e' w'=>K (e' a0) w') [(a0,x0)] w) (λ K=>K (e a0) w)
 | [a0,a1]=>o8 (λ K x0 x1 w=>B (λ e' w'=>K (e' a0) (e' a1) w') [(a0,x0),(a1,x1)] w) (λ K=>K (e a0) (e a1) w)
 | [a0,a1,a2]=>aeK (λ K x0 x1 x2 w=>B (λ e' w'=>K (e' a0) (e' a1) (e' a2) w') [(a0,x0),(a1,x1),(a2,x2)] w) (λ K=>K (e a0) (e a1) (e a2) w)
 | [a0,a1,a2,a3]=>alF (λ K x0 x1 x2 x3 w=>B (λ e' w'=>K (e' a0) (e' a1) (e' a2) (e' a3) w') [(a0,x0),(a1,x1),(a2,x2),(a3,x3)] w) (λ K=>K (e a0) (e a1) (e a2) (e a3) w)
 | [a0,a1,a2,a3,a4]=>alH (λ K x0 x1 x2 x3 x4 w=>B (λ e' w'=>K (e' a0) (e' a1) (e' a2) (e' a3) (e' a4) w') [(a0,x0),(a1,x1),(a2,x2),(a3,x3),(a4,x4)] w) (λ K=>K (e a0) (e a1) (e a2) (e a3) (e a4) w)
 | _=>False
def jA(l:List Nat)(e:Env):List (Nat×Value):=l.map λ a=>(a,e a)
theorem zI.spec{l:List Nat}{F:(Env->World->Prop)->Prop}{G:List (Nat×Value)->World->Prop}(h:zI l F G) :
  ∃I:List (Nat×Value)->World->Prop,F (λ e w=>I (jA l e) w)/\∀(e:Env) w,I (jA l e) w->G (jA l e) w:=by
 unfold zI at h
 split at h
 ·obtain⟨I,h1,h2⟩:=h.ex
  exact⟨λ _ w=>I w,h1,λ _ w hi=>h2 w hi⟩
 ·obtain⟨I,h1,h2⟩:=h.ex
  exact⟨λ q w=>match q with|[x0]=>I x0.2 w|_=>False,h1,λ e w hi=>h2 _ w hi⟩
 ·obtain⟨I,h1,h2⟩:=h.ex
  exact⟨λ q w=>match q with|[x0,x1]=>I x0.2 x1.2 w|_=>False,h1,λ e w hi=>h2 _ _ w hi⟩
 ·obtain⟨I,h1,h2⟩:=h.ex
  exact⟨λ q w=>match q with|[x0,x1,x2]=>I x0.2 x1.2 x2.2 w|_=>False,h1,λ e w hi=>h2 _ _ _ w hi⟩
 ·obtain⟨I,h1,h2⟩:=h.ex
  exact⟨λ q w=>match q with|[x0,x1,x2,x3]=>I x0.2 x1.2 x2.2 x3.2 w|_=>False,h1,λ e w hi=>h2 _ _ _ _ w hi⟩
 ·obtain⟨I,h1,h2⟩:=h.ex
  exact⟨λ q w=>match q with|[x0,x1,x2,x3,x4]=>I x0.2 x1.2 x2.2 x3.2 x4.2 w|_=>False,h1,λ e w hi=>h2 _ _ _ _ _ w hi⟩
 grind
theorem zJ.spec{l:List Nat}{B:(Env->World->Prop)->List (Nat×Value)->World->Prop}{e:Env}{w:World}(h:zJ l B e w) :
  ∃I:Nat->List (Nat×Value)->World->Prop,(∃m,I m (jA l e) w)/\
   ∀m e w,I m (jA l e) w->B (λ e' w'=>∃m',m'<m/\I m' (jA l e') w') (jA l e) w:=by
 unfold zJ at h
 split at h
 ·obtain⟨I,⟨m,h1⟩,h2⟩:=h.ex
  exact⟨λ m _ w=>I m w,⟨m,h1⟩,λ m _ w hi=>h2 m w hi⟩
 ·obtain⟨I,⟨m,h1⟩,h2⟩:=h.ex
  exact⟨λ m q w=>match q with|[x0]=>I m x0.2 w|_=>False,⟨m,h1⟩,λ m e w hi=>h2 m _ w hi⟩
 ·obtain⟨I,⟨m,h1⟩,h2⟩:=h.ex
  exact⟨λ m q w=>match q with|[x0,x1]=>I m x0.2 x1.2 w|_=>False,⟨m,h1⟩,λ m e w hi=>h2 m _ _ w hi⟩
 ·obtain⟨I,⟨m,h1⟩,h2⟩:=h.ex
  exact⟨λ m q w=>match q with|[x0,x1,x2]=>I m x0.2 x1.2 x2.2 w|_=>False,⟨m,h1⟩,λ m e w hi=>h2 m _ _ _ w hi⟩
 ·obtain⟨I,⟨m,h1⟩,h2⟩:=h.ex
  exact⟨λ m q w=>match q with|[x0,x1,x2,x3]=>I m x0.2 x1.2 x2.2 x3.2 w|_=>False,⟨m,h1⟩,λ m e w hi=>h2 m _ _ _ _ w hi⟩
 ·obtain⟨I,⟨m,h1⟩,h2⟩:=h.ex
  exact⟨λ m q w=>match q with|[x0,x1,x2,x3,x4]=>I m x0.2 x1.2 x2.2 x3.2 x4.2 w|_=>False,⟨m,h1⟩,λ m e w hi=>h2 m _ _ _ _ _ w hi⟩
 grind
def U7(m d:Nat):Nat:=Nat.lor m (Nat.shiftLeft 1 d)
def alI(m d:Nat):Nat:=bif bit m d then Nat.sub m (Nat.shiftLeft 1 d)else m
def yF:List Nat->Nat
 | []=>0
 | d::r=>U7 (yF r) d
def vY:List Operand->Nat->Nat
 | [],m=>m
 | .tmp t::r,m=>U7 (vY r m) t
 | _::r,m=>vY r m
def lkX(id:Nat):List (Nat×Nat)->Nat
 | []=>0
 | q::r=>bif Nat.beq q.1 id then q.2 else lkX id r
def U8:List Oper->Nat->Nat
 | [],lo=>lo
 | o::r,lo=>vY o.op.operands.toList (match o.dst with|some d=>alI (U8 r lo) d|none=>U8 r lo)
def alJ:List Nat->Nat->Nat
 | [],m=>m
 | d::r,m=>alJ r (alI m d)
def li(rl:Nat):Code->List (Nat×Nat)->Nat->Nat
 | .skip,_,lo=>lo
 | .ret,_,_=>rl
 | .exit id,X,_=>lkX id X
 | .region _ ops _,_,lo=>U8 ops.toList lo
 | .seq a b,X,lo=>li rl a X (li rl b X lo)
 | .cond c a b,X,lo=>vY [c] (Nat.lor (li rl a X lo) (li rl b X lo))
 | .block id c,X,lo=>li rl c ((id,lo)::X) lo
 | .loop c,X,_=>li rl c X (li rl c X 0)
 | .rangeFunc g ps a b,X,lo=>vY [g] (Nat.lor lo (alJ ps.toList (li rl a X (li rl b X lo))))
 | _,_,_=>0
def fB:Code->Bool
 | .seq a b=>fB a||fB b
 | .cond _ a b=>fB a||fB b
 | .block _ c=>fB c
 | .loop c=>fB c
 | .rangeFunc _ _ _ _=>true
 | _=>false
def iM:Code->Nat
 | .region _ ops _=>yF (wr ops.toList)
 | .seq a b=>Nat.lor (iM a) (iM b)
 | .cond _ a b=>Nat.lor (iM a) (iM b)
 | .block _ c=>iM c
 | .loop c=>iM c
 | _=>0
def guarded:List Oper->Bool
 | []=>false
 | o::r=>o.guard.isSome||guarded r
def aa7(a b:Nat):Nat:=Nat.add a b
mutual
def exC(id:Nat):Code->Nat
 | .exit k=>bif Nat.beq k id then 1 else 0
 | .seq a b=>bif Nat.beq (nxC a) 0 then exC id a else aa7 (exC id a) (exC id b)
 | .cond _ a b=>aa7 (exC id a) (exC id b)
 | .block _ c=>exC id c
 | .loop c=>exC id c
 | .rangeFunc _ _ _ b=>exC id b
 | _=>0
def nxC:Code->Nat
 | .skip=>1
 | .region _ ops _=>bif guarded ops.toList then 2 else 1
 | .seq a b=>bif Nat.beq (nxC a) 0 then 0 else nxC b
 | .cond _ a b=>aa7 (nxC a) (nxC b)
 | .block id c=>aa7 (nxC c) (exC id c)
 | .rangeFunc _ _ _ _=>1
 | _=>0
end
def fX(m:Nat):Nat->Nat->List Nat
 | 0,_=>[]
 | f+1,i=>bif bit m i then i::fX m f (i+1)else fX m f (i+1)
abbrev Cs:=Exit->List Nat->Env->World->Prop
def sQ(K:List Nat->Env->World->Prop)(Q:Cs):Cs
 | .normal,ds,e,w=>K ds e w
 | x,ds,e,w=>Q x ds e w
def U9(id:Nat)(Q:Cs):Cs
 | .exit k,ds,e,w=>bif Nat.beq k id then Q .normal ds e w else Q (.exit k) ds e w
 | x,ds,e,w=>Q x ds e w
def Va(K:Option Code->World->Prop):Cs
 | .normal,_,_,w=>K none w
 | .ret,_,_,w=>K (some .ret) w
 | .exit id,_,_,w=>K (some (.exit id)) w
 | _,_,_,_=>False
def aft(N R:Nat->World->Prop)(X:Nat->Nat->World->Prop):Option Code->Nat->World->Prop
 | none=>N
 | some .ret=>R
 | some (.exit id)=>X id
 | _=>λ _ _=>False
def outs:List Nat->Code->Bool
 | l,.exit id=>!(l.any λ k=>Nat.beq k id)
 | l,.seq a b=>outs l a||outs l b
 | l,.cond _ a b=>outs l a||outs l b
 | l,.block id c=>outs (id::l) c
 | l,.loop c=>outs l c
 | _,_=>false
def Du:List Value->Nat->Value
 | [],_=>undef
 | v::_,0=>v
 | _::r,k+1=>Du r k
def Gl(args:List Value):List Nat->Nat->Env->Env
 | [],_,e=>e
 | p::r,k,e=>Gl args r (k+1) (zy e p (Du args k))
def lh(ds:List Nat):Value:=.tuple (ds.map fun (D:Nat)=>Value.int .u64 (D:Int)).toArray
def agT:Value->Nat
 | .int _ n=>n.toNat
 | _=>0
def zK:Value->List Nat
 | .tuple vs=>vs.toList.map agT
 | _=>[]
theorem Bc(ds:List Nat):zK (lh ds)=ds:=by
 show(ds.map fun (D:Nat)=>Value.int .u64 (D:Int)).map agT=ds
 rw[List.map_map]
 conv=>rhs;rw[<- List.map_id ds]
 exact List.map_congr_left λ D _=>by simp[agT]
structure zL(P:Program)(fv:Value)(np:Nat)(w:World)(round:List Value->World->(World->(World->Prop)->Prop)->(Option Code->World->Prop)->Prop)(after:Option Code->Nat->World->Prop):Prop where
 ex:∃gf cap,fv=.func (.func gf) #[] cap/\Plain P gf/\∀L0:Loop,L0.state=.ready->L0.pending=none->
  (∀(args:List Value) (W:World) (K:Value->World->Prop),args.length=np->W.heap[w.heap.size+1]?=some (.loop L0)->
   round args W (λ w1 k=>w1.heap[w.heap.size+1]?=some (.loop L0)/\k (w1.putObj (w.heap.size+1) (.loop {L0 with state:=.busy})))
    (λ j W'=>W'.heap[w.heap.size+1]?=some (.loop {L0 with state:=.busy})/\K (.bool j.isNone) (W'.putObj (w.heap.size+1) (.loop {L0 with state:=if j.isNone then .ready else .done,pending:=j})))->
   YieldAt (FO none) 0 P (w.heap.size+1) args.toArray W (tX K))->
  Calls P gf (#[.func (.yield (w.heap.size+1)) #[] #[]]++cap) ((w.alloc (.deferred (some []))).alloc (.loop L0))
   (tX λ _ W2=>∃st j,st≠.busy/\W2.heap[w.heap.size+1]?=some (.loop {L0 with state:=st,pending:=j})/\after j w.heap.size (W2.putObj (w.heap.size+1) (.loop {L0 with state:=.exhausted,pending:=j})))
abbrev dD:=Nat->PT
def JT(pl:dD):Code->Bool
 | .region id _ true=>(pl id).many
 | .block _ c=>JT pl c
 | .seq a b=>JT pl a||JT pl b
 | .cond _ a b=>JT pl a||JT pl b
 | _=>false
def drew(w:World):World:={w with drawn:=w.drawn+1}
def D(P:Program)(n:Nat)(pl:dD)(rl:Nat):Code->List (Nat×Nat)->Nat->Cs->List Nat->Env->World->Prop
 | .skip,_,_,Q,ds,e,w=>Q .normal ds e w
 | .ret,_,_,Q,ds,e,w=>Q .ret ds e w
 | .exit id,_,_,Q,ds,e,w=>Q (.exit id) ds e w
 | .region _ ops false,_,_,Q,ds,e,w=>DR P n ops.toList (ops.toList.map λ o=>(o,[])) (Q .normal ds) [] e w
 | .region id ops true,_,_,Q,ds,e,w=>
  bif ops.toList.all (Dr n)&&(Gg ops.toList (Gj ops.toList)&&Qx P ops.toList (Gj ops.toList) false ops.toList.length 0 (pl id))then
   DT P n ops.toList (pl id) (Q .normal ds) [] e (drew w)
  else False
 | .seq a b,X,lo,Q,ds,e,w=>
  bif Nat.ble (nxC a) 1&&!JT pl a then D P n pl rl a X (li rl b X lo) (sQ (D P n pl rl b X lo Q) Q) ds e w
  else bif fB a then zI (n::fX (Nat.land (iM a) (li rl b X lo)) n 0)
   (λ K=>D P n pl rl a X (li rl b X lo) (sQ (λ ds e w=>K (zy e n (lh ds)) w) Q) ds e w)
   (λ bs w'=>∀dead,D P n pl rl b X lo Q (zK (lkv n bs undef)) (FP e (iM a) bs.tail dead) w')
  else zI (fX (Nat.land (iM a) (li rl b X lo)) n 0)
   (λ K=>D P n pl rl a X (li rl b X lo) (sQ (λ _ e w=>K e w) Q) ds e w)
   (λ bs w'=>∀dead,D P n pl rl b X lo Q ds (FP e (iM a) bs dead) w')
 | .cond c a b,X,lo,Q,ds,e,w=>yb (ev e c) (D P n pl rl a X lo Q ds e w) (D P n pl rl b X lo Q ds e w)
 | .block id c,X,lo,Q,ds,e,w=>D P n pl rl c ((id,lo)::X) lo (U9 id Q) ds e w
 | .loop c,X,_,Q,ds,e,w=>
  bif fB c then zJ (n::fX (Nat.land (iM c) (li rl c X (li rl c X 0))) n 0)
   (λ K bs w=>∀dead,D P n pl rl c X (li rl c X (li rl c X 0)) (sQ (λ ds e w=>K (zy e n (lh ds)) w) Q) (zK (lkv n bs undef)) (FP e (iM c) bs.tail dead) w) (zy e n (lh ds)) w
  else zJ (fX (Nat.land (iM c) (li rl c X (li rl c X 0))) n 0)
   (λ K bs w=>∀dead,D P n pl rl c X (li rl c X (li rl c X 0)) (sQ (λ _ e w=>K e w) Q) ds (FP e (iM c) bs dead) w) e w
 | .rangeFunc g ps asx bd,_,_,Q,ds,e,w=>
  bif ps.toList.all (λ p=>Nat.blt p n)&&(!fB asx&&!fB bd)then
   zL P (ev e g) ps.toList.length w
    (λ args W B K=>D P n pl 0 asx [] (li 0 bd [] 0) (sQ (λ ds1 e1 w1=>B w1 λ w2=>D P n pl 0 bd [] 0 (Va K) ds1 e1 w2) (λ _ _ _ _=>False)) [] (Gl args ps.toList 0 e) W)
    (aft (λ D w=>Q .normal (D::ds) e w) (λ D w=>Q .ret (D::ds) e w) (bif outs [] bd then(λ id D w=>Q (.exit id) (D::ds) e w) elseλ _ _ _=>False))
  else False
 | _,_,_,_,_,_,_=>False
theorem Vb{m d i:Nat}:bit (U7 m d) i=(bit m i||decide (i=d)):=by
 show(m ||| 1 <<< d).testBit i=_
 rw[Nat.testBit_or,Nat.one_shiftLeft,Nat.testBit_two_pow]
 unfold bit
 grind
theorem NP{l:List Nat}{i:Nat}:bit (yF l) i=true↔i∈l:=by
 induction l with
 | nil=>simp[yF,bit]
 | cons d r ih=>simp only[yF,Vb,Bool.or_eq_true,ih,decide_eq_true_eq,List.mem_cons];grind
theorem NQ{l:List Nat}{e:Env}{i:Nat}:lkv i (jA l e) (e i)=e i:=by
 induction l with
 | nil=>rfl
 | cons a r ih=>
  show(bif Nat.beq a i then e a else lkv i (jA r e) (e i))=e i
  by_cases h:a=i
  ·grind
  ·rw[A9 h];exact ih
theorem xp{e e':Env}{M:Nat}{l:List Nat}(h:∀i,bit M i=false->e' i=e i):FP e M (jA l e') e'=e':=by
 funext i
 unfold FP
 cases hb:bit M i with
 | true=>simp only[cond_true];exact NQ
 | false=>grind
theorem JU{m:Nat}:∀(f i k:Nat),k∈fX m f i->k<i+f:=by
 intro f
 induction f with
 | zero=>intro i k h;cases h
 | succ f ih=>
  grind[fX]
theorem NR{l:List Nat}{n:Nat}{v:Value}{e:Env}(h:∀k∈l,k<n):jA l (zy e n v)=jA l e:=
 List.map_congr_left λ k hk=>by rw[ox _ _ (Nat.ne_of_lt (h k hk))]
theorem Gm{l:List Nat}{n:Nat}{ds:List Nat}{e:Env}(h:∀k∈l,k<n):jA (n::l) (zy e n (lh ds))=(n,lh ds)::jA l e:=by
 show(n,zy e n (lh ds) n)::jA l (zy e n (lh ds))=_
 rw[nh,NR h]
theorem QB{m n:Nat}:∀k∈fX m n 0,k<n:=λ k hk=>by have:=JU n 0 k hk;omega
def ua(n:Nat)(M:Nat)(b:Bool)(ds:List Nat)(e:Env)(Q:Cs):Exit->Act->World->Prop:=
 λ x a' w'=>∃pJ e',jt pJ n e' a'/\(∀i,bit M i=false->e' i=e i)/\(b=false->pJ=ds)/\Q x pJ e' w'
theorem least{p:Nat->Prop}(h:∃m,p m):∃m,p m/\∀k,p k->m<=k:=by
 obtain⟨m,hm⟩:=h
 induction m using Nat.strongRecOn with
 | _ m ih=>
  grind
theorem HT{n:Nat}{args:List Value}:∀(ps:List Nat) (k:Nat) (e:Env) (a:Act),(∀p∈ps,p<n)->jt [] n e a->k+ps.length<=args.length->
  jt [] n (Gl args ps k e) {a with tmps:=(ps.zip (args.drop k)).foldl (λ t (q:Nat×Value)=>t.setIfInBounds q.1 q.2) a.tmps}:=by
 intro ps
 induction ps with
 | nil=>simp_all[Env,Gl]
 | cons p ps ih=>
  intro k e a hp ha hk
  have nH:k<args.length:=by grind
  have hd:args.drop k=Du args k::args.drop (k+1):=by
   rw[List.drop_eq_getElem_cons nH]
   congr 1
   clear ih ha hk hp
   induction args generalizing k with
   | nil=>simp at nH
   | cons v r ih2=>cases k with
    | zero=>rfl
    | succ k=>exact ih2 k (by grind)
  rw[hd]
  have h1:=ha.put (d:=some p) (λ k hk=>by simp_all) (Du args k)
  exact ih (k+1) _ _ (λ q hq=>hp q (List.mem_cons_of_mem _ hq)) h1 (by grind)
theorem Vc{P:Program}{n:Nat}{pl:dD}{g:Operand}{ps:Array Tmp}{asx bd:Code}
  (ihA:∀(r:Option Nat) (rl:Nat) (X:List (Nat×Nat)) (lo:Nat) (Q:Cs) (ds:List Nat) (e:Env) (a:Act) (w:World),
   (r=none\/fB asx=false)->jt ds n e a->D P n pl rl asx X lo Q ds e w->asx.wpIn (FO r) 0 P (ua n (iM asx) (fB asx) ds e Q) a w)
  (ihB:∀(r:Option Nat) (rl:Nat) (X:List (Nat×Nat)) (lo:Nat) (Q:Cs) (ds:List Nat) (e:Env) (a:Act) (w:World),
   (r=none\/fB bd=false)->jt ds n e a->D P n pl rl bd X lo Q ds e w->bd.wpIn (FO r) 0 P (ua n (iM bd) (fB bd) ds e Q) a w)
  (rl:Nat) (X:List (Nat×Nat)) (lo:Nat) (Q:Cs) (ds:List Nat) (e:Env) (a:Act) (w:World) (ha:jt ds n e a) (h:D P n pl rl (.rangeFunc g ps asx bd) X lo Q ds e w) :
  (Code.rangeFunc g ps asx bd).wpIn (FO none) 0 P (ua n 0 true ds e Q) a w:=by
 have h':(bif ps.toList.all (λ p=>Nat.blt p n)&&(!fB asx&&!fB bd)then
  zL P (ev e g) ps.toList.length w
   (λ args W B K=>D P n pl 0 asx [] (li 0 bd [] 0) (sQ (λ ds1 e1 w1=>B w1 λ w2=>D P n pl 0 bd [] 0 (Va K) ds1 e1 w2) (λ _ _ _ _=>False)) [] (Gl args ps.toList 0 e) W)
   (aft (λ D w=>Q .normal (D::ds) e w) (λ D w=>Q .ret (D::ds) e w) (bif outs [] bd then(λ id D w=>Q (.exit id) (D::ds) e w) elseλ _ _ _=>False))
  else False):=h
 cases hc:(ps.toList.all (λ p=>Nat.blt p n)&&(!fB asx&&!fB bd))with
 | false=>grind
 | true=>
  rw[hc]at h'
  simp only[cond_true]at h'
  simp only[Bool.and_eq_true,Bool.not_eq_true']at hc
  obtain⟨hps,hA,hB⟩:=hc
  have atg:∀p∈ps.toList,p<n:=λ p hp=>Nat.blt_eq▸List.all_eq_true.1 hps p hp
  obtain⟨gf,cap,hfv,oZ,JV⟩:=h'.ex
  refine wpIn_rangeFunc λ fn _=>?_
  let L0:Loop:={state:=.ready,pending:=none,fn,tmps:=a.tmps,params:=ps,assign:=asx,body:=bd,defers:=w.heap.size}
  have hY:=JV L0 rfl rfl (λ args W K hlen hl Dv=>?_)
  ·have hC:=hY.mono (R':=rangePost (FO none) 0 P (w.heap.size+1) (ua n 0 true ds e Q) {a with defers:=[{target:=.collected w.heap.size,args:=#[]}]++a.defers}) (λ x w3 hx=>?_)
   ·have hC1:=(yC (r:=none) (n:=0)).2 hC
    refine⟨w.heap.size+1,[{target:=.collected w.heap.size,args:=#[]}],(w.alloc (.deferred (some []))).alloc (.loop L0),
     {target:=.fn (.func gf) cap,args:=#[.func (.yield (w.heap.size+1)) #[] #[]]},(w.alloc (.deferred (some []))).alloc (.loop L0),gf,#[.func (.yield (w.heap.size+1)) #[] #[]]++cap,
     (w.alloc (.deferred (some []))).alloc (.loop L0),run_enterLoop_outer ..,?_,λ _ _=>trivial,?_,Dm,?_⟩
    rotate_left 2
    ·exact hC1
    ·have hg:a.eval g=.func (.func gf) #[] cap:=by rw[ha.eval];exact hfv
     simp only[resolve,hg]
     simp[go_sem]
    ·show(callFunc gf (#[.func (.yield (w.heap.size+1)) #[] #[]]++cap)).run P _=_
     exact zC oZ _ _
   ·
    obtain⟨v,rfl,st,j,iL,hl3,hk⟩:=hx
    refine⟨j,_,run_endLoop hl3 (by omega),?_⟩
    have hag:jt (w.heap.size::ds) n e {a with defers:=[{target:=.collected w.heap.size,args:=#[]}]++a.defers}:=⟨by rw[ha.defers];rfl,ha.size,ha.get⟩
    cases j with
    | none=>exact⟨_,e,hag,λ _ _=>rfl,λ hh=>(by cases hh),hk⟩
    | some c=>
     cases c with
     | ret=>exact wpIn_ret ⟨_,e,hag,λ _ _=>rfl,λ hh=>(by cases hh),hk⟩
     | exit id=>
       have JD:(bif outs [] bd then(λ id D w=>Q (.exit id) (D::ds) e w) elseλ _ _ _=>False:Nat->Nat->World->Prop) id w.heap.size _:=hk
       cases ho:outs [] bd with
       | true=>rw[ho]at JD;exact wpIn_exit ⟨_,e,hag,λ _ _=>rfl,λ hh=>(by cases hh),JD⟩
       | false=>grind
     | _=>exact hk.elim
  ·
   have nH:w.heap.size+1<W.heap.size:=(Array.getElem?_eq_some_iff.1 hl).1
   refine⟨fn,_,asx,bd,run_yield hl (by omega),roundIn_of_wpIn trivial ?_⟩
   have hag:jt [] n (Gl args ps.toList 0 e) {tmps:=(ps.zip args.toArray).foldl (λ t (q:Nat×Value)=>t.setIfInBounds q.1 q.2) a.tmps,defers:=[]}:=by
    have h0:jt [] n e {tmps:=a.tmps,defers:=[]}:=⟨rfl,ha.size,ha.get⟩
    have:=HT ps.toList 0 e _ atg h0 (by simpa using Nat.le_of_eq hlen.symm)
    have e1:(ps.zip args.toArray).foldl (λ t (q:Nat×Value)=>t.setIfInBounds q.1 q.2) a.tmps=(ps.toList.zip (args.drop 0)).foldl (λ t (q:Nat×Value)=>t.setIfInBounds q.1 q.2) a.tmps:=by
     rw[<- Array.foldl_toList,Array.toList_zip];simp
    grind
   refine wpIn_mono (ihA (some (w.heap.size+1)) 0 [] _ _ [] _ _ W (.inr hA) hag Dv) λ x a1 w1 hp=>?_
   obtain⟨ds1,e1,ha1,_,hd1,hq⟩:=hp
   cases x with
   | normal=>
    obtain⟨hl1,hq⟩:=hq
    refine⟨_,run_beginRound hl1 rfl,?_⟩
    refine wpIn_mono (ihB (some (w.heap.size+1)) 0 [] _ _ ds1 e1 a1 _ (.inr hB) ha1 hq) λ x a2 w2 hp=>?_
    obtain⟨ds2,e2,ha2,_,_,hq⟩:=hp
    cases x with
    | normal=>obtain⟨FH,hk⟩:=hq;exact⟨_,_,run_endRound none FH,_,rfl,hk⟩
    | ret=>obtain⟨FH,hk⟩:=hq;exact⟨_,_,run_endRound (some .ret) FH,_,rfl,hk⟩
    | exit id=>obtain⟨FH,hk⟩:=hq;exact⟨_,_,run_endRound (some (.exit id)) FH,_,rfl,hk⟩
    | _=>exact hq.elim
   | _=>exact hq.elim
theorem aba{P:Program}{n:Nat}{pl:dD}(hm:P.follows .mixedOrders=true) :
  ∀(c:Code) (r:Option Nat) (rl:Nat) (X:List (Nat×Nat)) (lo:Nat) (Q:Cs) (ds:List Nat) (e:Env) (a:Act) (w:World),
   (r=none\/fB c=false)->jt ds n e a->D P n pl rl c X lo Q ds e w->c.wpIn (FO r) 0 P (ua n (iM c) (fB c) ds e Q) a w:=by
 intro c
 induction c with
 | skip=>intro r rl X lo Q ds e a w _ ha h;exact wpIn_skip ⟨ds,e,ha,λ _ _=>rfl,λ _=>rfl,h⟩
 | ret=>intro r rl X lo Q ds e a w _ ha h;exact wpIn_ret ⟨ds,e,ha,λ _ _=>rfl,λ _=>rfl,h⟩
 | exit id=>intro r rl X lo Q ds e a w _ ha h;exact wpIn_exit ⟨ds,e,ha,λ _ _=>rfl,λ _=>rfl,h⟩
 | region id ops draw=>
  intro r rl X lo Q ds e a w _ ha h
  have hQ:∀(e':Env) (a':Act) (w':World),jt ds n e' a'->(∀k,k ∉ wr ops.toList->e' k=e k)->Q .normal ds e' w'->ua n (iM (.region id ops draw)) (fB (.region id ops draw)) ds e Q .normal a' w':=
   λ e' a' w' HM hf hq=>by
    refine⟨ds,e',HM,λ i hi=>hf i λ JS=>?_,λ _=>rfl,hq⟩
    have h1:bit (yF (wr ops.toList)) i=true:=NP.2 JS
    have h2:bit (yF (wr ops.toList)) i=false:=hi
    grind
  cases draw with
  | false=>
   have:=DR.region (r:=r) (id:=id) ha hQ (show DR P n ops.toList (ops.toList.map λ o=>(o,[])) (Q .normal ds) [] e w from h)
   omega
  | true=>
   have h':(bif ops.toList.all (Dr n)&&(Gg ops.toList (Gj ops.toList)&&Qx P ops.toList (Gj ops.toList) false ops.toList.length 0 (pl id))then
    DT P n ops.toList (pl id) (Q .normal ds) [] e (drew w)else False):=h
   cases hc:(ops.toList.all (Dr n)&&(Gg ops.toList (Gj ops.toList)&&Qx P ops.toList (Gj ops.toList) false ops.toList.length 0 (pl id)))with
   | false=>grind
   | true=>
    rw[hc]at h'
    simp only[Bool.and_eq_true]at hc
    obtain⟨h2,h3,h4⟩:=hc
    have hd:∀d∈wr ops.toList,d<n:=λ d hd=>by
     obtain⟨o,ho,JP⟩:=List.mem_filterMap.1 hd
     have:=List.all_eq_true.1 h2 o ho
     unfold Dr at this
     simp_all
    have hz:(bit 0)=λ _=>false:=by funext i;simp[bit]
    have hws:=(aa5 (Q:=Q .normal ds) h3 (pl id) ops.toList.length 0 [] e (drew w) (λ i o hi=>by grind) (by constructor<;>simp) (DT.plain _ _ _ _ (kf.nil e) h')).1 h4
    rw[hz]at hws
    have:=WS.region (r:=r) (id:=id) hm hd ha hQ hws
    omega
 | seq c1 c2 ih1 ih2=>
  intro r rl X lo Q ds e a w hr ha h
  have FQ:r=none\/fB c1=false:=hr.imp id λ h=>by grind[fB]
  have FI:r=none\/fB c2=false:=hr.imp id λ h=>by grind[fB]
  have key:∀(K:List Nat->Env->World->Prop),D P n pl rl c1 X (li rl c2 X lo) (sQ K Q) ds e w->
    (∀pJ e' a' w',jt pJ n e' a'->(∀i,bit (iM c1) i=false->e' i=e i)->(fB c1=false->pJ=ds)->K pJ e' w'->c2.wpIn (FO r) 0 P (ua n (iM c2) (fB c2) pJ e' Q) a' w')->
    (Code.seq c1 c2).wpIn (FO r) 0 P (ua n (iM (.seq c1 c2)) (fB (.seq c1 c2)) ds e Q) a w:=by
   intro K hK hk
   refine wpIn_seq (wpIn_mono (ih1 r rl X _ _ ds e a w FQ ha hK) λ x a' w' hp=>?_)
   obtain⟨pJ,e',HM,hf,hds,hq⟩:=hp
   have hor:∀i,bit (iM (.seq c1 c2)) i=false->bit (iM c1) i=false/\bit (iM c2) i=false:=λ i hi=>by
    simp_all[bit,iM]
   have hrf:fB (.seq c1 c2)=false->fB c1=false/\fB c2=false:=λ hh=>by
    grind[fB]
   cases x with
   | normal=>
    refine wpIn_mono (hk pJ e' a' w' HM hf hds hq) λ x2 a2 w2 hp2=>?_
    grind[ua,iM,fB]
   | _=>exact⟨pJ,e',HM,λ i hi=>hf i (hor i hi).1,λ hh=>hds (hrf hh).1,hq⟩
  have h':(bif Nat.ble (nxC c1) 1&&!JT pl c1 then D P n pl rl c1 X (li rl c2 X lo) (sQ (D P n pl rl c2 X lo Q) Q) ds e w
   else bif fB c1 then zI (n::fX (Nat.land (iM c1) (li rl c2 X lo)) n 0)
    (λ K=>D P n pl rl c1 X (li rl c2 X lo) (sQ (λ ds e w=>K (zy e n (lh ds)) w) Q) ds e w)
    (λ bs w'=>∀dead,D P n pl rl c2 X lo Q (zK (lkv n bs undef)) (FP e (iM c1) bs.tail dead) w')
   else zI (fX (Nat.land (iM c1) (li rl c2 X lo)) n 0)
    (λ K=>D P n pl rl c1 X (li rl c2 X lo) (sQ (λ _ e w=>K e w) Q) ds e w)
    (λ bs w'=>∀dead,D P n pl rl c2 X lo Q ds (FP e (iM c1) bs dead) w')):=h
  cases hc:(Nat.ble (nxC c1) 1&&!JT pl c1)with
  | true=>
   grind
  | false=>
   rw[hc]at h'
   simp only[cond_false]at h'
   cases hc2:fB c1 with
   | false=>
    rw[hc2]at h'
    simp only[cond_false]at h'
    obtain⟨I,h1,h2⟩:=zI.spec h'
    refine key _ h1 λ pJ e' a' w' HM hf hds hk=>?_
    have:=h2 e' w' hk e'
    rw[xp hf]at this
    grind
   | true=>
    rw[hc2]at h'
    simp only[cond_true]at h'
    obtain⟨I,h1,h2⟩:=zI.spec h'
    refine key _ h1 λ pJ e' a' w' HM hf hds hk=>?_
    have:=h2 (zy e' n (lh pJ)) w' hk e'
    rw[Gm QB]at this
    rw[show((n,lh pJ)::jA (fX (Nat.land (iM c1) (li rl c2 X lo)) n 0) e').tail=jA (fX (Nat.land (iM c1) (li rl c2 X lo)) n 0) e' from rfl,xp hf,
     show lkv n ((n,lh pJ)::jA (fX (Nat.land (iM c1) (li rl c2 X lo)) n 0) e') undef=lh pJ by show(bif Nat.beq n n then lh pJ else _)=_;simp_all,Bc]at this
    grind
 | cond c c1 c2 ih1 ih2=>
  intro r rl X lo Q ds e a w hr ha h
  obtain⟨t,ht,hA,hB⟩:=(show yb (ev e c) (D P n pl rl c1 X lo Q ds e w) (D P n pl rl c2 X lo Q ds e w)from h).ex
  have hor:∀i,bit (iM (.cond c c1 c2)) i=false->bit (iM c1) i=false/\bit (iM c2) i=false:=λ i hi=>by
   simp_all[bit,iM]
  have hrf:fB (.cond c c1 c2)=false->fB c1=false/\fB c2=false:=λ hh=>by
   grind[fB]
  refine wpIn_cond_split (t:=t) (by rw[ha.eval];exact ht) (λ h1=>?_) (λ h1=>?_)
  ·exact wpIn_mono (ih1 r rl X lo Q ds e a w (hr.imp id λ h=>(hrf h).1) ha (hA h1)) λ x a' w' ⟨pJ,e',HM,hf,hds,hq⟩=>⟨pJ,e',HM,λ i hi=>hf i (hor i hi).1,λ hh=>hds (hrf hh).1,hq⟩
  ·exact wpIn_mono (ih2 r rl X lo Q ds e a w (hr.imp id λ h=>(hrf h).2) ha (hB h1)) λ x a' w' ⟨pJ,e',HM,hf,hds,hq⟩=>⟨pJ,e',HM,λ i hi=>hf i (hor i hi).2,λ hh=>hds (hrf hh).2,hq⟩
 | block id c ih=>
  intro r rl X lo Q ds e a w hr ha h
  refine wpIn_block (wpIn_mono (ih r rl _ _ _ ds e a w hr ha h) λ x a' w' hp=>?_)
  obtain⟨pJ,e',HM,hf,hds,hq⟩:=hp
  cases x with
  | exit k=>
   simp only[Exit.inBlock]
   simp only[U9]at hq
   by_cases hk:k=id
   ·subst hk
    rw[Dp]at hq
    grind[ua,iM,fB]
   ·rw[A9 hk]at hq
    grind[ua,iM,fB]
  | _=>exact⟨pJ,e',HM,hf,hds,hq⟩
 | loop c ih=>
  intro r rl X lo Q ds e a w hr ha h
  have key:∀(V:List Nat->Env->List (Nat×Value)) (I:Nat->List (Nat×Value)->World->Prop),(∃m,I m (V ds e) w)->
    (∀m pJ e' w',(∀i,bit (iM c) i=false->e' i=e i)->(fB c=false->pJ=ds)->I m (V pJ e') w'->D P n pl rl c X (li rl c X (li rl c X 0)) (sQ (λ ds2 e2 w2=>∃m',m'<m/\I m' (V ds2 e2) w2) Q) pJ e' w')->
    (Code.loop c).wpIn (FO r) 0 P (ua n (iM (.loop c)) (fB (.loop c)) ds e Q) a w:=by
   intro V I ⟨m,h1⟩ h2
   let Inv:Nat->Act->World->Prop:=λ m a' w'=>∃pJ e',jt pJ n e' a'/\(∀i,bit (iM c) i=false->e' i=e i)/\(fB c=false->pJ=ds)/\I m (V pJ e') w'
   have body:∀m a' w',Inv m a' w'->c.wpIn (FO r) 0 P (Exit.then (λ a2 w2=>∃m',m'<m/\Inv m' a2 w2) (ua n (iM (.loop c)) (fB (.loop c)) ds e Q)) a' w':=by
    rintro m a' w' ⟨pJ,e',HM,hf,hds,hi⟩
    refine wpIn_mono (ih r rl X _ _ pJ e' a' w' hr HM (h2 m pJ e' w' hf hds hi)) λ x a2 w2 hp=>?_
    obtain⟨ds2,e2,ha2,hf2,atj,hq⟩:=hp
    have hfe:∀i,bit (iM c) i=false->e2 i=e i:=λ i hi=>(hf2 i hi).trans (hf i hi)
    have alO:fB c=false->ds2=ds:=λ hh=>(atj hh).trans (hds hh)
    cases x with
    | normal=>obtain⟨m',hm',NS⟩:=hq;exact⟨m',hm',ds2,e2,ha2,hfe,alO,NS⟩
    | _=>exact⟨ds2,e2,ha2,hfe,alO,hq⟩
   classical
   let J:Act->World->Prop:=λ a' w'=>∃m,Inv m a' w'
   let μ:Act->World->Nat:=λ a' w'=>if h:∃m,Inv m a' w' then Classical.choose (least h)else 0
   have hμ:∀a' w',J a' w'->Inv (μ a' w') a' w'/\∀k,Inv k a' w'->μ a' w'<=k:=λ a' w' hj=>by
    grind
   refine wpIn_loop J μ ⟨m,ds,e,ha,λ _ _=>rfl,λ _=>rfl,h1⟩ λ a' w' hj=>?_
   refine wpIn_mono (body _ a' w' (hμ a' w' hj).1) λ x a2 w2 hp=>?_
   cases x with
   | normal=>
    obtain⟨m',hm',NS⟩:=hp
    exact⟨⟨m',NS⟩,Nat.lt_of_le_of_lt ((hμ a2 w2 ⟨m',NS⟩).2 m' NS) hm'⟩
   | _=>exact hp
  have h':(bif fB c then zJ (n::fX (Nat.land (iM c) (li rl c X (li rl c X 0))) n 0)
    (λ K bs w=>∀dead,D P n pl rl c X (li rl c X (li rl c X 0)) (sQ (λ ds e w=>K (zy e n (lh ds)) w) Q) (zK (lkv n bs undef)) (FP e (iM c) bs.tail dead) w) (zy e n (lh ds)) w
   else zJ (fX (Nat.land (iM c) (li rl c X (li rl c X 0))) n 0)
    (λ K bs w=>∀dead,D P n pl rl c X (li rl c X (li rl c X 0)) (sQ (λ _ e w=>K e w) Q) ds (FP e (iM c) bs dead) w) e w):=h
  cases hc:fB c with
  | false=>
   rw[hc]at h'
   simp only[cond_false]at h'
   obtain⟨I,h1,h2⟩:=zJ.spec h'
   rw[show fB (.loop c)=fB c from rfl]at key
   have:=key (λ _ e=>jA (fX (Nat.land (iM c) (li rl c X (li rl c X 0))) n 0) e) I h1 λ m pJ e' w' hf hds hi=>by
    have:=h2 m e' w' hi e'
    rw[xp hf]at this
    grind
   exact this
  | true=>
   rw[hc]at h'
   simp only[cond_true]at h'
   obtain⟨I,h1,h2⟩:=zJ.spec h'
   refine key (λ ds e=>jA (n::fX (Nat.land (iM c) (li rl c X (li rl c X 0))) n 0) (zy e n (lh ds))) I h1 λ m pJ e' w' hf hds hi=>?_
   have:=h2 m (zy e' n (lh pJ)) w' hi e'
   rw[Gm QB]at this
   rw[show((n,lh pJ)::jA (fX (Nat.land (iM c) (li rl c X (li rl c X 0))) n 0) e').tail=jA (fX (Nat.land (iM c) (li rl c X (li rl c X 0))) n 0) e' from rfl,xp hf,
    show lkv n ((n,lh pJ)::jA (fX (Nat.land (iM c) (li rl c X (li rl c X 0))) n 0) e') undef=lh pJ by show(bif Nat.beq n n then lh pJ else _)=_;simp_all,Bc]at this
   exact this
 | rangeFunc g ps asx bd ihA ihB=>
  intro r rl X lo Q ds e a w hr ha h
  have Ct:r=none:=hr.resolve_right (by simp[fB])
  subst Ct
  exact Vc ihA ihB rl X lo Q ds e a w ha h
 | _=>intro r rl X lo Q ds e a w _ ha h;exact h.elim
def NT(P:Program):List ResultVar->Env->(List Value->Prop)->World->Prop
 | [],_,K,_=>K []
 | .tmp t::r,e,K,w=>NT P r e (λ vs=>K (e t::vs)) w
 | .cell a t::r,e,K,w=>JB P (Instr.loadAt t (e a)) w (λ v=>NT P r e (λ vs=>K (v::vs)) w)
def Vd:List Value->Value
 | [v]=>v
 | vs=>.tuple vs.toArray
def mH:List Nat->World->(World->Prop)->Prop
 | [],w,K=>K w
 | D::r,w,K=>w.heap[D]?=some (.deferred (some []))/\mH r (w.putObj D (.deferred none)) K
def NU(P:Program)(rs:List ResultVar)(K:Value->World->Prop):Cs
 | .normal,ds,e,w=>mH ds w λ w=>NT P rs e (λ vs=>K (Vd vs) w) w
 | .ret,ds,e,w=>mH ds w λ w=>NT P rs e (λ vs=>K (Vd vs) w) w
 | _,_,_,_=>False
def Cu:List Value->Env
 | [],_=>undef
 | v::_,0=>v
 | _::r,n+1=>Cu r n
theorem Ve(l:List Value)(i:Nat):Cu l i=l.getD i undef:=by
 induction l generalizing i with
 | nil=>simp[Cu]
 | cons v r ih=>cases i with
  | zero=>rfl
  | succ i=>simp[Cu,ih]
def SQ(tmps:Array Value):ResultVar->Sem Value
 | .tmp t=>pure (tmps.getD t undef)
 | .cell a t=>do loadVar t (<- asAddr (tmps.getD a undef))
theorem HU{P:Program}{t:TypeId}{v u:Value}{w:World}(h:(Instr.loadAt t v).run P w=.ok u w):(do loadVar t (<- asAddr v):Sem Value).run P w=.ok u w:=by
 cases v with
 | pointer a=>cases a with
  | none => exact absurd (show(Result.halt (.stuck "an address expected (no nilCheck in front?)") w : Result Value)=.ok u w from h) (by simp)
  | some a=>exact h
 | _ => exact absurd (show(Result.halt (.stuck "an address expected (no nilCheck in front?)") w : Result Value)=.ok u w from h) (by simp)
theorem Vf{P:Program}{ds:List Nat}{n:Nat}{e:Env}{a:Act}(ha:jt ds n e a):∀(rs:List ResultVar) (K:List Value->Prop) (w:World),NT P rs e K w->
  ∃vs,(rs.mapM (SQ a.tmps)).run P w=.ok vs w/\K vs:=by
 intro rs
 induction rs with
 | nil=>intro K w h;exact⟨[],rfl,h⟩
 | cons r rs ih=>
  intro K w h
  have step:∀v,(SQ a.tmps r).run P w=.ok v w->NT P rs e (λ vs=>K (v::vs)) w->∃vs,((r::rs).mapM (SQ a.tmps)).run P w=.ok vs w/\K vs:=by
   intro v hv hr
   obtain⟨vs,h1,h2⟩:=ih _ w hr
   simp_all
  cases r with
  | tmp t=>exact step (e t) (by rw[<- ha.get t];rfl) h
  | cell c t=>
   obtain⟨v,hv,hr⟩:=h.ex
   refine step v ?_ hr
   show(do loadVar t (<- asAddr (a.tmps.getD c undef)):Sem Value).run P w=_
   rw[ha.get c]
   exact HU hv
theorem JW{P:Program}{fn:Func}{rs:List ResultVar}(hr:fn.results=rs.toArray){tmps:Array Value}{w:World}{vs:List Value}
  (h:(rs.mapM (SQ tmps)).run P w=.ok vs w):(results fn tmps).run P w=.ok (Vd vs) w:=by
 have e:results fn tmps=(rs.toArray.mapM (SQ tmps) >>= λ vs=>pure (if h:vs.size=1 then vs[0]else .tuple vs)):=by
  unfold results;rw[hr];rfl
 rw[e,List.mapM_toArray]
 have h1:(Functor.map (λa=>a.toArray) (rs.mapM (SQ tmps))).run P w=.ok vs.toArray w:=by
  simp_all
 rw[eH h1]
 show Result.ok _ w=Result.ok _ w
 congr 1
 match vs with
 | []=>rfl
 | [v]=>rfl
 | a::b::r=>simp[Vd]
theorem HV{P:Program}{fn:Func}{tmps:Array Value}{R:Ending->World->Prop}:∀(ds:List Nat) (w:World),mH ds w (λ w'=>∃v,(results fn tmps).run P w'=.ok v w'/\R (.returned v) w')->
  LeavesInM (FO none) 0 P fn tmps R (ds.map mark) .returning w:=by
 intro ds
 induction ds with
 | nil=>intro w ⟨v,h1,h2⟩;exact⟨v,h1,h2⟩
 | cons D r ih=>intro w h;exact⟨by simp,.inl ⟨D,_,rfl,run_takeDeferred h.1,ih _ h.2⟩⟩
theorem mH.mono{ds:List Nat}{K K':World->Prop}(hk:∀w,K w->K' w):∀{w:World},mH ds w K->mH ds w K':=by
 induction ds with
 | nil=>intro w h;exact hk w h
 | cons D r ih=>intro w h;exact⟨h.1,ih h.2⟩
theorem Dw{P:Program}{n:Nat}{pl:dD}{rl:Nat}{f:FuncId}{fn:Func}{c:Code}{rs:List ResultVar}{args:List Value}{w:World}{K:Value->World->Prop}
  (hm:P.follows .mixedOrders=true) (hf:P.funcs[f]?=some fn) (hb:fn.body=some c) (hn:fn.ntmps=n) (hr:fn.results=rs.toArray) (hle:args.length<=n)
  (h:D P n pl rl c [] rl (NU P rs K) [] (Cu args) w):Calls P f args.toArray w (tX K):=by
 refine yC.1 (callsIn_of_wp_marks (F:=FO none) (n:=0) hf hb trivial ?_)
 have ha:jt [] n (Cu args) {tmps:=args.toArray++Array.replicate (fn.ntmps-args.toArray.size) undef,defers:=[]}:=by
  refine⟨rfl,by grind,λ i=>?_⟩
  rw[Ve,Array.getD_eq_getD_getElem?,Array.getElem?_append]
  grind
 refine wpIn_mono (aba hm c none rl [] rl _ [] _ _ w (.inl rfl) ha h) λ x a' w' hp=>?_
 obtain⟨pJ,e',HM,_,_,hq⟩:=hp
 have fin:mH pJ w' (λ w=>NT P rs e' (λ vs=>K (Vd vs) w) w)->LeavesInM (FO none) 0 P fn a'.tmps (tX K) a'.defers .returning w':=λ hq=>by
  rw[HM.defers]
  refine HV pJ w' (hq.mono λ w1 h1=>?_)
  obtain⟨vs,h1,h2⟩:=Vf HM rs _ w1 h1
  exact⟨_,JW hr h1,_,rfl,h2⟩
 cases x with
 | normal=>exact fin hq
 | ret=>exact fin hq
 | _=>exact hq.elim
theorem okD{P:Program}{n:Nat}{pl:dD}{rl:Nat}{f:FuncId}{fn:Func}{c:Code}{rs:List ResultVar}{args:List Value}{w:World}{K:Value->World->Prop}{S:Prop}
  (hf:P.funcs[f]?=some fn) (hb:fn.body=some c) (hn:fn.ntmps=n) (hr:fn.results=rs.toArray) (hm:P.follows .mixedOrders=true) (hle:args.length<=n)
  (e:D P n pl rl c [] rl (NU P rs K) [] (Cu args) w=S) (h:S):Calls P f args.toArray w (tX K):=Dw hm hf hb hn hr hle (e.mpr h)
theorem okE{P:Program}(n:Nat)(pl:dD)(rl:Nat)(rs:List ResultVar){f:FuncId}{fn:Func}{args:List Value}{w:World}{K:Value->World->Prop}{S:Prop}
  (hf:P.funcs[f]?=some fn) (hb:fn.body=some (fn.body.getD .skip)) (hn:fn.ntmps=n) (hr:fn.results=rs.toArray) (hm:P.follows .mixedOrders=true) (hle:args.length<=n)
  (e:D P n pl rl (fn.body.getD .skip) [] rl (NU P rs K) [] (Cu args) w=S) (h:S):Calls P f args.toArray w (tX K):=okD hf hb hn hr hm hle e h
theorem okZ{P:Program}(n:Nat)(pl:dD)(rl:Nat)(rs:List ResultVar){f:FuncId}{fn:Func}{args:List Value}{w:World}{K:Value->World->Prop}{S:Prop}
  (hf:P.funcs[f]?=some fn) (hm:P.follows .mixedOrders=true) (hc:(fn.body.isSome,fn.ntmps,fn.results,Nat.ble args.length n)=(true,n,rs.toArray,true))
  (e:D P n pl rl (fn.body.getD .skip) [] rl (NU P rs K) [] (Cu args) w=S) (h:S):Calls P f args.toArray w (tX K):=by
 have h1:fn.body.isSome=true:=congrArg (λ x=>x.1) hc
 have h2:fn.ntmps=n:=congrArg (λ x=>x.2.1) hc
 have h3:fn.results=rs.toArray:=congrArg (λ x=>x.2.2.1) hc
 have h4:Nat.ble args.length n=true:=congrArg (λ x=>x.2.2.2) hc
 have h5:fn.body=some (fn.body.getD .skip):=by
  cases hb:fn.body with
  | none=>rw[hb]at h1;cases h1
  | some c=>rfl
 exact okD hf h5 h2 h3 hm (Nat.le_of_ble_eq_true h4) e h
theorem dF{P : Program}{f : FuncId}{fn : Func}(hf : P.funcs[f]?=some fn)(h : (fn.name == "runtime.NumGoroutine", fn.body.isNone)=(false, false) := by kernel_rfl) : Plain P f := ⟨fn, hf, congrArg (λ x => x.1) h, congrArg (λ x => x.2) h⟩
theorem vb{a b:Bool}(h:a=b):Value.bool a=Value.bool b:=congrArg _ h
theorem JX{p:Prop}[Decidable p](h:p):Value.bool true=Value.bool (decide p):=vb (decide_eq_true h).symm
theorem jvF{p:Prop}[Decidable p](h:¬ p):Value.bool false=Value.bool (decide p):=vb (decide_eq_false h).symm
theorem xS{p q:Prop}[Decidable p][Decidable q](h:p↔q):Value.bool (decide p)=Value.bool (decide q):=vb (decide_eq_decide.2 h)
end Go.Fw
namespace Go.Proofs.YtpdlpabnlkofmaaGreatDoor
open Go.Fw
variable (w:World) (K:Value->World->Prop)
abbrev i(n:Int):Value:=.int .i64 n
abbrev tt:Value:=.bool true
abbrev ff:Value:=.bool false
abbrev fA(T:Nat)(v:Value)(f:Nat)(K:Value->Prop):Prop:=eN Tryz.prog (Instr.fieldAt T v f) K
abbrev iA(T:Nat)(v j:Value)(K:Value->Prop):Prop:=eN Tryz.prog (Instr.indexAt T v j) K
abbrev lA(T:Nat)(p:Value)(w:World)(K:Value->Prop):Prop:=JB Tryz.prog (Instr.loadAt T p) w K
abbrev sA(T:Nat)(p v:Value)(w:World)(K:World->Prop):Prop:=Uz Tryz.prog (Instr.storeAt T p v) w K
abbrev bA(o:BinOp)(T:Nat)(x y:Value)(K:Value->Prop):Prop:=eN Tryz.prog (jz o T false false x y) K
abbrev bB(o:BinOp)(T:Nat)(x y:Value)(K:Value->Prop):Prop:=eN Tryz.prog (jz o T false true x y) K
abbrev bC(o:BinOp)(T:Nat)(x y:Value)(K:Value->Prop):Prop:=eN Tryz.prog (jz o T true false x y) K
abbrev cF(f:Nat)(args:List Value)(w:World)(K:Value->World->Prop):Prop:=B2 Tryz.prog f args w K
abbrev nC(v:Value)(K:Value->Prop):Prop:=eN Tryz.prog (SJ v) K
abbrev lN(T:Nat)(v:Value)(K:Value->Prop):Prop:=eN Tryz.prog (Builtin.len_ #[T] 3 [v].toArray) K
abbrev aL(T:Nat)(w:World)(K:Value->World->Prop):Prop:=rC Tryz.prog (Instr.alloc T true (.tuple #[])) w K
abbrev xT(v:Value)(k:Nat)(K:Value->Prop):Prop:=eN Tryz.prog (Instr.extract v k) K
abbrev kA(T:Nat)(p v:Value)(w:World)(R:Prop):Prop:=Qr Tryz.prog (Instr.loadAt T p) v w R
abbrev aP(T:Nat)(a b:Value)(w:World)(K:Value->World->Prop):Prop:=rC Tryz.prog (Builtin.append_ #[T,T] T [a,b].toArray) w K
abbrev bS(T n:Nat)(l:List (Nat×Value))(w:World)(K:Value->World->Prop):Prop:=rC Tryz.prog (Instr.buildSlice T n l.toArray) w K
abbrev cV(v:Value)(a b:Prop):Prop:=yb v a b
noncomputable abbrev PG:Program:=Tryz.prog
abbrev CR(n:Nat)(a:List Value)(w:World)(K:Value->World->Prop):Prop:=Calls Tryz.prog n a.toArray w (tX K)
abbrev PL(n:Nat):Prop:=Plain Tryz.prog n
theorem mixed:Tryz.prog.follows .mixedOrders=true:=by kernel_rfl
theorem qz(n:Nat)(pl:dD)(rl:Nat)(rs:List ResultVar){f:FuncId}{fn:Func}{args:List Value}{w:World}{K:Value->World->Prop}{S:Prop}
  (hf:PG.funcs[f]?=some fn) (h:S) (hc:(fn.body.isSome,fn.ntmps,fn.results,Nat.ble args.length n)=(true,n,rs.toArray,true):=by kernel_rfl)
  (e:D PG n pl rl (fn.body.getD .skip) [] rl (NU PG rs K) [] (Cu args) w=S:=by kernel_rfl):CR f args w K:=okZ n pl rl rs hf mixed hc e h
def SR:List ResultVar->Nat
 | []=>0
 | .tmp t::r=>U7 (SR r) t
 | .cell a _::r=>U7 (SR r) a
theorem oY{f:FuncId}{fn:Func}(hf:Tryz.prog.funcs[f]?=some fn){args:List Value}{w:World}{K:Value->World->Prop}{pl:dD}
  (h:D Tryz.prog fn.ntmps pl (SR fn.results.toList) (fn.body.getD .skip) [] (SR fn.results.toList) (NU Tryz.prog fn.results.toList K) [] (Cu args) w)
  (hc:(fn.body.isSome,Nat.ble args.length fn.ntmps)=(true,true):=by kernel_rfl):Calls Tryz.prog f args.toArray w (tX K):=by
 have h1:fn.body.isSome=true:=congrArg (λ x=>x.1) hc
 have h5:fn.body=some (fn.body.getD .skip):=by
  cases hb:fn.body with
  | none=>rw[hb]at h1;cases h1
  | some c=>rfl
 exact Dw mixed hf h5 rfl (by simp) (Nat.le_of_ble_eq_true (congrArg (λ x=>x.2) hc)) h
theorem eS{f:FuncId}{fn:Func}(hf:Tryz.prog.funcs[f]?=some fn){args:List Value}{w:World}{K:Value->World->Prop}
  (h:D Tryz.prog fn.ntmps (λ _=>.nil) (SR fn.results.toList) (fn.body.getD .skip) [] (SR fn.results.toList) (NU Tryz.prog fn.results.toList K) [] (Cu args) w)
  (hc:(fn.body.isSome,Nat.ble args.length fn.ntmps)=(true,true):=by kernel_rfl):Calls Tryz.prog f args.toArray w (tX K):=oY hf h hc
def P11:dD:=λ i=>match i with
 | 1=>(.op 0 [] (.op 1 [] (.op 3 [] (.op 4 [] (.op 6 [] (.op 7 [] (.op 9 [] (.op 10 [] (.alt 2 [4,7,10] (.alt 5 [7,10] (.alt 8 [10] (.alt 11 [] (.of [(12,[]),(13,[1,4,7,10]),(14,[])]) (.alt 13 [1,4,7,10] (.of [(11,[]),(12,[]),(14,[])]) .stop)) (.alt 13 [1,4,7,10] (.of [(8,[10]),(11,[]),(12,[]),(14,[])]) .stop)) (.alt 13 [1,4,7,10] (.of [(5,[7,10]),(8,[10]),(11,[]),(12,[]),(14,[])]) .stop)) (.alt 13 [1,4,7,10] (.of [(2,[4,7,10]),(5,[7,10]),(8,[10]),(11,[]),(12,[]),(14,[])]) .stop))))))))))
 | 5=>(.of [(0,[]),(1,[]),(2,[]),(3,[]),(4,[]),(5,[]),(6,[]),(7,[1]),(8,[1]),(9,[]),(10,[]),(11,[])])
 | 9=>(.of [(0,[]),(1,[]),(2,[]),(3,[]),(4,[]),(5,[]),(6,[]),(7,[]),(9,[]),(10,[]),(11,[]),(12,[]),(13,[]),(14,[]),(8,[1,10,14]),(15,[]),(16,[1]),(17,[]),(18,[]),(19,[])])
 | _=>.nil
def P19:dD:=λ i=>match i with
 | 6=>.run 0 51
 | _=>.nil
def P46:dD:=λ i=>match i with
 | 5=>(.op 0 [] (.op 1 [] (.op 2 [] (.op 3 [] (.op 4 [] (.op 5 [] (.op 6 [] (.op 7 [] (.op 8 [] (.op 9 [] (.op 10 [] (.op 11 [] (.op 12 [] (.op 13 [] (.op 14 [] (.op 15 [] (.op 16 [] (.op 17 [] (.op 18 [] (.op 19 [] (.op 20 [] (.op 21 [] (.op 22 [] (.alt 23 [4,9,17] (.of [(24,[]),(25,[4,9,17,22]),(26,[])]) (.alt 25 [4,9,17,22] (.of [(23,[4,9,17]),(24,[]),(26,[])]) .stop)))))))))))))))))))))))))
 | 9=>(.of [(0,[]),(1,[]),(2,[]),(3,[]),(4,[]),(5,[]),(6,[]),(7,[]),(8,[]),(9,[]),(10,[]),(11,[]),(12,[]),(13,[]),(14,[]),(15,[]),(16,[]),(17,[]),(18,[]),(19,[]),(20,[]),(21,[1]),(22,[]),(23,[]),(24,[])])
 | _=>.nil
def S57(p0:Value):Prop:=
 rC Tryz.prog (Instr.box 27 p0) w λ p1 a=>lA 27 p1 a λ b=>cF 118 [b] a λ c d=>eN Tryz.prog (Op.unary .not c) λ e=>cV e (K (.tuple #[(i 8),(i 0)]) d) (lA 27 p1 d λ f=>
 cF 119 [f] d λ g h=>cV g (K (.tuple #[(i 2),(i 0)]) h) (lA 27 p1 h λ j=>cF 120 [j] h λ k l=>kh (λ K1 i5 n=>∀_:Env,
 lN 24 k λ o=>bA .lss 3 i5 o λ p=>cV p (iA 24 k i5 λ q=>fA 146 q 2 λ r=>lA 141 r n λ s=>cF 121 [s,(i 1)] n λ t u=>bB .geq 3 t (i 0) λ v=>cV v (K (.tuple #[(i 11),t]) u) (
 bB .add 3 i5 (i 1) λ x=>K1 x u)) (lA 27 p1 n λ y=>cF 122 [y] n λ z aa=>bB .geq 3 z (i 0) λ ab=>cV ab (K (.tuple #[(i 10),z]) aa) (kh (λ K2 i8 ac=>∀_:Env,
 lN 24 k λ ad=>bA .lss 3 i8 ad λ ae=>cV ae (kh (λ K3 k9 af=>∀_:Env,
 iA 24 k i8 λ ag=>fA 146 ag 1 λ ah=>lA 91 ah af λ ai=>lN 91 ai λ aj=>bA .lss 3 k9 aj λ ak=>cV ak (iA 24 k i8 λ al=>fA 146 al 1 λ am=>lA 91 am af λ an=>iA 91 an k9 λ ao=>
 lA 9 ao af λ ap=>fc (λ K4=>iA 24 k i8 λ aq=>fA 146 aq 1 λ ar=>lA 91 ar af λ asx=>cF 123 [asx,ap] af λ au av=>bA .lss 3 au k9 λ aw=>cV aw (K4 tt av) (lA 27 p1 av λ ax=>
 cF 124 [ax] av λ ay az=>cF 123 [ay,ap] az λ a0 a1=>bB .geq 3 a0 (i 0) λ a2=>cV a2 (K4 tt a1) (lA 27 p1 a1 λ a3=>cF 125 [a3] a1 λ a4 a5=>cF 123 [a4,ap] a5 λ a6 a7=>
 bB .geq 3 a6 (i 0) λ a8=>K4 a8 a7))) (λ a9 ba=>∀_:Env,
 cV a9 (iA 24 k i8 λ bb=>fA 146 bb 3 λ bc=>lA 3 bc (drew ba) λ bd=>K (.tuple #[(i 10),bd]) (drew ba)) (bB .add 3 k9 (i 1) λ be=>K3 be ba))) (bB .add 3 i8 (i 1) λ bf=>
 K2 bf af)) (λ K3=>K3 (i 0) ac)) (kh (λ K5 i11 bg=>∀_:Env,
 lN 24 k λ bh=>bA .lss 3 i11 bh λ bi=>cV bi (kh (λ K6 k12 bj=>∀_:Env,
 iA 24 k i11 λ bk=>fA 146 bk 2 λ bl=>lA 141 bl bj λ bm=>lN 141 bm λ bn=>bA .lss 3 k12 bn λ bo=>cV bo (lA 27 p1 (drew bj) λ bp=>iA 24 k i11 λ bq=>lA 146 bq (drew bj) λ br=>
 iA 24 k i11 λ bs=>fA 146 bs 2 λ bt=>lA 141 bt (drew bj) λ bu=>iA 141 bu k12 λ bv=>lA 193 bv (drew bj) λ bw=>cF 126 [bp,br,bw] (drew bj) λ bx bz=>bB .geq 3 bx (i 0) λ b0=>
 cV b0 (K (.tuple #[(i 9),bx]) bz) (bB .add 3 k12 (i 1) λ b1=>K6 b1 bz)) (bB .add 3 i11 (i 1) λ b2=>K5 b2 bj)) (λ K6=>K6 (i 0) bg)) (lA 27 p1 (drew bg) λ b3=>lA 27 p1 (drew bg) λ b4=>
 cF 124 [b3] (drew bg) λ b5 b6=>kA 27 p1 b4 b6 (cF 62 [b4] b6 λ b7 b8=>eN Tryz.prog (Instr.sliceAt 91 b5 none (some b7) none) λ b9=>kh (λ K7 i14 ca=>∀_:Env,
 fA 27 p1 5 λ cb=>lA 25 cb ca λ cc=>lN 25 cc λ cd=>bA .lss 3 i14 cd λ ce=>cV ce (fA 27 p1 5 λ cf=>lA 25 cf ca λ cg=>iA 25 cg i14 λ ch=>fA 85 ch 0 λ ci=>lA 82 ci ca λ cj=>
 cF 127 [cj,b9] ca λ ck cl=>bB .geq 3 ck (i 0) λ cm=>cV cm (K (.tuple #[(i 9),ck]) cl) (bB .add 3 i14 (i 1) λ cn=>K7 cn cl)) (K (.tuple #[(i 0),(i 0)]) ca)) (λ K7=>K7 (i 0) b8))))
 (λ K5=>K5 (i 0) ac))) (λ K2=>K2 (i 0) aa)))) (λ K1=>K1 (i 0) l)))
def P57:dD:=λ i=>match i with
 | 23=>.run 0 7
 | 30=>.run 0 15
 | 33=>(.of [(0,[]),(2,[]),(1,[2]),(3,[]),(4,[]),(5,[])])
 | _=>.nil
theorem agV(p0:Value)(h:S57 w K p0):CR 57 [p0] w K:=
 qz 150 P57 12 [.tmp 2,.tmp 3] Tryz.func57 h
def S61(Nu vZ uS:Value):Prop:=
 fc (λ K1=>lN 41 Nu λ a=>lN 41 uS λ b=>bA .neq 3 a b λ c=>cV c (K1 tt w) (lN 41 Nu λ d=>bB .gtr 3 d (i 20) λ e=>cV e (K1 tt w) (bB .lss 3 vZ (i 0) λ f=>
 cV f (K1 tt w) (lN 41 Nu λ g=>bA .gtr 3 vZ g λ h=>K1 h w)))) (λ j k=>∀_:Env,
 cV j (K (.tuple #[(.pointer none),(i 1)]) k) (kh (λ K2 i8 l=>∀_:Env,
 bA .lss 3 i8 vZ λ n=>cV n (fc (λ K3=>bB .eql 3 i8 (i 0) λ o=>cV o (iA 41 Nu (i 0) λ p=>lA 3 p (drew l) λ q=>bB .neq 3 q (i 0) λ r=>cV r (K3 tt (drew l)) (
 bB .gtr 3 i8 (i 0) λ s=>cV s (iA 41 Nu i8 λ t=>lA 3 t (drew l) λ u=>bB .sub 3 i8 (i 1) λ v=>iA 41 Nu v λ x=>lA 3 x (drew l) λ y=>bA .neq 3 u y λ z=>cV z (iA 41 Nu i8 λ aa=>
 lA 3 aa (drew l) λ ab=>bB .sub 3 i8 (i 1) λ ac=>iA 41 Nu ac λ ad=>lA 3 ad (drew l) λ ae=>bB .add 3 ae (i 1) λ af=>bA .neq 3 ab af λ ag=>K3 ag (drew l)) (K3 ff (drew l))) (
 K3 ff (drew l)))) (bB .gtr 3 i8 (i 0) λ ah=>cV ah (iA 41 Nu i8 λ ai=>lA 3 ai (drew l) λ aj=>bB .sub 3 i8 (i 1) λ ak=>iA 41 Nu ak λ al=>lA 3 al (drew l) λ am=>bA .neq 3 aj am λ an=>
 cV an (iA 41 Nu i8 λ ao=>lA 3 ao (drew l) λ ap=>bB .sub 3 i8 (i 1) λ aq=>iA 41 Nu aq λ ar=>lA 3 ar (drew l) λ asx=>bB .add 3 asx (i 1) λ au=>bA .neq 3 ap au λ av=>
 K3 av (drew l)) (K3 ff (drew l))) (K3 ff (drew l)))) (λ aw ax=>∀_:Env,
 cV aw (K (.tuple #[(.pointer none),(i 1)]) ax) (bB .add 3 i8 (i 1) λ ay=>K2 ay ax))) (bS 41 0 [] l λ az a0=>eN Tryz.prog (Instr.sliceAt 41 Nu none (some vZ) none) λ a1=>
 aP 41 az a1 a0 λ a2 a3=>bS 41 0 [] a3 λ a4 a5=>aP 41 a4 uS a5 λ a6 a7=>eN Tryz.prog (Instr.build 122 [(0,a2),(1,a6)].toArray) λ a8=>rC Tryz.prog (Instr.box 122 a8) a7 λ a9 ba=>
 bS 41 0 [] ba λ bb bc=>aP 41 bb uS bc λ bd be=>nC a9 λ bf=>fA 122 bf 2 λ bg=>sA 41 bg bd be λ bh=>bS 41 0 [] bh λ bi bj=>eN Tryz.prog (Instr.sliceAt 41 uS none (some vZ) none) λ bk=>
 aP 41 bi bk bj λ bl bm=>nC a9 λ bn=>fA 122 bn 3 λ bo=>sA 41 bo bl bm λ bp=>K (.tuple #[a9,(i 0)]) bp)) (λ K2=>K2 (i 0) k)))
def P61:dD:=λ i=>match i with
 | 6=>.run 0 37
 | _=>.nil
theorem agW(Nu vZ uS:Value)(h:S61 w K Nu vZ uS):CR 61 [Nu,vZ,uS] w K:=
 qz 97 P61 192 [.tmp 6,.tmp 7] Tryz.func61 h
def P62:dD:=λ i=>match i with
 | 1=>(.of [(0,[]),(3,[]),(4,[]),(5,[]),(1,[4]),(2,[]),(6,[]),(7,[])])
 | _=>.nil
def P65:dD:=λ i=>match i with
 | 6=>(.of [(0,[]),(1,[]),(2,[]),(3,[1]),(4,[1]),(5,[]),(6,[]),(7,[])])
 | 8=>(.of [(0,[]),(1,[]),(2,[]),(3,[1]),(4,[]),(5,[]),(6,[])])
 | 10=>(.of [(0,[]),(1,[]),(2,[]),(3,[1]),(4,[]),(5,[]),(6,[])])
 | 13=>(.of [(0,[]),(1,[]),(2,[]),(3,[]),(4,[]),(5,[]),(6,[]),(7,[]),(8,[1]),(9,[1]),(10,[]),(11,[]),(12,[])])
 | 15=>(.of [(0,[]),(1,[]),(2,[]),(3,[]),(4,[]),(5,[]),(6,[]),(7,[]),(8,[]),(9,[]),(10,[]),(11,[]),(12,[]),(13,[1]),(14,[1]),(15,[]),(16,[]),(17,[])])
 | 17=>(.of [(0,[]),(1,[]),(2,[]),(3,[]),(4,[]),(5,[]),(6,[]),(7,[]),(8,[]),(9,[]),(10,[]),(11,[]),(12,[1]),(13,[1]),(14,[]),(15,[]),(16,[])])
 | 21=>(.of [(0,[]),(1,[]),(2,[]),(3,[]),(4,[]),(5,[]),(6,[]),(7,[]),(8,[]),(9,[4,8]),(10,[]),(11,[])])
 | _=>.nil
def P71:dD:=λ i=>match i with
 | 6=>.run 0 9
 | _=>.nil
def P77:dD:=λ i=>match i with
 | 3=>.run 0 14
 | _=>.nil
theorem atl:PL 11:=dF Tryz.func11
theorem atm:PL 17:=dF Tryz.func17
theorem SS:PL 45:=dF Tryz.func45
theorem HW:PL 46:=dF Tryz.func46
theorem agX:PL 47:=dF Tryz.func47
theorem alQ:PL 49:=dF Tryz.func49
theorem atn:PL 57:=dF Tryz.func57
theorem alR:PL 58:=dF Tryz.func58
theorem SU:PL 59:=dF Tryz.func59
theorem ato:PL 61:=dF Tryz.func61
theorem HX:PL 62:=dF Tryz.func62
theorem atp:PL 65:=dF Tryz.func65
theorem atq:PL 71:=dF Tryz.func71
theorem alS:PL 77:=dF Tryz.func77
variable (w:World) (K:Value->World->Prop)
def P84:dD:=λ i=>match i with
 | 1=>(.of [(0,[]),(1,[]),(2,[]),(3,[]),(4,[]),(5,[3]),(6,[]),(7,[]),(8,[])])
 | _=>.nil
def P86:dD:=λ i=>match i with
 | 5=>.run 0 9
 | _=>.nil
def S92(m0 Cv:Value):Prop:=
 cF 17 [m0] w λ a b=>lN 41 Cv λ c=>lN 41 a λ d=>bA .neq 3 c d λ e=>cV e (K (.tuple #[(.slice none 0 0),(i 1)]) b) (kh (λ K1 i7 f=>∀_:Env,
 lN 41 a λ g=>bA .lss 3 i7 g λ h=>cV h (fc (λ K2=>iA 41 Cv i7 λ j=>lA 3 j (drew f) λ k=>bB .lss 3 k (i 0) λ l=>cV l (K2 tt (drew f)) (iA 41 Cv i7 λ n=>lA 3 n (drew f) λ o=>
 iA 41 a i7 λ p=>lA 3 p (drew f) λ q=>bA .gtr 3 o q λ r=>K2 r (drew f))) (λ s t=>∀_:Env,
 cV s (K (.tuple #[(.slice none 0 0),(i 1)]) t) (bB .add 3 i7 (i 1) λ u=>K1 u t))) (Gk (λ K3=>nC m0 λ v=>fA 122 v 3 λ x=>lA 41 x (drew f) λ y=>((bS 41 0 [] (drew f) λ z aa=>
 kA 41 x y aa (((aP 41 z Cv aa λ ab ac=>kA 41 x y ac (bS 41 0 [] ac λ ad ae=>kA 41 x y ae (aP 41 ad y ae λ af ag=>K3 ab af ag)))
 /\((bS 41 0 [] aa λ ah ai=>kA 41 x y ai (aP 41 z Cv ai λ aj ak=>kA 41 x y ak (aP 41 ah y ak λ al am=>K3 aj al am)))
 /\
 True))))
 /\((bS 41 0 [] (drew f) λ an ao=>kA 41 x y ao (bS 41 0 [] ao λ ap aq=>kA 41 x y aq (aP 41 ap Cv aq λ ar asx=>kA 41 x y asx (aP 41 an y asx λ au av=>K3 ar au av))))
 /\
 True))) (λ Gn Vg aw=>∀_:Env,
 kh (λ K4 i10 ax=>∀_:Env,
 nC m0 λ ay=>fA 122 ay 4 λ az=>lA 120 az ax λ a0=>lN 120 a0 λ a1=>bA .lss 3 i10 a1 λ a2=>cV a2 (yc (λ K5=>nC m0 λ a3=>fA 122 a3 4 λ a4=>lA 120 a4 ax λ a5=>
 iA 120 a5 i10 λ a6=>lA 125 a6 ax λ a7=>aL 125 ax λ ao a8=>sA 125 ao a7 a8 λ a9=>fA 125 ao 0 λ ba=>lA 3 ba a9 λ bb=>iA 41 Gn bb λ bc=>lA 3 bc a9 λ bd=>bB .gtr 3 bd (i 0) λ be=>
 cV be (fA 125 ao 0 λ bf=>lA 3 bf (drew a9) λ bg=>fA 125 ao 0 λ bh=>lA 3 bh (drew a9) λ bi=>iA 41 Gn bi λ bj=>lA 3 bj (drew a9) λ bk=>bB .sub 3 bk (i 1) λ bl=>
 iA 41 Gn bg λ bm=>sA 3 bm bl (drew a9) λ bn=>fA 125 ao 1 λ bo=>lA 3 bo bn λ bp=>fA 125 ao 2 λ bq=>lA 3 bq bn λ br=>iA 41 Vg bp λ bs=>sA 3 bs br bn λ bt=>
 K5 bt) (K5 a9)) (λ bu=>∀_:Env,
 bB .add 3 i10 (i 1) λ bv=>K4 bv bu)) (K (.tuple #[Vg,(i 0)]) ax)) (λ K4=>K4 (i 0) aw)))) (λ K1=>K1 (i 0) b))
def P92:dD:=λ i=>match i with
 | 7=>.run 0 16
 | 9=>(.op 1 [] (.op 4 [] (.op 5 [] (.op 6 [] (.op 7 [] (.alt 0 [7] (.alt 2 [7] (.of [(3,[7]),(8,[]),(9,[]),(10,[])]) (.alt 3 [7] (.of [(2,[7]),(8,[]),(9,[]),(10,[])]) .stop)) (.alt 3 [7] (.of [(0,[7]),(2,[7]),(8,[]),(9,[]),(10,[])]) .stop)))))))
 | 15=>.run 0 11
 | _=>.nil
theorem agY(m0 Cv:Value)(h:S92 w K m0 Cv):CR 92 [m0,Cv] w K:=
 qz 89 P92 48 [.tmp 4,.tmp 5] Tryz.func92 h
def P93:dD:=λ i=>match i with
 | 5=>.run 0 13
 | _=>.nil
def S94(Dx:Value):Prop:=
 o8 (λ K1 n3 i4 a=>∀_:Env,
 lN 41 Dx λ b=>bA .lss 3 i4 b λ c=>cV c (bC .mul 3 (i 10000) n3 λ d=>iA 41 Dx i4 λ e=>lA 3 e a λ f=>bA .add 3 d f λ g=>bB .add 3 i4 (i 1) λ h=>K1 g h a) (K n3 a))
 (λ K1=>K1 (i 0) (i 0) w)
theorem agZ(Dx:Value)(h:S94 w K Dx):CR 94 [Dx] w K:=
 qz 19 (λ _=>.nil) 4 [.tmp 2] Tryz.func94 h
def S122(p0:Value):Prop:=
 rC Tryz.prog (Instr.box 27 p0) w λ p1 a=>bS 23 0 [] a λ b c=>lA 27 p1 c λ d=>cF 59 [d] c λ e f=>aP 23 b e f λ g h=>fA 27 p1 2 λ j=>lA 23 j h λ k=>aP 23 g k h λ l n=>
 o8 (λ K1 l3 i4 o=>∀_:Env,
 fA 27 p1 3 λ p=>lA 24 p o λ q=>lN 24 q λ r=>bA .lss 3 i4 r λ s=>cV s (fA 27 p1 3 λ t=>lA 24 t (drew o) λ u=>iA 24 u i4 λ v=>fA 146 v 0 λ x=>lA 9 x (drew o) λ y=>
 fA 27 p1 3 λ z=>lA 24 z (drew o) λ aa=>iA 24 aa i4 λ ab=>fA 146 ab 3 λ ac=>lA 3 ac (drew o) λ ad=>eN Tryz.prog (Instr.build 161 [(0,y),(2,ad)].toArray) λ ae=>
 bS 23 1 [(0,ae)] (drew o) λ af ag=>aP 23 l3 af ag λ ah ai=>bB .add 3 i4 (i 1) λ aj=>K1 ah aj ai) (cF 202 [l3] o λ ak al=>kh (λ K2 i6 am=>∀_:Env,
 lN 23 l3 λ an=>bA .lss 3 i6 an λ ao=>cV ao (iA 23 l3 i6 λ ap=>fA 161 ap 0 λ aq=>lA 9 aq am λ ar=>cF 123 [ak,ar] am λ asx au=>bA .lss 3 asx i6 λ av=>cV av (iA 23 l3 i6 λ aw=>
 fA 161 aw 2 λ ax=>lA 3 ax au λ ay=>K ay au) (bB .add 3 i6 (i 1) λ az=>K2 az au)) (K (i (-1)) am)) (λ K2=>K2 (i 0) al))) (λ K1=>K1 l (i 0) n)
def atr:dD:=λ i=>match i with
 | 6=>.run 0 17
 | _=>.nil
theorem abb(p0:Value)(h:S122 w K p0):CR 122 [p0] w K:=
 qz 60 atr 4 [.tmp 2] Tryz.func122 h
def ats:dD:=λ i=>match i with
 | 3=>(.of [(0,[]),(2,[]),(3,[]),(1,[3]),(4,[]),(5,[])])
 | 16=>(.of [(0,[]),(2,[]),(3,[]),(1,[3]),(4,[]),(5,[])])
 | _=>.nil
def S130(s0:Value):Prop:=
 lN 9 s0 λ a=>bB .gtr 3 a (i 4000) λ b=>cV b (K (.tuple #[(.slice none 0 0),(i 2),(i 4000)]) w) (bS 198 0 [] w λ c d=>cF 205 [s0,(i 0)] d λ e f=>o8 (λ K1 uT JY g=>∀_:Env,
 lN 9 s0 λ h=>bA .lss 3 JY h λ j=>cV j (eN Tryz.prog (Instr.build 209 [(3,JY)].toArray) λ k=>aL 209 g λ t8 l=>sA 209 t8 k l λ n=>fc (λ K2=>eN Tryz.prog (Instr.index 9 s0 JY) λ o=>
 cF 206 [o] n λ p q=>cV p (fA 209 t8 0 λ r=>sA 3 r (i 1) q λ s=>kh (λ K3 to7 t=>∀_:Env,
 fc (λ K4=>lN 9 s0 λ u=>bA .lss 3 to7 u λ v=>cV v (eN Tryz.prog (Instr.index 9 s0 to7) λ x=>cF 206 [x] t λ y z=>cV y (K4 tt z) (eN Tryz.prog (Instr.index 9 s0 to7) λ aa=>
 cF 207 [aa] z λ ab ac=>K4 ab ac)) (K4 ff t)) (λ ad ae=>∀_:Env,
 cV ad (bB .add 3 to7 (i 1) λ af=>K3 af ae) (bA .sub 3 to7 JY λ ag=>bB .gtr 3 ag (i 16) λ ah=>cV ah (K (.tuple #[(.slice none 0 0),(i 2),JY]) ae) (K2 to7 ae)))) (λ K3=>K3 JY s)) (
 eN Tryz.prog (Instr.index 9 s0 JY) λ ai=>cF 207 [ai] q λ aj ak=>cV aj (fA 209 t8 0 λ al=>sA 3 al (i 2) ak λ am=>kh (λ K5 JZ an=>∀_:Env,
 fc (λ K6=>lN 9 s0 λ ao=>bA .lss 3 JZ ao λ ap=>cV ap (eN Tryz.prog (Instr.index 9 s0 JZ) λ aq=>cF 207 [aq] an λ ar asx=>K6 ar asx) (K6 ff an)) (λ au av=>∀_:Env,
 cV au (yc (λ K7=>fA 209 t8 2 λ aw=>lA 3 aw av λ ax=>bB .leq 3 ax (i 4294967296) λ ay=>cV ay (fA 209 t8 2 λ az=>lA 3 az (drew av) λ a0=>bC .mul 3 (i 10) a0 λ a1=>
 eN Tryz.prog (Instr.index 9 s0 JZ) λ a2=>bB .sub 5 a2 (.int .u8 48) λ a3=>eN Tryz.prog (convert 5 3 a3) λ a4=>bA .add 3 a1 a4 λ a5=>fA 209 t8 2 λ a6=>sA 3 a6 a5 (drew av) λ a7=>
 K7 a7) (K7 av)) (λ a8=>∀_:Env,
 bB .add 3 JZ (i 1) λ a9=>K5 a9 a8)) (fA 209 t8 2 λ ba=>lA 3 ba av λ bb=>bB .gtr 3 bb (i 4294967296) λ bc=>cV bc (K (.tuple #[(.slice none 0 0),(i 4),JY]) av) (K2 JZ av))))
 (λ K5=>K5 JY am)) (fA 209 t8 0 λ bd=>sA 3 bd (i 3) ak λ be=>cF 208 [s0,JY] be λ bf bg=>bA .add 3 JY bf λ bh=>bA .eql 3 bh JY λ bi=>cV bi (K (.tuple #[(.slice none 0 0),(i 3),JY]) bg) (
 K2 bh bg)))) (λ aeO bj=>∀_:Env,
 eN Tryz.prog (Instr.sliceAt 9 s0 (some JY) (some aeO) none) λ bk=>fA 209 t8 1 λ bl=>sA 9 bl bk bj λ bm=>lA 209 t8 bm λ bn=>bS 198 1 [(0,bn)] bm λ bo bp=>aP 198 uT bo bp λ bq br=>
 cF 205 [s0,aeO] br λ bs bt=>K1 bq bs bt)) (K (.tuple #[uT,(i 0),(i 0)]) g)) (λ K1=>K1 c e f))
def att:dD:=λ i=>match i with
 | 17=>.run 0 11
 | _=>.nil
theorem abc(s0:Value)(h:S130 w K s0):CR 130 [s0] w K:=
 qz 107 att 28 [.tmp 2,.tmp 3,.tmp 4] Tryz.func130 h
def atu:dD:=λ i=>match i with
 | 1=>.run 0 17
 | _=>.nil
theorem atv:PL 81:=dF Tryz.func81
theorem SW:PL 83:=dF Tryz.func83
theorem atw:PL 86:=dF Tryz.func86
theorem alT:PL 92:=dF Tryz.func92
theorem atx:PL 93:=dF Tryz.func93
theorem aty:PL 94:=dF Tryz.func94
theorem aeP:PL 106:=dF Tryz.func106
theorem alU:PL 118:=dF Tryz.func118
theorem alV:PL 119:=dF Tryz.func119
theorem aeQ:PL 120:=dF Tryz.func120
theorem Vh:PL 121:=dF Tryz.func121
theorem alW:PL 122:=dF Tryz.func122
theorem rD:PL 123:=dF Tryz.func123
theorem J0:PL 124:=dF Tryz.func124
theorem QC:PL 125:=dF Tryz.func125
theorem alX:PL 126:=dF Tryz.func126
theorem Vi:PL 127:=dF Tryz.func127
theorem alY:PL 130:=dF Tryz.func130
theorem yd:PL 131:=dF Tryz.func131
variable (w:World) (K:Value->World->Prop)
def atz:dD:=λ i=>match i with
 | 7=>.run 0 24
 | 8=>.run 0 13
 | _=>.nil
def atA:dD:=λ i=>match i with
 | 1=>.run 0 45
 | 3=>.run 0 26
 | _=>.nil
def atB:dD:=λ i=>match i with
 | 8=>(.of [(0,[]),(1,[]),(2,[]),(3,[]),(4,[]),(5,[]),(6,[]),(7,[1]),(8,[]),(9,[]),(10,[])])
 | 10=>.run 0 19
 | _=>.nil
def atC:dD:=λ i=>match i with
 | 1=>.run 0 18
 | _=>.nil
def atD:dD:=λ i=>match i with
 | 2=>.run 0 10
 | 4=>.run 0 13
 | _=>.nil
def atE:dD:=λ i=>match i with
 | 3=>.run 0 14
 | _=>.nil
def P149:dD:=λ i=>match i with
 | 5=>.run 0 12
 | _=>.nil
def atF:dD:=λ i=>match i with
 | 6=>.run 0 16
 | _=>.nil
def atG:dD:=λ i=>match i with
 | 6=>(.of [(0,[]),(1,[]),(2,[]),(3,[]),(4,[]),(5,[]),(6,[]),(7,[]),(8,[]),(9,[]),(10,[]),(11,[]),(12,[]),(13,[]),(14,[3,8,10]),(15,[3]),(16,[])])
 | _=>.nil
def atH:dD:=λ i=>match i with
 | 6=>.run 0 10
 | _=>.nil
def atI:dD:=λ i=>match i with
 | 5=>(.of [(0,[]),(1,[]),(2,[]),(3,[]),(4,[]),(5,[]),(6,[4]),(7,[]),(8,[]),(9,[]),(10,[])])
 | _=>.nil
def S165(b0 i1:Value):Prop:=
 aL 231 w λ a b=>fc (λ K1=>bB .lss 3 i1 (i 0) λ c=>cV c (K1 tt b) (nC b0 λ d=>fA 196 d 1 λ e=>lA 179 e b λ f=>lN 179 f λ g=>bA .geq 3 i1 g λ h=>K1 h b)) (λ j k=>∀_:Env,
 cV j (eN Tryz.prog (Instr.build 231 [].toArray) λ l=>sA 231 a l k λ n=>lA 231 a n λ r=>K (.tuple #[r,(i 1)]) n) (cF 151 [b0,i1] k λ o p=>eN Tryz.prog (Op.unary .not o) λ q=>
 cV q (eN Tryz.prog (Instr.build 231 [].toArray) λ s=>sA 231 a s p λ t=>lA 231 a t λ HY=>K (.tuple #[HY,(i 13)]) t) (nC b0 λ u=>fA 196 u 1 λ v=>lA 179 v p λ x=>
 iA 179 x i1 λ y=>lA 231 y p λ z=>aL 231 p λ aa ab=>sA 231 aa z ab λ ac=>bS 179 0 [] ac λ ad ae=>nC b0 λ af=>fA 196 af 1 λ ag=>lA 179 ag ae λ ah=>eN Tryz.prog (Instr.sliceAt 179 ah none (some i1) none) λ ai=>
 aP 179 ad ai ae λ aj ak=>nC b0 λ al=>fA 196 al 1 λ am=>lA 179 am ak λ an=>bB .add 3 i1 (i 1) λ ao=>eN Tryz.prog (Instr.sliceAt 179 an (some ao) none none) λ ap=>
 aP 179 aj ap ak λ aq ar=>nC b0 λ asx=>fA 196 asx 1 λ au=>sA 179 au aq ar λ av=>lA 231 aa av λ aw=>sA 231 a aw av λ ax=>lA 231 a ax λ NV=>K (.tuple #[NV,(i 0)]) ax)))
theorem abd(b0 i1:Value)(h:S165 w K b0 i1):CR 165 [b0,i1] w K:=
 qz 54 (λ _=>.nil) 48 [.cell 4 231,.tmp 5] Tryz.func165 h
def atJ:dD:=λ i=>match i with
 | 5=>(.of [(0,[]),(1,[]),(2,[]),(3,[]),(4,[]),(5,[]),(6,[]),(7,[]),(8,[]),(9,[]),(10,[]),(11,[]),(12,[]),(13,[]),(14,[]),(15,[4]),(16,[]),(17,[]),(18,[]),(19,[])])
 | _=>.nil
def atK:dD:=λ i=>match i with
 | 8=>.run 0 22
 | _=>.nil
theorem QD:PL 132:=dF Tryz.func132
theorem aeR:PL 133:=dF Tryz.func133
theorem aeS:PL 134:=dF Tryz.func134
theorem alZ:PL 135:=dF Tryz.func135
theorem QE:PL 136:=dF Tryz.func136
theorem al0:PL 139:=dF Tryz.func139
theorem al1:PL 144:=dF Tryz.func144
theorem al2:PL 145:=dF Tryz.func145
theorem aeT:PL 148:=dF Tryz.func148
theorem al3:PL 150:=dF Tryz.func150
theorem aeU:PL 151:=dF Tryz.func151
theorem al4:PL 153:=dF Tryz.func153
theorem al5:PL 154:=dF Tryz.func154
theorem aeV:PL 155:=dF Tryz.func155
theorem aeW:PL 156:=dF Tryz.func156
theorem al6:PL 157:=dF Tryz.func157
theorem QF:PL 162:=dF Tryz.func162
theorem al7:PL 165:=dF Tryz.func165
theorem aeX:PL 166:=dF Tryz.func166
theorem al8:PL 167:=dF Tryz.func167
theorem Vj:PL 198:=dF Tryz.func198
variable (w:World) (K:Value->World->Prop)
def atL:dD:=λ i=>match i with
 | 10=>.run 0 7
 | _=>.nil
def atM:dD:=λ i=>match i with
 | 2=>.run 0 17
 | 6=>.run 0 12
 | 8=>.run 0 9
 | 9=>.run 0 12
 | _=>.nil
def atO:dD:=λ i=>match i with
 | 5=>.run 0 8
 | 7=>.run 0 9
 | 9=>.run 0 9
 | 10=>.run 0 8
 | _=>.nil
def atP:dD:=λ i=>match i with
 | 5=>.run 0 17
 | _=>.nil
def atQ:dD:=λ i=>match i with
 | 1=>.run 0 11
 | _=>.nil
def atS:dD:=λ i=>match i with
 | 1=>.run 0 11
 | 4=>.run 0 10
 | _=>.nil
def S219(l0 J1:Value):Prop:=
 lN 41 J1 λ a=>cF 266 [l0,a] w λ b c=>eN Tryz.prog (Op.unary .not b) λ d=>cV d (K (.tuple #[(i 0),(i 8)]) c) (aL 318 c λ p6 e=>lN 277 l0 λ f=>kh (λ K1 g h=>∀_:Env,
 bA .lss 3 g f λ j=>cV j (yc (λ K2=>iA 277 l0 g λ k=>lA 320 k h λ l=>aL 320 h λ n o=>sA 320 n l o λ p=>fA 320 n 0 λ q=>lA 3 q p λ r=>cF 267 [r] p λ s t=>
 bB .eql 3 s (i 0) λ u=>cV u (fA 320 n 1 λ v=>lA 3 v t λ x=>fc (λ K3=>fA 320 n 0 λ y=>lA 3 y t λ z=>bB .eql 3 z (i 2) λ aa=>cV aa (fA 320 n 1 λ ab=>lA 3 ab t λ ac=>
 iA 41 J1 ac λ ad=>lA 3 ad t λ ae=>K3 ae t) (K3 x t)) (λ n9 af=>∀_:Env,
 cF 268 [p6,n9] af λ _ ag=>K2 ag)) (bB .eql 3 s (i 1) λ ah=>cV ah (fA 320 n 0 λ ai=>lA 3 ai (drew t) λ aj=>fA 318 p6 0 λ ak=>cF 270 [ak] (drew t) λ al am=>kA 3 ai aj am (
 cF 269 [aj,al] am λ an ao=>xT an 0 λ ap=>xT an 1 λ _=>cF 268 [p6,ap] ao λ _ aq=>K2 aq)) (fA 318 p6 0 λ ar=>cF 270 [ar] t λ asx au=>fA 320 n 0 λ av=>lA 3 av (drew au) λ aw=>
 fA 318 p6 0 λ ax=>cF 270 [ax] (drew au) λ ay az=>kA 3 av aw az (cF 271 [aw,ay,asx] az λ a0 a1=>xT a0 0 λ a2=>xT a0 1 λ a3=>bB .neq 31 a3 (i 0) λ a4=>cV a4 (K (.tuple #[(i 0),a3]) a1) (
 cF 268 [p6,a2] a1 λ _ a5=>K2 a5))))) (λ a6=>∀_:Env,
 bB .add 3 g (i 1) λ a7=>K1 a7 a6)) (fA 318 p6 0 λ a8=>cF 270 [a8] h λ a9 ba=>K (.tuple #[a9,(i 0)]) ba)) (λ K1=>K1 (i 0) e))
def atT:dD:=λ i=>match i with
 | 9=>(.of [(0,[]),(1,[]),(2,[]),(4,[]),(3,[1]),(5,[]),(6,[]),(7,[]),(8,[]),(9,[]),(10,[])])
 | 19=>(.of [(0,[]),(1,[]),(2,[]),(3,[1]),(4,[]),(5,[]),(6,[]),(7,[]),(8,[]),(9,[])])
 | _=>.nil
theorem abe(l0 J1:Value)(h:S219 w K l0 J1):CR 219 [l0,J1] w K:=
 qz 74 atT 48 [.tmp 4,.tmp 5] Tryz.func219 h
def S220(l0 m4:Value):Prop:=
 cF 200 [l0] w λ a b=>eN Tryz.prog (Op.unary .not a) λ c=>cV c (K (.tuple #[(.slice none 0 0),(i 8)]) b) (kh (λ K1 i6 d=>∀_:Env,
 lN 82 l0 λ e=>bA .lss 3 i6 e λ f=>cV f (fc (λ K2=>iA 82 l0 i6 λ g=>fA 164 g 0 λ h=>lA 3 h d λ j=>bB .eql 3 j (i 2) λ k=>cV k (iA 82 l0 i6 λ l=>fA 164 l 2 λ n=>
 lA 9 n d λ o=>cF 123 [m4,o] d λ p q=>bB .lss 3 p (i 0) λ r=>K2 r q) (K2 ff d)) (λ s t=>∀_:Env,
 cV s (K (.tuple #[(.slice none 0 0),(i 9)]) t) (bB .add 3 i6 (i 1) λ u=>K1 u t))) (cF 272 [l0,(i 0),m4] d λ v x=>K (.tuple #[v,(i 0)]) x)) (λ K1=>K1 (i 0) b))
theorem abf(l0 m4:Value)(h:S220 w K l0 m4):CR 220 [l0,m4] w K:=
 qz 35 (λ _=>.nil) 48 [.tmp 4,.tmp 5] Tryz.func220 h
def S224(s0 i1 j2:Value):Prop:=
 lN 179 s0 λ a=>eN Tryz.prog (Instr.sliceAt 179 s0 (some i1) (some j2) (some a)) λ _=>bA .eql 3 i1 j2 λ b=>cV b (K s0 w) (lN 179 s0 λ c=>eN Tryz.prog (Instr.sliceAt 179 s0 none (some i1) none) λ d=>
 eN Tryz.prog (Instr.sliceAt 179 s0 (some j2) none none) λ e=>aP 179 d e (drew w) λ f g=>lN 179 f λ h=>eN Tryz.prog (Instr.sliceAt 179 f (some h) (some c) none) λ j=>
 rC Tryz.prog (Builtin.clear_ #[179] 0 [j].toArray) g λ _ k=>K f k)
def atU:dD:=λ i=>match i with
 | 5=>.run 0 8
 | _=>.nil
theorem abg(s0 i1 j2:Value)(h:S224 w K s0 i1 j2):CR 224 [s0,i1,j2] w K:=
 qz 33 atU 64 [.tmp 6] Tryz.func224 h
def S229(b0 jB:Value):Prop:=
 nC b0 λ a=>fA 196 a 1 λ b=>lA 179 b w λ c=>lN 179 c λ d=>bB .sub 3 d (i 1) λ e=>kh (λ K1 i6 f=>∀_:Env,
 bB .geq 3 i6 (i 0) λ g=>cV g (fc (λ K2=>nC b0 λ h=>fA 196 h 1 λ j=>lA 179 j f λ k=>iA 179 k i6 λ l=>fA 231 l 0 λ n=>lA 3 n f λ o=>bB .eql 3 o (i 3) λ p=>
 cV p (nC b0 λ q=>fA 196 q 1 λ r=>lA 179 r f λ s=>iA 179 s i6 λ t=>fA 231 t 2 λ u=>lA 3 u f λ v=>bA .eql 3 v jB λ x=>K2 x f) (K2 ff f)) (λ y z=>∀_:Env,
 cV y (nC b0 λ aa=>fA 196 aa 1 λ ab=>lA 179 ab z λ ac=>iA 179 ac i6 λ ad=>fA 231 ad 3 λ ae=>lA 3 ae z λ af=>K (.tuple #[af,tt]) z) (bB .sub 3 i6 (i 1) λ ag=>K1 ag z))) (
 K (.tuple #[(i 0),ff]) f)) (λ K1=>K1 e w)
theorem abh(b0 jB:Value)(h:S229 w K b0 jB):CR 229 [b0,jB] w K:=
 qz 46 (λ _=>.nil) 48 [.tmp 4,.tmp 5] Tryz.func229 h
def atV:dD:=λ i=>match i with
 | 3=>.run 0 10
 | 5=>(.of [(0,[]),(1,[]),(2,[]),(3,[]),(4,[]),(5,[]),(6,[4]),(7,[]),(8,[]),(9,[]),(10,[])])
 | _=>.nil
def S252(l0 i1:Value):Prop:=
 bB .add 3 i1 (i 1) λ a=>aeK (λ K1 n5 JY k7 b=>∀_:Env,
 iA 82 l0 i1 λ c=>fA 164 c 0 λ d=>lA 3 d b λ e=>cF 273 [e] b λ f g=>bA .lss 3 k7 f λ h=>cV h (cF 252 [l0,JY] g λ j k=>eN Tryz.prog (Builtin.max_ #[3,3] 3 [n5,j].toArray) λ l=>
 cF 251 [l0,JY] k λ n o=>bB .add 3 k7 (i 1) λ p=>K1 l n p o) (bB .add 3 n5 (i 1) λ q=>K q g)) (λ K1=>K1 (i 0) a (i 0) w)
theorem abi(l0 i1:Value)(h:S252 w K l0 i1):CR 252 [l0,i1] w K:=
 qz 30 (λ _=>.nil) 16 [.tmp 4] Tryz.func252 h
theorem QG:PL 199:=dF Tryz.func199
theorem J2:PL 200:=dF Tryz.func200
theorem aeY:PL 201:=dF Tryz.func201
theorem Vk:PL 202:=dF Tryz.func202
theorem aeZ:PL 205:=dF Tryz.func205
theorem QH:PL 206:=dF Tryz.func206
theorem QI:PL 207:=dF Tryz.func207
theorem al9:PL 208:=dF Tryz.func208
theorem vx:PL 209:=dF Tryz.func209
theorem Vl:PL 210:=dF Tryz.func210
theorem ub:PL 211:=dF Tryz.func211
theorem ama:PL 212:=dF Tryz.func212
theorem ae0:PL 213:=dF Tryz.func213
theorem Gp:PL 214:=dF Tryz.func214
theorem ae1:PL 215:=dF Tryz.func215
theorem ae2:PL 216:=dF Tryz.func216
theorem amb:PL 219:=dF Tryz.func219
theorem amc:PL 220:=dF Tryz.func220
theorem amd:PL 222:=dF Tryz.func222
theorem ae3:PL 223:=dF Tryz.func223
theorem ame:PL 224:=dF Tryz.func224
theorem amf:PL 226:=dF Tryz.func226
theorem amg:PL 228:=dF Tryz.func228
theorem amh:PL 229:=dF Tryz.func229
theorem QJ:PL 230:=dF Tryz.func230
theorem J3:PL 251:=dF Tryz.func251
theorem Vm:PL 252:=dF Tryz.func252
variable (w:World) (K:Value->World->Prop)
def S256(p0 J4 Bd:Value):Prop:=
 nC p0 λ a=>fA 305 a 0 λ b=>lA 198 b (drew w) λ c=>nC p0 λ d=>fA 305 d 1 λ e=>lA 3 e (drew w) λ f=>cF 214 [c,f] (drew w) λ g h=>o8 (λ K1 B4 k8 j=>∀_:Env,
 bB .leq 3 k8 (i 14) λ k=>cV k (fc (λ K2=>nC p0 λ l=>fA 305 l 0 λ n=>lA 198 n (drew j) λ o=>nC p0 λ p=>fA 305 p 1 λ q=>lA 3 q (drew j) λ r=>cF 290 [k8] (drew j) λ s t=>
 kA 198 n o t (kA 3 q r t (cF 209 [o,r,s] t λ u v=>cV u (K2 k8 v) (K2 B4 v)))) (λ abj x=>∀_:Env,
 bB .add 3 k8 (i 1) λ y=>K1 abj y x)) (fc (λ K3=>bB .eql 3 B4 (i 13) λ z=>cV z (bB .eql 3 Bd (i 0) λ aa=>K3 aa j) (K3 ff j)) (λ ab ac=>∀_:Env,
 cV ab (cF 291 [p0,(i 5)] ac λ _ ad=>K (.tuple #[]) ad) (yc (λ K4=>bB .neq 3 B4 (i 1) λ ae=>cV ae (nC p0 λ af=>fA 305 af 1 λ ag=>lA 3 ag ac λ ah=>bB .add 3 ah (i 1) λ ai=>
 nC p0 λ aj=>fA 305 aj 1 λ ak=>sA 3 ak ai ac λ al=>K4 al) (K4 ac)) (λ am=>∀_:Env,
 cF 292 [p0,B4,g] am λ an ao=>aL 193 ao λ ap aq=>sA 193 ap an aq λ ar=>nC p0 λ asx=>fA 305 asx 4 λ au=>lA 141 au ar λ av=>lN 141 av λ aw=>nC p0 λ ax=>fA 305 ax 4 λ ay=>
 lA 141 ay (drew ar) λ az=>lA 193 ap (drew ar) λ a0=>bS 141 1 [(0,a0)] (drew ar) λ a1 a2=>kA 141 ay az a2 (aP 141 az a1 a2 λ a3 a4=>nC p0 λ a5=>fA 305 a5 4 λ a6=>
 sA 141 a6 a3 a4 λ a7=>fc (λ K5=>bB .neq 3 B4 (i 11) λ a8=>cV a8 (bB .neq 3 B4 (i 12) λ a9=>K5 a9 a7) (K5 ff a7)) (λ ba bb=>∀_:Env,
 cV ba (cF 257 [p0,(Go.Value.string (ByteArray.mk (#[59])))] bb λ _ bc=>K (.tuple #[]) bc) (fc (λ K6=>bB .eql 3 B4 (i 12) λ bd=>cV bd (bB .add 3 Bd (i 1) λ be=>
 K6 be bb) (K6 Bd bb)) (λ ami bf=>∀_:Env,
 bB .add 3 J4 (i 1) λ bg=>cF 293 [p0,bg,ami] bf λ bh bi=>fA 193 ap 6 λ bj=>sA 3 bj bh bi λ bk=>yc (λ K7=>fc (λ K8=>bB .eql 3 B4 (i 11) λ bl=>cV bl (
 nC p0 λ bm=>fA 305 bm 2 λ bn=>lA 31 bn (drew bk) λ bo=>bB .eql 31 bo (i 0) λ bp=>cV bp (nC p0 λ bq=>fA 305 bq 0 λ br=>lA 198 br (drew bk) λ bs=>nC p0 λ bt=>
 fA 305 bt 1 λ bu=>lA 3 bu (drew bk) λ bv=>cF 209 [bs,bv,(Go.Value.string (ByteArray.mk (#[101,108,115,101])))] (drew bk) λ bw bx=>K8 bw bx) (K8 ff (drew bk))) (K8 ff (drew bk)))
 (λ bz b0=>∀_:Env,
 cV bz (nC p0 λ b1=>fA 305 b1 1 λ b2=>lA 3 b2 b0 λ b3=>bB .add 3 b3 (i 1) λ b4=>nC p0 λ b5=>fA 305 b5 1 λ b6=>sA 3 b6 b4 b0 λ b7=>bB .add 3 J4 (i 1) λ b8=>
 cF 293 [p0,b8,ami] b7 λ b9 ca=>fA 193 ap 7 λ cb=>sA 3 cb b9 ca λ cc=>K7 cc) (K7 b0))) (λ cd=>∀_:Env,
 nC p0 λ ce=>fA 305 ce 4 λ cf=>lA 141 cf (drew cd) λ cg=>lA 193 ap (drew cd) λ ch=>iA 141 cg aw λ ci=>sA 193 ci ch (drew cd) λ cj=>K (.tuple #[]) cj)))))))))) (λ K1=>K1 (i 1) (i 2) h)
def atW:dD:=λ i=>match i with
 | 0=>.run 0 11
 | 4=>(.of [(0,[]),(1,[]),(2,[]),(3,[]),(4,[]),(5,[]),(6,[]),(7,[]),(8,[]),(9,[3,7]),(10,[])])
 | 12=>(.of [(0,[]),(1,[]),(2,[]),(3,[]),(4,[]),(5,[]),(6,[4]),(7,[]),(8,[]),(9,[]),(10,[])])
 | 19=>.run 0 20
 | 22=>.run 0 8
 | _=>.nil
theorem abk(p0 J4 Bd:Value)(h:S256 w K p0 J4 Bd):CR 256 [p0,J4,Bd] w K:=
 qz 134 atW 0 [] Tryz.func256 h
def atX:dD:=λ i=>match i with
 | 0=>.run 0 17
 | _=>.nil
def S258(l0 i1 QK n3:Value):Prop:=
 aL 308 w λ a b=>bB .eql 3 n3 (i 5) λ c=>cV c (cF 294 [l0,i1,QK] b λ d e=>sA 308 a d e λ f=>lA 308 a f λ r=>K r f) (bB .add 3 n3 (i 1) λ g=>cF 258 [l0,i1,QK,g] b λ h j=>
 aL 308 j λ k l=>sA 308 k h l λ n=>QA (λ K1 o=>∀_:Env,
 fA 308 k 2 λ p=>lA 31 p o λ q=>bB .eql 31 q (i 0) λ s=>cV s (o8 (λ K2 Vn k11 t=>∀_:Env,
 cF 295 [n3] t λ u v=>lN 41 u λ x=>bA .lss 3 k11 x λ y=>cV y (fc (λ K3=>fA 308 k 1 λ z=>lA 3 z (drew v) λ aa=>cF 295 [n3] (drew v) λ ab ac=>kA 3 z aa ac (iA 41 ab k11 λ ad=>
 lA 3 ad ac λ ae=>cF 296 [ae] ac λ af ag=>kA 3 z aa ag (cF 209 [l0,aa,af] ag λ ah ai=>cV ah (cF 295 [n3] ai λ aj ak=>iA 41 aj k11 λ al=>lA 3 al ak λ am=>K3 am ak) (
 K3 Vn ai)))) (λ ag0 an=>∀_:Env,
 bB .add 3 k11 (i 1) λ ao=>K2 ag0 ao an)) (bB .eql 3 Vn (i 0) λ ap=>cV ap (lA 308 k v λ aq=>sA 308 a aq v λ ar=>lA 308 a ar λ HY=>K HY ar) (fA 308 k 1 λ asx=>
 lA 3 asx v λ au=>bB .add 3 au (i 1) λ av=>bB .add 3 n3 (i 1) λ aw=>cF 258 [l0,av,QK,aw] v λ ax ay=>aL 308 ay λ y12 az=>sA 308 y12 ax az λ a0=>fA 308 y12 2 λ a1=>
 lA 31 a1 a0 λ a2=>bB .neq 31 a2 (i 0) λ a3=>cV a3 (lA 308 y12 a0 λ a4=>sA 308 a a4 a0 λ a5=>lA 308 a a5 λ NV=>K NV a5) (fA 308 k 1 λ a6=>lA 3 a6 a0 λ a7=>iA 198 l0 a7 λ a8=>
 fA 209 a8 3 λ a9=>lA 3 a9 a0 λ ba=>eN Tryz.prog (Instr.build 164 [(0,Vn),(3,ba)].toArray) λ bb=>bS 82 1 [(0,bb)] a0 λ bc bd=>fA 308 k 0 λ be=>lA 82 be bd λ bf=>
 aP 82 bc bf bd λ bg bh=>fA 308 y12 0 λ bi=>lA 82 bi bh λ bj=>aP 82 bg bj bh λ bk bl=>fA 308 y12 1 λ bm=>lA 3 bm bl λ bn=>eN Tryz.prog (Instr.build 308 [(0,bk),(1,bn)].toArray) λ bo=>
 sA 308 k bo bl λ bp=>bB .eql 3 n3 (i 2) λ bq=>cV bq (lA 308 k bp λ br=>sA 308 a br bp λ bs=>lA 308 a bs λ r_3=>K r_3 bs) (K1 bp))))) (λ K2=>K2 (i 0) (i 0) o)) (
 lA 308 k o λ bt=>sA 308 a bt o λ bu=>lA 308 a bu λ r_4=>K r_4 bu)) (λ K1=>K1 n))
def atY:dD:=λ i=>match i with
 | 9=>(.of [(0,[]),(1,[]),(2,[]),(3,[]),(5,[]),(4,[2]),(6,[]),(7,[]),(8,[2]),(9,[])])
 | _=>.nil
theorem abm(l0 i1 QK n3:Value)(h:S258 w K l0 i1 QK n3):CR 258 [l0,i1,QK,n3] w K:=
 qz 91 atY 256 [.cell 8 308] Tryz.func258 h
def atZ:dD:=λ i=>match i with
 | 1=>.run 0 11
 | _=>.nil
def at1:dD:=λ i=>match i with
 | 1=>.run 0 15
 | _=>.nil
def at2:dD:=λ i=>match i with
 | 1=>.run 0 13
 | 2=>.run 0 15
 | _=>.nil
def S271(Dy a1 b2:Value):Prop:=
 fc (λ K1=>bB .lss 3 Dy (i 0) λ a=>cV a (K1 tt w) (bB .geq 3 Dy (i 16) λ b=>K1 b w)) (λ c d=>∀_:Env,
 cV c (K (.tuple #[(i 0),(i 1)]) d) (cF 304 [] d λ e f=>eN Tryz.prog (Instr.index 348 e Dy) λ g=>bB .eql 288 g .nilFunc λ h=>cV h (K (.tuple #[(i 0),(i 1)]) f) (fc (λ K2=>
 bB .eql 3 Dy (i 8) λ j=>cV j (bB .eql 3 b2 (i 0) λ k=>K2 k f) (bB .eql 3 Dy (i 9) λ l=>cV l (bB .eql 3 b2 (i 0) λ n=>K2 n f) (K2 ff f))) (λ o p=>∀_:Env,
 cV o (K (.tuple #[(i 0),(i 12)]) p) (kq Tryz.prog g [a1,b2] p λ q r=>K (.tuple #[q,(i 0)]) r)))))
theorem abn(Dy a1 b2:Value)(h:S271 w K Dy a1 b2):CR 271 [Dy,a1,b2] w K:=
 qz 36 (λ _=>.nil) 192 [.tmp 6,.tmp 7] Tryz.func271 h
def S275(Dy a1 b2:Value):Prop:=
 bB .eql 3 Dy (i 5) λ a=>cV a (bA .add 3 a1 b2 λ b=>K (.tuple #[b,(i 0)]) w) (bB .eql 3 Dy (i 6) λ c=>cV c (bA .sub 3 a1 b2 λ d=>K (.tuple #[d,(i 0)]) w) (bB .eql 3 Dy (i 7) λ e=>
 cV e (bA .mul 3 a1 b2 λ f=>K (.tuple #[f,(i 0)]) w) (bB .eql 3 Dy (i 8) λ g=>cV g (bB .eql 3 b2 (i 0) λ h=>cV h (K (.tuple #[(i 0),(i 12)]) w) (cF 306 [a1,b2] w λ j k=>
 K (.tuple #[j,(i 0)]) k)) (bB .eql 3 Dy (i 9) λ l=>cV l (bB .eql 3 b2 (i 0) λ n=>cV n (K (.tuple #[(i 0),(i 12)]) w) (cF 306 [a1,b2] w λ o p=>bA .mul 3 b2 o λ q=>bA .sub 3 a1 q λ r=>
 K (.tuple #[r,(i 0)]) p)) (bB .eql 3 Dy (i 10) λ s=>cV s (bA .eql 3 a1 b2 λ t=>cF 305 [t] w λ u v=>K (.tuple #[u,(i 0)]) v) (bB .eql 3 Dy (i 11) λ x=>cV x (bA .neq 3 a1 b2 λ y=>
 cF 305 [y] w λ z aa=>K (.tuple #[z,(i 0)]) aa) (bB .eql 3 Dy (i 12) λ ab=>cV ab (bA .lss 3 a1 b2 λ ac=>cF 305 [ac] w λ ad ae=>K (.tuple #[ad,(i 0)]) ae) (bB .eql 3 Dy (i 13) λ af=>
 cV af (bA .leq 3 a1 b2 λ ag=>cF 305 [ag] w λ ah ai=>K (.tuple #[ah,(i 0)]) ai) (bB .eql 3 Dy (i 14) λ aj=>cV aj (Gk (λ K1=>bB .neq 3 a1 (i 0) λ ak=>cV ak (bB .neq 3 b2 (i 0) λ al=>
 cF 305 [al] w λ am an=>K1 am (i 0) an) (cF 305 [ff] w λ ao ap=>K1 ao (i 0) ap)) (λ aq ar asx=>∀_:Env,
 K (.tuple #[aq,ar]) asx)) (bB .eql 3 Dy (i 15) λ au=>cV au (Gk (λ K2=>bB .neq 3 a1 (i 0) λ av=>cV av (cF 305 [tt] w λ aw ax=>K2 aw (i 0) ax) (bB .neq 3 b2 (i 0) λ ay=>
 cF 305 [ay] w λ az a0=>K2 az (i 0) a0)) (λ a2 a3 a4=>∀_:Env,
 K (.tuple #[a2,a3]) a4)) (K (.tuple #[(i 0),(i 1)]) w)))))))))))
theorem abo(Dy a1 b2:Value)(h:S275 w K Dy a1 b2):CR 275 [Dy,a1,b2] w K:=
 qz 84 (λ _=>.nil) 192 [.tmp 6,.tmp 7] Tryz.func275 h
def S289(l0 l4:Value):Prop:=
 o8 (λ K1 n5 i6 a=>∀_:Env,
 lN 141 l0 λ b=>bA .lss 3 i6 b λ c=>cV c (iA 141 l0 i6 λ d=>lA 193 d a λ e=>aL 193 a λ f g=>sA 193 f e g λ h=>fc (λ K2=>fA 193 f 6 λ j=>lA 3 j h λ k=>
 bB .lss 3 k (i 0) λ l=>cV l (K2 tt h) (fA 193 f 7 λ n=>lA 3 n h λ o=>bB .lss 3 o (i 0) λ p=>cV p (K2 tt h) (fA 193 f 6 λ q=>lA 3 q h λ r=>bB .gtr 3 r (i 40) λ s=>
 cV s (K2 tt h) (fA 193 f 7 λ t=>lA 3 t h λ u=>bB .gtr 3 u (i 40) λ v=>cV v (K2 tt h) (bB .add 3 i6 (i 1) λ x=>fA 193 f 6 λ y=>lA 3 y h λ z=>bA .add 3 x z λ aa=>
 fA 193 f 7 λ ab=>lA 3 ab h λ ac=>bA .add 3 aa ac λ ad=>lN 141 l0 λ ae=>bA .gtr 3 ad ae λ af=>K2 af h))))) (λ ag ah=>∀_:Env,
 cV ag (K (i (-1)) ah) (fc (λ K3=>fA 193 f 6 λ ai=>lA 3 ai ah λ aj=>bB .gtr 3 aj (i 0) λ ak=>cV ak (fA 193 f 0 λ al=>lA 3 al ah λ am=>bB .neq 3 am (i 11) λ an=>
 cV an (fA 193 f 0 λ ao=>lA 3 ao ah λ ap=>bB .neq 3 ap (i 12) λ aq=>cV aq (K3 tt ah) (fA 193 f 7 λ ar=>lA 3 ar ah λ asx=>bB .gtr 3 asx (i 0) λ au=>cV au (fA 193 f 0 λ av=>
 lA 3 av ah λ aw=>bB .neq 3 aw (i 11) λ ax=>cV ax (K3 tt ah) (fA 193 f 0 λ ay=>lA 3 ay ah λ az=>bB .eql 3 az (i 13) λ a0=>cV a0 (bB .eql 3 l4 (i 0) λ a1=>K3 a1 ah) (
 K3 ff ah))) (fA 193 f 0 λ a2=>lA 3 a2 ah λ a3=>bB .eql 3 a3 (i 13) λ a4=>cV a4 (bB .eql 3 l4 (i 0) λ a5=>K3 a5 ah) (K3 ff ah)))) (fA 193 f 7 λ a6=>lA 3 a6 ah λ a7=>
 bB .gtr 3 a7 (i 0) λ a8=>cV a8 (fA 193 f 0 λ a9=>lA 3 a9 ah λ ba=>bB .neq 3 ba (i 11) λ bb=>cV bb (K3 tt ah) (fA 193 f 0 λ bc=>lA 3 bc ah λ bd=>bB .eql 3 bd (i 13) λ be=>
 cV be (bB .eql 3 l4 (i 0) λ bf=>K3 bf ah) (K3 ff ah))) (fA 193 f 0 λ bg=>lA 3 bg ah λ bh=>bB .eql 3 bh (i 13) λ bi=>cV bi (bB .eql 3 l4 (i 0) λ bj=>K3 bj ah) (
 K3 ff ah)))) (fA 193 f 7 λ bk=>lA 3 bk ah λ bl=>bB .gtr 3 bl (i 0) λ bm=>cV bm (fA 193 f 0 λ bn=>lA 3 bn ah λ bo=>bB .neq 3 bo (i 11) λ bp=>cV bp (K3 tt ah) (fA 193 f 0 λ bq=>
 lA 3 bq ah λ br=>bB .eql 3 br (i 13) λ bs=>cV bs (bB .eql 3 l4 (i 0) λ bt=>K3 bt ah) (K3 ff ah))) (fA 193 f 0 λ bu=>lA 3 bu ah λ bv=>bB .eql 3 bv (i 13) λ bw=>
 cV bw (bB .eql 3 l4 (i 0) λ bx=>K3 bx ah) (K3 ff ah)))) (λ bz b0=>∀_:Env,
 cV bz (K (i (-1)) b0) (bB .add 3 i6 (i 1) λ b1=>fA 193 f 6 λ b2=>lA 3 b2 (drew b0) λ b3=>bA .add 3 b1 b3 λ b4=>fc (λ K4=>fA 193 f 0 λ b5=>lA 3 b5 (drew b0) λ b6=>
 bB .eql 3 b6 (i 12) λ b7=>cV b7 (bB .add 3 l4 (i 1) λ b8=>K4 b8 (drew b0)) (K4 l4 (drew b0))) (λ in8 b9=>∀_:Env,
 fc (λ K5=>fc (λ K6=>fA 193 f 0 λ ca=>lA 3 ca b9 λ cb=>bB .eql 3 cb (i 11) λ cc=>cV cc (K6 tt b9) (fA 193 f 0 λ cd=>lA 3 cd b9 λ ce=>bB .eql 3 ce (i 12) λ cf=>
 K6 cf b9)) (λ cg ch=>∀_:Env,
 cV cg (bB .add 3 i6 (i 1) λ ci=>eN Tryz.prog (Instr.sliceAt 141 l0 (some ci) (some b4) none) λ cj=>fA 193 f 7 λ ck=>lA 3 ck (drew ch) λ cl=>bA .add 3 b4 cl λ cm=>eN Tryz.prog (Instr.sliceAt 141 l0 (some b4) (some cm) none) λ cn=>
 cF 289 [cj,in8] (drew ch) λ co cp=>kA 3 ck cl cp (cF 289 [cn,in8] cp λ cq cr=>fc (λ K7=>bB .lss 3 co (i 0) λ cs=>cV cs (K7 tt cr) (bB .lss 3 cq (i 0) λ ct=>K7 ct cr))
 (λ cu cv=>∀_:Env,
 cV cu (K (i (-1)) cv) (bC .add 3 (i 1) co λ cw=>bC .add 3 (i 1) cq λ cx=>eN Tryz.prog (Builtin.max_ #[3,3,3] 3 [n5,cw,cx].toArray) λ cy=>K5 cy cv)))) (K5 n5 ch))) (λ ag2 cz=>∀_:Env,
 fA 193 f 7 λ c0=>lA 3 c0 cz λ c1=>bA .add 3 b4 c1 λ c2=>K1 ag2 c2 cz))))))) (K n5 a)) (λ K1=>K1 (i 0) (i 0) w)
def at3:dD:=λ i=>match i with
 | 8=>.run 0 8
 | 12=>(.of [(0,[]),(1,[]),(2,[]),(3,[]),(4,[]),(5,[]),(7,[]),(8,[]),(9,[]),(10,[]),(11,[]),(12,[]),(13,[]),(14,[]),(6,[11]),(15,[]),(16,[]),(17,[])])
 | _=>.nil
theorem abp(l0 l4:Value)(h:S289 w K l0 l4):CR 289 [l0,l4] w K:=
 qz 135 at3 16 [.tmp 4] Tryz.func289 h
theorem ae4:PL 253:=dF Tryz.func253
theorem ae5:PL 254:=dF Tryz.func254
theorem amk:PL 255:=dF Tryz.func255
theorem ae6:PL 256:=dF Tryz.func256
theorem ye:PL 257:=dF Tryz.func257
theorem QL:PL 258:=dF Tryz.func258
theorem aml:PL 259:=dF Tryz.func259
theorem amm:PL 260:=dF Tryz.func260
theorem amn:PL 261:=dF Tryz.func261
theorem amo:PL 266:=dF Tryz.func266
theorem Vo:PL 267:=dF Tryz.func267
theorem QM:PL 268:=dF Tryz.func268
theorem amp:PL 269:=dF Tryz.func269
theorem QN:PL 270:=dF Tryz.func270
theorem amq:PL 271:=dF Tryz.func271
theorem ae7:PL 272:=dF Tryz.func272
theorem J5:PL 273:=dF Tryz.func273
theorem amr:PL 274:=dF Tryz.func274
theorem ams:PL 275:=dF Tryz.func275
theorem amt:PL 276:=dF Tryz.func276
theorem amu:PL 277:=dF Tryz.func277
theorem amv:PL 288:=dF Tryz.func288
theorem Vp:PL 289:=dF Tryz.func289
variable (w:World) (K:Value->World->Prop)
def at4:dD:=λ i=>match i with
 | 2=>.run 0 10
 | 4=>.run 0 13
 | _=>.nil
def at5:dD:=λ i=>match i with
 | 2=>.run 0 13
 | 5=>.run 0 17
 | _=>.nil
def S294(l0 i1 QK:Value):Prop:=
 aL 308 w λ a b=>lN 198 l0 λ c=>bA .geq 3 i1 c λ d=>cV d (cF 320 [l0,i1,(i 6)] b λ e f=>sA 308 a e f λ g=>lA 308 a g λ r=>K r g) (fc (λ K1=>cF 209 [l0,i1,(Go.Value.string (ByteArray.mk (#[33])))] b λ h j=>
 cV h (K1 tt j) (cF 209 [l0,i1,(Go.Value.string (ByteArray.mk (#[45])))] j λ k l=>K1 k l)) (λ un7 n=>∀_:Env,
 cF 209 [l0,i1,(Go.Value.string (ByteArray.mk (#[40])))] n λ o p=>fc (λ K2=>cV un7 (bB .eql 3 QK (i 12) λ q=>K2 q p) (cV o (bB .eql 3 QK (i 12) λ s=>K2 s p) (K2 ff p)))
 (λ t u=>∀_:Env,
 cV t (cF 320 [l0,i1,(i 7)] u λ v x=>sA 308 a v x λ y=>lA 308 a y λ HY=>K HY y) (cV un7 (bB .add 3 i1 (i 1) λ z=>bB .add 3 QK (i 1) λ aa=>cF 294 [l0,z,aa] u λ ab ac=>
 aL 308 ac λ ad ae=>sA 308 ad ab ae λ af=>fA 308 ad 2 λ ag=>lA 31 ag af λ ah=>bB .neq 31 ah (i 0) λ ai=>cV ai (lA 308 ad af λ aj=>sA 308 a aj af λ ak=>lA 308 a ak λ NV=>
 K NV ak) (fc (λ K3=>iA 198 l0 i1 λ al=>fA 209 al 1 λ am=>lA 9 am af λ an=>eN Tryz.prog (jz .eql 9 false true an (Go.Value.string (ByteArray.mk (#[45])))) λ ao=>
 cV ao (K3 (i 3) af) (K3 (i 4) af)) (λ Vn ap=>∀_:Env,
 iA 198 l0 i1 λ aq=>fA 209 aq 3 λ ar=>lA 3 ar ap λ asx=>eN Tryz.prog (Instr.build 164 [(0,Vn),(3,asx)].toArray) λ au=>bS 82 1 [(0,au)] ap λ av aw=>fA 308 ad 0 λ ax=>
 lA 82 ax aw λ ay=>aP 82 av ay aw λ az a0=>fA 308 ad 0 λ a1=>sA 82 a1 az a0 λ a2=>lA 308 ad a2 λ a3=>sA 308 a a3 a2 λ a4=>lA 308 a a4 λ r_3=>K r_3 a4))) (cV o (
 bB .add 3 i1 (i 1) λ a5=>bB .add 3 QK (i 1) λ a6=>cF 258 [l0,a5,a6,(i 0)] u λ a7 a8=>aL 308 a8 λ a9 ba=>sA 308 a9 a7 ba λ bb=>fA 308 a9 2 λ bc=>lA 31 bc bb λ bd=>
 bB .neq 31 bd (i 0) λ be=>cV be (lA 308 a9 bb λ bf=>sA 308 a bf bb λ bg=>lA 308 a bg λ r_4=>K r_4 bg) (fA 308 a9 1 λ bh=>lA 3 bh bb λ bi=>cF 209 [l0,bi,(Go.Value.string (ByteArray.mk (#[41])))] bb λ bj bk=>
 eN Tryz.prog (Op.unary .not bj) λ bl=>cV bl (fA 308 a9 1 λ bm=>lA 3 bm bk λ bn=>cF 320 [l0,bn,(i 5)] bk λ bo bp=>sA 308 a bo bp λ bq=>lA 308 a bq λ r_5=>K r_5 bq) (
 fA 308 a9 1 λ br=>lA 3 br bk λ bs=>bB .add 3 bs (i 1) λ bt=>fA 308 a9 1 λ bu=>sA 3 bu bt bk λ bv=>lA 308 a9 bv λ bw=>sA 308 a bw bv λ bx=>lA 308 a bx λ r_6=>
 K r_6 bx))) (iA 198 l0 i1 λ bz=>fA 209 bz 0 λ b0=>lA 3 b0 u λ b1=>bB .eql 3 b1 (i 2) λ b2=>cV b2 (iA 198 l0 i1 λ b3=>fA 209 b3 2 λ b4=>lA 3 b4 (drew u) λ b5=>
 iA 198 l0 i1 λ b6=>fA 209 b6 3 λ b7=>lA 3 b7 (drew u) λ b8=>eN Tryz.prog (Instr.build 164 [(0,(i 1)),(1,b5),(3,b8)].toArray) λ b9=>bB .add 3 i1 (i 1) λ ca=>bS 82 1 [(0,b9)] (drew u) λ cb cc=>
 eN Tryz.prog (Instr.build 308 [(0,cb),(1,ca)].toArray) λ cd=>sA 308 a cd cc λ ce=>lA 308 a ce λ r_7=>K r_7 ce) (fc (λ K4=>iA 198 l0 i1 λ cf=>fA 209 cf 0 λ cg=>
 lA 3 cg u λ ch=>bB .eql 3 ch (i 1) λ ci=>cV ci (iA 198 l0 i1 λ cj=>fA 209 cj 1 λ ck=>lA 9 ck u λ cl=>cF 211 [cl] u λ cm cn=>K4 cm cn) (K4 ff u)) (λ co cp=>∀_:Env,
 cV co (iA 198 l0 i1 λ cq=>fA 209 cq 1 λ cr=>lA 9 cr (drew cp) λ cs=>iA 198 l0 i1 λ ct=>fA 209 ct 3 λ cu=>lA 3 cu (drew cp) λ cv=>eN Tryz.prog (Instr.build 164 [(0,(i 2)),(2,cs),(3,cv)].toArray) λ cw=>
 bB .add 3 i1 (i 1) λ cx=>bS 82 1 [(0,cw)] (drew cp) λ cy cz=>eN Tryz.prog (Instr.build 308 [(0,cy),(1,cx)].toArray) λ c0=>sA 308 a c0 cz λ c1=>lA 308 a c1 λ r_8=>
 K r_8 c1) (cF 320 [l0,i1,(i 5)] cp λ c2 c3=>sA 308 a c2 c3 λ c4=>lA 308 a c4 λ r_9=>K r_9 c4)))))))))
def aue:dD:=λ i=>match i with
 | 27=>(.of [(0,[]),(1,[]),(2,[]),(3,[]),(4,[]),(5,[]),(6,[]),(7,[]),(8,[]),(9,[]),(10,[]),(12,[]),(13,[]),(11,[]),(14,[]),(15,[])])
 | 29=>(.of [(0,[]),(1,[]),(2,[]),(3,[]),(4,[]),(5,[]),(6,[]),(7,[]),(8,[]),(9,[]),(10,[]),(12,[]),(13,[]),(11,[]),(14,[]),(15,[])])
 | _=>.nil
theorem abq(l0 i1 QK:Value)(h:S294 w K l0 i1 QK):CR 294 [l0,i1,QK] w K:=
 qz 152 aue 64 [.cell 6 308] Tryz.func294 h
def S304:Prop:=
 aL 348 w λ a b=>aL 348 b λ l1 c=>iA 348 l1 (i 5) λ d=>sA 288 d (.func (.func 324) #[] #[]) c λ e=>iA 348 l1 (i 6) λ f=>sA 288 f (.func (.func 325) #[] #[]) e λ g=>
 iA 348 l1 (i 7) λ h=>sA 288 h (.func (.func 326) #[] #[]) g λ j=>iA 348 l1 (i 8) λ k=>sA 288 k (.func (.func 327) #[] #[]) j λ l=>iA 348 l1 (i 9) λ n=>sA 288 n (.func (.func 328) #[] #[]) l λ o=>
 kq Tryz.prog (.func (.func 322) #[] #[]) [(.func (.func 329) #[] #[])] o λ p q=>iA 348 l1 (i 10) λ s=>sA 288 s p q λ t=>kq Tryz.prog (.func (.func 322) #[] #[]) [(.func (.func 330) #[] #[])] t λ u v=>
 iA 348 l1 (i 11) λ x=>sA 288 x u v λ y=>kq Tryz.prog (.func (.func 322) #[] #[]) [(.func (.func 331) #[] #[])] y λ z aa=>iA 348 l1 (i 12) λ ab=>sA 288 ab z aa λ ac=>
 kq Tryz.prog (.func (.func 322) #[] #[]) [(.func (.func 332) #[] #[])] ac λ ad ae=>iA 348 l1 (i 13) λ af=>sA 288 af ad ae λ ag=>kq Tryz.prog (.func (.func 322) #[] #[]) [(.func (.func 333) #[] #[])] ag λ ah ai=>
 iA 348 l1 (i 14) λ aj=>sA 288 aj ah ai λ ak=>kq Tryz.prog (.func (.func 322) #[] #[]) [(.func (.func 334) #[] #[])] ak λ al am=>iA 348 l1 (i 15) λ an=>sA 288 an al am λ ao=>
 lA 348 l1 ao λ ap=>sA 348 a ap ao λ aq=>lA 348 a aq λ r=>K r aq
theorem abr(h:S304 w K):CR 304 [] w K:=
 qz 27 (λ _=>.nil) 1 [.cell 0 348] Tryz.func304 h
def S307(HZ a:Value):Prop:=
 lA 179 a w λ b=>lN 179 b λ c=>bB .sub 3 c (i 1) λ d=>kh (λ K1 i3 e=>∀_:Env,
 bB .geq 3 i3 (i 0) λ f=>cV f (lA 179 a e λ g=>iA 179 g i3 λ h=>lA 231 h e λ j=>kq Tryz.prog HZ [i3,j] e λ k l=>eN Tryz.prog (Op.unary .not k) λ n=>cV n (
 K (.tuple #[]) l) (bB .sub 3 i3 (i 1) λ o=>K1 o l)) (K (.tuple #[]) e)) (λ K1=>K1 d w)
theorem abt(HZ x1:Value)(h:S307 w K HZ x1):CR 307 [HZ,x1] w K:=
 qz 19 (λ _=>.nil) 0 [] Tryz.func307 h
def S315(Gq:Value):Prop:=
 fc (λ K1=>bB .lss 3 Gq (i 1) λ a=>cV a (K1 tt w) (bB .gtr 3 Gq (i 14) λ b=>K1 b w)) (λ c d=>∀_:Env,
 cV c (K (Go.Value.string (ByteArray.mk (#[]))) d) (bS 91 15 [(0,(Go.Value.string (ByteArray.mk (#[])))),(1,(Go.Value.string (ByteArray.mk (#[114,101])))),(2,(Go.Value.string (ByteArray.mk (#[114,110])))),(3,(Go.Value.string (ByteArray.mk (#[110,101])))),(4,(Go.Value.string (ByteArray.mk (#[114,110,101,102])))),(5,(Go.Value.string (ByteArray.mk (#[110])))),(6,(Go.Value.string (ByteArray.mk (#[110])))),(7,(Go.Value.string (ByteArray.mk (#[])))),(8,(Go.Value.string (ByteArray.mk (#[])))),(9,(Go.Value.string (ByteArray.mk (#[110])))),(10,(Go.Value.string (ByteArray.mk (#[110])))),(11,(Go.Value.string (ByteArray.mk (#[101,98])))),(12,(Go.Value.string (ByteArray.mk (#[107,98])))),(13,(Go.Value.string (ByteArray.mk (#[])))),(14,(Go.Value.string (ByteArray.mk (#[101]))))] d λ e f=>
 iA 91 e Gq λ g=>lA 9 g f λ h=>K h f))
theorem abu(Gq:Value)(h:S315 w K Gq):CR 315 [Gq] w K:=
 qz 13 (λ _=>.nil) 4 [.tmp 2] Tryz.func315 h
def auf:dD:=λ i=>match i with
 | 1=>.run 0 45
 | 3=>.run 0 13
 | _=>.nil
def aug:dD:=λ i=>match i with
 | 3=>.run 0 18
 | _=>.nil
def auh:dD:=λ i=>match i with
 | 1=>.run 0 31
 | 2=>.run 0 12
 | _=>.nil
def S320(l0 i1 e2:Value):Prop:=
 aL 308 w λ a b=>fc (λ K1=>lN 198 l0 λ c=>bA .geq 3 i1 c λ d=>cV d (K1 (i 6) b) (K1 e2 b)) (λ aui e=>∀_:Env,
 cF 214 [l0,i1] e λ f g=>eN Tryz.prog (Instr.build 308 [(2,aui),(3,f)].toArray) λ h=>sA 308 a h g λ j=>lA 308 a j λ r=>K r j)
theorem abv(l0 i1 e2:Value)(h:S320 w K l0 i1 e2):CR 320 [l0,i1,e2] w K:=
 qz 16 (λ _=>.nil) 64 [.cell 6 308] Tryz.func320 h
theorem amw:PL 290:=dF Tryz.func290
theorem Gr:PL 291:=dF Tryz.func291
theorem amx:PL 292:=dF Tryz.func292
theorem ae8:PL 293:=dF Tryz.func293
theorem ae9:PL 294:=dF Tryz.func294
theorem Vq:PL 295:=dF Tryz.func295
theorem amy:PL 296:=dF Tryz.func296
theorem amz:PL 297:=dF Tryz.func297
theorem amA:PL 298:=dF Tryz.func298
theorem amB:PL 299:=dF Tryz.func299
theorem amC:PL 300:=dF Tryz.func300
theorem amD:PL 301:=dF Tryz.func301
theorem Vr:PL 302:=dF Tryz.func302
theorem J6:PL 303:=dF Tryz.func303
theorem amE:PL 304:=dF Tryz.func304
theorem zM:PL 305:=dF Tryz.func305
theorem afa:PL 306:=dF Tryz.func306
theorem amF:PL 307:=dF Tryz.func307
theorem amG:PL 315:=dF Tryz.func315
theorem J7:PL 316:=dF Tryz.func316
theorem Dz:PL 317:=dF Tryz.func317
theorem J8:PL 318:=dF Tryz.func318
theorem amH:PL 319:=dF Tryz.func319
theorem QO:PL 320:=dF Tryz.func320
theorem amI:PL 321:=dF Tryz.func321
theorem Gs:PL 322:=dF Tryz.func322
theorem Gt:PL 323:=dF Tryz.func323
theorem amJ:PL 324:=dF Tryz.func324
theorem amK:PL 325:=dF Tryz.func325
theorem amL:PL 326:=dF Tryz.func326
theorem amM:PL 327:=dF Tryz.func327
theorem amN:PL 328:=dF Tryz.func328
theorem amO:PL 329:=dF Tryz.func329
theorem amP:PL 330:=dF Tryz.func330
theorem amQ:PL 331:=dF Tryz.func331
theorem amR:PL 332:=dF Tryz.func332
theorem amS:PL 333:=dF Tryz.func333
theorem amT:PL 334:=dF Tryz.func334
end Go.Proofs.YtpdlpabnlkofmaaGreatDoor
namespace Go.Fw
def ng(w:World)(b:Nat)(cs:List Value):Prop:=∃ty,w.heap[b]?=some (.cells cs.toArray ty (0,0))
def Cell(w:World)(b o:Nat)(v:Value):Prop:=w.cell? ⟨b,o,none⟩=some v
structure gq(A:Nat->Prop)(w w':World):Prop where
 os:w'.os=w.os
 tape:w'.tape=w.tape
 output:w'.output=w.output
 size:w.heap.size<=w'.heap.size
 bY:∀b,b<w.heap.size->¬ A b->w'.heap[b]?=w.heap[b]?
def aY:Nat->Prop:=λ _=>False
abbrev Ext(w w':World):Prop:=gq aY w w'
theorem gq.refl(A:Nat->Prop)(w:World):gq A w w:=⟨rfl,rfl,rfl,Nat.le_refl _,λ _ _ _=>rfl⟩
theorem gq.trans{A B C:Nat->Prop}{w w1 w2:World}(h:gq A w w1)(k:gq B w1 w2)(hA:∀b,A b->C b)(hB:∀b,b<w.heap.size->B b->C b):gq C w w2:=
 ⟨k.os.trans h.os,k.tape.trans h.tape,k.output.trans h.output,Nat.le_trans h.size k.size,λ b hb hn=>
  (k.bY b (Nat.lt_of_lt_of_le hb h.size) λ hh=>hn (hB b hb hh)).trans (h.bY b hb λ hh=>hn (hA b hh))⟩
theorem gq.then{A:Nat->Prop}{w w1 w2:World}(h:gq A w w1)(k:Ext w1 w2):gq A w w2:=h.trans k (λ _ h=>h) λ _ _ h=>h.elim
theorem gq.mono{A B:Nat->Prop}{w w':World}(h:gq A w w')(hh:∀b,A b->B b):gq B w w':=⟨h.os,h.tape,h.output,h.size,λ b hb hn=>h.bY b hb λ x=>hn (hh b x)⟩
theorem Ext.refl(w:World):Ext w w:=gq.refl _ _
theorem Ext.trans{w w1 w2:World}(h:Ext w w1)(k:Ext w1 w2):Ext w w2:=gq.then h k
theorem Ext.aF{A:Nat->Prop}{w w':World}(h:Ext w w'):gq A w w':=h.mono λ _ h=>h.elim
theorem Ext.drew(w:World):Ext w (drew w):=⟨rfl,rfl,rfl,Nat.le_refl _,λ _ _ _=>rfl⟩
theorem gq.below{w w':World}(h:Ext w w'):Go.RowKit.Below w.heap.size w w':=⟨h.os,h.tape,h.output,h.size,λ b hb=>h.bY b hb (λ x=>x)⟩
theorem uU{w:World}{b:Nat}{o:Obj}(h:w.heap[b]?=some o):b<w.heap.size:=(Array.getElem?_eq_some_iff.1 h).1
theorem ng.lt{w:World}{b:Nat}{cs:List Value}(h:ng w b cs):b<w.heap.size:=uU h.choose_spec
theorem Cell.lt{w:World}{b o:Nat}{v:Value}(h:Cell w b o v):b<w.heap.size:=by
 unfold Cell World.cell? at h
 grind
theorem Cell.of_eq{w w':World}{b o:Nat}{v:Value}(h:Cell w b o v)(hh:w'.heap[b]?=w.heap[b]?):Cell w' b o v:=by
 unfold Cell World.cell? at *
 grind
theorem ng.of_eq{w w':World}{b:Nat}{cs:List Value}(h:ng w b cs)(hh:w'.heap[b]?=w.heap[b]?):ng w' b cs:=by
 grind[ng]
theorem Cell.aF{A:Nat->Prop}{w w':World}{b o:Nat}{v:Value}(h:Cell w b o v)(hc:gq A w w')(hn:¬ A b):Cell w' b o v:=h.of_eq (hc.bY b h.lt hn)
theorem Cell.ext{w w':World}{b o:Nat}{v:Value}(h:Cell w b o v)(hc:Ext w w'):Cell w' b o v:=h.aF hc (λ x=>x)
theorem ng.cell{w:World}{b o:Nat}{cs:List Value}{v:Value}(h:ng w b cs)(hv:cs[o]?=some v):Cell w b o v:=by
 obtain⟨ty,h⟩:=h
 unfold Cell World.cell?
 grind
theorem ng.frozen{w:World}{b o:Nat}{cs:List Value}(h:ng w b cs):w.frozen? ⟨b,o,none⟩=false:=by
 obtain⟨ty,h⟩:=h
 unfold World.frozen?
 grind
theorem H0(w:World)(b o:Nat)(v:Value)(k:Nat)(h:k≠b):(w.setCell ⟨b,o,none⟩ v).heap[k]?=w.heap[k]?:=by
 simp only[World.setCell,Array.getElem?_modify]
 grind
theorem ng.setCell{w:World}{b o:Nat}{cs:List Value}(h:ng w b cs)(v:Value):ng (w.setCell ⟨b,o,none⟩ v) b (cs.set o v):=by
 obtain⟨ty,h⟩:=h
 refine⟨ty,?_⟩
 simp only[World.setCell,Array.getElem?_modify,if_true,h]
 simp
theorem gq.setCell(w:World)(b o:Nat)(v:Value):gq (· = b) w (w.setCell ⟨b,o,none⟩ v):=
 ⟨rfl,rfl,rfl,by simp_all,λ k _ hn=>H0 w b o v k hn⟩
def push(w:World)(o:Obj):World:={w with heap:=w.heap.push o}
theorem Be(w:World)(o:Obj)(k:Nat)(h:k<w.heap.size):(push w o).heap[k]?=w.heap[k]?:=by
 grind[push]
theorem ni(w:World)(o:Obj):(push w o).heap[w.heap.size]?=some o:=by
 grind[push]
theorem Bf(w:World)(o:Obj):(push w o).heap.size=w.heap.size+1:=by simp[push]
theorem Ext.push(w:World)(o:Obj):Ext w (push w o):=⟨rfl,rfl,rfl,by rw[Bf];omega,λ b hb _=>Be w o b hb⟩
theorem ng.push(w:World)(cs:List Value)(ty:TypeId):ng (push w (.cells cs.toArray ty)) w.heap.size cs:=⟨ty,ni _ _⟩
structure HP where
 p:World->(Nat->Prop)->Prop
 loc:∀w w' F,p w F->(∀b,F b->w'.heap[b]?=w.heap[b]?)->p w' F
 lt:∀w F b,p w F->F b->b<w.heap.size
def bY(b:Nat)(cs:List Value):HP where
 p w F:=ng w b cs/\∀k,F k↔k=b
 loc w w' F h hh:=⟨h.1.of_eq (hh b ((h.2 b).2 rfl)),h.2⟩
 lt w F b' h hb:=by rw[(h.2 b').1 hb];exact h.1.lt
def rE(w0:World)(A:Nat->Prop):List HP->World->(Nat->Prop)->Prop
 | [],_,U=>∀b,¬ U b
 | H::L,w,U=>∃F U',H.p w F/\(∀b,F b->A b\/w0.heap.size<=b)/\(∀b,F b->¬ U' b)/\(∀b,U b↔F b\/U' b)/\rE w0 A L w U'
structure St(w0:World)(A:Nat->Prop)(L:List HP)(w:World):Prop where
 aF:gq A w0 w
 tF:∃U,rE w0 A L w U
theorem rE.lt{w0:World}{A:Nat->Prop}{L:List HP}{w:World}{U:Nat->Prop}(h:rE w0 A L w U):∀b,U b->b<w.heap.size:=by
 induction L generalizing U with
 | nil=>intro b hb;exact(h b hb).elim
 | cons H L ih=>
  obtain⟨F,U',h1,h2,h3,h4,h5⟩:=h
  intro b hb
  rcases(h4 b).1 hb with hf|hu
  ·exact H.lt _ _ _ h1 hf
  ·exact ih h5 b hu
theorem rE.loc{w0:World}{A:Nat->Prop}{L:List HP}{w w':World}{U:Nat->Prop}(h:rE w0 A L w U)(hh:∀b,U b->w'.heap[b]?=w.heap[b]?):rE w0 A L w' U:=by
 induction L generalizing U with
 | nil=>exact h
 | cons H L ih=>
  obtain⟨F,U',h1,h2,h3,h4,h5⟩:=h
  exact⟨F,U',H.loc _ _ _ h1 λ b hb=>hh b ((h4 b).2 (.inl hb)),h2,h3,h4,ih h5 λ b hb=>hh b ((h4 b).2 (.inr hb))⟩
theorem St.start(w:World):St w aY [] w:=⟨gq.refl _ _,aY,λ _ h=>h⟩
theorem St.begin{w:World}{F:Nat->Prop}{H:HP}(h:H.p w F):St w F [H] w:=
 ⟨gq.refl _ _,F,F,aY,h,λ _ h=>.inl h,λ _ _ h=>h,λ _=>⟨.inl,λ h=>h.elim id λ h=>h.elim⟩,λ _ h=>h⟩
theorem St.ext{w0:World}{A:Nat->Prop}{L:List HP}{w w':World}(h:St w0 A L w)(e:Ext w w'):St w0 A L w':=by
 obtain⟨U,hU⟩:=h.tF
 exact⟨h.aF.then e,U,hU.loc λ b hb=>e.bY b (hU.lt b hb) (λ x=>x)⟩
theorem St.drew{w0:World}{A:Nat->Prop}{L:List HP}{w:World}(h:St w0 A L w):St w0 A L (drew w):=h.ext (Ext.drew w)
theorem St.new{w0:World}{A:Nat->Prop}{L:List HP}{w w':World}{H:HP}{F:Nat->Prop}(h:St w0 A L w)(e:Ext w w')(hH:H.p w' F)(hF:∀b,F b->w.heap.size<=b):St w0 A (H::L) w':=by
 obtain⟨U,hU⟩:=(h.ext e).tF
 obtain⟨U0,hU0⟩:=h.tF
 have auk:rE w0 A L w' U0:=hU0.loc λ b hb=>e.bY b (hU0.lt b hb) (λ x=>x)
 refine⟨(h.ext e).aF,λ b=>F b\/U0 b,F,U0,hH,λ b hb=>.inr ?_,λ b hb hu=>?_,λ b=>Iff.rfl,auk⟩
 ·exact Nat.le_trans h.aF.size (hF b hb)
 have:=hU0.lt b hu;grind
theorem St.qW{w0:World}{A:Nat->Prop}{L:List HP}{w w':World}{H H':HP}(h:St w0 A (H::L) w)
  (hk:∀F,H.p w F->∃F',H'.p w' F'/\(∀b,F' b->F b\/w.heap.size<=b)/\gq F w w'):St w0 A (H'::L) w':=by
 obtain⟨U,F,U',h1,h2,h3,h4,h5⟩:=h.tF
 obtain⟨F',g1,g2,g3⟩:=hk F h1
 refine⟨h.aF.trans g3 (λ _ h=>h) λ b hb hf=>?_,λ b=>F' b\/U' b,F',U',g1,λ b hb=>?_,λ b hb hu=>?_,λ b=>Iff.rfl,?_⟩
 ·grind
 ·rcases g2 b hb with hf|hf
  ·grind
  exact .inr (Nat.le_trans h.aF.size hf)
 ·rcases g2 b hb with hf|hf
  ·grind
  have:=h5.lt b hu;omega
 exact h5.loc λ b hb=>g3.bY b (h5.lt b hb) λ hf=>h3 b hf hb
theorem St.drop{w0:World}{A:Nat->Prop}{L:List HP}{w:World}{H:HP}(h:St w0 A (H::L) w):St w0 A L w:=by
 obtain⟨U,F,U',h1,h2,h3,h4,h5⟩:=h.tF
 exact⟨h.aF,U',h5⟩
theorem St.swap{w0:World}{A:Nat->Prop}{L:List HP}{w:World}{H H':HP}(h:St w0 A (H::H'::L) w):St w0 A (H'::H::L) w:=by
 obtain⟨U,F,U',h1,h2,h3,h4,F2,U2,g1,g2,g3,g4,g5⟩:=h.tF
 refine⟨h.aF,U,F2,λ b=>F b\/U2 b,g1,g2,λ b hb=>?_,λ b=>?_,F,U2,h1,h2,λ b hb hu=>?_,λ b=>Iff.rfl,g5⟩
 ·grind
 ·grind
 grind
theorem rE.swap{w0:World}{A:Nat->Prop}{L:List HP}{w:World}{H H':HP}{U:Nat->Prop}(h:rE w0 A (H::H'::L) w U):rE w0 A (H'::H::L) w U:=by
 obtain⟨F,U',h1,h2,h3,h4,F2,U2,g1,g2,g3,g4,g5⟩:=h
 refine⟨F2,λ b=>F b\/U2 b,g1,g2,λ b hb=>?_,λ b=>?_,F,U2,h1,h2,λ b hb hu=>?_,λ b=>Iff.rfl,g5⟩
 ·grind
 ·grind
 grind
theorem rE.under{w0:World}{A:Nat->Prop}{L L':List HP}{w:World}{H:HP}{U:Nat->Prop}(hk:∀U,rE w0 A L w U->rE w0 A L' w U)(h:rE w0 A (H::L) w U):rE w0 A (H::L') w U:=by
 grind[rE]
theorem rE.pull{w0:World}{A:Nat->Prop}{L1 L2:List HP}{w:World}{H:HP}{U:Nat->Prop}(h:rE w0 A (L1++H::L2) w U):rE w0 A (H::(L1++L2)) w U:=by
 induction L1 generalizing U with
 | nil=>exact h
 | cons X L1 ih=>exact rE.swap (rE.under (λ U h=>ih h) h)
theorem St.pull{w0:World}{A:Nat->Prop}{w:World}(L1:List HP){H:HP}{L2:List HP}(h:St w0 A (L1++H::L2) w):St w0 A (H::(L1++L2)) w:=by
 obtain⟨U,hU⟩:=h.tF
 exact⟨h.aF,U,hU.pull⟩
theorem St.p1{w0:World}{A:Nat->Prop}{w:World}{P0 H:HP}{R:List HP}(h:St w0 A (P0::H::R) w):St w0 A (H::P0::R) w:=St.pull [P0] h
theorem St.p2{w0:World}{A:Nat->Prop}{w:World}{P0 P1 H:HP}{R:List HP}(h:St w0 A (P0::P1::H::R) w):St w0 A (H::P0::P1::R) w:=St.pull [P0,P1] h
theorem St.p3{w0:World}{A:Nat->Prop}{w:World}{P0 P1 P2 H:HP}{R:List HP}(h:St w0 A (P0::P1::P2::H::R) w):St w0 A (H::P0::P1::P2::R) w:=St.pull [P0,P1,P2] h
theorem St.p4{w0:World}{A:Nat->Prop}{w:World}{P0 P1 P2 P3 H:HP}{R:List HP}(h:St w0 A (P0::P1::P2::P3::H::R) w):St w0 A (H::P0::P1::P2::P3::R) w:=St.pull [P0,P1,P2,P3] h
theorem St.p5{w0:World}{A:Nat->Prop}{w:World}{P0 P1 P2 P3 P4 H:HP}{R:List HP}(h:St w0 A (P0::P1::P2::P3::P4::H::R) w):St w0 A (H::P0::P1::P2::P3::P4::R) w:=St.pull [P0,P1,P2,P3,P4] h
theorem St.p6{w0:World}{A:Nat->Prop}{w:World}{P0 P1 P2 P3 P4 P5 H:HP}{R:List HP}(h:St w0 A (P0::P1::P2::P3::P4::P5::H::R) w):St w0 A (H::P0::P1::P2::P3::P4::P5::R) w:=St.pull [P0,P1,P2,P3,P4,P5] h
theorem St.p7{w0:World}{A:Nat->Prop}{w:World}{P0 P1 P2 P3 P4 P5 P6 H:HP}{R:List HP}(h:St w0 A (P0::P1::P2::P3::P4::P5::P6::H::R) w):St w0 A (H::P0::P1::P2::P3::P4::P5::P6::R) w:=St.pull [P0,P1,P2,P3,P4,P5,P6] h
theorem St.p8{w0:World}{A:Nat->Prop}{w:World}{P0 P1 P2 P3 P4 P5 P6 P7 H:HP}{R:List HP}(h:St w0 A (P0::P1::P2::P3::P4::P5::P6::P7::H::R) w):St w0 A (H::P0::P1::P2::P3::P4::P5::P6::P7::R) w:=St.pull [P0,P1,P2,P3,P4,P5,P6,P7] h
theorem St.p9{w0:World}{A:Nat->Prop}{w:World}{P0 P1 P2 P3 P4 P5 P6 P7 P8 H:HP}{R:List HP}(h:St w0 A (P0::P1::P2::P3::P4::P5::P6::P7::P8::H::R) w):St w0 A (H::P0::P1::P2::P3::P4::P5::P6::P7::P8::R) w:=St.pull [P0,P1,P2,P3,P4,P5,P6,P7,P8] h
theorem St.p10{w0:World}{A:Nat->Prop}{w:World}{P0 P1 P2 P3 P4 P5 P6 P7 P8 P9 H:HP}{R:List HP}(h:St w0 A (P0::P1::P2::P3::P4::P5::P6::P7::P8::P9::H::R) w):St w0 A (H::P0::P1::P2::P3::P4::P5::P6::P7::P8::P9::R) w:=St.pull [P0,P1,P2,P3,P4,P5,P6,P7,P8,P9] h
theorem St.p11{w0:World}{A:Nat->Prop}{w:World}{P0 P1 P2 P3 P4 P5 P6 P7 P8 P9 P10 H:HP}{R:List HP}(h:St w0 A (P0::P1::P2::P3::P4::P5::P6::P7::P8::P9::P10::H::R) w):St w0 A (H::P0::P1::P2::P3::P4::P5::P6::P7::P8::P9::P10::R) w:=St.pull [P0,P1,P2,P3,P4,P5,P6,P7,P8,P9,P10] h
theorem St.p12{w0:World}{A:Nat->Prop}{w:World}{P0 P1 P2 P3 P4 P5 P6 P7 P8 P9 P10 P11 H:HP}{R:List HP}(h:St w0 A (P0::P1::P2::P3::P4::P5::P6::P7::P8::P9::P10::P11::H::R) w):St w0 A (H::P0::P1::P2::P3::P4::P5::P6::P7::P8::P9::P10::P11::R) w:=St.pull [P0,P1,P2,P3,P4,P5,P6,P7,P8,P9,P10,P11] h
theorem St.p0{w0:World}{A:Nat->Prop}{w:World}{L:List HP}(h:St w0 A L w):St w0 A L w:=h
theorem St.head{w0:World}{A:Nat->Prop}{L:List HP}{w:World}{H:HP}(h:St w0 A (H::L) w):∃F,H.p w F/\∀b,F b->A b\/w0.heap.size<=b:=by
 obtain⟨U,F,U',h1,h2,_⟩:=h.tF;grind
theorem St.hb{w0:World}{A:Nat->Prop}{L:List HP}{w:World}{b:Nat}{cs:List Value}(h:St w0 A (bY b cs::L) w):ng w b cs:=by
 obtain⟨F,h1,_⟩:=h.head;exact h1.1
def uV:Value->Bool
 | .agg _=>false
 | .tuple _=>false
 | _=>true
def dz(P:Program)(T:TypeId):Option (Bool×Nat):=
 match P.underlying T with
 | some d=>(P.info? T).map λ i=>(match d with|.struct _|.array _ _=>true|_=>false,i.size)
 | none=>none
def aR(P:Program)(T f:Nat):Option (Nat×Option Bool):=
 match P.underlying T with
 | some (.struct fs)=>(fs[f]?).map λ fd=>(fd.offset,(P.info? fd.type).map λ i=>i.size != 0)
 | _=>none
def eK(P:Program)(T:TypeId):Option (TypeId×Nat×Nat×Option Nat):=
 match P.underlying T with
 | some (.slice E)=>(P.info? E).map λ i=>(E,i.size,i.bytes,i.zero.map λ z=>z.cells.size)
 | _=>none
def eh(P:Program)(T:TypeId):Option (Option Value):=(P.info? T).map λ i=>i.zero
abbrev Vs(P:Program)(T:TypeId):Prop:=dz P T=some (false,1)
abbrev abw(P:Program)(T:TypeId)(n:Nat):Prop:=dz P T=some (true,n)
abbrev v8(P:Program)(T f off:Nat):Prop:=aR P T f=some (off,some true)
abbrev Vt(P:Program)(T E n bytes:Nat):Prop:=eK P T=some (E,n,bytes,some n)
abbrev n6(P:Program)(T:TypeId)(z:Value):Prop:=eh P T=some (some z)
theorem l6{P:Program}{T:TypeId}{i:TypeInfo}(h:P.info? T=some i):pr P (typeInfo T)=some i:=by
 show pr P (match P.info? T with|some i => pure i|none => stuck "no such type")=_
 rw[h];rfl
theorem cZ{P:Program}{T:TypeId}{d:TypeDesc}(h:P.underlying T=some d):pr P (underlying T)=some d:=by
 show pr P (match P.underlying T with|some d => pure d|none => stuck "no such type")=_
 rw[h];rfl
theorem mI{P:Program}{T:TypeId}{i:TypeInfo}(h:P.info? T=some i):pr P (sizeOf T)=some i.size:=by
 unfold sizeOf;rw[cX,l6 h];rfl
theorem uW{P:Program}{α β:Type}(m:Sem α)(f:α->β):pr P (do pure (f (<- m)))=(pr P m).map f:=by
 rw[cX];cases pr P m<;>rfl
theorem kZ{P:Program}{T:TypeId}{a:Bool}{n:Nat}(h:dz P T=some (a,n)):pr P (isAgg T)=some a/\pr P (sizeOf T)=some n:=by
 unfold dz at h
 cases hd:P.underlying T with
 | none=>grind
 | some d=>
  rw[hd]at h
  cases hi:P.info? T with
  | none=>grind
  | some i=>
   rw[hi]at h
   simp only[Option.map_some,Option.some.injEq,Prod.mk.injEq]at h
   obtain⟨h1,h2⟩:=h
   refine⟨?_,by rw[mI hi,h2]⟩
   unfold isAgg
   rw[cX,cZ hd]
   show pr P (match d with|.struct _|.array _ _=>pure true|_=>pure false)=_
   rw[<- h1]
   cases d<;>rfl
theorem fp{P:Program}{T E n kS:Nat}{z:Option Nat}(h:eK P T=some (E,n,kS,z)) :
  P.underlying T=some (.slice E)/\∃i,P.info? E=some i/\i.size=n/\i.bytes=kS/\i.zero.map (λ z=>z.cells.size)=z:=by
 unfold eK at h
 split at h
 ·rename_i E' hE
  cases hi:P.info? E' with
  | none=>grind
  | some i=>
   grind
 cases h
section
variable {P:Program}{w:World}
theorem pop{m:Sem Value}{v:Value}{K:Value->Prop}(h:pr P m=some v)(k:K v):eN P m K:=⟨v,h,k⟩
theorem aD{a:Addr}{K:Value->Prop}(k:K (.pointer (some a))):eN P (SJ (.pointer (some a))) K:=⟨_,rfl,k⟩
theorem bQ{b:Bool}{K:Value->Prop}(k:K (.bool (!b))):eN P (Op.unary .not (.bool b)) K:=⟨_,rfl,k⟩
theorem J9{p:Prop}[Decidable p]{K:Value->Prop}(k:K (.bool (decide (¬ p)))):eN P (Op.unary .not (.bool (decide p))) K:=by
 refine bQ ?_
 grind
theorem aN{vs:List Value}{i:Nat}{v:Value}{K:Value->Prop}(h:vs[i]?=some v)(k:K v):eN P (Instr.extract (.tuple vs.toArray) i) K:=
 ⟨v,by simp only[Instr.extract,List.getElem?_toArray,h];rfl,k⟩
theorem aQ{T:Nat}{cx cy:Bool}{a b:Int}{K:Value->Prop}(k:K (.bool (decide (a<b)))):eN P (jz .lss T cx cy (.int .i64 a) (.int .i64 b)) K:=⟨_,rfl,k⟩
theorem im{T:Nat}{cx cy:Bool}{a b:Int}{K:Value->Prop}(k:K (.bool (decide (a<=b)))):eN P (jz .leq T cx cy (.int .i64 a) (.int .i64 b)) K:=⟨_,rfl,k⟩
theorem cP{T:Nat}{cx cy:Bool}{a b:Int}{K:Value->Prop}(k:K (.bool (decide (b<a)))):eN P (jz .gtr T cx cy (.int .i64 a) (.int .i64 b)) K:=⟨_,rfl,k⟩
theorem cS{T:Nat}{cx cy:Bool}{a b:Int}{K:Value->Prop}(k:K (.bool (decide (b<=a)))):eN P (jz .geq T cx cy (.int .i64 a) (.int .i64 b)) K:=⟨_,rfl,k⟩
theorem aH{T:Nat}{cx cy:Bool}{a b:Int}{K:Value->Prop}(k:K (.bool (decide (a=b)))):eN P (jz .eql T cx cy (.int .i64 a) (.int .i64 b)) K:=⟨_,rfl,k⟩
theorem bV{T:Nat}{cx cy:Bool}{a b:Int}{K:Value->Prop}(k:K (.bool (decide (a≠b)))):eN P (jz .neq T cx cy (.int .i64 a) (.int .i64 b)) K:=
 ⟨_,(show pr P (jz .neq T cx cy (.int .i64 a) (.int .i64 b))=some (.bool (decide (a≠b)))from by
  show some (Value.bool (a != b))=_
  grind),k⟩
theorem aK{T:Nat}{cx cy:Bool}{a b:Int}{K:Value->Prop}(h : -9223372036854775808<=a+b/\a+b<=9223372036854775807)(k:K (.int .i64 (a+b))) :
  eN P (jz .add T cx cy (.int .i64 a) (.int .i64 b)) K:=
 ⟨_,(show pr P (jz .add T cx cy (.int .i64 a) (.int .i64 b))=some (.int .i64 (a+b))from by
  show some (Value.int .i64 (IntKind.i64.wrap (a+b)))=_
  rw[IntWalk.i64_in _ h]),k⟩
theorem fe{T:Nat}{cx cy:Bool}{a b:Int}{K:Value->Prop}(h : -9223372036854775808<=a-b/\a-b<=9223372036854775807)(k:K (.int .i64 (a-b))) :
  eN P (jz .sub T cx cy (.int .i64 a) (.int .i64 b)) K:=
 ⟨_,(show pr P (jz .sub T cx cy (.int .i64 a) (.int .i64 b))=some (.int .i64 (a-b))from by
  show some (Value.int .i64 (IntKind.i64.wrap (a-b)))=_
  rw[IntWalk.i64_in _ h]),k⟩
theorem H6{T:Nat}{cx cy:Bool}{a b:Int}{K:Value->Prop}(h : -9223372036854775808<=a*b/\a*b<=9223372036854775807)(k:K (.int .i64 (a*b))) :
  eN P (jz .mul T cx cy (.int .i64 a) (.int .i64 b)) K:=
 ⟨_,(show pr P (jz .mul T cx cy (.int .i64 a) (.int .i64 b))=some (.int .i64 (a*b))from by
  show some (Value.int .i64 (IntKind.i64.wrap (a*b)))=_
  rw[IntWalk.i64_in _ h]),k⟩
theorem aC{p:Prop}[Decidable p]{A B:Prop}(h1:p->A)(h2:¬ p->B):yb (.bool (decide p)) A B:=
 ⟨_,rfl,λ h=>h1 (of_decide_eq_true h),λ h=>h2 (of_decide_eq_false h)⟩
theorem ig{A B:Prop}(h:A):yb (.bool true) A B:=⟨_,rfl,λ _=>h,λ h=>by cases h⟩
theorem fm{A B:Prop}(h:B):yb (.bool false) A B:=⟨_,rfl,λ h=>(by cases h),λ _=>h⟩
theorem aW{b:Bool}{A B:Prop}(h1:b=true->A)(h2:b=false->B):yb (.bool b) A B:=⟨_,rfl,h1,h2⟩
theorem gx{α:Type}(l:List α){i:Nat}(h:i<l.length):∃x,l[i]?=some x:=⟨_,List.getElem?_eq_getElem h⟩
theorem dI{a b:Nat}(h:Nat.ble a b=true):a<=b:=Nat.le_of_ble_eq_true h
theorem dN{f:FuncId}{args:List Value}{Φ K:Value->World->Prop}(pl:Plain P f)(h:Calls P f args.toArray w (tX Φ))(k:∀v w',Φ v w'->K v w') :
  B2 P f args w K:=⟨.inl ⟨pl,h.mono λ _ _ r=>r.mono k⟩⟩
theorem gK{g:FuncId}{args first cap:List Value}{Φ K:Value->World->Prop}(pl:Plain P g)(h:Calls P g (first++args++cap).toArray w (tX Φ))(k:∀v w',Φ v w'->K v w') :
  kq P (.func (.func g) first.toArray cap.toArray) args w K:=⟨.inl ⟨g,_,_,rfl,pl,by simpa using h.mono λ _ _ r=>r.mono k⟩⟩
variable {w0:World}{A:Nat->Prop}{L:List HP}
theorem run_load(a:Addr)(v:Value)(h:w.cell? a=some v):(load a).run P w=.ok v w:=by
 simp_all
theorem gu(b o j:Nat):(Addr.mk b o none).add j=⟨b,o+j,none⟩:=by
 unfold Addr.add;grind
theorem run_loadCellsFrom(b o:Nat):∀(n i:Nat) (acc:Array Value) (cs:List Value),cs.length=n->(∀j c,cs[j]?=some c->Cell w b (o+i+j) c)->
  (loadCellsFrom ⟨b,o,none⟩ i n acc).run P w=.ok (acc++cs.toArray) w:=by
 intro n
 induction n with
 | zero=>intro i acc cs hl _;obtain rfl:=List.length_eq_zero_iff.1 hl;simp[loadCellsFrom]
 | succ n ih=>
  intro i acc cs hl h
  match cs,hl with
  | c::cs,hl=>
   unfold loadCellsFrom
   rw[eH (run_load _ c (by rw[gu];exact h 0 c rfl))]
   rw[ih (i+1) (acc.push c) cs (by grind) (λ j d hd=>by have:=h (j+1) d (by grind);grind)]
   simp
theorem run_loadCells{b o:Nat}{cs:List Value}(h:∀j c,cs[j]?=some c->Cell w b (o+j) c):(loadCells ⟨b,o,none⟩ cs.length).run P w=.ok cs.toArray w:=by
 unfold loadCells
 rw[run_loadCellsFrom b o cs.length 0 #[] cs rfl (λ j c hc=>by grind)]
 simp
theorem aG{T:TypeId}{b o:Nat}{v:Value}(ht:Vs P T)(h:Cell w b o v):(Instr.loadAt T (.pointer (some ⟨b,o,none⟩))).run P w=.ok v w:=by
 show(loadVar T ⟨b,o,none⟩).run P w=_
 unfold loadVar
 rw[eH (fS (kZ ht).1 w)]
 exact run_load _ v h
theorem B5{T:TypeId}{b o:Nat}{cs:List Value}(ht:abw P T cs.length)(h:∀j c,cs[j]?=some c->Cell w b (o+j) c) :
  (Instr.loadAt T (.pointer (some ⟨b,o,none⟩))).run P w=.ok (.agg cs.toArray) w:=by
 show(loadVar T ⟨b,o,none⟩).run P w=_
 unfold loadVar
 rw[eH (fS (kZ ht).1 w)]
 simp only[if_true]
 rw[eH (fS (kZ ht).2 w),eH (run_loadCells h)]
 rfl
theorem aB{T:TypeId}{b o:Nat}{cs:List Value}{v:Value}{K:Value->Prop}(ht:Vs P T)(hb:ng w b cs)(hc:cs[o]?=some v)(k:K v) :
  JB P (Instr.loadAt T (.pointer (some ⟨b,o,none⟩))) w K:=⟨v,aG ht (hb.cell hc),k⟩
theorem Ka{T:TypeId}{b n:Nat}{cs:List Value}{K:Value->Prop}(ht:abw P T n)(hb:ng w b cs)(hn:cs.length=n)(k:K (.agg cs.toArray)) :
  JB P (Instr.loadAt T (.pointer (some ⟨b,0,none⟩))) w K:=by
 subst hn
 exact⟨_,B5 ht λ j c hc=>by rw[Nat.zero_add];exact hb.cell hc,k⟩
theorem NW{T f off b o:Nat}(ht:v8 P T f off):pr P (Instr.fieldAt T (.pointer (some ⟨b,o,none⟩)) f)=some (.pointer (some ⟨b,o+off,none⟩)):=by
 unfold v8 aR at ht
 split at ht
 ·rename_i fs hfs
  cases hf:fs[f]? with
  | none=>grind
  | some fd=>
   rw[hf]at ht
   simp only[Option.map_some,Option.some.injEq,Prod.mk.injEq]at ht
   obtain⟨ho,hz⟩:=ht
   cases hi:P.info? fd.type with
   | none=>grind
   | some i=>
    rw[hi]at hz
    have hz':i.size≠0:=by grind
    unfold Instr.fieldAt
    rw[cX,cZ hfs]
    simp only[Option.bind_some,hf]
    show pr P (do pure (Value.pointer (some (<- fieldPlace ⟨b,o,none⟩ fd))))=_
    rw[uW]
    unfold fieldPlace
    rw[cX,mI hi]
    simp only[Option.bind_some,if_neg hz',gu,ho]
    rfl
 cases ht
theorem aA{T f off b o:Nat}{K:Value->Prop}(ht:v8 P T f off)(k:K (.pointer (some ⟨b,o+off,none⟩))) :
  eN P (Instr.fieldAt T (.pointer (some ⟨b,o,none⟩)) f) K:=⟨_,NW ht,k⟩
theorem pfb{T f off b o T2:Nat}{cs:List Value}{v:Value}{K:Value->Prop}(ht:v8 P T f off)(h2:Vs P T2)(hb:ng w b cs)(hc:cs[o+off]?=some v)(k:K v) :
  eN P (Instr.fieldAt T (.pointer (some ⟨b,o,none⟩)) f) λ p=>JB P (Instr.loadAt T2 p) w K:=aA ht (aB h2 hb hc k)
theorem H7(T:TypeId)(v:Value):(Instr.box T v).run P w=.ok (.pointer (some ⟨w.heap.size,0,none⟩)) (push w (.cells v.cells T)):=rfl
theorem St.push{T:TypeId}{cs:List Value}(hs:St w0 A L w):St w0 A (bY w.heap.size cs::L) (push w (.cells cs.toArray T)):=
 hs.new (Ext.push _ _) (F:=λ k=>k=w.heap.size) ⟨ng.push w cs T,λ _=>Iff.rfl⟩ λ b hb=>by rw[hb];exact Nat.le_refl _
theorem nj{T:TypeId}{v:Value}{K:Value->World->Prop}(hs:St w0 A L w)(hv:uV v=true)
  (k:∀b w',St w0 A (bY b [v]::L) w'->K (.pointer (some ⟨b,0,none⟩)) w'):rC P (Instr.box T v) w K:=by
 refine⟨_,_,H7 T v,k _ _ ?_⟩
 have:v.cells=[v].toArray:=by cases v<;>first|rfl|cases hv
 rw[this]
 exact hs.push
theorem nk{T:TypeId}{cs:List Value}{K:Value->World->Prop}(hs:St w0 A L w)
  (k:∀b w',St w0 A (bY b cs::L) w'->K (.pointer (some ⟨b,0,none⟩)) w'):rC P (Instr.box T (.agg cs.toArray)) w K:=
 ⟨_,_,H7 T _,k _ _ hs.push⟩
theorem gO{T:TypeId}{z:Value}{K:Value->World->Prop}(hs:St w0 A L w)(hz:n6 P T z)(hv:uV z=true)
  (k:∀b w',St w0 A (bY b [z]::L) w'->K (.pointer (some ⟨b,0,none⟩)) w'):rC P (Instr.alloc T true (.tuple #[])) w K:=by
 unfold n6 eh at hz
 cases hi:P.info? T with
 | none=>rw[hi]at hz;cases hz
 | some i=>
  rw[hi]at hz
  simp only[Option.map_some,Option.some.injEq]at hz
  have h1:pr P (zeroValue T)=some z:=by unfold zeroValue;rw[cX,l6 hi];simp only[Option.bind_some,hz];rfl
  refine⟨_,push w (.cells [z].toArray T),?_,k _ _ (hs.push (T:=T))⟩
  unfold Instr.alloc
  rw[eH (fS h1 w)]
  have:z.cells=[z].toArray:=by cases z<;>first|rfl|cases hv
  show(do pure (Value.pointer (some (<- newVar T z))):Sem Value).run P w=_
  unfold newVar
  rw[this]
  rfl
theorem aM{T:TypeId}{cs:List Value}{K:Value->World->Prop}(hs:St w0 A L w)(hz:n6 P T (.agg cs.toArray))
  (k:∀b w',St w0 A (bY b cs::L) w'->K (.pointer (some ⟨b,0,none⟩)) w'):rC P (Instr.alloc T true (.tuple #[])) w K:=by
 unfold n6 eh at hz
 cases hi:P.info? T with
 | none=>rw[hi]at hz;cases hz
 | some i=>
  rw[hi]at hz
  simp only[Option.map_some,Option.some.injEq]at hz
  have h1:pr P (zeroValue T)=some (.agg cs.toArray):=by unfold zeroValue;rw[cX,l6 hi];simp only[Option.bind_some,hz];rfl
  refine⟨_,push w (.cells cs.toArray T),?_,k _ _ (hs.push (T:=T))⟩
  unfold Instr.alloc
  rw[eH (fS h1 w)]
  rfl
theorem run_store{b o:Nat}{cs:List Value}{v:Value}(hb:ng w b cs)(ho:o<cs.length)(hv:uV v=true) :
  (store ⟨b,o,none⟩ v).run P w=.ok () (w.setCell ⟨b,o,none⟩ v):=by
 have h1:w.cell? ⟨b,o,none⟩=some cs[o]:=hb.cell (by simp[ho])
 have h2:=hb.frozen (o:=o)
 unfold store
 cases v<;>first|cases hv|skip
 all_goals
  simp only[Sem.run,h1,h2]
  rfl
theorem Kb{b o:Nat}{cs:List Value}{v:Value}(hs:St w0 A (bY b cs::L) w):St w0 A (bY b (cs.set o v)::L) (w.setCell ⟨b,o,none⟩ v):=
 hs.qW λ F hF=>⟨F,⟨hF.1.setCell v,hF.2⟩,λ _ h=>.inl h,(gq.setCell w b o v).mono λ k hk=>(hF.2 k).2 hk⟩
theorem aS{T:TypeId}{b o:Nat}{cs:List Value}{v:Value}{K:World->Prop}(hs:St w0 A (bY b cs::L) w)(ht:Vs P T)(ho:o<cs.length)(hv:uV v=true)
  (k:∀w',St w0 A (bY b (cs.set o v)::L) w'->K w'):Uz P (Instr.storeAt T (.pointer (some ⟨b,o,none⟩)) v) w K:=by
 refine⟨_,?_,k _ (Kb hs)⟩
 show(storeVar T ⟨b,o,none⟩ v).run P w=_
 have hc:v.cells = #[v]:=by cases v<;>first|rfl|cases hv
 unfold storeVar
 rw[eH (fS (kZ ht).2 w),hc]
 simp only[List.size_toArray,List.length_cons,List.length_nil,Nat.zero_add,ne_eq,not_true_eq_false,if_false]
 show(storeCells ⟨b,o,none⟩ [v]).run P w=_
 unfold storeCells
 rw[gu,Nat.add_zero,eH (run_store hs.hb ho hv)]
 rfl
def iX:List Value->Nat->List Value->List Value
 | cs,_,[]=>cs
 | cs,o,v::r=>iX (cs.set o v) (o+1) r
theorem DB{b o:Nat}:∀(vs:List Value) (i:Nat) (cs:List Value) (w:World),St w0 A (bY b cs::L) w->o+i+vs.length<=cs.length->(∀v∈vs,uV v=true)->
  ∃w',(storeCells ⟨b,o,none⟩ vs i).run P w=.ok () w'/\St w0 A (bY b (iX cs (o+i) vs)::L) w':=by
 intro vs
 induction vs with
 | nil=>intro i cs w hs _ _;exact⟨w,rfl,hs⟩
 | cons v r ih=>
  intro i cs w hs hl hv
  have hl':o+i+(r.length+1)<=cs.length:=by simpa using hl
  have h1:=run_store (P:=P) hs.hb (o:=o+i) (v:=v) (by omega) (hv v (by simp))
  obtain⟨w',h2,h3⟩:=ih (i+1) (cs.set (o+i) v) _ (Kb hs) (by simp;omega) (λ x hx=>hv x (by simp[hx]))
  refine⟨w',?_,by rw[show o+(i+1)=o+i+1 from by omega]at h3;exact h3⟩
  show(do store ((Addr.mk b o none).add i) v;storeCells ⟨b,o,none⟩ r (i+1):Sem Unit).run P w=_
  rw[gu,eH h1,h2]
theorem DC{T:TypeId}{b o n:Nat}{cs vs:List Value}{K:World->Prop}(hs:St w0 A (bY b cs::L) w)(ht:abw P T n)(hn:vs.length=n)(ho:o+n<=cs.length)(hv:∀v∈vs,uV v=true)
  (k:∀w',St w0 A (bY b (iX cs o vs)::L) w'->K w'):Uz P (Instr.storeAt T (.pointer (some ⟨b,o,none⟩)) (.agg vs.toArray)) w K:=by
 subst hn
 obtain⟨w',h1,h2⟩:=DB (P:=P) (o:=o) vs 0 cs w hs (by omega) hv
 refine⟨w',?_,k w' h2⟩
 show(storeVar T ⟨b,o,none⟩ (.agg vs.toArray)).run P w=_
 unfold storeVar
 rw[eH (fS (kZ ht).2 w)]
 simp only[Value.cells,List.size_toArray,ne_eq,not_true_eq_false,if_false]
 exact h1
end
end Go.Fw
namespace Go.Fw
class Flat (α:Type) where
 agg:Bool
 sz:Nat
 enc:α->List Value
 val:α->Value
 pos:0<sz
 len:∀a,(enc a).length=sz
 one:∀a v,v∈enc a->uV v=true
 m6:agg=true->∀a,val a=.agg (enc a).toArray
 nn:agg=false->∀a,enc a=[val a]
instance:Flat Int where
 agg:=false
 sz:=1
 enc n:=[.int .i64 n]
 val n:=.int .i64 n
 pos:=by decide
 len _:=rfl
 one a v h:=by rw[List.mem_singleton.1 h];rfl
 m6 h:=by cases h
 nn _ _:=rfl
instance:Flat Bool where
 agg:=false
 sz:=1
 enc n:=[.bool n]
 val n:=.bool n
 pos:=by decide
 len _:=rfl
 one a v h:=by rw[List.mem_singleton.1 h];rfl
 m6 h:=by cases h
 nn _ _:=rfl
instance:Flat ByteArray where
 agg:=false
 sz:=1
 enc n:=[.string n]
 val n:=.string n
 pos:=by decide
 len _:=rfl
 one a v h:=by rw[List.mem_singleton.1 h];rfl
 m6 h:=by cases h
 nn _ _:=rfl
section
variable {α:Type}[Flat α]
def flat(xs:List α):List Value:=xs.flatMap Flat.enc
theorem l8:flat ([]:List α)=[]:=rfl
theorem ku(x:α)(xs:List α):flat (x::xs)=Flat.enc x++flat xs:=by simp[flat]
theorem hG(xs ys:List α):flat (xs++ys)=flat xs++flat ys:=by simp[flat]
theorem dG(xs:List α):(flat xs).length=xs.length*Flat.sz α:=by
 induction xs with
 | nil=>simp[l8]
 | cons x xs ih=>rw[ku,List.length_append,ih,Flat.len,List.length_cons,Nat.succ_mul];omega
theorem zN{xs:List α}:∀v∈flat xs,uV v=true:=by
 intro v hv
 obtain⟨x,_,hx⟩:=List.mem_flatMap.1 hv
 exact Flat.one x v hx
theorem rF{xs:List α}{i j:Nat}{x:α}{c:Value}(hx:xs[i]?=some x)(hc:(Flat.enc x)[j]?=some c):(flat xs)[i*Flat.sz α+j]?=some c:=by
 induction xs generalizing i with
 | nil=>simp at hx
 | cons y ys ih=>
  rw[ku]
  cases i with
  | zero=>
   grind
  | succ i=>
   have:=ih (by simpa using hx)
   rw[List.getElem?_append_right (by rw[Flat.len,Nat.succ_mul];omega),Flat.len]
   grind
theorem Gu(xs:List α)(n:Nat):flat (xs.take n)=(flat xs).take (n*Flat.sz α):=by
 induction xs generalizing n with
 | nil=>simp[l8]
 | cons x xs ih=>
  cases n with
  | zero=>simp[l8]
  | succ n=>
   rw[List.take_succ_cons,ku,ku,ih,List.take_append,Flat.len]
   have h1:(n+1)*Flat.sz α-Flat.sz α=n*Flat.sz α:=by grind
   rw[h1,List.take_of_length_le (i:=(n+1)*Flat.sz α) (l:=Flat.enc x) (by rw[Flat.len,Nat.succ_mul];omega)]
theorem Gv(xs:List α)(n:Nat):flat (xs.drop n)=(flat xs).drop (n*Flat.sz α):=by
 induction xs generalizing n with
 | nil=>simp[l8]
 | cons x xs ih=>
  cases n with
  | zero=>simp
  | succ n=>
   rw[List.drop_succ_cons,ku,ih,List.drop_append,Flat.len]
   have h1:(n+1)*Flat.sz α-Flat.sz α=n*Flat.sz α:=by grind
   rw[h1,List.drop_of_length_le (i:=(n+1)*Flat.sz α) (l:=Flat.enc x) (by rw[Flat.len,Nat.succ_mul];omega),List.nil_append]
def At(S:Nat->Prop)(w:World)(p:Value)(x:α):Prop:=
 ∃b o,p=.pointer (some ⟨b,o,none⟩)/\S b/\∀j c,(Flat.enc x)[j]?=some c->Cell w b (o+j) c
def dC(S:Nat->Prop)(w:World)(v:Value)(xs:List α):Prop:=
 ∃a cap,v=.slice a xs.length cap/\xs.length<=cap/\((xs=[]/\cap=0)\/∃b o,a=some ⟨b,o,none⟩/\(xs≠[]->S b)/\∀j c,(flat xs)[j]?=some c->Cell w b (o+j) c)
def bG(v:Value)(xs:List α):HP where
 p w F:=(v=.slice none 0 0/\xs=[]/\∀b,¬ F b)\/
  ∃b cap rest,v=.slice (some ⟨b,0,none⟩) xs.length cap/\ng w b (flat xs++rest)/\(xs.length<=cap/\cap*Flat.sz α<=(flat xs++rest).length)/\∀k,F k↔k=b
 loc w w' F h hh:=by
  rcases h with h|⟨b,cap,rest,h1,h2,h3,h4⟩
  ·grind
  ·exact .inr ⟨b,cap,rest,h1,h2.of_eq (hh b ((h4 b).2 rfl)),h3,h4⟩
 lt w F b h hb:=by
  rcases h with h|⟨b',cap,rest,h1,h2,h3,h4⟩
  ·grind
  ·rw[(h4 b).1 hb];exact h2.lt
variable {P:Program}{w w0:World}{A S:Nat->Prop}{L:List HP}{xs ys:List α}
theorem At.aF{A:Nat->Prop}{w w':World}{p:Value}{x:α}(h:At S w p x)(hc:gq A w w')(hd:∀b,S b->¬ A b):At S w' p x:=by
 obtain⟨b,o,h1,h2,h3⟩:=h;exact⟨b,o,h1,h2,λ j c hj=>(h3 j c hj).aF hc (hd b h2)⟩
theorem At.ext{w w':World}{p:Value}{x:α}(h:At S w p x)(hc:Ext w w'):At S w' p x:=h.aF hc λ _ _ h=>h
theorem dC.aF{A:Nat->Prop}{w w':World}{v:Value}(h:dC S w v xs)(hc:gq A w w')(hd:∀b,S b->¬ A b):dC S w' v xs:=by
 obtain⟨a,cap,h1,h2,h3⟩:=h
 refine⟨a,cap,h1,h2,?_⟩
 rcases h3 with h3|⟨b,o,h3,h4,h5⟩
 ·grind
 exact .inr ⟨b,o,h3,h4,λ j c hj=>(h5 j c hj).aF hc (hd b (h4 λ h=>by subst h;simp[l8]at hj))⟩
theorem dC.ext{w w':World}{v:Value}(h:dC S w v xs)(hc:Ext w w'):dC S w' v xs:=h.aF hc λ _ _ h=>h
theorem dC.mono{S':Nat->Prop}{v:Value}(h:dC S w v xs)(hd:∀b,S b->S' b):dC S' w v xs:=by
 grind[dC]
theorem dC.nil(S:Nat->Prop)(w:World):dC S w (.slice none 0 0) ([]:List α):=⟨none,0,rfl,Nat.le_refl _,.inl ⟨rfl,rfl⟩⟩
theorem bG.rd{v:Value}{F:Nat->Prop}(h:(bG v xs).p w F):dC F w v xs:=by
 rcases h with⟨h1,h2,h3⟩|⟨b,cap,rest,h1,h2,h3,h4⟩
 ·subst h1 h2;exact dC.nil _ _
 refine⟨_,cap,h1,?_,.inr ⟨b,0,rfl,λ _=>(h4 b).2 rfl,λ j c hj=>?_⟩⟩
 ·exact h3.1
 rw[Nat.zero_add]
 exact h2.cell (by grind)
theorem St.rd{v:Value}(hs:St w0 A (bG v xs::L) w):∃S,(∀b,S b->A b\/w0.heap.size<=b)/\dC S w v xs:=by
 obtain⟨F,h1,h2⟩:=hs.head;exact⟨F,h2,bG.rd h1⟩
theorem St.dX{v:Value}(hs:St w0 A (bG v xs::L) w):dC (λ _=>True) w v xs:=by
 obtain⟨S,_,h⟩:=hs.rd;exact h.mono λ _ _=>trivial
theorem St.eJ(hs:St w0 A L w):St w0 A (bG (.slice none 0 0) ([]:List α)::L) w:=
 hs.new (Ext.refl w) (F:=aY) (.inl ⟨rfl,rfl,λ _ h=>h⟩) λ _ h=>h.elim
theorem aE{T:TypeId}{p:Value}{x:α}{K:Value->Prop}(ht:dz P T=some (Flat.agg α,Flat.sz α))(h:At S w p x)(k:K (Flat.val x)):JB P (Instr.loadAt T p) w K:=by
 obtain⟨b,o,rfl,_,h3⟩:=h
 cases ha:Flat.agg α with
 | true=>
  rw[ha]at ht
  refine⟨_,?_,k⟩
  rw[Flat.m6 ha x]
  exact B5 (by rw[Flat.len];exact ht) h3
 | false=>
  rw[ha]at ht
  have h1:=Flat.nn ha x
  have o7:Flat.sz α=1:=by rw[<- Flat.len x,h1];rfl
  rw[o7]at ht
  exact⟨_,aG ht (by have:=h3 0 (Flat.val x) (by grind);omega),k⟩
theorem St.At{b:Nat}{x:α}(hs:St w0 A (Fw.bY b (Flat.enc x)::L) w):Fw.At (λ _=>True) w (.pointer (some ⟨b,0,none⟩)) x:=
 ⟨b,0,rfl,trivial,λ j c hj=>by rw[Nat.zero_add];exact hs.hb.cell hj⟩
theorem bW{β:Type}[Flat β]{T f off:Nat}{p:Value}{x:α}(y:β){K:Value->Prop}(ht:v8 P T f off)(h:At S w p x)(hy:(Flat.enc x)[off]?=some (Flat.val y))(ha:Flat.agg β=false)
  (k:∀q,At S w q y->K q):eN P (Instr.fieldAt T p f) K:=by
 obtain⟨b,o,rfl,h2,h3⟩:=h
 refine aA ht (k _ ⟨b,o+off,rfl,h2,λ j c hj=>?_⟩)
 rw[Flat.nn ha]at hj
 grind
theorem H8{T R E n kS:Nat}{z:Option Nat}{a:Option Addr}{l c:Nat}(ht:eK P T=some (E,n,kS,z)):pr P (Builtin.len_ #[T] R [Value.slice a l c].toArray)=some (.int .i64 l):=by
 show pr P (do
  match <- underlying T,Value.slice a l c with
  | .string,.string s=>pure (goInt s.size)
  | .array n _,_=>pure (goInt n)
  | .pointer arr,_=>
   let .array n _ <- underlying arr|stuck "len: pointer to array expected"
   pure (goInt n)
  | .slice _,.slice _ n _=>pure (goInt n)
  | .map _ _,.map none|.chan _ _,.chan none=>pure (goInt 0)
  | .map _ _,.map (some r)=>
   let .map entries _ <- getObj r|stuck "len: map expected"
   pure (goInt entries.size)
  | .chan _ _,.chan (some r)=>
   let .chan _ buf _ _ _ timer <- getObj r|stuck "len: channel expected"
   pure (goInt (if timer then 0 else buf.size))
  | _, _ => stuck "len: string, array, pointer to array, slice, map or channel expected")=_
 rw[cX,cZ (fp ht).1]
 rfl
theorem aI{T R E n kS:Nat}{z:Option Nat}{v:Value}{K:Value->Prop}(ht:eK P T=some (E,n,kS,z))(h:dC S w v xs)(k:K (.int .i64 (xs.length:Int))) :
  eN P (Builtin.len_ #[T] R [v].toArray) K:=by
 obtain⟨a,cap,rfl,_⟩:=h
 exact⟨_,H8 ht,k⟩
theorem aO{T E kS:Nat}{z:Option Nat}{v:Value}{i:Int}{x:α}{K:Value->Prop}(ht:eK P T=some (E,Flat.sz α,kS,z))(h:dC S w v xs)(h0:0<=i)(hx:xs[i.toNat]?=some x)
  (k:∀p,At S w p x->K p):eN P (Instr.indexAt T v (.int .i64 i)) K:=by
 obtain⟨a,cap,rfl,Bg,h3⟩:=h
 have nH:i.toNat<xs.length:=(List.getElem?_eq_some_iff.1 hx).1
 rcases h3 with⟨rfl,_⟩|⟨b,o,rfl,h4,h5⟩
 ·simp at hx
 obtain⟨hu,inf,hi,o7,_⟩:=fp ht
 refine⟨.pointer (some ⟨b,o+i.toNat*Flat.sz α,none⟩),?_,k _ ⟨b,_,rfl,h4 (by grind),λ j c hj=>?_⟩⟩
 ·unfold Instr.indexAt
  rw[cX]
  show pr P _=_
  simp only[asIntOf]
  have e1:pr P (underlying T)=some (.slice E):=cZ hu
  have e2:pr P (sizeOf E)=some (Flat.sz α):=by rw[mI hi,o7]
  simp only[cX,e1,e2,Option.bind_some,fM]
  have sR:0<=i/\i<(xs.length:Int):=⟨h0,by omega⟩
  simp only[if_pos sR,cX,e2,Option.bind_some,fM,gu]
 have:=h5 (i.toNat*Flat.sz α+j) c (rF hx hj)
 grind
end
end Go.Fw
namespace Go.Fw
section
variable {α:Type}[Flat α] {P:Program}{w w0:World}{A S:Nat->Prop}{L:List HP}{xs ys:List α}
theorem jd{y:Nat}{i:Int}{code:BoundsCode}(h0:0<=i)(h1:i<=y):pr P (Instr.sliceBound (.int .i64 i) y code)=some i.toNat:=by
 unfold Instr.sliceBound
 rw[cX]
 simp only[asIntOf,fM,Option.bind_some,if_pos (show 0<=i/\i<=(y:Int)from⟨h0,h1⟩)]
theorem v9{T E sz kS:Nat}{z:Option Nat}{a:Option Addr}{n cap l h:Nat}{lo hi:Option Value}(ht:eK P T=some (E,sz,kS,z))
  (hb:pr P (Instr.sliceBounds true n cap lo hi none)=some (l,h,cap)) :
  pr P (Instr.sliceAt T (.slice a n cap) lo hi none)=some (.slice (if cap=l then a else a.map (·.add (l*sz))) (h-l) (cap-l)):=by
 obtain⟨hu,inf,NS,o7,_⟩:=fp ht
 unfold Instr.sliceAt
 rw[cX,cZ hu]
 simp only[Option.bind_some]
 unfold Instr.slice
 rw[cX,cZ hu]
 simp only[Option.bind_some]
 rw[cX,hb]
 simp only[Option.bind_some]
 rw[cX,mI NS,o7]
 rfl
theorem n7{n cap l h:Nat}{lo hi:Option Value}(hl:lo=none/\l=0\/∃i:Int,lo=some (.int .i64 i)/\0<=i/\l=i.toNat)(hh:hi=none/\h=n\/∃i:Int,hi=some (.int .i64 i)/\0<=i/\h=i.toNat)
  (h1:l<=h) (h2:h<=cap):pr P (Instr.sliceBounds true n cap lo hi none)=some (l,h,cap):=by
 rcases hl with⟨rfl,rfl⟩|⟨i,rfl,h0,rfl⟩<;>rcases hh with⟨rfl,rfl⟩|⟨i',rfl,h0',rfl⟩<;>simp only[Instr.sliceBounds,cX,fM,Option.bind_some]
 ·rw[jd h0' (by omega)];rfl
 ·rw[jd h0 (by omega)];rfl
 rw[jd h0' (by omega)];simp only[Option.bind_some];rw[jd h0 (by omega)];rfl
theorem dC.cut{v:Value}{a:Option Addr}{n cap l h:Nat}(hv:v=.slice a n cap)(hr:dC S w v xs)(h1:l<=h)(h2:h<=xs.length) :
  dC S w (.slice (if cap=l then a else a.map (·.add (l*Flat.sz α))) (h-l) (cap-l)) ((xs.take h).drop l):=by
 obtain⟨a',DD,Bh,Bg,h3⟩:=hr
 rw[Bh]at hv
 simp only[Value.slice.injEq]at hv
 obtain⟨rfl,hn,rfl⟩:=hv
 have hlen:((xs.take h).drop l).length=h-l:=by simp;omega
 rcases h3 with⟨hxs,B6⟩|⟨b,o,rfl,h4,h5⟩
 ·subst hxs
  exact⟨_,DD-l,by rw[hlen],by simp,.inl ⟨by simp,by omega⟩⟩
 refine⟨_,DD-l,by rw[hlen],by omega,.inr ?_⟩
 have FL:(xs.take h).drop l≠[]->xs≠[]:=λ hh hx=>hh (by grind)
 by_cases hh:DD=l
 ·rw[if_pos hh]
  grind[flat,Cell]
 rw[if_neg hh]
 refine⟨b,o+l*Flat.sz α,by simp[gu],λ hx=>h4 (FL hx),λ j c hj=>?_⟩
 rw[Gv,Gu,List.getElem?_drop,List.getElem?_take]at hj
 grind
theorem QP{T E kS:Nat}{z:Option Nat}{v:Value}{lo hi:Option Value}{l h:Nat}{K:Value->Prop}(ht:eK P T=some (E,Flat.sz α,kS,z))(hr:dC S w v xs)
  (hl:lo=none/\l=0\/∃i:Int,lo=some (.int .i64 i)/\0<=i/\l=i.toNat) (hh:hi=none/\h=xs.length\/∃i:Int,hi=some (.int .i64 i)/\0<=i/\h=i.toNat)
  (h1:l<=h) (h2:h<=xs.length) (k:∀v',dC S w v' ((xs.take h).drop l)->K v'):eN P (Instr.sliceAt T v lo hi none) K:=by
 have hr':=hr
 obtain⟨a,cap,rfl,Bg,h3⟩:=hr
 exact⟨_,v9 ht (n7 hl hh h1 (by omega)),k _ (hr'.cut rfl h1 h2)⟩
theorem lK{T E kS:Nat}{z:Option Nat}{v:Value}{i:Int}{K:Value->Prop}(ht:eK P T=some (E,Flat.sz α,kS,z))(hr:dC S w v xs)(h0:0<=i)(h2:i<=xs.length)
  (k:∀v',dC S w v' (xs.take i.toNat)->K v'):eN P (Instr.sliceAt T v none (some (.int .i64 i)) none) K:=
 QP ht hr (.inl ⟨rfl,rfl⟩) (.inr ⟨i,rfl,h0,rfl⟩) (by omega) (by omega) λ v' h=>k v' (by grind)
theorem Bi{T E kS:Nat}{z:Option Nat}{v:Value}{i:Int}{K:Value->Prop}(ht:eK P T=some (E,Flat.sz α,kS,z))(hr:dC S w v xs)(h0:0<=i)(h2:i<=xs.length)
  (k:∀v',dC S w v' (xs.drop i.toNat)->K v'):eN P (Instr.sliceAt T v (some (.int .i64 i)) none none) K:=
 QP ht hr (.inr ⟨i,rfl,h0,rfl⟩) (.inl ⟨rfl,rfl⟩) (by omega) (by omega) λ v' h=>k v' (by grind)
theorem mJ{b o:Nat}:∀(vs:List Value) (i:Nat) (cs:List Value) (w:World),ng w b cs->o+i+vs.length<=cs.length->(∀v∈vs,uV v=true)->
  ∃w',(storeCells ⟨b,o,none⟩ vs i).run P w=.ok () w'/\ng w' b (iX cs (o+i) vs)/\gq (· = b) w w':=by
 intro vs
 induction vs with
 | nil=>intro i cs w hb _ _;exact⟨w,rfl,hb,gq.refl _ _⟩
 | cons v r ih=>
  intro i cs w hb hl hv
  have hl':o+i+(r.length+1)<=cs.length:=by omega
  have h1:=run_store (P:=P) hb (o:=o+i) (v:=v) (by omega) (hv v (by simp))
  obtain⟨w',h2,h3,h4⟩:=ih (i+1) (cs.set (o+i) v) _ (hb.setCell v) (by simp;omega) (λ x hx=>hv x (by simp[hx]))
  refine⟨w',?_,by grind[ng,iX],(gq.setCell w b (o+i) v).trans h4 (λ _ h=>h) (λ _ _ h=>h)⟩
  show(do store ((Addr.mk b o none).add i) v;storeCells ⟨b,o,none⟩ r (i+1):Sem Unit).run P w=_
  rw[gu,eH h1,h2]
theorem l9(pre H9 post vs:List Value)(h:H9.length=vs.length):iX (pre++H9++post) pre.length vs=pre++vs++post:=by
 induction vs generalizing pre H9 with
 | nil=>grind[iX]
 | cons v r ih=>
  match H9,h with
  | m::H9,h=>
   have e:(pre++(m::H9)++post).set pre.length v=(pre++[v])++H9++post:=by simp
   simp only[iX,e]
   have:=ih (pre++[v]) H9 (by grind)
   simp_all
theorem xq{sz:Nat}{v:Value}(o7:sz=Flat.sz α)(h:dC S w v ys):(Builtin.firstCells sz ys.length v).run P w=.ok (flat ys).toArray w:=by
 subst o7
 obtain⟨a,cap,rfl,_,h3⟩:=h
 rcases h3 with⟨rfl,_⟩|⟨b,o,rfl,_,h5⟩
 ·cases a with
  | none=>rfl
  | some a=>simp[Builtin.firstCells,loadCells,loadCellsFrom,l8]
 have:=run_loadCells (P:=P) h5
 rw[dG]at this
 exact this
theorem Bj{b o:Nat}{cs:List Value}(h:∀j c,cs[j]?=some c->Cell w b (o+j) c):∀j v,cs[j]?=some v->w.cell? ((⟨b,o,none⟩:Addr).add j)=some v:=λ j v hj=>by
 rw[gu];exact h j v hj
theorem B7{T E kS R:Nat}{v src:Value}{F:Nat->Prop}(ht:Vt P T E (Flat.sz α) kS)(hv:(bG v xs).p w F)(vO:dC S w src ys)
  (hn:xs.length+ys.length<=17592186044416) (hm:(xs.length+ys.length)*kS<=140737488355328) :
  ∃v' w' F',(Builtin.append_ #[T,T] R [v,src].toArray).run P w=.ok v' w'/\(bG v' (xs++ys)).p w' F'/\(∀b,F' b->F b\/w.heap.size<=b)/\gq F w w':=by
 obtain⟨hu,inf,hi,o7,yG,hz⟩:=fp ht
 obtain⟨zv,hzv,hzs⟩:∃zv,inf.zero=some zv/\zv.cells.size=Flat.sz α:=by
  cases hzz:inf.zero with
  | none=>rw[hzz]at hz;cases hz
  | some zv=>rw[hzz]at hz;exact⟨zv,rfl,by simpa using hz⟩
 have hmul:(xs.length+ys.length)*inf.bytes<=140737488355328:=by rw[show inf.bytes=kS by omega];exact hm
 have made:∀(cap:Nat),cap<xs.length+ys.length->
   (bG (.slice (some ⟨w.heap.size,0,none⟩) (xs.length+ys.length) (grownCap w (xs.length+ys.length) cap E)) (xs++ys)).p
    (w.drew.alloc (.cells ((flat xs).toArray++(flat ys).toArray++Builtin.zeroCells zv.cells (grownCap w (xs.length+ys.length) cap E-(xs.length+ys.length))) E)) (λ k=>k=w.heap.size):=by
  intro cap hc
  have SX:=grownCap_ge w (xs.length+ys.length) cap E
  refine .inr ⟨w.heap.size,grownCap w (xs.length+ys.length) cap E,(Builtin.zeroCells zv.cells (grownCap w (xs.length+ys.length) cap E-(xs.length+ys.length))).toList,by simp,⟨E,?_⟩,?_,λ _=>Iff.rfl⟩
  ·have:=ni w.drew (.cells ((flat xs).toArray++(flat ys).toArray++Builtin.zeroCells zv.cells (grownCap w (xs.length+ys.length) cap E-(xs.length+ys.length))) E)
   refine Eq.trans this ?_
   congr 2
   apply Array.ext'
   simp[hG]
  ·refine⟨by rw[List.length_append];exact SX,Nat.le_of_eq (Eq.symm ?_)⟩
   have e:(Builtin.zeroCells zv.cells (grownCap w (xs.length+ys.length) cap E-(xs.length+ys.length))).toList.length=(grownCap w (xs.length+ys.length) cap E-(xs.length+ys.length))*Flat.sz α:=by
    rw[Array.length_toList,size_zeroCells,hzs]
   rw[List.length_append,e,dG,List.length_append,<- Nat.add_mul]
   congr 1
   omega
 have amX:∀o,gq F w (w.drew.alloc o):=λ o=>⟨rfl,rfl,rfl,by simp,λ b hb _=>Be w.drew o b hb⟩
 have rd:=vO
 obtain⟨sa,Vu,rfl,hsc,hs3⟩:=rd
 rcases hv with⟨rfl,rfl,hF⟩|⟨b,cap,rest,rfl,hb,hl,hF⟩
 ·
  simp only[List.length_nil,Nat.zero_add,List.nil_append]at *
  by_cases hm:ys=[]
  ·subst hm
   refine⟨.slice none 0 0,w,F,?_,.inl ⟨rfl,rfl,hF⟩,λ b hb=>.inl hb,gq.refl _ _⟩
   cases sa<;>simp[Builtin.append_,run_underlying hu,sizeOf,typeInfo,hi,Builtin.lenOf,Builtin.firstCells,loadCells,loadCellsFrom]
  have Cw:0<ys.length:=List.length_pos_iff.2 hm
  rcases hs3 with⟨h,_⟩|⟨b,o,rfl,_,hcs⟩
  ·exact absurd h hm
  have hr:=run_append_nil (P:=P) w T R E inf zv hu hi hzv ⟨b,o,none⟩ ys.length Vu (flat ys) (by rw[dG,o7]) (Bj hcs) Cw (by omega) (by omega)
  refine⟨_,_,λ k=>k=w.heap.size,hr,?_,λ k hk=>.inr (by rw[hk];exact Nat.le_refl _),amX _⟩
  have:=made 0 Cw
  simpa[l8]using this
 have Bg:xs.length<=cap:=hl.1
 replace hl:=hl.2
 by_cases yf:xs.length+ys.length<=cap
 ·
  have SY:(xs.length+ys.length)*Flat.sz α<=cap*Flat.sz α:=Nat.mul_le_mul_right _ yf
  have sS:(flat xs).length=xs.length*Flat.sz α:=dG xs
  have zH:(flat ys).length<=rest.length:=by
   rw[List.length_append,sS]at hl;rw[dG];rw[Nat.add_mul]at SY;omega
  obtain⟨w',h1,h2,h3⟩:=mJ (P:=P) (o:=xs.length*Flat.sz α) (flat ys) 0 (flat xs++rest) w hb (by rw[List.length_append,sS];omega) zN
  have FN:iX (flat xs++rest) (xs.length*Flat.sz α+0) (flat ys)=flat (xs++ys)++rest.drop (flat ys).length:=by
   have:=l9 (flat xs) (rest.take (flat ys).length) (rest.drop (flat ys).length) (flat ys) (by simp;omega)
   rw[sS]at this
   rw[Nat.add_zero,hG]
   rw[<- this]
   simp
  rw[FN]at h2
  refine⟨.slice (some ⟨b,0,none⟩) (xs.length+ys.length) cap,w',F,?_,.inr ⟨b,cap,_,by simp,h2,?_,hF⟩,λ b hb=>.inl hb,h3.mono λ k hk=>(hF k).2 hk⟩
  ·have hf:=xq (α:=α) (P:=P) (sz:=Flat.sz α) rfl vO
   have tG:(⟨b,0,none⟩:Addr).add (xs.length*Flat.sz α)=⟨b,xs.length*Flat.sz α,none⟩:=by rw[gu,Nat.zero_add]
   simp[Builtin.append_,run_underlying hu,sizeOf,typeInfo,hi,Builtin.lenOf,yf,hf,o7,tG,h1]
  refine⟨by rw[List.length_append];exact yf,Nat.le_trans hl (Nat.le_of_eq ?_)⟩
  rw[List.length_append,List.length_append,hG,List.length_append,List.length_drop];omega
 -- a new row
 have hr:=run_append_grow (P:=P) w T R E inf zv hu hi hzv ⟨b,0,none⟩ xs.length cap (flat xs) (by rw[dG,o7])
  (Bj λ j c hj=>by rw[Nat.zero_add];exact hb.cell (by rw[List.getElem?_append_left (List.getElem?_eq_some_iff.1 hj).1];exact hj))
 rcases hs3 with⟨h,_⟩|⟨b',o,rfl,_,hcs⟩
 ·subst h;simp at yf;omega
 have hr:=hr ⟨b',o,none⟩ ys.length Vu (flat ys) (by rw[dG,o7]) (Bj hcs) (by omega) (by omega) (growslice_fits (by omega) hmul)
 exact⟨_,_,λ k=>k=w.heap.size,hr,made cap (by omega),λ k hk=>.inr (by rw[hk];exact Nat.le_refl _),amX _⟩
theorem ag6{T E kS R:Nat}{v src:Value}{F:Nat->Prop}(ht:Vt P T E (Flat.sz α) kS)(hv:(bG v xs).p w F)(vO:dC S w src ys)
  (hn:xs.length+ys.length<=1073741824) (hby:kS<=8192) :
  ∃v' w' F',(Builtin.append_ #[T,T] R [v,src].toArray).run P w=.ok v' w'/\(bG v' (xs++ys)).p w' F'/\(∀b,F' b->F b\/w.heap.size<=b)/\gq F w w':=
 B7 ht hv vO (by omega) (by have:=Nat.mul_le_mul hn hby;omega)
theorem Kc{T E kS R:Nat}{v src:Value}{K:Value->World->Prop}(hs:St w0 A (bG v xs::L) w)(ht:Vt P T E (Flat.sz α) kS)(vO:dC S w src ys)
  (hn:xs.length+ys.length<=17592186044416) (hm:(xs.length+ys.length)*kS<=140737488355328) (k:∀v' w',St w0 A (bG v' (xs++ys)::L) w'->K v' w'):rC P (Builtin.append_ #[T,T] R [v,src].toArray) w K:=by
 obtain⟨U,F,U',h1,h2,h3,h4,h5⟩:=hs.tF
 obtain⟨v',w',F',g1,g2,g3,g4⟩:=B7 (R:=R) ht h1 vO hn hm
 refine⟨v',w',g1,k v' w' ?_⟩
 refine⟨hs.aF.trans g4 (λ _ h=>h) λ b hb hf=>(h2 b hf).elim id λ hh=>by omega,λ b=>F' b\/U' b,F',U',g2,λ b hb=>?_,λ b hb hu=>?_,λ b=>Iff.rfl,?_⟩
 ·rcases g3 b hb with hf|hf
  ·exact h2 b hf
  exact .inr (Nat.le_trans hs.aF.size hf)
 ·rcases g3 b hb with hf|hf
  ·exact h3 b hf hu
  have:=h5.lt b hu;omega
 exact h5.loc λ b hb=>g4.bY b (h5.lt b hb) λ hf=>h3 b hf hb
theorem bI{T E kS R:Nat}{v src:Value}{K:Value->World->Prop}(hs:St w0 A (bG v xs::L) w)(ht:Vt P T E (Flat.sz α) kS)(vO:dC S w src ys)
  (hn:xs.length+ys.length<=1073741824) (hby:kS<=8192) (k:∀v' w',St w0 A (bG v' (xs++ys)::L) w'->K v' w'):rC P (Builtin.append_ #[T,T] R [v,src].toArray) w K:=
 Kc hs ht vO (by omega) (by have:=Nat.mul_le_mul hn hby;omega) k
end
end Go.Fw
namespace Go.Fw
section
variable {α:Type}[Flat α] {P:Program}{w w0:World}{A S:Nat->Prop}{L:List HP}{xs ys:List α}
theorem ph(x:α):(Flat.val x).cells=(Flat.enc x).toArray:=by
 cases h:Flat.agg α with
 | true=>rw[Flat.m6 h];rfl
 | false=>
  have h1:=Flat.nn h x
  have h2:=Flat.one x (Flat.val x) (by grind)
  rw[h1]
  revert h2
  cases Flat.val x<;>simp[uV,Value.cells]
theorem NX(cs:List Value)(o:Nat)(v:Value)(r:List Value):iX cs o (v::r)=iX (cs.set o v) (o+1) r:=rfl
theorem Kd(off:Nat):∀(l:List Value) (k:Nat) (cs:Array Value),((l.zipIdx k).foldl (fun (cs:Array Value) q=>cs.setIfInBounds (off+q.2) q.1) cs).toList=iX cs.toList (off+k) l:=by
 intro l
 induction l with
 | nil=>intro k cs;rfl
 | cons v r ih=>
  intro k cs
  rw[List.zipIdx_cons,List.foldl_cons,ih (k+1),NX]
  grind
theorem Ia(off:Nat)(l:List Value)(cs:Array Value) :
  (l.toArray.zipIdx.foldl (fun (cs:Array Value) (q:Value×Nat)=>match q with|(c,j)=>cs.setIfInBounds (off+j) c) cs).toList=iX cs.toList off l:=by
 rw[<- Array.foldl_toList]
 have e:(l.toArray.zipIdx).toList=l.zipIdx 0:=by simp
 rw[e]
 exact Kd off l 0 cs
theorem SZ:∀(xs:List α) (k:Nat) (pre H9:List Value),pre.length=k*Flat.sz α->H9.length=xs.length*Flat.sz α->
  Instr.fill (λ i=>some (i*Flat.sz α,Flat.sz α)) (pre++H9).toArray ((xs.zipIdx k).map λ q=>(q.2,Flat.val q.1))=some (pre++flat xs).toArray:=by
 intro xs
 induction xs with
 | nil=>intro k pre H9 _ hm;simp at hm;subst hm;simp[Instr.fill,l8]
 | cons x xs ih=>
  intro k pre H9 hp hm
  rw[List.zipIdx_cons,List.map_cons]
  unfold Instr.fill
  dsimp only
  have o7:(Flat.val x).cells.size=Flat.sz α:=by rw[ph];simp[Flat.len]
  have B8:H9.length=xs.length*Flat.sz α+Flat.sz α:=by grind
  rw[if_neg (by grind)]
  have e:((Flat.val x).cells.zipIdx.foldl (fun (cs:Array Value) (q:Value×Nat)=>match q with|(c,j)=>cs.setIfInBounds (k*Flat.sz α+j) c) (pre++H9).toArray) =
    ((pre++Flat.enc x)++H9.drop (Flat.sz α)).toArray:=by
   apply Array.ext'
   rw[ph,Ia]
   have h1:=l9 pre (H9.take (Flat.sz α)) (H9.drop (Flat.sz α)) (Flat.enc x) (by simp[Flat.len];omega)
   simp_all
  rw[e]
  have:=ih (k+1) (pre++Flat.enc x) (H9.drop (Flat.sz α)) (by rw[List.length_append,hp,Flat.len,Nat.succ_mul]) (by grind)
  rw[this,ku,List.append_assoc]
theorem aX{T E kS n:Nat}{parts:List (Nat×Value)}{K:Value->World->Prop}(xs:List α)(hs:St w0 A L w)(ht:Vt P T E (Flat.sz α) kS)(hn:xs.length=n)
  (hp:parts=xs.zipIdx.map λ q=>(q.2,Flat.val q.1)) (hl:xs.length*Flat.sz α<=16777216) (k:∀v w',St w0 A (bG v xs::L) w'->K v w') :
  rC P (Instr.buildSlice T n parts.toArray) w K:=by
 subst hn
 obtain⟨hu,inf,hi,o7,yG,hz⟩:=fp ht
 obtain⟨zv,hzv,hzs⟩:∃zv,inf.zero=some zv/\zv.cells.size=Flat.sz α:=by
  cases hzz:inf.zero with
  | none=>rw[hzz]at hz;cases hz
  | some zv=>rw[hzz]at hz;exact⟨zv,rfl,by simpa using hz⟩
 have es:pr P (sizeOf E)=some (Flat.sz α):=by rw[mI hi,o7]
 have ez:pr P (zeroValue E)=some zv:=by unfold zeroValue;rw[cX,l6 hi];simp only[Option.bind_some,hzv];rfl
 refine⟨.slice (some ⟨w.heap.size,0,none⟩) xs.length xs.length,push w (.cells (flat xs).toArray E),?_,k _ _ ?_⟩
 ·have key:∀z:Array Value,Instr.fill (λ i=>some (i*Flat.sz α,Flat.sz α)) ((Array.range (xs.length*Flat.sz α)).map (z[· % z.size]!)) parts=some (flat xs).toArray:=by
   intro z
   have:=SZ xs 0 [] ((Array.range (xs.length*Flat.sz α)).map (z[· % z.size]!)).toList (by simp) (by simp)
   rw[hp]
   rw[List.nil_append,List.nil_append,Array.toArray_toList]at this
   exact this
  unfold Instr.buildSlice
  rw[eH (fS (cZ hu) w)]
  dsimp only
  rw[eH (fS es w),if_neg (by omega)]
  by_cases h0:xs.length*Flat.sz α=0
  ·simp only[if_pos h0]
   rw[eH (run_pure _ w),key]
   rfl
  simp only[if_neg h0]
  rw[eH (fS ez w),eH (run_pure _ w),key]
  rfl
 refine hs.new (Ext.push _ _) (F:=λ k=>k=w.heap.size) (.inr ⟨w.heap.size,xs.length,[],rfl,⟨E,?_⟩,⟨Nat.le_refl _,by simp[dG]⟩,λ _=>Iff.rfl⟩) λ b hb=>by rw[hb];exact Nat.le_refl _
 rw[List.append_nil];exact ni _ _
theorem wc(z:α)(n:Nat):(madeCells (Flat.enc z).toArray (n*Flat.sz α)).toList=flat (List.replicate n z):=by
 apply List.ext_getElem?
 intro i
 have Cw:=Flat.pos (α:=α)
 by_cases hi:i<n*Flat.sz α
 ·have h1:i / Flat.sz α<n:=by rw[Nat.div_lt_iff_lt_mul Cw];exact hi
  have h2:i % Flat.sz α<(Flat.enc z).length:=by rw[Flat.len];exact Nat.mod_lt _ Cw
  have:=rF (xs:=List.replicate n z) (i:=i / Flat.sz α) (j:=i % Flat.sz α) (x:=z) (c:=(Flat.enc z)[i % Flat.sz α]) (by simp[h1]) (by simp[h2])
  rw[Nat.div_add_mod' i (Flat.sz α)]at this
  rw[this]
  unfold madeCells
  simp[hi,Flat.len]
  grind
 have e1:(madeCells (Flat.enc z).toArray (n*Flat.sz α)).toList[i]?=none:=by
  rw[List.getElem?_eq_none_iff,Array.length_toList,size_madeCells];omega
 have e2:(flat (List.replicate n z))[i]?=none:=by
  rw[List.getElem?_eq_none_iff,dG,List.length_replicate];omega
 rw[e1,e2]
theorem we{T E kS:Nat}{n:Int}{K:Value->World->Prop}(z:α)(hs:St w0 A L w)(ht:Vt P T E (Flat.sz α) kS)(hz:n6 P E (Flat.val z))(h0:0<=n)(h1:n<=1073741824)(hby:kS<=8192)
  (k:∀v w',St w0 A (bG v (List.replicate n.toNat z)::L) w'->K v w'):rC P (Instr.makeSlice T (.int .i64 n) (.int .i64 n)) w K:=by
 obtain⟨hu,inf,hi,o7,yG,_⟩:=fp ht
 unfold n6 eh at hz
 rw[hi]at hz
 simp only[Option.map_some,Option.some.injEq]at hz
 have hb:(inf.bytes:Int)*n<=281474976710656:=by
  have h2:(inf.bytes:Int)<=8192:=by omega
  have h3:(inf.bytes:Int)*n<=8192*n:=Int.mul_le_mul_of_nonneg_right h2 h0
  omega
 have hr:=run_make (P:=P) w T E inf (Flat.val z) hu hi hz .i64 .i64 n n h0 (Int.le_refl _) hb (by omega)
 rw[o7,ph]at hr
 refine⟨_,_,hr,k _ _ ?_⟩
 refine hs.new (w':=w.alloc (.cells (madeCells (Flat.enc z).toArray (n.toNat*Flat.sz α)) E)) ⟨rfl,rfl,rfl,by simp,λ b hb _=>Be w _ b hb⟩ (F:=λ k=>k=w.heap.size)
  (.inr ⟨w.heap.size,n.toNat,[],by simp,⟨E,?_⟩,⟨by simp,by rw[List.append_nil,dG,List.length_replicate];exact Nat.le_refl _⟩,λ _=>Iff.rfl⟩) λ b hb=>by rw[hb];exact Nat.le_refl _
 rw[List.append_nil,<- wc]
 have:=ni w (.cells (madeCells (Flat.enc z).toArray (n.toNat*Flat.sz α)) E)
 rw[Array.toArray_toList]
 exact this
def Gw(α:Type)[Flat α](v:Value)(i:Nat)(p:Value):Prop:=∃b n c,v=.slice (some ⟨b,0,none⟩) n c/\p=.pointer (some ⟨b,i*Flat.sz α,none⟩)
theorem dM{T E kS:Nat}{z:Option Nat}{v:Value}{i:Int}{K:Value->Prop}(hs:St w0 A (bG v xs::L) w)(ht:eK P T=some (E,Flat.sz α,kS,z))(h0:0<=i)(h1:i<xs.length)
  (k:∀p,Gw α v i.toNat p->K p):eN P (Instr.indexAt T v (.int .i64 i)) K:=by
 obtain⟨F,h,_⟩:=hs.head
 rcases h with⟨rfl,rfl,_⟩|⟨b,cap,rest,rfl,hb,hl,_⟩
 ·simp at h1;omega
 obtain⟨hu,inf,hi,o7,_⟩:=fp ht
 refine⟨.pointer (some ⟨b,i.toNat*Flat.sz α,none⟩),?_,k _ ⟨b,_,_,rfl,rfl⟩⟩
 unfold Instr.indexAt
 have e1:pr P (underlying T)=some (.slice E):=cZ hu
 have e2:pr P (sizeOf E)=some (Flat.sz α):=by rw[mI hi,o7]
 simp only[asIntOf,cX,e1,e2,Option.bind_some,fM]
 simp only[if_pos (show 0<=i/\i<(xs.length:Int)from⟨h0,h1⟩),cX,e2,Option.bind_some,fM,gu,Nat.zero_add]
theorem rn{v:Value}{F:Nat->Prop}{i:Nat}(h:(bG v xs).p w F)(hi:i<xs.length):∃b cap rest,v=.slice (some ⟨b,0,none⟩) xs.length cap/\ng w b (flat xs++rest)/\(xs.length<=cap/\cap*Flat.sz α<=(flat xs++rest).length)/\∀k,F k↔k=b:=by
 rcases h with⟨rfl,rfl,_⟩|h
 ·simp at hi
 exact h
theorem gD{T:Nat}{v p:Value}{i:Nat}{x:α}{K:Value->Prop}(hs:St w0 A (bG v xs::L) w)(ht:dz P T=some (Flat.agg α,Flat.sz α))(hp:Gw α v i p)(hx:xs[i]?=some x)(k:K (Flat.val x)) :
  JB P (Instr.loadAt T p) w K:=by
 obtain⟨F,h,_⟩:=hs.head
 obtain⟨b,cap,rest,hv,hb,hl,_⟩:=rn h (List.getElem?_eq_some_iff.1 hx).1
 obtain⟨b',n,c,Bh,rfl⟩:=hp
 rw[hv]at Bh
 simp only[Value.slice.injEq,Option.some.injEq,Addr.mk.injEq]at Bh
 obtain⟨⟨rfl,_,_⟩,_,_⟩:=Bh
 refine aE (S:=λ _=>True) ht ⟨b,i*Flat.sz α,rfl,trivial,λ j c hj=>hb.cell ?_⟩ k
 have:=rF hx hj
 rw[List.getElem?_append_left (List.getElem?_eq_some_iff.1 this).1];exact this
theorem Ke{i:Nat}(y:α)(h:i<xs.length):flat (xs.set i y)=flat (xs.take i)++Flat.enc y++flat (xs.drop (i+1)):=by
 rw[List.set_eq_take_append_cons_drop,if_pos h,hG,ku,List.append_assoc]
theorem yH{i:Nat}{x:α}(h:xs[i]?=some x):flat xs=flat (xs.take i)++Flat.enc x++flat (xs.drop (i+1)):=by
 have hi:=(List.getElem?_eq_some_iff.1 h).1
 have:xs=xs.take i++x::xs.drop (i+1):=by
  rw[<- (List.getElem?_eq_some_iff.1 h).2,List.getElem_cons_drop,List.take_append_drop]
 conv=>lhs;rw[this]
 rw[hG,ku,List.append_assoc]
theorem NY{T:Nat}{v p:Value}{i:Nat}{F:Nat->Prop}(y:α)(h:(bG v xs).p w F)(ht:dz P T=some (Flat.agg α,Flat.sz α))(hp:Gw α v i p)(hi:i<xs.length) :
  ∃w',(Instr.storeAt T p (Flat.val y)).run P w=.ok () w'/\(bG v (xs.set i y)).p w' F/\gq F w w':=by
 obtain⟨b,cap,rest,hv,hb,hl,hF⟩:=rn h hi
 obtain⟨b',n,c,Bh,rfl⟩:=hp
 rw[hv]at Bh
 simp only[Value.slice.injEq,Option.some.injEq,Addr.mk.injEq]at Bh
 obtain⟨⟨rfl,_,_⟩,_,_⟩:=Bh
 have hx:xs[i]?=some xs[i]:=by simp[hi]
 have FR:=yH hx
 have Nv:(flat (xs.take i)).length=i*Flat.sz α:=by rw[dG,List.length_take,Nat.min_eq_left (by omega)]
 have hlen:i*Flat.sz α+Flat.sz α<=(flat xs).length:=by
  rw[dG,<- Nat.succ_mul];exact Nat.mul_le_mul_right _ hi
 obtain⟨w',h1,h2,h3⟩:=mJ (P:=P) (o:=i*Flat.sz α) (Flat.enc y) 0 (flat xs++rest) w hb (by rw[Flat.len,List.length_append];omega) (Flat.one y)
 have FN:iX (flat xs++rest) (i*Flat.sz α+0) (Flat.enc y)=flat (xs.set i y)++rest:=by
  have:=l9 (flat (xs.take i)) (Flat.enc xs[i]) (flat (xs.drop (i+1))++rest) (Flat.enc y) (by rw[Flat.len,Flat.len])
  rw[Nv]at this
  rw[Nat.add_zero,Ke y hi,FR]
  grind
 rw[FN]at h2
 refine⟨w',?_,.inr ⟨b,cap,rest,by grind,h2,?_,hF⟩,h3.mono λ k hk=>(hF k).2 hk⟩
 ·show(storeVar T ⟨b,i*Flat.sz α,none⟩ (Flat.val y)).run P w=_
  unfold storeVar
  rw[eH (fS (kZ ht).2 w),ph]
  simp only[List.size_toArray,Flat.len,ne_eq,not_true_eq_false,if_false]
  exact h1
 rw[List.length_append,dG]at hl |-;grind
theorem jm{T:Nat}{v p:Value}{i:Nat}{K:World->Prop}(y:α)(hs:St w0 A (bG v xs::L) w)(ht:dz P T=some (Flat.agg α,Flat.sz α))(hp:Gw α v i p)(hi:i<xs.length)
  (k:∀w',St w0 A (bG v (xs.set i y)::L) w'->K w'):Uz P (Instr.storeAt T p (Flat.val y)) w K:=by
 obtain⟨U,F,U',h1,h2,h3,h4,h5⟩:=hs.tF
 obtain⟨w',g1,g2,g3⟩:=NY y h1 ht hp hi
 refine⟨w',g1,k w' ⟨hs.aF.trans g3 (λ _ h=>h) λ b hb hf=>(h2 b hf).elim id λ hh=>by omega,U,F,U',g2,h2,h3,h4,h5.loc λ b hb=>g3.bY b (h5.lt b hb) λ hf=>h3 b hf hb⟩⟩
end
end Go.Fw
