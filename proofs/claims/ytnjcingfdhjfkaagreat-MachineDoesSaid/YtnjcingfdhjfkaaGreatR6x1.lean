/-
  Part 1.
-/
import Derived.Test.YtnjcingfdhjfkaaGreatProg
import Derived.Orders
import Derived.Tactics
import Derived.OrdersIn
import Derived.TacticsIn
import Derived.RangeFuncSeq
import Derived.RangeFuncLeaves
import Derived.Laws.Sem
import Derived.KernelRfl
import Derived.Below
import Derived.IntWalk
import Derived.Laws.AppendOwn
import Derived.Laws.MakeOwn
import Derived.WalkKit
import Derived.ProofKit
import Derived.OpenShut
import Derived.ChangeCalls
import Derived.Laws.Strings
import Derived.Lib.ConvBytes
import Derived.MapKept
import Derived.Maps.RangeRun
set_option maxHeartbeats 8000000
set_option linter.all false
set_option maxRecDepth 100000
namespace Go
def cW{p:Prop}(h:p:=by omega):p:=h
def dO{p:Prop}(h:p:=by decide):p:=h
def eS{p:Prop}(h:p:=by grind):p:=h
def eU{p:Prop}(h:p:=by simp):p:=h
def fU:=@if_neg
def fV:=@if_pos
def gq:=@decide_eq_true
def gD:=@decide_eq_false
def hI:=@decide_eq_decide
def hM:=@congrArg
def hU:=@of_decide_eq_true
def ij:=@of_decide_eq_false
noncomputable abbrev ji:=Proofs.Tryz.prog
abbrev jj:=World->Prop
abbrev jK(i:Int):Value:=.int .i64 i
end Go
open ByteArray renaming mk->k9
open List renaming getElem?_eq_some_iff->l0,mem_cons_of_mem->s8,mem_cons_self->uc,mem_cons->zZ,map_congr_left->H3,all_eq_true->Im,getElem?_toArray->P3,mem_filterMap->TQ
open Go.Instr renaming build->n3,sliceAt->rr,mapUpdate->sl,box->sZ,loadAt->yv,lookup->yz,indexAt->Iy,makeSlice->J4,fieldAt->KI,storeAt->LB,buildSlice->L2,makeMap->M6,alloc->QF,extract->U0
open Bool renaming and_eq_true->oG,not_eq_true'->uw,or_eq_true->zY,true_and->L1,not_false->Yq
open Go.Value renaming int->qs,bool->y9
open Nat renaming zero_add->ve,beq->EZ,le_of_ble_eq_true->FY,land->KX,shiftLeft->LU,lor->PN,eq_of_beq_eq_true->P7,testBit_two_pow->R1,one_shiftLeft->T6,ble->UU,testBit_or->Yo,blt->acd
open Array renaming getD_eq_getD_getElem?->HK,empty_append->aaP
open Go.Code renaming region->acS
open Classical renaming choose->adp
namespace Go.Fw
abbrev Env:=Nat->Value
def ev(e:Env):Operand->Value
 | .tmp t=>e t
 | .const v=>v
 | .global g=>.pointer (some ⟨g,0,none⟩)
 | .func f=>.func (.func f) #[] #[]
def C9(e:Env)(d:Nat)(v:Value):Env:=λi=>bif EZ i d then v else e i
def lQ(e:Env)(d:Option Nat)(v:Value):Env:=match d with|some d=>C9 e d v|none=>e
theorem pE(e:Env)(d:Nat)(v:Value):C9 e d v d=v:=by simp[C9]
theorem q8(e:Env){d i:Nat}(v:Value)(h:i≠d):C9 e d v i=e i:=by
 have:EZ i d=false:=by
  cases hh:EZ i d
  .rfl
  simp_all
 simp[C9,this]
def ZY(e:Env){d B:Nat}(v E:Value)(h:d≠B):C9 (C9 e d v) B E=C9 (C9 e B E) d v:=by
 funext i
 by_cases h1:i=d
 .subst h1;rw[q8 _ _ h,pE,pE]
 by_cases h2:i=B
 .subst h2;rw[pE,q8 _ _ h1,pE]
 rw[q8 _ _ h2,q8 _ _ h1,q8 _ _ h1,q8 _ _ h2]
def amA(e:Env)(d:Nat)(v:Value)(h:e d=v):C9 e d v=e:=by
 funext i
 by_cases h1:i=d
 .subst h1;rw[pE,h]
 rw[q8 _ _ h1]
def mark(D:Nat):Deferred:={target:=.collected D,args:=#[]}
structure lh(ds:List Nat)(n:Nat)(e:Env)(a:Act):Prop where
 defers:a.defers=ds.map mark
 size:a.tmps.size=n
 get:∀i,a.tmps.getD i undef=e i
def lh.eval{B:List Nat}{n:Nat}{e:Env}{a:Act}(h:lh B n e a):a.eval=ev e:=by
 funext x
 cases x<;>simp[Act.eval,ev]
 case tmp t=>simpa using h.get t
theorem lh.put{E:List Nat}{n:Nat}{e:Env}{a:Act}(h:lh E n e a){d:Option Nat}(hd:∀k,d=some k->k<n)(v:Value) :
  lh E n (lQ e d v) (a.put d v):=by
 cases d with
 | none=>exact h
 | some d=>
  have hd:=hd d rfl
  refine⟨h.defers,by simp[Act.put,h.size],λi=>?_⟩
  have I:=h.get i
  simp only[Act.put,lQ,HK]at *
  by_cases B:i=d
  .subst B
   rw[Array.getElem?_setIfInBounds_self_of_lt (by rw[h.size];exact hd),pE]
   rfl
  .rw[Array.getElem?_setIfInBounds_ne (Ne.symm B),q8 _ _ B]
   exact I
def pr(P:Program){α:Type}:Sem α->Option α
 | .pure a=>some a
 | .program k=>pr P (k P)
 | .mark _ k=>pr P k
 | _=>none
theorem gK{P:Program}{α:Type}{m:Sem α}{v:α}(h:pr P m=some v)(w:World):m.run P w=.ok v w:=by
 induction m with
 | pure a=>simp only[pr,Option.some.injEq]at h;simp_all
 | program k B=>exact B P h
 | mark x k B=>exact B h
 | _=>simp[pr]at h
theorem gi{P:Program}{α:Type}(a:α):pr P (pure a:Sem α)=some a:=rfl
theorem cX{P:Program}{α β:Type}(m:Sem α)(f:α->Sem β):pr P (m >>= f)=(pr P m).bind λa=>pr P (f a):=by
 show pr P (m.bind f)=_
 induction m with
 | pure a=>rfl
 | program k B=>exact B P
 | mark x k B=>exact B
 | _=>rfl
theorem fF{P:Program}{α β:Type}{m:Sem α}{f:α->Sem β}{w w':World}{a:α}(h:m.run P w=.ok a w') :
  (m >>= f).run P w=(f a).run P w':=by simp_all
theorem run_pure{P:Program}{α:Type}(a:α)(w:World):(pure a:Sem α).run P w=.ok a w:=rfl
abbrev FO(r:Option Nat):Fence:={Fence.wide with round:=r}
def Hy{r:Option Nat}{p:Prop}:(FO r).depth.isSome=true->p:=λh=>by cases h
def Cq{r:Option Nat}{n:Nat}{P:Program}{f:FuncId}{args:Array Value}{w:World}{R:Ending->jj}:CallsIn (FO r) n P f args w R↔Calls P f args w R:=
 callsIn_wide (n:=n)
def qZ(K:Value->jj):Ending->jj:=λe w=>∃v,e=.returned v/\K v w
def qZ.mono{K B:Value->jj}{e:Ending}{w:World}(h:qZ K e w)(k:∀v w,K v w->B v w):qZ B e w:=
 let ⟨v,I,E⟩:=h;⟨v,I,k _ _ E⟩
def Plain(P : Program)(f : FuncId) : Prop := ∃B, P.funcs[f]?=some B /\ (B.name == "runtime.NumGoroutine")=false /\ B.body.isNone=false
theorem Dd{P:Program}{f:FuncId}(h:Plain P f)(args:Array Value)(w:World) :
  (callFunc f args).run P w=.ok (.enter f args) w:=by
 obtain⟨B,h1,h2,h3⟩:=h
 show(match P.funcs[f]? with|none=>_|some B=>_:Sem Next).run P w=_
 rw[h1]
 simp[h2,h3]
structure eM(P:Program)(m:Sem Value)(K:Value->Prop):Prop where
 ex:∃v,pr P m=some v/\K v
structure Kw(P:Program)(m:Sem Value)(w:World)(K:Value->Prop):Prop where
 ex:∃v,m.run P w=.ok v w/\K v
structure nU(P:Program)(m:Sem Value)(w:World)(K:Value->jj):Prop where
 ex:∃v w',m.run P w=.ok v w'/\K v w'
structure FW(P:Program)(m:Sem Unit)(w:World)(K:jj):Prop where
 ex:∃w',m.run P w=.ok () w'/\K w'
structure Hz(P:Program)(f:FuncId)(args:List Value)(w:World)(K:Value->jj):Prop where
 ex:(Plain P f/\Calls P f args.toArray w (qZ K))\/∃v w',(callFunc f args.toArray).run P w=.ok (.value v) w'/\K v w'
structure kh(P:Program)(fv:Value)(args:List Value)(w:World)(K:Value->jj):Prop where
 ex:(∃g first cap,fv=.func (.func g) first cap/\Plain P g/\Calls P g (first++args.toArray++cap) w (qZ K))\/
  ∃l,fv=.func (.yield l) #[] #[]/\YieldAt (FO none) 0 P l args.toArray w (qZ K)
structure B5(v:Value)(A B:Prop):Prop where
 ex:∃t,v=.bool t/\(t=true->A)/\(t=false->B)
structure MN(P:Program)(m:Sem Value)(v:Value)(w:World)(R:Prop):Prop where
 ass:m.run P w=.ok v w
 rest:R
inductive HA where
 | val (v:Value)
 | p (m:Sem Value)
 | q (m:Sem Value)
 | e (m:Sem Value)
 | u (m:Sem Unit)
 | call (f:FuncId) (args:List Value)
 | Vk (fv:Value) (args:List Value)
 | bad
def ZL:Operand->Bool|.const _=>true|_=>false
def XN:Value->Sem Value
 | .pointer none|.nilIface|.nilFunc => stuck "nil"
 | .func (.method _) _ _ => stuck "method"
 | x=>pure x
def ZZ(c a b:Value):Sem Value:=do pure (if <- asBool c then a else b)
def afs(op:BinOp)(t:TypeId)(cx cy:Bool)(a b:Value):Sem Value:=
 match a,b with
 | .nilIface, .nilIface => if cx||cy then binOp op t a b else stuck "two nil interfaces"
 | .agg _, .agg _ => .program λp => if p.eqGuardType p.depth t then stuck "an interface in a part" else binOp op t a b
 | _,_=>binOp op t a b
def lR(op:BinOp)(t:TypeId)(cx cy:Bool)(a b:Value):Sem Value:=
 match op with
 | .eql=>afs .eql t cx cy a b
 | .neq=>afs .neq t cx cy a b
 | op=>binOp op t a b
def afu(P:Program)(op:BinOp)(t:TypeId)(x y:Operand):Bool:=
 match op with
 | .eql|.neq=>match P.underlying t with
  | some (.pointer _)|some .unsafePointer=>!(ZL x||ZL y)
  | _=>false
 | _=>false
def isMap(P:Program)(t:TypeId):Bool:=match P.underlying t with|some (.map _ _)|some (.chan _ _)=>true|_=>false
def ast(P:Program)(s d:TypeId):Nat:=
 match P.underlying d with
 | some (.slice _)=>2
 | some .string=>match P.underlying s with|some (.slice _)=>1|_=>0
 | _=>0
def De(P:Program)(o:Oper)(ρ:Operand->Value):HA:=
 match o.op with
 | .move x|.assign x=>.val (ρ x)
 | .pick c a b=>.p (ZZ (ρ c) (ρ a) (ρ b))
 | .alloc t=>.e (QF t true (.tuple #[]))
 | .box t x=>.e (sZ t (ρ x))
 | .build t parts=>.p (n3 t (parts.toList.map λq=>(q.1,ρ q.2)).toArray)
 | .buildSlice t n parts=>.e (L2 t n (parts.toList.map λq=>(q.1,ρ q.2)).toArray)
 | .load t a=>.q (yv t (ρ a))
 | .store t a x=>.u (LB t (ρ a) (ρ x))
 | .nilCheck x=>.p (XN (ρ x))
 | .binOp op t x y _=>if afu P op t x y then .q (lR op t (ZL x) (ZL y) (ρ x) (ρ y))else .p (lR op t (ZL x) (ZL y) (ρ x) (ρ y))
 | .unOp op _ x=>.p (Op.unary op (ρ x))
 | .convert s d x=>match ast P s d with|0=>.p (convert s d (ρ x))|1=>.q (convert s d (ρ x))|_=>.e (convert s d (ρ x))
 | .makeInterface t x=>.q (Instr.makeInterface t (ρ x))
 | .makeFunc fn first cap=>.val (.func fn (first.toList.map ρ).toArray (cap.toList.map ρ).toArray)
 | .makeMap t r=>.e (M6 t (r.map ρ))
 | .makeSlice t l c=>.e (J4 t (ρ l) (ρ c))
 | .slice t x E B mx=>.p (rr t (ρ x) (E.map ρ) (B.map ρ) (mx.map ρ))
 | .fieldAddr s x f=>.p (KI s (ρ x) f)
 | .field t x f=>.p (Instr.field t (ρ x) f)
 | .indexAddr t x i=>.p (Iy t (ρ x) (ρ i))
 | .index t x i=>.p (Instr.index t (ρ x) (ρ i))
 | .lookup t x i ok=>.q (yz t (ρ x) (ρ i) ok)
 | .mapUpdate t m k x|.insert t m k x=>.u (sl t (ρ m) (ρ k) (ρ x))
 | .mapEntry t m k=>.e (Instr.mapEntry t (ρ m) (ρ k))
 | .entryStore t m s x=>.u (Instr.entryStore t (ρ m) (ρ s) (ρ x))
 | .range t x=>.e (Instr.range t (ρ x))
 | .next it s=>.e (Instr.next (ρ it) s o.type)
 | .entry it=>.q (Instr.entry (ρ it))
 | .typeAssert x t u ok=>.q (Instr.typeAssert (ρ x) t u ok)
 | .extract t i=>.p (U0 (ρ t) i)
 | .call c=>
  match c.callee with
  | .value (.func f)=>.call f (c.args.toList.map ρ)
  | .value x=>.Vk (ρ x) (c.args.toList.map ρ)
  | .invoke ..=>.bad
  | .builtin b=>
   match b with
   | .len=>if isMap P (c.argTypes.getD 0 0)then .q (Builtin.len_ c.argTypes o.type (c.args.toList.map ρ).toArray)else .p (Builtin.len_ c.argTypes o.type (c.args.toList.map ρ).toArray)
   | .cap=>.p (Builtin.cap_ c.argTypes o.type (c.args.toList.map ρ).toArray)
   | .min=>.p (Builtin.min_ c.argTypes o.type (c.args.toList.map ρ).toArray)
   | .max=>.p (Builtin.max_ c.argTypes o.type (c.args.toList.map ρ).toArray)
   | .append=>.e (Builtin.append_ c.argTypes o.type (c.args.toList.map ρ).toArray)
   | .copy=>.e (Builtin.copy_ c.argTypes o.type (c.args.toList.map ρ).toArray)
   | .clear=>.e (Builtin.clear_ c.argTypes o.type (c.args.toList.map ρ).toArray)
   | .delete=>.e (Builtin.delete_ c.argTypes o.type (c.args.toList.map ρ).toArray)
   | _=>.bad
 | _=>.bad
def Ll(P:Program)(k:HA)(K:Value->jj)(w:World):Prop:=
 match k with
 | .val v=>K v w
 | .p m=>eM P m (λv=>K v w)
 | .q m=>Kw P m w (λv=>K v w)
 | .e m=>nU P m w K
 | .u m=>FW P m w (λw'=>K undef w')
 | .call f args=>Hz P f args w K
 | .Vk fv args=>kh P fv args w K
 | .bad=>False
def HA.quiet:HA->Bool
 | .val _|.p _|.q _=>true
 | _=>false
def HA.reads:HA->Bool
 | .q _=>true
 | _=>false
def HA.has(P:Program)(k:HA)(w:World)(v:Value):Prop:=
 match k with
 | .val x=>x=v
 | .p m=>pr P m=some v
 | .q m=>m.run P w=.ok v w
 | _=>False
def Ll.has{P:Program}{k:HA}{K:Value->jj}{w:World}(B:k.quiet=true)(h:Ll P k K w):∃v,k.has P w v/\K v w:=by
 cases k<;>simp only[HA.quiet,Bool.false_eq_true]at B<;>simp only[Ll]at h
 case val v=>exact⟨v,rfl,h⟩
 case p m=>exact h.ex
 case q m=>exact h.ex
def HA.XO{P:Program}{k:HA}{w w':World}{v:Value}(B:k.reads=false)(h:k.has P w v):k.has P w' v:=by
 cases k<;>simp only[HA.has,HA.reads,Bool.true_eq_false]at *
 .exact h
 exact h
def Ll.Z0{P:Program}{k:HA}{K:Value->jj}{w:World}{v:Value}(h:k.has P w v)(B:K v w):Ll P k K w:=by
 cases k<;>simp only[HA.has]at h<;>simp only[Ll]
 case val u=>grind
 case p m=>exact⟨v,h,B⟩
 case q m=>exact⟨v,h,B⟩
def Ll.mono{P:Program}{k:HA}{K E:Value->jj}{w:World}(h:Ll P k K w)(B:∀v w,K v w->E v w):Ll P k E w:=by
 cases k<;>simp only[Ll]at *
 case val v=>grind
 case p m=>exact⟨let ⟨v,a,b⟩:=h.ex;⟨v,a,B _ _ b⟩⟩
 case q m=>exact⟨let ⟨v,a,b⟩:=h.ex;⟨v,a,B _ _ b⟩⟩
 case e m=>exact⟨let ⟨v,w',a,b⟩:=h.ex;⟨v,w',a,B _ _ b⟩⟩
 case u m=>exact⟨let ⟨w',a,b⟩:=h.ex;⟨w',a,B _ _ b⟩⟩
 case call f args=>
  rcases h.ex with⟨a,b⟩|⟨v,w',a,b⟩
  .exact⟨.inl ⟨a,b.mono λe w' r=>r.mono B⟩⟩
  .exact⟨.inr ⟨v,w',a,B _ _ b⟩⟩
 case Vk fv args=>
  rcases h.ex with⟨g,f,c,a,b,d⟩|⟨l,a,I,t,s,b,c,d⟩
  .exact⟨.inl ⟨g,f,c,a,b,d.mono λe w' r=>r.mono B⟩⟩
  .exact⟨.inr ⟨l,a,I,t,s,b,c,d.mono λe w' r=>r.mono B⟩⟩
def xA{r:Option Nat}{P:Program}{o:Oper}{a:Act}{w:World}:∀f,o.about P w a.eval=some f->(FO r).fn f:=λ_ _=>trivial
def OU{r:Option Nat}{P:Program}{o:Oper}{a:Act}{next:Act->jj}{Q:Exit->Act->jj}{f:FuncId}{args:Array Value}{w:World}
  {K:Value->jj}(h:Calls P f args w (qZ K)) (E:∀v w',K v w'->next (a.put o.dst v) w'):o.uponIn (FO r) 0 P a next Q (.ok (.enter f args) w):=by
 rw[Oper.uponIn_enter]
 refine⟨Hy,Cq.2 (h.mono λe w' ⟨v,I,B⟩=>?_)⟩
 grind
def KE{r:Option Nat}{P:Program}{o:Oper}{a:Act}{next:Act->jj}{Q:Exit->Act->jj}{l:Nat}{f:FuncId}{tmps:Array Value}{assign body:Code}{w:World}
  {K:Value->jj}(h:RoundIn (FO none) 0 P l f tmps assign body w (qZ K)) (E:∀v w',K v w'->next (a.put o.dst v) w'):o.uponIn (FO r) 0 P a next Q (.ok (.round l f tmps assign body) w):=by
 rw[Oper.uponIn_round]
 refine⟨Hy,?_⟩
 have B:RoundIn (FO r) 0 P l f tmps assign body w (qZ K):=h
 refine B.mono λe w' ⟨v,I,J⟩=>?_
 grind
def mN{r:Option Nat}{P:Program}{o:Oper}{a:Act}{next:Act->jj}{Q:Exit->Act->jj}{w w':World}{v:Value}(E:∀c,o.op≠.defer c)
  (h:(execOp a.eval o).run P w=.ok (.value v) w') (B:next (a.put o.dst v) w'):o.wpIn (FO r) 0 P a w next Q:=by
 unfold Oper.wpIn;rw[Oper.semAt_eq _ _ _ E,h,Oper.uponIn_value];exact⟨xA,B⟩
def Sz{r:Option Nat}{P:Program}{o:Oper}{a:Act}{next:Act->jj}{Q:Exit->Act->jj}{w w':World}(E:∀c,o.op≠.defer c)
  (h:(execOp a.eval o).run P w=.ok .skip w') (B:next (a.put o.dst undef) w'):o.wpIn (FO r) 0 P a w next Q:=by
 unfold Oper.wpIn;rw[Oper.semAt_eq _ _ _ E,h,Oper.uponIn_skip];exact⟨xA,B⟩
def OV{P:Program}{m:Sem Value}{w w':World}{v:Value}(h:m.run P w=.ok v w') :
  (do pure (.value (<- m)):Sem Next).run P w=.ok (.value v) w':=by simp_all
def asu{P:Program}{m:Sem Unit}{w w':World}(h:m.run P w=.ok () w') :
  (do m;pure .skip:Sem Next).run P w=.ok .skip w':=by simp_all
theorem GO{α β:Type}(f:α->β)(l:Array α):(l.toList.map f).toArray=l.map f:=by
 grind
def eqG(t:TypeId)(x y:Operand)(a b:Value):Sem Unit:=
 match a,b with
 | .nilIface,.nilIface=>if (ZL x||ZL y)=true then pure ()else do
   if <- Op.eqGuardIn Op.maxDepth t a b then unsupported (.noEntry "binop/eql: two nil values of an interface type with methods, neither of them the literal nil")
 | .agg _,.agg _=>do
  if !(<- program).eqGuardType (<- program).depth t then return
  if <- Op.eqGuardIn Op.maxDepth t a b then unsupported (.noEntry "binop/eql: two nil values of an interface type with methods, in a part of a struct or an array")
 | _,_=>pure ()
def FX{P:Program}{op:BinOp}(I:op=.eql\/op=.neq){t:TypeId}{x y:Operand}{a b:Value}{w w':World}{v:Value}
  (h:(afs op t (ZL x) (ZL y) a b).run P w=.ok v w'):(eqGuard op t x y a b).run P w=.ok () w/\(binOp op t a b).run P w=.ok v w':=by
 have B:eqGuard op t x y a b=eqG t x y a b:=by rcases I with rfl|rfl<;>cases x<;>cases y<;>rfl
 rw[B]
 clear B
 unfold eqG
 unfold afs at h
 split at h
 .split at h
  .simp_all
  simp_all
 .rename_i c1 c2
  have E : (if P.eqGuardType P.depth t then stuck "an interface in a part" else binOp op t (.agg c1) (.agg c2) : Sem Value).run P w=.ok v w' := h
  split at E
  .simp_all
  simp_all
 simp_all
def OW{P:Program}{op:BinOp}{t:TypeId}{x y:Operand}{a b:Value}{w w':World}{v:Value}
  (h:(lR op t (ZL x) (ZL y) a b).run P w=.ok v w'):(do eqGuard op t x y a b;binOp op t a b:Sem Value).run P w=.ok v w':=by
 unfold lR at h
 split at h
 .obtain⟨h1,h2⟩:=FX (.inl rfl) h
  simp_all
 .obtain⟨h1,h2⟩:=FX (.inr rfl) h
  simp_all
 rename_i n1 n2
 have h1:(eqGuard op t x y a b).run P w=.ok () w:=by
  unfold eqGuard
  simp_all
 simp_all
theorem Ll.wp{r:Option Nat}{ds:List Nat}{P:Program}{n:Nat}{o:Oper}{e:Env}{a:Act}{w:World}{K:Value->jj}{Q:Exit->Act->jj}{next:Act->jj}
  (ha:lh ds n e a) (h:Ll P (De P o (ev e)) K w) (B:∀v w',K v w'->next (a.put o.dst v) w'):o.wpIn (FO r) 0 P a w next Q:=by
 have I:=ha.eval
 have J:∀c,o.op≠.defer c:=λc hc=>by unfold De at h;rw[hc]at h;exact h
 have V:∀{m:Sem Value},eM P m (λv=>K v w)->execOp (ev e) o=(do pure (.value (<- m)):Sem Next)->o.wpIn (FO r) 0 P a w next Q:=λW M=>by
  obtain⟨v,h1,h2⟩:=W.ex
  exact mN (w':=w) J (by rw[I,M];exact OV (gK h1 w)) (B _ _ h2)
 have V':∀{m:Sem Value},Kw P m w (λv=>K v w)->execOp (ev e) o=(do pure (.value (<- m)):Sem Next)->o.wpIn (FO r) 0 P a w next Q:=λW M=>by
  obtain⟨v,h1,h2⟩:=W.ex
  exact mN (w':=w) J (by rw[I,M];exact OV h1) (B _ _ h2)
 have E:∀{m:Sem Value},nU P m w K->execOp (ev e) o=(do pure (.value (<- m)):Sem Next)->o.wpIn (FO r) 0 P a w next Q:=λW M=>by
  obtain⟨v,w',h1,h2⟩:=W.ex
  exact mN J (by rw[I,M];exact OV h1) (B _ _ h2)
 have U:∀{m:Sem Unit},FW P m w (λw'=>K undef w')->execOp (ev e) o=(do m;pure .skip:Sem Next)->o.wpIn (FO r) 0 P a w next Q:=λW M=>by
  obtain⟨w',h1,h2⟩:=W.ex
  exact Sz J (by rw[I,M];exact asu h1) (B _ _ h2)
 unfold De at h
 cases ml:o.op with
 | move x=>rw[ml]at h;exact mN (w':=w) J (by rw[I];simp only[execOp,ml];rfl) (B _ _ h)
 | assign x=>rw[ml]at h;exact mN (w':=w) J (by rw[I];simp only[execOp,ml];rfl) (B _ _ h)
 | pick c x y=>
  rw[ml]at h
  obtain⟨v,h1,h2⟩:=h.ex
  refine mN (w':=w) J ?_ (B _ _ h2)
  rw[I];simp only[execOp,ml]
  have:=gK h1 w
  unfold ZZ at this
  revert this
  cases ev e c<;>simp only[asBool]<;>intro this<;>first|(simp only[stuck]at this;exact absurd this (by simp[Sem.run]))|skip
  case bool t=>
   have e2:v=(if t=true then ev e x else ev e y):=by
    have:(Result.ok (if t=true then ev e x else ev e y) w:Result Value)=.ok v w:=this
    simpa using this.symm
   rw[e2];rfl
 | alloc t=>rw[ml]at h;exact E h (by simp only[execOp,ml])
 | box t x=>rw[ml]at h;exact E h (by simp only[execOp,ml])
 | build t ps=>rw[ml]at h;exact V h (by simp only[execOp,ml,GO])
 | buildSlice t n ps=>rw[ml]at h;exact E h (by simp only[execOp,ml,GO])
 | insert t m k x=>rw[ml]at h;exact U h (by simp only[execOp,ml])
 | load t x=>rw[ml]at h;exact V' h (by simp only[execOp,ml])
 | store t x y=>rw[ml]at h;exact U h (by simp only[execOp,ml])
 | nilCheck x=>
  rw[ml]at h
  obtain⟨v,h1,h2⟩:=h.ex
  refine mN (w':=w) J ?_ (B _ _ h2)
  rw[I];simp only[execOp,ml]
  revert h1
  cases M:ev e x with
  | pointer p=>cases p<;>simp[XN,stuck,pr,gi]<;>(try(rintro rfl;rfl))
  | func fn f c=>cases fn<;>simp[XN,stuck,pr,gi]<;>(try(rintro rfl;rfl))
  | _=>simp[XN,stuck,pr,gi]<;>(try(rintro rfl;rfl))
 | binOp op t x y u=>
  rw[ml]at h
  dsimp only at h
  split at h
  .obtain⟨v,h1,h2⟩:=h.ex
   exact mN (w':=w) J (by rw[I];simp only[execOp,ml];exact OV (OW h1)) (B _ _ h2)
  .obtain⟨v,h1,h2⟩:=h.ex
   exact mN (w':=w) J (by rw[I];simp only[execOp,ml];exact OV (OW (gK h1 w))) (B _ _ h2)
 | unOp op t x=>rw[ml]at h;exact V h (by simp only[execOp,ml])
 | convert s d x=>
  rw[ml]at h
  dsimp only at h
  split at h
  .exact V h (by simp only[execOp,ml])
  .exact V' h (by simp only[execOp,ml])
  .exact E h (by simp only[execOp,ml])
 | makeInterface t x=>rw[ml]at h;exact V' h (by simp only[execOp,ml])
 | makeFunc fn f c=>rw[ml]at h;exact mN (w':=w) J (by rw[I];simp only[execOp,ml,<- GO];rfl) (B _ _ h)
 | makeMap t r=>rw[ml]at h;exact E h (by simp only[execOp,ml])
 | makeSlice t l c=>rw[ml]at h;exact E h (by simp only[execOp,ml])
 | slice t x lo hi mx=>rw[ml]at h;exact V h (by simp only[execOp,ml])
 | fieldAddr s x f=>rw[ml]at h;exact V h (by simp only[execOp,ml])
 | field t x f=>rw[ml]at h;exact V h (by simp only[execOp,ml])
 | indexAddr t x i=>rw[ml]at h;exact V h (by simp only[execOp,ml])
 | index t x i=>rw[ml]at h;exact V h (by simp only[execOp,ml])
 | lookup t x i ok=>rw[ml]at h;exact V' h (by simp only[execOp,ml])
 | mapUpdate t m k x=>rw[ml]at h;exact U h (by simp only[execOp,ml])
 | mapEntry t m k=>rw[ml]at h;exact E h (by simp only[execOp,ml])
 | entryStore t m s x=>rw[ml]at h;exact U h (by simp only[execOp,ml])
 | range t x=>rw[ml]at h;exact E h (by simp only[execOp,ml])
 | next it s=>rw[ml]at h;exact E h (by simp only[execOp,ml])
 | entry it=>rw[ml]at h;exact V' h (by simp only[execOp,ml])
 | typeAssert x t u ok=>rw[ml]at h;exact V' h (by simp only[execOp,ml])
 | extract t i=>rw[ml]at h;exact V h (by simp only[execOp,ml])
 | call c=>
  rw[ml]at h
  dsimp only at h
  have O:(c.args.toList.map (ev e)).toArray=c.args.map (ev e):=GO _ _
  cases hc:c.callee with
  | value x=>
   rw[hc]at h
   have hval:∀{g:FuncId}{first cap:Array Value},ev e x=.func (.func g) first cap->Plain P g->Calls P g (first++(c.args.toList.map (ev e)).toArray++cap) w (qZ K)->o.wpIn (FO r) 0 P a w next Q:=by
    intro g first cap M W oo
    unfold Oper.wpIn
    rw[Oper.semAt_eq _ _ _ J]
    have hr:(execOp a.eval o).run P w=.ok (.enter g (first++(c.args.toList.map (ev e)).toArray++cap)) w:=by
     rw[I]
     simp only[execOp,ml]
     have h1:(resolve (ev e) c o.type).run P w=.ok {target:=.fn (.func g) cap,args:=first++c.args.map (ev e)} w:=by
      simp only[resolve,hc,M];rfl
     rw[fF h1]
     show(callFunc g (first++c.args.map (ev e)++cap)).run P w=_
     rw[Dd W,O]
    rw[hr]
    exact⟨xA,OU oo λv w' hv=>B v w' hv⟩
   have hyl:∀{l:Nat},ev e x=.func (.yield l) #[] #[]->YieldAt (FO none) 0 P l (c.args.toList.map (ev e)).toArray w (qZ K)->o.wpIn (FO r) 0 P a w next Q:=by
    rintro l M ⟨fn,tmps,assign,body,hy,hr⟩
    unfold Oper.wpIn
    rw[Oper.semAt_eq _ _ _ J]
    have hr':(execOp a.eval o).run P w=.ok (.round l fn tmps assign body) w:=by
     rw[I]
     simp only[execOp,ml]
     have h1:(resolve (ev e) c o.type).run P w=.ok {target:=.fn (.yield l) #[],args:=#[]++c.args.map (ev e)} w:=by
      simp only[resolve,hc,M];rfl
     rw[fF h1]
     show(Instr.yield l (#[]++c.args.map (ev e))).run P w=_
     rw[aaP,<- O];exact hy
    rw[hr']
    exact⟨xA,KE hr λv w' hv=>B v w' hv⟩
   have r8:kh P (ev e x) (c.args.toList.map (ev e)) w K->o.wpIn (FO r) 0 P a w next Q:=λh=>by
    rcases h.ex with⟨g,first,cap,h1,h2,h3⟩|⟨l,h1,h2⟩
    .exact hval h1 h2 h3
    .exact hyl h1 h2
   cases x with
   | func f=>
    rcases h.ex with⟨h1,h2⟩|⟨v,w',h1,h2⟩
    .exact hval (g:=f) (first:=#[]) (cap:=#[]) rfl h1 (by simpa using h2)
    .refine mN J ?_ (B _ _ h2)
     rw[I]
     simp only[execOp,ml]
     have h3:(resolve (ev e) c o.type).run P w=.ok {target:=.fn (.func f) #[],args:=#[]++c.args.map (ev e)} w:=by
      simp only[resolve,hc,ev];rfl
     rw[fF h3]
     show(callFunc f (#[]++c.args.map (ev e)++#[])).run P w=_
     rw[<- O,aaP,Array.append_empty]
     exact h1
   | tmp t=>exact r8 h
   | const v=>exact r8 h
   | global g=>exact r8 h
  | invoke r nm=>rw[hc]at h;exact h.elim
  | builtin b=>
   rw[hc]at h
   dsimp only at h
   have hb:∀{m:Sem Value},builtin b c.argTypes o.type (c.args.map fun|.const _=>true|_=>false) (c.args.map (ev e))=(do pure (.value (<- m)):Sem Next)->
     execOp (ev e) o=(do pure (.value (<- m)):Sem Next):=by
    intro m hm
    simp only[execOp,ml]
    have h1:resolve (ev e) c o.type=pure {target:=.builtin b c.argTypes o.type (c.args.map fun|.const _=>true|_=>false),args:=c.args.map (ev e)}:=by
     simp only[resolve,hc];rfl
    rw[h1]
    exact hm
   rw[O]at h
   cases b<;>first|exact h.elim|skip
   case len=>
    dsimp only at h
    split at h
    .exact V' h (hb rfl)
    .exact V h (hb rfl)
   case cap=>exact V h (hb rfl)
   case min=>exact V h (hb rfl)
   case max=>exact V h (hb rfl)
   case append=>exact E h (hb rfl)
   case copy=>exact E h (hb rfl)
   case clear=>exact E h (hb rfl)
   case delete=>exact E h (hb rfl)
 | _=>rw[ml]at h;exact h.elim
def pre(o:Oper):List Nat:=(o.after.toList.filter λe=>Region.binds .any e).map (·.on)
def EU(ops:List Oper)(j:Nat):Option Nat:=(ops[j]?).bind (·.dst)
def looks(ops:List Oper)(o:Oper):List Nat:=
 (o.op.operands.toList.filterMap fun|.tmp t=>some t|_=>none)++(match o.guard with|some (j,_)=>(EU ops j).toList|none=>[])
def q9(ops:List Oper)(o:Oper)(e:Env):Bool:=
 match o.guard with
 | none=>true
 | some (j,b)=>match EU ops j with
  | none=>false
  | some s=>match e s with
   | .bool B=>B == b
   | _=>false
theorem Lm{B:List Nat}{n:Nat}{e:Env}{a:Act}(h:lh B n e a)(ops:List Oper)(o:Oper):Region.wanted o (yielded ops.toArray a.tmps)=q9 ops o e:=by
 unfold Region.wanted q9
 cases o.guard with
 | none=>rfl
 | some g=>
  obtain⟨j,b⟩:=g
  simp only[yielded,EU,P3]
  cases (ops[j]?).bind (·.dst)with
  | none=>simp
  | some s=>
   have E:=h.get s
   simp only[Option.bind_some]
   rw[<- E,HK]
   cases a.tmps[s]? with
   | none=>simp[undef]
   | some v=>grind
theorem XP{P:Program}{o:Oper}{ρ ρ':Operand->Value}(h:∀x∈o.op.operands,ρ x=ρ' x):De P o ρ=De P o ρ':=by
 unfold De
 cases ml:o.op<;>rw[ml]at h<;>simp only[Op.operands]at h<;>dsimp only
 case call c=>
  have I:∀x∈c.args,ρ x=ρ' x:=λx E=>h x (by simp[Call.operands,E])
  have B:c.args.toList.map ρ=c.args.toList.map ρ':=H3 λx E=>I x eS
  rw[B]
  cases hc:c.callee with
  | value x=>
   have E:ρ x=ρ' x:=h x (by simp[Call.operands,hc])
   grind
  | _=>rfl
 case build t ps=>
  have B:(ps.toList.map λq=>(q.1,ρ q.2))=ps.toList.map λq=>(q.1,ρ' q.2):=
   H3 λq J=>eS
  grind
 case buildSlice t n ps=>
  have B:(ps.toList.map λq=>(q.1,ρ q.2))=ps.toList.map λq=>(q.1,ρ' q.2):=
   H3 λq J=>eS
  grind
 case makeFunc fn f c=>
  simp_all
 case makeMap t r=>
  have:r.map ρ=r.map ρ':=by cases r with|none=>rfl|some x=>grind
  grind
 case slice t x lo hi mx=>
  have M:ρ x=ρ' x:=h x eU
  have h1:lo.map ρ=lo.map ρ':=by cases lo with|none=>rfl|some y=>grind
  have h2:hi.map ρ=hi.map ρ':=by cases hi with|none=>rfl|some y=>grind
  have h3:mx.map ρ=mx.map ρ':=by cases mx with|none=>rfl|some y=>grind
  grind
 case load t x=>grind
 case store t x y=>grind
 case pick c x y=>grind
 case binOp op t x y u=>grind
 case insert t m k x=>grind
 case mapUpdate t m k x=>grind
 case entryStore t m k x=>grind
 case mapEntry t m k=>grind
 case lookup t m k ok=>grind
 case indexAddr t m k=>grind
 case index t m k=>grind
 case makeSlice t m k=>grind
 all_goals grind
def amB{e:Env}{d:Nat}{v:Value}{x:Operand}(h:x≠.tmp d):ev (C9 e d v) x=ev e x:=by
 cases x<;>simp only[ev]
 case tmp t=>exact q8 _ _ λB=>h (by rw[B])
theorem GP{P:Program}{ops:List Oper}{o:Oper}{e:Env}{d:Option Nat}{v:Value}(h:∀k,d=some k->k ∉ looks ops o) :
  De P o (ev (lQ e d v))=De P o (ev e):=by
 cases d with
 | none=>rfl
 | some d=>
  refine XP λx E=>amB λB=>h d rfl ?_
  subst B
  exact List.mem_append_left _ (TQ.2 ⟨.tmp d,eS,rfl⟩)
theorem Bf{ops:List Oper}{o:Oper}{e:Env}{d:Option Nat}{v:Value}(h:∀k,d=some k->k ∉ looks ops o) :
  q9 ops o (lQ e d v)=q9 ops o e:=by
 cases d with
 | none=>rfl
 | some d=>
  have h:=h d rfl
  unfold q9
  unfold looks at h
  cases hg:o.guard with
  | none=>rfl
  | some g=>
   obtain⟨j,b⟩:=g
   rw[hg]at h
   dsimp only at h |-
   cases hs:EU ops j with
   | none=>rfl
   | some s=>
    rw[hs]at h
    have:s≠d:=λB=>h (by simp[B])
    simp only[lQ,q8 _ _ this]
def Z1(ops:List Oper)(x y:Oper):Prop:=
 (∀d,x.dst=some d->d ∉ looks ops y/\y.dst≠some d)/\(∀d,y.dst=some d->d ∉ looks ops x)
theorem XQ{e:Env}{d B:Option Nat}{v E:Value}(h:∀k,d=some k->B≠some k):lQ (lQ e d v) B E=lQ (lQ e B E) d v:=by
 cases d with
 | none=>rfl
 | some d=>cases B with
  | none=>rfl
  | some B=>exact ZY _ _ _ λI=>h d rfl (by rw[I])
def GQ(P:Program)(ops:List Oper)(o:Oper)(K:Env->jj)(e:Env)(w:World):Prop:=
 if q9 ops o e=true then Ll P (De P o (ev e)) (λv w'=>K (lQ e o.dst v) w') w else K (lQ e o.dst undef) w
def GQ.mono{P:Program}{ops:List Oper}{o:Oper}{K B:Env->jj}{e:Env}{w:World}(h:GQ P ops o K e w)
  (E:∀v w',K (lQ e o.dst v) w'->B (lQ e o.dst v) w'):GQ P ops o B e w:=by
 unfold GQ at *
 split
 .rename_i hw;rw[fV hw]at h;exact h.mono λv w'=>E v w'
 grind
def SA(ops:List Oper)(L:Nat->Bool)(i:Nat):Prop:=L i=false/\∃o,ops[i]?=some o/\∀p∈pre o,L p=true
def oe(L:Nat->Bool)(i:Nat):Nat->Bool:=λk=>if k=i then true else L k
def Down(ops:List Oper)(L:Nat->Bool):Prop:=∀i o,L i=true->ops[i]?=some o->∀p∈pre o,L p=true
def XR(L:Nat->Bool)(i:Nat):oe L i i=true:=by simp[oe]
theorem Vl(L:Nat->Bool){i k:Nat}(h:k≠i):oe L i k=L k:=by simp[oe,h]
def MO(L:Nat->Bool)(i:Nat){k:Nat}(h:L k=true):oe L i k=true:=by unfold oe;grind
theorem XS(L:Nat->Bool)(i j:Nat):oe (oe L i) j=oe (oe L j) i:=by
 grind[oe]
def Down.set{ops:List Oper}{L:Nat->Bool}{i:Nat}(h:Down ops L)(I:SA ops L i):Down ops (oe L i):=by
 intro k o B E p J
 by_cases e:k=i
 .subst e
  obtain⟨_,U,M,O⟩:=I
  grind[oe]
 rw[Vl _ e]at B
 exact MO _ _ (h k o B E p J)
def SA.set{ops:List Oper}{L:Nat->Bool}{i j:Nat}(h:SA ops L j)(E:j≠i):SA ops (oe L i) j:=
 ⟨by rw[Vl _ E];exact h.1,let ⟨o,B,I⟩:=h.2;⟨o,B,λp J=>MO _ _ (I p J)⟩⟩
inductive SB(ops:List Oper):Nat->Nat->Prop
 | one {j i:Nat}{o:Oper}(h:ops[j]?=some o) (hp:i∈pre o):SB ops j i
 | more {j p i:Nat}{o:Oper}(h:ops[j]?=some o) (hp:p∈pre o) (hd:SB ops p i):SB ops j i
theorem SB.listed{ops:List Oper}{L:Nat->Bool}(O:Down ops L){j i:Nat}(h:SB ops j i):(∀o,ops[j]?=some o->∀p∈pre o,L p=true)->L i=true:=by
 induction h with
 | one h B=>grind
 | more h B hd I=>intro J;exact I λo E q M=>O _ o (J _ h _ B) E q M
def SB.KF{ops:List Oper}{L:Nat->Bool}(I:Down ops L){j i:Nat}(h:SB ops j i)(B:SA ops L j):L i=true:=
 h.listed I λo J p U=>by obtain⟨_,O,E,M⟩:=B;grind
def WS(P:Program)(ops:List Oper)(Q:Env->jj)(S:Nat->jj):Nat->(Nat->Bool)->Env->jj
 | 0,L,e,w=>(∀i,¬ SA ops L i)/\Q e w
 | f+1,L,e,w=>((∀i,¬ SA ops L i)->Q e w)/\
   ∀i o,ops[i]?=some o->SA ops L i->GQ P ops o (λB w'=>(w'=w\/S i w')/\WS P ops Q S f (oe L i) B w') e w
theorem WS.weaken{P:Program}{ops:List Oper}{Q:Env->jj}{S E:Nat->jj}(h:∀i w,S i w->E i w) :
  ∀(f:Nat) (_L:Nat->Bool) (_e:Env) (_w:World),WS P ops Q S f _L _e _w->WS P ops Q E f _L _e _w
 | 0,_,_,_,B=>B
 | f+1,L,e,w,B=>⟨B.1,λi o I J=>(B.2 i o I J).mono λ_ _ ⟨h1,h2⟩=>⟨h1.imp id (h _ _),WS.weaken h f _ _ _ h2⟩⟩
theorem WS.first{P:Program}{ops:List Oper}{Q:Env->jj}{S:Nat->jj}{i:Nat}{E:Oper}{X:HA}{b:Bool}{v:Value}
  (hi:ops[i]?=some E) (hn:b=false->v=undef) :
  ∀(f:Nat) (L:Nat->Bool) (e:Env) (w:World),Down ops L->SA ops L i->
   (∀j B,ops[j]?=some B->j≠i->L j=false->i ∉ pre B->Z1 ops E B)->
   De P E (ev e)=X->q9 ops E e=b->(b=true->X.has P w v)->
   WS P ops Q (λj w'=>S j w'/\(SB ops j i\/(b=true->X.has P w' v))) f (oe L i) (lQ e E.dst v) w->WS P ops Q S (f+1) L e w:=by
 have done:∀(K:Env->jj) (e:Env) (w:World),De P E (ev e)=X->q9 ops E e=b->(b=true->X.has P w v)->K (lQ e E.dst v) w->GQ P ops E K e w:=by
  intro K e w hX hb hy J
  unfold GQ
  rw[hb]
  cases b with
  | true=>rw[fV rfl,hX];exact Ll.Z0 (hy rfl) J
  | false=>grind
 have sub:∀{f:Nat}{L:Nat->Bool}{e:Env}{w:World},WS P ops Q (λj w'=>S j w'/\(SB ops j i\/(b=true->X.has P w' v))) f L e w->WS P ops Q S f L e w:=
  λh=>WS.weaken (λ_ _ h=>h.1) _ _ _ _ h
 intro f
 induction f with
 | zero=>
  intro L e w hL U Vm hX hb hy H
  refine⟨λh=>absurd U (h i),λj B Vn O=>?_⟩
  by_cases I:j=i
  .grind
  .exact absurd (O.set I) (H.1 j)
 | succ f ih=>
  intro L e w hL U Vm hX hb hy H
  refine⟨λh=>absurd U (h i),λj B Vn O=>?_⟩
  by_cases I:j=i
  .grind
  .have gG:i ∉ pre B:=λhp=>by
    obtain⟨_,o',V,r9⟩:=O.2.elim λo' h=>(⟨trivial,o',h.1,h.2⟩:True/\∃o',ops[j]?=some o'/\∀p∈pre o',L p=true)
    rw[Vn]at V;cases V
    have:=r9 i hp
    rw[U.1]at this;cases this
   have M:=Vm j B Vn I O.1 gG
   have afy:¬ SB ops j i:=λhd=>by
    have:=hd.KF hL O
    rw[U.1]at this;cases this
   have h1:=H.2 j B Vn (O.set I)
   have W:∀k,E.dst=some k->k ∉ looks ops B:=λk J=>(M.1 k J).1
   have rdj:∀k,B.dst=some k->k ∉ looks ops E:=λk J=>M.2 k J
   have dd:∀k,E.dst=some k->B.dst≠some k:=λk J=>(M.1 k J).2
   have cont:∀(u:Value) (w':World),(w'=w\/(S j w'/\(SB ops j i\/(b=true->X.has P w' v))))->
     WS P ops Q (λj w'=>S j w'/\(SB ops j i\/(b=true->X.has P w' v))) f (oe (oe L i) j) (lQ (lQ e E.dst v) B.dst u) w'->
     (w'=w\/S j w')/\WS P ops Q S (f+1) (oe L j) (lQ e B.dst u) w':=by
    intro u w' hw hWS
    refine⟨hw.imp id λh=>h.1,?_⟩
    refine ih (oe L j) (lQ e B.dst u) w' (hL.set O) (U.set (Ne.symm I)) ?_ ?_ ?_ ?_ ?_
    .grind[oe,pre,Z1]
    .rw[GP rdj];exact hX
    .rw[Bf rdj];exact hb
    .grind
    .rw[XS,XQ λk J=>eS]
     exact hWS
   unfold GQ at h1 |-
   rw[Bf W]at h1
   split
   .rename_i hw
    rw[fV hw,GP W]at h1
    exact h1.mono λu w' hh=>cont u w' hh.1 hh.2
   grind
def wr(ops:List Oper):List Nat:=ops.filterMap (·.dst)
def Z2{ops:List Oper}{i:Nat}{o:Oper}{d:Nat}(h:ops[i]?=some o)(hd:o.dst=some d):d∈wr ops:=
 TQ.2 ⟨o,List.mem_of_getElem? h,hd⟩
theorem Cr{e e0:Env}{ops:List Oper}{i:Nat}{o:Oper}(h:∀k,k ∉ wr ops->e k=e0 k)(E:ops[i]?=some o)(v:Value) :
  ∀k,k ∉ wr ops->lQ e o.dst v k=e0 k:=by
 intro k B
 cases hd:o.dst with
 | none=>exact h k B
 | some d=>
  have:k≠d:=λI=>B (by rw[I];exact Z2 E hd)
  simp only[lQ,q8 _ _ this]
  grind
def GQ.wpOp{r:Option Nat}{J:List Nat}{P:Program}{n:Nat}{ops:List Oper}{i:Nat}{o:Oper}{K:Env->jj}{M:Act->jj}{U:Exit->Act->jj}{e:Env}{a:Act}{w:World}
  (O:ops[i]?=some o) (hd:∀k,o.dst=some k->k<n) (B:lh J n e a) (h:GQ P ops o K e w)
  (I:∀v E w',lh J n (lQ e o.dst v) E->K (lQ e o.dst v) w'->M E w'):wpOpIn (FO r) 0 P ops.toArray U i M a w:=by
 unfold Go.wpOpIn
 simp only[P3,O]
 rw[Lm B]
 unfold GQ at h
 split
 .rename_i hw
  rw[fV hw]at h
  exact Ll.wp B h λv w' V=>I v _ _ (B.put hd v) V
 rename_i hw
 rw[fU hw]at h
 exact⟨xA,I undef _ _ (B.put hd undef) h⟩
theorem WS.any{r:Option Nat}{ds:List Nat}{P:Program}{n:Nat}{ops:List Oper}{Q:Env->jj}{Q':Exit->Act->jj}{S:Nat->jj}{e0:Env}
  (hd:∀d∈wr ops,d<n) (W:∀e a w,lh ds n e a->(∀k,k ∉ wr ops->e k=e0 k)->Q e w->Q' .normal a w) :
  ∀(f:Nat) (L:Nat->Bool) (listed:Array Bool) (e:Env) (a:Act) (w:World),lh ds n e a->(∀k,k ∉ wr ops->e k=e0 k)->listed.size=ops.length->
   (∀i,listed.getD i false=L i)->WS P ops Q S f L e w->wpAnyIn (FO r) 0 P .any ops.toArray Q' f listed a w:=by
 have B:∀(L:Nat->Bool) (listed:Array Bool) (_:listed.size=ops.length) (_:∀i,listed.getD i false=L i) (i:Nat),
   i∈Region.ready .any ops.toArray listed↔SA ops L i:=by
  intro L listed J E i
  rw[mem_ready]
  have getT:∀o,ops[i]?=some o->listed.getD i true=L i:=λo I=>by
   grind
  unfold SA pre
  grind
 intro f
 induction f with
 | zero=>
  intro L listed e a w O M J E h
  refine⟨?_,W e a w O M h.2⟩
  cases V:Region.ready .any ops.toArray listed with
  | nil=>rfl
  | cons i r=>exact absurd ((B L listed J E i).1 eS) (h.1 i)
 | succ f ih=>
  intro L listed e a w O M J E h
  refine⟨λhn=>W e a w O M (h.1 λi U=>?_),λi U=>?_⟩
  .have:=(B L listed J E i).2 U
   grind
  .have V:=(B L listed J E i).1 U
   obtain⟨o,I,_⟩:=V.2
   refine GQ.wpOp I (λk hk=>hd k (Z2 I hk)) O (h.2 i o I V) λv a' w' MP hh=>?_
   refine ih (oe L i) _ _ a' w' MP (Cr M I v) eS (λk=>?_) hh.2
   have pF:i<listed.size:=eS
   have Ln:=E k
   simp only[HK]at Ln |-
   grind[oe]
def WS.region{r:Option Nat}{I:List Nat}{P:Program}{n:Nat}{id:Nat}{ops:List Oper}{Q:Env->jj}{E:Exit->Act->jj}{S:Nat->jj}{e:Env}{a:Act}{w:World}
  (O:P.follows .mixedOrders=true) (hd:∀d∈wr ops,d<n) (M:lh I n e a)
  (J:∀B a w,lh I n B a->(∀k,k ∉ wr ops->B k=e k)->Q B w->E .normal a w)
  (h:WS P ops Q S ops.length (λ_=>false) e {w with drawn:=w.drawn+1}):(acS id ops.toArray true).wpIn (FO r) 0 P E a w:=by
 refine wpIn_region_any O ?_
 rw[List.size_toArray]
 refine WS.any hd J ops.length (λ_=>false) _ e a _ M (λ_ _=>rfl) eU (λi=>?_) h
 simp only[HK,Array.getElem?_replicate]
 grind
def lk(s:Nat):List (Nat×Option Bool)->Option (Option Bool)
 | []=>none
 | q::r=>bif EZ q.1 s then some q.2 else lk s r
def MQ(d:Nat):List (Nat×Option Bool)->List (Nat×Option Bool)
 | []=>[]
 | q::r=>bif EZ q.1 d then MQ d r else q::MQ d r
def del(d:Option Nat)(B:List (Nat×Option Bool)):List (Nat×Option Bool):=match d with|none=>B|some d=>MQ d B
def GR(B:List (Nat×Option Bool)):Operand->Option Bool
 | .const (.bool b)=>some b
 | .tmp t=>match lk t B with|some b=>b|none=>none
 | _=>none
def ajT(B:List (Nat×Option Bool)):Op->Option Operand
 | .move x=>some x
 | .assign x=>some x
 | .pick (.tmp c) a b=>match lk c B with|some (some t)=>some (bif t then a else b)|_=>none
 | _=>none
def Z3(B:List (Nat×Option Bool))(d:Option Nat)(x:Operand):List (Nat×Option Bool):=
 match d,GR B x with
 | some d,some b=>(d,some b)::MQ d B
 | d,_=>del d B
def ofK:Option Bool->Value|some b=>.bool b|none=>undef
def mB(B:List (Nat×Option Bool))(e:Env):Prop:=∀s b,lk s B=some b->e s=ofK b
theorem HD(n:Nat):EZ n n=true:=Nat.beq_refl n
theorem EV{a b:Nat}(h:a≠b):EZ a b=false:=by
 cases hh:EZ a b
 .rfl
 simp_all
theorem afz(s d:Nat)(B:List (Nat×Option Bool)):lk s (MQ d B)=if s=d then none else lk s B:=by
 induction B with
 | nil=>simp[MQ,lk]
 | cons q r E=>
  simp only[MQ,lk]
  by_cases h1:q.1=d
  .rw[h1,HD,cond_true,E]
   by_cases h2:s=d
   .simp[h2]
   .rw[fU h2,fU h2,EV (λI=>h2 I.symm),cond_false]
  .rw[EV h1,cond_false]
   simp only[lk,E]
   by_cases h2:q.1=s
   .grind
   .rw[EV h2,cond_false,cond_false]
def mB.nil(e:Env):mB [] e:=λs b h=>by simp[lk]at h
theorem mB.del{I:List (Nat×Option Bool)}{e:Env}(h:mB I e)(d:Option Nat)(v:Value):mB (del d I) (lQ e d v):=by
 cases d with
 | none=>exact h
 | some d=>
  intro s b E
  simp only[Fw.del,afz]at E
  by_cases B:s=d
  .simp[B]at E
  .rw[fU B]at E
   simp only[lQ,q8 _ _ B]
   exact h s b E
def mB.cons{E:List (Nat×Option Bool)}{e:Env}(h:mB E e){s:Nat}{b:Option Bool}(I:e s=ofK b):mB ((s,b)::E) e:=by
 intro s' J B
 simp only[lk]at B
 by_cases h1:s=s'
 .subst h1;rw[HD,cond_true]at B;cases B;exact I
 rw[EV h1,cond_false]at B;exact h _ _ B
theorem mB.known{I:List (Nat×Option Bool)}{e:Env}(h:mB I e){x:Operand}{b:Bool}(E:GR I x=some b):ev e x=.bool b:=by
 cases x with
 | tmp t=>
  have B:(match lk t I with|some b=>b|none=>none)=some b:=E
  split at B
  .rename_i b' hb;subst B;exact h t _ hb
  grind
 | const v=>cases v<;>simp[GR]at E;simp[ev,E]
 | _=>simp[GR]at E
def mB.aft{B:List (Nat×Option Bool)}{e:Env}(h:mB B e)(d:Option Nat)(x:Operand):mB (Z3 B d x) (lQ e d (ev e x)):=by
 unfold Z3
 split
 .rename_i d b hb
  have h1:=h.del (some d) (ev e x)
  exact mB.cons (b:=some b) h1 (by simp only[lQ,pE];exact h.known hb)
 exact h.del _ _
def xB(P:Program)(ops:List Oper)(r:Oper)(e:Env)(w:World)(R:Prop):Prop:=
 bif q9 ops r e then(match De P r (ev e),r.dst with|.q m,some d=>MN P m (e d) w R|_,_=>False)else R
def Df(P:Program)(ops:List Oper):List Oper->Env->World->Prop->Prop
 | [],_,_,R=>R
 | r::ks,e,w,R=>xB P ops r e w (Df P ops ks e w R)
theorem OX{P:Program}{ops:List Oper}{ks:List Oper}{e:Env}{w:World}{R:Prop}:Df P ops ks e w R->(∀r∈ks,xB P ops r e w True)/\R:=by
 induction ks with
 | nil=>intro h;exact⟨eU,h⟩
 | cons r ks B=>
  intro h
  have:xB P ops r e w True/\Df P ops ks e w R:=by
   simp only[Df,xB]at h |-
   cases hw:q9 ops r e with
   | false=>grind
   | true=>
    rw[hw]at h
    simp only[cond_true]at h |-
    cases hk:De P r (ev e)<;>rw[hk]at h<;>cases hd:r.dst<;>rw[hd]at h<;>first|grind|skip
    exact⟨⟨h.ass,trivial⟩,h.rest⟩
  grind
def HE(n:Nat)(o:Oper):Bool:=match o.dst with|none=>true|some d=>acd d n
def sB(P:Program)(ops:List Oper)(o:Oper)(ks:List Oper)(rec:List (Nat×Option Bool)->Env->jj)(B:List (Nat×Option Bool))(e:Env)(w:World):Prop:=
 match ajT B o.op with
 | some x=>rec (Z3 B o.dst x) (lQ e o.dst (ev e x)) w
 | none=>Ll P (De P o (ev e)) (λv w'=>Df P ops ks (lQ e o.dst v) w' (rec (del o.dst B) (lQ e o.dst v) w')) w
def skF(o:Oper)(rec:List (Nat×Option Bool)->Env->jj)(B:List (Nat×Option Bool))(e:Env)(w:World):Prop:=
 rec (match o.dst with|some d=>(d,none)::MQ d B|none=>B) (lQ e o.dst undef) w
theorem mB.skip{B:List (Nat×Option Bool)}{e:Env}(h:mB B e)(d:Option Nat) :
  mB (match d with|some d=>(d,none)::MQ d B|none=>B) (lQ e d undef):=by
 cases d with
 | none=>exact h
 | some d=>exact mB.cons (b:=none) (h.del (some d) undef) (by simp only[lQ,pE];rfl)
def DS(P:Program)(n:Nat)(ops:List Oper)(q:Oper×List Oper)(rec:List (Nat×Option Bool)->Env->jj)(B:List (Nat×Option Bool))(e:Env)(w:World):Prop:=
  bif HE n q.1 then
   match q.1.guard with
   | none=>sB P ops q.1 q.2 rec B e w
   | some g=>match EU ops g.1 with
    | none=>False
    | some s=>match lk s B with
     | some none=>skF q.1 rec B e w
     | some (some E)=>bif E == g.2 then sB P ops q.1 q.2 rec B e w else skF q.1 rec B e w
     | none=>B5 (e s)
       (bif g.2 then sB P ops q.1 q.2 rec ((s,some true)::B) (C9 e s (.bool true)) w else skF q.1 rec ((s,some true)::B) (C9 e s (.bool true)) w)
       (bif g.2 then skF q.1 rec ((s,some false)::B) (C9 e s (.bool false)) w else sB P ops q.1 q.2 rec ((s,some false)::B) (C9 e s (.bool false)) w)
  else False
def DR(P:Program)(n:Nat)(ops:List Oper):List (Oper×List Oper)->(Env->jj)->List (Nat×Option Bool)->Env->jj
 | [],Q,_,e,w=>Q e w
 | q::rest,Q,kg,e,w=>DS P n ops q (DR P n ops rest Q) kg e w
def Bg{P:Program}{ops:List Oper}{o:Oper}{ks:List Oper}{rec:List (Nat×Option Bool)->Env->jj}{I:List (Nat×Option Bool)}{e:Env}{w:World}
  (B:mB I e) (h:sB P ops o ks rec I e w) :
  Ll P (De P o (ev e)) (λv w'=>(w'=w\/∀r∈ks,xB P ops r (lQ e o.dst v) w' True)/\∃E,mB E (lQ e o.dst v)/\rec E (lQ e o.dst v) w') w:=by
 unfold sB at h
 split at h
 .rename_i x hx
  have J:(De P o (ev e)).has P w (ev e x):=by
   unfold De
   cases ml:o.op<;>rw[ml]at hx<;>simp only[ajT]at hx<;>first|cases hx|skip
   case move y=>simp only[HA.has]
   case assign y=>simp only[HA.has]
   case pick c a b=>
    cases c<;>simp only at hx<;>first|cases hx|skip
    rename_i c
    split at hx
    .rename_i t ht
     cases hx
     have hc:e c=.bool t:=B c _ ht
     simp only[HA.has,ev,hc,ZZ]
     cases t<;>rfl
    .cases hx
  exact Ll.Z0 J ⟨.inl rfl,_,B.aft _ _,h⟩
 refine h.mono λv w' M=>?_
 have:=OX M
 exact⟨.inr this.1,_,B.del _ _,this.2⟩
theorem MR{P:Program}{n:Nat}{ops:List Oper}{q:Oper×List Oper}{rec:List (Nat×Option Bool)->Env->jj}{I:List (Nat×Option Bool)}{e:Env}{w:World}
  (B:mB I e) (h:DS P n ops q rec I e w) :
  (∀d,q.1.dst=some d->d<n)/\
  GQ P ops q.1 (λW w'=>(w'=w\/∀r∈q.2,xB P ops r W w' True)/\∃M,mB M W/\rec M W w') e w:=by
 unfold DS at h
 cases hd:HE n q.1 with
 | false=>grind
 | true=>
  rw[hd]at h
  refine⟨λd hdd=>by unfold HE at hd;simp_all,?_⟩
  have U:∀{I:List (Nat×Option Bool)},mB I e->skF q.1 rec I e w->
    (w=w\/∀r∈q.2,xB P ops r (lQ e q.1.dst undef) w True)/\∃M,mB M (lQ e q.1.dst undef)/\rec M (lQ e q.1.dst undef) w:=
   λB h=>⟨.inl rfl,_,B.skip _,h⟩
  simp only[cond_true]at h
  unfold GQ
  cases hg:q.1.guard with
  | none=>
   rw[hg]at h
   have V:q9 ops q.1 e=true:=by unfold q9;rw[hg]
   rw[fV V]
   exact Bg B h
  | some g=>
   obtain⟨j,b⟩:=g
   rw[hg]at h
   dsimp only at h
   cases hs:EU ops j with
   | none=>rw[hs]at h;exact h.elim
   | some s=>
    rw[hs]at h
    dsimp only at h
    have V:∀t,e s=.bool t->q9 ops q.1 e=(t == b):=λt ht=>by unfold q9;rw[hg];dsimp only;rw[hs];dsimp only;rw[ht]
    cases hl:lk s I with
    | some ob=>
     rw[hl]at h
     cases ob with
     | none=>
      dsimp only at h
      have hu:q9 ops q.1 e=false:=by
       unfold q9;rw[hg];dsimp only;rw[hs];dsimp only;rw[B s none hl];rfl
      rw[fU (by rw[hu];simp)]
      exact U B h
     | some b'=>
      dsimp only at h
      rw[V b' (B s _ hl)]
      cases hb:b' == b with
      | true=>rw[hb]at h;rw[fV rfl];exact Bg B h
      | false=>rw[hb]at h;rw[fU eU];exact U B h
    | none=>
     rw[hl]at h
     obtain⟨t,ht,O,E⟩:=h.ex
     rw[V t ht]
     have J:∀c,t=c->C9 e s (.bool c)=e:=λc hc=>amA _ _ _ (by rw[ht,hc])
     cases t with
     | true=>
      have O:=O rfl
      rw[J true rfl]at O
      cases b with
      | true=>rw[fV (by rfl)];exact Bg (B.cons (b:=some _) ht) O
      | false=>rw[fU eU];exact U (B.cons (b:=some _) ht) O
     | false=>
      have E:=E rfl
      rw[J false rfl]at E
      cases b with
      | true=>rw[fU eU];exact U (B.cons (b:=some _) ht) E
      | false=>rw[fV (by rfl)];exact Bg (B.cons (b:=some _) ht) E
theorem DR.list{r:Option Nat}{ds:List Nat}{P:Program}{n:Nat}{ops:List Oper}{Q:Env->jj}{Q':Exit->Act->jj}{e0:Env}
  (hQ:∀e a w,lh ds n e a->(∀k,k ∉ wr ops->e k=e0 k)->Q e w->Q' .normal a w) :
  ∀(l:List Oper) (J:List (Nat×Option Bool)) (e:Env) (a:Act) (w:World),(∀o∈l,o∈ops)->lh ds n e a->(∀k,k ∉ wr ops->e k=e0 k)->mB J e->
   DR P n ops (l.map λo=>(o,[])) Q J e w->wpListIn (FO r) 0 P ops.toArray Q' l a w:=by
 intro l
 induction l with
 | nil=>intro J e a w _ B I _ h;exact hQ e a w B I h
 | cons o l ih=>
  intro J e a w W B I hk h
  obtain⟨hd,E⟩:=MR hk h
  obtain⟨i,V⟩:=List.getElem?_of_mem (W o uc)
  have Sr:∀x∈l,x∈ops:=λx hx=>W x (s8 _ hx)
  unfold wpListIn
  rw[Lm B]
  unfold GQ at E
  split
  .rename_i hw
   rw[fV hw]at E
   exact Ll.wp B E λv w' ⟨_,M,U,O⟩=>ih M _ _ w' Sr (B.put hd v) (Cr I V v) U O
  .rename_i hw
   rw[fU hw]at E
   obtain⟨_,M,U,O⟩:=E
   exact⟨xA,ih M _ _ w Sr (B.put hd undef) (Cr I V undef) U O⟩
def DR.region{r:Option Nat}{E:List Nat}{P:Program}{n:Nat}{id:Nat}{ops:List Oper}{Q:Env->jj}{I:Exit->Act->jj}{e:Env}{a:Act}{w:World}
  (M:lh E n e a) (J:∀B a w,lh E n B a->(∀k,k ∉ wr ops->B k=e k)->Q B w->I .normal a w)
  (h:DR P n ops (ops.map λo=>(o,[])) Q [] e w):(acS id ops.toArray false).wpIn (FO r) 0 P I a w:=
 wpIn_region_lit (DR.list J ops [] e a w (λ_ h=>h) M (λ_ _=>rfl) (mB.nil e) h)
def SD(P:Program)(o:Oper):Bool:=(De P o λ_=>undef).quiet
def MS(P:Program)(o:Oper):Bool:=(De P o λ_=>undef).reads
theorem OY{P:Program}{o:Oper}(ρ ρ':Operand->Value):(De P o ρ).quiet=(De P o ρ').quiet/\(De P o ρ).reads=(De P o ρ').reads:=by
 unfold De
 cases o.op<;>try exact⟨rfl,rfl⟩
 case binOp op t x y u=>dsimp only;split<;>exact⟨rfl,rfl⟩
 case convert s d x=>dsimp only;split<;>exact⟨rfl,rfl⟩
 case call c=>
  dsimp only
  cases c.callee with
  | value x=>cases x<;>exact⟨rfl,rfl⟩
  | invoke r B=>grind
  | builtin b=>cases b<;>dsimp only<;>first|exact⟨rfl,rfl⟩|(split<;>exact⟨rfl,rfl⟩)
def iw(d:Nat):List Nat->Bool
 | []=>false
 | x::r=>EZ x d||iw d r
theorem Dg{d:Nat}{l:List Nat}:iw d l=true↔d∈l:=by
 induction l with
 | nil=>simp[iw]
 | cons x r B=>
  simp only[iw,zY,B,zZ]
  constructor
  .rintro(h|h)
   .simp_all
   grind
  .rintro(rfl|h)
   .simp_all
   grind
def Vp{d:Nat}{l:List Nat}:iw d l=false↔d ∉ l:=by
 rw[<- Dg];simp
def eqO(d:Nat):Option Nat->Bool|none=>false|some k=>EZ k d
theorem afA{d:Nat}{o:Option Nat}:eqO d o=true↔o=some d:=by
 cases o with
 | none=>simp[eqO]
 | some k=>simp_all[eqO]
def MT(ops:List Oper)(x y:Oper):Bool:=match y.dst with|none=>true|some d=>!iw d (looks ops x)&&!eqO d x.dst
def EW{ops:List Oper}{x y:Oper}(h:MT ops x y=true):∀d,y.dst=some d->d ∉ looks ops x/\x.dst≠some d:=by
 intro d hd
 unfold MT at h
 rw[hd]at h
 simp only[oG,uw]at h
 exact⟨Vp.1 h.1,λB=>by rw[<- afA]at B;grind⟩
def SE(ops:List Oper)(x y:Oper):Bool:=MT ops y x&&MT ops x y
def OZ{ops:List Oper}{x y:Oper}(h:SE ops x y=true):Z1 ops x y:=by
 simp only[SE,oG]at h
 exact⟨λd hd=>EW h.1 d hd,λd hd=>(EW h.2 d hd).1⟩
def EX(f:Nat->Oper->Bool):Nat->List Oper->Bool
 | _,[]=>true
 | k,o::r=>f k o&&EX f (k+1) r
theorem qG{f:Nat->Oper->Bool}{l:List Oper}:∀{k:Nat},EX f k l=true->∀i o,l[i]?=some o->f (k+i) o=true:=by
 induction l with
 | nil=>grind
 | cons x r B=>
  grind[EX]
def Gy:List Nat->Nat->Nat
 | [],_=>0
 | x::_,0=>x
 | _::r,n+1=>Gy r n
def Lo(B:List Nat):List Nat->Nat
 | []=>0
 | p::r=>PN (PN (LU 1 p) (Gy B p)) (Lo B r)
def Lp(ops:List Oper)(B:List Nat):Bool:=
 EX (λj o=>(pre o).all (λp=>acd p j)&&EZ (Gy B j) (Lo B (pre o))) 0 ops
theorem XT{B l:List Nat}{i:Nat}(h:(Lo B l).testBit i=true):∃p∈l,p=i\/(Gy B p).testBit i=true:=by
 induction l with
 | nil=>simp[Lo]at h
 | cons p r I=>
  have E:(((1 <<< p) ||| Gy B p) ||| Lo B r).testBit i=true:=h
  simp only[Yo,zY]at E
  rcases E with(E|E)|E
  .refine⟨p,eU,.inl ?_⟩
   rw[T6,R1]at E
   grind
  .grind
  grind
theorem Lq{ops:List Oper}{B:List Nat}(h:Lp ops B=true):∀(n j:Nat),j<n->j<ops.length->∀i,(Gy B j).testBit i=true->SB ops j i:=by
 intro n
 induction n with
 | zero=>omega
 | succ n U=>
  intro j V hlen i J
  obtain⟨o,E⟩:∃o,ops[j]?=some o:=⟨ops[j],by simp[hlen]⟩
  have:=qG h j o E
  simp only[ve,oG,Im]at this
  obtain⟨h1,h2⟩:=this
  have h2:=P7 h2
  rw[h2]at J
  obtain⟨p,M,I⟩:=XT J
  rcases I with rfl|I
  .exact .one E M
  .have O:p<j:=by simp_all
   exact .more E M (U p cW cW i I)
def bit(m i:Nat):Bool:=Nat.testBit m i
def Lr(ops:List Oper)(y:Oper):Bool:=match y.dst with|none=>false|some d=>!iw d (looks ops y)
theorem SF{ops:List Oper}{y:Oper}(h:Lr ops y=true):∃d,y.dst=some d/\d ∉ looks ops y:=by
 unfold Lr at h
 cases hd:y.dst with
 | none=>grind
 | some d=>rw[hd]at h;exact⟨d,rfl,Vp.1 eS⟩
def Z4(P:Program)(ops:List Oper)(B:List Nat)(m i:Nat)(ks:List Nat):Bool:=
 match ops[i]? with
 | none=>false
 | some o=>
  !bit m i&&((pre o).all (λp=>bit m p) &&
  (bif SD P o then
   EX (λj y=>EZ j i||(bit m j||(iw i (pre y)||SE ops o y))) 0 ops
  else
   EX (λj y=>EZ j i||(bit m j||!(pre y).all λp=>bit m p)) 0 ops &&
   (EX (λr y=>!bit m r||(!MS P y||(bit (Gy B i) r||iw r ks))) 0 ops &&
   ks.all (λr=>match ops[r]? with
    | none=>false
    | some y=>Lr ops y&&EX (λj z=>EZ j r||(bit (Gy B r) j||MT ops y z)) 0 ops))))
inductive PT where
 | nil
 | stop
 | op (i:Nat) (ks:List Nat) (r:PT)
 | alt (i:Nat) (ks:List Nat) (r o:PT)
def PT.of:List (Nat×List Nat)->PT
 | []=>.nil
 | q::r=>.op q.1 q.2 (PT.of r)
def PT.ids:PT->List Nat
 | .alt i _ _ o=>i::o.ids
 | _=>[]
def PT.many:PT->Bool
 | .alt _ _ _ _=>true
 | .op _ _ r=>r.many
 | _=>false
def ajU(P:Program)(ops:List Oper)(B:List Nat)(m i:Nat)(ks:List Nat):Bool:=
 match ops[i]? with
 | none=>false
 | some o=>
  !bit m i&&((pre o).all (λp=>bit m p)&&(!SD P o&&(
   (EX (λr y=>!bit m r||(!MS P y||(bit (Gy B i) r||iw r ks))) 0 ops &&
   ks.all (λr=>match ops[r]? with
    | none=>false
    | some y=>Lr ops y&&EX (λj z=>EZ j r||(bit (Gy B r) j||MT ops y z)) 0 ops)))))
def Vq(P:Program)(ops:List Oper)(B:List Nat):Bool->Nat->Nat->PT->Bool
 | c,f,m,.nil=>!c&&(EZ f 0&&EX (λj _=>bit m j) 0 ops)
 | c,_,_,.stop=>c
 | c,f,m,.op i ks r=>!c&&(match f with|0=>false|E+1=>Z4 P ops B m i ks&&Vq P ops B false E (PN m (LU 1 i)) r)
 | c,f,m,.alt i ks r o=>(c||EX (λj y=>bit m j||(!(pre y).all (λp=>bit m p)||iw j (i::o.ids))) 0 ops) &&
  ((match f with|0=>false|E+1=>ajU P ops B m i ks&&Vq P ops B false E (PN m (LU 1 i)) r)&&Vq P ops B true f m o)
def Ls(ops:List Oper):List Nat:=ops.foldl (λB o=>B++[Lo B (pre o)]) []
def PT.run(k:Nat):Nat->PT
 | 0=>.nil
 | n+1=>.op k [] (PT.run (k+1) n)
def zM(ops:List Oper)(i:Nat):Oper:=(ops[i]?).getD default
def DT(P:Program)(n:Nat)(ops:List Oper):PT->(Env->jj)->List (Nat×Option Bool)->Env->jj
 | .nil,Q,_,e,w=>Q e w
 | .stop,_,_,_,_=>True
 | .op i ks r,Q,B,e,w=>DS P n ops (zM ops i,ks.map (zM ops)) (DT P n ops r Q) B e w
 | .alt i ks r o,Q,B,e,w=>DS P n ops (zM ops i,ks.map (zM ops)) (DT P n ops r Q) B e w/\DT P n ops o Q B e w
def DQ(P:Program)(ops:List Oper):PT->(Env->jj)->Env->jj
 | .nil,Q,e,w=>Q e w
 | .stop,_,_,_=>True
 | .op i ks r,Q,e,w=>GQ P ops (zM ops i) (λB w'=>(w'=w\/∀r∈ks.map (zM ops),xB P ops r B w' True)/\DQ P ops r Q B w') e w
 | .alt i ks r o,Q,e,w=>GQ P ops (zM ops i) (λB w'=>(w'=w\/∀r∈ks.map (zM ops),xB P ops r B w' True)/\DQ P ops r Q B w') e w/\DQ P ops o Q e w
theorem DT.plain{P:Program}{n:Nat}{ops:List Oper}{Q:Env->jj}:∀(p:PT) (B:List (Nat×Option Bool)) (e:Env) (w:World),mB B e->DT P n ops p Q B e w->DQ P ops p Q e w:=by
 intro p
 induction p with
 | nil=>intro B e w _ h;exact h
 | stop=>intro B e w _ _;trivial
 | op i ks p M=>intro B e w E h;exact(MR E h).2.mono λv w' ⟨h1,I,h2,h3⟩=>⟨h1,M I _ _ h2 h3⟩
 | alt i ks p o M J=>intro B e w E h;exact⟨(MR E h.1).2.mono λv w' ⟨h1,I,h2,h3⟩=>⟨h1,M I _ _ h2 h3⟩,J B e w E h.2⟩
structure Tk where
 idx:Nat
 o:Oper
 b:Bool
 X:HA
 v:Value
structure HF(P:Program)(ops:List Oper)(L:Nat->Bool)(T:List Tk)(e:Env):Prop where
 op:∀x∈T,ops[x.idx]?=some x.o
 listed:∀x∈T,L x.idx=true
 kind:∀x∈T,x.X.reads=MS P x.o
 still:∀x∈T,x.X.reads=false->x.b=true->∀w,x.X.has P w x.v
 reads:∀x∈T,x.X.reads=true->(∀j z,ops[j]?=some z->j≠x.idx->SB ops x.idx j\/MT ops x.o z=true)->Lr ops x.o=true->
  De P x.o (ev e)=x.X/\q9 ops x.o e=x.b/\∃d,x.o.dst=some d/\(x.b=true->e d=x.v)
def ST(P:Program)(ops:List Oper)(T:List Tk):Nat->jj:=λj w=>∀x∈T,SB ops j x.idx\/(x.b=true->x.X.has P w x.v)
def Vr{m i:Nat}:(λk=>bit (PN m (LU 1 i)) k)=oe (λk=>bit m k) i:=by
 funext k
 show(m ||| 1 <<< i).testBit k=_
 rw[Yo,T6,R1]
 grind[oe,bit]
theorem HF.next{P:Program}{ops:List Oper}{L:Nat->Bool}{T:List Tk}{e:Env}(h:HF P ops L T e)(V:Down ops L){i:Nat}{o:Oper}(ho:ops[i]?=some o)(hi:L i=false)(v:Value) :
  HF P ops (oe L i) T (lQ e o.dst v):=by
 refine⟨h.op,λx E=>MO _ _ (h.listed x E),h.kind,h.still,λx E hr gj O=>?_⟩
 obtain⟨h1,h2,d,hd,h3⟩:=h.reads x E hr gj O
 have HC:i≠x.idx:=λW=>by have:=h.listed x E;grind
 have I:MT ops x.o o=true:=by
  rcases gj i o ho HC with afy|I
  .have:L i=true:=afy.listed V λo' J p hp=>V x.idx o' (h.listed x E) J p hp
   grind
  omega
 have B:=EW I
 refine⟨by rw[GP λk U=>(B k U).1];exact h1,by rw[Bf λk U=>(B k U).1];exact h2,d,hd,λhb=>?_⟩
 have:=h3 hb
 cases hod:o.dst with
 | none=>exact this
 | some k=>
  have M:d≠k:=λW=>(B k hod).2 (by rw[hd,W])
  simp only[lQ,q8 _ _ M]
  exact this
theorem O0{P:Program}{ops:List Oper}{J:List Nat}(hc:Lp ops J=true){f m i:Nat}{ks:List Nat}{o:Oper}{T:List Tk}{e:Env}{w:World}{Q:Env->jj}{rec:Env->jj}
  (ho:ops[i]?=some o) (hun:bit m i=false) (hL:Down ops (bit m)) (E:HF P ops (bit m) T e)
  (Cs:∀(r:Nat) (y:Oper),ops[r]?=some y->(!bit m r||(!MS P y||(bit (Gy J i) r||iw r ks)))=true)
  (O1:∀r∈ks,(match ops[r]? with|none=>false|some y=>Lr ops y&&EX (λj z=>EZ j r||(bit (Gy J r) j||MT ops y z)) 0 ops)=true)
  (gj:GQ P ops o (λO w'=>(w'=w\/∀r∈ks.map (zM ops),xB P ops r O w' True)/\rec O w') e w)
  (hrec:∀v w',HF P ops (oe (bit m) i) T (lQ e o.dst v)->rec (lQ e o.dst v) w'->WS P ops Q (ST P ops T) f (oe (bit m) i) (lQ e o.dst v) w') :
  GQ P ops o (λO w'=>(w'=w\/ST P ops T i w')/\WS P ops Q (ST P ops T) f (oe (bit m) i) O w') e w:=by
 refine gj.mono λv w' hh=>?_
 obtain⟨I,Dh⟩:=hh
 have W:=E.next hL ho hun v
 refine⟨?_,?_⟩
 .rcases I with hw|I
  .grind
  refine .inr λx B=>?_
  cases OI:x.X.reads with
  | false=>exact .inr λhb=>E.still x B OI hb w'
  | true=>
   have h1:=Cs x.idx x.o (E.op x B)
   simp only[zY,uw]at h1
   rcases h1 with h1|h1|h1|h1
   .have:=E.listed x B;grind
   .have:=E.kind x B;grind
   .have U:i<ops.length:=(l0.1 ho).1
    exact .inl (Lq hc (i+1) i cW U _ h1)
   .have O2:=Dg.1 h1
    have h2:=O1 x.idx O2
    rw[E.op x B]at h2
    simp only[oG]at h2
    obtain⟨V,h2⟩:=h2
    have h2:=qG h2
    have Vs:x.idx<ops.length:=(l0.1 (E.op x B)).1
    obtain⟨e1,e2,d,hd,e3⟩:=W.reads x B OI (λk z hz HC=>by
     have:=h2 k z hz
     simp only[ve,zY]at this
     rcases this with h3|h3|h3
     .simp_all
     .exact .inl (Lq hc (x.idx+1) x.idx cW Vs _ h3)
     grind) V
    refine .inr λhb=>?_
    have M:=I x.o (List.mem_map.2 ⟨x.idx,O2,by simp[zM,E.op x B]⟩)
    unfold xB at M
    rw[e2,hb,e1,hd]at M
    simp only[cond_true]at M
    cases hX:x.X<;>rw[hX]at M OI<;>first|grind|cases OI|skip
    have:=M.ass
    rw[e3 hb]at this
    exact this
 grind
theorem afE{P:Program}{ops:List Oper}{cls:List Nat}{Q:Env->jj}(hc:Lp ops cls=true) :
  ∀(p:PT) (f m:Nat) (T:List Tk) (e:Env) (w:World),
   Down ops (bit m)->HF P ops (bit m) T e->DQ P ops p Q e w->
   (Vq P ops cls false f m p=true->WS P ops Q (ST P ops T) f (bit m) e w)/\
   (Vq P ops cls true f m p=true->∀j∈p.ids,∃f',f=f'+1/\SA ops (bit m) j/\∀V,ops[j]?=some V->GQ P ops V (λe' w'=>(w'=w\/ST P ops T j w')/\WS P ops Q (ST P ops T) f' (oe (bit m) j) e' w') e w):=by
 intro p
 induction p with
 | nil=>
  intro f m T e w W hT h
  refine⟨λB=>?_,λ_ j J=>by cases J⟩
  simp only[Vq,Yq,L1,oG]at B
  have r9:=qG B.2
  rw[P7 B.1]
  refine⟨λi hr=>?_,h⟩
  obtain⟨h0,o,M,_⟩:=hr
  grind
 | stop=>
  intro f m T e w W hT h
  exact⟨λB=>by simp[Vq]at B,λ_ j J=>by cases J⟩
 | op i ks p ih=>
  intro f m T e w W hT h
  refine⟨λB=>?_,λ_ j J=>by cases J⟩
  simp only[Vq,Yq,L1]at B
  cases f with
  | zero=>cases B
  | succ f=>
   simp only[oG]at B
   obtain⟨I,B⟩:=B
   unfold Z4 at I
   cases M:ops[i]? with
   | none=>rw[M]at I;cases I
   | some o=>
   rw[M]at I
   simp only[oG,uw,Im]at I
   obtain⟨U,amD,I⟩:=I
   have hr:SA ops (bit m) i:=⟨U,o,M,amD⟩
   have gG:zM ops i=o:=by simp[zM,M]
   have gj:GQ P ops (zM ops i) (λe' w'=>(w'=w\/∀r∈ks.map (zM ops),xB P ops r e' w' True)/\DQ P ops p Q e' w') e w:=h
   rw[gG]at gj
   have KG:(bit (PN m (LU 1 i)))=oe (bit m) i:=Vr
   have hL':Down ops (oe (bit m) i):=W.set hr
   cases hq:SD P o with
   | true=>
    rw[hq]at I
    simp only[cond_true]at I
    have Vm:=qG I
    have hqq:∀ρ,(De P o ρ).quiet=true:=λρ=>by rw[(OY ρ λ_=>undef).1];exact hq
    obtain⟨b,v,hb,hn,hy,Dh⟩:∃b v,q9 ops o e=b/\(b=false->v=undef)/\(b=true->(De P o (ev e)).has P w v)/\
      DQ P ops p Q (lQ e o.dst v) w:=by
     unfold GQ at gj
     cases hb:q9 ops o e with
     | true=>
      rw[fV hb]at gj
      obtain⟨v,hv,_,Dh⟩:=gj.has (hqq _)
      exact⟨true,v,rfl,eU,λ_=>hv,Dh⟩
     | false=>
      rw[fU (by rw[hb];simp)]at gj
      obtain⟨_,Dh⟩:=gj
      exact⟨false,undef,rfl,λ_=>rfl,eU,Dh⟩
    refine WS.first (X:=De P o (ev e)) M hn f (bit m) e w W hr ?_ rfl hb hy ?_
    .intro j V Vn hji aBr gG
     have:=Vm j V Vn
     simp only[ve,zY]at this
     rcases this with h1|h1|h1|h1
     .exact absurd (P7 h1) hji
     .rw[aBr]at h1;cases h1
     .exact absurd (Dg.1 h1) gG
     .exact OZ h1
    .have hT':HF P ops (oe (bit m) i) (⟨i,o,b,De P o (ev e),v⟩::T) (lQ e o.dst v):=by
      have O:=hT.next W M U v
      constructor
      .intro x E;rcases zZ.1 E with rfl|E
       .exact M
       .exact O.op x E
      .intro x E;rcases zZ.1 E with rfl|E
       .exact XR _ _
       .exact O.listed x E
      .intro x E;rcases zZ.1 E with rfl|E
       .exact(OY _ _).2
       .exact O.kind x E
      .intro x E;rcases zZ.1 E with rfl|E
       .intro h1 h2 w';exact HA.XO h1 (hy h2)
       .exact O.still x E
      .intro x E;rcases zZ.1 E with rfl|E
       .intro h1 h2 h3
        obtain⟨d,hd,hnl⟩:=SF h3
        dsimp only at hd hnl |-
        have hh:∀k,o.dst=some k->k ∉ looks ops o:=λk hk=>by rw[hd]at hk;cases hk;exact hnl
        refine⟨GP hh,by rw[Bf hh];exact hb,d,hd,λ_=>?_⟩
        rw[hd];exact pE _ _ _
       .exact O.reads x E
     have:=(ih f _ _ _ w (by rw[KG];exact hL') (by rw[KG];exact hT') Dh).1 B
     rw[KG]at this
     refine WS.weaken (λj w' J=>?_) _ _ _ _ this
     exact⟨λx E=>J x (s8 _ E),J _ uc⟩
   | false=>
    rw[hq]at I
    simp only[cond_false,oG,Im]at I
    obtain⟨Z6,Cs,O1⟩:=I
    have Z6:=qG Z6
    have Cs:=qG Cs
    refine⟨λgG=>absurd hr (gG i),λj V Vn J=>?_⟩
    have hji:j=i:=by
     have:=Z6 j V Vn
     simp only[ve,zY,uw]at this
     rcases this with h1|h1|h1
     .simp_all
     .have:=J.1;grind
     .obtain⟨_,o',ho',r9⟩:=J
      grind
    subst hji
    rw[M]at Vn;cases Vn
    refine O0 hc M U W hT (λr y hy=>eS) O1 gj λv w' O Dh=>?_
    grind
 | alt i ks p o' ih ih2=>
  intro f m T e w W hT h
  obtain⟨h1,h2⟩:GQ P ops (zM ops i) (λe' w'=>(w'=w\/∀r∈ks.map (zM ops),xB P ops r e' w' True)/\DQ P ops p Q e' w') e w/\DQ P ops o' Q e w:=h
  have chain:∀c,Vq P ops cls c f m (.alt i ks p o')=true->∀j∈i::o'.ids,∃f',f=f'+1/\SA ops (bit m) j/\∀V,ops[j]?=some V->GQ P ops V (λe' w'=>(w'=w\/ST P ops T j w')/\WS P ops Q (ST P ops T) f' (oe (bit m) j) e' w') e w:=by
   intro c B
   simp only[Vq,oG]at B
   obtain⟨_,B,hp2⟩:=B
   cases f with
   | zero=>cases B
   | succ f=>
    simp only[oG]at B
    obtain⟨I,B⟩:=B
    intro j J
    rcases zZ.1 J with rfl|J
    .unfold ajU at I
     cases M:ops[j]? with
     | none=>rw[M]at I;cases I
     | some o=>
      rw[M]at I
      simp only[oG,uw,Im]at I
      obtain⟨U,amD,_,Cs,O1⟩:=I
      have hr:SA ops (bit m) j:=⟨U,o,M,amD⟩
      refine⟨f,rfl,hr,λV Vn=>?_⟩
      cases Vn
      have Cs:=qG Cs
      have gG:zM ops j=o:=by simp[zM,M]
      rw[gG]at h1
      have gj:=h1
      have KG:(bit (PN m (LU 1 j)))=oe (bit m) j:=Vr
      have hL':Down ops (oe (bit m) j):=W.set hr
      refine O0 hc M U W hT (λr y hy=>eS) O1 gj λv w' O Dh=>?_
      grind
    .exact(ih2 (f+1) m T e w W hT h2).2 hp2 j J
  refine⟨λB=>?_,λB=>chain true B⟩
  have hch:=chain false B
  simp only[Vq,Bool.false_or,oG]at B
  have aBt:=qG B.1
  obtain⟨f',rfl,hri,_⟩:=hch i uc
  refine⟨λgG=>absurd hri (gG i),λj V Vn J=>?_⟩
  have O2:j∈i::o'.ids:=by
   have:=aBt j V Vn
   simp only[ve,zY,uw]at this
   rcases this with h3|h3|h3
   .have:=J.1;grind
   .obtain⟨_,o2,ZM,r9⟩:=J
    grind
   .exact Dg.1 h3
  obtain⟨f2,hf,_,gj⟩:=hch j O2
  simp_all
structure ue(F:(jj)->Prop)(G:jj):Prop where
 ex:∃I:jj,F I/\∀w,I w->G w
structure Vt(B:(jj)->jj)(F:(jj)->Prop):Prop where
 ex:∃I:Nat->jj,(∃m,F (I m))/\∀m w,I m w->B (λw'=>∃m',m'<m/\I m' w') w
structure cQ(F:(Value->jj)->Prop)(G:Value->jj):Prop where
 ex:∃I:Value->jj,F I/\∀x0 w,I x0 w->G x0 w
structure iT(B:(Value->jj)->Value->jj)(F:(Value->jj)->Prop):Prop where
 ex:∃I:Nat->Value->jj,(∃m,F (I m))/\∀m x0 w,I m x0 w->B (λy0 w'=>∃m',m'<m/\I m' y0 w') x0 w
structure Lt(F:(Value->Value->jj)->Prop)(G:Value->Value->jj):Prop where
 ex:∃I:Value->Value->jj,F I/\∀x0 x1 w,I x0 x1 w->G x0 x1 w
structure nc(B:(Value->Value->jj)->Value->Value->jj)(F:(Value->Value->jj)->Prop):Prop where
 ex:∃I:Nat->Value->Value->jj,(∃m,F (I m))/\∀m x0 x1 w,I m x0 x1 w->B (λy0 y1 w'=>∃m',m'<m/\I m' y0 y1 w') x0 x1 w
structure asz(F:(Value->Value->Value->jj)->Prop)(G:Value->Value->Value->jj):Prop where
 ex:∃I:Value->Value->Value->jj,F I/\∀x0 x1 x2 w,I x0 x1 x2 w->G x0 x1 x2 w
structure O3(B:(Value->Value->Value->jj)->Value->Value->Value->jj)(F:(Value->Value->Value->jj)->Prop):Prop where
 ex:∃I:Nat->Value->Value->Value->jj,(∃m,F (I m))/\∀m x0 x1 x2 w,I m x0 x1 x2 w->B (λy0 y1 y2 w'=>∃m',m'<m/\I m' y0 y1 y2 w') x0 x1 x2 w
structure asA(F:(Value->Value->Value->Value->jj)->Prop)(G:Value->Value->Value->Value->jj):Prop where
 ex:∃I:Value->Value->Value->Value->jj,F I/\∀x0 x1 x2 x3 w,I x0 x1 x2 x3 w->G x0 x1 x2 x3 w
structure asB(B:(Value->Value->Value->Value->jj)->Value->Value->Value->Value->jj)(F:(Value->Value->Value->Value->jj)->Prop):Prop where
 ex:∃I:Nat->Value->Value->Value->Value->jj,(∃m,F (I m))/\∀m x0 x1 x2 x3 w,I m x0 x1 x2 x3 w->B (λy0 y1 y2 y3 w'=>∃m',m'<m/\I m' y0 y1 y2 y3 w') x0 x1 x2 x3 w
structure asC(F:(Value->Value->Value->Value->Value->jj)->Prop)(G:Value->Value->Value->Value->Value->jj):Prop where
 ex:∃I:Value->Value->Value->Value->Value->jj,F I/\∀x0 x1 x2 x3 x4 w,I x0 x1 x2 x3 x4 w->G x0 x1 x2 x3 x4 w
structure asD(B:(Value->Value->Value->Value->Value->jj)->Value->Value->Value->Value->Value->jj)(F:(Value->Value->Value->Value->Value->jj)->Prop):Prop where
 ex:∃I:Nat->Value->Value->Value->Value->Value->jj,(∃m,F (I m))/\∀m x0 x1 x2 x3 x4 w,I m x0 x1 x2 x3 x4 w->B (λy0 y1 y2 y3 y4 w'=>∃m',m'<m/\I m' y0 y1 y2 y3 y4 w') x0 x1 x2 x3 x4 w
def ES(i:Nat):List (Nat×Value)->Value->Value
 | [],d=>d
 | q::r,d=>bif EZ q.1 i then q.2 else ES i r d
def KH(e:Env)(M:Nat)(B:List (Nat×Value))(dead:Env):Env:=λi=>bif bit M i then ES i B (dead i)else e i
def Di(l:List Nat)(F:(Env->jj)->Prop)(G:List (Nat×Value)->jj):Prop:=
 match l with
 | []=>ue (λK=>F λe w=>K w) (λw=>G [] w)
 | [a0]=>cQ (λK=>F λe w=>K (e a0) w) (λB w=>G [(a0,B)] w)
 | [a0,a1]=>Lt (λK=>F λe w=>K (e a0) (e a1) w) (λB I w=>G [(a0,B),(a1,I)] w)
 | [a0,a1,E]=>asz (λK=>F λe w=>K (e a0) (e a1) (e E) w) (λB I J w=>G [(a0,B),(a1,I),(E,J)] w)
 | [a0,a1,E,M]=>asA (λK=>F λe w=>K (e a0) (e a1) (e E) (e M) w) (λB I J O w=>G [(a0,B),(a1,I),(E,J),(M,O)] w)
 | [a0,a1,E,M,U]=>asC (λK=>F λe w=>K (e a0) (e a1) (e E) (e M) (e U) w) (λB I J O V w=>G [(a0,B),(a1,I),(E,J),(M,O),(U,V)] w)
 | _=>False
def Dj(l:List Nat)(B:(Env->jj)->List (Nat×Value)->jj)(e:Env)(w:World):Prop:=
 match l with
 | []=>Vt (λK w=>B (λE w'=>K w') [] w) (λK=>K w)
 | [a0]=>iT (λK J w=>B (λE w'=>K (E a0) w') [(a0,J)] w) (λK=>K (e a0) w)
 | [a0,a1]=>nc (λK J M w=>B (λE w'=>K (E a0) (E a1) w') [(a0,J),(a1,M)] w) (λK=>K (e a0) (e a1) w)
 | [a0,a1,I]=>O3 (λK J M U w=>B (λE w'=>K (E a0) (E a1) (E I) w') [(a0,J),(a1,M),(I,U)] w) (λK=>K (e a0) (e a1) (e I) w)
 | [a0,a1,I,O]=>asB (λK J M U W w=>B (λE w'=>K (E a0) (E a1) (E I) (E O) w') [(a0,J),(a1,M),(I,U),(O,W)] w) (λK=>K (e a0) (e a1) (e I) (e O) w)
 | [a0,a1,I,O,V]=>asD (λK J M U W x4 w=>B (λE w'=>K (E a0) (E a1) (E I) (E O) (E V) w') [(a0,J),(a1,M),(I,U),(O,W),(V,x4)] w) (λK=>K (e a0) (e a1) (e I) (e O) (e V) w)
 | _=>False
def lB(l:List Nat)(e:Env):List (Nat×Value):=l.map λa=>(a,e a)
def Di.spec{l:List Nat}{F:(Env->jj)->Prop}{G:List (Nat×Value)->jj}(h:Di l F G) :
  ∃I:List (Nat×Value)->jj,F (λe w=>I (lB l e) w)/\∀(e:Env) w,I (lB l e) w->G (lB l e) w:=by
 unfold Di at h
 split at h
 .obtain⟨I,h1,h2⟩:=h.ex
  exact⟨λ_ w=>I w,h1,λ_ w B=>h2 w B⟩
 .obtain⟨I,h1,h2⟩:=h.ex
  exact⟨λq w=>match q with|[E]=>I E.2 w|_=>False,h1,λe w B=>h2 _ w B⟩
 .obtain⟨I,h1,h2⟩:=h.ex
  exact⟨λq w=>match q with|[E,J]=>I E.2 J.2 w|_=>False,h1,λe w B=>h2 _ _ w B⟩
 .obtain⟨I,h1,h2⟩:=h.ex
  exact⟨λq w=>match q with|[E,J,M]=>I E.2 J.2 M.2 w|_=>False,h1,λe w B=>h2 _ _ _ w B⟩
 .obtain⟨I,h1,h2⟩:=h.ex
  exact⟨λq w=>match q with|[E,J,M,O]=>I E.2 J.2 M.2 O.2 w|_=>False,h1,λe w B=>h2 _ _ _ _ w B⟩
 .obtain⟨I,h1,h2⟩:=h.ex
  exact⟨λq w=>match q with|[E,J,M,O,U]=>I E.2 J.2 M.2 O.2 U.2 w|_=>False,h1,λe w B=>h2 _ _ _ _ _ w B⟩
 grind
def Dj.spec{l:List Nat}{B:(Env->jj)->List (Nat×Value)->jj}{e:Env}{w:World}(h:Dj l B e w) :
  ∃I:Nat->List (Nat×Value)->jj,(∃m,I m (lB l e) w)/\
   ∀m e w,I m (lB l e) w->B (λW w'=>∃V,V<m/\I V (lB l W) w') (lB l e) w:=by
 unfold Dj at h
 split at h
 .obtain⟨I,⟨m,h1⟩,h2⟩:=h.ex
  exact⟨λm _ w=>I m w,⟨m,h1⟩,λm _ w E=>h2 m w E⟩
 .obtain⟨I,⟨m,h1⟩,h2⟩:=h.ex
  exact⟨λm q w=>match q with|[J]=>I m J.2 w|_=>False,⟨m,h1⟩,λm e w E=>h2 m _ w E⟩
 .obtain⟨I,⟨m,h1⟩,h2⟩:=h.ex
  exact⟨λm q w=>match q with|[J,M]=>I m J.2 M.2 w|_=>False,⟨m,h1⟩,λm e w E=>h2 m _ _ w E⟩
 .obtain⟨I,⟨m,h1⟩,h2⟩:=h.ex
  exact⟨λm q w=>match q with|[J,M,O]=>I m J.2 M.2 O.2 w|_=>False,⟨m,h1⟩,λm e w E=>h2 m _ _ _ w E⟩
 .obtain⟨I,⟨m,h1⟩,h2⟩:=h.ex
  exact⟨λm q w=>match q with|[J,M,O,U]=>I m J.2 M.2 O.2 U.2 w|_=>False,⟨m,h1⟩,λm e w E=>h2 m _ _ _ _ w E⟩
 .obtain⟨I,⟨m,h1⟩,h2⟩:=h.ex
  exact⟨λm q w=>match q with|[J,M,O,U,x4]=>I m J.2 M.2 O.2 U.2 x4.2 w|_=>False,⟨m,h1⟩,λm e w E=>h2 m _ _ _ _ _ w E⟩
 grind
def Z7(m d:Nat):Nat:=PN m (LU 1 d)
def asE(m d:Nat):Nat:=bif bit m d then Nat.sub m (LU 1 d)else m
def Ct:List Nat->Nat
 | []=>0
 | d::r=>Z7 (Ct r) d
def zX:List Operand->Nat->Nat
 | [],m=>m
 | .tmp t::r,m=>Z7 (zX r m) t
 | _::r,m=>zX r m
def lkX(id:Nat):List (Nat×Nat)->Nat
 | []=>0
 | q::r=>bif EZ q.1 id then q.2 else lkX id r
def Z8:List Oper->Nat->Nat
 | [],B=>B
 | o::r,B=>zX o.op.operands.toList (match o.dst with|some d=>asE (Z8 r B) d|none=>Z8 r B)
def asF:List Nat->Nat->Nat
 | [],m=>m
 | d::r,m=>asF r (asE m d)
def li(E:Nat):Code->List (Nat×Nat)->Nat->Nat
 | .skip,_,B=>B
 | .ret,_,_=>E
 | .exit id,X,_=>lkX id X
 | .region _ ops _,_,B=>Z8 ops.toList B
 | .seq a b,X,B=>li E a X (li E b X B)
 | .cond c a b,X,B=>zX [c] (PN (li E a X B) (li E b X B))
 | .block id c,X,B=>li E c ((id,B)::X) B
 | .loop c,X,_=>li E c X (li E c X 0)
 | .rangeFunc g ps a b,X,B=>zX [g] (PN B (asF ps.toList (li E a X (li E b X B))))
 | _,_,_=>0
def gR:Code->Bool
 | .seq a b=>gR a||gR b
 | .cond _ a b=>gR a||gR b
 | .block _ c=>gR c
 | .loop c=>gR c
 | .rangeFunc _ _ _ _=>true
 | _=>false
def ki:Code->Nat
 | .region _ ops _=>Ct (wr ops.toList)
 | .seq a b=>PN (ki a) (ki b)
 | .cond _ a b=>PN (ki a) (ki b)
 | .block _ c=>ki c
 | .loop c=>ki c
 | _=>0
def guarded:List Oper->Bool
 | []=>false
 | o::r=>o.guard.isSome||guarded r
def afF(a b:Nat):Nat:=Nat.add a b
mutual
def exC(id:Nat):Code->Nat
 | .exit k=>bif EZ k id then 1 else 0
 | .seq a b=>bif EZ (nxC a) 0 then exC id a else afF (exC id a) (exC id b)
 | .cond _ a b=>afF (exC id a) (exC id b)
 | .block _ c=>exC id c
 | .loop c=>exC id c
 | .rangeFunc _ _ _ b=>exC id b
 | _=>0
def nxC:Code->Nat
 | .skip=>1
 | .region _ ops _=>bif guarded ops.toList then 2 else 1
 | .seq a b=>bif EZ (nxC a) 0 then 0 else nxC b
 | .cond _ a b=>afF (nxC a) (nxC b)
 | .block id c=>afF (nxC c) (exC id c)
 | .rangeFunc _ _ _ _=>1
 | _=>0
end
def iG(m:Nat):Nat->Nat->List Nat
 | 0,_=>[]
 | f+1,i=>bif bit m i then i::iG m f (i+1)else iG m f (i+1)
abbrev Gz:=Exit->List Nat->Env->jj
def wA(K:List Nat->Env->jj)(Q:Gz):Gz
 | .normal,B,e,w=>K B e w
 | x,B,e,w=>Q x B e w
def Z9(id:Nat)(Q:Gz):Gz
 | .exit k,B,e,w=>bif EZ k id then Q .normal B e w else Q (.exit k) B e w
 | x,B,e,w=>Q x B e w
def aaa(K:Option Code->jj):Gz
 | .normal,_,_,w=>K none w
 | .ret,_,_,w=>K (some .ret) w
 | .exit id,_,_,w=>K (some (.exit id)) w
 | _,_,_,_=>False
def aft(N R:Nat->jj)(X:Nat->Nat->jj):Option Code->Nat->jj
 | none=>N
 | some .ret=>R
 | some (.exit id)=>X id
 | _=>λ_ _=>False
def outs:List Nat->Code->Bool
 | l,.exit id=>!(l.any λk=>EZ k id)
 | l,.seq a b=>outs l a||outs l b
 | l,.cond _ a b=>outs l a||outs l b
 | l,.block id c=>outs (id::l) c
 | l,.loop c=>outs l c
 | _,_=>false
def XU:List Value->Nat->Value
 | [],_=>undef
 | v::_,0=>v
 | _::r,k+1=>XU r k
def Lu(args:List Value):List Nat->Nat->Env->Env
 | [],_,e=>e
 | p::r,k,e=>Lu args r (k+1) (C9 e p (XU args k))
def pb(B:List Nat):Value:=.tuple (B.map fun (D:Nat)=>qs .u64 (D:Int)).toArray
def amE:Value->Nat
 | .int _ n=>n.toNat
 | _=>0
def O4:Value->List Nat
 | .tuple vs=>vs.toList.map amE
 | _=>[]
def Lv(B:List Nat):O4 (pb B)=B:=by
 show(B.map fun (D:Nat)=>qs .u64 (D:Int)).map amE=B
 rw[List.map_map]
 conv=>rhs;rw[<- List.map_id B]
 exact H3 λD _=>by simp[amE]
structure GS(P:Program)(fv:Value)(np:Nat)(w:World)(round:List Value->World->(World->(jj)->Prop)->(Option Code->jj)->Prop)(after:Option Code->Nat->jj):Prop where
 ex:∃gf cap,fv=.func (.func gf) #[] cap/\Plain P gf/\∀L0:Loop,L0.state=.ready->L0.pending=none->
  (∀(args:List Value) (W:World) (K:Value->jj),args.length=np->W.heap[w.heap.size+1]?=some (.loop L0)->
   round args W (λw1 k=>w1.heap[w.heap.size+1]?=some (.loop L0)/\k (w1.putObj (w.heap.size+1) (.loop {L0 with state:=.busy})))
    (λj W'=>W'.heap[w.heap.size+1]?=some (.loop {L0 with state:=.busy})/\K (.bool j.isNone) (W'.putObj (w.heap.size+1) (.loop {L0 with state:=if j.isNone then .ready else .done,pending:=j})))->
   YieldAt (FO none) 0 P (w.heap.size+1) args.toArray W (qZ K))->
  Calls P gf (#[.func (.yield (w.heap.size+1)) #[] #[]]++cap) ((w.alloc (.deferred (some []))).alloc (.loop L0))
   (qZ λ_ W2=>∃st j,st≠.busy/\W2.heap[w.heap.size+1]?=some (.loop {L0 with state:=st,pending:=j})/\after j w.heap.size (W2.putObj (w.heap.size+1) (.loop {L0 with state:=.exhausted,pending:=j})))
abbrev dG:=Nat->PT
def O5(pl:dG):Code->Bool
 | .region id _ true=>(pl id).many
 | .block _ c=>O5 pl c
 | .seq a b=>O5 pl a||O5 pl b
 | .cond _ a b=>O5 pl a||O5 pl b
 | _=>false
def drew(w:World):World:={w with drawn:=w.drawn+1}
def D(P:Program)(n:Nat)(pl:dG)(I:Nat):Code->List (Nat×Nat)->Nat->Gz->List Nat->Env->jj
 | .skip,_,_,Q,E,e,w=>Q .normal E e w
 | .ret,_,_,Q,E,e,w=>Q .ret E e w
 | .exit id,_,_,Q,E,e,w=>Q (.exit id) E e w
 | .region _ ops false,_,_,Q,E,e,w=>DR P n ops.toList (ops.toList.map λo=>(o,[])) (Q .normal E) [] e w
 | .region id ops true,_,_,Q,E,e,w=>
  bif ops.toList.all (HE n)&&(Lp ops.toList (Ls ops.toList)&&Vq P ops.toList (Ls ops.toList) false ops.toList.length 0 (pl id))then
   DT P n ops.toList (pl id) (Q .normal E) [] e (drew w)
  else False
 | .seq a b,X,J,Q,E,e,w=>
  bif UU (nxC a) 1&&!O5 pl a then D P n pl I a X (li I b X J) (wA (D P n pl I b X J Q) Q) E e w
  else bif gR a then Di (n::iG (KX (ki a) (li I b X J)) n 0)
   (λK=>D P n pl I a X (li I b X J) (wA (λE e w=>K (C9 e n (pb E)) w) Q) E e w)
   (λM w'=>∀dead,D P n pl I b X J Q (O4 (ES n M undef)) (KH e (ki a) M.tail dead) w')
  else Di (iG (KX (ki a) (li I b X J)) n 0)
   (λK=>D P n pl I a X (li I b X J) (wA (λ_ e w=>K e w) Q) E e w)
   (λM w'=>∀dead,D P n pl I b X J Q E (KH e (ki a) M dead) w')
 | .cond c a b,X,J,Q,E,e,w=>B5 (ev e c) (D P n pl I a X J Q E e w) (D P n pl I b X J Q E e w)
 | .block id c,X,J,Q,E,e,w=>D P n pl I c ((id,J)::X) J (Z9 id Q) E e w
 | .loop c,X,_,Q,E,e,w=>
  bif gR c then Dj (n::iG (KX (ki c) (li I c X (li I c X 0))) n 0)
   (λK M w=>∀dead,D P n pl I c X (li I c X (li I c X 0)) (wA (λE e w=>K (C9 e n (pb E)) w) Q) (O4 (ES n M undef)) (KH e (ki c) M.tail dead) w) (C9 e n (pb E)) w
  else Dj (iG (KX (ki c) (li I c X (li I c X 0))) n 0)
   (λK M w=>∀dead,D P n pl I c X (li I c X (li I c X 0)) (wA (λ_ e w=>K e w) Q) E (KH e (ki c) M dead) w) e w
 | .rangeFunc g ps O U,_,_,Q,E,e,w=>
  bif ps.toList.all (λp=>acd p n)&&(!gR O&&!gR U)then
   GS P (ev e g) ps.toList.length w
    (λargs W B K=>D P n pl 0 O [] (li 0 U [] 0) (wA (λV e1 w1=>B w1 λw2=>D P n pl 0 U [] 0 (aaa K) V e1 w2) λ_ _ _ _=>False) [] (Lu args ps.toList 0 e) W)
    (aft (λD w=>Q .normal (D::E) e w) (λD w=>Q .ret (D::E) e w) (bif outs [] U then(λid D w=>Q (.exit id) (D::E) e w) elseλ_ _ _=>False))
  else False
 | _,_,_,_,_,_,_=>False
theorem aab{m d i:Nat}:bit (Z7 m d) i=(bit m i||decide (i=d)):=by
 show(m ||| 1 <<< d).testBit i=_
 rw[Yo,T6,R1]
 unfold bit
 grind
theorem SG{l:List Nat}{i:Nat}:bit (Ct l) i=true↔i∈l:=by
 induction l with
 | nil=>simp[Ct,bit]
 | cons d r B=>simp only[Ct,aab,zY,B,decide_eq_true_eq,zZ];grind
theorem SH{l:List Nat}{e:Env}{i:Nat}:ES i (lB l e) (e i)=e i:=by
 induction l with
 | nil=>rfl
 | cons a r B=>
  show(bif EZ a i then e a else ES i (lB r e) (e i))=e i
  by_cases h:a=i
  .grind
  .rw[EV h];exact B
theorem Bh{e B:Env}{M:Nat}{l:List Nat}(h:∀i,bit M i=false->B i=e i):KH e M (lB l B) B=B:=by
 funext i
 unfold KH
 cases hb:bit M i with
 | true=>simp only[cond_true];exact SH
 | false=>grind
theorem O6{m:Nat}:∀(f i k:Nat),k∈iG m f i->k<i+f:=by
 intro f
 induction f with
 | zero=>intro i k h;cases h
 | succ f B=>
  grind[iG]
theorem SI{l:List Nat}{n:Nat}{v:Value}{e:Env}(h:∀k∈l,k<n):lB l (C9 e n v)=lB l e:=
 H3 λk B=>by rw[q8 _ _ (Nat.ne_of_lt (h k B))]
theorem Lw{l:List Nat}{n:Nat}{B:List Nat}{e:Env}(h:∀k∈l,k<n):lB (n::l) (C9 e n (pb B))=(n,pb B)::lB l e:=by
 show(n,C9 e n (pb B) n)::lB l (C9 e n (pb B))=_
 rw[pE,SI h]
theorem Vu{m n:Nat}:∀k∈iG m n 0,k<n:=λk B=>by have:=O6 n 0 k B;omega
def xC(n:Nat)(M:Nat)(b:Bool)(J:List Nat)(e:Env)(Q:Gz):Exit->Act->jj:=
 λx I w'=>∃E B,lh E n B I/\(∀i,bit M i=false->B i=e i)/\(b=false->E=J)/\Q x E B w'
theorem least{p:Nat->Prop}(h:∃m,p m):∃m,p m/\∀k,p k->m<=k:=by
 obtain⟨m,B⟩:=h
 induction m using Nat.strongRecOn with
 | _ m E=>
  grind
theorem MU{n:Nat}{args:List Value}:∀(ps:List Nat) (k:Nat) (e:Env) (a:Act),(∀p∈ps,p<n)->lh [] n e a->k+ps.length<=args.length->
  lh [] n (Lu args ps k e) {a with tmps:=(ps.zip (args.drop k)).foldl (λt (q:Nat×Value)=>t.setIfInBounds q.1 q.2) a.tmps}:=by
 intro ps
 induction ps with
 | nil=>simp_all[Env,Lu]
 | cons p ps I=>
  intro k e a E J M
  have O:k<args.length:=eS
  have hd:args.drop k=XU args k::args.drop (k+1):=by
   rw[List.drop_eq_getElem_cons O]
   congr 1
   clear I J M E
   induction args generalizing k with
   | nil=>simp at O
   | cons v r B=>cases k with
    | zero=>rfl
    | succ k=>exact B k eS
  rw[hd]
  have h1:=J.put (d:=some p) (λk M=>by simp_all) (XU args k)
  exact I (k+1) _ _ (λq U=>E q (s8 _ U)) h1 eS
theorem aac{P:Program}{n:Nat}{pl:dG}{g:Operand}{ps:Array Tmp}{E J:Code}
  (ihA:∀(r:Option Nat) (rl:Nat) (X:List (Nat×Nat)) (lo:Nat) (Q:Gz) (I:List Nat) (e:Env) (a:Act) (w:World),
   (r=none\/gR E=false)->lh I n e a->D P n pl rl E X lo Q I e w->E.wpIn (FO r) 0 P (xC n (ki E) (gR E) I e Q) a w)
  (ihB:∀(r:Option Nat) (rl:Nat) (X:List (Nat×Nat)) (lo:Nat) (Q:Gz) (I:List Nat) (e:Env) (a:Act) (w:World),
   (r=none\/gR J=false)->lh I n e a->D P n pl rl J X lo Q I e w->J.wpIn (FO r) 0 P (xC n (ki J) (gR J) I e Q) a w)
  (rl:Nat) (X:List (Nat×Nat)) (lo:Nat) (Q:Gz) (I:List Nat) (e:Env) (a:Act) (w:World) (ha:lh I n e a) (h:D P n pl rl (.rangeFunc g ps E J) X lo Q I e w) :
  (Code.rangeFunc g ps E J).wpIn (FO none) 0 P (xC n 0 true I e Q) a w:=by
 have h':(bif ps.toList.all (λp=>acd p n)&&(!gR E&&!gR J)then
  GS P (ev e g) ps.toList.length w
   (λargs W B K=>D P n pl 0 E [] (li 0 J [] 0) (wA (λV e1 w1=>B w1 λw2=>D P n pl 0 J [] 0 (aaa K) V e1 w2) λ_ _ _ _=>False) [] (Lu args ps.toList 0 e) W)
   (aft (λD w=>Q .normal (D::I) e w) (λD w=>Q .ret (D::I) e w) (bif outs [] J then(λid D w=>Q (.exit id) (D::I) e w) elseλ_ _ _=>False))
  else False):=h
 cases hc:(ps.toList.all (λp=>acd p n)&&(!gR E&&!gR J))with
 | false=>grind
 | true=>
  rw[hc]at h'
  simp only[cond_true]at h'
  simp only[oG,uw]at hc
  obtain⟨hps,hA,hB⟩:=hc
  have aBy:∀p∈ps.toList,p<n:=λp hp=>Nat.blt_eq▸Im.1 hps p hp
  obtain⟨gf,cap,hfv,uf,BT⟩:=h'.ex
  refine wpIn_rangeFunc λfn _=>?_
  let L0:Loop:={state:=.ready,pending:=none,fn,tmps:=a.tmps,params:=ps,assign:=E,body:=J,defers:=w.heap.size}
  have hY:=BT L0 rfl rfl (λargs W K hlen hl SJ=>?_)
  .have hC:=hY.mono (R':=rangePost (FO none) 0 P (w.heap.size+1) (xC n 0 true I e Q) {a with defers:=[{target:=.collected w.heap.size,args:=#[]}]++a.defers}) (λx w3 hx=>?_)
   .have hC1:=(Cq (r:=none) (n:=0)).2 hC
    refine⟨w.heap.size+1,[{target:=.collected w.heap.size,args:=#[]}],(w.alloc (.deferred (some []))).alloc (.loop L0),
     {target:=.fn (.func gf) cap,args:=#[.func (.yield (w.heap.size+1)) #[] #[]]},(w.alloc (.deferred (some []))).alloc (.loop L0),gf,#[.func (.yield (w.heap.size+1)) #[] #[]]++cap,
     (w.alloc (.deferred (some []))).alloc (.loop L0),run_enterLoop_outer ..,?_,λ_ _=>trivial,?_,Hy,?_⟩
    rotate_left 2
    .exact hC1
    .have hg:a.eval g=.func (.func gf) #[] cap:=by rw[ha.eval];exact hfv
     simp only[resolve,hg]
     simp[go_sem]
    .show(callFunc gf (#[.func (.yield (w.heap.size+1)) #[] #[]]++cap)).run P _=_
     exact Dd uf _ _
   ·
    obtain⟨v,rfl,st,j,gj,hl3,O⟩:=hx
    refine⟨j,_,run_endLoop hl3 cW,?_⟩
    have M:lh (w.heap.size::I) n e {a with defers:=[{target:=.collected w.heap.size,args:=#[]}]++a.defers}:=⟨by rw[ha.defers];rfl,ha.size,ha.get⟩
    cases j with
    | none=>exact⟨_,e,M,λ_ _=>rfl,λhh=>(by cases hh),O⟩
    | some c=>
     cases c with
     | ret=>exact wpIn_ret ⟨_,e,M,λ_ _=>rfl,λhh=>(by cases hh),O⟩
     | exit id=>
       have SC:(bif outs [] J then(λid D w=>Q (.exit id) (D::I) e w) elseλ_ _ _=>False:Nat->Nat->jj) id w.heap.size _:=O
       cases ho:outs [] J with
       | true=>rw[ho]at SC;exact wpIn_exit ⟨_,e,M,λ_ _=>rfl,λhh=>(by cases hh),SC⟩
       | false=>grind
     | _=>exact O.elim
  ·
   have pF:w.heap.size+1<W.heap.size:=(Array.getElem?_eq_some_iff.1 hl).1
   refine⟨fn,_,E,J,run_yield hl cW,roundIn_of_wpIn trivial ?_⟩
   have M:lh [] n (Lu args ps.toList 0 e) {tmps:=(ps.zip args.toArray).foldl (λt (q:Nat×Value)=>t.setIfInBounds q.1 q.2) a.tmps,defers:=[]}:=by
    have h0:lh [] n e {tmps:=a.tmps,defers:=[]}:=⟨rfl,ha.size,ha.get⟩
    have:=MU ps.toList 0 e _ aBy h0 (by simpa using Nat.le_of_eq hlen.symm)
    have e1:(ps.zip args.toArray).foldl (λt (q:Nat×Value)=>t.setIfInBounds q.1 q.2) a.tmps=(ps.toList.zip (args.drop 0)).foldl (λt (q:Nat×Value)=>t.setIfInBounds q.1 q.2) a.tmps:=by
     rw[<- Array.foldl_toList,Array.toList_zip];simp
    grind
   refine wpIn_mono (ihA (some (w.heap.size+1)) 0 [] _ _ [] _ _ W (.inr hA) M SJ) λx a1 w1 hp=>?_
   obtain⟨V,e1,ha1,_,hd1,U⟩:=hp
   cases x with
   | normal=>
    obtain⟨hl1,U⟩:=U
    refine⟨_,run_beginRound hl1 rfl,?_⟩
    refine wpIn_mono (ihB (some (w.heap.size+1)) 0 [] _ _ V e1 a1 _ (.inr hB) ha1 U) λx a2 w2 hp=>?_
    obtain⟨ds2,e2,ha2,_,_,U⟩:=hp
    cases x with
    | normal=>obtain⟨Kx,O⟩:=U;exact⟨_,_,run_endRound none Kx,_,rfl,O⟩
    | ret=>obtain⟨Kx,O⟩:=U;exact⟨_,_,run_endRound (some .ret) Kx,_,rfl,O⟩
    | exit id=>obtain⟨Kx,O⟩:=U;exact⟨_,_,run_endRound (some (.exit id)) Kx,_,rfl,O⟩
    | _=>exact U.elim
   | _=>exact U.elim
theorem afI{P:Program}{n:Nat}{pl:dG}(hm:P.follows .mixedOrders=true) :
  ∀(c:Code) (r:Option Nat) (B:Nat) (X:List (Nat×Nat)) (lo:Nat) (Q:Gz) (E:List Nat) (e:Env) (a:Act) (w:World),
   (r=none\/gR c=false)->lh E n e a->D P n pl B c X lo Q E e w->c.wpIn (FO r) 0 P (xC n (ki c) (gR c) E e Q) a w:=by
 intro c
 induction c with
 | skip=>intro r B X lo Q E e a w _ ha h;exact wpIn_skip ⟨E,e,ha,λ_ _=>rfl,λ_=>rfl,h⟩
 | ret=>intro r B X lo Q E e a w _ ha h;exact wpIn_ret ⟨E,e,ha,λ_ _=>rfl,λ_=>rfl,h⟩
 | exit id=>intro r B X lo Q E e a w _ ha h;exact wpIn_exit ⟨E,e,ha,λ_ _=>rfl,λ_=>rfl,h⟩
 | region id ops draw=>
  intro r B X lo Q E e a w _ ha h
  have hQ:∀(M:Env) (U:Act) (w':World),lh E n M U->(∀k,k ∉ wr ops.toList->M k=e k)->Q .normal E M w'->xC n (ki (.region id ops draw)) (gR (.region id ops draw)) E e Q .normal U w':=
   λM U w' MP hf hq=>by
    refine⟨E,M,MP,λi hi=>hf i λO2=>?_,λ_=>rfl,hq⟩
    have h1:bit (Ct (wr ops.toList)) i=true:=SG.2 O2
    have h2:bit (Ct (wr ops.toList)) i=false:=hi
    grind
  cases draw with
  | false=>
   have:=DR.region (r:=r) (id:=id) ha hQ (show DR P n ops.toList (ops.toList.map λo=>(o,[])) (Q .normal E) [] e w from h)
   omega
  | true=>
   have h':(bif ops.toList.all (HE n)&&(Lp ops.toList (Ls ops.toList)&&Vq P ops.toList (Ls ops.toList) false ops.toList.length 0 (pl id))then
    DT P n ops.toList (pl id) (Q .normal E) [] e (drew w)else False):=h
   cases hc:(ops.toList.all (HE n)&&(Lp ops.toList (Ls ops.toList)&&Vq P ops.toList (Ls ops.toList) false ops.toList.length 0 (pl id)))with
   | false=>grind
   | true=>
    rw[hc]at h'
    simp only[oG]at hc
    obtain⟨h2,h3,h4⟩:=hc
    have hd:∀d∈wr ops.toList,d<n:=λd hd=>by
     obtain⟨o,ho,hod⟩:=TQ.1 hd
     have:=Im.1 h2 o ho
     unfold HE at this
     simp_all
    have hz:(bit 0)=λ_=>false:=by funext i;simp[bit]
    have hws:=(afE (Q:=Q .normal E) h3 (pl id) ops.toList.length 0 [] e (drew w) (λi o hi=>eS) (by constructor<;>simp) (DT.plain _ _ _ _ (mB.nil e) h')).1 h4
    rw[hz]at hws
    have:=WS.region (r:=r) (id:=id) hm hd ha hQ hws
    omega
 | seq c1 c2 ih1 ih2=>
  intro r B X lo Q E e a w hr ha h
  have hr1:r=none\/gR c1=false:=hr.imp id λh=>by grind[gR]
  have Lx:r=none\/gR c2=false:=hr.imp id λh=>by grind[gR]
  have key:∀(K:List Nat->Env->jj),D P n pl B c1 X (li B c2 X lo) (wA K Q) E e w->
    (∀O M U w',lh O n M U->(∀i,bit (ki c1) i=false->M i=e i)->(gR c1=false->O=E)->K O M w'->c2.wpIn (FO r) 0 P (xC n (ki c2) (gR c2) O M Q) U w')->
    (Code.seq c1 c2).wpIn (FO r) 0 P (xC n (ki (.seq c1 c2)) (gR (.seq c1 c2)) E e Q) a w:=by
   intro K hK hk
   refine wpIn_seq (wpIn_mono (ih1 r B X _ _ E e a w hr1 ha hK) λx U w' hp=>?_)
   obtain⟨O,M,MP,hf,W,hq⟩:=hp
   have hor:∀i,bit (ki (.seq c1 c2)) i=false->bit (ki c1) i=false/\bit (ki c2) i=false:=λi hi=>by
    simp_all[bit,ki]
   have hrf:gR (.seq c1 c2)=false->gR c1=false/\gR c2=false:=λhh=>by
    grind[gR]
   cases x with
   | normal=>
    refine wpIn_mono (hk O M U w' MP hf W hq) λx2 a2 w2 hp2=>?_
    grind[xC,ki,gR]
   | _=>exact⟨O,M,MP,λi hi=>hf i (hor i hi).1,λhh=>W (hrf hh).1,hq⟩
  have h':(bif UU (nxC c1) 1&&!O5 pl c1 then D P n pl B c1 X (li B c2 X lo) (wA (D P n pl B c2 X lo Q) Q) E e w
   else bif gR c1 then Di (n::iG (KX (ki c1) (li B c2 X lo)) n 0)
    (λK=>D P n pl B c1 X (li B c2 X lo) (wA (λE e w=>K (C9 e n (pb E)) w) Q) E e w)
    (λbs w'=>∀dead,D P n pl B c2 X lo Q (O4 (ES n bs undef)) (KH e (ki c1) bs.tail dead) w')
   else Di (iG (KX (ki c1) (li B c2 X lo)) n 0)
    (λK=>D P n pl B c1 X (li B c2 X lo) (wA (λ_ e w=>K e w) Q) E e w)
    λbs w'=>∀dead,D P n pl B c2 X lo Q E (KH e (ki c1) bs dead) w'):=h
  cases hc:(UU (nxC c1) 1&&!O5 pl c1)with
  | true=>
   grind
  | false=>
   rw[hc]at h'
   simp only[cond_false]at h'
   cases hc2:gR c1 with
   | false=>
    rw[hc2]at h'
    simp only[cond_false]at h'
    obtain⟨I,h1,h2⟩:=Di.spec h'
    refine key _ h1 λO M U w' MP hf W hk=>?_
    have:=h2 M w' hk M
    rw[Bh hf]at this
    grind
   | true=>
    rw[hc2]at h'
    simp only[cond_true]at h'
    obtain⟨I,h1,h2⟩:=Di.spec h'
    refine key _ h1 λO M U w' MP hf W hk=>?_
    have:=h2 (C9 M n (pb O)) w' hk M
    rw[Lw Vu]at this
    rw[show((n,pb O)::lB (iG (KX (ki c1) (li B c2 X lo)) n 0) M).tail=lB (iG (KX (ki c1) (li B c2 X lo)) n 0) M from rfl,Bh hf,
     show ES n ((n,pb O)::lB (iG (KX (ki c1) (li B c2 X lo)) n 0) M) undef=pb O by show(bif EZ n n then pb O else _)=_;simp_all,Lv]at this
    grind
 | cond c c1 c2 ih1 ih2=>
  intro r B X lo Q E e a w hr ha h
  obtain⟨t,ht,hA,hB⟩:=(show B5 (ev e c) (D P n pl B c1 X lo Q E e w) (D P n pl B c2 X lo Q E e w)from h).ex
  have hor:∀i,bit (ki (.cond c c1 c2)) i=false->bit (ki c1) i=false/\bit (ki c2) i=false:=λi hi=>by
   simp_all[bit,ki]
  have hrf:gR (.cond c c1 c2)=false->gR c1=false/\gR c2=false:=λhh=>by
   grind[gR]
  refine wpIn_cond_split (t:=t) (by rw[ha.eval];exact ht) (λh1=>?_) (λh1=>?_)
  .exact wpIn_mono (ih1 r B X lo Q E e a w (hr.imp id λh=>(hrf h).1) ha (hA h1)) λx U w' ⟨O,M,MP,hf,W,hq⟩=>⟨O,M,MP,λi hi=>hf i (hor i hi).1,λhh=>W (hrf hh).1,hq⟩
  .exact wpIn_mono (ih2 r B X lo Q E e a w (hr.imp id λh=>(hrf h).2) ha (hB h1)) λx U w' ⟨O,M,MP,hf,W,hq⟩=>⟨O,M,MP,λi hi=>hf i (hor i hi).2,λhh=>W (hrf hh).2,hq⟩
 | block id c ih=>
  intro r B X lo Q E e a w hr ha h
  refine wpIn_block (wpIn_mono (ih r B _ _ _ E e a w hr ha h) λx U w' hp=>?_)
  obtain⟨O,M,MP,hf,W,hq⟩:=hp
  cases x with
  | exit k=>
   simp only[Exit.inBlock]
   simp only[Z9]at hq
   by_cases hk:k=id
   .subst hk
    rw[HD]at hq
    grind[xC,ki,gR]
   .rw[EV hk]at hq
    grind[xC,ki,gR]
  | _=>exact⟨O,M,MP,hf,W,hq⟩
 | loop c ih=>
  intro r B X lo Q E e a w hr ha h
  have key:∀(V:List Nat->Env->List (Nat×Value)) (I:Nat->List (Nat×Value)->jj),(∃m,I m (V E e) w)->
    (∀m O M w',(∀i,bit (ki c) i=false->M i=e i)->(gR c=false->O=E)->I m (V O M) w'->D P n pl B c X (li B c X (li B c X 0)) (wA (λds2 e2 w2=>∃m',m'<m/\I m' (V ds2 e2) w2) Q) O M w')->
    (Code.loop c).wpIn (FO r) 0 P (xC n (ki (.loop c)) (gR (.loop c)) E e Q) a w:=by
   intro V I ⟨m,h1⟩ h2
   let Inv:Nat->Act->jj:=λm U w'=>∃O M,lh O n M U/\(∀i,bit (ki c) i=false->M i=e i)/\(gR c=false->O=E)/\I m (V O M) w'
   have body:∀m U w',Inv m U w'->c.wpIn (FO r) 0 P (Exit.then (λa2 w2=>∃m',m'<m/\Inv m' a2 w2) (xC n (ki (.loop c)) (gR (.loop c)) E e Q)) U w':=by
    rintro m U w' ⟨O,M,MP,hf,W,hi⟩
    refine wpIn_mono (ih r B X _ _ O M U w' hr MP (h2 m O M w' hf W hi)) λx a2 w2 hp=>?_
    obtain⟨ds2,e2,ha2,XV,aBB,hq⟩:=hp
    have hfe:∀i,bit (ki c) i=false->e2 i=e i:=λi hi=>(XV i hi).trans (hf i hi)
    have asH:gR c=false->ds2=E:=λhh=>(aBB hh).trans (W hh)
    cases x with
    | normal=>obtain⟨m',Sr,SK⟩:=hq;exact⟨m',Sr,ds2,e2,ha2,hfe,asH,SK⟩
    | _=>exact⟨ds2,e2,ha2,hfe,asH,hq⟩
   classical
   let J:Act->jj:=λU w'=>∃m,Inv m U w'
   let μ:Act->World->Nat:=λU w'=>if h:∃m,Inv m U w' then adp (least h)else 0
   have hμ:∀U w',J U w'->Inv (μ U w') U w'/\∀k,Inv k U w'->μ U w'<=k:=λU w' hj=>by
    grind
   refine wpIn_loop J μ ⟨m,E,e,ha,λ_ _=>rfl,λ_=>rfl,h1⟩ λU w' hj=>?_
   refine wpIn_mono (body _ U w' (hμ U w' hj).1) λx a2 w2 hp=>?_
   cases x with
   | normal=>
    obtain⟨m',Sr,SK⟩:=hp
    exact⟨⟨m',SK⟩,Nat.lt_of_le_of_lt ((hμ a2 w2 ⟨m',SK⟩).2 m' SK) Sr⟩
   | _=>exact hp
  have h':(bif gR c then Dj (n::iG (KX (ki c) (li B c X (li B c X 0))) n 0)
    (λK bs w=>∀dead,D P n pl B c X (li B c X (li B c X 0)) (wA (λE e w=>K (C9 e n (pb E)) w) Q) (O4 (ES n bs undef)) (KH e (ki c) bs.tail dead) w) (C9 e n (pb E)) w
   else Dj (iG (KX (ki c) (li B c X (li B c X 0))) n 0)
    (λK bs w=>∀dead,D P n pl B c X (li B c X (li B c X 0)) (wA (λ_ e w=>K e w) Q) E (KH e (ki c) bs dead) w) e w):=h
  cases hc:gR c with
  | false=>
   rw[hc]at h'
   simp only[cond_false]at h'
   obtain⟨I,h1,h2⟩:=Dj.spec h'
   rw[show gR (.loop c)=gR c from rfl]at key
   have:=key (λ_ e=>lB (iG (KX (ki c) (li B c X (li B c X 0))) n 0) e) I h1 λm O M w' hf W hi=>by
    have:=h2 m M w' hi M
    rw[Bh hf]at this
    grind
   exact this
  | true=>
   rw[hc]at h'
   simp only[cond_true]at h'
   obtain⟨I,h1,h2⟩:=Dj.spec h'
   refine key (λE e=>lB (n::iG (KX (ki c) (li B c X (li B c X 0))) n 0) (C9 e n (pb E))) I h1 λm O M w' hf W hi=>?_
   have:=h2 m (C9 M n (pb O)) w' hi M
   rw[Lw Vu]at this
   rw[show((n,pb O)::lB (iG (KX (ki c) (li B c X (li B c X 0))) n 0) M).tail=lB (iG (KX (ki c) (li B c X (li B c X 0))) n 0) M from rfl,Bh hf,
    show ES n ((n,pb O)::lB (iG (KX (ki c) (li B c X (li B c X 0))) n 0) M) undef=pb O by show(bif EZ n n then pb O else _)=_;simp_all,Lv]at this
   exact this
 | rangeFunc g ps asx bd ihA ihB=>
  intro r B X lo Q E e a w hr ha h
  have hr0:r=none:=hr.resolve_right (by simp[gR])
  subst hr0
  exact aac ihA ihB B X lo Q E e a w ha h
 | _=>intro r B X lo Q E e a w _ ha h;exact h.elim
def SL(P:Program):List ResultVar->Env->(List Value->Prop)->jj
 | [],_,K,_=>K []
 | .tmp t::r,e,K,w=>SL P r e (λvs=>K (e t::vs)) w
 | .cell a t::r,e,K,w=>Kw P (yv t (e a)) w (λv=>SL P r e (λvs=>K (v::vs)) w)
def aad:List Value->Value
 | [v]=>v
 | vs=>.tuple vs.toArray
def re:List Nat->World->(jj)->Prop
 | [],w,K=>K w
 | D::r,w,K=>w.heap[D]?=some (.deferred (some []))/\re r (w.putObj D (.deferred none)) K
def SM(P:Program)(rs:List ResultVar)(K:Value->jj):Gz
 | .normal,B,e,w=>re B w λw=>SL P rs e (λvs=>K (aad vs) w) w
 | .ret,B,e,w=>re B w λw=>SL P rs e (λvs=>K (aad vs) w) w
 | _,_,_,_=>False
def GA:List Value->Env
 | [],_=>undef
 | v::_,0=>v
 | _::r,n+1=>GA r n
theorem aae(l:List Value)(i:Nat):GA l i=l.getD i undef:=by
 induction l generalizing i with
 | nil=>simp[GA]
 | cons v r B=>cases i with
  | zero=>rfl
  | succ i=>simp[GA,B]
def XW(tmps:Array Value):ResultVar->Sem Value
 | .tmp t=>pure (tmps.getD t undef)
 | .cell a t=>do loadVar t (<- asAddr (tmps.getD a undef))
theorem MV{P:Program}{t:TypeId}{v u:Value}{w:World}(h:(yv t v).run P w=.ok u w):(do loadVar t (<- asAddr v):Sem Value).run P w=.ok u w:=by
 cases v with
 | pointer a=>cases a with
  | none => exact absurd (show(Result.halt (.stuck "an address expected (no nilCheck in front?)") w : Result Value)=.ok u w from h) eU
  | some a=>exact h
 | _ => exact absurd (show(Result.halt (.stuck "an address expected (no nilCheck in front?)") w : Result Value)=.ok u w from h) eU
theorem aaf{P:Program}{J:List Nat}{n:Nat}{e:Env}{a:Act}(I:lh J n e a):∀(rs:List ResultVar) (K:List Value->Prop) (w:World),SL P rs e K w->
  ∃vs,(rs.mapM (XW a.tmps)).run P w=.ok vs w/\K vs:=by
 intro rs
 induction rs with
 | nil=>intro K w h;exact⟨[],rfl,h⟩
 | cons r rs M=>
  intro K w h
  have step:∀v,(XW a.tmps r).run P w=.ok v w->SL P rs e (λvs=>K (v::vs)) w->∃vs,((r::rs).mapM (XW a.tmps)).run P w=.ok vs w/\K vs:=by
   intro v E B
   obtain⟨vs,h1,h2⟩:=M _ w B
   simp_all
  cases r with
  | tmp t=>exact step (e t) (by rw[<- I.get t];rfl) h
  | cell c t=>
   obtain⟨v,E,B⟩:=h.ex
   refine step v ?_ B
   show(do loadVar t (<- asAddr (a.tmps.getD c undef)):Sem Value).run P w=_
   rw[I.get c]
   exact MV E
theorem O7{P:Program}{B:Func}{rs:List ResultVar}(E:B.results=rs.toArray){tmps:Array Value}{w:World}{vs:List Value}
  (h:(rs.mapM (XW tmps)).run P w=.ok vs w):(results B tmps).run P w=.ok (aad vs) w:=by
 have e:results B tmps=(rs.toArray.mapM (XW tmps) >>= λvs=>pure (if h:vs.size=1 then vs[0]else .tuple vs)):=by
  unfold results;rw[E];rfl
 rw[e,List.mapM_toArray]
 have h1:(Functor.map (λa=>a.toArray) (rs.mapM (XW tmps))).run P w=.ok vs.toArray w:=by
  rw[<- bind_pure_comp,fF h];rfl
 rw[fF h1]
 show Result.ok _ w=Result.ok _ w
 congr 1
 match vs with
 | []=>rfl
 | [v]=>rfl
 | a::b::r=>simp[aad]
theorem MW{P:Program}{E:Func}{tmps:Array Value}{R:Ending->jj}:∀(B:List Nat) (w:World),re B w (λw'=>∃v,(results E tmps).run P w'=.ok v w'/\R (.returned v) w')->
  LeavesInM (FO none) 0 P E tmps R (B.map mark) .returning w:=by
 intro B
 induction B with
 | nil=>intro w ⟨v,h1,h2⟩;exact⟨v,h1,h2⟩
 | cons D r I=>intro w h;exact⟨eU,.inl ⟨D,_,rfl,run_takeDeferred h.1,I _ h.2⟩⟩
theorem re.mono{B:List Nat}{K E:jj}(J:∀w,K w->E w):∀{w:World},re B w K->re B w E:=by
 induction B with
 | nil=>intro w h;exact J w h
 | cons D r I=>intro w h;exact⟨h.1,I h.2⟩
theorem HG{P:Program}{n:Nat}{pl:dG}{J:Nat}{f:FuncId}{B:Func}{c:Code}{rs:List ResultVar}{args:List Value}{w:World}{K:Value->jj}
  (W:P.follows .mixedOrders=true) (hf:P.funcs[f]?=some B) (hb:B.body=some c) (hn:B.ntmps=n) (hr:B.results=rs.toArray) (hle:args.length<=n)
  (h:D P n pl J c [] J (SM P rs K) [] (GA args) w):Calls P f args.toArray w (qZ K):=by
 refine Cq.1 (callsIn_of_wp_marks (F:=FO none) (n:=0) hf hb trivial ?_)
 have V:lh [] n (GA args) {tmps:=args.toArray++Array.replicate (B.ntmps-args.toArray.size) undef,defers:=[]}:=by
  refine⟨rfl,eS,λi=>?_⟩
  rw[aae,HK,Array.getElem?_append]
  grind
 refine wpIn_mono (afI W c none J [] J _ [] _ _ w (.inl rfl) V h) λx O w' hp=>?_
 obtain⟨M,e',U,_,_,I⟩:=hp
 have E:re M w' (λw=>SL P rs e' (λvs=>K (aad vs) w) w)->LeavesInM (FO none) 0 P B O.tmps (qZ K) O.defers .returning w':=λI=>by
  rw[U.defers]
  refine MW M w' (I.mono λw1 h1=>?_)
  obtain⟨vs,h1,h2⟩:=aaf U rs _ w1 h1
  exact⟨_,O7 hr h1,_,rfl,h2⟩
 cases x with
 | normal=>exact E I
 | ret=>exact E I
 | _=>exact I.elim
def okD{P:Program}{n:Nat}{pl:dG}{I:Nat}{f:FuncId}{B:Func}{c:Code}{rs:List ResultVar}{args:List Value}{w:World}{K:Value->jj}{S:Prop}
  (U:P.funcs[f]?=some B) (hb:B.body=some c) (O:B.ntmps=n) (M:B.results=rs.toArray) (J:P.follows .mixedOrders=true) (E:args.length<=n)
  (e:D P n pl I c [] I (SM P rs K) [] (GA args) w=S) (h:S):Calls P f args.toArray w (qZ K):=HG J U hb O M E (e.mpr h)
def okE{P:Program}(n:Nat)(pl:dG)(I:Nat)(rs:List ResultVar){f:FuncId}{B:Func}{args:List Value}{w:World}{K:Value->jj}{S:Prop}
  (U:P.funcs[f]?=some B) (hb:B.body=some (B.body.getD .skip)) (O:B.ntmps=n) (M:B.results=rs.toArray) (J:P.follows .mixedOrders=true) (E:args.length<=n)
  (e:D P n pl I (B.body.getD .skip) [] I (SM P rs K) [] (GA args) w=S) (h:S):Calls P f args.toArray w (qZ K):=okD U hb O M J E e h
theorem okZ{P:Program}(n:Nat)(pl:dG)(E:Nat)(rs:List ResultVar){f:FuncId}{B:Func}{args:List Value}{w:World}{K:Value->jj}{S:Prop}
  (J:P.funcs[f]?=some B) (I:P.follows .mixedOrders=true) (hc:(B.body.isSome,B.ntmps,B.results,UU args.length n)=(true,n,rs.toArray,true))
  (e:D P n pl E (B.body.getD .skip) [] E (SM P rs K) [] (GA args) w=S) (h:S):Calls P f args.toArray w (qZ K):=by
 have h1:B.body.isSome=true:=hM (λx=>x.1) hc
 have h2:B.ntmps=n:=hM (λx=>x.2.1) hc
 have h3:B.results=rs.toArray:=hM (λx=>x.2.2.1) hc
 have h4:UU args.length n=true:=hM (λx=>x.2.2.2) hc
 have h5:B.body=some (B.body.getD .skip):=by
  cases hb:B.body with
  | none=>rw[hb]at h1;cases h1
  | some c=>rfl
 exact okD J h5 h2 h3 I (FY h4) e h
def eL{P : Program}{f : FuncId}{B : Func}(E : P.funcs[f]?=some B)(h : (B.name == "runtime.NumGoroutine", B.body.isNone)=(false, false) := by kernel_rfl) : Plain P f := ⟨B, E, hM (λx => x.1) h, hM (λx => x.2) h⟩
def vb{a b:Bool}(h:a=b):y9 a=y9 b:=hM _ h
def Ky{p:Prop}[Decidable p](h:p):y9 true=y9 (decide p):=vb (gq h).symm
def jvF{p:Prop}[Decidable p](h:¬ p):y9 false=y9 (decide p):=vb (gD h).symm
def uS{p q:Prop}[Decidable p][Decidable q](h:p↔q):y9 (decide p)=y9 (decide q):=vb (hI.2 h)
end Go.Fw
namespace Go.Proofs.YtnjcingfdhjfkaaGreat
open Go.Fw
variable (w:World) (K:Value->jj)
abbrev i(n:Int):Value:=.int .i64 n
abbrev tt:Value:=.bool true
abbrev ff:Value:=.bool false
abbrev fA(T:Nat)(v:Value)(f:Nat)(K:Value->Prop):Prop:=eM ji (KI T v f) K
abbrev iA(T:Nat)(v j:Value)(K:Value->Prop):Prop:=eM ji (Iy T v j) K
abbrev lA(T:Nat)(p:Value)(w:World)(K:Value->Prop):Prop:=Kw ji (yv T p) w K
abbrev sA(T:Nat)(p v:Value)(w:World)(K:jj):Prop:=FW ji (LB T p v) w K
abbrev bA(o:BinOp)(T:Nat)(x y:Value)(K:Value->Prop):Prop:=eM ji (lR o T false false x y) K
abbrev bB(o:BinOp)(T:Nat)(x y:Value)(K:Value->Prop):Prop:=eM ji (lR o T false true x y) K
abbrev bC(o:BinOp)(T:Nat)(x y:Value)(K:Value->Prop):Prop:=eM ji (lR o T true false x y) K
abbrev cF(f:Nat)(args:List Value)(w:World)(K:Value->jj):Prop:=Hz ji f args w K
abbrev nC(v:Value)(K:Value->Prop):Prop:=eM ji (XN v) K
abbrev lN(T:Nat)(v:Value)(K:Value->Prop):Prop:=eM ji (Builtin.len_ #[T] 3 [v].toArray) K
abbrev aL(T:Nat)(w:World)(K:Value->jj):Prop:=nU ji (QF T true (.tuple #[])) w K
abbrev xT(v:Value)(k:Nat)(K:Value->Prop):Prop:=eM ji (U0 v k) K
abbrev kA(T:Nat)(p v:Value)(w:World)(R:Prop):Prop:=MN ji (yv T p) v w R
abbrev aP(T:Nat)(a b:Value)(w:World)(K:Value->jj):Prop:=nU ji (Builtin.append_ #[T,T] T [a,b].toArray) w K
abbrev bS(T n:Nat)(l:List (Nat×Value))(w:World)(K:Value->jj):Prop:=nU ji (L2 T n l.toArray) w K
abbrev cV(v:Value)(a b:Prop):Prop:=B5 v a b
noncomputable abbrev PG:Program:=ji
abbrev CR(n:Nat)(a:List Value)(w:World)(K:Value->jj):Prop:=Calls ji n a.toArray w (qZ K)
abbrev PL(n:Nat):Prop:=Plain ji n
theorem mixed:Tryz.prog.follows .mixedOrders=true:=by kernel_rfl
theorem kB(n:Nat)(pl:dG)(E:Nat)(rs:List ResultVar){f:FuncId}{B:Func}{args:List Value}{w:World}{K:Value->jj}{S:Prop}
  (I:PG.funcs[f]?=some B) (h:S) (hc:(B.body.isSome,B.ntmps,B.results,UU args.length n)=(true,n,rs.toArray,true):=by kernel_rfl)
  (e:D PG n pl E (B.body.getD .skip) [] E (SM PG rs K) [] (GA args) w=S:=by kernel_rfl):CR f args w K:=okZ n pl E rs I mixed hc e h
def XX:List ResultVar->Nat
 | []=>0
 | .tmp t::r=>Z7 (XX r) t
 | .cell a _::r=>Z7 (XX r) a
theorem uT{f:FuncId}{B:Func}(E:Tryz.prog.funcs[f]?=some B){args:List Value}{w:World}{K:Value->jj}{pl:dG}
  (h:D ji B.ntmps pl (XX B.results.toList) (B.body.getD .skip) [] (XX B.results.toList) (SM ji B.results.toList K) [] (GA args) w)
  (hc:(B.body.isSome,UU args.length B.ntmps)=(true,true):=by kernel_rfl):Calls ji f args.toArray w (qZ K):=by
 have h1:B.body.isSome=true:=hM (λx=>x.1) hc
 have h5:B.body=some (B.body.getD .skip):=by
  cases hb:B.body with
  | none=>rw[hb]at h1;cases h1
  | some c=>rfl
 exact HG mixed E h5 rfl eU (FY (hM (λx=>x.2) hc)) h
theorem lx{f:FuncId}{B:Func}(E:Tryz.prog.funcs[f]?=some B){args:List Value}{w:World}{K:Value->jj}
  (h:D ji B.ntmps (λ_=>.nil) (XX B.results.toList) (B.body.getD .skip) [] (XX B.results.toList) (SM ji B.results.toList K) [] (GA args) w)
  (hc:(B.body.isSome,UU args.length B.ntmps)=(true,true):=by kernel_rfl):Calls ji f args.toArray w (qZ K):=uT E h hc
def P4:dG:=λi=>match i with
 | 12=>.run 0 15
 | _=>.nil
def P5:dG:=λi=>match i with
 | 10=>(.op 0 [] (.op 1 [] (.op 2 [] (.op 3 [] (.op 4 [] (.alt 5 [3] (.alt 6 [] (.of [(7,[3]),(8,[])]) (.alt 7 [3] (.of [(6,[]),(8,[])]) .stop)) (.alt 7 [3] (.of [(5,[3]),(6,[]),(8,[])]) .stop)))))))
 | 17=>(.of [(0,[]),(2,[]),(1,[]),(3,[]),(4,[]),(5,[]),(6,[]),(8,[]),(7,[]),(9,[]),(10,[]),(11,[]),(12,[]),(13,[]),(15,[]),(14,[15]),(16,[]),(17,[])])
 | _=>.nil
def S6(p0 B6 Bi:Value):Prop:=
 nU ji (sZ 27 p0) w λp3 a=>lA 27 p3 a λb=>cF 11 [b] a λc d=>cF 12 [c] d λe f=>xT e 0 λg=>xT e 1 λh=>aL 36 f λu7 j=>sA 36 u7 g j λk=>bB .neq 37 h (i 0) λl=>
 cV l (cF 14 [] k λn o=>K n o) (bB .and 3 B6 (i 3) λp=>bC .add 3 (i 1) p λq=>lA 36 u7 k λr=>cF 15 [r,q] k λs t=>xT s 0 λu=>xT s 1 λv=>lA 36 u7 t λx=>
 cF 26 [x,q] t λy z=>xT y 0 λE=>xT y 1 λab=>cQ (λK1=>bB .eql 42 u (.pointer none) λac=>cV ac (K1 tt z) (bB .eql 68 E (.pointer none) λad=>cV ad (K1 tt z) (
 bB .neq 37 v (i 0) λae=>cV ae (K1 tt z) (bB .neq 37 ab (i 0) λaf=>cV af (K1 tt z) (cF 27 [u,E] z λag ah=>eM ji (Op.unary .not ag) λai=>K1 ai ah))))) (λaj ak=>∀_:Env,
 cV aj (K ff ak) (nc (λK2 I B al=>∀_:Env,
 cQ (λK3=>lN 57 Bi λam=>bA .lss 3 B am λan=>cV an (bB .lss 3 B (i 60) λao=>K3 ao al) (K3 ff al)) (λap aq=>∀_:Env,
 cV ap (cQ (λK4=>bS 45 0 [] aq λar J=>cQ (λK5=>cQ (λK6=>nC E λau=>fA 75 au 2 λav=>lA 3 av J λaw=>bB .lss 3 aw (i 2) λax=>cV ax (nC E λay=>
 fA 75 ay 3 λaz=>lA 72 az J λa0=>cF 29 [a0] J λa1 a2=>cF 28 [a1] a2 λa3 a4=>bB .leq 3 a3 (i 100) λa5=>K6 a5 a4) (K6 ff J)) (λa6 a7=>∀_:Env,
 cV a6 (cF 30 [E] a7 λa8 a9=>cF 31 [I] a9 λba bb=>cF 20 [ba,a8] bb λbc bd=>eM ji (Op.unary .not bc) λbe=>cV be (K ff bd) (K5 a8 bd)) (K5 ar a7))) (λV bf=>∀_:Env,
 cQ (λK7=>iA 57 Bi B λbg=>lA 64 bg (drew bf) λO=>nC E λbi=>fA 75 bi 2 λbj=>lA 3 bj (drew bf) λM=>((cF 32 [E] (drew bf) λbl bm=>kA 64 bg O bm (
 kA 3 bj M bm ((cF 24 [O,bl,V,M] bm λbn bo=>aL 52 bo λa16 bp=>kA 64 bg O bp (kA 3 bj M bp (sA 52 a16 bn bp λbq=>K7 a16 bq)))
 /\((aL 52 bm λaj1 br=>kA 64 bg O br (kA 3 bj M br (cF 24 [O,bl,V,M] br λbs bt=>sA 52 aj1 bs bt λbu=>K7 aj1 bu)))
 /\
 True))))
 /\((aL 52 (drew bf) λaj2 bv=>kA 64 bg O bv (kA 3 bj M bv (cF 32 [E] bv λbw bx=>kA 64 bg O bx (kA 3 bj M bx (cF 24 [O,bw,V,M] bx λbz b0=>sA 52 aj2 bz b0 λb1=>
 K7 aj2 b1)))))
 /\
 True))) (λU b2=>∀_:Env,
 cQ (λK8=>iA 57 Bi B λb3=>fA 64 b3 0 λb4=>lA 3 b4 b2 λb5=>bB .eql 3 b5 (i 3) λb6=>cV b6 (cF 19 [I] b2 λb7 b8=>lA 52 U b8 λb9=>cF 17 [I,b9] b8 λ_ ca=>
 bB .eql 42 b7 (.pointer none) λcb=>cV cb (K ff ca) (K8 b7 ca)) (K8 I b2)) (λW cc=>∀_:Env,
 lA 52 U cc λcd=>cF 17 [W,cd] cc λce cf=>xT ce 0 λcg=>xT ce 1 λch=>aL 48 cf λci cj=>sA 48 ci cg cj λck=>lA 52 U ck λcl=>cF 33 [E,cl] ck λcm cn=>
 xT cm 0 λco=>xT cm 1 λcp=>aL 48 cn λy20 cq=>sA 48 y20 co cq λcr=>cQ (λK9=>lA 48 ci cr λcs=>lA 48 y20 cr λct=>bA .neq 48 cs ct λcu=>cV cu (K9 tt cr) (
 bA .neq 37 ch cp λcv=>cV cv (K9 tt cr) (cF 27 [W,E] cr λcw cx=>eM ji (Op.unary .not cw) λcy=>K9 cy cx))) (λcz c0=>∀_:Env,
 cV cz (K ff c0) (K4 W c0)))))) (λasI c1=>∀_:Env,
 bB .add 3 B (i 1) λc2=>K2 asI c2 c1)) (cF 14 [] aq λc3 c4=>K c3 c4))) λK2=>K2 u (i 0) ak)))
def P6:dG:=λi=>match i with
 | 17=>(.op 0 [] (.op 1 [] (.op 2 [] (.op 3 [] (.op 4 [] (.op 6 [] (.op 7 [] (.op 8 [] (.op 9 [] (.op 10 [] (.alt 5 [3,10] (.alt 11 [] (.of [(12,[3,10]),(13,[])]) (.alt 12 [3,10] (.of [(11,[]),(13,[])]) .stop)) (.alt 12 [3,10] (.of [(5,[3,10]),(11,[]),(13,[])]) .stop))))))))))))
 | _=>.nil
theorem asJ(p0 E B:Value)(h:S6 w K p0 E B):CR 6 [p0,E,B] w K:=
 kB 151 P6 64 [.tmp 6] Tryz.func6 h
def P8:dG:=λi=>match i with
 | 11=>(.op 0 [] (.op 1 [] (.op 2 [] (.op 3 [] (.op 4 [] (.op 6 [] (.op 8 [] (.alt 5 [3] (.alt 7 [3] (.alt 9 [3] (.op 10 [] (.alt 11 [] (.of [(12,[3]),(13,[])]) (.alt 12 [3] (.of [(11,[]),(13,[])]) .stop))) (.alt 12 [3] (.of [(9,[3]),(10,[]),(11,[]),(13,[])]) .stop)) (.alt 12 [3] (.of [(7,[3]),(9,[3]),(10,[]),(11,[]),(13,[])]) .stop)) (.alt 12 [3] (.of [(5,[3]),(7,[3]),(9,[3]),(10,[]),(11,[]),(13,[])]) .stop)))))))))
 | 27=>.run 0 8
 | _=>.nil
def P9:dG:=λi=>match i with
 | 10=>(.of [(0,[]),(1,[]),(2,[]),(3,[]),(4,[]),(5,[]),(6,[4]),(7,[]),(8,[])])
 | 19=>(.of [(0,[]),(1,[]),(2,[]),(3,[]),(4,[]),(5,[]),(6,[]),(7,[]),(8,[]),(9,[]),(10,[]),(11,[]),(12,[]),(13,[]),(14,[]),(15,[]),(16,[]),(17,[]),(18,[]),(19,[]),(20,[]),(21,[]),(22,[]),(23,[]),(24,[]),(25,[]),(28,[]),(29,[]),(30,[]),(26,[29]),(27,[]),(31,[]),(32,[]),(33,[]),(34,[]),(35,[]),(36,[]),(37,[]),(38,[]),(39,[]),(40,[]),(41,[]),(42,[]),(43,[]),(44,[]),(45,[]),(46,[]),(47,[]),(48,[])])
 | _=>.nil
def ZN:dG:=λi=>match i with
 | 10=>(.op 0 [] (.op 1 [] (.op 2 [] (.op 3 [] (.op 4 [] (.alt 5 [3] (.alt 6 [] (.of [(7,[3]),(8,[])]) (.alt 7 [3] (.of [(6,[]),(8,[])]) .stop)) (.alt 7 [3] (.of [(5,[3]),(6,[]),(8,[])]) .stop)))))))
 | _=>.nil
def P11:dG:=λi=>match i with
 | 1=>(.op 0 [] (.op 1 [] (.op 3 [] (.op 4 [] (.op 6 [] (.op 7 [] (.op 9 [] (.op 10 [] (.alt 2 [4,7,10] (.alt 5 [7,10] (.alt 8 [10] (.alt 11 [] (.of [(12,[]),(13,[1,4,7,10]),(14,[])]) (.alt 13 [1,4,7,10] (.of [(11,[]),(12,[]),(14,[])]) .stop)) (.alt 13 [1,4,7,10] (.of [(8,[10]),(11,[]),(12,[]),(14,[])]) .stop)) (.alt 13 [1,4,7,10] (.of [(5,[7,10]),(8,[10]),(11,[]),(12,[]),(14,[])]) .stop)) (.alt 13 [1,4,7,10] (.of [(2,[4,7,10]),(5,[7,10]),(8,[10]),(11,[]),(12,[]),(14,[])]) .stop))))))))))
 | 5=>(.of [(0,[]),(1,[]),(2,[]),(3,[]),(4,[]),(5,[]),(6,[]),(7,[1]),(8,[1]),(9,[]),(10,[]),(11,[])])
 | 9=>(.of [(0,[]),(1,[]),(2,[]),(3,[]),(4,[]),(5,[]),(6,[]),(7,[]),(9,[]),(10,[]),(11,[]),(12,[]),(13,[]),(14,[]),(8,[1,10,14]),(15,[]),(16,[1]),(17,[]),(18,[]),(19,[])])
 | _=>.nil
def S12(p0:Value):Prop:=
 nU ji (sZ 27 p0) w λp1 a=>aL 36 a λb c=>lA 27 p1 c λd=>cF 40 [d] c λe f=>xT e 0 λg=>xT e 1 λ_=>bB .neq 37 g (i 0) λh=>cV h (eM ji (n3 36 [].toArray) λj=>
 sA 36 b j f λk=>lA 36 b k λr=>K (.tuple #[r,g]) k) (cQ (λK1=>lA 27 p1 (drew f) λl=>lA 27 p1 (drew f) λn=>fA 27 p1 2 λo=>lA 23 o (drew f) λp=>lN 23 p λq=>
 ((cF 41 [l] (drew f) λs t=>kA 27 p1 n t (kA 23 o p t ((cF 42 [n] t λu v=>kA 23 o p v (eM ji (n3 36 [(1,s),(2,u),(3,q)].toArray) λx=>aL 36 v λu6 y=>
 kA 27 p1 l y (kA 27 p1 n y (kA 23 o p y (sA 36 u6 x y λz=>K1 u6 z)))))
 /\((aL 36 t λM aa=>kA 27 p1 l aa (kA 27 p1 n aa (kA 23 o p aa (cF 42 [n] aa λab ac=>kA 23 o p ac (eM ji (n3 36 [(1,s),(2,ab),(3,q)].toArray) λad=>
 sA 36 M ad ac λae=>K1 M ae)))))
 /\
 True))))
 /\((aL 36 (drew f) λO V=>kA 27 p1 l V (kA 27 p1 n V (kA 23 o p V (cF 41 [l] V λag ah=>kA 27 p1 n ah (kA 23 o p ah (cF 42 [n] ah λai aj=>kA 23 o p aj (eM ji (n3 36 [(1,ag),(2,ai),(3,q)].toArray) λak=>
 sA 36 O ak aj λal=>K1 O al)))))))
 /\
 True))) (λE am=>∀_:Env,
 iT (λK2 i7 U=>∀_:Env,
 fA 36 E 2 λao=>lA 28 ao U λap=>lN 28 ap λaq=>bA .lss 3 i7 aq λar=>cV ar (fA 36 E 0 λJ=>lA 28 J (drew U) λau=>lA 27 p1 (drew U) λav=>cF 43 [av,i7] (drew U) λaw ax=>
 kA 28 J au ax (bS 28 1 [(0,aw)] ax λay az=>kA 28 J au az (aP 28 au ay az λa0 a1=>fA 36 E 0 λa2=>sA 28 a2 a0 a1 λa3=>bB .add 3 i7 (i 1) λa4=>K2 a4 a3))) (
 iT (λK3 i8 B=>∀_:Env,
 fA 27 p1 3 λa6=>lA 24 a6 B λa7=>lN 24 a7 λa8=>bA .lss 3 i8 a8 λa9=>cV a9 (fA 36 E 4 λba=>lA 30 ba (drew B) λbb=>lA 27 p1 (drew B) λbc=>fA 27 p1 3 λbd=>
 lA 24 bd (drew B) λbe=>iA 24 be i8 λbf=>lA 98 bf (drew B) λbg=>cF 44 [bc,bg] (drew B) λbh bi=>kA 30 ba bb bi (bS 30 1 [(0,bh)] bi λbj bk=>kA 30 ba bb bk (
 aP 30 bb bj bk λbl bm=>fA 36 E 4 λbn=>sA 30 bn bl bm λbo=>bB .add 3 i8 (i 1) λbp=>K3 bp bo))) (ue (λK4=>fA 27 p1 4 λbq=>lA 24 bq B λbr=>lN 24 br λbs=>
 bB .gtr 3 bs (i 0) λbt=>cV bt (lA 27 p1 (drew B) λbu=>fA 27 p1 4 λbv=>lA 24 bv (drew B) λbw=>iA 24 bw (i 0) λbx=>lA 98 bx (drew B) λbz=>cF 44 [bu,bz] (drew B) λb0 b1=>
 fA 36 E 5 λb2=>sA 33 b2 b0 b1 λb3=>K4 b3) (K4 B)) (λb4=>∀_:Env,
 iT (λK5 i9 I=>∀_:Env,
 fA 27 p1 5 λb6=>lA 25 b6 I λb7=>lN 25 b7 λb8=>bA .lss 3 i9 b8 λb9=>cV b9 (fA 27 p1 5 λca=>lA 25 ca (drew I) λcb=>iA 25 cb i9 λcc=>fA 89 cc 0 λcd=>
 lA 86 cd (drew I) λce=>lA 27 p1 (drew I) λcf=>fA 36 E 1 λcg=>lA 3 cg (drew I) λch=>cF 46 [cf] (drew I) λci W=>kA 25 ca cb W (kA 86 cd ce W (kA 3 cg ch W (
 eM ji (rr 95 ci none (some ch) none) λck=>cF 45 [ce,ck] W λcl cm=>xT cl 0 λcn=>xT cl 1 λ_=>fA 36 E 6 λco=>lA 34 co cm λcp=>bS 34 1 [(0,cn)] cm λcq cr=>
 aP 34 cp cq cr λcs ct=>fA 36 E 6 λcu=>sA 34 cu cs ct λcv=>bB .add 3 i9 (i 1) λcw=>K5 cw cv)))) (lA 36 E I λcx=>sA 36 b cx I λcy=>lA 36 b cy λHH=>
 K (.tuple #[HH,(i 0)]) cy)) λK5=>K5 (i 0) b4))) λK3=>K3 (i 0) U)) λK2=>K2 (i 0) am))
def P12:dG:=λi=>match i with
 | 4=>(.op 0 [] (.op 2 [] (.op 4 [] (.op 5 [] (.op 6 [] (.alt 1 [2,5] (.alt 3 [5] (.of [(7,[]),(8,[0,2,5]),(9,[])]) (.alt 8 [0,2,5] (.of [(3,[5]),(7,[]),(9,[])]) .stop)) (.alt 8 [0,2,5] (.of [(1,[2,5]),(3,[5]),(7,[]),(9,[])]) .stop)))))))
 | 8=>(.of [(0,[]),(1,[]),(2,[]),(3,[]),(4,[1]),(5,[1]),(6,[]),(7,[]),(8,[])])
 | 12=>(.of [(0,[]),(1,[]),(2,[]),(3,[]),(4,[]),(5,[]),(6,[]),(7,[]),(8,[1]),(9,[1]),(10,[]),(11,[]),(12,[])])
 | 14=>.run 0 8
 | 18=>(.of [(0,[]),(1,[]),(2,[]),(3,[]),(4,[]),(5,[]),(6,[]),(8,[]),(9,[]),(7,[1,5,9]),(10,[]),(11,[]),(12,[]),(13,[]),(14,[]),(15,[]),(16,[])])
 | _=>.nil
theorem amH(p0:Value)(h:S12 w K p0):CR 12 [p0] w K:=
 kB 103 P12 12 [.cell 2 36,.tmp 3] Tryz.func12 h
def S14:Prop:=
 cF 48 [(Go.Value.string (k9 (#[108,105,110,101,32,97,59,32,118,111,108,32,120,59,32,108,111,99,107,32,109,59,32,116,104,114,101,97,100,32,116,32,123,32,114,101,103,32,114,59,32,115,116,111,114,101,32,97,32,61,32,49,59,32,108,111,97,100,32,114,32,61,32,97,59,32,111,112,116,32,97,59,32,116,97,107,101,32,109,59,32,125,32,116,104,114,101,97,100,32,117,32,123,32,114,101,103,32,114,59,32,108,111,97,100,32,114,32,61,32,97,59,32,99,104,101,99,107,32,114,59,32,125,32,114,101,99,111,118,101,114,32,123,32,125,32,97,108,119,97,121,115,32,97,32,61,61,32,49,59])))] w λa b=>
 cF 15 [a,(i 2)] b λc d=>xT c 0 λe=>xT c 1 λf=>eM ji (n3 36 [].toArray) λg=>cF 15 [g,(i 2)] d λh j=>xT h 0 λ_=>xT h 1 λk=>cQ (λK1=>
 bB .eql 42 e (.pointer none) λl=>cV l (K1 tt j) (bB .neq 37 f (i 0) λn=>K1 n j)) (λo p=>∀_:Env,
 cV o (K ff p) (eM ji (n3 52 [(0,(i 1))].toArray) λq=>eM ji (n3 52 [(0,(i 1)),(1,(i 1))].toArray) λr=>aL 52 p λM s=>aL 52 s λMX t=>
 sA 52 M q t λu=>sA 52 MX r u λv=>lA 52 M v λx=>cF 17 [e,x] v λy z=>xT y 0 λaa=>xT y 1 λab=>aL 48 z λa7 ac=>sA 48 a7 aa ac λad=>lA 52 M ad λae=>
 cF 17 [e,ae] ad λaf ag=>xT af 0 λah=>xT af 1 λ_=>aL 48 ag λb9 ai=>sA 48 b9 ah ai λaj=>cF 16 [e] aj λak al=>lA 52 MX al λam=>cF 17 [e,am] al λan ao=>
 xT an 0 λap=>xT an 1 λ_=>aL 48 ao λU aq=>sA 48 U ap aq λar=>eM ji (n3 52 [(0,(i 2))].toArray) λasx=>cF 17 [e,asx] ar λau av=>xT au 0 λaw=>
 xT au 1 λ_=>aL 48 av λV ax=>sA 48 V aw ax λay=>lA 52 M ay λaz=>cF 17 [e,az] ay λa0 a1=>xT a0 0 λ_=>xT a0 1 λ_=>lA 52 M a1 λa2=>cF 17 [e,a2] a1 λa3 a4=>
 xT a3 0 λa5=>xT a3 1 λa6=>aL 48 a4 λa8 a9=>sA 48 a8 a5 a9 λba=>cF 19 [e] ba λI bc=>bS 28 1 [(0,(i 1))] bc λbd be=>eM ji (n3 52 [(0,(i 3)),(3,bd)].toArray) λbf=>
 cF 17 [e,bf] be λbg bh=>xT bg 0 λbi=>xT bg 1 λ_=>aL 48 bh λW bj=>sA 48 W bi bj λbk=>cF 18 [e] bk λbl bm=>cF 49 [e] bm λbn bo=>aL 54 bo λO bp=>
 sA 54 O bl bp λbq=>bB .eql 42 I (.pointer none) λbr=>cV br (K ff bq) (lA 52 MX bq λbs=>cF 17 [I,bs] bq λbt bu=>xT bt 0 λbv=>xT bt 1 λ_=>aL 48 bu λv23 bw=>
 sA 48 v23 bv bw λbx=>cF 18 [I] bx λbz b0=>aL 54 b0 λba b1=>sA 54 ba bz b1 λb2=>cQ (λB=>bB .eql 37 k (i 8) λb3=>cV b3 (lA 48 a7 b2 λb4=>eM ji (n3 48 [(0,(i 3)),(3,(i 1))].toArray) λb5=>
 bA .eql 48 b4 b5 λb6=>cV b6 (bB .eql 37 ab (i 0) λb7=>cV b7 (lA 48 b9 b2 λb8=>eM ji (n3 48 [(0,(i 2)),(3,(i 1))].toArray) λca=>bA .eql 48 b8 ca λcb=>
 cV cb (lA 52 M b2 λcc=>eM ji (n3 52 [(0,(i 2))].toArray) λcd=>lA 52 MX b2 λce=>bS 45 3 [(0,cc),(1,cd),(2,ce)] b2 λcf cg=>cF 20 [ak,cf] cg λch E=>
 cV ch (lA 48 U E λcj=>eM ji (n3 48 [(0,(i 1)),(1,(i 1))].toArray) λck=>bA .eql 48 cj ck λcl=>cV cl (lA 48 V E λcm=>eM ji (n3 48 [(0,(i 12)),(3,(i 1))].toArray) λcn=>
 bA .eql 48 cm cn λco=>cV co (bB .eql 37 a6 (i 13) λcp=>cV cp (lA 48 W E λcq=>eM ji (n3 48 [(0,(i 15)),(3,(i 1))].toArray) λcr=>bA .eql 48 cq cr λcs=>
 cV cs (lA 54 O E λct=>eM ji (n3 54 [(0,(i 1)),(3,tt)].toArray) λcu=>bA .eql 54 ct cu λcv=>cV cv (bS 105 1 [(0,tt)] E λcw cx=>cF 50 [bn,cw] cx λcy J=>
 cV cy (lA 48 v23 J λc0=>eM ji (n3 48 [(0,(i 16)),(1,(i 1)),(2,(i 1))].toArray) λc1=>bA .eql 48 c0 c1 λc2=>cV c2 (lA 54 ba J λc3=>eM ji (n3 54 [(1,(i 1)),(2,(i 1))].toArray) λc4=>
 bA .eql 54 c3 c4 λc5=>cV c5 (cF 16 [I] J λc6 c7=>lN 45 c6 λc8=>bB .eql 3 c8 (i 0) λc9=>cV c9 (cF 31 [I] c7 λda db=>lN 45 da λdc=>bB .eql 3 dc (i 0) λdd=>
 cV dd (cF 25 [I,(i 0)] db λde df=>bS 28 1 [(0,(i 1))] df λdg dh=>cF 21 [de,dg] dh λdi dj=>cV di (cF 25 [I,(i 2)] dj λdk dl=>lN 28 dk λdm=>bB .eql 3 dm (i 0) λdn=>
 cV dn (cF 22 [e] dl λdp dq=>bS 28 2 [(0,(i 1)),(1,(i 0))] dq λdr ds=>cF 21 [dp,dr] ds λdt du=>cV dt (cF 23 [e] du λdv dw=>bS 28 1 [(0,(i 1))] dw λdx dy=>cF 21 [dv,dx] dy λdz d0=>
 B dz d0) (B ff du)) (B ff dl)) (B ff dj)) (B ff db)) (B ff c7)) (B ff J)) (B ff J)) (B ff J)) (B ff E)) (B ff E)) (B ff E)) (B ff E)) (B ff E)) (B ff E)) (
 B ff b2)) (B ff b2)) (B ff b2)) (B ff b2)) (λd1 d2=>∀_:Env,
 K d1 d2))))
theorem amI(h:S14 w K):CR 14 [] w K:=
 kB 204 (λ_=>.nil) 1 [.tmp 0] Tryz.func14 h
def S16(M:Value):Prop:=
 nC M λa=>fA 115 a 6 λb=>lA 3 b w λc=>bB .neq 3 c (i 0) λd=>cV d (K (.slice none 0 0) w) (nC M λe=>fA 115 e 4 λf=>lA 113 f w λg=>lN 113 g λh=>nc (λE J j k=>∀_:Env,
 bA .lss 3 j h λl=>cV l (iA 113 g j λn=>lA 119 n k λo=>cQ (λV=>cF 56 [M,o] k λp q=>cV p (eM ji (n3 52 [(0,(i 1)),(1,j)].toArray) λr=>
 bS 45 1 [(0,r)] q λs t=>aP 45 J s t λu v=>V u v) (V J q)) (λmn x=>∀_:Env,
 nC o λy=>fA 122 y 0 λz=>lA 109 z x λaa=>cF 57 [aa] x λW ac=>lN 28 W λad=>nc (λO U I B=>∀_:Env,
 bA .lss 3 I ad λag=>cV ag (iA 28 W I λah=>lA 3 ah B λai=>eM ji (n3 52 [(0,(i 2)),(1,j),(2,ai)].toArray) λaj=>bS 45 1 [(0,aj)] B λak al=>
 aP 45 U ak al λam an=>bB .add 3 I (i 1) λao=>O am ao an) (bB .add 3 j (i 1) λap=>E U ap B)) λO=>O mn (i 0) ac)) (K J k)) λE=>E (.slice none 0 0) (i 0) w)
theorem amJ(B:Value)(h:S16 w K B):CR 16 [B] w K:=
 kB 50 (λ_=>.nil) 4 [.tmp 2] Tryz.func16 h
def S17(B p1:Value):Prop:=
 nU ji (sZ 52 p1) w λp3 a=>aL 48 a λb c=>cQ (λI=>fA 52 p3 0 λd=>lA 3 d (drew c) λe=>bB .eql 3 e (i 3) λf=>cV f (fA 52 p3 1 λg=>lA 3 g (drew c) λh=>
 bB .eql 3 h (i 0) λj=>cV j (fA 52 p3 2 λk=>lA 3 k (drew c) λl=>bB .eql 3 l (i 0) λn=>cV n (nC B λo=>fA 115 o 6 λp=>lA 3 p (drew c) λq=>bB .eql 3 q (i 0) λs=>
 cV s (nC B λt=>fA 115 t 2 λu=>lA 112 u (drew c) λv=>fA 52 p3 3 λx=>lA 28 x (drew c) λy=>cF 58 [v,y] (drew c) λz aa=>bB .eql 37 z (i 0) λab=>I ab aa) (
 I ff (drew c))) (I ff (drew c))) (I ff (drew c))) (I ff (drew c))) (λac M=>∀_:Env,
 cV ac (nC B λae=>fA 115 ae 5 λaf=>lA 3 af M λag=>bB .add 3 ag (i 1) λah=>nC B λai=>fA 115 ai 5 λaj=>sA 3 aj ah M λU=>nC B λal=>fA 115 al 0 λam=>
 fA 36 am 5 λan=>lA 33 an U λao=>bS 30 1 [(0,ao)] U λap aq=>cF 55 [B,ap] aq λ_ ar=>fA 52 p3 3 λJ=>lA 28 J ar λau=>cF 59 [au] ar λav aw=>eM ji (n3 48 [(0,(i 15)),(3,av)].toArray) λax=>
 sA 48 b ax aw λV=>lA 48 b V λr=>K (.tuple #[r,(i 0)]) V) (cF 16 [B] M λaz a0=>cF 61 [az,(.func (Go.Fn.func 60) [].toArray [p3].toArray)] a0 λa1 E=>eM ji (Op.unary .not a1) λa3=>
 cV a3 (eM ji (n3 48 [].toArray) λa4=>sA 48 b a4 E λa5=>lA 48 b a5 λHH=>K (.tuple #[HH,(i 13)]) a5) (fA 52 p3 0 λa6=>lA 3 a6 E λa7=>bB .eql 3 a7 (i 2) λa8=>
 cV a8 (lA 52 p3 E λa9=>cF 62 [B,a9] E λba bb=>sA 48 b ba bb λbc=>lA 48 b bc λMY=>K (.tuple #[MY,(i 0)]) bc) (fA 52 p3 1 λbd=>lA 3 bd E λbe=>cF 63 [B,be] E λbf bg=>
 sA 48 b bf bg λW=>lA 48 b W λO=>K (.tuple #[O,(i 0)]) W))))
def P17:dG:=λi=>match i with
 | 1=>.run 0 30
 | _=>.nil
theorem amK(B p1:Value)(h:S17 w K B p1):CR 17 [B,p1] w K:=
 kB 73 P17 48 [.cell 4 48,.tmp 5] Tryz.func17 h
def P18:dG:=λi=>match i with
 | 2=>(.of [(0,[]),(1,[]),(2,[]),(3,[]),(4,[]),(5,[]),(6,[]),(7,[]),(8,[]),(9,[]),(10,[]),(11,[]),(12,[]),(13,[3,7,11]),(14,[])])
 | _=>.nil
def P19:dG:=λi=>match i with
 | 2=>(.of [(0,[]),(1,[]),(2,[]),(3,[]),(5,[]),(6,[]),(7,[]),(8,[]),(4,[8]),(9,[]),(10,[]),(11,[]),(12,[]),(13,[]),(14,[]),(15,[])])
 | 7=>(.of [(0,[]),(1,[]),(2,[]),(3,[]),(5,[]),(6,[]),(7,[]),(8,[]),(10,[]),(11,[]),(12,[]),(13,[]),(4,[8,13]),(9,[13]),(14,[]),(15,[]),(16,[]),(17,[]),(18,[]),(19,[]),(20,[])])
 | _=>.nil
def P20:dG:=λi=>match i with
 | 6=>.run 0 51
 | _=>.nil
def S21(a0 b1:Value):Prop:=
 lN 28 a0 λa=>lN 28 b1 λb=>bA .neq 3 a b λc=>cV c (K ff w) (iT (λE B d=>∀_:Env,
 lN 28 a0 λe=>bA .lss 3 B e λf=>cV f (iA 28 a0 B λg=>lA 3 g (drew d) λh=>iA 28 b1 B λj=>lA 3 j (drew d) λk=>bA .neq 3 h k λl=>cV l (K ff (drew d)) (bB .add 3 B (i 1) λn=>
 E n (drew d))) (K tt d)) λE=>E (i 0) w)
def P21:dG:=λi=>match i with
 | 6=>.run 0 9
 | _=>.nil
theorem amL(a0 b1:Value)(h:S21 w K a0 b1):CR 21 [a0,b1] w K:=
 kB 26 P21 16 [.tmp 4] Tryz.func21 h
def S26(M E:Value):Prop:=
 nU ji (sZ 36 M) w λB a=>lA 36 B a λb=>cF 74 [b] a λc d=>eM ji (Op.unary .not c) λe=>cV e (K (.tuple #[(.pointer none),(i 8)]) d) (cF 75 [E] d λf g=>
 xT f 0 λ_=>xT f 1 λh=>bB .neq 37 h (i 0) λj=>cV j (K (.tuple #[(.pointer none),h]) g) (fA 36 B 0 λk=>lA 28 k g λl=>fA 36 B 1 λn=>lA 3 n g λo=>fA 36 B 2 λp=>
 lA 28 p g λq=>cF 76 [l,o,q] g λr s=>xT r 0 λt=>xT r 1 λ_=>lA 36 B s λu=>eM ji (n3 75 [(0,u),(1,E),(3,t)].toArray) λv=>nU ji (sZ 75 v) s λx y=>
 fA 36 B 4 λz=>lA 30 z y λI=>cF 77 [x,I] y λ_ J=>K (.tuple #[x,(i 0)]) J))
theorem amM(B E:Value)(h:S26 w K B E):CR 26 [B,E] w K:=
 kB 42 (λ_=>.nil) 48 [.tmp 4,.tmp 5] Tryz.func26 h
theorem aBC:PL 11:=eL Tryz.func11
theorem asN:PL 12:=eL Tryz.func12
theorem asO:PL 14:=eL Tryz.func14
theorem amN:PL 15:=eL Tryz.func15
theorem MZ:PL 16:=eL Tryz.func16
theorem KJ:PL 17:=eL Tryz.func17
theorem amO:PL 18:=eL Tryz.func18
theorem asP:PL 19:=eL Tryz.func19
theorem amP:PL 20:=eL Tryz.func20
theorem O8:PL 21:=eL Tryz.func21
theorem amQ:PL 22:=eL Tryz.func22
theorem asQ:PL 23:=eL Tryz.func23
theorem amR:PL 24:=eL Tryz.func24
theorem afL:PL 25:=eL Tryz.func25
theorem aBD:PL 26:=eL Tryz.func26
variable (w:World) (K:Value->jj)
def S27(B E:Value):Prop:=
 cQ (λO=>cF 16 [B] (drew w) λa b=>cF 32 [E] b λc d=>cF 20 [a,c] d λe f=>eM ji (Op.unary .not e) λg=>cV g (O tt f) (cF 18 [B] f λh j=>cF 78 [E] j λk l=>
 bA .neq 54 h k λn=>cV n (O tt l) (nC E λo=>fA 75 o 3 λp=>lA 72 p l λq=>nC q λr=>fA 143 r 2 λs=>lA 28 s l λt=>cF 22 [B] l λu v=>kA 72 p q v (kA 28 s t v (
 cF 21 [u,t] v λx y=>eM ji (Op.unary .not x) λz=>cV z (O tt y) (nC E λaa=>fA 75 aa 3 λab=>lA 72 ab y λac=>nC ac λad=>fA 143 ad 3 λae=>lA 28 ae y λaf=>
 cF 23 [B] y λag ah=>kA 72 ab ac ah (kA 28 ae af ah (cF 21 [ag,af] ah λai aj=>eM ji (Op.unary .not ai) λak=>cV ak (O tt aj) (cF 49 [B] aj λal am=>cF 79 [E] am λan ao=>
 cF 50 [al,an] ao λap aq=>eM ji (Op.unary .not ap) λar=>O ar aq))))))))) (λasx au=>∀_:Env,
 cV asx (K ff au) (iT (λW J I=>∀_:Env,
 nC E λaw=>fA 75 aw 5 λax=>lA 73 ax I λay=>lN 73 ay λaz=>bA .lss 3 J az λa0=>cV a0 (cQ (λK3=>nC E λa1=>fA 75 a1 5 λa2=>lA 73 a2 (drew I) λa3=>
 iA 73 a3 J λa4=>lA 146 a4 (drew I) λa5=>nC a5 λa6=>fA 145 a6 2 λa7=>lA 28 a7 (drew I) λa8=>cF 25 [B,J] (drew I) λa9 V=>kA 73 a2 a3 V (kA 146 a4 a5 V (
 kA 28 a7 a8 V (cF 21 [a9,a8] V λbb M=>eM ji (Op.unary .not bb) λbd=>cV bd (K3 tt M) (nC E λbe=>fA 75 be 5 λbf=>lA 73 bf M λbg=>iA 73 bg J λbh=>
 lA 146 bh M λbi=>nC bi λbj=>fA 145 bj 4 λbk=>lA 136 bk M λbl=>nC bl λbm=>fA 148 bm 1 λbn=>lA 80 bn M λbo=>cF 35 [B,J] M λbp U=>kA 73 bf bg U (
 kA 146 bh bi U (kA 136 bk bl U (kA 80 bn bo U (cF 36 [bp,bo] U λbr bs=>eM ji (Op.unary .not br) λbt=>K3 bt bs))))))))) (λbu bv=>∀_:Env,
 cV bu (K ff bv) (bB .add 3 J (i 1) λbw=>W bw bv))) (cQ (λK4=>nC E λbx=>fA 75 bx 5 λbz=>lA 73 bz I λb0=>lN 73 b0 λb1=>cF 25 [B,b1] I λb2 b3=>lN 28 b2 λb4=>
 bB .eql 3 b4 (i 0) λb5=>cV b5 (cF 35 [B,(i (-1))] b3 λb6 b7=>lN 80 b6 λb8=>bB .eql 3 b8 (i 0) λb9=>K4 b9 b7) (K4 ff b3)) (λca cb=>∀_:Env,
 K ca cb))) λW=>W (i 0) au))
def P27:dG:=λi=>match i with
 | 1=>(.of [(0,[]),(2,[]),(1,[]),(3,[]),(4,[]),(5,[]),(6,[]),(7,[]),(9,[]),(8,[]),(10,[]),(11,[]),(12,[]),(13,[]),(14,[]),(16,[]),(17,[]),(18,[]),(19,[]),(20,[]),(21,[]),(22,[]),(15,[19,22]),(23,[]),(24,[]),(25,[]),(26,[]),(27,[]),(29,[]),(30,[]),(31,[]),(32,[]),(33,[]),(34,[]),(35,[]),(28,[32,35]),(36,[]),(37,[]),(38,[]),(39,[]),(40,[]),(42,[]),(41,[]),(43,[]),(44,[]),(45,[]),(46,[])])
 | 6=>(.of [(0,[]),(1,[]),(3,[]),(4,[]),(5,[]),(6,[]),(7,[]),(8,[]),(9,[]),(10,[]),(11,[]),(12,[]),(2,[6,9,12]),(13,[]),(14,[]),(15,[]),(16,[]),(17,[]),(19,[]),(20,[]),(21,[]),(22,[]),(23,[]),(24,[]),(25,[]),(26,[]),(27,[]),(28,[]),(29,[]),(30,[]),(31,[]),(18,[22,25,28,31]),(32,[]),(33,[]),(34,[])])
 | _=>.nil
theorem amS(E B:Value)(h:S27 w K E B):CR 27 [E,B] w K:=
 kB 112 P27 16 [.tmp 4] Tryz.func27 h
def S28(M:Value):Prop:=
 nc (λB E I a=>∀_:Env,
 cQ (λJ=>lN 28 M λb=>bA .lss 3 I b λc=>cV c (bB .leq 3 E (i 100) λd=>J d a) (J ff a)) (λe f=>∀_:Env,
 cV e (iA 28 M I λg=>lA 3 g f λh=>bB .add 3 h (i 1) λj=>bA .mul 3 E j λk=>bB .add 3 I (i 1) λl=>B k l f) (K E f))) (λB=>B (i 1) (i 0) w)
theorem amT(B:Value)(h:S28 w K B):CR 28 [B] w K:=
 kB 23 (λ_=>.nil) 4 [.tmp 2] Tryz.func28 h
def S29(B:Value):Prop:=
 cF 80 [B] w λa b=>nU ji (J4 28 a a) b λc d=>iT (λE I e=>∀_:Env,
 nC B λf=>fA 143 f 4 λg=>lA 141 g e λh=>lN 141 h λj=>bA .lss 3 I j λk=>cV k (nC B λl=>fA 143 l 4 λn=>lA 141 n e λo=>iA 141 o I λp=>fA 151 p 0 λq=>
 lA 3 q e λr=>iA 28 c r λs=>lA 3 s e λt=>bB .add 3 t (i 1) λu=>iA 28 c r λv=>sA 3 v u e λx=>bB .add 3 I (i 1) λy=>E y x) (K c e)) (λE=>E (i 0) d)
theorem amU(B:Value)(h:S29 w K B):CR 29 [B] w K:=
 kB 35 (λ_=>.nil) 4 [.tmp 2] Tryz.func29 h
def S30(I:Value):Prop:=
 bS 45 0 [] w λa b=>nC I λc=>fA 75 c 3 λd=>lA 72 d b λe=>cF 81 [e] b λf g=>nc (λB J E h=>∀_:Env,
 cQ (λM=>lN 152 f λj=>bA .lss 3 E j λk=>cV k (nC I λl=>fA 75 l 6 λn=>lA 3 n h λo=>bB .eql 3 o (i 0) λp=>M p h) (M ff h)) (λq r=>∀_:Env,
 cV q (iA 152 f E λs=>lA 28 s r λt=>eM ji (n3 52 [(0,(i 3)),(3,t)].toArray) λu=>bS 45 1 [(0,u)] r λv x=>aP 45 J v x λy z=>bB .add 3 E (i 1) λO=>
 B y O z) (K J r))) (λB=>B a (i 0) g)
theorem amV(B:Value)(h:S30 w K B):CR 30 [B] w K:=
 kB 34 (λ_=>.nil) 4 [.tmp 2] Tryz.func30 h
def S32(E:Value):Prop:=
 bS 45 0 [] w λa b=>nc (λJ O B c=>∀_:Env,
 cQ (λK2=>nC E λd=>fA 75 d 5 λe=>lA 73 e c λf=>lN 73 f λg=>bA .lss 3 B g λh=>cV h (nC E λj=>fA 75 j 6 λk=>lA 3 k c λl=>bB .eql 3 l (i 0) λn=>
 K2 n c) (K2 ff c)) (λo p=>∀_:Env,
 cV o (cQ (λK3=>nC E λq=>fA 75 q 5 λr=>lA 73 r p λs=>iA 73 s B λt=>lA 146 t p λu=>cF 83 [E,u] p λv x=>cV v (eM ji (n3 52 [(0,(i 1)),(1,B)].toArray) λy=>
 bS 45 1 [(0,y)] x λz aa=>aP 45 O z aa λab ac=>K3 ab ac) (K3 O x)) (λmn I=>∀_:Env,
 nC E λae=>fA 75 ae 5 λaf=>lA 73 af I λag=>iA 73 ag B λah=>lA 146 ah I λai=>nC ai λaj=>fA 145 aj 4 λak=>lA 136 ak I λal=>cF 84 [al] I λam an=>
 nc (λM Cu V U=>∀_:Env,
 lN 28 am λap=>bA .lss 3 V ap λaq=>cV aq (iA 28 am V λar=>lA 3 ar U λW=>eM ji (n3 52 [(0,(i 2)),(1,B),(2,W)].toArray) λau=>bS 45 1 [(0,au)] U λav aw=>
 aP 45 Cu av aw λax ay=>bB .add 3 V (i 1) λaz=>M ax az ay) (bB .add 3 B (i 1) λa0=>J Cu a0 U)) λM=>M mn (i 0) an)) (K O p))) (λJ=>J a (i 0) b)
theorem amW(B:Value)(h:S32 w K B):CR 32 [B] w K:=
 kB 65 (λ_=>.nil) 4 [.tmp 2] Tryz.func32 h
def S33(E p1:Value):Prop:=
 nU ji (sZ 52 p1) w λp3 a=>aL 48 a λb c=>fA 52 p3 0 λd=>lA 3 d c λe=>bB .eql 3 e (i 3) λf=>cV f (nC E λg=>fA 75 g 3 λh=>lA 72 h (drew c) λj=>
 fA 52 p3 3 λk=>lA 28 k (drew c) λl=>cF 85 [j,l] (drew c) λn o=>xT n 0 λ_=>xT n 1 λp=>cQ (λO=>fA 52 p3 1 λq=>lA 3 q o λs=>bB .neq 3 s (i 0) λt=>
 cV t (O tt o) (fA 52 p3 2 λu=>lA 3 u o λv=>bB .neq 3 v (i 0) λx=>cV x (O tt o) (bB .neq 37 p (i 0) λy=>cV y (O tt o) (nC E λz=>fA 75 z 6 λaa=>lA 3 aa o λab=>
 bB .neq 3 ab (i 0) λac=>O ac o)))) (λad U=>∀_:Env,
 cV ad (eM ji (n3 48 [].toArray) λaf=>sA 48 b af U λag=>lA 48 b ag λr=>K (.tuple #[r,(i 13)]) ag) (nC E λah=>fA 75 ah 3 λai=>lA 72 ai (drew U) λaj=>
 fA 52 p3 3 λak=>lA 28 ak (drew U) λal=>cF 86 [aj,al] (drew U) λ_ am=>nC E λan=>fA 75 an 2 λao=>lA 3 ao am λap=>bB .add 3 ap (i 1) λaq=>nC E λar=>
 fA 75 ar 2 λasx=>sA 3 asx aq am λau=>nC E λav=>fA 75 av 0 λaw=>fA 36 aw 5 λax=>lA 33 ax au λay=>bS 30 1 [(0,ay)] au λaz a0=>cF 77 [E,az] a0 λ_ a1=>
 fA 52 p3 3 λa2=>lA 28 a2 a1 λa3=>cF 87 [a3] a1 λa4 a5=>eM ji (n3 48 [(0,(i 15)),(3,a4)].toArray) λa6=>sA 48 b a6 a5 λa7=>lA 48 b a7 λHH=>
 K (.tuple #[HH,(i 0)]) a7))) (cF 32 [E] c λJ a9=>iT (λV I B=>∀_:Env,
 lN 45 J λbb=>bA .lss 3 I bb λbc=>cV bc (cQ (λM=>iA 45 J I λbd=>fA 52 bd 0 λbe=>lA 3 be (drew B) λbf=>fA 52 p3 0 λbg=>lA 3 bg (drew B) λbh=>
 bA .eql 3 bf bh λbi=>cV bi (iA 45 J I λbj=>fA 52 bj 1 λbk=>lA 3 bk (drew B) λbl=>fA 52 p3 1 λbm=>lA 3 bm (drew B) λbn=>bA .eql 3 bl bn λbo=>cV bo (
 iA 45 J I λbp=>fA 52 bp 2 λbq=>lA 3 bq (drew B) λbr=>fA 52 p3 2 λbs=>lA 3 bs (drew B) λbt=>bA .eql 3 br bt λbu=>cV bu (fA 52 p3 3 λbv=>lA 28 bv (drew B) λbw=>
 lN 28 bw λbx=>bB .eql 3 bx (i 0) λbz=>M bz (drew B)) (M ff (drew B))) (M ff (drew B))) (M ff (drew B))) (λb0 b1=>∀_:Env,
 cV b0 (fA 52 p3 0 λb2=>lA 3 b2 b1 λb3=>bB .eql 3 b3 (i 2) λb4=>cV b4 (fA 52 p3 1 λb5=>lA 3 b5 b1 λb6=>fA 52 p3 2 λb7=>lA 3 b7 b1 λb8=>cF 88 [E,b6,b8] b1 λb9 ca=>
 sA 48 b b9 ca λcb=>lA 48 b cb λMY=>K (.tuple #[MY,(i 0)]) cb) (fA 52 p3 1 λcc=>lA 3 cc b1 λcd=>cF 89 [E,cd] b1 λce cf=>sA 48 b ce cf λcg=>lA 48 b cg λW=>
 K (.tuple #[W,(i 0)]) cg)) (bB .add 3 I (i 1) λch=>V ch b1))) (eM ji (n3 48 [].toArray) λci=>sA 48 b ci B λcj=>lA 48 b cj λr_4=>K (.tuple #[r_4,(i 13)]) cj))
 λV=>V (i 0) a9)
def P33:dG:=λi=>match i with
 | 2=>.run 0 12
 | 5=>.run 0 7
 | 13=>.run 0 34
 | _=>.nil
theorem amX(B p1:Value)(h:S33 w K B p1):CR 33 [B,p1] w K:=
 kB 126 P33 48 [.cell 4 48,.tmp 5] Tryz.func33 h
def S36(a0 b1:Value):Prop:=
 lN 80 a0 λa=>lN 80 b1 λb=>bA .neq 3 a b λc=>cV c (K ff w) (iT (λE B d=>∀_:Env,
 lN 80 a0 λe=>bA .lss 3 B e λf=>cV f (iA 80 a0 B λg=>lA 161 g (drew d) λh=>iA 80 b1 B λj=>lA 161 j (drew d) λk=>bA .neq 161 h k λl=>cV l (K ff (drew d)) (
 bB .add 3 B (i 1) λn=>E n (drew d))) (K tt d)) λE=>E (i 0) w)
def P36:dG:=λi=>match i with
 | 6=>.run 0 9
 | _=>.nil
theorem amY(a0 b1:Value)(h:S36 w K a0 b1):CR 36 [a0,b1] w K:=
 kB 26 P36 16 [.tmp 4] Tryz.func36 h
def P38:dG:=λi=>match i with
 | 5=>(.op 0 [] (.op 1 [] (.op 2 [] (.op 3 [] (.op 4 [] (.op 5 [] (.op 6 [] (.op 7 [] (.op 8 [] (.op 9 [] (.op 10 [] (.op 11 [] (.op 12 [] (.op 13 [] (.op 14 [] (.op 15 [] (.op 16 [] (.op 17 [] (.op 18 [] (.op 19 [] (.op 20 [] (.op 21 [] (.op 22 [] (.alt 23 [4,9,17] (.of [(24,[]),(25,[4,9,17,22]),(26,[])]) (.alt 25 [4,9,17,22] (.of [(23,[4,9,17]),(24,[]),(26,[])]) .stop)))))))))))))))))))))))))
 | 9=>(.of [(0,[]),(1,[]),(2,[]),(3,[]),(4,[]),(5,[]),(6,[]),(7,[]),(8,[]),(9,[]),(10,[]),(11,[]),(12,[]),(13,[]),(14,[]),(15,[]),(16,[]),(17,[]),(18,[]),(19,[]),(20,[]),(21,[1]),(22,[]),(23,[]),(24,[])])
 | _=>.nil
def S40(p0:Value):Prop:=
 nU ji (sZ 27 p0) w λp1 a=>lA 27 p1 a λb=>cF 93 [b] a λc d=>eM ji (Op.unary .not c) λe=>cV e (K (.tuple #[(i 8),(i 0)]) d) (lA 27 p1 d λf=>
 cF 94 [f] d λg h=>cV g (K (.tuple #[(i 2),(i 0)]) h) (lA 27 p1 h λj=>cF 95 [j] h λk l=>iT (λK1 i5 n=>∀_:Env,
 lN 24 k λo=>bA .lss 3 i5 o λp=>cV p (iA 24 k i5 λq=>fA 98 q 2 λr=>lA 96 r n λs=>cF 96 [s,(i 1)] n λt u=>bB .geq 3 t (i 0) λv=>cV v (K (.tuple #[(i 11),t]) u) (
 bB .add 3 i5 (i 1) λx=>K1 x u)) (lA 27 p1 n λy=>cF 97 [y] n λz aa=>bB .geq 3 z (i 0) λab=>cV ab (K (.tuple #[(i 10),z]) aa) (iT (λK2 O ac=>∀_:Env,
 lN 24 k λad=>bA .lss 3 O ad λae=>cV ae (iT (λK3 W M=>∀_:Env,
 iA 24 k O λag=>fA 98 ag 1 λah=>lA 95 ah M λai=>lN 95 ai λaj=>bA .lss 3 W aj λak=>cV ak (iA 24 k O λal=>fA 98 al 1 λam=>lA 95 am M λan=>iA 95 an W λao=>
 lA 9 ao M λap=>cQ (λK4=>iA 24 k O λaq=>fA 98 aq 1 λar=>lA 95 ar M λasx=>cF 98 [asx,ap] M λau av=>bA .lss 3 au W λaw=>cV aw (K4 tt av) (lA 27 p1 av λax=>
 cF 46 [ax] av λay az=>cF 98 [ay,ap] az λa0 a1=>bB .geq 3 a0 (i 0) λa2=>cV a2 (K4 tt a1) (lA 27 p1 a1 λa3=>cF 99 [a3] a1 λa4 a5=>cF 98 [a4,ap] a5 λa6 a7=>
 bB .geq 3 a6 (i 0) λa8=>K4 a8 a7))) (λa9 ba=>∀_:Env,
 cV a9 (iA 24 k O λbb=>fA 98 bb 3 λbc=>lA 3 bc (drew ba) λbd=>K (.tuple #[(i 10),bd]) (drew ba)) (bB .add 3 W (i 1) λbe=>K3 be ba))) (bB .add 3 O (i 1) λbf=>
 K2 bf M)) λK3=>K3 (i 0) ac) (iT (λK5 B V=>∀_:Env,
 lN 24 k λbh=>bA .lss 3 B bh λbi=>cV bi (iT (λK6 J I=>∀_:Env,
 iA 24 k B λbk=>fA 98 bk 2 λbl=>lA 96 bl I λbm=>lN 96 bm λbn=>bA .lss 3 J bn λbo=>cV bo (lA 27 p1 (drew I) λbp=>iA 24 k B λbq=>lA 98 bq (drew I) λbr=>
 iA 24 k B λbs=>fA 98 bs 2 λbt=>lA 96 bt (drew I) λbu=>iA 96 bu J λbv=>lA 173 bv (drew I) λbw=>cF 100 [bp,br,bw] (drew I) λbx bz=>bB .geq 3 bx (i 0) λb0=>
 cV b0 (K (.tuple #[(i 9),bx]) bz) (bB .add 3 J (i 1) λb1=>K6 b1 bz)) (bB .add 3 B (i 1) λb2=>K5 b2 I)) λK6=>K6 (i 0) V) (lA 27 p1 (drew V) λb3=>lA 27 p1 (drew V) λb4=>
 cF 46 [b3] (drew V) λb5 b6=>kA 27 p1 b4 b6 (cF 41 [b4] b6 λb7 b8=>eM ji (rr 95 b5 none (some b7) none) λb9=>iT (λK7 E U=>∀_:Env,
 fA 27 p1 5 λcb=>lA 25 cb U λcc=>lN 25 cc λcd=>bA .lss 3 E cd λce=>cV ce (fA 27 p1 5 λcf=>lA 25 cf U λcg=>iA 25 cg E λch=>fA 89 ch 0 λci=>lA 86 ci U λcj=>
 cF 101 [cj,b9] U λck cl=>bB .geq 3 ck (i 0) λcm=>cV cm (K (.tuple #[(i 9),ck]) cl) (bB .add 3 E (i 1) λcn=>K7 cn cl)) (K (.tuple #[(i 0),(i 0)]) U)) λK7=>K7 (i 0) b8)))
 λK5=>K5 (i 0) ac)) λK2=>K2 (i 0) aa))) λK1=>K1 (i 0) l))
def P40:dG:=λi=>match i with
 | 23=>.run 0 7
 | 30=>.run 0 15
 | 33=>(.of [(0,[]),(2,[]),(1,[2]),(3,[]),(4,[]),(5,[])])
 | _=>.nil
theorem amZ(p0:Value)(h:S40 w K p0):CR 40 [p0] w K:=
 kB 150 P40 12 [.tmp 2,.tmp 3] Tryz.func40 h
def P41:dG:=λi=>match i with
 | 1=>(.of [(0,[]),(3,[]),(4,[]),(5,[]),(1,[4]),(2,[]),(6,[]),(7,[])])
 | _=>.nil
def P44:dG:=λi=>match i with
 | 2=>(.of [(0,[]),(1,[]),(2,[]),(3,[]),(4,[]),(6,[]),(7,[]),(8,[]),(5,[1,6,8]),(9,[1]),(10,[]),(11,[])])
 | _=>.nil
def S45(B M:Value):Prop:=
 cF 105 [B] w λa b=>eM ji (Op.unary .not a) λc=>cV c (K (.tuple #[(.slice none 0 0),(i 8)]) b) (iT (λI E d=>∀_:Env,
 lN 86 B λe=>bA .lss 3 E e λf=>cV f (cQ (λJ=>iA 86 B E λg=>fA 166 g 0 λh=>lA 3 h d λj=>bB .eql 3 j (i 2) λk=>cV k (iA 86 B E λl=>fA 166 l 2 λn=>
 lA 9 n d λo=>cF 98 [M,o] d λp q=>bB .lss 3 p (i 0) λr=>J r q) (J ff d)) (λs t=>∀_:Env,
 cV s (K (.tuple #[(.slice none 0 0),(i 9)]) t) (bB .add 3 E (i 1) λu=>I u t))) (cF 106 [B,(i 0),M] d λv x=>K (.tuple #[v,(i 0)]) x)) λI=>I (i 0) b)
theorem am0(E B:Value)(h:S45 w K E B):CR 45 [E,B] w K:=
 kB 35 (λ_=>.nil) 48 [.tmp 4,.tmp 5] Tryz.func45 h
def S49(B:Value):Prop:=
 nC B λa=>fA 115 a 0 λb=>fA 36 b 6 λc=>lA 34 c w λd=>lN 34 d λe=>nc (λE I f g=>∀_:Env,
 bA .lss 3 f e λh=>cV h (cQ (λJ=>iA 34 d f λj=>lA 99 j g λk=>nC B λl=>fA 115 l 0 λn=>fA 36 n 1 λo=>lA 3 o (drew g) λp=>cF 22 [B] (drew g) λq r=>
 kA 3 o p r (eM ji (rr 28 q none (some p) none) λs=>cF 110 [k,s] r λt u=>xT t 0 λv=>xT t 1 λx=>bB .eql 37 x (i 0) λy=>cV y (bB .neq 3 v (i 0) λz=>
 bS 105 1 [(0,z)] u λW ab=>aP 105 I W ab λac ad=>J ac ad) (bS 105 1 [(0,ff)] u λU M=>aP 105 I U M λag V=>J ag V))) (λmn ai=>∀_:Env,
 bB .add 3 f (i 1) λO=>E mn O ai)) (K I g)) (λE=>E (.slice none 0 0) (i 0) w)
def P49:dG:=λi=>match i with
 | 5=>(.of [(0,[]),(1,[]),(3,[]),(4,[]),(5,[]),(6,[]),(7,[]),(2,[7]),(8,[]),(9,[]),(10,[]),(11,[]),(12,[]),(13,[]),(14,[])])
 | _=>.nil
theorem am1(B:Value)(h:S49 w K B):CR 49 [B] w K:=
 kB 42 P49 4 [.tmp 2] Tryz.func49 h
def P50:dG:=λi=>match i with
 | 6=>.run 0 9
 | _=>.nil
def S51(u0:Value):Prop:=
 nU ji (sZ 36 u0) w λB a=>cQ (λI=>fA 36 B 0 λb=>lA 28 b a λc=>lN 28 c λd=>bB .gtr 3 d (i 20) λe=>cV e (I tt a) (fA 36 B 1 λf=>lA 3 f a λg=>
 bB .lss 3 g (i 0) λh=>cV h (I tt a) (fA 36 B 1 λj=>lA 3 j a λk=>fA 36 B 0 λl=>lA 28 l a λn=>lN 28 n λo=>bA .gtr 3 k o λp=>cV p (I tt a) (fA 36 B 2 λq=>
 lA 28 q a λr=>lN 28 r λs=>fA 36 B 0 λt=>lA 28 t a λu=>lN 28 u λv=>bA .neq 3 s v λx=>cV x (I tt a) (fA 36 B 3 λy=>lA 3 y a λz=>bB .lss 3 z (i 0) λaa=>
 cV aa (I tt a) (fA 36 B 3 λab=>lA 3 ab a λac=>bB .gtr 3 ac (i 2) λad=>cV ad (I tt a) (fA 36 B 4 λae=>lA 30 ae a λaf=>lN 30 af λag=>bB .lss 3 ag (i 1) λah=>
 cV ah (I tt a) (fA 36 B 4 λai=>lA 30 ai a λaj=>lN 30 aj λak=>bB .gtr 3 ak (i 3) λal=>I al a)))))))) (λam an=>∀_:Env,
 cV am (K ff an) (fA 36 B 0 λao=>lA 28 ao an λap=>lN 28 ap λaq=>nc (λU M J E=>∀_:Env,
 bA .lss 3 J aq λau=>cV au (iA 28 ap J λav=>lA 3 av E λW=>cQ (λK3=>bB .gtr 3 J (i 0) λax=>cV ax (fA 36 B 1 λay=>lA 3 ay E λaz=>bA .lss 3 J az λa0=>
 cV a0 (bA .eql 3 W M λa1=>K3 a1 E) (K3 ff E)) (K3 ff E)) (λV a2=>∀_:Env,
 cQ (λK4=>eM ji (Op.unary .not V) λa3=>cV a3 (bB .add 3 M (i 1) λa4=>bA .neq 3 W a4 λa5=>K4 a5 a2) (K4 ff a2)) (λa6 a7=>∀_:Env,
 cV a6 (K ff a7) (bB .add 3 J (i 1) λa8=>U W a8 a7)))) (cQ (λO=>fA 36 B 2 λa9=>lA 28 a9 E λba=>cF 117 [ba,(.func (.func 111) #[] #[])] E λbb bc=>eM ji (Op.unary .not bb) λbd=>
 cV bd (fA 36 B 4 λbe=>lA 30 be bc λbf=>cF 118 [bf,(.func (Go.Fn.func 112) [].toArray [B].toArray)] bc λbg bh=>eM ji (Op.unary .not bg) λbi=>cV bi (fA 36 B 5 λbj=>
 lA 33 bj bh λbk=>kh ji (.func (Go.Fn.func 112) [].toArray [B].toArray) [bk] bh λbl bm=>eM ji (Op.unary .not bl) λbn=>cV bn (fA 36 B 6 λbo=>lA 34 bo bm λbp=>
 cF 119 [bp,(.func (Go.Fn.func 115) [].toArray [B].toArray)] bm λbq br=>eM ji (Op.unary .not bq) λbs=>O bs br) (O ff bm)) (O ff bh)) (O ff bc)) (λbt bu=>∀_:Env,
 K bt bu))) λU=>U (i (-1)) (i 0) an))
theorem am2(B:Value)(h:S51 w K B):CR 51 [B] w K:=
 kB 117 (λ_=>.nil) 4 [.tmp 2] Tryz.func51 h
def S52(B:Value):Prop:=
 cQ (λE=>bB .lss 3 B (i 1) λa=>cV a (E tt w) (bB .gtr 3 B (i 16) λb=>E b w)) (λc d=>∀_:Env,
 cV c (K (.tuple #[(.pointer none),(i 1)]) d) (eM ji (n3 197 [(0,B)].toArray) λe=>nU ji (sZ 197 e) d λf g=>K (.tuple #[f,(i 0)]) g))
theorem am3(B:Value)(h:S52 w K B):CR 52 [B] w K:=
 kB 13 (λ_=>.nil) 12 [.tmp 2,.tmp 3] Tryz.func52 h
def P53:dG:=λi=>match i with
 | 1=>(.of [(0,[]),(1,[]),(3,[]),(4,[]),(6,[]),(7,[]),(2,[4,7]),(9,[]),(5,[7]),(8,[]),(10,[]),(11,[]),(12,[]),(13,[]),(14,[])])
 | _=>.nil
def P55:dG:=λi=>match i with
 | 9=>(.op 0 [] (.op 1 [] (.op 2 [] (.op 3 [] (.op 5 [] (.op 6 [] (.alt 4 [1,6] (.of [(7,[1,3]),(8,[]),(9,[]),(10,[])]) (.alt 7 [1,3] (.of [(4,[1,6]),(8,[]),(9,[]),(10,[])]) .stop))))))))
 | _=>.nil
def P56:dG:=λi=>match i with
 | 17=>.run 0 14
 | _=>.nil
def S57(J:Value):Prop:=
 nC J λa=>fA 197 a 1 λb=>lA 80 b w λc=>lN 80 c λd=>nc (λB E e f=>∀_:Env,
 bA .lss 3 e d λg=>cV g (cQ (λI=>cF 124 [J,e] f λh j=>cV h (bS 28 1 [(0,e)] j λk l=>aP 28 E k l λn o=>I n o) (I E j)) (λM p=>∀_:Env,
 bB .add 3 e (i 1) λq=>B M q p)) (K E f)) (λB=>B (.slice none 0 0) (i 0) w)
theorem am4(B:Value)(h:S57 w K B):CR 57 [B] w K:=
 kB 22 (λ_=>.nil) 4 [.tmp 2] Tryz.func57 h
def P58:dG:=λi=>match i with
 | 5=>.run 0 9
 | _=>.nil
def S59(I:Value):Prop:=
 lN 28 I λa=>nc (λB E b c=>∀_:Env,
 bA .lss 3 b a λd=>cV d (iA 28 I b λe=>lA 3 e c λf=>bB .mul 3 E (i 10000) λg=>bA .add 3 g f λh=>bB .add 3 b (i 1) λj=>B h j c) (K E c)) (λB=>B (i 0) (i 0) w)
theorem am5(B:Value)(h:S59 w K B):CR 59 [B] w K:=
 kB 18 (λ_=>.nil) 4 [.tmp 2] Tryz.func59 h
def S62(M p1:Value):Prop:=
 nU ji (sZ 52 p1) w λp3 a=>aL 48 a λb c=>cQ (λV=>nC M λd=>fA 115 d 4 λe=>lA 113 e (drew c) λf=>fA 52 p3 1 λg=>lA 3 g (drew c) λh=>
 iA 113 f h λj=>lA 119 j (drew c) λk=>nC k λl=>fA 122 l 0 λn=>lA 109 n (drew c) λo=>fA 52 p3 2 λp=>lA 3 p (drew c) λq=>((cF 127 [o,q] (drew c) λs t=>
 xT s 0 λu=>xT s 1 λ_=>aL 161 t λv x=>kA 113 e f x (kA 3 g h x (kA 119 j k x (kA 109 n o x (kA 3 p q x (sA 161 v u x λy=>V v y))))))
 /\((aL 161 (drew c) λz I=>kA 113 e f I (kA 3 g h I (kA 119 j k I (kA 109 n o I (kA 3 p q I (cF 127 [o,q] I λab ac=>xT ab 0 λad=>xT ab 1 λ_=>sA 161 z ad ac λae=>
 V z ae))))))
 /\
 True))) (λE B=>∀_:Env,
 fA 161 E 0 λah=>lA 3 ah B λai=>bB .eql 3 ai (i 3) λaj=>cV aj (nC M λak=>fA 115 ak 2 λal=>lA 112 al (drew B) λam=>fA 161 E 2 λan=>lA 3 an (drew B) λao=>
 fA 161 E 3 λap=>lA 3 ap (drew B) λaq=>cF 128 [am,ao,aq] (drew B) λ_ J=>fA 52 p3 1 λO=>lA 3 O J λau=>fA 161 E 2 λav=>lA 3 av J λaw=>fA 161 E 3 λax=>
 lA 3 ax J λay=>eM ji (n3 48 [(0,(i 12)),(1,au),(2,aw),(3,ay)].toArray) λaz=>sA 48 b az J λa0=>lA 48 b a0 λr=>K r a0) (bB .eql 3 ai (i 7) λa1=>
 cV a1 (fA 52 p3 1 λa2=>lA 3 a2 B λa3=>eM ji (n3 48 [(0,(i 14)),(1,a3)].toArray) λa4=>sA 48 b a4 B λa5=>lA 48 b a5 λHH=>K HH a5) (nC M λa6=>
 fA 115 a6 2 λa7=>lA 112 a7 (drew B) λa8=>fA 161 E 1 λa9=>lA 3 a9 (drew B) λba=>cF 129 [a8,ba] (drew B) λ_ U=>fA 52 p3 1 λbc=>lA 3 bc U λbd=>fA 161 E 1 λbe=>
 lA 3 be U λbf=>eM ji (n3 48 [(0,(i 13)),(1,bd),(2,bf)].toArray) λbg=>sA 48 b bg U λW=>lA 48 b W λMY=>K MY W)))
def P62:dG:=λi=>match i with
 | 1=>(.op 0 [] (.op 1 [] (.op 2 [] (.op 3 [] (.op 4 [] (.op 5 [] (.op 6 [] (.op 7 [] (.op 8 [] (.op 9 [] (.op 10 [] (.op 11 [] (.op 12 [] (.alt 13 [] (.of [(14,[]),(15,[]),(16,[]),(17,[3,5,7,10,12]),(18,[]),(19,[])]) (.alt 17 [3,5,7,10,12] (.of [(13,[]),(14,[]),(15,[]),(16,[]),(18,[]),(19,[])]) .stop)))))))))))))))
 | 4=>.run 0 9
 | 8=>.run 0 7
 | _=>.nil
theorem am6(B p1:Value)(h:S62 w K B p1):CR 62 [B,p1] w K:=
 kB 61 P62 16 [.cell 4 48] Tryz.func62 h
def S63(I E:Value):Prop:=
 aL 48 w λa b=>nC I λc=>fA 115 c 4 λd=>lA 113 d b λe=>iA 113 e E λf=>lA 119 f b λg=>nC g λh=>fA 122 h 5 λj=>lA 3 j b λk=>bB .neq 3 k (i 0) λl=>
 cV l (nC g λn=>fA 122 n 5 λo=>lA 3 o b λp=>nC I λq=>fA 115 q 6 λs=>sA 3 s p b λt=>nC I λu=>fA 115 u 7 λv=>sA 3 v E t λx=>nC g λy=>fA 122 y 5 λz=>
 lA 3 z x λaa=>eM ji (n3 48 [(0,(i 16)),(1,E),(2,aa)].toArray) λab=>sA 48 a ab x λac=>lA 48 a ac λr=>K r ac) (cF 65 [g] b λad ae=>xT ad 0 λaf=>
 xT ad 1 λ_=>aL 129 ae λV ah=>sA 129 V af ah λai=>nU ji (M6 211 none) ai λB ak=>FW ji (sl 211 B (i 2) (.func (.func 130) #[] #[])) ak λal=>
 FW ji (sl 211 B (i 3) (.func (.func 131) #[] #[])) al λam=>FW ji (sl 211 B (i 5) (.func (.func 131) #[] #[])) am λan=>FW ji (sl 211 B (i 6) (.func (.func 131) #[] #[])) an λao=>
 FW ji (sl 211 B (i 7) (.func (.func 131) #[] #[])) ao λap=>FW ji (sl 211 B (i 4) (.func (.func 132) #[] #[])) ap λaq=>FW ji (sl 211 B (i 8) (.func (.func 133) #[] #[])) aq λar=>
 FW ji (sl 211 B (i 9) (.func (.func 134) #[] #[])) ar λO=>FW ji (sl 211 B (i 10) (.func (.func 135) #[] #[])) O λJ=>fA 129 V 0 λav=>
 lA 3 av J λaw=>Kw ji (yz 211 B aw false) J λax=>lA 129 V J λay=>kh ji ax [I,g,E,ay] J λaz a0=>aL 48 a0 λU a1=>sA 48 U az a1 λa2=>
 fA 48 U 1 λa3=>sA 3 a3 E a2 λM=>ue (λK1=>nC I λa5=>fA 115 a5 6 λa6=>lA 3 a6 M λa7=>bB .eql 3 a7 (i 0) λa8=>cV a8 (nC g λa9=>fA 122 a9 2 λba=>
 lA 3 ba M λbb=>bB .add 3 bb (i 1) λbc=>nC g λbd=>fA 122 bd 2 λbe=>sA 3 be bc M λbf=>cF 122 [g] bf λ_ bg=>K1 bg) (K1 M)) (λbh=>∀_:Env,
 lA 48 U bh λbi=>sA 48 a bi bh λW=>lA 48 a W λHH=>K HH W))
theorem am7(E B:Value)(h:S63 w K E B):CR 63 [E,B] w K:=
 kB 72 (λ_=>.nil) 16 [.cell 4 48] Tryz.func63 h
def P65:dG:=λi=>match i with
 | 1=>.run 0 11
 | 3=>.run 0 13
 | _=>.nil
def P69:dG:=λi=>match i with
 | 1=>(.op 0 [] (.op 1 [] (.op 2 [] (.op 3 [] (.op 4 [] (.op 5 [] (.op 6 [] (.op 7 [] (.op 8 [] (.op 10 [] (.alt 9 [3,7] (.alt 11 [3,7] (.of [(12,[3,7]),(13,[]),(14,[]),(15,[])]) (.alt 12 [3,7] (.of [(11,[3,7]),(13,[]),(14,[]),(15,[])]) .stop)) (.alt 12 [3,7] (.of [(9,[3,7]),(11,[3,7]),(13,[]),(14,[]),(15,[])]) .stop))))))))))))
 | 5=>(.of [(0,[]),(1,[]),(2,[]),(3,[]),(4,[]),(5,[]),(6,[3]),(7,[])])
 | _=>.nil
def S71(B:Value):Prop:=
 nC B λa=>fA 197 a 0 λb=>lA 3 b (drew w) λc=>cF 91 [B] (drew w) λd e=>kA 3 b c e (eM ji (n3 197 [(0,c),(1,d)].toArray) λf=>nU ji (sZ 197 f) e λg h=>
 K g h)
def P71:dG:=λi=>match i with
 | 1=>(.of [(0,[]),(1,[]),(2,[]),(3,[]),(4,[]),(5,[3]),(6,[]),(7,[]),(8,[])])
 | _=>.nil
theorem am8(B:Value)(h:S71 w K B):CR 71 [B] w K:=
 kB 11 P71 4 [.tmp 2] Tryz.func71 h
def P74:dG:=λi=>match i with
 | 16=>(.of [(0,[]),(1,[]),(2,[]),(3,[]),(4,[]),(5,[]),(6,[]),(7,[]),(8,[]),(10,[]),(11,[]),(9,[1,4,6,11]),(12,[]),(13,[])])
 | 21=>.run 0 9
 | 23=>(.of [(0,[]),(1,[]),(2,[]),(3,[]),(4,[]),(5,[]),(7,[]),(8,[]),(6,[1,3,8]),(9,[]),(10,[])])
 | _=>.nil
theorem asT:PL 27:=eL Tryz.func27
theorem aBF:PL 28:=eL Tryz.func28
theorem am9:PL 29:=eL Tryz.func29
theorem aBG:PL 30:=eL Tryz.func30
theorem asU:PL 31:=eL Tryz.func31
theorem aaj:PL 32:=eL Tryz.func32
theorem aBH:PL 33:=eL Tryz.func33
theorem asV:PL 35:=eL Tryz.func35
theorem aBI:PL 36:=eL Tryz.func36
theorem XY:PL 37:=eL Tryz.func37
theorem M0:PL 38:=eL Tryz.func38
theorem ana:PL 39:=eL Tryz.func39
theorem aBJ:PL 40:=eL Tryz.func40
theorem afM:PL 41:=eL Tryz.func41
theorem anb:PL 42:=eL Tryz.func42
theorem asW:PL 43:=eL Tryz.func43
theorem asX:PL 44:=eL Tryz.func44
theorem afN:PL 45:=eL Tryz.func45
theorem aak:PL 46:=eL Tryz.func46
theorem aBK:PL 48:=eL Tryz.func48
theorem asY:PL 49:=eL Tryz.func49
theorem asZ:PL 50:=eL Tryz.func50
theorem aBL:PL 51:=eL Tryz.func51
theorem as0:PL 52:=eL Tryz.func52
theorem aBM:PL 53:=eL Tryz.func53
theorem aBN:PL 54:=eL Tryz.func54
theorem as1:PL 55:=eL Tryz.func55
theorem aBO:PL 56:=eL Tryz.func56
theorem aBP:PL 57:=eL Tryz.func57
theorem aBQ:PL 58:=eL Tryz.func58
theorem aBR:PL 59:=eL Tryz.func59
theorem aal:PL 60:=eL Tryz.func60
theorem aam:PL 61:=eL Tryz.func61
theorem aan:PL 62:=eL Tryz.func62
theorem aao:PL 63:=eL Tryz.func63
theorem aBS:PL 64:=eL Tryz.func64
theorem afO:PL 65:=eL Tryz.func65
theorem anc:PL 66:=eL Tryz.func66
theorem aBT:PL 67:=eL Tryz.func67
theorem aBU:PL 68:=eL Tryz.func68
theorem aBV:PL 69:=eL Tryz.func69
theorem Dk:PL 70:=eL Tryz.func70
theorem aBW:PL 71:=eL Tryz.func71
theorem ane:PL 72:=eL Tryz.func72
theorem aap:PL 73:=eL Tryz.func73
theorem aBX:PL 74:=eL Tryz.func74
variable (w:World) (K:Value->jj)
def S75(B:Value):Prop:=
 cQ (λE=>bB .lss 3 B (i 1) λa=>cV a (E tt w) (bB .gtr 3 B (i 16) λb=>E b w)) (λc d=>∀_:Env,
 cV c (K (.tuple #[(.pointer none),(i 1)]) d) (eM ji (n3 148 [(0,B)].toArray) λe=>nU ji (sZ 148 e) d λf g=>K (.tuple #[f,(i 0)]) g))
theorem anf(B:Value)(h:S75 w K B):CR 75 [B] w K:=
 kB 13 (λ_=>.nil) 12 [.tmp 2,.tmp 3] Tryz.func75 h
def S76(B J M:Value):Prop:=
 cQ (λO=>lN 28 B λa=>lN 28 M λb=>bA .neq 3 a b λc=>cV c (O tt w) (lN 28 B λd=>bB .gtr 3 d (i 20) λe=>cV e (O tt w) (bB .lss 3 J (i 0) λf=>
 cV f (O tt w) (lN 28 B λg=>bA .gtr 3 J g λh=>O h w)))) (λj k=>∀_:Env,
 cV j (K (.tuple #[(.pointer none),(i 1)]) k) (iT (λV E l=>∀_:Env,
 bA .lss 3 E J λn=>cV n (cQ (λI=>bB .eql 3 E (i 0) λo=>cV o (iA 28 B (i 0) λp=>lA 3 p (drew l) λq=>bB .neq 3 q (i 0) λr=>cV r (I tt (drew l)) (
 bB .gtr 3 E (i 0) λs=>cV s (iA 28 B E λt=>lA 3 t (drew l) λu=>bB .sub 3 E (i 1) λv=>iA 28 B v λx=>lA 3 x (drew l) λy=>bA .neq 3 u y λz=>cV z (iA 28 B E λaa=>
 lA 3 aa (drew l) λab=>bB .sub 3 E (i 1) λac=>iA 28 B ac λad=>lA 3 ad (drew l) λae=>bB .add 3 ae (i 1) λaf=>bA .neq 3 ab af λag=>I ag (drew l)) (I ff (drew l))) (
 I ff (drew l)))) (bB .gtr 3 E (i 0) λah=>cV ah (iA 28 B E λai=>lA 3 ai (drew l) λaj=>bB .sub 3 E (i 1) λak=>iA 28 B ak λal=>lA 3 al (drew l) λam=>bA .neq 3 aj am λan=>
 cV an (iA 28 B E λao=>lA 3 ao (drew l) λap=>bB .sub 3 E (i 1) λaq=>iA 28 B aq λar=>lA 3 ar (drew l) λW=>bB .add 3 W (i 1) λau=>bA .neq 3 ap au λav=>
 I av (drew l)) (I ff (drew l))) (I ff (drew l)))) (λaw ax=>∀_:Env,
 cV aw (K (.tuple #[(.pointer none),(i 1)]) ax) (bB .add 3 E (i 1) λay=>V ay ax))) (bS 28 0 [] l λaz a0=>eM ji (rr 28 B none (some J) none) λa1=>
 aP 28 az a1 a0 λa2 a3=>bS 28 0 [] a3 λa4 a5=>aP 28 a4 M a5 λa6 a7=>eM ji (n3 143 [(0,a2),(1,a6)].toArray) λa8=>nU ji (sZ 143 a8) a7 λU ba=>
 bS 28 0 [] ba λbb bc=>aP 28 bb M bc λbd be=>nC U λbf=>fA 143 bf 2 λbg=>sA 28 bg bd be λbh=>bS 28 0 [] bh λbi bj=>eM ji (rr 28 M none (some J) none) λbk=>
 aP 28 bi bk bj λbl bm=>nC U λbn=>fA 143 bn 3 λbo=>sA 28 bo bl bm λbp=>K (.tuple #[U,(i 0)]) bp)) λV=>V (i 0) k))
def P76:dG:=λi=>match i with
 | 6=>.run 0 37
 | _=>.nil
theorem ang(I E B:Value)(h:S76 w K I E B):CR 76 [I,E,B] w K:=
 kB 97 P76 192 [.tmp 6,.tmp 7] Tryz.func76 h
def S77(B l1:Value):Prop:=
 nC B λa=>fA 75 a 5 λb=>sA 73 b (.slice none 0 0) w λc=>nC B λd=>fA 75 d 4 λe=>sA 28 e (.slice none 0 0) c λf=>iT (λK1 i4 g=>∀_:Env,
 nC B λh=>fA 75 h 0 λj=>fA 36 j 3 λk=>lA 3 k g λl=>bA .lss 3 i4 l λn=>cV n (nC B λo=>fA 75 o 4 λp=>lA 28 p g λq=>bS 28 1 [(0,(i (-1)))] g λr s=>
 aP 28 q r s λt u=>nC B λv=>fA 75 v 4 λx=>sA 28 x t u λy=>bB .add 3 i4 (i 1) λz=>K1 z y) (iT (λW O aa=>∀_:Env,
 lN 30 l1 λab=>bA .lss 3 O ab λac=>cV ac (ue (λK3=>nC B λad=>fA 75 ad 1 λae=>lA 3 ae aa λaf=>cF 75 [af] aa λag U=>xT ag 0 λai=>xT ag 1 λ_=>
 cQ (λK4=>iA 30 l1 O λV=>lA 33 V (drew U) λJ=>iA 30 l1 O λal=>fA 33 al 0 λam=>lA 3 am (drew U) λM=>iA 30 l1 O λao=>fA 33 ao 1 λap=>lA 3 ap (drew U) λI=>
 ((nU ji (J4 28 M M) (drew U) λar E=>kA 33 V J E (kA 3 ap I E (nU ji (J4 28 I I) E λau av=>kA 33 V J av (kA 3 am M av (
 eM ji (n3 145 [(0,J),(4,ai),(2,ar),(3,au)].toArray) λaw=>nU ji (sZ 145 aw) av λax ay=>K4 ax ay)))))
 /\((nU ji (J4 28 I I) (drew U) λaz a0=>kA 33 V J a0 (kA 3 am M a0 (nU ji (J4 28 M M) a0 λa1 a2=>kA 33 V J a2 (kA 3 ap I a2 (
 eM ji (n3 145 [(0,J),(4,ai),(2,a1),(3,az)].toArray) λa3=>nU ji (sZ 145 a3) a2 λa4 a5=>K4 a4 a5)))))
 /\
 True))) (λt8 a6=>∀_:Env,
 cF 141 [t8] a6 λ_ a7=>nC B λa8=>fA 75 a8 5 λa9=>lA 73 a9 a7 λba=>bS 73 1 [(0,t8)] a7 λbb bc=>aP 73 ba bb bc λbd be=>nC B λbf=>fA 75 bf 5 λbg=>sA 73 bg bd be λbh=>
 K3 bh)) (λbi=>∀_:Env,
 bB .add 3 O (i 1) λbj=>W bj bi)) (K (.tuple #[]) aa)) λW=>W (i 0) g)) (λK1=>K1 (i 0) f)
def P77:dG:=λi=>match i with
 | 10=>(.op 0 [] (.op 1 [] (.op 2 [] (.op 3 [] (.op 4 [] (.op 5 [] (.op 6 [] (.op 7 [] (.op 8 [] (.op 9 [] (.op 11 [] (.op 12 [] (.op 13 [] (.op 14 [] (.op 15 [] (.alt 10 [3,15] (.of [(16,[3,9]),(17,[]),(18,[]),(19,[])]) (.alt 16 [3,9] (.of [(10,[3,15]),(17,[]),(18,[]),(19,[])]) .stop)))))))))))))))))
 | _=>.nil
theorem anh(B l1:Value)(h:S77 w K B l1):CR 77 [B,l1] w K:=
 kB 78 P77 0 [] Tryz.func77 h
def S78(B:Value):Prop:=
 aL 54 w λa b=>nC B λc=>fA 75 c 2 λd=>lA 3 d (drew b) λe=>nC B λf=>fA 75 f 6 λg=>lA 3 g (drew b) λh=>nC B λj=>fA 75 j 7 λk=>lA 3 k (drew b) λl=>
 nC B λn=>fA 75 n 6 λo=>lA 3 o (drew b) λp=>bB .eql 3 p (i 0) λq=>eM ji (n3 54 [(0,e),(1,h),(2,l),(3,q)].toArray) λs=>aL 54 (drew b) λE t=>
 kA 3 d e t (kA 3 g h t (kA 3 k l t (kA 3 o p t (sA 54 E s t λu=>iT (λJ I v=>∀_:Env,
 nC B λx=>fA 75 x 5 λy=>lA 73 y v λz=>lN 73 z λaa=>bA .lss 3 I aa λab=>cV ab (ue (λU=>cQ (λW=>nC B λac=>fA 75 ac 5 λad=>lA 73 ad (drew v) λae=>
 iA 73 ae I λaf=>lA 146 af (drew v) λag=>nC ag λah=>fA 145 ah 1 λai=>lA 3 ai (drew v) λaj=>nC B λak=>fA 75 ak 5 λal=>lA 73 al (drew v) λam=>iA 73 am I λan=>
 lA 146 an (drew v) λao=>nC ao λap=>fA 145 ap 0 λaq=>fA 33 aq 2 λar=>lA 31 ar (drew v) λO=>lN 31 O λau=>bA .lss 3 aj au λav=>cV av (W tt (drew v)) (nC B λaw=>
 fA 75 aw 5 λax=>lA 73 ax (drew v) λay=>iA 73 ay I λaz=>lA 146 az (drew v) λa0=>nC a0 λa1=>fA 145 a1 4 λa2=>lA 136 a2 (drew v) λa3=>nC a3 λa4=>fA 148 a4 1 λa5=>
 lA 80 a5 (drew v) λa6=>lN 80 a6 λa7=>bB .gtr 3 a7 (i 0) λa8=>W a8 (drew v))) (λa9 ba=>∀_:Env,
 cV a9 (fA 54 E 3 λbb=>sA 4 bb ff ba λbc=>U bc) (U ba))) (λbd=>∀_:Env,
 bB .add 3 I (i 1) λbe=>J be bd)) (ue (λM=>nC B λbf=>fA 75 bf 6 λbg=>lA 3 bg v λbh=>bB .eql 3 bh (i 0) λbi=>cV bi (fA 54 E 3 λbj=>lA 4 bj v λbk=>
 eM ji (Op.unary .not bk) λbl=>cV bl (cF 32 [B] v λbm bn=>lN 45 bm λbo=>bB .eql 3 bo (i 0) λbp=>fA 54 E 4 λbq=>sA 4 bq bp bn λbr=>M br) (fA 54 E 4 λbs=>
 sA 4 bs ff v λbt=>M bt)) (fA 54 E 4 λbu=>sA 4 bu ff v λbv=>M bv)) (λV=>∀_:Env,
 lA 54 E V λbx=>sA 54 a bx V λbz=>lA 54 a bz λr=>K r bz))) λJ=>J (i 0) u))))
def P78:dG:=λi=>match i with
 | 1=>(.of [(0,[]),(1,[]),(2,[]),(3,[]),(4,[]),(5,[]),(6,[]),(7,[]),(8,[]),(9,[]),(10,[]),(11,[]),(12,[]),(13,[]),(14,[]),(15,[]),(16,[]),(17,[]),(18,[3,7,11,15]),(19,[])])
 | 5=>.run 0 40
 | _=>.nil
theorem ani(B:Value)(h:S78 w K B):CR 78 [B] w K:=
 kB 91 P78 4 [.cell 2 54] Tryz.func78 h
def S79(B:Value):Prop:=
 bS 105 0 [] w λa b=>nc (λE I M c=>∀_:Env,
 nC B λd=>fA 75 d 0 λe=>fA 36 e 6 λf=>lA 34 f c λg=>lN 34 g λh=>bA .lss 3 M h λj=>cV j (cQ (λU=>nC B λk=>fA 75 k 0 λl=>fA 36 l 6 λn=>
 lA 34 n (drew c) λo=>iA 34 o M λp=>lA 99 p (drew c) λq=>nC B λr=>fA 75 r 3 λs=>lA 72 s (drew c) λt=>nC t λu=>fA 143 u 2 λv=>lA 28 v (drew c) λx=>
 nC B λy=>fA 75 y 0 λz=>fA 36 z 1 λaa=>lA 3 aa (drew c) λab=>eM ji (rr 28 x none (some ab) none) λac=>cF 142 [q,ac] (drew c) λV O=>xT V 0 λW=>
 xT V 1 λag=>bB .eql 37 ag (i 0) λah=>cV ah (bB .neq 3 W (i 0) λai=>bS 105 1 [(0,ai)] O λaj ak=>aP 105 I aj ak λal am=>U al am) (bS 105 1 [(0,ff)] O λan ao=>
 aP 105 I an ao λap aq=>U ap aq)) (λmn ar=>∀_:Env,
 bB .add 3 M (i 1) λJ=>E mn J ar)) (K I c)) (λE=>E a (i 0) b)
def P79:dG:=λi=>match i with
 | 5=>.run 0 27
 | _=>.nil
theorem anj(B:Value)(h:S79 w K B):CR 79 [B] w K:=
 kB 53 P79 4 [.tmp 2] Tryz.func79 h
def S80(B:Value):Prop:=
 nC B λa=>fA 143 a 0 λb=>lA 28 b w λc=>lN 28 c λd=>bB .eql 3 d (i 0) λe=>cV e (K (i 0) w) (nC B λf=>fA 143 f 0 λg=>lA 28 g (drew w) λh=>nC B λj=>
 fA 143 j 0 λk=>lA 28 k (drew w) λl=>lN 28 l λn=>bB .sub 3 n (i 1) λo=>iA 28 h o λp=>lA 3 p (drew w) λq=>bB .add 3 q (i 1) λr=>K r (drew w))
def P80:dG:=λi=>match i with
 | 3=>.run 0 14
 | _=>.nil
theorem ank(B:Value)(h:S80 w K B):CR 80 [B] w K:=
 kB 22 P80 4 [.tmp 2] Tryz.func80 h
def S81(m0:Value):Prop:=
 cF 29 [m0] w λa b=>bS 28 0 [] b λc d=>cF 143 [a,c] d λe f=>bS 152 0 [] f λg h=>bS 152 0 [] h λj k=>O3 (λM W I J l=>∀_:Env,
 lN 152 e λn=>bA .lss 3 J n λo=>cV o (Lt (λK2=>iA 152 e J λp=>lA 28 p l λq=>cF 85 [m0,q] l λr s=>xT r 0 λt=>xT r 1 λ_=>nc (λK3 E B u=>∀_:Env,
 lN 152 I λv=>bA .lss 3 B v λx=>cV x (cQ (λK4=>cV E (K4 tt u) (iA 152 I B λy=>lA 28 y u λz=>cF 21 [z,t] u λaa ab=>K4 aa ab)) (λO ac=>∀_:Env,
 bB .add 3 B (i 1) λad=>K3 O ad ac)) (eM ji (Op.unary .not E) λae=>cV ae (bS 152 1 [(0,t)] u λaf ag=>aP 152 I af ag λah ai=>iA 152 e J λaj=>
 lA 28 aj ai λak=>bS 152 1 [(0,ak)] ai λal am=>aP 152 W al am λan ao=>K2 an ah ao) (K2 W I u))) λK3=>K3 ff (i 0) s) (λU V ap=>∀_:Env,
 bB .add 3 J (i 1) λaq=>M U V aq ap)) (K W l)) (λM=>M g j (i 0) k)
theorem anl(B:Value)(h:S81 w K B):CR 81 [B] w K:=
 kB 61 (λ_=>.nil) 4 [.tmp 2] Tryz.func81 h
def S82(E:Value):Prop:=
 nU ji (M6 218 none) w λa b=>cF 144 [E] b λc d=>nU ji (J4 28 c c) d λe f=>O3 (λI J sb M g=>∀_:Env,
 cV M (cQ (λU=>cF 125 [E,sb] g λh j=>xT h 0 λk=>xT h 1 λ_=>aL 221 j λB l=>eM ji (rr 221 B none none none) λn=>nU ji (Builtin.copy_ #[28,28] 3 [n,k].toArray) l λ_ o=>
 lA 221 B o λp=>Kw ji (yz 218 a p false) o λq=>eM ji (Op.unary .not q) λr=>cV r (lA 221 B o λs=>FW ji (sl 218 a s tt) o λt=>
 cF 70 [sb] t λu v=>bS 152 1 [(0,u)] v λx y=>aP 152 J x y λz aa=>U z aa) (U J o)) (λmn ab=>∀_:Env,
 cF 145 [E,sb] ab λO ad=>xT O 0 λW=>xT O 1 λV=>I mn W V ad)) (K J g)) (λI=>I (.slice none 0 0) e tt f)
theorem ann(B:Value)(h:S82 w K B):CR 82 [B] w K:=
 kB 42 (λ_=>.nil) 4 [.tmp 2] Tryz.func82 h
def S83(U I:Value):Prop:=
 nC I λa=>fA 145 a 1 λb=>lA 3 b (drew w) λc=>nC I λd=>fA 145 d 0 λe=>fA 33 e 2 λf=>lA 31 f (drew w) λg=>lN 31 g λh=>bA .geq 3 c h λj=>cV j (K ff (drew w)) (
 nC I λk=>fA 145 k 0 λl=>fA 33 l 2 λn=>lA 31 n (drew (drew w)) λo=>nC I λp=>fA 145 p 1 λq=>lA 3 q (drew (drew w)) λr=>iA 31 o r λs=>lA 129 s (drew (drew w)) λt=>
 aL 129 (drew (drew w)) λu v=>kA 31 n o v (kA 3 q r v (kA 129 s t v (sA 129 u t v λx=>cQ (λV=>nC I λy=>fA 145 y 5 λz=>lA 3 z x λaa=>bB .neq 3 aa (i 0) λab=>
 cV ab (V tt x) (fA 129 u 0 λac=>lA 3 ac x λad=>bB .eql 3 ad (i 2) λae=>V ae x)) (λaf E=>∀_:Env,
 cV af (K tt E) (cQ (λJ=>fA 129 u 0 λah=>lA 3 ah E λai=>bB .eql 3 ai (i 3) λaj=>cV aj (J tt E) (fA 129 u 0 λak=>lA 3 ak E λal=>bB .eql 3 al (i 5) λam=>
 cV am (J tt E) (fA 129 u 0 λan=>lA 3 an E λao=>bB .eql 3 ao (i 6) λap=>cV ap (J tt E) (fA 129 u 0 λaq=>lA 3 aq E λar=>bB .eql 3 ar (i 7) λO=>J O E))))
 (λW B=>∀_:Env,
 cV W (nC I λaw=>fA 145 aw 4 λax=>lA 136 ax (drew B) λay=>nC ay λaz=>fA 148 az 1 λa0=>lA 80 a0 (drew B) λa1=>lN 80 a1 λa2=>nC U λa3=>fA 75 a3 1 λa4=>
 lA 3 a4 (drew B) λa5=>bA .lss 3 a2 a5 λa6=>K a6 (drew B)) (cQ (λM=>nC I λa7=>fA 145 a7 4 λa8=>lA 136 a8 (drew B) λa9=>nC a9 λba=>fA 148 ba 1 λbb=>
 lA 80 bb (drew B) λbc=>lN 80 bc λbd=>bB .eql 3 bd (i 0) λbe=>cV be (fA 129 u 0 λbf=>lA 3 bf (drew B) λbg=>bB .neq 3 bg (i 9) λbh=>cV bh (M tt (drew B)) (
 nC U λbi=>fA 75 bi 4 λbj=>lA 28 bj (drew B) λbk=>fA 129 u 2 λbl=>lA 3 bl (drew B) λbm=>iA 28 bk bm λbn=>lA 3 bn (drew B) λbo=>bB .eql 3 bo (i (-1)) λbp=>
 M bp (drew B))) (M ff (drew B))) (λbq br=>∀_:Env,
 K bq br)))))))))
def P83:dG:=λi=>match i with
 | 1=>.run 0 11
 | 3=>(.of [(0,[]),(1,[]),(2,[]),(3,[]),(4,[]),(5,[]),(6,[]),(7,[]),(8,[]),(9,[]),(10,[]),(11,[4,8,10]),(12,[])])
 | 7=>.run 0 14
 | 8=>.run 0 26
 | _=>.nil
theorem ano(E B:Value)(h:S83 w K E B):CR 83 [E,B] w K:=
 kB 94 P83 16 [.tmp 4] Tryz.func83 h
def S84(M:Value):Prop:=
 bS 28 0 [] w λa b=>nc (λE I B c=>∀_:Env,
 nC M λd=>fA 148 d 1 λe=>lA 80 e c λf=>lN 80 f λg=>bA .lss 3 B g λh=>cV h (cQ (λJ=>cF 146 [M,B] c λj k=>cV j (bS 28 1 [(0,B)] k λl n=>aP 28 I l n λo p=>
 J o p) (J I k)) (λO q=>∀_:Env,
 bB .add 3 B (i 1) λr=>E O r q)) (K I c)) (λE=>E a (i 0) b)
theorem anp(B:Value)(h:S84 w K B):CR 84 [B] w K:=
 kB 23 (λ_=>.nil) 4 [.tmp 2] Tryz.func84 h
def S85(V sd:Value):Prop:=
 cF 29 [V] w λa b=>lN 28 sd λc=>lN 28 a λd=>bA .neq 3 c d λe=>cV e (K (.tuple #[(.slice none 0 0),(i 1)]) b) (iT (λK1 J f=>∀_:Env,
 lN 28 a λg=>bA .lss 3 J g λh=>cV h (cQ (λK2=>iA 28 sd J λj=>lA 3 j (drew f) λk=>bB .lss 3 k (i 0) λl=>cV l (K2 tt (drew f)) (iA 28 sd J λn=>lA 3 n (drew f) λo=>
 iA 28 a J λp=>lA 3 p (drew f) λq=>bA .gtr 3 o q λr=>K2 r (drew f))) (λs t=>∀_:Env,
 cV s (K (.tuple #[(.slice none 0 0),(i 1)]) t) (bB .add 3 J (i 1) λu=>K1 u t))) (Lt (λK3=>nC V λv=>fA 143 v 3 λx=>lA 28 x (drew f) λy=>((bS 28 0 [] (drew f) λz aa=>
 kA 28 x y aa ((aP 28 z sd aa λab ac=>kA 28 x y ac (bS 28 0 [] ac λad ae=>kA 28 x y ae (aP 28 ad y ae λaf ag=>K3 ab af ag)))
 /\((bS 28 0 [] aa λah ai=>kA 28 x y ai (aP 28 z sd ai λaj ak=>kA 28 x y ak (aP 28 ah y ak λal am=>K3 aj al am)))
 /\
 True)))
 /\((bS 28 0 [] (drew f) λan B=>kA 28 x y B (bS 28 0 [] B λap aq=>kA 28 x y aq (aP 28 ap sd aq λar U=>kA 28 x y U (aP 28 an y U λau av=>K3 ar au av))))
 /\
 True))) (λW M aw=>∀_:Env,
 iT (λK4 I O=>∀_:Env,
 nC V λay=>fA 143 ay 4 λaz=>lA 141 az O λa0=>lN 141 a0 λa1=>bA .lss 3 I a1 λa2=>cV a2 (ue (λK5=>nC V λa3=>fA 143 a3 4 λa4=>lA 141 a4 O λa5=>
 iA 141 a5 I λa6=>lA 151 a6 O λa7=>aL 151 O λB a8=>sA 151 B a7 a8 λE=>fA 151 B 0 λba=>lA 3 ba E λbb=>iA 28 W bb λbc=>lA 3 bc E λbd=>bB .gtr 3 bd (i 0) λbe=>
 cV be (fA 151 B 0 λbf=>lA 3 bf (drew E) λbg=>fA 151 B 0 λbh=>lA 3 bh (drew E) λbi=>iA 28 W bi λbj=>lA 3 bj (drew E) λbk=>bB .sub 3 bk (i 1) λbl=>
 iA 28 W bg λbm=>sA 3 bm bl (drew E) λbn=>fA 151 B 1 λbo=>lA 3 bo bn λbp=>fA 151 B 2 λbq=>lA 3 bq bn λbr=>iA 28 M bp λbs=>sA 3 bs br bn λbt=>
 K5 bt) (K5 E)) (λbu=>∀_:Env,
 bB .add 3 I (i 1) λbv=>K4 bv bu)) (K (.tuple #[M,(i 0)]) O)) λK4=>K4 (i 0) aw))) λK1=>K1 (i 0) b)
def P85:dG:=λi=>match i with
 | 7=>.run 0 16
 | 9=>(.op 1 [] (.op 4 [] (.op 5 [] (.op 6 [] (.op 7 [] (.alt 0 [7] (.alt 2 [7] (.of [(3,[7]),(8,[]),(9,[]),(10,[])]) (.alt 3 [7] (.of [(2,[7]),(8,[]),(9,[]),(10,[])]) .stop)) (.alt 3 [7] (.of [(0,[7]),(2,[7]),(8,[]),(9,[]),(10,[])]) .stop)))))))
 | 15=>.run 0 11
 | _=>.nil
theorem anq(B sd:Value)(h:S85 w K B sd):CR 85 [B,sd] w K:=
 kB 89 P85 48 [.tmp 4,.tmp 5] Tryz.func85 h
def S86(B sd:Value):Prop:=
 cF 85 [B,sd] w λa b=>xT a 0 λc=>xT a 1 λd=>bB .neq 37 d (i 0) λe=>cV e (K d b) (bS 28 0 [] b λf g=>aP 28 f c g λh j=>nC B λk=>fA 143 k 1 λl=>lA 28 l (drew j) λn=>
 nC B λo=>fA 143 o 0 λp=>lA 28 p (drew j) λq=>lN 28 q λr=>eM ji (rr 28 n (some r) none none) λs=>aP 28 h s (drew j) λt u=>nC B λv=>
 fA 143 v 2 λx=>sA 28 x t u λy=>nC B λz=>fA 143 z 3 λI=>sA 28 I c y λO=>nC B λJ=>fA 143 J 4 λM=>sA 141 M (.slice none 0 0) O λE=>K (i 0) E)
def P86:dG:=λi=>match i with
 | 5=>.run 0 13
 | _=>.nil
theorem anr(B sd:Value)(h:S86 w K B sd):CR 86 [B,sd] w K:=
 kB 43 P86 16 [.tmp 4] Tryz.func86 h
def S87(J:Value):Prop:=
 nc (λB I E a=>∀_:Env,
 lN 28 J λb=>bA .lss 3 E b λc=>cV c (bC .mul 3 (i 10000) I λd=>iA 28 J E λe=>lA 3 e a λf=>bA .add 3 d f λg=>bB .add 3 E (i 1) λh=>B g h a) (K I a))
 (λB=>B (i 0) (i 0) w)
theorem ans(B:Value)(h:S87 w K B):CR 87 [B] w K:=
 kB 19 (λ_=>.nil) 4 [.tmp 2] Tryz.func87 h
def S88(I B k2:Value):Prop:=
 aL 48 w λa b=>nC I λc=>fA 75 c 5 λd=>lA 73 d b λe=>iA 73 e B λf=>lA 146 f b λg=>nC g λh=>fA 145 h 4 λj=>lA 136 j b λk=>cF 147 [k,k2] b λl n=>
 xT l 0 λo=>xT l 1 λ_=>aL 161 n λp q=>sA 161 p o q λs=>fA 161 p 0 λt=>lA 3 t s λu=>bB .eql 3 u (i 3) λv=>cV v (nC I λx=>fA 75 x 3 λy=>lA 72 y (drew s) λz=>
 fA 161 p 2 λaa=>lA 3 aa (drew s) λab=>fA 161 p 3 λac=>lA 3 ac (drew s) λad=>cF 148 [z,ab,ad] (drew s) λ_ E=>fA 161 p 2 λV=>lA 3 V E λag=>fA 161 p 3 λah=>
 lA 3 ah E λai=>eM ji (n3 48 [(0,(i 12)),(1,B),(2,ag),(3,ai)].toArray) λaj=>sA 48 a aj E λM=>lA 48 a M λr=>K r M) (fA 161 p 0 λal=>
 lA 3 al s λam=>bB .eql 3 am (i 7) λan=>cV an (eM ji (n3 48 [(0,(i 14)),(1,B)].toArray) λao=>sA 48 a ao s λU=>lA 48 a U λHH=>K HH U) (
 nC I λaq=>fA 75 aq 3 λar=>lA 72 ar (drew s) λJ=>fA 161 p 1 λW=>lA 3 W (drew s) λav=>cF 149 [J,av] (drew s) λ_ O=>fA 161 p 1 λax=>lA 3 ax O λay=>
 eM ji (n3 48 [(0,(i 13)),(1,B),(2,ay)].toArray) λaz=>sA 48 a az O λa0=>lA 48 a a0 λMY=>K MY a0))
def P88:dG:=λi=>match i with
 | 3=>.run 0 9
 | 7=>.run 0 7
 | _=>.nil
theorem ant(I E B:Value)(h:S88 w K I E B):CR 88 [I,E,B] w K:=
 kB 58 P88 64 [.cell 6 48] Tryz.func88 h
def S89(J U:Value):Prop:=
 aL 48 w λa b=>nC J λc=>fA 75 c 5 λd=>lA 73 d b λe=>iA 73 e U λf=>lA 146 f b λg=>nC g λh=>fA 145 h 5 λj=>lA 3 j b λk=>bB .neq 3 k (i 0) λl=>
 cV l (nC g λn=>fA 145 n 5 λo=>lA 3 o b λp=>cF 150 [J,U,p] b λq s=>sA 48 a q s λt=>lA 48 a t λr=>K r t) (nC g λu=>fA 145 u 0 λv=>fA 33 v 2 λx=>
 lA 31 x (drew b) λy=>nC g λz=>fA 145 z 1 λaa=>lA 3 aa (drew b) λab=>iA 31 y ab λac=>lA 129 ac (drew b) λad=>aL 129 (drew b) λE af=>kA 31 x y af (kA 3 aa ab af (
 kA 129 ac ad af (sA 129 E ad af λag=>fA 129 E 3 λah=>lA 99 ah ag λai=>cF 151 [g,ai] ag λaj ak=>xT aj 0 λal=>xT aj 1 λ_=>fA 129 E 4 λam=>lA 99 am ak λan=>
 cF 151 [g,an] ak λao ap=>xT ao 0 λaq=>xT ao 1 λ_=>fA 129 E 2 λar=>lA 3 ar ap λasx=>eM ji (n3 48 [(1,U),(2,asx)].toArray) λau=>aL 48 ap λB av=>
 sA 48 B au av λI=>ue (λM=>fA 129 E 0 λax=>lA 3 ax I λO=>bB .eql 3 O (i 2) λaz=>cV az (nC g λa0=>fA 145 a0 4 λa1=>lA 136 a1 (drew I) λa2=>
 fA 129 E 2 λa3=>lA 3 a3 (drew I) λa4=>cF 152 [a2,a4] (drew I) λa5 a6=>xT a5 0 λa7=>xT a5 1 λa8=>fA 48 B 0 λa9=>sA 3 a9 (i 2) a6 λV=>cQ (λK2=>
 eM ji (Op.unary .not a8) λbb=>cV bb (nC J λbc=>fA 75 bc 3 λbd=>lA 72 bd (drew V) λbe=>nC be λbf=>fA 143 bf 2 λbg=>lA 28 bg (drew V) λbh=>fA 129 E 2 λbi=>
 lA 3 bi (drew V) λbj=>iA 28 bh bj λbk=>lA 3 bk (drew V) λbl=>fA 48 B 0 λbm=>sA 3 bm (i 1) (drew V) λbn=>K2 bl bn) (K2 a7 V)) (λW bo=>∀_:Env,
 fA 48 B 3 λbp=>sA 3 bp W bo λbq=>nC g λbr=>fA 145 br 2 λbs=>lA 28 bs (drew bq) λbt=>fA 129 E 1 λbu=>lA 3 bu (drew bq) λbv=>iA 28 bt bv λbw=>sA 3 bw W (drew bq) λbx=>
 M bx)) (bB .eql 3 O (i 3) λbz=>cV bz (fA 48 B 0 λb0=>sA 3 b0 (i 3) I λb1=>fA 48 B 3 λb2=>sA 3 b2 al b1 λb3=>nC g λb4=>fA 145 b4 4 λb5=>lA 136 b5 (drew b3) λb6=>
 fA 129 E 0 λb7=>lA 3 b7 (drew b3) λb8=>nC J λb9=>fA 75 b9 0 λca=>fA 36 ca 0 λcb=>lA 28 cb (drew b3) λcc=>fA 129 E 2 λcd=>lA 3 cd (drew b3) λce=>
 iA 28 cc ce λcf=>lA 3 cf (drew b3) λcg=>fA 129 E 2 λch=>lA 3 ch (drew b3) λci=>eM ji (n3 161 [(0,b8),(1,cg),(2,ci),(3,al)].toArray) λcj=>
 cF 153 [b6,cj] (drew b3) λ_ ck=>M ck) (bB .eql 3 O (i 5) λcl=>cV cl (fA 48 B 0 λcm=>sA 3 cm (i 4) I λcn=>nC g λco=>fA 145 co 4 λcp=>lA 136 cp (drew cn) λcq=>
 fA 129 E 0 λcr=>lA 3 cr (drew cn) λcs=>fA 129 E 2 λct=>lA 3 ct (drew cn) λcu=>eM ji (n3 161 [(0,cs),(1,cu)].toArray) λcv=>cF 153 [cq,cv] (drew cn) λ_ cw=>
 M cw) (bB .eql 3 O (i 6) λcx=>cV cx (fA 48 B 0 λcy=>sA 3 cy (i 5) I λcz=>nC g λc0=>fA 145 c0 4 λc1=>lA 136 c1 (drew cz) λc2=>fA 129 E 0 λc3=>lA 3 c3 (drew cz) λc4=>
 fA 129 E 2 λc5=>lA 3 c5 (drew cz) λc6=>eM ji (n3 161 [(0,c4),(1,c6)].toArray) λc7=>cF 153 [c2,c7] (drew cz) λ_ c8=>M c8) (bB .eql 3 O (i 7) λc9=>
 cV c9 (fA 48 B 0 λda=>sA 3 da (i 6) I λdb=>nC g λdc=>fA 145 dc 4 λdd=>lA 136 dd (drew db) λde=>fA 129 E 0 λdf=>lA 3 df (drew db) λdg=>eM ji (n3 161 [(0,dg)].toArray) λdh=>
 cF 153 [de,dh] (drew db) λ_ di=>M di) (bB .eql 3 O (i 8) λdj=>cV dj (fA 48 B 0 λdk=>sA 3 dk (i 7) I λdl=>M dl) (bB .eql 3 O (i 4) λdm=>cV dm (nC J λdn=>
 fA 75 dn 3 λdp=>lA 72 dp (drew I) λdq=>nC dq λdr=>fA 143 dr 2 λds=>lA 28 ds (drew I) λdt=>fA 129 E 2 λdu=>lA 3 du (drew I) λdv=>iA 28 dt dv λdw=>
 lA 3 dw (drew I) λdx=>fA 48 B 3 λdy=>sA 3 dy dx (drew I) λdz=>nC g λd0=>fA 145 d0 2 λd1=>lA 28 d1 (drew dz) λd2=>fA 129 E 1 λd3=>lA 3 d3 (drew dz) λd4=>
 fA 48 B 3 λd5=>lA 3 d5 (drew dz) λd6=>iA 28 d2 d4 λd7=>sA 3 d7 d6 (drew dz) λd8=>fA 48 B 0 λd9=>sA 3 d9 (i 9) d8 λea=>fA 48 B 3 λeb=>lA 3 eb ea λec=>
 bA .eql 3 ec al λed=>cV ed (fA 48 B 0 λee=>sA 3 ee (i 8) ea λef=>fA 48 B 4 λeg=>sA 3 eg aq ef λeh=>nC J λei=>fA 75 ei 3 λej=>lA 72 ej (drew eh) λek=>
 fA 129 E 2 λel=>lA 3 el (drew eh) λem=>cF 148 [ek,em,aq] (drew eh) λ_ en=>M en) (M ea)) (bB .eql 3 O (i 9) λeo=>cV eo (fA 48 B 0 λep=>sA 3 ep (i 10) I λeq=>
 nC J λer=>fA 75 er 4 λes=>lA 28 es (drew eq) λet=>fA 129 E 2 λeu=>lA 3 eu (drew eq) λev=>iA 28 et ev λew=>sA 3 ew U (drew eq) λex=>M ex) (nC J λey=>
 fA 75 ey 4 λez=>lA 28 ez (drew I) λe0=>fA 129 E 2 λe1=>lA 3 e1 (drew I) λe2=>iA 28 e0 e2 λe3=>lA 3 e3 (drew I) λe4=>bA .neq 3 e4 U λe5=>cV e5 (cF 150 [J,U,(i 3)] (drew I) λe6 e7=>
 sA 48 a e6 e7 λe8=>lA 48 a e8 λHH=>K HH e8) (fA 48 B 0 λe9=>sA 3 e9 (i 11) (drew I) λfa=>nC J λfb=>fA 75 fb 4 λfc=>lA 28 fc (drew fa) λfd=>fA 129 E 2 λfe=>
 lA 3 fe (drew fa) λfg=>iA 28 fd fg λfh=>sA 3 fh (i (-1)) (drew fa) λfi=>M fi)))))))))) (λfj=>∀_:Env,
 nC g λfk=>fA 145 fk 1 λfl=>lA 3 fl fj λfm=>bB .add 3 fm (i 1) λfn=>nC g λfo=>fA 145 fo 1 λfp=>sA 3 fp fn fj λfq=>cF 141 [g] fq λ_ fr=>lA 48 B fr λfs=>
 sA 48 a fs fr λft=>lA 48 a ft λMY=>K MY ft)))))
def P89:dG:=λi=>match i with
 | 4=>(.of [(0,[]),(1,[]),(2,[]),(3,[]),(4,[]),(5,[]),(6,[]),(7,[]),(8,[]),(9,[]),(10,[]),(11,[4,8,10]),(12,[])])
 | 9=>.run 0 10
 | 12=>.run 0 8
 | 14=>.run 0 12
 | 17=>.run 0 12
 | 20=>.run 0 9
 | 24=>.run 0 20
 | 27=>.run 0 10
 | 30=>.run 0 10
 | 33=>.run 0 8
 | 37=>.run 0 13
 | 38=>.run 0 10
 | 43=>.run 0 8
 | 46=>.run 0 9
 | _=>.nil
theorem anu(E B:Value)(h:S89 w K E B):CR 89 [E,B] w K:=
 kB 248 P89 16 [.cell 4 48] Tryz.func89 h
def S91(B:Value):Prop:=
 nC B λa=>fA 197 a 1 λb=>lA 80 b w λc=>cF 154 [c] w λd e=>K d e
theorem anv(B:Value)(h:S91 w K B):CR 91 [B] w K:=
 kB 8 (λ_=>.nil) 4 [.tmp 2] Tryz.func91 h
def S94(p0:Value):Prop:=
 nU ji (sZ 27 p0) w λp1 a=>iT (λE O b=>∀_:Env,
 fA 27 p1 0 λc=>lA 22 c b λd=>lN 22 d λe=>bA .lss 3 O e λf=>cV f (fA 27 p1 0 λg=>lA 22 g b λh=>iA 22 h O λj=>lA 23 j b λk=>lN 23 k λl=>bB .gtr 3 l (i 4) λn=>
 cV n (K tt b) (bB .add 3 O (i 1) λo=>E o b)) (lA 27 p1 b λp=>cF 95 [p] b λq r=>iT (λJ I s=>∀_:Env,
 lN 24 q λt=>bA .lss 3 I t λu=>cV u (iA 24 q I λv=>fA 98 v 1 λx=>lA 95 x s λy=>lN 95 y λz=>bB .gtr 3 z (i 4) λaa=>cV aa (K tt s) (bB .add 3 I (i 1) λab=>
 J ab s)) (cQ (λB=>fA 27 p1 0 λac=>lA 22 ac s λad=>lN 22 ad λae=>bB .gtr 3 ae (i 4) λU=>cV U (B tt s) (fA 27 p1 1 λag=>lA 23 ag s λah=>lN 23 ah λai=>
 bB .gtr 3 ai (i 4) λW=>cV W (B tt s) (fA 27 p1 2 λV=>lA 23 V s λal=>lN 23 al λam=>bB .gtr 3 am (i 2) λan=>cV an (B tt s) (fA 27 p1 3 λao=>lA 24 ao s λap=>
 lN 24 ap λaq=>bB .lss 3 aq (i 1) λar=>cV ar (B tt s) (fA 27 p1 3 λM=>lA 24 M s λau=>lN 24 au λav=>bB .gtr 3 av (i 3) λaw=>cV aw (B tt s) (fA 27 p1 5 λax=>
 lA 25 ax s λay=>lN 25 ay λaz=>bB .gtr 3 az (i 4) λa0=>B a0 s)))))) (λa1 a2=>∀_:Env,
 K a1 a2))) λJ=>J (i 0) r)) (λE=>E (i 0) a)
theorem anw(p0:Value)(h:S94 w K p0):CR 94 [p0] w K:=
 kB 69 (λ_=>.nil) 4 [.tmp 2] Tryz.func94 h
def S97(p0:Value):Prop:=
 nU ji (sZ 27 p0) w λp1 a=>bS 23 0 [] a λb c=>lA 27 p1 c λd=>cF 102 [d] c λe f=>aP 23 b e f λg h=>fA 27 p1 2 λj=>lA 23 j h λk=>aP 23 g k h λl n=>
 nc (λJ B I o=>∀_:Env,
 fA 27 p1 3 λp=>lA 24 p o λq=>lN 24 q λr=>bA .lss 3 I r λs=>cV s (fA 27 p1 3 λt=>lA 24 t (drew o) λu=>iA 24 u I λv=>fA 98 v 0 λx=>lA 9 x (drew o) λy=>
 fA 27 p1 3 λz=>lA 24 z (drew o) λaa=>iA 24 aa I λab=>fA 98 ab 3 λac=>lA 3 ac (drew o) λad=>eM ji (n3 163 [(0,y),(2,ad)].toArray) λae=>
 bS 23 1 [(0,ae)] (drew o) λW ag=>aP 23 B W ag λah ai=>bB .add 3 I (i 1) λaj=>J ah aj ai) (cF 107 [B] o λak al=>iT (λO E M=>∀_:Env,
 lN 23 B λan=>bA .lss 3 E an λao=>cV ao (iA 23 B E λap=>fA 163 ap 0 λaq=>lA 9 aq M λar=>cF 98 [ak,ar] M λU V=>bA .lss 3 U E λav=>cV av (iA 23 B E λaw=>
 fA 163 aw 2 λax=>lA 3 ax V λay=>K ay V) (bB .add 3 E (i 1) λaz=>O az V)) (K (i (-1)) M)) λO=>O (i 0) al)) (λJ=>J l (i 0) n)
def P97:dG:=λi=>match i with
 | 6=>.run 0 17
 | _=>.nil
theorem anx(p0:Value)(h:S97 w K p0):CR 97 [p0] w K:=
 kB 60 P97 4 [.tmp 2] Tryz.func97 h
def aB0:dG:=λi=>match i with
 | 3=>(.of [(0,[]),(2,[]),(3,[]),(1,[3]),(4,[]),(5,[])])
 | 16=>(.of [(0,[]),(2,[]),(3,[]),(1,[3]),(4,[]),(5,[])])
 | _=>.nil
def aB1:dG:=λi=>match i with
 | 6=>(.of [(0,[]),(1,[]),(2,[]),(4,[]),(5,[]),(6,[]),(7,[]),(3,[]),(8,[]),(9,[]),(10,[])])
 | _=>.nil
def S104(v0 l1 B J O:Value):Prop:=
 nU ji (sZ 177 v0) w λI a=>lN 96 l1 λb=>bB .eql 3 b (i 0) λc=>cV c (K (.slice none 0 0) a) (iA 96 l1 (i 0) λd=>lA 173 d a λe=>aL 173 a λf g=>
 sA 173 f e g λh=>fA 173 f 6 λj=>lA 3 j h λk=>bC .add 3 (i 1) k λl=>fA 173 f 7 λn=>lA 3 n h λo=>bA .add 3 l o λp=>eM ji (rr 96 l1 (some (i 1)) (some l) none) λq=>
 eM ji (rr 96 l1 (some l) (some p) none) λr=>bS 31 0 [] (drew h) λs t=>cQ (λU=>fA 173 f 0 λu=>lA 3 u t λv=>bB .eql 3 v (i 11) λx=>cV x (
 fA 173 f 3 λy=>lA 86 y t λz=>fA 177 I 1 λaa=>lA 95 aa t λab=>cF 45 [z,ab] t λac ad=>xT ac 0 λae=>xT ac 1 λ_=>bB .add 3 B (i 1) λaf=>cF 158 [q] ad λag ah=>
 bA .add 3 af ag λai=>cQ (λK2=>fA 173 f 7 λaj=>lA 3 aj ah λak=>bB .gtr 3 ak (i 0) λal=>cV al (bB .add 3 ai (i 1) λam=>K2 am ah) (K2 ai ah)) (λE an=>∀_:Env,
 eM ji (n3 129 [(0,(i 12)),(3,ae),(5,E)].toArray) λao=>bS 31 1 [(0,ao)] an λap aq=>aP 31 s ap aq λar M=>lA 177 I M λau=>bB .add 3 B (i 1) λav=>
 cF 104 [au,q,av,J,O] M λaw ax=>aP 31 ar aw ax λay W=>cQ (λK3=>fA 173 f 7 λa0=>lA 3 a0 W λa1=>bB .gtr 3 a1 (i 0) λa2=>cV a2 (cF 158 [r] W λa3 a4=>
 bA .add 3 E a3 λa5=>eM ji (n3 129 [(0,(i 11)),(5,a5)].toArray) λa6=>bS 31 1 [(0,a6)] a4 λa7 a8=>aP 31 ay a7 a8 λa9 ba=>K3 a9 ba) (K3 ay W))
 (λV bb=>∀_:Env,
 lA 177 I bb λbc=>cF 104 [bc,r,E,J,O] bb λbd be=>aP 31 V bd be λbf bg=>U bf bg))) (bB .eql 3 v (i 12) λbh=>cV bh (bB .add 3 B (i 2) λbi=>cF 158 [q] t λbj bk=>
 bA .add 3 bi bj λbl=>fA 173 f 5 λbm=>lA 3 bm bk λbn=>eM ji (n3 129 [(0,(i 13)),(1,J),(2,bn)].toArray) λbo=>bS 31 1 [(0,bo)] bk λbp bq=>
 aP 31 s bp bq λbr bs=>lA 177 I bs λbt=>bB .add 3 B (i 1) λbu=>bB .add 3 J (i 1) λbv=>cF 104 [bt,q,bu,bv,bl] bs λbw bx=>aP 31 br bw bx λbz b0=>bB .add 3 B (i 1) λb1=>
 eM ji (n3 129 [(0,(i 14)),(1,J),(5,b1)].toArray) λb2=>bS 31 1 [(0,b2)] b0 λb3 b4=>aP 31 bz b3 b4 λb5 b6=>U b5 b6) (bB .eql 3 v (i 13) λb7=>
 cV b7 (eM ji (n3 129 [(0,(i 11)),(5,O)].toArray) λb8=>bS 31 1 [(0,b8)] t λb9 ca=>aP 31 s b9 ca λcb cc=>U cb cc) (lA 177 I t λcd=>lA 173 f t λce=>
 cF 159 [cd,ce] t λcf cg=>bS 31 1 [(0,cf)] cg λch ci=>aP 31 s ch ci λcj ck=>U cj ck)))) (λO9 cl=>∀_:Env,
 lA 177 I (drew cl) λcm=>eM ji (rr 96 l1 (some p) none none) λcn=>lN 31 O9 λco=>bA .add 3 B co λcp=>cF 104 [cm,cn,cp,J,O] (drew cl) λcq cr=>
 aP 31 O9 cq cr λcs ct=>K cs ct))
def aB2:dG:=λi=>match i with
 | 6=>.run 0 9
 | 27=>.run 0 14
 | _=>.nil
theorem afQ(J l1 B I E:Value)(h:S104 w K J l1 B I E):CR 104 [J,l1,B,I,E] w K:=
 kB 156 aB2 1024 [.tmp 10] Tryz.func104 h
theorem as3:PL 75:=eL Tryz.func75
theorem aB3:PL 76:=eL Tryz.func76
theorem as4:PL 77:=eL Tryz.func77
theorem aB4:PL 78:=eL Tryz.func78
theorem aB5:PL 79:=eL Tryz.func79
theorem as5:PL 80:=eL Tryz.func80
theorem aB6:PL 81:=eL Tryz.func81
theorem aB7:PL 82:=eL Tryz.func82
theorem aB8:PL 83:=eL Tryz.func83
theorem aB9:PL 84:=eL Tryz.func84
theorem anA:PL 85:=eL Tryz.func85
theorem aCa:PL 86:=eL Tryz.func86
theorem aCb:PL 87:=eL Tryz.func87
theorem aCc:PL 88:=eL Tryz.func88
theorem aCd:PL 89:=eL Tryz.func89
theorem anB:PL 91:=eL Tryz.func91
theorem as6:PL 92:=eL Tryz.func92
theorem aCe:PL 93:=eL Tryz.func93
theorem aCf:PL 94:=eL Tryz.func94
theorem as7:PL 95:=eL Tryz.func95
theorem anC:PL 96:=eL Tryz.func96
theorem aCg:PL 97:=eL Tryz.func97
theorem EY:PL 98:=eL Tryz.func98
theorem anD:PL 99:=eL Tryz.func99
theorem as8:PL 100:=eL Tryz.func100
theorem aat:PL 101:=eL Tryz.func101
theorem Pa:PL 102:=eL Tryz.func102
theorem Vv:PL 103:=eL Tryz.func103
theorem Pb:PL 104:=eL Tryz.func104
theorem Pc:PL 105:=eL Tryz.func105
variable (w:World) (K:Value->jj)
def S106(B E W:Value):Prop:=
 bS 99 0 [] w λa b=>bB .add 3 E (i 1) λc=>O3 (λJ O I U d=>∀_:Env,
 iA 86 B E λe=>fA 166 e 0 λf=>lA 3 f d λg=>cF 163 [g] d λh j=>bA .lss 3 U h λk=>cV k (cF 106 [B,I,W] j λl n=>aP 99 O l n λo p=>cF 160 [B,I] p λq r=>
 bB .add 3 U (i 1) λs=>J o q s r) (iA 86 B E λt=>fA 166 t 1 λu=>lA 3 u j λv=>cQ (λV=>iA 86 B E λx=>fA 166 x 0 λy=>lA 3 y j λz=>bB .eql 3 z (i 2) λaa=>
 cV aa (iA 86 B E λab=>fA 166 ab 2 λac=>lA 9 ac j λad=>cF 98 [W,ad] j λae af=>V ae af) (V v j)) (λM ag=>∀_:Env,
 iA 86 B E λah=>fA 166 ah 0 λai=>lA 3 ai ag λaj=>eM ji (n3 200 [(0,aj),(1,M)].toArray) λak=>bS 99 1 [(0,ak)] ag λal am=>aP 99 O al am λan ao=>
 K an ao))) (λJ=>J a c (i 0) b)
theorem afR(B I E:Value)(h:S106 w K B I E):CR 106 [B,I,E] w K:=
 kB 62 (λ_=>.nil) 64 [.tmp 6] Tryz.func106 h
def aCh:dG:=λi=>match i with
 | 6=>(.of [(0,[]),(1,[]),(2,[]),(3,[1]),(4,[1]),(5,[]),(6,[]),(7,[])])
 | 8=>(.of [(0,[]),(1,[]),(2,[]),(3,[1]),(4,[]),(5,[]),(6,[])])
 | 10=>(.of [(0,[]),(1,[]),(2,[]),(3,[1]),(4,[]),(5,[]),(6,[])])
 | 13=>(.of [(0,[]),(1,[]),(2,[]),(3,[]),(4,[]),(5,[]),(6,[]),(7,[]),(8,[1]),(9,[1]),(10,[]),(11,[]),(12,[])])
 | 15=>(.of [(0,[]),(1,[]),(2,[]),(3,[]),(4,[]),(5,[]),(6,[]),(7,[]),(8,[]),(9,[]),(10,[]),(11,[]),(12,[]),(13,[1]),(14,[1]),(15,[]),(16,[]),(17,[])])
 | 17=>(.of [(0,[]),(1,[]),(2,[]),(3,[]),(4,[]),(5,[]),(6,[]),(7,[]),(8,[]),(9,[]),(10,[]),(11,[]),(12,[1]),(13,[1]),(14,[]),(15,[]),(16,[])])
 | 21=>(.of [(0,[]),(1,[]),(2,[]),(3,[]),(4,[]),(5,[]),(6,[]),(7,[]),(8,[]),(9,[4,8]),(10,[]),(11,[])])
 | _=>.nil
def S110(J W:Value):Prop:=
 lN 28 W λa=>cF 116 [J,a] w λb c=>eM ji (Op.unary .not b) λd=>cV d (K (.tuple #[(i 0),(i 8)]) c) (aL 247 c λp6 e=>lN 99 J λf=>iT (λB g h=>∀_:Env,
 bA .lss 3 g f λj=>cV j (ue (λE=>iA 99 J g λk=>lA 200 k h λl=>aL 200 h λn o=>sA 200 n l o λp=>fA 200 n 0 λq=>lA 3 q p λr=>cF 171 [r] p λs t=>
 bB .eql 3 s (i 0) λu=>cV u (fA 200 n 1 λv=>lA 3 v t λx=>cQ (λK3=>fA 200 n 0 λy=>lA 3 y t λz=>bB .eql 3 z (i 2) λaa=>cV aa (fA 200 n 1 λab=>lA 3 ab t λac=>
 iA 28 W ac λad=>lA 3 ad t λae=>K3 ae t) (K3 x t)) (λn9 af=>∀_:Env,
 cF 172 [p6,n9] af λ_ ag=>E ag)) (bB .eql 3 s (i 1) λah=>cV ah (fA 200 n 0 λai=>lA 3 ai (drew t) λM=>fA 247 p6 0 λak=>cF 174 [ak] (drew t) λal U=>kA 3 ai M U (
 cF 173 [M,al] U λV ao=>xT V 0 λap=>xT V 1 λ_=>cF 172 [p6,ap] ao λ_ aq=>E aq)) (fA 247 p6 0 λar=>cF 174 [ar] t λI au=>fA 200 n 0 λav=>lA 3 av (drew au) λO=>
 fA 247 p6 0 λax=>cF 174 [ax] (drew au) λay az=>kA 3 av O az (cF 175 [O,ay,I] az λa0 a1=>xT a0 0 λa2=>xT a0 1 λa3=>bB .neq 37 a3 (i 0) λa4=>cV a4 (K (.tuple #[(i 0),a3]) a1) (
 cF 172 [p6,a2] a1 λ_ a5=>E a5))))) (λa6=>∀_:Env,
 bB .add 3 g (i 1) λa7=>B a7 a6)) (fA 247 p6 0 λa8=>cF 174 [a8] h λa9 ba=>K (.tuple #[a9,(i 0)]) ba)) λB=>B (i 0) e)
def aCi:dG:=λi=>match i with
 | 9=>(.of [(0,[]),(1,[]),(2,[]),(4,[]),(3,[1]),(5,[]),(6,[]),(7,[]),(8,[]),(9,[]),(10,[])])
 | 19=>(.of [(0,[]),(1,[]),(2,[]),(3,[1]),(4,[]),(5,[]),(6,[]),(7,[]),(8,[]),(9,[])])
 | _=>.nil
theorem afS(E B:Value)(h:S110 w K E B):CR 110 [E,B] w K:=
 kB 74 aCi 48 [.tmp 4,.tmp 5] Tryz.func110 h
def S111(B:Value):Prop:=
 cQ (λE=>bB .lss 3 B (i 0) λa=>cV a (E tt w) (bB .gtr 3 B (i 4294967296) λb=>E b w)) (λc d=>∀_:Env,
 K c d)
theorem afT(B:Value)(h:S111 w K B):CR 111 [B] w K:=
 kB 9 (λ_=>.nil) 4 [.tmp 2] Tryz.func111 h
def S112(c0 a:Value):Prop:=
 nU ji (sZ 33 c0) w λB b=>lA 33 B (drew b) λc=>fA 36 a 0 λd=>lA 28 d (drew b) λe=>lN 28 e λf=>lA 36 a (drew b) λg=>fA 36 a 3 λh=>lA 3 h (drew b) λj=>
 cF 114 [g] (drew b) λk l=>kA 33 B c l (kA 28 d e l (kA 3 h j l (cF 113 [c,f,k,j] l λn o=>eM ji (Op.unary .not n) λp=>K p o)))
def aCj:dG:=λi=>match i with
 | 1=>(.of [(0,[]),(1,[]),(2,[]),(3,[]),(4,[]),(6,[]),(7,[]),(5,[0,2,7]),(8,[]),(9,[]),(10,[])])
 | _=>.nil
theorem afU(c0 B:Value)(h:S112 w K c0 B):CR 112 [c0,B] w K:=
 kB 14 aCj 8 [.tmp 3] Tryz.func112 h
def S113(c0 M3 M4 M5:Value):Prop:=
 nU ji (sZ 33 c0) w λE a=>cQ (λK1=>fA 33 E 0 λb=>lA 3 b a λc=>bB .lss 3 c (i 0) λd=>cV d (K1 tt a) (fA 33 E 0 λe=>lA 3 e a λf=>bB .gtr 3 f (i 4) λg=>
 cV g (K1 tt a) (fA 33 E 1 λh=>lA 3 h a λj=>bB .lss 3 j (i 0) λk=>cV k (K1 tt a) (fA 33 E 1 λl=>lA 3 l a λn=>bB .gtr 3 n (i 12) λo=>K1 o a)))) (λp q=>∀_:Env,
 cV p (K ff q) (fA 33 E 2 λr=>lA 31 r q λs=>lN 31 s λt=>iT (λK2 u v=>∀_:Env,
 bA .lss 3 u t λx=>cV x (iA 31 s u λy=>lA 129 y v λz=>aL 129 v λB ab=>sA 129 B z ab λac=>cQ (λK3=>fA 129 B 0 λad=>lA 3 ad ac λae=>bB .lss 3 ae (i 1) λaf=>
 cV af (K3 tt ac) (fA 129 B 0 λag=>lA 3 ag ac λah=>bB .geq 3 ah (i 16) λai=>K3 ai ac)) (λaj ak=>∀_:Env,
 cV aj (K ff ak) (fA 129 B 1 λal=>lA 3 al (drew ak) λam=>fA 33 E 0 λan=>lA 3 an (drew ak) λao=>kh ji (.func (Go.Fn.func 176) [].toArray [B].toArray) [(.int .u8 114)] (drew ak) λap aq=>
 kA 3 al am aq (kA 3 an ao aq (cF 179 [ap,am,ao] aq λar asx=>cQ (λK4=>kh ji (.func (Go.Fn.func 176) [].toArray [B].toArray) [(.int .u8 107)] asx λau av=>cV au (
 fA 129 B 1 λaw=>lA 3 aw av λax=>fA 33 E 1 λay=>lA 3 ay av λaz=>cF 179 [tt,ax,az] av λa0 a1=>K4 a0 a1) (K4 ar av)) (λa12 a2=>∀_:Env,
 fA 129 B 2 λa3=>lA 3 a3 a2 λa4=>bB .eql 3 a4 (i 0) λa5=>cQ (λM=>kh ji (.func (Go.Fn.func 176) [].toArray [B].toArray) [(.int .u8 99)] a2 λa6 a7=>
 cV a6 (fA 129 B 2 λa8=>lA 3 a8 a7 λa9=>cF 179 [tt,a9,M3] a7 λba bb=>M ba bb) (kh ji (.func (Go.Fn.func 176) [].toArray [B].toArray) [(.int .u8 108)] a7 λbc bd=>
 cV bc (fA 129 B 2 λbe=>lA 3 be bd λbf=>cF 179 [tt,bf,M4] bd λbg bh=>M bg bh) (kh ji (.func (Go.Fn.func 176) [].toArray [B].toArray) [(.int .u8 109)] bd λbi bj=>
 cV bi (fA 129 B 2 λbk=>lA 3 bk bj λbl=>cF 179 [tt,bl,M5] bj λbm bn=>M bm bn) (kh ji (.func (Go.Fn.func 176) [].toArray [B].toArray) [(.int .u8 110)] bj λbo W=>
 cV bo (fA 129 B 2 λbq=>lA 3 bq W λbr=>bB .geq 3 br (i 1) λbs=>cV bs (fA 129 B 2 λbt=>lA 3 bt W λbu=>bB .leq 3 bu (i 8) λbv=>M bv W) (M ff W)) (M a5 W)))))
 (λb13 bw=>∀_:Env,
 cQ (λU=>kh ji (.func (Go.Fn.func 176) [].toArray [B].toArray) [(.int .u8 101)] bw λbx bz=>cV bx (fA 129 B 3 λb0=>lA 99 b0 bz λb1=>fA 33 E 0 λb2=>
 lA 3 b2 bz λb3=>cF 116 [b1,b3] bz λb4 b5=>cV b4 (U tt b5) (kh ji (.func (Go.Fn.func 176) [].toArray [B].toArray) [(.int .u8 101)] b5 λb6 b7=>eM ji (Op.unary .not b6) λb8=>
 cV b8 (fA 129 B 3 λb9=>lA 99 b9 b7 λca=>lN 99 ca λcb=>bB .eql 3 cb (i 0) λcc=>U cc b7) (U ff b7))) (kh ji (.func (Go.Fn.func 176) [].toArray [B].toArray) [(.int .u8 101)] bz λcd ce=>
 eM ji (Op.unary .not cd) λcf=>cV cf (fA 129 B 3 λcg=>lA 99 cg ce λch=>lN 99 ch λci=>bB .eql 3 ci (i 0) λcj=>U cj ce) (U ff ce))) (λe14 ck=>∀_:Env,
 cQ (λO=>kh ji (.func (Go.Fn.func 176) [].toArray [B].toArray) [(.int .u8 102)] ck λcl cm=>cV cl (fA 129 B 4 λcn=>lA 99 cn cm λco=>fA 33 E 0 λcp=>
 lA 3 cp cm λcq=>cF 116 [co,cq] cm λcr cs=>cV cr (O tt cs) (kh ji (.func (Go.Fn.func 176) [].toArray [B].toArray) [(.int .u8 102)] cs λct cu=>eM ji (Op.unary .not ct) λcv=>
 cV cv (fA 129 B 4 λcw=>lA 99 cw cu λcx=>lN 99 cx λcy=>bB .eql 3 cy (i 0) λcz=>O cz cu) (O ff cu))) (kh ji (.func (Go.Fn.func 176) [].toArray [B].toArray) [(.int .u8 102)] cm λc1 c2=>
 eM ji (Op.unary .not c1) λc3=>cV c3 (fA 129 B 4 λc5=>lA 99 c5 c2 λc6=>lN 99 c6 λc7=>bB .eql 3 c7 (i 0) λc8=>O c8 c2) (O ff c2))) (λf15 c9=>∀_:Env,
 fA 129 B 5 λda=>lA 3 da c9 λdb=>bB .eql 3 db (i 0) λdc=>cQ (λK8=>cQ (λK9=>kh ji (.func (Go.Fn.func 176) [].toArray [B].toArray) [(.int .u8 116)] c9 λdd de=>
 cV dd (fA 129 B 0 λdf=>lA 3 df de λdg=>bB .eql 3 dg (i 14) λdh=>K9 dh de) (K9 ff de)) (λdi dj=>∀_:Env,
 cV di (fA 33 E 2 λdk=>lA 31 dk dj λdl=>cF 180 [dl,u] dj λdm dn=>K8 dm dn) (kh ji (.func (Go.Fn.func 176) [].toArray [B].toArray) [(.int .u8 116)] dj λdp J=>
 cV dp (fA 129 B 5 λdr=>lA 3 dr J λds=>bA .gtr 3 ds u λdt=>cV dt (fA 129 B 5 λdu=>lA 3 du J λdv=>fA 33 E 2 λdw=>lA 31 dw J λdx=>lN 31 dx λdy=>
 bA .leq 3 dv dy λdz=>K8 dz J) (K8 ff J)) (K8 dc J)))) (λaCl V=>∀_:Env,
 cQ (λI=>eM ji (Op.unary .not a12) λd1=>cV d1 (I tt V) (eM ji (Op.unary .not b13) λd2=>cV d2 (I tt V) (eM ji (Op.unary .not e14) λd3=>
 cV d3 (I tt V) (eM ji (Op.unary .not f15) λd4=>cV d4 (I tt V) (eM ji (Op.unary .not aCl) λd5=>I d5 V))))) (λd6 d7=>∀_:Env,
 cV d6 (K ff d7) (bB .add 3 u (i 1) λd8=>K2 d8 d7)))))))))))) (fA 33 E 2 λd9=>lA 31 d9 v λea=>cF 181 [ea] v λeb ec=>K eb ec)) λK2=>K2 (i 0) q))
def aCm:dG:=λi=>match i with
 | 9=>(.of [(0,[]),(2,[]),(3,[]),(4,[]),(5,[]),(1,[3,5]),(6,[]),(7,[])])
 | _=>.nil
theorem afV(c0 E B I:Value)(h:S113 w K c0 E B I):CR 113 [c0,E,B,I] w K:=
 kB 193 aCm 256 [.tmp 8] Tryz.func113 h
def S114(I:Value):Prop:=
 nU ji (sZ 36 I) w λB a=>cQ (λE=>fA 36 B 1 λb=>lA 3 b a λc=>bB .lss 3 c (i 1) λd=>cV d (E tt a) (fA 36 B 1 λe=>lA 3 e a λf=>fA 36 B 0 λg=>
 lA 28 g a λh=>lN 28 h λj=>bA .gtr 3 f j λk=>E k a)) (λl n=>∀_:Env,
 cV l (K (i 0) n) (fA 36 B 0 λo=>lA 28 o n λp=>fA 36 B 1 λq=>lA 3 q n λr=>bB .sub 3 r (i 1) λs=>iA 28 p s λt=>lA 3 t n λu=>bB .add 3 u (i 1) λv=>K v n))
theorem afW(B:Value)(h:S114 w K B):CR 114 [B] w K:=
 kB 22 (λ_=>.nil) 4 [.tmp 2] Tryz.func114 h
def S115(B a:Value):Prop:=
 fA 36 a 1 λb=>lA 3 b w λc=>cF 116 [B,c] w λd e=>eM ji (Op.unary .not d) λf=>K f e
theorem afX(E B:Value)(h:S115 w K E B):CR 115 [E,B] w K:=
 kB 9 (λ_=>.nil) 8 [.tmp 3] Tryz.func115 h
def aCn:dG:=λi=>match i with
 | 5=>(.of [(0,[]),(1,[]),(2,[]),(3,[]),(4,[]),(5,[]),(6,[]),(7,[]),(8,[]),(9,[]),(10,[]),(11,[]),(13,[]),(14,[]),(15,[]),(16,[]),(17,[]),(18,[]),(12,[1,4,14,18]),(19,[1,4]),(20,[]),(21,[]),(22,[4]),(23,[]),(24,[]),(25,[])])
 | _=>.nil
def S122(E:Value):Prop:=
 Vt (λU a=>∀_:Env,
 cF 65 [E] a λb c=>xT b 0 λd=>xT b 1 λe=>aL 129 c λf g=>sA 129 f d g λh=>eM ji (Op.unary .not e) λj=>cV j (K (.tuple #[]) h) (fA 129 f 3 λk=>lA 99 k h λl=>
 cF 189 [E,l] h λn o=>xT n 0 λp=>xT n 1 λq=>nC E λr=>fA 122 r 6 λs=>sA 3 s p o λt=>eM ji (Op.unary .not q) λu=>cV u (K (.tuple #[]) t) (fA 129 f 4 λv=>
 lA 99 v t λx=>cF 189 [E,x] t λy z=>xT y 0 λaa=>xT y 1 λab=>nC E λac=>fA 122 ac 7 λad=>sA 3 ad aa z λB=>eM ji (Op.unary .not ab) λaf=>cV af (
 K (.tuple #[]) B) (nC E λag=>fA 122 ag 2 λah=>lA 3 ah B λai=>bB .add 3 ai (i 1) λO=>cQ (λI=>fA 129 f 0 λak=>lA 3 ak B λJ=>bB .eql 3 J (i 1) λam=>
 cV am (nC E λan=>fA 122 an 3 λao=>lA 28 ao (drew B) λap=>fA 129 f 1 λaq=>lA 3 aq (drew B) λar=>nC E λW=>fA 122 W 6 λau=>lA 3 au (drew B) λav=>
 iA 28 ap ar λaw=>sA 3 aw av (drew B) λax=>I O ax) (bB .eql 3 J (i 11) λay=>cV ay (fA 129 f 5 λaz=>lA 3 az B λa0=>I a0 B) (bB .eql 3 J (i 12) λa1=>cV a1 (
 nC E λa2=>fA 122 a2 6 λa3=>lA 3 a3 B λa4=>bB .eql 3 a4 (i 0) λa5=>cV a5 (fA 129 f 5 λa6=>lA 3 a6 B λa7=>I a7 B) (I O B)) (bB .eql 3 J (i 13) λa8=>
 cV a8 (nC E λa9=>fA 122 a9 4 λba=>lA 28 ba (drew B) λbb=>fA 129 f 1 λbc=>lA 3 bc (drew B) λbd=>fA 129 f 2 λbe=>lA 3 be (drew B) λbf=>iA 28 bb bd λbg=>
 sA 3 bg bf (drew B) λbh=>I O bh) (bB .eql 3 J (i 14) λbi=>cV bi (nC E λbj=>fA 122 bj 4 λbk=>lA 28 bk (drew B) λbl=>fA 129 f 1 λbm=>lA 3 bm (drew B) λbn=>
 iA 28 bl bn λbo=>lA 3 bo (drew B) λbp=>bB .sub 3 bp (i 1) λbq=>iA 28 bl bn λbr=>sA 3 br bq (drew B) λM=>nC E λbt=>fA 122 bt 4 λbu=>lA 28 bu (drew M) λbv=>
 fA 129 f 1 λbw=>lA 3 bw (drew M) λbx=>iA 28 bv bx λbz=>lA 3 bz (drew M) λb0=>bB .gtr 3 b0 (i 0) λb1=>cV b1 (fA 129 f 5 λb2=>lA 3 b2 (drew M) λb3=>I b3 (drew M)) (
 I O (drew M))) (bB .eql 3 J (i 15) λb4=>cV b4 (nC E λb5=>fA 122 b5 6 λb6=>lA 3 b6 B λb7=>bB .eql 3 b7 (i 0) λb8=>cV b8 (nC E λb9=>fA 122 b9 5 λca=>
 sA 3 ca (i 1) B λcb=>K (.tuple #[]) cb) (I O B)) (K (.tuple #[]) B))))))) (λV cc=>∀_:Env,
 nC E λcd=>fA 122 cd 2 λce=>sA 3 ce V cc λcf=>U cf))))) (λU=>U w)
def aCo:dG:=λi=>match i with
 | 10=>.run 0 12
 | 17=>.run 0 10
 | 19=>.run 0 11
 | 20=>.run 0 9
 | _=>.nil
theorem afY(B:Value)(h:S122 w K B):CR 122 [B] w K:=
 kB 118 aCo 0 [] Tryz.func122 h
def S123(B:Value):Prop:=
 nC B λa=>fA 197 a 1 λb=>lA 80 b (drew w) λc=>lN 80 c λd=>nC B λe=>fA 197 e 0 λf=>lA 3 f (drew w) λg=>bA .geq 3 d g λh=>K h (drew w)
def aCp:dG:=λi=>match i with
 | 1=>.run 0 11
 | _=>.nil
theorem afZ(B:Value)(h:S123 w K B):CR 123 [B] w K:=
 kB 13 aCp 4 [.tmp 2] Tryz.func123 h
def S124(J I:Value):Prop:=
 nU ji (sZ 109 J) w λb2 a=>nU ji (sZ 3 I) a λB b=>cQ (λE=>lA 3 B (drew b) λc=>bB .lss 3 c (i 0) λd=>cV d (E tt (drew b)) (
 lA 3 B (drew b) λe=>lA 109 b2 (drew b) λf=>nC f λg=>fA 197 g 1 λh=>lA 80 h (drew b) λj=>lN 80 j λk=>bA .geq 3 e k λl=>E l (drew b))) (λn o=>∀_:Env,
 cV n (K ff o) (lA 109 b2 (drew o) λp=>nC p λq=>fA 197 q 1 λr=>lA 80 r (drew o) λs=>lA 3 B (drew o) λt=>eM ji (rr 80 s none (some t) none) λu=>
 cF 192 [u,(.func (Go.Fn.func 190) [].toArray [b2,B].toArray)] (drew o) λv x=>eM ji (Op.unary .not v) λy=>K y x))
def aCq:dG:=λi=>match i with
 | 1=>.run 0 11
 | 4=>.run 0 10
 | _=>.nil
theorem af0(B E:Value)(h:S124 w K B E):CR 124 [B,E] w K:=
 kB 27 aCq 16 [.tmp 4] Tryz.func124 h
def S125(B sd:Value):Prop:=
 lN 28 sd λa=>cF 144 [B] w λb c=>bA .neq 3 a b λd=>cV d (K (.tuple #[(.slice none 0 0),(i 1)]) c) (cF 73 [B] c λe f=>lN 28 sd λg=>iT (λI h j=>∀_:Env,
 bA .lss 3 h g λk=>cV k (iA 28 sd h λl=>lA 3 l j λn=>cQ (λK2=>bB .lss 3 n (i 0) λo=>cV o (K2 tt j) (nC B λp=>fA 203 p 4 λq=>lA 201 q j λr=>Kw ji (yz 201 r h false) j λs=>
 lN 213 s λt=>bA .gtr 3 n t λu=>K2 u j)) (λv x=>∀_:Env,
 cV v (K (.tuple #[(.slice none 0 0),(i 1)]) x) (nC B λy=>fA 203 y 4 λz=>lA 201 z x λaa=>Kw ji (yz 201 aa h false) x λab=>eM ji (rr 213 ab none (some n) none) λW=>
 lN 213 W λad=>iT (λV M E=>∀_:Env,
 bA .lss 3 M ad λag=>cV ag (iA 213 W M λah=>lA 216 ah E λai=>aL 216 E λJ ak=>sA 216 J ai ak λO=>fA 216 J 0 λam=>lA 3 am O λan=>fA 216 J 1 λao=>
 lA 3 ao O λap=>iA 28 e an λaq=>sA 3 aq ap O λar=>bB .add 3 M (i 1) λU=>V U ar) (bB .add 3 h (i 1) λau=>I au E)) λV=>V (i 0) x))) (K (.tuple #[e,(i 0)]) j))
 λI=>I (i 0) f)
theorem af1(B sd:Value)(h:S125 w K B sd):CR 125 [B,sd] w K:=
 kB 60 (λ_=>.nil) 48 [.tmp 4,.tmp 5] Tryz.func125 h
def S127(E B:Value):Prop:=
 aL 161 w λa b=>cQ (λI=>bB .lss 3 B (i 0) λc=>cV c (I tt b) (nC E λd=>fA 197 d 1 λe=>lA 80 e b λf=>lN 80 f λg=>bA .geq 3 B g λh=>I h b)) (λj k=>∀_:Env,
 cV j (eM ji (n3 161 [].toArray) λl=>sA 161 a l k λn=>lA 161 a n λr=>K (.tuple #[r,(i 1)]) n) (cF 124 [E,B] k λo p=>eM ji (Op.unary .not o) λq=>
 cV q (eM ji (n3 161 [].toArray) λs=>sA 161 a s p λt=>lA 161 a t λHH=>K (.tuple #[HH,(i 13)]) t) (nC E λu=>fA 197 u 1 λv=>lA 80 v p λx=>
 iA 80 x B λy=>lA 161 y p λz=>aL 161 p λM ab=>sA 161 M z ab λO=>nC E λad=>fA 197 ad 1 λae=>lA 80 ae O λV=>cF 154 [V] O λag ah=>bB .add 3 B (i 1) λai=>
 cF 193 [ag,B,ai] ah λaj W=>nC E λal=>fA 197 al 1 λam=>sA 80 am aj W λJ=>lA 161 M J λao=>sA 161 a ao J λU=>lA 161 a U λMY=>K (.tuple #[MY,(i 0)]) U)))
theorem af2(B E:Value)(h:S127 w K B E):CR 127 [B,E] w K:=
 kB 44 (λ_=>.nil) 48 [.cell 4 161,.tmp 5] Tryz.func127 h
def S128(B gw V:Value):Prop:=
 cQ (λO=>bB .lss 3 gw (i 0) λa=>cV a (O tt w) (nC B λb=>fA 203 b 2 λc=>lA 28 c w λd=>lN 28 d λe=>bA .geq 3 gw e λf=>O f w)) (λg h=>∀_:Env,
 cV g (K (i 1) h) (nC B λj=>fA 203 j 2 λk=>lA 28 k h λl=>iA 28 l gw λn=>sA 3 n V h λo=>ue (λK2=>nC B λp=>fA 203 p 0 λq=>lA 28 q o λr=>lN 28 r λs=>
 bA .lss 3 gw s λt=>cV t (nC B λu=>fA 203 u 0 λv=>lA 28 v o λx=>iA 28 x gw λy=>lA 3 y o λz=>nC B λaa=>fA 203 aa 4 λM=>lA 201 M (drew o) λJ=>
 nC B λad=>fA 203 ad 4 λU=>lA 201 U (drew o) λI=>Kw ji (yz 201 I z false) (drew o) λag=>eM ji (n3 216 [(0,gw),(1,V)].toArray) λah=>
 bS 213 1 [(0,ah)] (drew o) λai E=>kA 201 M J E (kA 201 U I E (MN ji (yz 201 I z false) ag E (aP 213 ag ai E λak W=>kA 201 M J W (FW ji (sl 201 J z ak) W λam=>
 K2 am))))) (K2 o)) (λan=>∀_:Env,
 K (i 0) an)))
def aCr:dG:=λi=>match i with
 | 6=>(.of [(0,[]),(1,[]),(2,[]),(3,[]),(4,[]),(5,[]),(6,[]),(7,[]),(8,[]),(9,[]),(10,[]),(11,[]),(12,[]),(13,[]),(14,[3,8,10]),(15,[3]),(16,[])])
 | _=>.nil
theorem af3(E gw B:Value)(h:S128 w K E gw B):CR 128 [E,gw,B] w K:=
 kB 56 aCr 64 [.tmp 6] Tryz.func128 h
def aCs:dG:=λi=>match i with
 | 6=>.run 0 10
 | _=>.nil
def S130(m0 U a b:Value):Prop:=
 nU ji (sZ 129 b) w λc d=>aL 48 d λe f=>nC U λg=>fA 122 g 0 λh=>lA 109 h (drew f) λj=>fA 129 c 2 λk=>lA 3 k (drew f) λl=>cF 194 [j,l] (drew f) λn o=>
 xT n 0 λp=>xT n 1 λq=>Lt (λJ=>eM ji (Op.unary .not q) λs=>cV s (nC m0 λt=>fA 115 t 2 λu=>lA 112 u (drew o) λv=>fA 129 c 2 λx=>lA 3 x (drew o) λy=>
 cF 195 [v,y] (drew o) λz aa=>xT z 0 λab=>xT z 1 λ_=>J ab (i 1) aa) (J p (i 2) o)) (λI B E=>∀_:Env,
 nC U λad=>fA 122 ad 3 λae=>lA 28 ae (drew E) λV=>fA 129 c 1 λag=>lA 3 ag (drew E) λah=>iA 28 V ah λai=>sA 3 ai I (drew E) λM=>fA 129 c 2 λak=>
 lA 3 ak M λal=>eM ji (n3 48 [(0,B),(2,al),(3,I)].toArray) λW=>sA 48 e W M λO=>lA 48 e O λr=>K r O)
def aCt:dG:=λi=>match i with
 | 1=>.run 0 12
 | 4=>.run 0 11
 | 6=>.run 0 9
 | _=>.nil
theorem af4(I B E J:Value)(h:S130 w K I B E J):CR 130 [I,B,E,J] w K:=
 kB 47 aCt 256 [.cell 8 48] Tryz.func130 h
def S131(m0 t1 a b:Value):Prop:=
 nU ji (sZ 129 b) w λc d=>aL 48 d λe f=>nU ji (M6 272 none) f λg h=>FW ji (sl 272 g (i 3) (i 3)) h λj=>FW ji (sl 272 g (i 5) (i 4)) j λk=>
 FW ji (sl 272 g (i 6) (i 5)) k λl=>FW ji (sl 272 g (i 7) (i 6)) l λn=>fA 129 c 0 λo=>lA 3 o n λp=>fA 129 c 2 λq=>lA 3 q n λs=>
 eM ji (n3 161 [(0,p),(1,s)].toArray) λt=>aL 161 n λB u=>sA 161 B t u λv=>ue (λV=>fA 129 c 0 λx=>lA 3 x v λy=>bB .eql 3 y (i 3) λz=>
 cV z (nC m0 λaa=>fA 115 aa 0 λab=>fA 36 ab 0 λac=>lA 28 ac (drew v) λad=>fA 129 c 2 λae=>lA 3 ae (drew v) λaf=>iA 28 ad af λag=>lA 3 ag (drew v) λah=>
 fA 129 c 2 λai=>lA 3 ai (drew v) λW=>nC t1 λak=>fA 122 ak 6 λM=>lA 3 M (drew v) λJ=>fA 161 B 1 λan=>sA 3 an ah (drew v) λO=>kA 3 ai W O (kA 3 M J O (
 fA 161 B 2 λap=>sA 3 ap W O λaq=>kA 3 M J aq (fA 161 B 3 λar=>sA 3 ar J aq λU=>V U)))) (V v)) (λI=>∀_:Env,
 nC t1 λav=>fA 122 av 0 λaw=>lA 109 aw (drew I) λax=>lA 161 B (drew I) λay=>cF 196 [ax,ay] (drew I) λ_ E=>fA 129 c 0 λa0=>lA 3 a0 E λa1=>Kw ji (yz 272 g a1 false) E λa2=>
 fA 129 c 2 λa3=>lA 3 a3 E λa4=>fA 161 B 3 λa5=>lA 3 a5 E λa6=>eM ji (n3 48 [(0,a2),(2,a4),(3,a6)].toArray) λa7=>sA 48 e a7 E λa8=>
 lA 48 e a8 λr=>K r a8)
def aCu:dG:=λi=>match i with
 | 4=>(.of [(0,[]),(1,[]),(2,[]),(3,[]),(4,[]),(5,[]),(6,[]),(7,[]),(8,[]),(9,[]),(10,[]),(11,[]),(12,[]),(13,[]),(14,[]),(15,[]),(16,[10,14]),(17,[]),(18,[14]),(19,[]),(20,[])])
 | 5=>.run 0 6
 | _=>.nil
theorem af5(I B E J:Value)(h:S131 w K I B E J):CR 131 [I,B,E,J] w K:=
 kB 54 aCu 256 [.cell 8 48] Tryz.func131 h
def aCv:dG:=λi=>match i with
 | 1=>.run 0 12
 | 2=>.run 0 9
 | 5=>.run 0 11
 | 6=>.run 0 9
 | _=>.nil
def aCw:dG:=λi=>match i with
 | 1=>.run 0 9
 | _=>.nil
def aCx:dG:=λi=>match i with
 | 1=>.run 0 10
 | 4=>.run 0 8
 | _=>.nil
def aCy:dG:=λi=>match i with
 | 6=>.run 0 18
 | 14=>(.op 0 [] (.op 1 [] (.op 2 [] (.op 3 [] (.op 4 [] (.op 5 [] (.op 6 [] (.op 7 [] (.op 8 [] (.op 9 [] (.alt 10 [1,4,6,9] (.of [(11,[1,4,6,9]),(12,[6,9]),(13,[])]) (.alt 11 [1,4,6,9] (.of [(10,[1,4,6,9]),(12,[6,9]),(13,[])]) .stop))))))))))))
 | _=>.nil
def S140(E many1:Value):Prop:=
 iT (λJ I a=>∀_:Env,
 lN 99 E λb=>bA .lss 3 I b λc=>cV c (iA 99 E I λd=>fA 200 d 0 λe=>lA 3 e (drew a) λf=>iA 99 E I λg=>fA 200 g 1 λh=>lA 3 h (drew a) λj=>cQ (λB=>
 bB .lss 3 f (i 1) λk=>cV k (B tt (drew a)) (bB .gtr 3 f (i 15) λl=>cV l (B tt (drew a)) (bB .eql 3 f (i 1) λn=>cV n (bB .lss 3 j (i 0) λo=>cV o (B tt (drew a)) (
 bB .gtr 3 j (i 4294967296) λp=>cV p (B tt (drew a)) (bB .eql 3 f (i 2) λq=>cV q (bB .lss 3 j (i 0) λr=>cV r (B tt (drew a)) (bA .geq 3 j many1 λs=>cV s (B tt (drew a)) (
 bB .gtr 3 f (i 2) λt=>cV t (bB .neq 3 j (i 0) λu=>B u (drew a)) (B ff (drew a))))) (bB .gtr 3 f (i 2) λv=>cV v (bB .neq 3 j (i 0) λx=>B x (drew a)) (B ff (drew a)))))) (
 bB .eql 3 f (i 2) λy=>cV y (bB .lss 3 j (i 0) λz=>cV z (B tt (drew a)) (bA .geq 3 j many1 λaa=>cV aa (B tt (drew a)) (bB .gtr 3 f (i 2) λab=>cV ab (bB .neq 3 j (i 0) λac=>
 B ac (drew a)) (B ff (drew a))))) (bB .gtr 3 f (i 2) λad=>cV ad (bB .neq 3 j (i 0) λae=>B ae (drew a)) (B ff (drew a))))))) (λU O=>∀_:Env,
 cV U (K ff O) (bB .add 3 I (i 1) λah=>J ah O))) (cQ (λM=>lN 99 E λai=>bB .geq 3 ai (i 1) λW=>cV W (lN 99 E λV=>bB .leq 3 V (i 40) λal=>cV al (
 lN 99 E λam=>cF 200 [E,am] a λan ao=>bB .eql 3 an (i 1) λap=>M ap ao) (M ff a)) (M ff a)) (λaq ar=>∀_:Env,
 K aq ar))) (λJ=>J (i 0) w)
def aCz:dG:=λi=>match i with
 | 4=>.run 0 12
 | _=>.nil
theorem af6(B many1:Value)(h:S140 w K B many1):CR 140 [B,many1] w K:=
 kB 78 aCz 16 [.tmp 4] Tryz.func140 h
def S141(E:Value):Prop:=
 Vt (λU a=>∀_:Env,
 nC E λb=>fA 145 b 1 λc=>lA 3 c (drew a) λd=>nC E λe=>fA 145 e 0 λf=>fA 33 f 2 λg=>lA 31 g (drew a) λh=>lN 31 h λj=>bA .lss 3 d j λk=>cV k (nC E λl=>
 fA 145 l 0 λn=>fA 33 n 2 λo=>lA 31 o (drew (drew a)) λp=>nC E λq=>fA 145 q 1 λr=>lA 3 r (drew (drew a)) λs=>iA 31 p s λt=>lA 129 t (drew (drew a)) λu=>
 aL 129 (drew (drew a)) λv x=>kA 31 o p x (kA 3 r s x (kA 129 t u x (sA 129 v u x λy=>fA 129 v 3 λz=>lA 99 z y λaa=>cF 151 [E,aa] y λab ac=>xT ab 0 λad=>xT ab 1 λae=>
 fA 129 v 4 λaf=>lA 99 af ac λag=>cF 151 [E,ag] ac λah ai=>xT ah 0 λ_=>xT ah 1 λaj=>cQ (λK2=>eM ji (Op.unary .not ae) λak=>cV ak (K2 tt ai) (
 eM ji (Op.unary .not aj) λal=>K2 al ai)) (λam I=>∀_:Env,
 cV am (nC E λao=>fA 145 ao 5 λap=>sA 3 ap (i 2) I λaq=>K (.tuple #[]) aq) (nC E λar=>fA 145 ar 1 λW=>lA 3 W I λau=>bB .add 3 au (i 1) λM=>cQ (λJ=>
 fA 129 v 0 λaw=>lA 3 aw I λax=>bB .eql 3 ax (i 1) λay=>cV ay (nC E λaz=>fA 145 az 2 λa0=>lA 28 a0 (drew I) λa1=>fA 129 v 1 λa2=>lA 3 a2 (drew I) λa3=>
 iA 28 a1 a3 λa4=>sA 3 a4 ad (drew I) λa5=>J M a5) (cQ (λV=>fA 129 v 0 λa6=>lA 3 a6 I λa7=>bB .eql 3 a7 (i 11) λa8=>cV a8 (V tt I) (fA 129 v 0 λa9=>
 lA 3 a9 I λba=>bB .eql 3 ba (i 12) λbb=>cV bb (bB .eql 3 ad (i 0) λbc=>V bc I) (V ff I))) (λbd B=>∀_:Env,
 cV bd (fA 129 v 5 λbf=>lA 3 bf B λbg=>J bg B) (fA 129 v 0 λbh=>lA 3 bh B λbi=>bB .eql 3 bi (i 13) λbj=>cV bj (nC E λbk=>fA 145 bk 3 λbl=>lA 28 bl (drew B) λbm=>
 fA 129 v 1 λbn=>lA 3 bn (drew B) λbo=>fA 129 v 2 λbp=>lA 3 bp (drew B) λbq=>iA 28 bm bo λbr=>sA 3 br bq (drew B) λbs=>J M bs) (fA 129 v 0 λbt=>lA 3 bt B λbu=>
 bB .eql 3 bu (i 14) λbv=>cV bv (nC E λbw=>fA 145 bw 3 λbx=>lA 28 bx (drew B) λbz=>fA 129 v 1 λb0=>lA 3 b0 (drew B) λb1=>nC E λb2=>fA 145 b2 3 λb3=>
 lA 28 b3 (drew B) λb4=>fA 129 v 1 λb5=>lA 3 b5 (drew B) λb6=>iA 28 b4 b6 λb7=>lA 3 b7 (drew B) λb8=>bB .sub 3 b8 (i 1) λb9=>iA 28 bz b1 λca=>sA 3 ca b9 (drew B) λcb=>
 nC E λcc=>fA 145 cc 3 λcd=>lA 28 cd (drew cb) λce=>fA 129 v 1 λcf=>lA 3 cf (drew cb) λcg=>iA 28 ce cg λch=>lA 3 ch (drew cb) λci=>bB .gtr 3 ci (i 0) λcj=>
 cV cj (fA 129 v 5 λck=>lA 3 ck (drew cb) λcl=>J cl (drew cb)) (J M (drew cb))) (cQ (λK5=>fA 129 v 0 λcm=>lA 3 cm B λcn=>bB .eql 3 cn (i 15) λco=>cV co (
 bB .eql 3 ad (i 0) λcp=>K5 cp B) (K5 ff B)) (λcq cr=>∀_:Env,
 cV cq (nC E λcs=>fA 145 cs 5 λct=>sA 3 ct (i 1) cr λcu=>K (.tuple #[]) cu) (cQ (λK6=>fA 129 v 0 λcv=>lA 3 cv cr λcw=>bB .neq 3 cw (i 12) λcx=>cV cx (
 fA 129 v 0 λcy=>lA 3 cy cr λcz=>bB .neq 3 cz (i 15) λc0=>K6 c0 cr) (K6 ff cr)) (λc1 c2=>∀_:Env,
 cV c1 (K (.tuple #[]) c2) (J M c2)))))))))) (λO c3=>∀_:Env,
 nC E λc4=>fA 145 c4 1 λc5=>sA 3 c5 O c3 λc6=>U c6))))))) (K (.tuple #[]) (drew a))) (λU=>U w)
def aCA:dG:=λi=>match i with
 | 0=>.run 0 11
 | 1=>(.of [(0,[]),(1,[]),(2,[]),(3,[]),(4,[]),(5,[]),(6,[]),(7,[]),(8,[]),(9,[]),(10,[]),(11,[4,8,10]),(12,[])])
 | 8=>.run 0 9
 | 12=>.run 0 10
 | 14=>.run 0 17
 | 15=>.run 0 9
 | _=>.nil
theorem af7(B:Value)(h:S141 w K B):CR 141 [B] w K:=
 kB 147 aCA 0 [] Tryz.func141 h
def S142(I V:Value):Prop:=
 lN 28 V λa=>cF 140 [I,a] w λb c=>eM ji (Op.unary .not b) λd=>cV d (K (.tuple #[(i 0),(i 8)]) c) (bS 28 0 [] c λe f=>nc (λM p6 E g=>∀_:Env,
 lN 99 I λh=>bA .lss 3 E h λj=>cV j (cQ (λJ=>iA 99 I E λk=>fA 200 k 0 λl=>lA 3 l g λn=>lN 28 p6 λo=>bB .sub 3 o (i 1) λp=>bB .eql 3 n (i 1) λq=>
 cV q (iA 99 I E λr=>fA 200 r 1 λs=>lA 3 s g λt=>bS 28 1 [(0,t)] g λu v=>aP 28 p6 u v λx y=>J x y) (bB .eql 3 n (i 2) λz=>cV z (iA 99 I E λaa=>fA 200 aa 1 λab=>
 lA 3 ab g λac=>iA 28 V ac λad=>lA 3 ad g λae=>bS 28 1 [(0,ae)] g λaf ag=>aP 28 p6 af ag λah ai=>J ah ai) (cQ (λK3=>bB .eql 3 n (i 3) λaj=>cV aj (
 K3 tt g) (bB .eql 3 n (i 4) λak=>K3 ak g)) (λal B=>∀_:Env,
 cV al (iA 28 p6 p λan=>lA 3 an B λao=>cF 201 [n,ao] B λap aq=>xT ap 0 λar=>xT ap 1 λ_=>iA 28 p6 p λU=>sA 3 U ar aq λau=>J p6 au) (bB .sub 3 p (i 1) λav=>
 iA 28 p6 av λaw=>lA 3 aw (drew B) λax=>iA 28 p6 p λay=>lA 3 ay (drew B) λaz=>cF 202 [n,ax,az] (drew B) λa0 a1=>xT a0 0 λa2=>xT a0 1 λa3=>bB .neq 37 a3 (i 0) λa4=>
 cV a4 (K (.tuple #[(i 0),a3]) a1) (eM ji (rr 28 p6 none (some p) none) λW=>bB .sub 3 p (i 1) λa6=>iA 28 W a6 λa7=>sA 3 a7 a2 a1 λa8=>J W a8))))))
 (λO a9=>∀_:Env,
 bB .add 3 E (i 1) λba=>M O ba a9)) (iA 28 p6 (i 0) λbb=>lA 3 bb g λbc=>K (.tuple #[bc,(i 0)]) g)) λM=>M e (i 0) f)
def aCC:dG:=λi=>match i with
 | 15=>.run 0 16
 | _=>.nil
theorem af8(E B:Value)(h:S142 w K E B):CR 142 [E,B] w K:=
 kB 104 aCC 48 [.tmp 4,.tmp 5] Tryz.func142 h
def S143(p0 B:Value):Prop:=
 lN 28 B λa=>lN 28 p0 λb=>bA .eql 3 a b λc=>cV c (bS 152 1 [(0,B)] w λd e=>K d e) (bS 152 0 [] w λf g=>nc (λE J I h=>∀_:Env,
 lN 28 B λj=>iA 28 p0 j λk=>lA 3 k h λl=>bA .leq 3 I l λn=>cV n (bS 28 0 [] h λo p=>aP 28 o B p λq r=>bS 28 1 [(0,I)] r λs t=>aP 28 q s t λu v=>
 cF 143 [p0,u] v λx y=>aP 152 J x y λz M=>bB .add 3 I (i 1) λO=>E z O M) (K J h)) λE=>E f (i 0) g)
theorem af9(p0 B:Value)(h:S143 w K p0 B):CR 143 [p0,B] w K:=
 kB 38 (λ_=>.nil) 16 [.tmp 4] Tryz.func143 h
def aCD:dG:=λi=>match i with
 | 3=>.run 0 14
 | _=>.nil
def S145(I sd:Value):Prop:=
 cF 70 [sd] w λa b=>lN 28 a λc=>bB .sub 3 c (i 1) λd=>iT (λE B e=>∀_:Env,
 bB .geq 3 B (i 0) λf=>cV f (iA 28 a B λg=>lA 3 g (drew e) λh=>nC I λj=>fA 203 j 4 λk=>lA 201 k (drew e) λl=>Kw ji (yz 201 l B false) (drew e) λn=>
 lN 213 n λo=>bA .lss 3 h o λp=>cV p (iA 28 a B λq=>lA 3 q (drew e) λr=>bB .add 3 r (i 1) λs=>iA 28 a B λt=>sA 3 t s (drew e) λu=>K (.tuple #[a,tt]) u) (
 iA 28 a B λv=>sA 3 v (i 0) (drew e) λx=>bB .sub 3 B (i 1) λy=>E y x)) (K (.tuple #[(.slice none 0 0),ff]) e)) (λE=>E d b)
def aCE:dG:=λi=>match i with
 | 5=>.run 0 12
 | _=>.nil
theorem aga(B sd:Value)(h:S145 w K B sd):CR 145 [B,sd] w K:=
 kB 39 aCE 48 [.tmp 4,.tmp 5] Tryz.func145 h
def S146(J B:Value):Prop:=
 cQ (λM=>bB .lss 3 B (i 0) λa=>cV a (M tt w) (nC J λb=>fA 148 b 1 λc=>lA 80 c w λd=>lN 80 d λe=>bA .geq 3 B e λf=>M f w)) (λg h=>∀_:Env,
 cV g (K ff h) (iT (λI E j=>∀_:Env,
 bA .lss 3 E B λk=>cV k (nC J λl=>fA 148 l 1 λn=>lA 80 n (drew j) λo=>iA 80 o B λp=>lA 161 p (drew j) λq=>nC J λr=>fA 148 r 1 λs=>lA 80 s (drew j) λt=>
 iA 80 t E λu=>lA 161 u (drew j) λv=>cF 203 [q,v] (drew j) λx y=>eM ji (Op.unary .not x) λz=>cV z (K ff y) (bB .add 3 E (i 1) λO=>I O y)) (K tt j))
 λI=>I (i 0) h))
def aCF:dG:=λi=>match i with
 | 6=>.run 0 16
 | _=>.nil
theorem agb(B E:Value)(h:S146 w K B E):CR 146 [B,E] w K:=
 kB 38 aCF 16 [.tmp 4] Tryz.func146 h
def S147(E B:Value):Prop:=
 aL 161 w λa b=>cQ (λM=>bB .lss 3 B (i 0) λc=>cV c (M tt b) (nC E λd=>fA 148 d 1 λe=>lA 80 e b λf=>lN 80 f λg=>bA .geq 3 B g λh=>M h b)) (λj k=>∀_:Env,
 cV j (eM ji (n3 161 [].toArray) λl=>sA 161 a l k λn=>lA 161 a n λr=>K (.tuple #[r,(i 1)]) n) (cF 146 [E,B] k λo p=>eM ji (Op.unary .not o) λq=>
 cV q (eM ji (n3 161 [].toArray) λs=>sA 161 a s p λt=>lA 161 a t λHH=>K (.tuple #[HH,(i 13)]) t) (nC E λu=>fA 148 u 1 λv=>lA 80 v p λx=>
 iA 80 x B λy=>lA 161 y p λz=>aL 161 p λU ab=>sA 161 U z ab λac=>bS 80 0 [] ac λad O=>nC E λaf=>fA 148 af 1 λag=>lA 80 ag O λah=>eM ji (rr 80 ah none (some B) none) λai=>
 aP 80 ad ai O λaj J=>nC E λal=>fA 148 al 1 λam=>lA 80 am J λan=>bB .add 3 B (i 1) λao=>eM ji (rr 80 an (some ao) none none) λap=>aP 80 aj ap J λaq ar=>
 nC E λI=>fA 148 I 1 λau=>sA 80 au aq ar λW=>lA 161 U W λaw=>sA 161 a aw W λV=>lA 161 a V λMY=>K (.tuple #[MY,(i 0)]) V)))
theorem agc(B E:Value)(h:S147 w K B E):CR 147 [B,E] w K:=
 kB 54 (λ_=>.nil) 48 [.cell 4 161,.tmp 5] Tryz.func147 h
theorem aj5:PL 106:=eL Tryz.func106
theorem aau:PL 107:=eL Tryz.func107
theorem as9:PL 109:=eL Tryz.func109
theorem aj6:PL 110:=eL Tryz.func110
theorem ata:PL 111:=eL Tryz.func111
theorem aj7:PL 112:=eL Tryz.func112
theorem atb:PL 113:=eL Tryz.func113
theorem atc:PL 114:=eL Tryz.func114
theorem atd:PL 115:=eL Tryz.func115
theorem Vw:PL 116:=eL Tryz.func116
theorem ate:PL 117:=eL Tryz.func117
theorem atf:PL 118:=eL Tryz.func118
theorem atg:PL 119:=eL Tryz.func119
theorem aj8:PL 120:=eL Tryz.func120
theorem aav:PL 121:=eL Tryz.func121
theorem aj9:PL 122:=eL Tryz.func122
theorem aka:PL 123:=eL Tryz.func123
theorem akb:PL 124:=eL Tryz.func124
theorem akc:PL 125:=eL Tryz.func125
theorem ath:PL 126:=eL Tryz.func126
theorem akd:PL 127:=eL Tryz.func127
theorem aaw:PL 128:=eL Tryz.func128
theorem ake:PL 129:=eL Tryz.func129
theorem ati:PL 130:=eL Tryz.func130
theorem Vx:PL 131:=eL Tryz.func131
theorem atj:PL 132:=eL Tryz.func132
theorem atk:PL 133:=eL Tryz.func133
theorem atl:PL 134:=eL Tryz.func134
theorem atm:PL 135:=eL Tryz.func135
theorem atn:PL 136:=eL Tryz.func136
theorem ato:PL 137:=eL Tryz.func137
theorem akf:PL 138:=eL Tryz.func138
theorem akg:PL 139:=eL Tryz.func139
theorem HM:PL 140:=eL Tryz.func140
theorem akh:PL 141:=eL Tryz.func141
theorem aki:PL 142:=eL Tryz.func142
theorem akj:PL 143:=eL Tryz.func143
theorem aax:PL 144:=eL Tryz.func144
theorem atp:PL 145:=eL Tryz.func145
theorem akk:PL 146:=eL Tryz.func146
theorem atq:PL 147:=eL Tryz.func147
end Go.Proofs.YtnjcingfdhjfkaaGreat
