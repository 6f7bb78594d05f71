/-
  Part 1.
-/
import Derived.Test.YtpdlpabnlkofmaaGreatDoorProg
import Derived.Orders
import Derived.Tactics
import Derived.OrdersIn
import Derived.TacticsIn
import Derived.RangeFuncSeq
import Derived.RangeFuncLeaves
import Derived.Laws.Sem
import Derived.KernelRfl
import Derived.Below
import Derived.IntWalk
import Derived.Laws.AppendOwn
import Derived.Laws.MakeOwn
import Derived.WalkKit
import Derived.ProofKit
import Derived.OpenShut
import Derived.ChangeCalls
import Derived.Laws.Strings
import Derived.Lib.ConvBytes
import Derived.MapKept
import Derived.Maps.RangeRun
import Derived.Lib.AppendZeros
import Derived.LaidMore
import Derived.Lay
import Derived.SevenTiedAt
import Derived.Stop.Joined
set_option maxHeartbeats 8000000
set_option linter.all false
set_option maxRecDepth 100000
namespace Go
def bL{p:Prop}(h:p:=by omega):p:=h
def cD{p:Prop}(h:p:=by grind):p:=h
def dy{p:Prop}(h:p:=by decide):p:=h
def ee{p:Prop}(h:p:=by simp):p:=h
def ei:=@if_neg
def ej:=@if_pos
def ew:=@decide_eq_true
def ez:=@decide_eq_false
def fN:=@decide_eq_decide
def gL:=@congrArg
def gM:=@of_decide_eq_true
def g6:=@of_decide_eq_false
def g7:=@Classical.byContradiction
noncomputable abbrev hH:=Proofs.Tryz.prog
abbrev hM:=World->Prop
abbrev ir(i:Int):Value:=.int .i64 i
end Go
open ByteArray renaming mk->j0
open List renaming getElem?_eq_some_iff->kE,length_append->l0,append_assoc->n4,replicate->oz,mem_cons_self->o4,length_cons->o5,mem_cons_of_mem->qa,append_nil->qb,mem_cons->s4,getElem?_append_left->uc,mem_singleton->vS,length_replicate->yz,nil_append->zS,map_congr_left->B0,getElem?_eq_none_iff->EV,all_eq_true->H3,length_nil->Ld,size_toArray->Oa,getElem?_toArray->P7,mem_filterMap->SX,zipIdx_cons->abf
open Option renaming bind_some->mv,some->ob,map_some->FK
open Go.Instr renaming build->mE,sliceAt->oa,index->wk,lookup->wo,sliceBounds->wN,mapUpdate->xi,loadAt->z9,box->BF,fieldAt->H4,indexAt->H5,storeAt->LS,buildSlice->ML,makeSlice->NA,makeMap->NK,alloc->Qj,extract->U0,fill->aaf,sliceBound->abe
open Go.Value renaming int->n3,bool->x6,slice->Be,cells->abE,pointer->abY
open Bool renaming and_eq_true->oj,not_eq_true'->u1,or_eq_true->zD,true_and->Et,not_false->P0
open Nat renaming le_refl->sl,le_trans->vJ,zero_add->xp,le_of_eq->CL,mul_le_mul_right->D6,beq->Fm,le_of_ble_eq_true->Fq,land->Kd,succ_mul->LQ,shiftLeft->L8,lor->PY,add_zero->P1,eq_of_beq_eq_true->P8,testBit_two_pow->Sq,one_shiftLeft->TW,ble->UN,testBit_or->Yu,add_mul->ZJ,mul_le_mul->ZK,blt->abU
open Array renaming getD_eq_getD_getElem?->FP,getElem?_eq_some_iff->F1,getElem?_modify->P9,toArray_toList->QH,length_toList->SJ,empty_append->aab,foldl_toList->aae,range->ab6,ext'->aca
open Go.World renaming cell?->UR,setCell->abX
open Prod renaming mk->abV
open Go.Code renaming region->ab5
open Classical renaming choose->acd
namespace Go.Fw
abbrev Env:=Nat->Value
def ev(e:Env):Operand->Value
 | .tmp t=>e t
 | .const v=>v
 | .global g=>.pointer (some ⟨g,0,none⟩)
 | .func f=>.func (.func f) #[] #[]
def Ad(e:Env)(d:Nat)(v:Value):Env:=λi=>bif Fm i d then v else e i
def jP(e:Env)(d:Option Nat)(v:Value):Env:=match d with|some d=>Ad e d v|none=>e
theorem nu(e:Env)(d:Nat)(v:Value):Ad e d v d=v:=by simp[Ad]
theorem oE(e:Env){d i:Nat}(v:Value)(h:i≠d):Ad e d v i=e i:=by
 have:Fm i d=false:=by
  cases hh:Fm i d
  .rfl
  simp_all
 simp[Ad,this]
def Wt(e:Env){d u:Nat}(v B:Value)(h:d≠u):Ad (Ad e d v) u B=Ad (Ad e u B) d v:=by
 funext i
 by_cases h1:i=d
 .subst h1;rw[oE _ _ h,nu,nu]
 by_cases h2:i=u
 .subst h2;rw[nu,oE _ _ h1,nu]
 rw[oE _ _ h2,oE _ _ h1,oE _ _ h1,oE _ _ h2]
def aii(e:Env)(d:Nat)(v:Value)(h:e d=v):Ad e d v=e:=by
 funext i
 by_cases h1:i=d
 .subst h1;rw[nu,h]
 rw[oE _ _ h1]
def mark(D:Nat):Deferred:={target:=.collected D,args:=#[]}
structure jt(ds:List Nat)(n:Nat)(e:Env)(a:Act):Prop where
 defers:a.defers=ds.map mark
 size:a.tmps.size=n
 get:∀i,a.tmps.getD i undef=e i
def jt.eval{ds:List Nat}{n:Nat}{e:Env}{a:Act}(h:jt ds n e a):a.eval=ev e:=by
 funext x
 cases x<;>simp[Act.eval,ev]
 case tmp t=>simpa using h.get t
theorem jt.put{ds:List Nat}{n:Nat}{e:Env}{a:Act}(h:jt ds n e a){d:Option Nat}(hd:∀k,d=some k->k<n)(v:Value) :
  jt ds n (jP e d v) (a.put d v):=by
 cases d with
 | none=>exact h
 | some d=>
  have hd:=hd d rfl
  refine⟨h.defers,by simp[Act.put,h.size],λi=>?_⟩
  have u:=h.get i
  simp only[Act.put,jP,FP]at *
  by_cases hi:i=d
  .subst hi
   rw[Array.getElem?_setIfInBounds_self_of_lt (by rw[h.size];exact hd),nu]
   rfl
  .rw[Array.getElem?_setIfInBounds_ne (Ne.symm hi),oE _ _ hi]
   exact u
def pr(P:Program){α:Type}:Sem α->Option α
 | .pure a=>some a
 | .program k=>pr P (k P)
 | .mark _ k=>pr P k
 | _=>none
theorem fa{P:Program}{α:Type}{m:Sem α}{v:α}(h:pr P m=some v)(w:World):m.run P w=.ok v w:=by
 induction m with
 | pure a=>simp only[pr,ob.injEq]at h;simp_all
 | program k u=>exact u P h
 | mark x k u=>exact u h
 | _=>simp[pr]at h
theorem eS{P:Program}{α:Type}(a:α):pr P (pure a:Sem α)=some a:=rfl
theorem cI{P:Program}{α β:Type}(m:Sem α)(f:α->Sem β):pr P (m >>= f)=(pr P m).bind λa=>pr P (f a):=by
 show pr P (m.bind f)=_
 induction m with
 | pure a=>rfl
 | program k u=>exact u P
 | mark x k u=>exact u
 | _=>rfl
theorem eG{P:Program}{α β:Type}{m:Sem α}{f:α->Sem β}{w w':World}{a:α}(h:m.run P w=.ok a w') :
  (m >>= f).run P w=(f a).run P w':=by simp_all
theorem run_pure{P:Program}{α:Type}(a:α)(w:World):(pure a:Sem α).run P w=.ok a w:=rfl
abbrev FO(r:Option Nat):Fence:={Fence.wide with round:=r}
def Ei{r:Option Nat}{p:Prop}:(FO r).depth.isSome=true->p:=λh=>by cases h
def zj{r:Option Nat}{n:Nat}{P:Program}{f:FuncId}{args:Array Value}{w:World}{R:Ending->hM}:CallsIn (FO r) n P f args w R↔Calls P f args w R:=
 callsIn_wide (n:=n)
def tu(K:Value->hM):Ending->hM:=λe w=>∃v,e=.returned v/\K v w
def tu.mono{K u:Value->hM}{e:Ending}{w:World}(h:tu K e w)(k:∀v w,K v w->u v w):tu u e w:=
 let ⟨v,E,B⟩:=h;⟨v,E,k _ _ B⟩
def Plain(P : Program)(f : FuncId) : Prop := ∃u, P.funcs[f]?=some u /\ (u.name == "runtime.NumGoroutine")=false /\ u.body.isNone=false
theorem Ai{P:Program}{f:FuncId}(h:Plain P f)(args:Array Value)(w:World) :
  (callFunc f args).run P w=.ok (.enter f args) w:=by
 obtain⟨u,h1,h2,h3⟩:=h
 show(match P.funcs[f]? with|none=>_|some u=>_:Sem Next).run P w=_
 rw[h1]
 simp[h2,h3]
structure eK(P:Program)(m:Sem Value)(K:Value->Prop):Prop where
 ex:∃v,pr P m=some v/\K v
structure GL(P:Program)(m:Sem Value)(w:World)(K:Value->Prop):Prop where
 ex:∃v,m.run P w=.ok v w/\K v
structure qM(P:Program)(m:Sem Value)(w:World)(K:Value->hM):Prop where
 ex:∃v w',m.run P w=.ok v w'/\K v w'
structure RB(P:Program)(m:Sem Unit)(w:World)(K:hM):Prop where
 ex:∃w',m.run P w=.ok () w'/\K w'
structure CM(P:Program)(f:FuncId)(args:List Value)(w:World)(K:Value->hM):Prop where
 ex:(Plain P f/\Calls P f args.toArray w (tu K))\/∃v w',(callFunc f args.toArray).run P w=.ok (.value v) w'/\K v w'
structure kG(P:Program)(fv:Value)(args:List Value)(w:World)(K:Value->hM):Prop where
 ex:(∃g first cap,fv=.func (.func g) first cap/\Plain P g/\Calls P g (first++args.toArray++cap) w (tu K))\/
  ∃l,fv=.func (.yield l) #[] #[]/\YieldAt (FO none) 0 P l args.toArray w (tu K)
structure yL(v:Value)(A B:Prop):Prop where
 ex:∃t,v=.bool t/\(t=true->A)/\(t=false->B)
structure RC(P:Program)(m:Sem Value)(v:Value)(w:World)(R:Prop):Prop where
 anm:m.run P w=.ok v w
 rest:R
inductive Ej where
 | val (v:Value)
 | p (m:Sem Value)
 | q (m:Sem Value)
 | e (m:Sem Value)
 | u (m:Sem Unit)
 | call (f:FuncId) (args:List Value)
 | RD (fv:Value) (args:List Value)
 | bad
def V4:Operand->Bool|.const _=>true|_=>false
def T7:Value->Sem Value
 | .pointer none|.nilIface|.nilFunc => stuck "nil"
 | .func (.method _) _ _ => stuck "method"
 | x=>pure x
def Wu(c a b:Value):Sem Value:=do pure (if <- asBool c then a else b)
def acm(op:BinOp)(t:TypeId)(cx cy:Bool)(a b:Value):Sem Value:=
 match a,b with
 | .nilIface, .nilIface => if cx||cy then binOp op t a b else stuck "two nil interfaces"
 | .agg _, .agg _ => .program λp => if p.eqGuardType p.depth t then stuck "an interface in a part" else binOp op t a b
 | _,_=>binOp op t a b
def jQ(op:BinOp)(t:TypeId)(cx cy:Bool)(a b:Value):Sem Value:=
 match op with
 | .eql=>acm .eql t cx cy a b
 | .neq=>acm .neq t cx cy a b
 | op=>binOp op t a b
def acn(P:Program)(op:BinOp)(t:TypeId)(x y:Operand):Bool:=
 match op with
 | .eql|.neq=>match P.underlying t with
  | some (.pointer _)|some .unsafePointer=>!(V4 x||V4 y)
  | _=>false
 | _=>false
def isMap(P:Program)(t:TypeId):Bool:=match P.underlying t with|some (.map _ _)|some (.chan _ _)=>true|_=>false
def ann(P:Program)(s d:TypeId):Nat:=
 match P.underlying d with
 | some (.slice _)=>2
 | some .string=>match P.underlying s with|some (.slice _)=>1|_=>0
 | _=>0
def Aj(P:Program)(o:Oper)(ρ:Operand->Value):Ej:=
 match o.op with
 | .move x|.assign x=>.val (ρ x)
 | .pick c a b=>.p (Wu (ρ c) (ρ a) (ρ b))
 | .alloc t=>.e (Qj t true (.tuple #[]))
 | .box t x=>.e (BF t (ρ x))
 | .build t parts=>.p (mE t (parts.toList.map λq=>(q.1,ρ q.2)).toArray)
 | .buildSlice t n parts=>.e (ML t n (parts.toList.map λq=>(q.1,ρ q.2)).toArray)
 | .load t a=>.q (z9 t (ρ a))
 | .store t a x=>.u (LS t (ρ a) (ρ x))
 | .nilCheck x=>.p (T7 (ρ x))
 | .binOp op t x y _=>if acn P op t x y then .q (jQ op t (V4 x) (V4 y) (ρ x) (ρ y))else .p (jQ op t (V4 x) (V4 y) (ρ x) (ρ y))
 | .unOp op _ x=>.p (Op.unary op (ρ x))
 | .convert s d x=>match ann P s d with|0=>.p (convert s d (ρ x))|1=>.q (convert s d (ρ x))|_=>.e (convert s d (ρ x))
 | .makeInterface t x=>.q (Instr.makeInterface t (ρ x))
 | .makeFunc fn first cap=>.val (.func fn (first.toList.map ρ).toArray (cap.toList.map ρ).toArray)
 | .makeMap t r=>.e (NK t (r.map ρ))
 | .makeSlice t l c=>.e (NA t (ρ l) (ρ c))
 | .slice t x lo hi B=>.p (oa t (ρ x) (lo.map ρ) (hi.map ρ) (B.map ρ))
 | .fieldAddr s x f=>.p (H4 s (ρ x) f)
 | .field t x f=>.p (Instr.field t (ρ x) f)
 | .indexAddr t x i=>.p (H5 t (ρ x) (ρ i))
 | .index t x i=>.p (wk t (ρ x) (ρ i))
 | .lookup t x i ok=>.q (wo t (ρ x) (ρ i) ok)
 | .mapUpdate t m k x|.insert t m k x=>.u (xi t (ρ m) (ρ k) (ρ x))
 | .mapEntry t m k=>.e (Instr.mapEntry t (ρ m) (ρ k))
 | .entryStore t m s x=>.u (Instr.entryStore t (ρ m) (ρ s) (ρ x))
 | .range t x=>.e (Instr.range t (ρ x))
 | .next it s=>.e (Instr.next (ρ it) s o.type)
 | .entry it=>.q (Instr.entry (ρ it))
 | .typeAssert x t u ok=>.q (Instr.typeAssert (ρ x) t u ok)
 | .extract t i=>.p (U0 (ρ t) i)
 | .call c=>
  match c.callee with
  | .value (.func f)=>.call f (c.args.toList.map ρ)
  | .value x=>.RD (ρ x) (c.args.toList.map ρ)
  | .invoke ..=>.bad
  | .builtin b=>
   match b with
   | .len=>if isMap P (c.argTypes.getD 0 0)then .q (Builtin.len_ c.argTypes o.type (c.args.toList.map ρ).toArray)else .p (Builtin.len_ c.argTypes o.type (c.args.toList.map ρ).toArray)
   | .cap=>.p (Builtin.cap_ c.argTypes o.type (c.args.toList.map ρ).toArray)
   | .min=>.p (Builtin.min_ c.argTypes o.type (c.args.toList.map ρ).toArray)
   | .max=>.p (Builtin.max_ c.argTypes o.type (c.args.toList.map ρ).toArray)
   | .append=>.e (Builtin.append_ c.argTypes o.type (c.args.toList.map ρ).toArray)
   | .copy=>.e (Builtin.copy_ c.argTypes o.type (c.args.toList.map ρ).toArray)
   | .clear=>.e (Builtin.clear_ c.argTypes o.type (c.args.toList.map ρ).toArray)
   | .delete=>.e (Builtin.delete_ c.argTypes o.type (c.args.toList.map ρ).toArray)
   | _=>.bad
 | _=>.bad
def Hb(P:Program)(k:Ej)(K:Value->hM)(w:World):Prop:=
 match k with
 | .val v=>K v w
 | .p m=>eK P m (λv=>K v w)
 | .q m=>GL P m w (λv=>K v w)
 | .e m=>qM P m w K
 | .u m=>RB P m w (λw'=>K undef w')
 | .call f args=>CM P f args w K
 | .RD fv args=>kG P fv args w K
 | .bad=>False
def Ej.quiet:Ej->Bool
 | .val _|.p _|.q _=>true
 | _=>false
def Ej.reads:Ej->Bool
 | .q _=>true
 | _=>false
def Ej.has(P:Program)(k:Ej)(w:World)(v:Value):Prop:=
 match k with
 | .val x=>x=v
 | .p m=>pr P m=some v
 | .q m=>m.run P w=.ok v w
 | _=>False
def Hb.has{P:Program}{k:Ej}{K:Value->hM}{w:World}(u:k.quiet=true)(h:Hb P k K w):∃v,k.has P w v/\K v w:=by
 cases k<;>simp only[Ej.quiet,Bool.false_eq_true]at u<;>simp only[Hb]at h
 case val v=>exact⟨v,rfl,h⟩
 case p m=>exact h.ex
 case q m=>exact h.ex
def Ej.T8{P:Program}{k:Ej}{w w':World}{v:Value}(u:k.reads=false)(h:k.has P w v):k.has P w' v:=by
 cases k<;>simp only[Ej.has,Ej.reads,Bool.true_eq_false]at *
 .exact h
 exact h
def Hb.Wv{P:Program}{k:Ej}{K:Value->hM}{w:World}{v:Value}(h:k.has P w v)(B:K v w):Hb P k K w:=by
 cases k<;>simp only[Ej.has]at h<;>simp only[Hb]
 case val u=>grind
 case p m=>exact⟨v,h,B⟩
 case q m=>exact⟨v,h,B⟩
def Hb.mono{P:Program}{k:Ej}{K E:Value->hM}{w:World}(h:Hb P k K w)(B:∀v w,K v w->E v w):Hb P k E w:=by
 cases k<;>simp only[Hb]at *
 case val v=>grind
 case p m=>exact⟨let ⟨v,a,b⟩:=h.ex;⟨v,a,B _ _ b⟩⟩
 case q m=>exact⟨let ⟨v,a,b⟩:=h.ex;⟨v,a,B _ _ b⟩⟩
 case e m=>exact⟨let ⟨v,w',a,b⟩:=h.ex;⟨v,w',a,B _ _ b⟩⟩
 case u m=>exact⟨let ⟨w',a,b⟩:=h.ex;⟨w',a,B _ _ b⟩⟩
 case call f args=>
  rcases h.ex with⟨a,b⟩|⟨v,w',a,b⟩
  .exact⟨.inl ⟨a,b.mono λe w' r=>r.mono B⟩⟩
  .exact⟨.inr ⟨v,w',a,B _ _ b⟩⟩
 case RD fv args=>
  rcases h.ex with⟨g,f,c,a,b,d⟩|⟨l,a,G,t,s,b,c,d⟩
  .exact⟨.inl ⟨g,f,c,a,b,d.mono λe w' r=>r.mono B⟩⟩
  .exact⟨.inr ⟨l,a,G,t,s,b,c,d.mono λe w' r=>r.mono B⟩⟩
def uw{r:Option Nat}{P:Program}{o:Oper}{a:Act}{w:World}:∀f,o.about P w a.eval=some f->(FO r).fn f:=λ_ _=>trivial
def KO{r:Option Nat}{P:Program}{o:Oper}{a:Act}{next:Act->hM}{Q:Exit->Act->hM}{f:FuncId}{args:Array Value}{w:World}
  {K:Value->hM}(h:Calls P f args w (tu K)) (B:∀v w',K v w'->next (a.put o.dst v) w'):o.uponIn (FO r) 0 P a next Q (.ok (.enter f args) w):=by
 rw[Oper.uponIn_enter]
 refine⟨Ei,zj.2 (h.mono λe w' ⟨v,E,u⟩=>?_)⟩
 grind
def GM{r:Option Nat}{P:Program}{o:Oper}{a:Act}{next:Act->hM}{Q:Exit->Act->hM}{l:Nat}{f:FuncId}{tmps:Array Value}{assign body:Code}{w:World}
  {K:Value->hM}(h:RoundIn (FO none) 0 P l f tmps assign body w (tu K)) (G:∀v w',K v w'->next (a.put o.dst v) w'):o.uponIn (FO r) 0 P a next Q (.ok (.round l f tmps assign body) w):=by
 rw[Oper.uponIn_round]
 refine⟨Ei,?_⟩
 have u:RoundIn (FO r) 0 P l f tmps assign body w (tu K):=h
 refine u.mono λe w' ⟨v,E,B⟩=>?_
 grind
def kH{r:Option Nat}{P:Program}{o:Oper}{a:Act}{next:Act->hM}{Q:Exit->Act->hM}{w w':World}{v:Value}(u:∀c,o.op≠.defer c)
  (h:(execOp a.eval o).run P w=.ok (.value v) w') (B:next (a.put o.dst v) w'):o.wpIn (FO r) 0 P a w next Q:=by
 unfold Oper.wpIn;rw[Oper.semAt_eq _ _ _ u,h,Oper.uponIn_value];exact⟨uw,B⟩
def OJ{r:Option Nat}{P:Program}{o:Oper}{a:Act}{next:Act->hM}{Q:Exit->Act->hM}{w w':World}(u:∀c,o.op≠.defer c)
  (h:(execOp a.eval o).run P w=.ok .skip w') (B:next (a.put o.dst undef) w'):o.wpIn (FO r) 0 P a w next Q:=by
 unfold Oper.wpIn;rw[Oper.semAt_eq _ _ _ u,h,Oper.uponIn_skip];exact⟨uw,B⟩
def KP{P:Program}{m:Sem Value}{w w':World}{v:Value}(h:m.run P w=.ok v w') :
  (do pure (.value (<- m)):Sem Next).run P w=.ok (.value v) w':=by simp_all
def ano{P:Program}{m:Sem Unit}{w w':World}(h:m.run P w=.ok () w') :
  (do m;pure .skip:Sem Next).run P w=.ok .skip w':=by simp_all
theorem DB{α β:Type}(f:α->β)(l:Array α):(l.toList.map f).toArray=l.map f:=by
 grind
def eqG(t:TypeId)(x y:Operand)(a b:Value):Sem Unit:=
 match a,b with
 | .nilIface,.nilIface=>if (V4 x||V4 y)=true then pure ()else do
   if <- Op.eqGuardIn Op.maxDepth t a b then unsupported (.noEntry "binop/eql: two nil values of an interface type with methods, neither of them the literal nil")
 | .agg _,.agg _=>do
  if !(<- program).eqGuardType (<- program).depth t then return
  if <- Op.eqGuardIn Op.maxDepth t a b then unsupported (.noEntry "binop/eql: two nil values of an interface type with methods, in a part of a struct or an array")
 | _,_=>pure ()
def CN{P:Program}{op:BinOp}(B:op=.eql\/op=.neq){t:TypeId}{x y:Operand}{a b:Value}{w w':World}{v:Value}
  (h:(acm op t (V4 x) (V4 y) a b).run P w=.ok v w'):(eqGuard op t x y a b).run P w=.ok () w/\(binOp op t a b).run P w=.ok v w':=by
 have u:eqGuard op t x y a b=eqG t x y a b:=by rcases B with rfl|rfl<;>cases x<;>cases y<;>rfl
 rw[u]
 clear u
 unfold eqG
 unfold acm at h
 split at h
 .split at h
  .simp_all
  simp_all
 .rename_i c1 c2
  have E : (if P.eqGuardType P.depth t then stuck "an interface in a part" else binOp op t (.agg c1) (.agg c2) : Sem Value).run P w=.ok v w' := h
  split at E
  .simp_all
  simp_all
 simp_all
def KQ{P:Program}{op:BinOp}{t:TypeId}{x y:Operand}{a b:Value}{w w':World}{v:Value}
  (h:(jQ op t (V4 x) (V4 y) a b).run P w=.ok v w'):(do eqGuard op t x y a b;binOp op t a b:Sem Value).run P w=.ok v w':=by
 unfold jQ at h
 split at h
 .obtain⟨h1,h2⟩:=CN (.inl rfl) h
  simp_all
 .obtain⟨h1,h2⟩:=CN (.inr rfl) h
  simp_all
 rename_i n1 n2
 have h1:(eqGuard op t x y a b).run P w=.ok () w:=by
  unfold eqGuard
  simp_all
 simp_all
theorem Hb.wp{r:Option Nat}{ds:List Nat}{P:Program}{n:Nat}{o:Oper}{e:Env}{a:Act}{w:World}{K:Value->hM}{Q:Exit->Act->hM}{next:Act->hM}
  (ha:jt ds n e a) (h:Hb P (Aj P o (ev e)) K w) (I:∀v w',K v w'->next (a.put o.dst v) w'):o.wpIn (FO r) 0 P a w next Q:=by
 have G:=ha.eval
 have B:∀c,o.op≠.defer c:=λc hc=>by unfold Aj at h;rw[hc]at h;exact h
 have V:∀{m:Sem Value},eK P m (λv=>K v w)->execOp (ev e) o=(do pure (.value (<- m)):Sem Next)->o.wpIn (FO r) 0 P a w next Q:=λO J=>by
  obtain⟨v,h1,h2⟩:=O.ex
  exact kH (w':=w) B (by rw[G,J];exact KP (fa h1 w)) (I _ _ h2)
 have Y:∀{m:Sem Value},GL P m w (λv=>K v w)->execOp (ev e) o=(do pure (.value (<- m)):Sem Next)->o.wpIn (FO r) 0 P a w next Q:=λO J=>by
  obtain⟨v,h1,h2⟩:=O.ex
  exact kH (w':=w) B (by rw[G,J];exact KP h1) (I _ _ h2)
 have E:∀{m:Sem Value},qM P m w K->execOp (ev e) o=(do pure (.value (<- m)):Sem Next)->o.wpIn (FO r) 0 P a w next Q:=λO J=>by
  obtain⟨v,w',h1,h2⟩:=O.ex
  exact kH B (by rw[G,J];exact KP h1) (I _ _ h2)
 have U:∀{m:Sem Unit},RB P m w (λw'=>K undef w')->execOp (ev e) o=(do m;pure .skip:Sem Next)->o.wpIn (FO r) 0 P a w next Q:=λO J=>by
  obtain⟨w',h1,h2⟩:=O.ex
  exact OJ B (by rw[G,J];exact ano h1) (I _ _ h2)
 unfold Aj at h
 cases kc:o.op with
 | move x=>rw[kc]at h;exact kH (w':=w) B (by rw[G];simp only[execOp,kc];rfl) (I _ _ h)
 | assign x=>rw[kc]at h;exact kH (w':=w) B (by rw[G];simp only[execOp,kc];rfl) (I _ _ h)
 | pick c x y=>
  rw[kc]at h
  obtain⟨v,h1,h2⟩:=h.ex
  refine kH (w':=w) B ?_ (I _ _ h2)
  rw[G];simp only[execOp,kc]
  have:=fa h1 w
  unfold Wu at this
  revert this
  cases ev e c<;>simp only[asBool]<;>intro this<;>first|(simp only[stuck]at this;exact absurd this (by simp[Sem.run]))|skip
  case bool t=>
   have e2:v=(if t=true then ev e x else ev e y):=by
    have:(Result.ok (if t=true then ev e x else ev e y) w:Result Value)=.ok v w:=this
    simpa using this.symm
   rw[e2];rfl
 | alloc t=>rw[kc]at h;exact E h (by simp only[execOp,kc])
 | box t x=>rw[kc]at h;exact E h (by simp only[execOp,kc])
 | build t ps=>rw[kc]at h;exact V h (by simp only[execOp,kc,DB])
 | buildSlice t n ps=>rw[kc]at h;exact E h (by simp only[execOp,kc,DB])
 | insert t m k x=>rw[kc]at h;exact U h (by simp only[execOp,kc])
 | load t x=>rw[kc]at h;exact Y h (by simp only[execOp,kc])
 | store t x y=>rw[kc]at h;exact U h (by simp only[execOp,kc])
 | nilCheck x=>
  rw[kc]at h
  obtain⟨v,h1,h2⟩:=h.ex
  refine kH (w':=w) B ?_ (I _ _ h2)
  rw[G];simp only[execOp,kc]
  revert h1
  cases J:ev e x with
  | pointer p=>cases p<;>simp[T7,stuck,pr,eS]<;>(try(rintro rfl;rfl))
  | func fn f c=>cases fn<;>simp[T7,stuck,pr,eS]<;>(try(rintro rfl;rfl))
  | _=>simp[T7,stuck,pr,eS]<;>(try(rintro rfl;rfl))
 | binOp op t x y u=>
  rw[kc]at h
  dsimp only at h
  split at h
  .obtain⟨v,h1,h2⟩:=h.ex
   exact kH (w':=w) B (by rw[G];simp only[execOp,kc];exact KP (KQ h1)) (I _ _ h2)
  .obtain⟨v,h1,h2⟩:=h.ex
   exact kH (w':=w) B (by rw[G];simp only[execOp,kc];exact KP (KQ (fa h1 w))) (I _ _ h2)
 | unOp op t x=>rw[kc]at h;exact V h (by simp only[execOp,kc])
 | convert s d x=>
  rw[kc]at h
  dsimp only at h
  split at h
  .exact V h (by simp only[execOp,kc])
  .exact Y h (by simp only[execOp,kc])
  .exact E h (by simp only[execOp,kc])
 | makeInterface t x=>rw[kc]at h;exact Y h (by simp only[execOp,kc])
 | makeFunc fn f c=>rw[kc]at h;exact kH (w':=w) B (by rw[G];simp only[execOp,kc,<- DB];rfl) (I _ _ h)
 | makeMap t r=>rw[kc]at h;exact E h (by simp only[execOp,kc])
 | makeSlice t l c=>rw[kc]at h;exact E h (by simp only[execOp,kc])
 | slice t x lo hi mx=>rw[kc]at h;exact V h (by simp only[execOp,kc])
 | fieldAddr s x f=>rw[kc]at h;exact V h (by simp only[execOp,kc])
 | field t x f=>rw[kc]at h;exact V h (by simp only[execOp,kc])
 | indexAddr t x i=>rw[kc]at h;exact V h (by simp only[execOp,kc])
 | index t x i=>rw[kc]at h;exact V h (by simp only[execOp,kc])
 | lookup t x i ok=>rw[kc]at h;exact Y h (by simp only[execOp,kc])
 | mapUpdate t m k x=>rw[kc]at h;exact U h (by simp only[execOp,kc])
 | mapEntry t m k=>rw[kc]at h;exact E h (by simp only[execOp,kc])
 | entryStore t m s x=>rw[kc]at h;exact U h (by simp only[execOp,kc])
 | range t x=>rw[kc]at h;exact E h (by simp only[execOp,kc])
 | next it s=>rw[kc]at h;exact E h (by simp only[execOp,kc])
 | entry it=>rw[kc]at h;exact Y h (by simp only[execOp,kc])
 | typeAssert x t u ok=>rw[kc]at h;exact Y h (by simp only[execOp,kc])
 | extract t i=>rw[kc]at h;exact V h (by simp only[execOp,kc])
 | call c=>
  rw[kc]at h
  dsimp only at h
  have M:(c.args.toList.map (ev e)).toArray=c.args.map (ev e):=DB _ _
  cases hc:c.callee with
  | value x=>
   rw[hc]at h
   have W:∀{g:FuncId}{first cap:Array Value},ev e x=.func (.func g) first cap->Plain P g->Calls P g (first++(c.args.toList.map (ev e)).toArray++cap) w (tu K)->o.wpIn (FO r) 0 P a w next Q:=by
    intro g first cap J O jW
    unfold Oper.wpIn
    rw[Oper.semAt_eq _ _ _ B]
    have hr:(execOp a.eval o).run P w=.ok (.enter g (first++(c.args.toList.map (ev e)).toArray++cap)) w:=by
     rw[G]
     simp only[execOp,kc]
     have h1:(resolve (ev e) c o.type).run P w=.ok {target:=.fn (.func g) cap,args:=first++c.args.map (ev e)} w:=by
      simp only[resolve,hc,J];rfl
     rw[eG h1]
     show(callFunc g (first++c.args.map (ev e)++cap)).run P w=_
     rw[Ai O,M]
    rw[hr]
    exact⟨uw,KO jW λv w' Z=>I v w' Z⟩
   have hyl:∀{l:Nat},ev e x=.func (.yield l) #[] #[]->YieldAt (FO none) 0 P l (c.args.toList.map (ev e)).toArray w (tu K)->o.wpIn (FO r) 0 P a w next Q:=by
    rintro l J ⟨fn,tmps,assign,body,hy,hr⟩
    unfold Oper.wpIn
    rw[Oper.semAt_eq _ _ _ B]
    have hr':(execOp a.eval o).run P w=.ok (.round l fn tmps assign body) w:=by
     rw[G]
     simp only[execOp,kc]
     have h1:(resolve (ev e) c o.type).run P w=.ok {target:=.fn (.yield l) #[],args:=#[]++c.args.map (ev e)} w:=by
      simp only[resolve,hc,J];rfl
     rw[eG h1]
     show(Instr.yield l (#[]++c.args.map (ev e))).run P w=_
     rw[aab,<- M];exact hy
    rw[hr']
    exact⟨uw,GM hr λv w' Z=>I v w' Z⟩
   have wL:kG P (ev e x) (c.args.toList.map (ev e)) w K->o.wpIn (FO r) 0 P a w next Q:=λh=>by
    rcases h.ex with⟨g,first,cap,h1,h2,h3⟩|⟨l,h1,h2⟩
    .exact W h1 h2 h3
    .exact hyl h1 h2
   cases x with
   | func f=>
    rcases h.ex with⟨h1,h2⟩|⟨v,w',h1,h2⟩
    .exact W (g:=f) (first:=#[]) (cap:=#[]) rfl h1 (by simpa using h2)
    .refine kH B ?_ (I _ _ h2)
     rw[G]
     simp only[execOp,kc]
     have h3:(resolve (ev e) c o.type).run P w=.ok {target:=.fn (.func f) #[],args:=#[]++c.args.map (ev e)} w:=by
      simp only[resolve,hc,ev];rfl
     rw[eG h3]
     show(callFunc f (#[]++c.args.map (ev e)++#[])).run P w=_
     rw[<- M,aab,Array.append_empty]
     exact h1
   | tmp t=>exact wL h
   | const v=>exact wL h
   | global g=>exact wL h
  | invoke r nm=>rw[hc]at h;exact h.elim
  | builtin b=>
   rw[hc]at h
   dsimp only at h
   have hb:∀{m:Sem Value},builtin b c.argTypes o.type (c.args.map fun|.const _=>true|_=>false) (c.args.map (ev e))=(do pure (.value (<- m)):Sem Next)->
     execOp (ev e) o=(do pure (.value (<- m)):Sem Next):=by
    intro m hm
    simp only[execOp,kc]
    have h1:resolve (ev e) c o.type=pure {target:=.builtin b c.argTypes o.type (c.args.map fun|.const _=>true|_=>false),args:=c.args.map (ev e)}:=by
     simp only[resolve,hc];rfl
    rw[h1]
    exact hm
   rw[M]at h
   cases b<;>first|exact h.elim|skip
   case len=>
    dsimp only at h
    split at h
    .exact Y h (hb rfl)
    .exact V h (hb rfl)
   case cap=>exact V h (hb rfl)
   case min=>exact V h (hb rfl)
   case max=>exact V h (hb rfl)
   case append=>exact E h (hb rfl)
   case copy=>exact E h (hb rfl)
   case clear=>exact E h (hb rfl)
   case delete=>exact E h (hb rfl)
 | _=>rw[kc]at h;exact h.elim
def pre(o:Oper):List Nat:=(o.after.toList.filter λe=>Region.binds .any e).map (·.on)
def BR(u:List Oper)(j:Nat):Option Nat:=(u[j]?).bind (·.dst)
def looks(u:List Oper)(o:Oper):List Nat:=
 (o.op.operands.toList.filterMap fun|.tmp t=>some t|_=>none)++(match o.guard with|some (j,_)=>(BR u j).toList|none=>[])
def oF(u:List Oper)(o:Oper)(e:Env):Bool:=
 match o.guard with
 | none=>true
 | some (j,b)=>match BR u j with
  | none=>false
  | some s=>match e s with
   | .bool B=>B == b
   | _=>false
theorem Hc{ds:List Nat}{n:Nat}{e:Env}{a:Act}(h:jt ds n e a)(u:List Oper)(o:Oper):Region.wanted o (yielded u.toArray a.tmps)=oF u o e:=by
 unfold Region.wanted oF
 cases o.guard with
 | none=>rfl
 | some g=>
  obtain⟨j,b⟩:=g
  simp only[yielded,BR,P7]
  cases (u[j]?).bind (·.dst)with
  | none=>simp
  | some s=>
   have B:=h.get s
   simp only[mv]
   rw[<- B,FP]
   cases a.tmps[s]? with
   | none=>simp[undef]
   | some v=>grind
theorem T9{P:Program}{o:Oper}{ρ ρ':Operand->Value}(h:∀x∈o.op.operands,ρ x=ρ' x):Aj P o ρ=Aj P o ρ':=by
 unfold Aj
 cases kc:o.op<;>rw[kc]at h<;>simp only[Op.operands]at h<;>dsimp only
 case call c=>
  have G:∀x∈c.args,ρ x=ρ' x:=λx E=>h x (by simp[Call.operands,E])
  have B:c.args.toList.map ρ=c.args.toList.map ρ':=B0 λx E=>G x cD
  rw[B]
  cases hc:c.callee with
  | value x=>
   have E:ρ x=ρ' x:=h x (by simp[Call.operands,hc])
   grind
  | _=>rfl
 case build t ps=>
  have B:(ps.toList.map λq=>(q.1,ρ q.2))=ps.toList.map λq=>(q.1,ρ' q.2):=
   B0 λq I=>cD
  grind
 case buildSlice t n ps=>
  have B:(ps.toList.map λq=>(q.1,ρ q.2))=ps.toList.map λq=>(q.1,ρ' q.2):=
   B0 λq I=>cD
  grind
 case makeFunc fn f c=>
  simp_all
 case makeMap t r=>
  have:r.map ρ=r.map ρ':=by cases r with|none=>rfl|some x=>grind
  grind
 case slice t x lo hi mx=>
  have J:ρ x=ρ' x:=h x ee
  have h1:lo.map ρ=lo.map ρ':=by cases lo with|none=>rfl|some y=>grind
  have h2:hi.map ρ=hi.map ρ':=by cases hi with|none=>rfl|some y=>grind
  have h3:mx.map ρ=mx.map ρ':=by cases mx with|none=>rfl|some y=>grind
  grind
 case load t x=>grind
 case store t x y=>grind
 case pick c x y=>grind
 case binOp op t x y u=>grind
 case insert t m k x=>grind
 case mapUpdate t m k x=>grind
 case entryStore t m k x=>grind
 case mapEntry t m k=>grind
 case lookup t m k ok=>grind
 case indexAddr t m k=>grind
 case index t m k=>grind
 case makeSlice t m k=>grind
 all_goals grind
def aij{e:Env}{d:Nat}{v:Value}{x:Operand}(h:x≠.tmp d):ev (Ad e d v) x=ev e x:=by
 cases x<;>simp only[ev]
 case tmp t=>exact oE _ _ λu=>h (by rw[u])
theorem DC{P:Program}{u:List Oper}{o:Oper}{e:Env}{d:Option Nat}{v:Value}(h:∀k,d=some k->k ∉ looks u o) :
  Aj P o (ev (jP e d v))=Aj P o (ev e):=by
 cases d with
 | none=>rfl
 | some d=>
  refine T9 λx E=>aij λB=>h d rfl ?_
  subst B
  exact List.mem_append_left _ (SX.2 ⟨.tmp d,cD,rfl⟩)
theorem ya{u:List Oper}{o:Oper}{e:Env}{d:Option Nat}{v:Value}(h:∀k,d=some k->k ∉ looks u o) :
  oF u o (jP e d v)=oF u o e:=by
 cases d with
 | none=>rfl
 | some d=>
  have h:=h d rfl
  unfold oF
  unfold looks at h
  cases hg:o.guard with
  | none=>rfl
  | some g=>
   obtain⟨j,b⟩:=g
   rw[hg]at h
   dsimp only at h |-
   cases hs:BR u j with
   | none=>rfl
   | some s=>
    rw[hs]at h
    have:s≠d:=λB=>h (by simp[B])
    simp only[jP,oE _ _ this]
def Ww(u:List Oper)(x y:Oper):Prop:=
 (∀d,x.dst=some d->d ∉ looks u y/\y.dst≠some d)/\(∀d,y.dst=some d->d ∉ looks u x)
theorem Ua{e:Env}{d u:Option Nat}{v B:Value}(h:∀k,d=some k->u≠some k):jP (jP e d v) u B=jP (jP e u B) d v:=by
 cases d with
 | none=>rfl
 | some d=>cases u with
  | none=>rfl
  | some u=>exact Wt _ _ _ λE=>h d rfl (by rw[E])
def DD(P:Program)(u:List Oper)(o:Oper)(K:Env->hM)(e:Env)(w:World):Prop:=
 if oF u o e=true then Hb P (Aj P o (ev e)) (λv w'=>K (jP e o.dst v) w') w else K (jP e o.dst undef) w
def DD.mono{P:Program}{u:List Oper}{o:Oper}{K B:Env->hM}{e:Env}{w:World}(h:DD P u o K e w)
  (E:∀v w',K (jP e o.dst v) w'->B (jP e o.dst v) w'):DD P u o B e w:=by
 unfold DD at *
 split
 .rename_i hw;rw[ej hw]at h;exact h.mono λv w'=>E v w'
 grind
def OK(u:List Oper)(L:Nat->Bool)(i:Nat):Prop:=L i=false/\∃o,u[i]?=some o/\∀p∈pre o,L p=true
def mc(L:Nat->Bool)(i:Nat):Nat->Bool:=λk=>if k=i then true else L k
def Down(u:List Oper)(L:Nat->Bool):Prop:=∀i o,L i=true->u[i]?=some o->∀p∈pre o,L p=true
def Ub(L:Nat->Bool)(i:Nat):mc L i i=true:=by simp[mc]
theorem RE(L:Nat->Bool){i k:Nat}(h:k≠i):mc L i k=L k:=by simp[mc,h]
def IX(L:Nat->Bool)(i:Nat){k:Nat}(h:L k=true):mc L i k=true:=by unfold mc;grind
theorem Uc(L:Nat->Bool)(i j:Nat):mc (mc L i) j=mc (mc L j) i:=by
 grind[mc]
def Down.set{u:List Oper}{L:Nat->Bool}{i:Nat}(h:Down u L)(E:OK u L i):Down u (mc L i):=by
 intro k o B G p I
 by_cases e:k=i
 .subst e
  obtain⟨_,O,J,M⟩:=E
  grind[mc]
 rw[RE _ e]at B
 exact IX _ _ (h k o B G p I)
def OK.set{u:List Oper}{L:Nat->Bool}{i j:Nat}(h:OK u L j)(I:j≠i):OK u (mc L i) j:=
 ⟨by rw[RE _ I];exact h.1,let ⟨o,E,B⟩:=h.2;⟨o,E,λp G=>IX _ _ (B p G)⟩⟩
inductive OL(ops:List Oper):Nat->Nat->Prop
 | one {j i:Nat}{o:Oper}(h:ops[j]?=some o) (hp:i∈pre o):OL ops j i
 | more {j p i:Nat}{o:Oper}(h:ops[j]?=some o) (hp:p∈pre o) (hd:OL ops p i):OL ops j i
theorem OL.listed{u:List Oper}{L:Nat->Bool}(I:Down u L){j i:Nat}(h:OL u j i):(∀o,u[j]?=some o->∀p∈pre o,L p=true)->L i=true:=by
 induction h with
 | one h B=>grind
 | more h B hd J=>intro E;exact J λo G q M=>I _ o (E _ h _ B) G q M
def OL.GN{u:List Oper}{L:Nat->Bool}(G:Down u L){j i:Nat}(h:OL u j i)(B:OK u L j):L i=true:=
 h.listed G λo J p O=>by obtain⟨_,M,E,I⟩:=B;grind
def WS(P:Program)(u:List Oper)(Q:Env->hM)(S:Nat->hM):Nat->(Nat->Bool)->Env->hM
 | 0,L,e,w=>(∀i,¬ OK u L i)/\Q e w
 | f+1,L,e,w=>((∀i,¬ OK u L i)->Q e w)/\
   ∀i o,u[i]?=some o->OK u L i->DD P u o (λB w'=>(w'=w\/S i w')/\WS P u Q S f (mc L i) B w') e w
theorem WS.weaken{P:Program}{u:List Oper}{Q:Env->hM}{S E:Nat->hM}(h:∀i w,S i w->E i w) :
  ∀(f:Nat) (_L:Nat->Bool) (_e:Env) (_w:World),WS P u Q S f _L _e _w->WS P u Q E f _L _e _w
 | 0,_,_,_,B=>B
 | f+1,L,e,w,B=>⟨B.1,λi o G I=>(B.2 i o G I).mono λ_ _ ⟨h1,h2⟩=>⟨h1.imp id (h _ _),WS.weaken h f _ _ _ h2⟩⟩
theorem WS.first{P:Program}{B:List Oper}{Q:Env->hM}{S:Nat->hM}{i:Nat}{G:Oper}{X:Ej}{b:Bool}{v:Value}
  (hi:B[i]?=some G) (hn:b=false->v=undef) :
  ∀(f:Nat) (L:Nat->Bool) (e:Env) (w:World),Down B L->OK B L i->
   (∀j E,B[j]?=some E->j≠i->L j=false->i ∉ pre E->Ww B G E)->
   Aj P G (ev e)=X->oF B G e=b->(b=true->X.has P w v)->
   WS P B Q (λj w'=>S j w'/\(OL B j i\/(b=true->X.has P w' v))) f (mc L i) (jP e G.dst v) w->WS P B Q S (f+1) L e w:=by
 have done:∀(K:Env->hM) (e:Env) (w:World),Aj P G (ev e)=X->oF B G e=b->(b=true->X.has P w v)->K (jP e G.dst v) w->DD P B G K e w:=by
  intro K e w hX hb hy J
  unfold DD
  rw[hb]
  cases b with
  | true=>rw[ej rfl,hX];exact Hb.Wv (hy rfl) J
  | false=>grind
 have sub:∀{f:Nat}{L:Nat->Bool}{e:Env}{w:World},WS P B Q (λj w'=>S j w'/\(OL B j i\/(b=true->X.has P w' v))) f L e w->WS P B Q S f L e w:=
  λh=>WS.weaken (λ_ _ h=>h.1) _ _ _ _ h
 intro f
 induction f with
 | zero=>
  intro L e w hL U RF hX hb hy H
  refine⟨λh=>absurd U (h i),λj E RG O=>?_⟩
  by_cases I:j=i
  .grind
  .exact absurd (O.set I) (H.1 j)
 | succ f ih=>
  intro L e w hL U RF hX hb hy H
  refine⟨λh=>absurd U (h i),λj E RG O=>?_⟩
  by_cases I:j=i
  .grind
  .have er:i ∉ pre E:=λhp=>by
    obtain⟨_,Y,Z,ql⟩:=O.2.elim λY h=>(⟨trivial,Y,h.1,h.2⟩:True/\∃Y,B[j]?=some Y/\∀p∈pre Y,L p=true)
    rw[RG]at Z;cases Z
    have:=ql i hp
    rw[U.1]at this;cases this
   have M:=RF j E RG I O.1 er
   have anp:¬ OL B j i:=λhd=>by
    have:=hd.GN hL O
    rw[U.1]at this;cases this
   have h1:=H.2 j E RG (O.set I)
   have V:∀k,G.dst=some k->k ∉ looks B E:=λk J=>(M.1 k J).1
   have W:∀k,E.dst=some k->k ∉ looks B G:=λk J=>M.2 k J
   have dd:∀k,G.dst=some k->E.dst≠some k:=λk J=>(M.1 k J).2
   have cont:∀(u:Value) (w':World),(w'=w\/(S j w'/\(OL B j i\/(b=true->X.has P w' v))))->
     WS P B Q (λj w'=>S j w'/\(OL B j i\/(b=true->X.has P w' v))) f (mc (mc L i) j) (jP (jP e G.dst v) E.dst u) w'->
     (w'=w\/S j w')/\WS P B Q S (f+1) (mc L j) (jP e E.dst u) w':=by
    intro u w' hw hWS
    refine⟨hw.imp id λh=>h.1,?_⟩
    refine ih (mc L j) (jP e E.dst u) w' (hL.set O) (U.set (Ne.symm I)) ?_ ?_ ?_ ?_ ?_
    .grind[mc,pre,Ww]
    .rw[DC W];exact hX
    .rw[ya W];exact hb
    .grind
    .rw[Uc,Ua λk J=>cD]
     exact hWS
   unfold DD at h1 |-
   rw[ya V]at h1
   split
   .rename_i hw
    rw[ej hw,DC V]at h1
    exact h1.mono λu w' hh=>cont u w' hh.1 hh.2
   grind
def wr(u:List Oper):List Nat:=u.filterMap (·.dst)
def Wx{u:List Oper}{i:Nat}{o:Oper}{d:Nat}(h:u[i]?=some o)(hd:o.dst=some d):d∈wr u:=
 SX.2 ⟨o,List.mem_of_getElem? h,hd⟩
theorem zn{e e0:Env}{u:List Oper}{i:Nat}{o:Oper}(h:∀k,k ∉ wr u->e k=e0 k)(E:u[i]?=some o)(v:Value) :
  ∀k,k ∉ wr u->jP e o.dst v k=e0 k:=by
 intro k B
 cases hd:o.dst with
 | none=>exact h k B
 | some d=>
  have:k≠d:=λG=>B (by rw[G];exact Wx E hd)
  simp only[jP,oE _ _ this]
  grind
def DD.wpOp{r:Option Nat}{ds:List Nat}{P:Program}{n:Nat}{u:List Oper}{i:Nat}{o:Oper}{K:Env->hM}{I:Act->hM}{O:Exit->Act->hM}{e:Env}{a:Act}{w:World}
  (M:u[i]?=some o) (hd:∀k,o.dst=some k->k<n) (B:jt ds n e a) (h:DD P u o K e w)
  (G:∀v E w',jt ds n (jP e o.dst v) E->K (jP e o.dst v) w'->I E w'):wpOpIn (FO r) 0 P u.toArray O i I a w:=by
 unfold Go.wpOpIn
 simp only[P7,M]
 rw[Hc B]
 unfold DD at h
 split
 .rename_i hw
  rw[ej hw]at h
  exact Hb.wp B h λv w' J=>G v _ _ (B.put hd v) J
 rename_i hw
 rw[ei hw]at h
 exact⟨uw,G undef _ _ (B.put hd undef) h⟩
theorem WS.any{r:Option Nat}{ds:List Nat}{P:Program}{n:Nat}{u:List Oper}{Q:Env->hM}{Y:Exit->Act->hM}{S:Nat->hM}{e0:Env}
  (hd:∀d∈wr u,d<n) (W:∀e a w,jt ds n e a->(∀k,k ∉ wr u->e k=e0 k)->Q e w->Y .normal a w) :
  ∀(f:Nat) (L:Nat->Bool) (listed:Array Bool) (e:Env) (a:Act) (w:World),jt ds n e a->(∀k,k ∉ wr u->e k=e0 k)->listed.size=u.length->
   (∀i,listed.getD i false=L i)->WS P u Q S f L e w->wpAnyIn (FO r) 0 P .any u.toArray Y f listed a w:=by
 have B:∀(L:Nat->Bool) (listed:Array Bool) (_:listed.size=u.length) (_:∀i,listed.getD i false=L i) (i:Nat),
   i∈Region.ready .any u.toArray listed↔OK u L i:=by
  intro L listed I E i
  rw[mem_ready]
  have V:∀o,u[i]?=some o->listed.getD i true=L i:=λo G=>by
   grind
  unfold OK pre
  grind
 intro f
 induction f with
 | zero=>
  intro L listed e a w J M I E h
  refine⟨?_,W e a w J M h.2⟩
  cases O:Region.ready .any u.toArray listed with
  | nil=>rfl
  | cons i r=>exact absurd ((B L listed I E i).1 cD) (h.1 i)
 | succ f ih=>
  intro L listed e a w J M I E h
  refine⟨λhn=>W e a w J M (h.1 λi hi=>?_),λi hi=>?_⟩
  .have:=(B L listed I E i).2 hi
   grind
  .have O:=(B L listed I E i).1 hi
   obtain⟨o,G,_⟩:=O.2
   refine DD.wpOp G (λk hk=>hd k (Wx G hk)) J (h.2 i o G O) λv Z w' IY hh=>?_
   refine ih (mc L i) _ _ Z w' IY (zn M G v) cD (λk=>?_) hh.2
   have nw:i<listed.size:=cD
   have U:=E k
   simp only[FP]at U |-
   grind[mc]
def WS.region{r:Option Nat}{ds:List Nat}{P:Program}{n:Nat}{id:Nat}{u:List Oper}{Q:Env->hM}{E:Exit->Act->hM}{S:Nat->hM}{e:Env}{a:Act}{w:World}
  (G:P.follows .mixedOrders=true) (hd:∀d∈wr u,d<n) (J:jt ds n e a)
  (I:∀B a w,jt ds n B a->(∀k,k ∉ wr u->B k=e k)->Q B w->E .normal a w)
  (h:WS P u Q S u.length (λ_=>false) e {w with drawn:=w.drawn+1}):(ab5 id u.toArray true).wpIn (FO r) 0 P E a w:=by
 refine wpIn_region_any G ?_
 rw[Oa]
 refine WS.any hd I u.length (λ_=>false) _ e a _ J (λ_ _=>rfl) ee (λi=>?_) h
 simp only[FP,Array.getElem?_replicate]
 grind
def lk(s:Nat):List (Nat×Option Bool)->Option (Option Bool)
 | []=>none
 | q::r=>bif Fm q.1 s then some q.2 else lk s r
def IZ(d:Nat):List (Nat×Option Bool)->List (Nat×Option Bool)
 | []=>[]
 | q::r=>bif Fm q.1 d then IZ d r else q::IZ d r
def del(d:Option Nat)(u:List (Nat×Option Bool)):List (Nat×Option Bool):=match d with|none=>u|some d=>IZ d u
def DF(u:List (Nat×Option Bool)):Operand->Option Bool
 | .const (.bool b)=>some b
 | .tmp t=>match lk t u with|some b=>b|none=>none
 | _=>none
def af8(u:List (Nat×Option Bool)):Op->Option Operand
 | .move x=>some x
 | .assign x=>some x
 | .pick (.tmp c) a b=>match lk c u with|some (some t)=>some (bif t then a else b)|_=>none
 | _=>none
def Wy(u:List (Nat×Option Bool))(d:Option Nat)(x:Operand):List (Nat×Option Bool):=
 match d,DF u x with
 | some d,some b=>(d,some b)::IZ d u
 | d,_=>del d u
def ofK:Option Bool->Value|some b=>.bool b|none=>undef
def kz(u:List (Nat×Option Bool))(e:Env):Prop:=∀s b,lk s u=some b->e s=ofK b
theorem Ek(n:Nat):Fm n n=true:=Nat.beq_refl n
theorem BS{a b:Nat}(h:a≠b):Fm a b=false:=by
 cases hh:Fm a b
 .rfl
 simp_all
theorem acr(s d:Nat)(u:List (Nat×Option Bool)):lk s (IZ d u)=if s=d then none else lk s u:=by
 induction u with
 | nil=>simp[IZ,lk]
 | cons q r B=>
  simp only[IZ,lk]
  by_cases h1:q.1=d
  .rw[h1,Ek,cond_true,B]
   by_cases h2:s=d
   .simp[h2]
   .rw[ei h2,ei h2,BS (λE=>h2 E.symm),cond_false]
  .rw[BS h1,cond_false]
   simp only[lk,B]
   by_cases h2:q.1=s
   .grind
   .rw[BS h2,cond_false,cond_false]
def kz.nil(e:Env):kz [] e:=λs b h=>by simp[lk]at h
theorem kz.del{E:List (Nat×Option Bool)}{e:Env}(h:kz E e)(d:Option Nat)(v:Value):kz (del d E) (jP e d v):=by
 cases d with
 | none=>exact h
 | some d=>
  intro s b B
  simp only[Fw.del,acr]at B
  by_cases u:s=d
  .simp[u]at B
  .rw[ei u]at B
   simp only[jP,oE _ _ u]
   exact h s b B
def kz.cons{B:List (Nat×Option Bool)}{e:Env}(h:kz B e){s:Nat}{b:Option Bool}(E:e s=ofK b):kz ((s,b)::B) e:=by
 intro s' G u
 simp only[lk]at u
 by_cases h1:s=s'
 .subst h1;rw[Ek,cond_true]at u;cases u;exact E
 rw[BS h1,cond_false]at u;exact h _ _ u
theorem kz.known{E:List (Nat×Option Bool)}{e:Env}(h:kz E e){x:Operand}{b:Bool}(B:DF E x=some b):ev e x=.bool b:=by
 cases x with
 | tmp t=>
  have u:(match lk t E with|some b=>b|none=>none)=some b:=B
  split at u
  .rename_i b' hb;subst u;exact h t _ hb
  grind
 | const v=>cases v<;>simp[DF]at B;simp[ev,B]
 | _=>simp[DF]at B
def kz.aft{u:List (Nat×Option Bool)}{e:Env}(h:kz u e)(d:Option Nat)(x:Operand):kz (Wy u d x) (jP e d (ev e x)):=by
 unfold Wy
 split
 .rename_i d b hb
  have h1:=h.del (some d) (ev e x)
  exact kz.cons (b:=some b) h1 (by simp only[jP,nu];exact h.known hb)
 exact h.del _ _
def ux(P:Program)(u:List Oper)(r:Oper)(e:Env)(w:World)(R:Prop):Prop:=
 bif oF u r e then(match Aj P r (ev e),r.dst with|.q m,some d=>RC P m (e d) w R|_,_=>False)else R
def Ak(P:Program)(u:List Oper):List Oper->Env->World->Prop->Prop
 | [],_,_,R=>R
 | r::ks,e,w,R=>ux P u r e w (Ak P u ks e w R)
theorem KR{P:Program}{u:List Oper}{ks:List Oper}{e:Env}{w:World}{R:Prop}:Ak P u ks e w R->(∀r∈ks,ux P u r e w True)/\R:=by
 induction ks with
 | nil=>intro h;exact⟨ee,h⟩
 | cons r ks B=>
  intro h
  have:ux P u r e w True/\Ak P u ks e w R:=by
   simp only[Ak,ux]at h |-
   cases hw:oF u r e with
   | false=>grind
   | true=>
    rw[hw]at h
    simp only[cond_true]at h |-
    cases hk:Aj P r (ev e)<;>rw[hk]at h<;>cases hd:r.dst<;>rw[hd]at h<;>first|grind|skip
    exact⟨⟨h.anm,trivial⟩,h.rest⟩
  grind
def El(n:Nat)(o:Oper):Bool:=match o.dst with|none=>true|some d=>abU d n
def goF(P:Program)(B:List Oper)(o:Oper)(ks:List Oper)(rec:List (Nat×Option Bool)->Env->hM)(u:List (Nat×Option Bool))(e:Env)(w:World):Prop:=
 match af8 u o.op with
 | some x=>rec (Wy u o.dst x) (jP e o.dst (ev e x)) w
 | none=>Hb P (Aj P o (ev e)) (λv w'=>Ak P B ks (jP e o.dst v) w' (rec (del o.dst u) (jP e o.dst v) w')) w
def skF(o:Oper)(rec:List (Nat×Option Bool)->Env->hM)(u:List (Nat×Option Bool))(e:Env)(w:World):Prop:=
 rec (match o.dst with|some d=>(d,none)::IZ d u|none=>u) (jP e o.dst undef) w
theorem kz.skip{u:List (Nat×Option Bool)}{e:Env}(h:kz u e)(d:Option Nat) :
  kz (match d with|some d=>(d,none)::IZ d u|none=>u) (jP e d undef):=by
 cases d with
 | none=>exact h
 | some d=>exact kz.cons (b:=none) (h.del (some d) undef) (by simp only[jP,nu];rfl)
def DS(P:Program)(n:Nat)(u:List Oper)(q:Oper×List Oper)(rec:List (Nat×Option Bool)->Env->hM)(B:List (Nat×Option Bool))(e:Env)(w:World):Prop:=
  bif El n q.1 then
   match q.1.guard with
   | none=>goF P u q.1 q.2 rec B e w
   | some g=>match BR u g.1 with
    | none=>False
    | some s=>match lk s B with
     | some none=>skF q.1 rec B e w
     | some (some E)=>bif E == g.2 then goF P u q.1 q.2 rec B e w else skF q.1 rec B e w
     | none=>yL (e s)
       (bif g.2 then goF P u q.1 q.2 rec ((s,some true)::B) (Ad e s (.bool true)) w else skF q.1 rec ((s,some true)::B) (Ad e s (.bool true)) w)
       (bif g.2 then skF q.1 rec ((s,some false)::B) (Ad e s (.bool false)) w else goF P u q.1 q.2 rec ((s,some false)::B) (Ad e s (.bool false)) w)
  else False
def DR(P:Program)(n:Nat)(u:List Oper):List (Oper×List Oper)->(Env->hM)->List (Nat×Option Bool)->Env->hM
 | [],Q,_,e,w=>Q e w
 | q::rest,Q,kg,e,w=>DS P n u q (DR P n u rest Q) kg e w
def yb{P:Program}{u:List Oper}{o:Oper}{ks:List Oper}{rec:List (Nat×Option Bool)->Env->hM}{E:List (Nat×Option Bool)}{e:Env}{w:World}
  (B:kz E e) (h:goF P u o ks rec E e w) :
  Hb P (Aj P o (ev e)) (λv w'=>(w'=w\/∀r∈ks,ux P u r (jP e o.dst v) w' True)/\∃G,kz G (jP e o.dst v)/\rec G (jP e o.dst v) w') w:=by
 unfold goF at h
 split at h
 .rename_i x hx
  have J:(Aj P o (ev e)).has P w (ev e x):=by
   unfold Aj
   cases kc:o.op<;>rw[kc]at hx<;>simp only[af8]at hx<;>first|cases hx|skip
   case move y=>simp only[Ej.has]
   case assign y=>simp only[Ej.has]
   case pick c a b=>
    cases c<;>simp only at hx<;>first|cases hx|skip
    rename_i c
    split at hx
    .rename_i t ht
     cases hx
     have hc:e c=.bool t:=B c _ ht
     simp only[Ej.has,ev,hc,Wu]
     cases t<;>rfl
    .cases hx
  exact Hb.Wv J ⟨.inl rfl,_,B.aft _ _,h⟩
 refine h.mono λv w' I=>?_
 have:=KR I
 exact⟨.inr this.1,_,B.del _ _,this.2⟩
theorem I0{P:Program}{n:Nat}{u:List Oper}{q:Oper×List Oper}{rec:List (Nat×Option Bool)->Env->hM}{G:List (Nat×Option Bool)}{e:Env}{w:World}
  (B:kz G e) (h:DS P n u q rec G e w) :
  (∀d,q.1.dst=some d->d<n)/\
  DD P u q.1 (λV w'=>(w'=w\/∀r∈q.2,ux P u r V w' True)/\∃M,kz M V/\rec M V w') e w:=by
 unfold DS at h
 cases hd:El n q.1 with
 | false=>grind
 | true=>
  rw[hd]at h
  refine⟨λd Z=>by unfold El at hd;simp_all,?_⟩
  have O:∀{G:List (Nat×Option Bool)},kz G e->skF q.1 rec G e w->
    (w=w\/∀r∈q.2,ux P u r (jP e q.1.dst undef) w True)/\∃M,kz M (jP e q.1.dst undef)/\rec M (jP e q.1.dst undef) w:=
   λB h=>⟨.inl rfl,_,B.skip _,h⟩
  simp only[cond_true]at h
  unfold DD
  cases hg:q.1.guard with
  | none=>
   rw[hg]at h
   have U:oF u q.1 e=true:=by unfold oF;rw[hg]
   rw[ej U]
   exact yb B h
  | some g=>
   obtain⟨j,b⟩:=g
   rw[hg]at h
   dsimp only at h
   cases hs:BR u j with
   | none=>rw[hs]at h;exact h.elim
   | some s=>
    rw[hs]at h
    dsimp only at h
    have U:∀t,e s=.bool t->oF u q.1 e=(t == b):=λt ht=>by unfold oF;rw[hg];dsimp only;rw[hs];dsimp only;rw[ht]
    cases hl:lk s G with
    | some Y=>
     rw[hl]at h
     cases Y with
     | none=>
      dsimp only at h
      have hu:oF u q.1 e=false:=by
       unfold oF;rw[hg];dsimp only;rw[hs];dsimp only;rw[B s none hl];rfl
      rw[ei (by rw[hu];simp)]
      exact O B h
     | some W=>
      dsimp only at h
      rw[U W (B s _ hl)]
      cases hb:W == b with
      | true=>rw[hb]at h;rw[ej rfl];exact yb B h
      | false=>rw[hb]at h;rw[ei ee];exact O B h
    | none=>
     rw[hl]at h
     obtain⟨t,ht,J,E⟩:=h.ex
     rw[U t ht]
     have I:∀c,t=c->Ad e s (.bool c)=e:=λc hc=>aii _ _ _ (by rw[ht,hc])
     cases t with
     | true=>
      have J:=J rfl
      rw[I true rfl]at J
      cases b with
      | true=>rw[ej (by rfl)];exact yb (B.cons (b:=some _) ht) J
      | false=>rw[ei ee];exact O (B.cons (b:=some _) ht) J
     | false=>
      have E:=E rfl
      rw[I false rfl]at E
      cases b with
      | true=>rw[ei ee];exact O (B.cons (b:=some _) ht) E
      | false=>rw[ej (by rfl)];exact yb (B.cons (b:=some _) ht) E
theorem DR.list{r:Option Nat}{ds:List Nat}{P:Program}{n:Nat}{u:List Oper}{Q:Env->hM}{Y:Exit->Act->hM}{e0:Env}
  (hQ:∀e a w,jt ds n e a->(∀k,k ∉ wr u->e k=e0 k)->Q e w->Y .normal a w) :
  ∀(l:List Oper) (I:List (Nat×Option Bool)) (e:Env) (a:Act) (w:World),(∀o∈l,o∈u)->jt ds n e a->(∀k,k ∉ wr u->e k=e0 k)->kz I e->
   DR P n u (l.map λo=>(o,[])) Q I e w->wpListIn (FO r) 0 P u.toArray Y l a w:=by
 intro l
 induction l with
 | nil=>intro I e a w _ B J _ h;exact hQ e a w B J h
 | cons o l W=>
  intro I e a w V B J Z h
  obtain⟨hd,E⟩:=I0 Z h
  obtain⟨i,hi⟩:=List.getElem?_of_mem (V o o4)
  have G:∀x∈l,x∈u:=λx hx=>V x (qa _ hx)
  unfold wpListIn
  rw[Hc B]
  unfold DD at E
  split
  .rename_i hw
   rw[ej hw]at E
   exact Hb.wp B E λv w' ⟨_,U,O,M⟩=>W U _ _ w' G (B.put hd v) (zn J hi v) O M
  .rename_i hw
   rw[ei hw]at E
   obtain⟨_,U,O,M⟩:=E
   exact⟨uw,W U _ _ w G (B.put hd undef) (zn J hi undef) O M⟩
def DR.region{r:Option Nat}{ds:List Nat}{P:Program}{n:Nat}{id:Nat}{u:List Oper}{Q:Env->hM}{E:Exit->Act->hM}{e:Env}{a:Act}{w:World}
  (G:jt ds n e a) (I:∀B a w,jt ds n B a->(∀k,k ∉ wr u->B k=e k)->Q B w->E .normal a w)
  (h:DR P n u (u.map λo=>(o,[])) Q [] e w):(ab5 id u.toArray false).wpIn (FO r) 0 P E a w:=
 wpIn_region_lit (DR.list I u [] e a w (λ_ h=>h) G (λ_ _=>rfl) (kz.nil e) h)
def OM(P:Program)(o:Oper):Bool:=(Aj P o λ_=>undef).quiet
def I1(P:Program)(o:Oper):Bool:=(Aj P o λ_=>undef).reads
theorem KS{P:Program}{o:Oper}(ρ ρ':Operand->Value):(Aj P o ρ).quiet=(Aj P o ρ').quiet/\(Aj P o ρ).reads=(Aj P o ρ').reads:=by
 unfold Aj
 cases o.op<;>try exact⟨rfl,rfl⟩
 case binOp op t x y u=>dsimp only;split<;>exact⟨rfl,rfl⟩
 case convert s d x=>dsimp only;split<;>exact⟨rfl,rfl⟩
 case call c=>
  dsimp only
  cases c.callee with
  | value x=>cases x<;>exact⟨rfl,rfl⟩
  | invoke r nm=>grind
  | builtin b=>cases b<;>dsimp only<;>first|exact⟨rfl,rfl⟩|(split<;>exact⟨rfl,rfl⟩)
def gN(d:Nat):List Nat->Bool
 | []=>false
 | x::r=>Fm x d||gN d r
theorem Al{d:Nat}{l:List Nat}:gN d l=true↔d∈l:=by
 induction l with
 | nil=>simp[gN]
 | cons x r u=>
  simp only[gN,zD,u,s4]
  constructor
  .rintro(h|h)
   .simp_all
   grind
  .rintro(rfl|h)
   .simp_all
   grind
def RH{d:Nat}{l:List Nat}:gN d l=false↔d ∉ l:=by
 rw[<- Al];simp
def eqO(d:Nat):Option Nat->Bool|none=>false|some k=>Fm k d
theorem acu{d:Nat}{o:Option Nat}:eqO d o=true↔o=some d:=by
 cases o with
 | none=>simp[eqO]
 | some k=>simp_all[eqO]
def I2(u:List Oper)(x y:Oper):Bool:=match y.dst with|none=>true|some d=>!gN d (looks u x)&&!eqO d x.dst
def BT{u:List Oper}{x y:Oper}(h:I2 u x y=true):∀d,y.dst=some d->d ∉ looks u x/\x.dst≠some d:=by
 intro d hd
 unfold I2 at h
 rw[hd]at h
 simp only[oj,u1]at h
 exact⟨RH.1 h.1,λB=>by rw[<- acu]at B;grind⟩
def ON(u:List Oper)(x y:Oper):Bool:=I2 u y x&&I2 u x y
def KT{u:List Oper}{x y:Oper}(h:ON u x y=true):Ww u x y:=by
 simp only[ON,oj]at h
 exact⟨λd hd=>BT h.1 d hd,λd hd=>(BT h.2 d hd).1⟩
def BU(f:Nat->Oper->Bool):Nat->List Oper->Bool
 | _,[]=>true
 | k,o::r=>f k o&&BU f (k+1) r
theorem oc{f:Nat->Oper->Bool}{l:List Oper}:∀{k:Nat},BU f k l=true->∀i o,l[i]?=some o->f (k+i) o=true:=by
 induction l with
 | nil=>grind
 | cons x r u=>
  grind[BU]
def Dd:List Nat->Nat->Nat
 | [],_=>0
 | x::_,0=>x
 | _::r,n+1=>Dd r n
def Hd(u:List Nat):List Nat->Nat
 | []=>0
 | p::r=>PY (PY (L8 1 p) (Dd u p)) (Hd u r)
def He(B:List Oper)(u:List Nat):Bool:=
 BU (λj o=>(pre o).all (λp=>abU p j)&&Fm (Dd u j) (Hd u (pre o))) 0 B
theorem Ud{u l:List Nat}{i:Nat}(h:(Hd u l).testBit i=true):∃p∈l,p=i\/(Dd u p).testBit i=true:=by
 induction l with
 | nil=>simp[Hd]at h
 | cons p r E=>
  have B:(((1 <<< p) ||| Dd u p) ||| Hd u r).testBit i=true:=h
  simp only[Yu,zD]at B
  rcases B with(B|B)|B
  .refine⟨p,ee,.inl ?_⟩
   rw[TW,Sq]at B
   grind
  .grind
  grind
theorem Hf{u:List Oper}{B:List Nat}(h:He u B=true):∀(n j:Nat),j<n->j<u.length->∀i,(Dd B j).testBit i=true->OL u j i:=by
 intro n
 induction n with
 | zero=>omega
 | succ n M=>
  intro j O hlen i hi
  obtain⟨o,E⟩:∃o,u[j]?=some o:=⟨u[j],by simp[hlen]⟩
  have:=oc h j o E
  simp only[xp,oj,H3]at this
  obtain⟨h1,h2⟩:=this
  have h2:=P8 h2
  rw[h2]at hi
  obtain⟨p,I,G⟩:=Ud hi
  rcases G with rfl|G
  .exact .one E I
  .have J:p<j:=by simp_all
   exact .more E I (M p bL bL i G)
def bit(m i:Nat):Bool:=Nat.testBit m i
def Hg(u:List Oper)(y:Oper):Bool:=match y.dst with|none=>false|some d=>!gN d (looks u y)
theorem OO{u:List Oper}{y:Oper}(h:Hg u y=true):∃d,y.dst=some d/\d ∉ looks u y:=by
 unfold Hg at h
 cases hd:y.dst with
 | none=>grind
 | some d=>rw[hd]at h;exact⟨d,rfl,RH.1 cD⟩
def Wz(P:Program)(u:List Oper)(B:List Nat)(m i:Nat)(ks:List Nat):Bool:=
 match u[i]? with
 | none=>false
 | some o=>
  !bit m i&&((pre o).all (λp=>bit m p) &&
  (bif OM P o then
   BU (λj y=>Fm j i||(bit m j||(gN i (pre y)||ON u o y))) 0 u
  else
   BU (λj y=>Fm j i||(bit m j||!(pre y).all λp=>bit m p)) 0 u &&
   (BU (λr y=>!bit m r||(!I1 P y||(bit (Dd B i) r||gN r ks))) 0 u &&
   ks.all (λr=>match u[r]? with
    | none=>false
    | some y=>Hg u y&&BU (λj z=>Fm j r||(bit (Dd B r) j||I2 u y z)) 0 u))))
inductive PT where
 | nil
 | stop
 | op (i:Nat) (ks:List Nat) (r:PT)
 | alt (i:Nat) (ks:List Nat) (r o:PT)
def PT.of:List (Nat×List Nat)->PT
 | []=>.nil
 | q::r=>.op q.1 q.2 (PT.of r)
def PT.ids:PT->List Nat
 | .alt i _ _ o=>i::o.ids
 | _=>[]
def PT.many:PT->Bool
 | .alt _ _ _ _=>true
 | .op _ _ r=>r.many
 | _=>false
def aga(P:Program)(u:List Oper)(B:List Nat)(m i:Nat)(ks:List Nat):Bool:=
 match u[i]? with
 | none=>false
 | some o=>
  !bit m i&&((pre o).all (λp=>bit m p)&&(!OM P o&&(
   (BU (λr y=>!bit m r||(!I1 P y||(bit (Dd B i) r||gN r ks))) 0 u &&
   ks.all (λr=>match u[r]? with
    | none=>false
    | some y=>Hg u y&&BU (λj z=>Fm j r||(bit (Dd B r) j||I2 u y z)) 0 u)))))
def RI(P:Program)(u:List Oper)(B:List Nat):Bool->Nat->Nat->PT->Bool
 | c,f,m,.nil=>!c&&(Fm f 0&&BU (λj _=>bit m j) 0 u)
 | c,_,_,.stop=>c
 | c,f,m,.op i ks r=>!c&&(match f with|0=>false|E+1=>Wz P u B m i ks&&RI P u B false E (PY m (L8 1 i)) r)
 | c,f,m,.alt i ks r o=>(c||BU (λj y=>bit m j||(!(pre y).all (λp=>bit m p)||gN j (i::o.ids))) 0 u) &&
  ((match f with|0=>false|E+1=>aga P u B m i ks&&RI P u B false E (PY m (L8 1 i)) r)&&RI P u B true f m o)
def Hh(B:List Oper):List Nat:=B.foldl (λu o=>u++[Hd u (pre o)]) []
def PT.run(k:Nat):Nat->PT
 | 0=>.nil
 | n+1=>.op k [] (PT.run (k+1) n)
def wC(u:List Oper)(i:Nat):Oper:=(u[i]?).getD default
def DT(P:Program)(n:Nat)(u:List Oper):PT->(Env->hM)->List (Nat×Option Bool)->Env->hM
 | .nil,Q,_,e,w=>Q e w
 | .stop,_,_,_,_=>True
 | .op i ks r,Q,B,e,w=>DS P n u (wC u i,ks.map (wC u)) (DT P n u r Q) B e w
 | .alt i ks r o,Q,B,e,w=>DS P n u (wC u i,ks.map (wC u)) (DT P n u r Q) B e w/\DT P n u o Q B e w
def DQ(P:Program)(u:List Oper):PT->(Env->hM)->Env->hM
 | .nil,Q,e,w=>Q e w
 | .stop,_,_,_=>True
 | .op i ks r,Q,e,w=>DD P u (wC u i) (λB w'=>(w'=w\/∀r∈ks.map (wC u),ux P u r B w' True)/\DQ P u r Q B w') e w
 | .alt i ks r o,Q,e,w=>DD P u (wC u i) (λB w'=>(w'=w\/∀r∈ks.map (wC u),ux P u r B w' True)/\DQ P u r Q B w') e w/\DQ P u o Q e w
theorem DT.plain{P:Program}{n:Nat}{B:List Oper}{Q:Env->hM}:∀(p:PT) (u:List (Nat×Option Bool)) (e:Env) (w:World),kz u e->DT P n B p Q u e w->DQ P B p Q e w:=by
 intro p
 induction p with
 | nil=>intro u e w _ h;exact h
 | stop=>intro u e w _ _;trivial
 | op i ks p I=>intro u e w E h;exact(I0 E h).2.mono λv w' ⟨h1,J,h2,h3⟩=>⟨h1,I J _ _ h2 h3⟩
 | alt i ks p o I G=>intro u e w E h;exact⟨(I0 E h.1).2.mono λv w' ⟨h1,J,h2,h3⟩=>⟨h1,I J _ _ h2 h3⟩,G u e w E h.2⟩
structure Tk where
 idx:Nat
 o:Oper
 b:Bool
 X:Ej
 v:Value
structure Em(P:Program)(ops:List Oper)(L:Nat->Bool)(T:List Tk)(e:Env):Prop where
 op:∀x∈T,ops[x.idx]?=some x.o
 listed:∀x∈T,L x.idx=true
 kind:∀x∈T,x.X.reads=I1 P x.o
 still:∀x∈T,x.X.reads=false->x.b=true->∀w,x.X.has P w x.v
 reads:∀x∈T,x.X.reads=true->(∀j z,ops[j]?=some z->j≠x.idx->OL ops x.idx j\/I2 ops x.o z=true)->Hg ops x.o=true->
  Aj P x.o (ev e)=x.X/\oF ops x.o e=x.b/\∃d,x.o.dst=some d/\(x.b=true->e d=x.v)
def ST(P:Program)(u:List Oper)(T:List Tk):Nat->hM:=λj w=>∀x∈T,OL u j x.idx\/(x.b=true->x.X.has P w x.v)
def RJ{m i:Nat}:(λk=>bit (PY m (L8 1 i)) k)=mc (λk=>bit m k) i:=by
 funext k
 show(m ||| 1 <<< i).testBit k=_
 rw[Yu,TW,Sq]
 grind[mc,bit]
theorem Em.next{P:Program}{u:List Oper}{L:Nat->Bool}{T:List Tk}{e:Env}(h:Em P u L T e)(U:Down u L){i:Nat}{o:Oper}(ho:u[i]?=some o)(hi:L i=false)(v:Value) :
  Em P u (mc L i) T (jP e o.dst v):=by
 refine⟨h.op,λx G=>IX _ _ (h.listed x G),h.kind,h.still,λx G Y V I=>?_⟩
 obtain⟨h1,h2,d,hd,h3⟩:=h.reads x G Y V I
 have DE:i≠x.idx:=λW=>by have:=h.listed x G;grind
 have E:I2 u x.o o=true:=by
  rcases V i o ho DE with anp|E
  .have:L i=true:=anp.listed U λo' O p Z=>U x.idx o' (h.listed x G) O p Z
   grind
  omega
 have B:=BT E
 refine⟨by rw[DC λk J=>(B k J).1];exact h1,by rw[ya λk J=>(B k J).1];exact h2,d,hd,λhb=>?_⟩
 have:=h3 hb
 cases KU:o.dst with
 | none=>exact this
 | some k=>
  have M:d≠k:=λW=>(B k KU).2 (by rw[hd,W])
  simp only[jP,oE _ _ M]
  exact this
theorem KV{P:Program}{u:List Oper}{G:List Nat}(hc:He u G=true){f m i:Nat}{ks:List Nat}{o:Oper}{T:List Tk}{e:Env}{w:World}{Q:Env->hM}{rec:Env->hM}
  (ho:u[i]?=some o) (V:bit m i=false) (hL:Down u (bit m)) (E:Em P u (bit m) T e)
  (zo:∀(r:Nat) (y:Oper),u[r]?=some y->(!bit m r||(!I1 P y||(bit (Dd G i) r||gN r ks)))=true)
  (KW:∀r∈ks,(match u[r]? with|none=>false|some y=>Hg u y&&BU (λj z=>Fm j r||(bit (Dd G r) j||I2 u y z)) 0 u)=true)
  (ie:DD P u o (λM w'=>(w'=w\/∀r∈ks.map (wC u),ux P u r M w' True)/\rec M w') e w)
  (Y:∀v w',Em P u (mc (bit m) i) T (jP e o.dst v)->rec (jP e o.dst v) w'->WS P u Q (ST P u T) f (mc (bit m) i) (jP e o.dst v) w') :
  DD P u o (λM w'=>(w'=w\/ST P u T i w')/\WS P u Q (ST P u T) f (mc (bit m) i) M w') e w:=by
 refine ie.mono λv w' hh=>?_
 obtain⟨I,Am⟩:=hh
 have U:=E.next hL ho V v
 refine⟨?_,?_⟩
 .rcases I with hw|I
  .grind
  refine .inr λx B=>?_
  cases V5:x.X.reads with
  | false=>exact .inr λhb=>E.still x B V5 hb w'
  | true=>
   have h1:=zo x.idx x.o (E.op x B)
   simp only[zD,u1]at h1
   rcases h1 with h1|h1|h1|h1
   .have:=E.listed x B;grind
   .have:=E.kind x B;grind
   .have CO:i<u.length:=(kE.1 ho).1
    exact .inl (Hf hc (i+1) i bL CO _ h1)
   .have Z:=Al.1 h1
    have h2:=KW x.idx Z
    rw[E.op x B]at h2
    simp only[oj]at h2
    obtain⟨O,h2⟩:=h2
    have h2:=oc h2
    have W:x.idx<u.length:=(kE.1 (E.op x B)).1
    obtain⟨e1,e2,d,hd,e3⟩:=U.reads x B V5 (λk z hz DE=>by
     have:=h2 k z hz
     simp only[xp,zD]at this
     rcases this with h3|h3|h3
     .simp_all
     .exact .inl (Hf hc (x.idx+1) x.idx bL W _ h3)
     grind) O
    refine .inr λhb=>?_
    have J:=I x.o (List.mem_map.2 ⟨x.idx,Z,by simp[wC,E.op x B]⟩)
    unfold ux at J
    rw[e2,hb,e1,hd]at J
    simp only[cond_true]at J
    cases hX:x.X<;>rw[hX]at J V5<;>first|grind|cases V5|skip
    have:=J.anm
    rw[e3 hb]at this
    exact this
 grind
theorem acw{P:Program}{u:List Oper}{cls:List Nat}{Q:Env->hM}(hc:He u cls=true) :
  ∀(p:PT) (f m:Nat) (T:List Tk) (e:Env) (w:World),
   Down u (bit m)->Em P u (bit m) T e->DQ P u p Q e w->
   (RI P u cls false f m p=true->WS P u Q (ST P u T) f (bit m) e w)/\
   (RI P u cls true f m p=true->∀j∈p.ids,∃f',f=f'+1/\OK u (bit m) j/\∀U,u[j]?=some U->DD P u U (λZ w'=>(w'=w\/ST P u T j w')/\WS P u Q (ST P u T) f' (mc (bit m) j) Z w') e w):=by
 intro p
 induction p with
 | nil=>
  intro f m T e w V hT h
  refine⟨λB=>?_,λ_ j I=>by cases I⟩
  simp only[RI,P0,Et,oj]at B
  have ql:=oc B.2
  rw[P8 B.1]
  refine⟨λi hr=>?_,h⟩
  obtain⟨h0,o,J,_⟩:=hr
  grind
 | stop=>
  intro f m T e w V hT h
  exact⟨λB=>by simp[RI]at B,λ_ j I=>by cases I⟩
 | op i ks p ih=>
  intro f m T e w V hT h
  refine⟨λB=>?_,λ_ j I=>by cases I⟩
  simp only[RI,P0,Et]at B
  cases f with
  | zero=>cases B
  | succ f=>
   simp only[oj]at B
   obtain⟨G,B⟩:=B
   unfold Wz at G
   cases J:u[i]? with
   | none=>rw[J]at G;cases G
   | some o=>
   rw[J]at G
   simp only[oj,u1,H3]at G
   obtain⟨O,aip,G⟩:=G
   have hr:OK u (bit m) i:=⟨O,o,J,aip⟩
   have Y:wC u i=o:=by simp[wC,J]
   have W:DD P u (wC u i) (λZ w'=>(w'=w\/∀r∈ks.map (wC u),ux P u r Z w' True)/\DQ P u p Q Z w') e w:=h
   rw[Y]at W
   have GO:(bit (PY m (L8 1 i)))=mc (bit m) i:=RJ
   have hL':Down u (mc (bit m) i):=V.set hr
   cases hq:OM P o with
   | true=>
    rw[hq]at G
    simp only[cond_true]at G
    have RF:=oc G
    have hqq:∀ρ,(Aj P o ρ).quiet=true:=λρ=>by rw[(KS ρ λ_=>undef).1];exact hq
    obtain⟨b,v,hb,hn,hy,Am⟩:∃b v,oF u o e=b/\(b=false->v=undef)/\(b=true->(Aj P o (ev e)).has P w v)/\
      DQ P u p Q (jP e o.dst v) w:=by
     unfold DD at W
     cases hb:oF u o e with
     | true=>
      rw[ej hb]at W
      obtain⟨v,hv,_,Am⟩:=W.has (hqq _)
      exact⟨true,v,rfl,ee,λ_=>hv,Am⟩
     | false=>
      rw[ei (by rw[hb];simp)]at W
      obtain⟨_,Am⟩:=W
      exact⟨false,undef,rfl,λ_=>rfl,ee,Am⟩
    refine WS.first (X:=Aj P o (ev e)) J hn f (bit m) e w V hr ?_ rfl hb hy ?_
    .intro j U RG hji avt Y
     have:=RF j U RG
     simp only[xp,zD]at this
     rcases this with h1|h1|h1|h1
     .exact absurd (P8 h1) hji
     .rw[avt]at h1;cases h1
     .exact absurd (Al.1 h1) Y
     .exact KT h1
    .have hT':Em P u (mc (bit m) i) (⟨i,o,b,Aj P o (ev e),v⟩::T) (jP e o.dst v):=by
      have M:=hT.next V J O v
      constructor
      .intro x E;rcases s4.1 E with rfl|E
       .exact J
       .exact M.op x E
      .intro x E;rcases s4.1 E with rfl|E
       .exact Ub _ _
       .exact M.listed x E
      .intro x E;rcases s4.1 E with rfl|E
       .exact(KS _ _).2
       .exact M.kind x E
      .intro x E;rcases s4.1 E with rfl|E
       .intro h1 h2 w';exact Ej.T8 h1 (hy h2)
       .exact M.still x E
      .intro x E;rcases s4.1 E with rfl|E
       .intro h1 h2 h3
        obtain⟨d,hd,WA⟩:=OO h3
        dsimp only at hd WA |-
        have hh:∀k,o.dst=some k->k ∉ looks u o:=λk hk=>by rw[hd]at hk;cases hk;exact WA
        refine⟨DC hh,by rw[ya hh];exact hb,d,hd,λ_=>?_⟩
        rw[hd];exact nu _ _ _
       .exact M.reads x E
     have:=(ih f _ _ _ w (by rw[GO];exact hL') (by rw[GO];exact hT') Am).1 B
     rw[GO]at this
     refine WS.weaken (λj w' I=>?_) _ _ _ _ this
     exact⟨λx E=>I x (qa _ E),I _ o4⟩
   | false=>
    rw[hq]at G
    simp only[cond_false,oj,H3]at G
    obtain⟨WB,zo,KW⟩:=G
    have WB:=oc WB
    have zo:=oc zo
    refine⟨λY=>absurd hr (Y i),λj U RG I=>?_⟩
    have hji:j=i:=by
     have:=WB j U RG
     simp only[xp,zD,u1]at this
     rcases this with h1|h1|h1
     .simp_all
     .have:=I.1;grind
     .obtain⟨_,o',ho',ql⟩:=I
      grind
    subst hji
    rw[J]at RG;cases RG
    refine KV hc J O V hT (λr y hy=>cD) KW W λv w' M Am=>?_
    grind
 | alt i ks p o' ih ih2=>
  intro f m T e w V hT h
  obtain⟨h1,h2⟩:DD P u (wC u i) (λZ w'=>(w'=w\/∀r∈ks.map (wC u),ux P u r Z w' True)/\DQ P u p Q Z w') e w/\DQ P u o' Q e w:=h
  have chain:∀c,RI P u cls c f m (.alt i ks p o')=true->∀j∈i::o'.ids,∃f',f=f'+1/\OK u (bit m) j/\∀U,u[j]?=some U->DD P u U (λZ w'=>(w'=w\/ST P u T j w')/\WS P u Q (ST P u T) f' (mc (bit m) j) Z w') e w:=by
   intro c B
   simp only[RI,oj]at B
   obtain⟨_,B,hp2⟩:=B
   cases f with
   | zero=>cases B
   | succ f=>
    simp only[oj]at B
    obtain⟨G,B⟩:=B
    intro j I
    rcases s4.1 I with rfl|I
    .unfold aga at G
     cases J:u[j]? with
     | none=>rw[J]at G;cases G
     | some o=>
      rw[J]at G
      simp only[oj,u1,H3]at G
      obtain⟨O,aip,_,zo,KW⟩:=G
      have hr:OK u (bit m) j:=⟨O,o,J,aip⟩
      refine⟨f,rfl,hr,λU RG=>?_⟩
      cases RG
      have zo:=oc zo
      have Y:wC u j=o:=by simp[wC,J]
      rw[Y]at h1
      have W:=h1
      have GO:(bit (PY m (L8 1 j)))=mc (bit m) j:=RJ
      have hL':Down u (mc (bit m) j):=V.set hr
      refine KV hc J O V hT (λr y hy=>cD) KW W λv w' M Am=>?_
      grind
    .exact(ih2 (f+1) m T e w V hT h2).2 hp2 j I
  refine⟨λB=>?_,λB=>chain true B⟩
  have hch:=chain false B
  simp only[RI,Bool.false_or,oj]at B
  have avu:=oc B.1
  obtain⟨f',rfl,hri,_⟩:=hch i o4
  refine⟨λY=>absurd hri (Y i),λj U RG I=>?_⟩
  have KX:j∈i::o'.ids:=by
   have:=avu j U RG
   simp only[xp,zD,u1]at this
   rcases this with h3|h3|h3
   .have:=I.1;grind
   .obtain⟨_,o2,ho2,ql⟩:=I
    grind
   .exact Al.1 h3
  obtain⟨f2,hf,_,W⟩:=hch j KX
  simp_all
structure yM(F:(hM)->Prop)(G:hM):Prop where
 ex:∃I:hM,F I/\∀w,I w->G w
structure RL(B:(hM)->hM)(F:(hM)->Prop):Prop where
 ex:∃I:Nat->hM,(∃m,F (I m))/\∀m w,I m w->B (λw'=>∃m',m'<m/\I m' w') w
structure eH(F:(Value->hM)->Prop)(G:Value->hM):Prop where
 ex:∃I:Value->hM,F I/\∀x0 w,I x0 w->G x0 w
structure jR(B:(Value->hM)->Value->hM)(F:(Value->hM)->Prop):Prop where
 ex:∃I:Nat->Value->hM,(∃m,F (I m))/\∀m x0 w,I m x0 w->B (λy0 w'=>∃m',m'<m/\I m' y0 w') x0 w
structure En(F:(Value->Value->hM)->Prop)(G:Value->Value->hM):Prop where
 ex:∃I:Value->Value->hM,F I/\∀x0 x1 w,I x0 x1 w->G x0 x1 w
structure od(B:(Value->Value->hM)->Value->Value->hM)(F:(Value->Value->hM)->Prop):Prop where
 ex:∃I:Nat->Value->Value->hM,(∃m,F (I m))/\∀m x0 x1 w,I m x0 x1 w->B (λy0 y1 w'=>∃m',m'<m/\I m' y0 y1 w') x0 x1 w
structure anu(F:(Value->Value->Value->hM)->Prop)(G:Value->Value->Value->hM):Prop where
 ex:∃I:Value->Value->Value->hM,F I/\∀x0 x1 x2 w,I x0 x1 x2 w->G x0 x1 x2 w
structure RM(B:(Value->Value->Value->hM)->Value->Value->Value->hM)(F:(Value->Value->Value->hM)->Prop):Prop where
 ex:∃I:Nat->Value->Value->Value->hM,(∃m,F (I m))/\∀m x0 x1 x2 w,I m x0 x1 x2 w->B (λy0 y1 y2 w'=>∃m',m'<m/\I m' y0 y1 y2 w') x0 x1 x2 w
structure anv(F:(Value->Value->Value->Value->hM)->Prop)(G:Value->Value->Value->Value->hM):Prop where
 ex:∃I:Value->Value->Value->Value->hM,F I/\∀x0 x1 x2 x3 w,I x0 x1 x2 x3 w->G x0 x1 x2 x3 w
structure anw(B:(Value->Value->Value->Value->hM)->Value->Value->Value->Value->hM)(F:(Value->Value->Value->Value->hM)->Prop):Prop where
 ex:∃I:Nat->Value->Value->Value->Value->hM,(∃m,F (I m))/\∀m x0 x1 x2 x3 w,I m x0 x1 x2 x3 w->B (λy0 y1 y2 y3 w'=>∃m',m'<m/\I m' y0 y1 y2 y3 w') x0 x1 x2 x3 w
structure anx(F:(Value->Value->Value->Value->Value->hM)->Prop)(G:Value->Value->Value->Value->Value->hM):Prop where
 ex:∃I:Value->Value->Value->Value->Value->hM,F I/\∀x0 x1 x2 x3 x4 w,I x0 x1 x2 x3 x4 w->G x0 x1 x2 x3 x4 w
structure anz(B:(Value->Value->Value->Value->Value->hM)->Value->Value->Value->Value->Value->hM)(F:(Value->Value->Value->Value->Value->hM)->Prop):Prop where
 ex:∃I:Nat->Value->Value->Value->Value->Value->hM,(∃m,F (I m))/\∀m x0 x1 x2 x3 x4 w,I m x0 x1 x2 x3 x4 w->B (λy0 y1 y2 y3 y4 w'=>∃m',m'<m/\I m' y0 y1 y2 y3 y4 w') x0 x1 x2 x3 x4 w
def lkv(i:Nat):List (Nat×Value)->Value->Value
 | [],d=>d
 | q::r,d=>bif Fm q.1 i then q.2 else lkv i r d
def GP(e:Env)(M:Nat)(u:List (Nat×Value))(dead:Env):Env:=λi=>bif bit M i then lkv i u (dead i)else e i
def An(l:List Nat)(F:(Env->hM)->Prop)(G:List (Nat×Value)->hM):Prop:=
 match l with
 | []=>yM (λK=>F λe w=>K w) (λw=>G [] w)
 | [u]=>eH (λK=>F λe w=>K (e u) w) (λE w=>G [(u,E)] w)
 | [u,B]=>En (λK=>F λe w=>K (e u) (e B) w) (λE J w=>G [(u,E),(B,J)] w)
 | [u,B,I]=>anu (λK=>F λe w=>K (e u) (e B) (e I) w) (λE J O w=>G [(u,E),(B,J),(I,O)] w)
 | [u,B,I,M]=>anv (λK=>F λe w=>K (e u) (e B) (e I) (e M) w) (λE J O U w=>G [(u,E),(B,J),(I,O),(M,U)] w)
 | [u,B,I,M,V]=>anx (λK=>F λe w=>K (e u) (e B) (e I) (e M) (e V) w) (λE J O U W w=>G [(u,E),(B,J),(I,O),(M,U),(V,W)] w)
 | _=>False
def Ao(l:List Nat)(B:(Env->hM)->List (Nat×Value)->hM)(e:Env)(w:World):Prop:=
 match l with
 | []=>RL (λK w=>B (λu w'=>K w') [] w) (λK=>K w)
 | [E]=>jR (λK J w=>B (λu w'=>K (u E) w') [(E,J)] w) (λK=>K (e E) w)
 | [E,G]=>od (λK J M w=>B (λu w'=>K (u E) (u G) w') [(E,J),(G,M)] w) (λK=>K (e E) (e G) w)
 | [E,G,I]=>RM (λK J M U w=>B (λu w'=>K (u E) (u G) (u I) w') [(E,J),(G,M),(I,U)] w) (λK=>K (e E) (e G) (e I) w)
 | [E,G,I,O]=>anw (λK J M U W w=>B (λu w'=>K (u E) (u G) (u I) (u O) w') [(E,J),(G,M),(I,U),(O,W)] w) (λK=>K (e E) (e G) (e I) (e O) w)
 | [E,G,I,O,V]=>anz (λK J M U W Y w=>B (λu w'=>K (u E) (u G) (u I) (u O) (u V) w') [(E,J),(G,M),(I,U),(O,W),(V,Y)] w) (λK=>K (e E) (e G) (e I) (e O) (e V) w)
 | _=>False
def jB(l:List Nat)(e:Env):List (Nat×Value):=l.map λa=>(a,e a)
def An.spec{l:List Nat}{F:(Env->hM)->Prop}{G:List (Nat×Value)->hM}(h:An l F G) :
  ∃I:List (Nat×Value)->hM,F (λe w=>I (jB l e) w)/\∀(e:Env) w,I (jB l e) w->G (jB l e) w:=by
 unfold An at h
 split at h
 .obtain⟨I,h1,h2⟩:=h.ex
  exact⟨λ_ w=>I w,h1,λ_ w hi=>h2 w hi⟩
 .obtain⟨I,h1,h2⟩:=h.ex
  exact⟨λq w=>match q with|[u]=>I u.2 w|_=>False,h1,λe w hi=>h2 _ w hi⟩
 .obtain⟨I,h1,h2⟩:=h.ex
  exact⟨λq w=>match q with|[u,B]=>I u.2 B.2 w|_=>False,h1,λe w hi=>h2 _ _ w hi⟩
 .obtain⟨I,h1,h2⟩:=h.ex
  exact⟨λq w=>match q with|[u,B,E]=>I u.2 B.2 E.2 w|_=>False,h1,λe w hi=>h2 _ _ _ w hi⟩
 .obtain⟨I,h1,h2⟩:=h.ex
  exact⟨λq w=>match q with|[u,B,E,J]=>I u.2 B.2 E.2 J.2 w|_=>False,h1,λe w hi=>h2 _ _ _ _ w hi⟩
 .obtain⟨I,h1,h2⟩:=h.ex
  exact⟨λq w=>match q with|[u,B,E,J,M]=>I u.2 B.2 E.2 J.2 M.2 w|_=>False,h1,λe w hi=>h2 _ _ _ _ _ w hi⟩
 grind
def Ao.spec{l:List Nat}{B:(Env->hM)->List (Nat×Value)->hM}{e:Env}{w:World}(h:Ao l B e w) :
  ∃I:Nat->List (Nat×Value)->hM,(∃m,I m (jB l e) w)/\
   ∀m e w,I m (jB l e) w->B (λU w'=>∃M,M<m/\I M (jB l U) w') (jB l e) w:=by
 unfold Ao at h
 split at h
 .obtain⟨I,⟨m,h1⟩,h2⟩:=h.ex
  exact⟨λm _ w=>I m w,⟨m,h1⟩,λm _ w hi=>h2 m w hi⟩
 .obtain⟨I,⟨m,h1⟩,h2⟩:=h.ex
  exact⟨λm q w=>match q with|[u]=>I m u.2 w|_=>False,⟨m,h1⟩,λm e w hi=>h2 m _ w hi⟩
 .obtain⟨I,⟨m,h1⟩,h2⟩:=h.ex
  exact⟨λm q w=>match q with|[u,E]=>I m u.2 E.2 w|_=>False,⟨m,h1⟩,λm e w hi=>h2 m _ _ w hi⟩
 .obtain⟨I,⟨m,h1⟩,h2⟩:=h.ex
  exact⟨λm q w=>match q with|[u,E,G]=>I m u.2 E.2 G.2 w|_=>False,⟨m,h1⟩,λm e w hi=>h2 m _ _ _ w hi⟩
 .obtain⟨I,⟨m,h1⟩,h2⟩:=h.ex
  exact⟨λm q w=>match q with|[u,E,G,J]=>I m u.2 E.2 G.2 J.2 w|_=>False,⟨m,h1⟩,λm e w hi=>h2 m _ _ _ _ w hi⟩
 .obtain⟨I,⟨m,h1⟩,h2⟩:=h.ex
  exact⟨λm q w=>match q with|[u,E,G,J,O]=>I m u.2 E.2 G.2 J.2 O.2 w|_=>False,⟨m,h1⟩,λm e w hi=>h2 m _ _ _ _ _ w hi⟩
 grind
def WC(m d:Nat):Nat:=PY m (L8 1 d)
def anA(m d:Nat):Nat:=bif bit m d then Nat.sub m (L8 1 d)else m
def zp:List Nat->Nat
 | []=>0
 | d::r=>WC (zp r) d
def wM:List Operand->Nat->Nat
 | [],m=>m
 | .tmp t::r,m=>WC (wM r m) t
 | _::r,m=>wM r m
def lkX(id:Nat):List (Nat×Nat)->Nat
 | []=>0
 | q::r=>bif Fm q.1 id then q.2 else lkX id r
def WD:List Oper->Nat->Nat
 | [],lo=>lo
 | o::r,lo=>wM o.op.operands.toList (match o.dst with|some d=>anA (WD r lo) d|none=>WD r lo)
def anB:List Nat->Nat->Nat
 | [],m=>m
 | d::r,m=>anB r (anA m d)
def li(rl:Nat):Code->List (Nat×Nat)->Nat->Nat
 | .skip,_,lo=>lo
 | .ret,_,_=>rl
 | .exit id,X,_=>lkX id X
 | .region _ ops _,_,lo=>WD ops.toList lo
 | .seq a b,X,lo=>li rl a X (li rl b X lo)
 | .cond c a b,X,lo=>wM [c] (PY (li rl a X lo) (li rl b X lo))
 | .block id c,X,lo=>li rl c ((id,lo)::X) lo
 | .loop c,X,_=>li rl c X (li rl c X 0)
 | .rangeFunc g ps a b,X,lo=>wM [g] (PY lo (anB ps.toList (li rl a X (li rl b X lo))))
 | _,_,_=>0
def fF:Code->Bool
 | .seq a b=>fF a||fF b
 | .cond _ a b=>fF a||fF b
 | .block _ c=>fF c
 | .loop c=>fF c
 | .rangeFunc _ _ _ _=>true
 | _=>false
def iT:Code->Nat
 | .region _ ops _=>zp (wr ops.toList)
 | .seq a b=>PY (iT a) (iT b)
 | .cond _ a b=>PY (iT a) (iT b)
 | .block _ c=>iT c
 | .loop c=>iT c
 | _=>0
def guarded:List Oper->Bool
 | []=>false
 | o::r=>o.guard.isSome||guarded r
def acy(a b:Nat):Nat:=Nat.add a b
mutual
def exC(id:Nat):Code->Nat
 | .exit k=>bif Fm k id then 1 else 0
 | .seq a b=>bif Fm (nxC a) 0 then exC id a else acy (exC id a) (exC id b)
 | .cond _ a b=>acy (exC id a) (exC id b)
 | .block _ c=>exC id c
 | .loop c=>exC id c
 | .rangeFunc _ _ _ b=>exC id b
 | _=>0
def nxC:Code->Nat
 | .skip=>1
 | .region _ ops _=>bif guarded ops.toList then 2 else 1
 | .seq a b=>bif Fm (nxC a) 0 then 0 else nxC b
 | .cond _ a b=>acy (nxC a) (nxC b)
 | .block id c=>acy (nxC c) (exC id c)
 | .rangeFunc _ _ _ _=>1
 | _=>0
end
def gh(m:Nat):Nat->Nat->List Nat
 | 0,_=>[]
 | f+1,i=>bif bit m i then i::gh m f (i+1)else gh m f (i+1)
abbrev De:=Exit->List Nat->Env->hM
def tz(K:List Nat->Env->hM)(Q:De):De
 | .normal,ds,e,w=>K ds e w
 | x,ds,e,w=>Q x ds e w
def WE(id:Nat)(Q:De):De
 | .exit k,ds,e,w=>bif Fm k id then Q .normal ds e w else Q (.exit k) ds e w
 | x,ds,e,w=>Q x ds e w
def WG(K:Option Code->hM):De
 | .normal,_,_,w=>K none w
 | .ret,_,_,w=>K (some .ret) w
 | .exit id,_,_,w=>K (some (.exit id)) w
 | _,_,_,_=>False
def aft(N R:Nat->hM)(X:Nat->Nat->hM):Option Code->Nat->hM
 | none=>N
 | some .ret=>R
 | some (.exit id)=>X id
 | _=>λ_ _=>False
def outs:List Nat->Code->Bool
 | l,.exit id=>!(l.any λk=>Fm k id)
 | l,.seq a b=>outs l a||outs l b
 | l,.cond _ a b=>outs l a||outs l b
 | l,.block id c=>outs (id::l) c
 | l,.loop c=>outs l c
 | _,_=>false
def Eo:List Value->Nat->Value
 | [],_=>undef
 | v::_,0=>v
 | _::r,k+1=>Eo r k
def Hi(args:List Value):List Nat->Nat->Env->Env
 | [],_,e=>e
 | p::r,k,e=>Hi args r (k+1) (Ad e p (Eo args k))
def lF(ds:List Nat):Value:=.tuple (ds.map fun (D:Nat)=>n3 .u64 (D:Int)).toArray
def air:Value->Nat
 | .int _ n=>n.toNat
 | _=>0
def Ap:Value->List Nat
 | .tuple vs=>vs.toList.map air
 | _=>[]
theorem BV(ds:List Nat):Ap (lF ds)=ds:=by
 show(ds.map fun (D:Nat)=>n3 .u64 (D:Int)).map air=ds
 rw[List.map_map]
 conv=>rhs;rw[<- List.map_id ds]
 exact B0 λD _=>by simp[air]
structure Aq(P:Program)(fv:Value)(np:Nat)(w:World)(round:List Value->World->(World->(hM)->Prop)->(Option Code->hM)->Prop)(after:Option Code->Nat->hM):Prop where
 ex:∃gf cap,fv=.func (.func gf) #[] cap/\Plain P gf/\∀L0:Loop,L0.state=.ready->L0.pending=none->
  (∀(args:List Value) (W:World) (K:Value->hM),args.length=np->W.heap[w.heap.size+1]?=some (.loop L0)->
   round args W (λw1 k=>w1.heap[w.heap.size+1]?=some (.loop L0)/\k (w1.putObj (w.heap.size+1) (.loop {L0 with state:=.busy})))
    (λj W'=>W'.heap[w.heap.size+1]?=some (.loop {L0 with state:=.busy})/\K (.bool j.isNone) (W'.putObj (w.heap.size+1) (.loop {L0 with state:=if j.isNone then .ready else .done,pending:=j})))->
   YieldAt (FO none) 0 P (w.heap.size+1) args.toArray W (tu K))->
  Calls P gf (#[.func (.yield (w.heap.size+1)) #[] #[]]++cap) ((w.alloc (.deferred (some []))).alloc (.loop L0))
   (tu λ_ W2=>∃st j,st≠.busy/\W2.heap[w.heap.size+1]?=some (.loop {L0 with state:=st,pending:=j})/\after j w.heap.size (W2.putObj (w.heap.size+1) (.loop {L0 with state:=.exhausted,pending:=j})))
abbrev dL:=Nat->PT
def KY(pl:dL):Code->Bool
 | .region id _ true=>(pl id).many
 | .block _ c=>KY pl c
 | .seq a b=>KY pl a||KY pl b
 | .cond _ a b=>KY pl a||KY pl b
 | _=>false
def drew(w:World):World:={w with drawn:=w.drawn+1}
def D(P:Program)(n:Nat)(pl:dL)(rl:Nat):Code->List (Nat×Nat)->Nat->De->List Nat->Env->hM
 | .skip,_,_,Q,ds,e,w=>Q .normal ds e w
 | .ret,_,_,Q,ds,e,w=>Q .ret ds e w
 | .exit id,_,_,Q,ds,e,w=>Q (.exit id) ds e w
 | .region _ ops false,_,_,Q,ds,e,w=>DR P n ops.toList (ops.toList.map λo=>(o,[])) (Q .normal ds) [] e w
 | .region id ops true,_,_,Q,ds,e,w=>
  bif ops.toList.all (El n)&&(He ops.toList (Hh ops.toList)&&RI P ops.toList (Hh ops.toList) false ops.toList.length 0 (pl id))then
   DT P n ops.toList (pl id) (Q .normal ds) [] e (drew w)
  else False
 | .seq a b,X,lo,Q,ds,e,w=>
  bif UN (nxC a) 1&&!KY pl a then D P n pl rl a X (li rl b X lo) (tz (D P n pl rl b X lo Q) Q) ds e w
  else bif fF a then An (n::gh (Kd (iT a) (li rl b X lo)) n 0)
   (λK=>D P n pl rl a X (li rl b X lo) (tz (λds e w=>K (Ad e n (lF ds)) w) Q) ds e w)
   (λu w'=>∀dead,D P n pl rl b X lo Q (Ap (lkv n u undef)) (GP e (iT a) u.tail dead) w')
  else An (gh (Kd (iT a) (li rl b X lo)) n 0)
   (λK=>D P n pl rl a X (li rl b X lo) (tz (λ_ e w=>K e w) Q) ds e w)
   (λu w'=>∀dead,D P n pl rl b X lo Q ds (GP e (iT a) u dead) w')
 | .cond c a b,X,lo,Q,ds,e,w=>yL (ev e c) (D P n pl rl a X lo Q ds e w) (D P n pl rl b X lo Q ds e w)
 | .block id c,X,lo,Q,ds,e,w=>D P n pl rl c ((id,lo)::X) lo (WE id Q) ds e w
 | .loop c,X,_,Q,ds,e,w=>
  bif fF c then Ao (n::gh (Kd (iT c) (li rl c X (li rl c X 0))) n 0)
   (λK u w=>∀dead,D P n pl rl c X (li rl c X (li rl c X 0)) (tz (λds e w=>K (Ad e n (lF ds)) w) Q) (Ap (lkv n u undef)) (GP e (iT c) u.tail dead) w) (Ad e n (lF ds)) w
  else Ao (gh (Kd (iT c) (li rl c X (li rl c X 0))) n 0)
   (λK u w=>∀dead,D P n pl rl c X (li rl c X (li rl c X 0)) (tz (λ_ e w=>K e w) Q) ds (GP e (iT c) u dead) w) e w
 | .rangeFunc g ps asx E,_,_,Q,ds,e,w=>
  bif ps.toList.all (λp=>abU p n)&&(!fF asx&&!fF E)then
   Aq P (ev e g) ps.toList.length w
    (λargs W B K=>D P n pl 0 asx [] (li 0 E [] 0) (tz (λG J M=>B M λI=>D P n pl 0 E [] 0 (WG K) G J I) λ_ _ _ _=>False) [] (Hi args ps.toList 0 e) W)
    (aft (λD w=>Q .normal (D::ds) e w) (λD w=>Q .ret (D::ds) e w) (bif outs [] E then(λid D w=>Q (.exit id) (D::ds) e w) elseλ_ _ _=>False))
  else False
 | _,_,_,_,_,_,_=>False
theorem WH{m d i:Nat}:bit (WC m d) i=(bit m i||decide (i=d)):=by
 show(m ||| 1 <<< d).testBit i=_
 rw[Yu,TW,Sq]
 unfold bit
 grind
theorem OP{l:List Nat}{i:Nat}:bit (zp l) i=true↔i∈l:=by
 induction l with
 | nil=>simp[zp,bit]
 | cons d r u=>simp only[zp,WH,zD,u,decide_eq_true_eq,s4];grind
theorem OQ{l:List Nat}{e:Env}{i:Nat}:lkv i (jB l e) (e i)=e i:=by
 induction l with
 | nil=>rfl
 | cons a r u=>
  show(bif Fm a i then e a else lkv i (jB r e) (e i))=e i
  by_cases h:a=i
  .grind
  .rw[BS h];exact u
theorem yc{e u:Env}{M:Nat}{l:List Nat}(h:∀i,bit M i=false->u i=e i):GP e M (jB l u) u=u:=by
 funext i
 unfold GP
 cases hb:bit M i with
 | true=>simp only[cond_true];exact OQ
 | false=>grind
theorem KZ{m:Nat}:∀(f i k:Nat),k∈gh m f i->k<i+f:=by
 intro f
 induction f with
 | zero=>intro i k h;cases h
 | succ f u=>
  grind[gh]
theorem OR{l:List Nat}{n:Nat}{v:Value}{e:Env}(h:∀k∈l,k<n):jB l (Ad e n v)=jB l e:=
 B0 λk u=>by rw[oE _ _ (Nat.ne_of_lt (h k u))]
theorem Hj{l:List Nat}{n:Nat}{ds:List Nat}{e:Env}(h:∀k∈l,k<n):jB (n::l) (Ad e n (lF ds))=(n,lF ds)::jB l e:=by
 show(n,Ad e n (lF ds) n)::jB l (Ad e n (lF ds))=_
 rw[nu,OR h]
theorem RN{m n:Nat}:∀k∈gh m n 0,k<n:=λk u=>by have:=KZ n 0 k u;omega
def uy(n:Nat)(M:Nat)(b:Bool)(ds:List Nat)(e:Env)(Q:De):Exit->Act->hM:=
 λx E w'=>∃u B,jt u n B E/\(∀i,bit M i=false->B i=e i)/\(b=false->u=ds)/\Q x u B w'
theorem least{p:Nat->Prop}(h:∃m,p m):∃m,p m/\∀k,p k->m<=k:=by
 obtain⟨m,u⟩:=h
 induction m using Nat.strongRecOn with
 | _ m B=>
  grind
theorem I3{n:Nat}{args:List Value}:∀(ps:List Nat) (k:Nat) (e:Env) (a:Act),(∀p∈ps,p<n)->jt [] n e a->k+ps.length<=args.length->
  jt [] n (Hi args ps k e) {a with tmps:=(ps.zip (args.drop k)).foldl (λt (q:Nat×Value)=>t.setIfInBounds q.1 q.2) a.tmps}:=by
 intro ps
 induction ps with
 | nil=>simp_all[Env,Hi]
 | cons p ps I=>
  intro k e a E B G
  have J:k<args.length:=cD
  have hd:args.drop k=Eo args k::args.drop (k+1):=by
   rw[List.drop_eq_getElem_cons J]
   congr 1
   clear I B G E
   induction args generalizing k with
   | nil=>simp at J
   | cons v r u=>cases k with
    | zero=>rfl
    | succ k=>exact u k cD
  rw[hd]
  have h1:=B.put (d:=some p) (λk G=>by simp_all) (Eo args k)
  exact I (k+1) _ _ (λq M=>E q (qa _ M)) h1 cD
theorem WI{P:Program}{n:Nat}{pl:dL}{g:Operand}{ps:Array Tmp}{asx u:Code}
  (ihA:∀(r:Option Nat) (rl:Nat) (X:List (Nat×Nat)) (lo:Nat) (Q:De) (ds:List Nat) (e:Env) (a:Act) (w:World),
   (r=none\/fF asx=false)->jt ds n e a->D P n pl rl asx X lo Q ds e w->asx.wpIn (FO r) 0 P (uy n (iT asx) (fF asx) ds e Q) a w)
  (ihB:∀(r:Option Nat) (rl:Nat) (X:List (Nat×Nat)) (lo:Nat) (Q:De) (ds:List Nat) (e:Env) (a:Act) (w:World),
   (r=none\/fF u=false)->jt ds n e a->D P n pl rl u X lo Q ds e w->u.wpIn (FO r) 0 P (uy n (iT u) (fF u) ds e Q) a w)
  (rl:Nat) (X:List (Nat×Nat)) (lo:Nat) (Q:De) (ds:List Nat) (e:Env) (a:Act) (w:World) (M:jt ds n e a) (h:D P n pl rl (.rangeFunc g ps asx u) X lo Q ds e w) :
  (Code.rangeFunc g ps asx u).wpIn (FO none) 0 P (uy n 0 true ds e Q) a w:=by
 have h':(bif ps.toList.all (λp=>abU p n)&&(!fF asx&&!fF u)then
  Aq P (ev e g) ps.toList.length w
   (λargs W B K=>D P n pl 0 asx [] (li 0 u [] 0) (tz (λJ e1 w1=>B w1 λw2=>D P n pl 0 u [] 0 (WG K) J e1 w2) λ_ _ _ _=>False) [] (Hi args ps.toList 0 e) W)
   (aft (λD w=>Q .normal (D::ds) e w) (λD w=>Q .ret (D::ds) e w) (bif outs [] u then(λid D w=>Q (.exit id) (D::ds) e w) elseλ_ _ _=>False))
  else False):=h
 cases hc:(ps.toList.all (λp=>abU p n)&&(!fF asx&&!fF u))with
 | false=>grind
 | true=>
  rw[hc]at h'
  simp only[cond_true]at h'
  simp only[oj,u1]at hc
  obtain⟨hps,hA,hB⟩:=hc
  have avy:∀p∈ps.toList,p<n:=λp U=>Nat.blt_eq▸H3.1 hps p U
  obtain⟨Y,cap,hfv,ng,La⟩:=h'.ex
  refine wpIn_rangeFunc λfn _=>?_
  let Z:Loop:={state:=.ready,pending:=none,fn,tmps:=a.tmps,params:=ps,assign:=asx,body:=u,defers:=w.heap.size}
  have hY:=La Z rfl rfl (λargs W K hlen hl Ep=>?_)
  .have hC:=hY.mono (R':=rangePost (FO none) 0 P (w.heap.size+1) (uy n 0 true ds e Q) {a with defers:=[{target:=.collected w.heap.size,args:=#[]}]++a.defers}) (λx w3 hx=>?_)
   .have hC1:=(zj (r:=none) (n:=0)).2 hC
    refine⟨w.heap.size+1,[{target:=.collected w.heap.size,args:=#[]}],(w.alloc (.deferred (some []))).alloc (.loop Z),
     {target:=.fn (.func Y) cap,args:=#[.func (.yield (w.heap.size+1)) #[] #[]]},(w.alloc (.deferred (some []))).alloc (.loop Z),Y,#[.func (.yield (w.heap.size+1)) #[] #[]]++cap,
     (w.alloc (.deferred (some []))).alloc (.loop Z),run_enterLoop_outer ..,?_,λ_ _=>trivial,?_,Ei,?_⟩
    rotate_left 2
    .exact hC1
    .have hg:a.eval g=.func (.func Y) #[] cap:=by rw[M.eval];exact hfv
     simp only[resolve,hg]
     simp[go_sem]
    .show(callFunc Y (#[.func (.yield (w.heap.size+1)) #[] #[]]++cap)).run P _=_
     exact Ai ng _ _
   ·
    obtain⟨v,rfl,st,j,ie,hl3,G⟩:=hx
    refine⟨j,_,run_endLoop hl3 bL,?_⟩
    have E:jt (w.heap.size::ds) n e {a with defers:=[{target:=.collected w.heap.size,args:=#[]}]++a.defers}:=⟨by rw[M.defers];rfl,M.size,M.get⟩
    cases j with
    | none=>exact⟨_,e,E,λ_ _=>rfl,λO=>(by cases O),G⟩
    | some c=>
     cases c with
     | ret=>exact wpIn_ret ⟨_,e,E,λ_ _=>rfl,λO=>(by cases O),G⟩
     | exit id=>
       have KI:(bif outs [] u then(λid D w=>Q (.exit id) (D::ds) e w) elseλ_ _ _=>False:Nat->Nat->hM) id w.heap.size _:=G
       cases ho:outs [] u with
       | true=>rw[ho]at KI;exact wpIn_exit ⟨_,e,E,λ_ _=>rfl,λO=>(by cases O),KI⟩
       | false=>grind
     | _=>exact G.elim
  ·
   have nw:w.heap.size+1<W.heap.size:=(F1.1 hl).1
   refine⟨fn,_,asx,u,run_yield hl bL,roundIn_of_wpIn trivial ?_⟩
   have E:jt [] n (Hi args ps.toList 0 e) {tmps:=(ps.zip args.toArray).foldl (λt (q:Nat×Value)=>t.setIfInBounds q.1 q.2) a.tmps,defers:=[]}:=by
    have h0:jt [] n e {tmps:=a.tmps,defers:=[]}:=⟨rfl,M.size,M.get⟩
    have:=I3 ps.toList 0 e _ avy h0 (by simpa using CL hlen.symm)
    have e1:(ps.zip args.toArray).foldl (λt (q:Nat×Value)=>t.setIfInBounds q.1 q.2) a.tmps=(ps.toList.zip (args.drop 0)).foldl (λt (q:Nat×Value)=>t.setIfInBounds q.1 q.2) a.tmps:=by
     rw[<- aae,Array.toList_zip];simp
    grind
   refine wpIn_mono (ihA (some (w.heap.size+1)) 0 [] _ _ [] _ _ W (.inr hA) E Ep) λx a1 w1 U=>?_
   obtain⟨J,e1,ha1,_,hd1,I⟩:=U
   cases x with
   | normal=>
    obtain⟨hl1,I⟩:=I
    refine⟨_,run_beginRound hl1 rfl,?_⟩
    refine wpIn_mono (ihB (some (w.heap.size+1)) 0 [] _ _ J e1 a1 _ (.inr hB) ha1 I) λx a2 w2 U=>?_
    obtain⟨ds2,e2,V6,_,_,I⟩:=U
    cases x with
    | normal=>obtain⟨V,G⟩:=I;exact⟨_,_,run_endRound none V,_,rfl,G⟩
    | ret=>obtain⟨V,G⟩:=I;exact⟨_,_,run_endRound (some .ret) V,_,rfl,G⟩
    | exit id=>obtain⟨V,G⟩:=I;exact⟨_,_,run_endRound (some (.exit id)) V,_,rfl,G⟩
    | _=>exact I.elim
   | _=>exact I.elim
theorem acC{P:Program}{n:Nat}{pl:dL}(hm:P.follows .mixedOrders=true) :
  ∀(c:Code) (r:Option Nat) (rl:Nat) (X:List (Nat×Nat)) (lo:Nat) (Q:De) (ds:List Nat) (e:Env) (a:Act) (w:World),
   (r=none\/fF c=false)->jt ds n e a->D P n pl rl c X lo Q ds e w->c.wpIn (FO r) 0 P (uy n (iT c) (fF c) ds e Q) a w:=by
 intro c
 induction c with
 | skip=>intro r rl X lo Q ds e a w _ Y h;exact wpIn_skip ⟨ds,e,Y,λ_ _=>rfl,λ_=>rfl,h⟩
 | ret=>intro r rl X lo Q ds e a w _ Y h;exact wpIn_ret ⟨ds,e,Y,λ_ _=>rfl,λ_=>rfl,h⟩
 | exit id=>intro r rl X lo Q ds e a w _ Y h;exact wpIn_exit ⟨ds,e,Y,λ_ _=>rfl,λ_=>rfl,h⟩
 | region id B draw=>
  intro r rl X lo Q ds e a w _ Y h
  have hQ:∀(u:Env) (G:Act) (w':World),jt ds n u G->(∀k,k ∉ wr B.toList->u k=e k)->Q .normal ds u w'->uy n (iT (.region id B draw)) (fF (.region id B draw)) ds e Q .normal G w':=
   λu G w' IY W hq=>by
    refine⟨ds,u,IY,λi hi=>W i λKX=>?_,λ_=>rfl,hq⟩
    have h1:bit (zp (wr B.toList)) i=true:=OP.2 KX
    have h2:bit (zp (wr B.toList)) i=false:=hi
    grind
  cases draw with
  | false=>
   have:=DR.region (r:=r) (id:=id) Y hQ (show DR P n B.toList (B.toList.map λo=>(o,[])) (Q .normal ds) [] e w from h)
   omega
  | true=>
   have Z:(bif B.toList.all (El n)&&(He B.toList (Hh B.toList)&&RI P B.toList (Hh B.toList) false B.toList.length 0 (pl id))then
    DT P n B.toList (pl id) (Q .normal ds) [] e (drew w)else False):=h
   cases hc:(B.toList.all (El n)&&(He B.toList (Hh B.toList)&&RI P B.toList (Hh B.toList) false B.toList.length 0 (pl id)))with
   | false=>grind
   | true=>
    rw[hc]at Z
    simp only[oj]at hc
    obtain⟨h2,h3,h4⟩:=hc
    have hd:∀d∈wr B.toList,d<n:=λd hd=>by
     obtain⟨o,ho,KU⟩:=SX.1 hd
     have:=H3.1 h2 o ho
     unfold El at this
     simp_all
    have hz:(bit 0)=λ_=>false:=by funext i;simp[bit]
    have hws:=(acw (Q:=Q .normal ds) h3 (pl id) B.toList.length 0 [] e (drew w) (λi o hi=>cD) (by constructor<;>simp) (DT.plain _ _ _ _ (kz.nil e) Z)).1 h4
    rw[hz]at hws
    have:=WS.region (r:=r) (id:=id) hm hd Y hQ hws
    omega
 | seq M U ih1 ih2=>
  intro r rl X lo Q ds e a w hr Y h
  have GQ:r=none\/fF M=false:=hr.imp id λh=>by grind[fF]
  have GH:r=none\/fF U=false:=hr.imp id λh=>by grind[fF]
  have key:∀(K:List Nat->Env->hM),D P n pl rl M X (li rl U X lo) (tz K Q) ds e w->
    (∀E u G w',jt E n u G->(∀i,bit (iT M) i=false->u i=e i)->(fF M=false->E=ds)->K E u w'->U.wpIn (FO r) 0 P (uy n (iT U) (fF U) E u Q) G w')->
    (Code.seq M U).wpIn (FO r) 0 P (uy n (iT (.seq M U)) (fF (.seq M U)) ds e Q) a w:=by
   intro K hK hk
   refine wpIn_seq (wpIn_mono (ih1 r rl X _ _ ds e a w GQ Y hK) λx G w' hp=>?_)
   obtain⟨E,u,IY,W,O,hq⟩:=hp
   have hor:∀i,bit (iT (.seq M U)) i=false->bit (iT M) i=false/\bit (iT U) i=false:=λi hi=>by
    simp_all[bit,iT]
   have hrf:fF (.seq M U)=false->fF M=false/\fF U=false:=λhh=>by
    grind[fF]
   cases x with
   | normal=>
    refine wpIn_mono (hk E u G w' IY W O hq) λx2 a2 w2 hp2=>?_
    grind[uy,iT,fF]
   | _=>exact⟨E,u,IY,λi hi=>W i (hor i hi).1,λhh=>O (hrf hh).1,hq⟩
  have Z:(bif UN (nxC M) 1&&!KY pl M then D P n pl rl M X (li rl U X lo) (tz (D P n pl rl U X lo Q) Q) ds e w
   else bif fF M then An (n::gh (Kd (iT M) (li rl U X lo)) n 0)
    (λK=>D P n pl rl M X (li rl U X lo) (tz (λds e w=>K (Ad e n (lF ds)) w) Q) ds e w)
    (λbs w'=>∀dead,D P n pl rl U X lo Q (Ap (lkv n bs undef)) (GP e (iT M) bs.tail dead) w')
   else An (gh (Kd (iT M) (li rl U X lo)) n 0)
    (λK=>D P n pl rl M X (li rl U X lo) (tz (λ_ e w=>K e w) Q) ds e w)
    λbs w'=>∀dead,D P n pl rl U X lo Q ds (GP e (iT M) bs dead) w'):=h
  cases hc:(UN (nxC M) 1&&!KY pl M)with
  | true=>
   grind
  | false=>
   rw[hc]at Z
   simp only[cond_false]at Z
   cases hc2:fF M with
   | false=>
    rw[hc2]at Z
    simp only[cond_false]at Z
    obtain⟨I,h1,h2⟩:=An.spec Z
    refine key _ h1 λE u G w' IY W O hk=>?_
    have:=h2 u w' hk u
    rw[yc W]at this
    grind
   | true=>
    rw[hc2]at Z
    simp only[cond_true]at Z
    obtain⟨I,h1,h2⟩:=An.spec Z
    refine key _ h1 λE u G w' IY W O hk=>?_
    have:=h2 (Ad u n (lF E)) w' hk u
    rw[Hj RN]at this
    rw[show((n,lF E)::jB (gh (Kd (iT M) (li rl U X lo)) n 0) u).tail=jB (gh (Kd (iT M) (li rl U X lo)) n 0) u from rfl,yc W,
     show lkv n ((n,lF E)::jB (gh (Kd (iT M) (li rl U X lo)) n 0) u) undef=lF E by show(bif Fm n n then lF E else _)=_;simp_all,BV]at this
    grind
 | cond c M U ih1 ih2=>
  intro r rl X lo Q ds e a w hr Y h
  obtain⟨t,ht,hA,hB⟩:=(show yL (ev e c) (D P n pl rl M X lo Q ds e w) (D P n pl rl U X lo Q ds e w)from h).ex
  have hor:∀i,bit (iT (.cond c M U)) i=false->bit (iT M) i=false/\bit (iT U) i=false:=λi hi=>by
   simp_all[bit,iT]
  have hrf:fF (.cond c M U)=false->fF M=false/\fF U=false:=λhh=>by
   grind[fF]
  refine wpIn_cond_split (t:=t) (by rw[Y.eval];exact ht) (λh1=>?_) (λh1=>?_)
  .exact wpIn_mono (ih1 r rl X lo Q ds e a w (hr.imp id λh=>(hrf h).1) Y (hA h1)) λx G w' ⟨E,u,IY,W,O,hq⟩=>⟨E,u,IY,λi hi=>W i (hor i hi).1,λhh=>O (hrf hh).1,hq⟩
  .exact wpIn_mono (ih2 r rl X lo Q ds e a w (hr.imp id λh=>(hrf h).2) Y (hB h1)) λx G w' ⟨E,u,IY,W,O,hq⟩=>⟨E,u,IY,λi hi=>W i (hor i hi).2,λhh=>O (hrf hh).2,hq⟩
 | block id c ih=>
  intro r rl X lo Q ds e a w hr Y h
  refine wpIn_block (wpIn_mono (ih r rl _ _ _ ds e a w hr Y h) λx G w' hp=>?_)
  obtain⟨E,u,IY,W,O,hq⟩:=hp
  cases x with
  | exit k=>
   simp only[Exit.inBlock]
   simp only[WE]at hq
   by_cases hk:k=id
   .subst hk
    rw[Ek]at hq
    grind[uy,iT,fF]
   .rw[BS hk]at hq
    grind[uy,iT,fF]
  | _=>exact⟨E,u,IY,W,O,hq⟩
 | loop c ih=>
  intro r rl X lo Q ds e a w hr Y h
  have key:∀(V:List Nat->Env->List (Nat×Value)) (I:Nat->List (Nat×Value)->hM),(∃m,I m (V ds e) w)->
    (∀m E u w',(∀i,bit (iT c) i=false->u i=e i)->(fF c=false->E=ds)->I m (V E u) w'->D P n pl rl c X (li rl c X (li rl c X 0)) (tz (λds2 e2 w2=>∃m',m'<m/\I m' (V ds2 e2) w2) Q) E u w')->
    (Code.loop c).wpIn (FO r) 0 P (uy n (iT (.loop c)) (fF (.loop c)) ds e Q) a w:=by
   intro V I ⟨m,h1⟩ h2
   let Inv:Nat->Act->hM:=λm G w'=>∃E u,jt E n u G/\(∀i,bit (iT c) i=false->u i=e i)/\(fF c=false->E=ds)/\I m (V E u) w'
   have body:∀m G w',Inv m G w'->c.wpIn (FO r) 0 P (Exit.then (λa2 w2=>∃m',m'<m/\Inv m' a2 w2) (uy n (iT (.loop c)) (fF (.loop c)) ds e Q)) G w':=by
    rintro m G w' ⟨E,u,IY,W,O,hi⟩
    refine wpIn_mono (ih r rl X _ _ E u G w' hr IY (h2 m E u w' W O hi)) λx a2 w2 hp=>?_
    obtain⟨ds2,e2,V6,hf2,avB,hq⟩:=hp
    have hfe:∀i,bit (iT c) i=false->e2 i=e i:=λi hi=>(hf2 i hi).trans (W i hi)
    have anG:fF c=false->ds2=ds:=λhh=>(avB hh).trans (O hh)
    cases x with
    | normal=>obtain⟨m',hm',Lb⟩:=hq;exact⟨m',hm',ds2,e2,V6,hfe,anG,Lb⟩
    | _=>exact⟨ds2,e2,V6,hfe,anG,hq⟩
   classical
   let J:Act->hM:=λG w'=>∃m,Inv m G w'
   let μ:Act->World->Nat:=λG w'=>if h:∃m,Inv m G w' then acd (least h)else 0
   have hμ:∀G w',J G w'->Inv (μ G w') G w'/\∀k,Inv k G w'->μ G w'<=k:=λG w' hj=>by
    grind
   refine wpIn_loop J μ ⟨m,ds,e,Y,λ_ _=>rfl,λ_=>rfl,h1⟩ λG w' hj=>?_
   refine wpIn_mono (body _ G w' (hμ G w' hj).1) λx a2 w2 hp=>?_
   cases x with
   | normal=>
    obtain⟨m',hm',Lb⟩:=hp
    exact⟨⟨m',Lb⟩,Nat.lt_of_le_of_lt ((hμ a2 w2 ⟨m',Lb⟩).2 m' Lb) hm'⟩
   | _=>exact hp
  have Z:(bif fF c then Ao (n::gh (Kd (iT c) (li rl c X (li rl c X 0))) n 0)
    (λK bs w=>∀dead,D P n pl rl c X (li rl c X (li rl c X 0)) (tz (λds e w=>K (Ad e n (lF ds)) w) Q) (Ap (lkv n bs undef)) (GP e (iT c) bs.tail dead) w) (Ad e n (lF ds)) w
   else Ao (gh (Kd (iT c) (li rl c X (li rl c X 0))) n 0)
    (λK bs w=>∀dead,D P n pl rl c X (li rl c X (li rl c X 0)) (tz (λ_ e w=>K e w) Q) ds (GP e (iT c) bs dead) w) e w):=h
  cases hc:fF c with
  | false=>
   rw[hc]at Z
   simp only[cond_false]at Z
   obtain⟨I,h1,h2⟩:=Ao.spec Z
   rw[show fF (.loop c)=fF c from rfl]at key
   have:=key (λ_ e=>jB (gh (Kd (iT c) (li rl c X (li rl c X 0))) n 0) e) I h1 λm E u w' W O hi=>by
    have:=h2 m u w' hi u
    rw[yc W]at this
    grind
   exact this
  | true=>
   rw[hc]at Z
   simp only[cond_true]at Z
   obtain⟨I,h1,h2⟩:=Ao.spec Z
   refine key (λds e=>jB (n::gh (Kd (iT c) (li rl c X (li rl c X 0))) n 0) (Ad e n (lF ds))) I h1 λm E u w' W O hi=>?_
   have:=h2 m (Ad u n (lF E)) w' hi u
   rw[Hj RN]at this
   rw[show((n,lF E)::jB (gh (Kd (iT c) (li rl c X (li rl c X 0))) n 0) u).tail=jB (gh (Kd (iT c) (li rl c X (li rl c X 0))) n 0) u from rfl,yc W,
    show lkv n ((n,lF E)::jB (gh (Kd (iT c) (li rl c X (li rl c X 0))) n 0) u) undef=lF E by show(bif Fm n n then lF E else _)=_;simp_all,BV]at this
   exact this
 | rangeFunc g ps asx bd ihA ihB=>
  intro r rl X lo Q ds e a w hr Y h
  have Dg:r=none:=hr.resolve_right (by simp[fF])
  subst Dg
  exact WI ihA ihB rl X lo Q ds e a w Y h
 | _=>intro r rl X lo Q ds e a w _ Y h;exact h.elim
def OS(P:Program):List ResultVar->Env->(List Value->Prop)->hM
 | [],_,K,_=>K []
 | .tmp t::r,e,K,w=>OS P r e (λvs=>K (e t::vs)) w
 | .cell a t::r,e,K,w=>GL P (z9 t (e a)) w (λv=>OS P r e (λvs=>K (v::vs)) w)
def WJ:List Value->Value
 | [v]=>v
 | vs=>.tuple vs.toArray
def mP:List Nat->World->(hM)->Prop
 | [],w,K=>K w
 | D::r,w,K=>w.heap[D]?=some (.deferred (some []))/\mP r (w.putObj D (.deferred none)) K
def OT(P:Program)(rs:List ResultVar)(K:Value->hM):De
 | .normal,ds,e,w=>mP ds w λw=>OS P rs e (λvs=>K (WJ vs) w) w
 | .ret,ds,e,w=>mP ds w λw=>OS P rs e (λvs=>K (WJ vs) w) w
 | _,_,_,_=>False
def Dh:List Value->Env
 | [],_=>undef
 | v::_,0=>v
 | _::r,n+1=>Dh r n
theorem WK(l:List Value)(i:Nat):Dh l i=l.getD i undef:=by
 induction l generalizing i with
 | nil=>simp[Dh]
 | cons v r u=>cases i with
  | zero=>rfl
  | succ i=>simp[Dh,u]
def Ue(tmps:Array Value):ResultVar->Sem Value
 | .tmp t=>pure (tmps.getD t undef)
 | .cell a t=>do loadVar t (<- asAddr (tmps.getD a undef))
theorem I4{P:Program}{t:TypeId}{v u:Value}{w:World}(h:(z9 t v).run P w=.ok u w):(do loadVar t (<- asAddr v):Sem Value).run P w=.ok u w:=by
 cases v with
 | pointer a=>cases a with
  | none => exact absurd (show(Result.halt (.stuck "an address expected (no nilCheck in front?)") w : Result Value)=.ok u w from h) ee
  | some a=>exact h
 | _ => exact absurd (show(Result.halt (.stuck "an address expected (no nilCheck in front?)") w : Result Value)=.ok u w from h) ee
theorem WL{P:Program}{ds:List Nat}{n:Nat}{e:Env}{a:Act}(E:jt ds n e a):∀(rs:List ResultVar) (K:List Value->Prop) (w:World),OS P rs e K w->
  ∃vs,(rs.mapM (Ue a.tmps)).run P w=.ok vs w/\K vs:=by
 intro rs
 induction rs with
 | nil=>intro K w h;exact⟨[],rfl,h⟩
 | cons r rs G=>
  intro K w h
  have step:∀v,(Ue a.tmps r).run P w=.ok v w->OS P rs e (λvs=>K (v::vs)) w->∃vs,((r::rs).mapM (Ue a.tmps)).run P w=.ok vs w/\K vs:=by
   intro v B u
   obtain⟨vs,h1,h2⟩:=G _ w u
   simp_all
  cases r with
  | tmp t=>exact step (e t) (by rw[<- E.get t];rfl) h
  | cell c t=>
   obtain⟨v,B,u⟩:=h.ex
   refine step v ?_ u
   show(do loadVar t (<- asAddr (a.tmps.getD c undef)):Sem Value).run P w=_
   rw[E.get c]
   exact I4 B
theorem Lc{P:Program}{u:Func}{rs:List ResultVar}(B:u.results=rs.toArray){tmps:Array Value}{w:World}{vs:List Value}
  (h:(rs.mapM (Ue tmps)).run P w=.ok vs w):(results u tmps).run P w=.ok (WJ vs) w:=by
 have e:results u tmps=(rs.toArray.mapM (Ue tmps) >>= λvs=>pure (if h:vs.size=1 then vs[0]else .tuple vs)):=by
  unfold results;rw[B];rfl
 rw[e,List.mapM_toArray]
 have h1:(Functor.map (λa=>a.toArray) (rs.mapM (Ue tmps))).run P w=.ok vs.toArray w:=by
  simp_all
 rw[eG h1]
 show Result.ok _ w=Result.ok _ w
 congr 1
 match vs with
 | []=>rfl
 | [v]=>rfl
 | a::b::r=>simp[WJ]
theorem I5{P:Program}{u:Func}{tmps:Array Value}{R:Ending->hM}:∀(ds:List Nat) (w:World),mP ds w (λw'=>∃v,(results u tmps).run P w'=.ok v w'/\R (.returned v) w')->
  LeavesInM (FO none) 0 P u tmps R (ds.map mark) .returning w:=by
 intro ds
 induction ds with
 | nil=>intro w ⟨v,h1,h2⟩;exact⟨v,h1,h2⟩
 | cons D r B=>intro w h;exact⟨ee,.inl ⟨D,_,rfl,run_takeDeferred h.1,B _ h.2⟩⟩
theorem mP.mono{ds:List Nat}{K u:hM}(B:∀w,K w->u w):∀{w:World},mP ds w K->mP ds w u:=by
 induction ds with
 | nil=>intro w h;exact B w h
 | cons D r E=>intro w h;exact⟨h.1,E h.2⟩
theorem Er{P:Program}{n:Nat}{pl:dL}{rl:Nat}{f:FuncId}{u:Func}{c:Code}{rs:List ResultVar}{args:List Value}{w:World}{K:Value->hM}
  (M:P.follows .mixedOrders=true) (O:P.funcs[f]?=some u) (hb:u.body=some c) (hn:u.ntmps=n) (V:u.results=rs.toArray) (U:args.length<=n)
  (h:D P n pl rl c [] rl (OT P rs K) [] (Dh args) w):Calls P f args.toArray w (tu K):=by
 refine zj.1 (callsIn_of_wp_marks (F:=FO none) (n:=0) O hb trivial ?_)
 have Z:jt [] n (Dh args) {tmps:=args.toArray++Array.replicate (u.ntmps-args.toArray.size) undef,defers:=[]}:=by
  refine⟨rfl,cD,λi=>?_⟩
  rw[WK,FP,Array.getElem?_append]
  grind
 refine wpIn_mono (acC M c none rl [] rl _ [] _ _ w (.inl rfl) Z h) λx G w' W=>?_
 obtain⟨J,e',I,_,_,B⟩:=W
 have E:mP J w' (λw=>OS P rs e' (λvs=>K (WJ vs) w) w)->LeavesInM (FO none) 0 P u G.tmps (tu K) G.defers .returning w':=λB=>by
  rw[I.defers]
  refine I5 J w' (B.mono λY h1=>?_)
  obtain⟨vs,h1,h2⟩:=WL I rs _ Y h1
  exact⟨_,Lc V h1,_,rfl,h2⟩
 cases x with
 | normal=>exact E B
 | ret=>exact E B
 | _=>exact B.elim
def okD{P:Program}{n:Nat}{pl:dL}{rl:Nat}{f:FuncId}{u:Func}{c:Code}{rs:List ResultVar}{args:List Value}{w:World}{K:Value->hM}{S:Prop}
  (G:P.funcs[f]?=some u) (hb:u.body=some c) (J:u.ntmps=n) (I:u.results=rs.toArray) (E:P.follows .mixedOrders=true) (B:args.length<=n)
  (e:D P n pl rl c [] rl (OT P rs K) [] (Dh args) w=S) (h:S):Calls P f args.toArray w (tu K):=Er E G hb J I B (e.mpr h)
def okE{P:Program}(n:Nat)(pl:dL)(rl:Nat)(rs:List ResultVar){f:FuncId}{u:Func}{args:List Value}{w:World}{K:Value->hM}{S:Prop}
  (G:P.funcs[f]?=some u) (hb:u.body=some (u.body.getD .skip)) (J:u.ntmps=n) (I:u.results=rs.toArray) (E:P.follows .mixedOrders=true) (B:args.length<=n)
  (e:D P n pl rl (u.body.getD .skip) [] rl (OT P rs K) [] (Dh args) w=S) (h:S):Calls P f args.toArray w (tu K):=okD G hb J I E B e h
theorem okZ{P:Program}(n:Nat)(pl:dL)(rl:Nat)(rs:List ResultVar){f:FuncId}{u:Func}{args:List Value}{w:World}{K:Value->hM}{S:Prop}
  (E:P.funcs[f]?=some u) (B:P.follows .mixedOrders=true) (hc:(u.body.isSome,u.ntmps,u.results,UN args.length n)=(true,n,rs.toArray,true))
  (e:D P n pl rl (u.body.getD .skip) [] rl (OT P rs K) [] (Dh args) w=S) (h:S):Calls P f args.toArray w (tu K):=by
 have h1:u.body.isSome=true:=gL (λx=>x.1) hc
 have h2:u.ntmps=n:=gL (λx=>x.2.1) hc
 have h3:u.results=rs.toArray:=gL (λx=>x.2.2.1) hc
 have h4:UN args.length n=true:=gL (λx=>x.2.2.2) hc
 have h5:u.body=some (u.body.getD .skip):=by
  cases hb:u.body with
  | none=>rw[hb]at h1;cases h1
  | some c=>rfl
 exact okD E h5 h2 h3 B (Fq h4) e h
def dJ{P : Program}{f : FuncId}{u : Func}(B : P.funcs[f]?=some u)(h : (u.name == "runtime.NumGoroutine", u.body.isNone)=(false, false) := by kernel_rfl) : Plain P f := ⟨u, B, gL (λx => x.1) h, gL (λx => x.2) h⟩
def vb{a b:Bool}(h:a=b):x6 a=x6 b:=gL _ h
def Oz{p:Prop}[Decidable p](h:p):x6 true=x6 (decide p):=vb (ew h).symm
def Uf{p:Prop}[Decidable p](h:¬ p):x6 false=x6 (decide p):=vb (ez h).symm
def yd{p q:Prop}[Decidable p][Decidable q](h:p↔q):x6 (decide p)=x6 (decide q):=vb (fN.2 h)
end Go.Fw
namespace Go.Proofs.YtpdlpabnlkofmaaGreatDoor
open Go.Fw
variable (w:World) (K:Value->hM)
abbrev i(n:Int):Value:=.int .i64 n
abbrev tt:Value:=.bool true
abbrev ff:Value:=.bool false
abbrev fA(T:Nat)(v:Value)(f:Nat)(K:Value->Prop):Prop:=eK hH (H4 T v f) K
abbrev iA(T:Nat)(v j:Value)(K:Value->Prop):Prop:=eK hH (H5 T v j) K
abbrev lA(T:Nat)(p:Value)(w:World)(K:Value->Prop):Prop:=GL hH (z9 T p) w K
abbrev sA(T:Nat)(p v:Value)(w:World)(K:hM):Prop:=RB hH (LS T p v) w K
abbrev bA(o:BinOp)(T:Nat)(x y:Value)(K:Value->Prop):Prop:=eK hH (jQ o T false false x y) K
abbrev bB(o:BinOp)(T:Nat)(x y:Value)(K:Value->Prop):Prop:=eK hH (jQ o T false true x y) K
abbrev bC(o:BinOp)(T:Nat)(x y:Value)(K:Value->Prop):Prop:=eK hH (jQ o T true false x y) K
abbrev cF(f:Nat)(args:List Value)(w:World)(K:Value->hM):Prop:=CM hH f args w K
abbrev nC(v:Value)(K:Value->Prop):Prop:=eK hH (T7 v) K
abbrev lN(T:Nat)(v:Value)(K:Value->Prop):Prop:=eK hH (Builtin.len_ #[T] 3 [v].toArray) K
abbrev aL(T:Nat)(w:World)(K:Value->hM):Prop:=qM hH (Qj T true (.tuple #[])) w K
abbrev xT(v:Value)(k:Nat)(K:Value->Prop):Prop:=eK hH (U0 v k) K
abbrev kA(T:Nat)(p v:Value)(w:World)(R:Prop):Prop:=RC hH (z9 T p) v w R
abbrev aP(T:Nat)(a b:Value)(w:World)(K:Value->hM):Prop:=qM hH (Builtin.append_ #[T,T] T [a,b].toArray) w K
abbrev bS(T n:Nat)(l:List (Nat×Value))(w:World)(K:Value->hM):Prop:=qM hH (ML T n l.toArray) w K
abbrev cV(v:Value)(a b:Prop):Prop:=yL v a b
noncomputable abbrev PG:Program:=hH
abbrev CR(n:Nat)(a:List Value)(w:World)(K:Value->hM):Prop:=Calls hH n a.toArray w (tu K)
abbrev PL(n:Nat):Prop:=Plain hH n
theorem mixed:Tryz.prog.follows .mixedOrders=true:=by kernel_rfl
theorem oe(n:Nat)(pl:dL)(rl:Nat)(rs:List ResultVar){f:FuncId}{u:Func}{args:List Value}{w:World}{K:Value->hM}{S:Prop}
  (B:PG.funcs[f]?=some u) (h:S) (hc:(u.body.isSome,u.ntmps,u.results,UN args.length n)=(true,n,rs.toArray,true):=by kernel_rfl)
  (e:D PG n pl rl (u.body.getD .skip) [] rl (OT PG rs K) [] (Dh args) w=S:=by kernel_rfl):CR f args w K:=okZ n pl rl rs B mixed hc e h
def Ug:List ResultVar->Nat
 | []=>0
 | .tmp t::r=>WC (Ug r) t
 | .cell a _::r=>WC (Ug r) a
theorem pj{f:FuncId}{u:Func}(B:Tryz.prog.funcs[f]?=some u){args:List Value}{w:World}{K:Value->hM}{pl:dL}
  (h:D hH u.ntmps pl (Ug u.results.toList) (u.body.getD .skip) [] (Ug u.results.toList) (OT hH u.results.toList K) [] (Dh args) w)
  (hc:(u.body.isSome,UN args.length u.ntmps)=(true,true):=by kernel_rfl):Calls hH f args.toArray w (tu K):=by
 have h1:u.body.isSome=true:=gL (λx=>x.1) hc
 have h5:u.body=some (u.body.getD .skip):=by
  cases hb:u.body with
  | none=>rw[hb]at h1;cases h1
  | some c=>rfl
 exact Er mixed B h5 rfl ee (Fq (gL (λx=>x.2) hc)) h
theorem fb{f:FuncId}{u:Func}(B:Tryz.prog.funcs[f]?=some u){args:List Value}{w:World}{K:Value->hM}
  (h:D hH u.ntmps (λ_=>.nil) (Ug u.results.toList) (u.body.getD .skip) [] (Ug u.results.toList) (OT hH u.results.toList K) [] (Dh args) w)
  (hc:(u.body.isSome,UN args.length u.ntmps)=(true,true):=by kernel_rfl):Calls hH f args.toArray w (tu K):=pj B h hc
def P11:dL:=λi=>match i with
 | 1=>(.op 0 [] (.op 1 [] (.op 3 [] (.op 4 [] (.op 6 [] (.op 7 [] (.op 9 [] (.op 10 [] (.alt 2 [4,7,10] (.alt 5 [7,10] (.alt 8 [10] (.alt 11 [] (.of [(12,[]),(13,[1,4,7,10]),(14,[])]) (.alt 13 [1,4,7,10] (.of [(11,[]),(12,[]),(14,[])]) .stop)) (.alt 13 [1,4,7,10] (.of [(8,[10]),(11,[]),(12,[]),(14,[])]) .stop)) (.alt 13 [1,4,7,10] (.of [(5,[7,10]),(8,[10]),(11,[]),(12,[]),(14,[])]) .stop)) (.alt 13 [1,4,7,10] (.of [(2,[4,7,10]),(5,[7,10]),(8,[10]),(11,[]),(12,[]),(14,[])]) .stop))))))))))
 | 5=>(.of [(0,[]),(1,[]),(2,[]),(3,[]),(4,[]),(5,[]),(6,[]),(7,[1]),(8,[1]),(9,[]),(10,[]),(11,[])])
 | 9=>(.of [(0,[]),(1,[]),(2,[]),(3,[]),(4,[]),(5,[]),(6,[]),(7,[]),(9,[]),(10,[]),(11,[]),(12,[]),(13,[]),(14,[]),(8,[1,10,14]),(15,[]),(16,[1]),(17,[]),(18,[]),(19,[])])
 | _=>.nil
def P19:dL:=λi=>match i with
 | 6=>.run 0 51
 | _=>.nil
def P46:dL:=λi=>match i with
 | 5=>(.op 0 [] (.op 1 [] (.op 2 [] (.op 3 [] (.op 4 [] (.op 5 [] (.op 6 [] (.op 7 [] (.op 8 [] (.op 9 [] (.op 10 [] (.op 11 [] (.op 12 [] (.op 13 [] (.op 14 [] (.op 15 [] (.op 16 [] (.op 17 [] (.op 18 [] (.op 19 [] (.op 20 [] (.op 21 [] (.op 22 [] (.alt 23 [4,9,17] (.of [(24,[]),(25,[4,9,17,22]),(26,[])]) (.alt 25 [4,9,17,22] (.of [(23,[4,9,17]),(24,[]),(26,[])]) .stop)))))))))))))))))))))))))
 | 9=>(.of [(0,[]),(1,[]),(2,[]),(3,[]),(4,[]),(5,[]),(6,[]),(7,[]),(8,[]),(9,[]),(10,[]),(11,[]),(12,[]),(13,[]),(14,[]),(15,[]),(16,[]),(17,[]),(18,[]),(19,[]),(20,[]),(21,[1]),(22,[]),(23,[]),(24,[])])
 | _=>.nil
def S57(p0:Value):Prop:=
 qM hH (BF 27 p0) w λp1 a=>lA 27 p1 a λb=>cF 118 [b] a λc d=>eK hH (Op.unary .not c) λe=>cV e (K (.tuple #[(i 8),(i 0)]) d) (lA 27 p1 d λf=>
 cF 119 [f] d λg h=>cV g (K (.tuple #[(i 2),(i 0)]) h) (lA 27 p1 h λj=>cF 120 [j] h λk l=>jR (λY i5 n=>∀_:Env,
 lN 24 k λo=>bA .lss 3 i5 o λp=>cV p (iA 24 k i5 λq=>fA 146 q 2 λr=>lA 141 r n λs=>cF 121 [s,(i 1)] n λt u=>bB .geq 3 t (i 0) λv=>cV v (K (.tuple #[(i 11),t]) u) (
 bB .add 3 i5 (i 1) λx=>Y x u)) (lA 27 p1 n λy=>cF 122 [y] n λz aa=>bB .geq 3 z (i 0) λab=>cV ab (K (.tuple #[(i 10),z]) aa) (jR (λK2 M ac=>∀_:Env,
 lN 24 k λad=>bA .lss 3 M ad λae=>cV ae (jR (λK3 U J=>∀_:Env,
 iA 24 k M λag=>fA 146 ag 1 λah=>lA 91 ah J λai=>lN 91 ai λaj=>bA .lss 3 U aj λak=>cV ak (iA 24 k M λal=>fA 146 al 1 λam=>lA 91 am J λan=>iA 91 an U λao=>
 lA 9 ao J λap=>eH (λK4=>iA 24 k M λaq=>fA 146 aq 1 λar=>lA 91 ar J λasx=>cF 123 [asx,ap] J λau av=>bA .lss 3 au U λaw=>cV aw (K4 tt av) (lA 27 p1 av λax=>
 cF 124 [ax] av λay az=>cF 123 [ay,ap] az λa0 a1=>bB .geq 3 a0 (i 0) λa2=>cV a2 (K4 tt a1) (lA 27 p1 a1 λa3=>cF 125 [a3] a1 λa4 a5=>cF 123 [a4,ap] a5 λa6 a7=>
 bB .geq 3 a6 (i 0) λa8=>K4 a8 a7))) (λa9 ba=>∀_:Env,
 cV a9 (iA 24 k M λbb=>fA 146 bb 3 λbc=>lA 3 bc (drew ba) λbd=>K (.tuple #[(i 10),bd]) (drew ba)) (bB .add 3 U (i 1) λbe=>K3 be ba))) (bB .add 3 M (i 1) λbf=>
 K2 bf J)) λK3=>K3 (i 0) ac) (jR (λW B V=>∀_:Env,
 lN 24 k λbh=>bA .lss 3 B bh λbi=>cV bi (jR (λZ G E=>∀_:Env,
 iA 24 k B λbk=>fA 146 bk 2 λbl=>lA 141 bl E λbm=>lN 141 bm λbn=>bA .lss 3 G bn λbo=>cV bo (lA 27 p1 (drew E) λbp=>iA 24 k B λbq=>lA 146 bq (drew E) λbr=>
 iA 24 k B λbs=>fA 146 bs 2 λbt=>lA 141 bt (drew E) λbu=>iA 141 bu G λbv=>lA 193 bv (drew E) λbw=>cF 126 [bp,br,bw] (drew E) λbx bz=>bB .geq 3 bx (i 0) λb0=>
 cV b0 (K (.tuple #[(i 9),bx]) bz) (bB .add 3 G (i 1) λb1=>Z b1 bz)) (bB .add 3 B (i 1) λb2=>W b2 E)) λZ=>Z (i 0) V) (lA 27 p1 (drew V) λb3=>lA 27 p1 (drew V) λb4=>
 cF 124 [b3] (drew V) λb5 b6=>kA 27 p1 b4 b6 (cF 62 [b4] b6 λb7 b8=>eK hH (oa 91 b5 none (some b7) none) λb9=>jR (λK7 I O=>∀_:Env,
 fA 27 p1 5 λcb=>lA 25 cb O λcc=>lN 25 cc λcd=>bA .lss 3 I cd λce=>cV ce (fA 27 p1 5 λcf=>lA 25 cf O λcg=>iA 25 cg I λch=>fA 85 ch 0 λci=>lA 82 ci O λcj=>
 cF 127 [cj,b9] O λck cl=>bB .geq 3 ck (i 0) λcm=>cV cm (K (.tuple #[(i 9),ck]) cl) (bB .add 3 I (i 1) λcn=>K7 cn cl)) (K (.tuple #[(i 0),(i 0)]) O)) λK7=>K7 (i 0) b8)))
 λW=>W (i 0) ac)) λK2=>K2 (i 0) aa))) λY=>Y (i 0) l))
def P57:dL:=λi=>match i with
 | 23=>.run 0 7
 | 30=>.run 0 15
 | 33=>(.of [(0,[]),(2,[]),(1,[2]),(3,[]),(4,[]),(5,[])])
 | _=>.nil
theorem ais(p0:Value)(h:S57 w K p0):CR 57 [p0] w K:=
 oe 150 P57 12 [.tmp 2,.tmp 3] Tryz.func57 h
def S61(E I M:Value):Prop:=
 eH (λJ=>lN 41 E λa=>lN 41 M λb=>bA .neq 3 a b λc=>cV c (J tt w) (lN 41 E λd=>bB .gtr 3 d (i 20) λe=>cV e (J tt w) (bB .lss 3 I (i 0) λf=>
 cV f (J tt w) (lN 41 E λg=>bA .gtr 3 I g λh=>J h w)))) (λj k=>∀_:Env,
 cV j (K (.tuple #[(.pointer none),(i 1)]) k) (jR (λK2 B l=>∀_:Env,
 bA .lss 3 B I λn=>cV n (eH (λG=>bB .eql 3 B (i 0) λo=>cV o (iA 41 E (i 0) λp=>lA 3 p (drew l) λq=>bB .neq 3 q (i 0) λr=>cV r (G tt (drew l)) (
 bB .gtr 3 B (i 0) λs=>cV s (iA 41 E B λt=>lA 3 t (drew l) λu=>bB .sub 3 B (i 1) λv=>iA 41 E v λx=>lA 3 x (drew l) λy=>bA .neq 3 u y λz=>cV z (iA 41 E B λaa=>
 lA 3 aa (drew l) λab=>bB .sub 3 B (i 1) λac=>iA 41 E ac λad=>lA 3 ad (drew l) λY=>bB .add 3 Y (i 1) λaf=>bA .neq 3 ab af λag=>G ag (drew l)) (G ff (drew l))) (
 G ff (drew l)))) (bB .gtr 3 B (i 0) λah=>cV ah (iA 41 E B λai=>lA 3 ai (drew l) λaj=>bB .sub 3 B (i 1) λak=>iA 41 E ak λal=>lA 3 al (drew l) λam=>bA .neq 3 aj am λan=>
 cV an (iA 41 E B λao=>lA 3 ao (drew l) λap=>bB .sub 3 B (i 1) λaq=>iA 41 E aq λar=>lA 3 ar (drew l) λasx=>bB .add 3 asx (i 1) λau=>bA .neq 3 ap au λav=>
 G av (drew l)) (G ff (drew l))) (G ff (drew l)))) (λaw U=>∀_:Env,
 cV aw (K (.tuple #[(.pointer none),(i 1)]) U) (bB .add 3 B (i 1) λay=>K2 ay U))) (bS 41 0 [] l λaz a0=>eK hH (oa 41 E none (some I) none) λa1=>
 aP 41 az a1 a0 λa2 a3=>bS 41 0 [] a3 λa4 a5=>aP 41 a4 M a5 λW a7=>eK hH (mE 122 [(0,a2),(1,W)].toArray) λa8=>qM hH (BF 122 a8) a7 λO ba=>
 bS 41 0 [] ba λbb bc=>aP 41 bb M bc λbd be=>nC O λbf=>fA 122 bf 2 λbg=>sA 41 bg bd be λbh=>bS 41 0 [] bh λbi bj=>eK hH (oa 41 M none (some I) none) λbk=>
 aP 41 bi bk bj λbl bm=>nC O λV=>fA 122 V 3 λZ=>sA 41 Z bl bm λbp=>K (.tuple #[O,(i 0)]) bp)) λK2=>K2 (i 0) k))
def P61:dL:=λi=>match i with
 | 6=>.run 0 37
 | _=>.nil
theorem ait(E u B:Value)(h:S61 w K E u B):CR 61 [E,u,B] w K:=
 oe 97 P61 192 [.tmp 6,.tmp 7] Tryz.func61 h
def P62:dL:=λi=>match i with
 | 1=>(.of [(0,[]),(3,[]),(4,[]),(5,[]),(1,[4]),(2,[]),(6,[]),(7,[])])
 | _=>.nil
def P65:dL:=λi=>match i with
 | 6=>(.of [(0,[]),(1,[]),(2,[]),(3,[1]),(4,[1]),(5,[]),(6,[]),(7,[])])
 | 8=>(.of [(0,[]),(1,[]),(2,[]),(3,[1]),(4,[]),(5,[]),(6,[])])
 | 10=>(.of [(0,[]),(1,[]),(2,[]),(3,[1]),(4,[]),(5,[]),(6,[])])
 | 13=>(.of [(0,[]),(1,[]),(2,[]),(3,[]),(4,[]),(5,[]),(6,[]),(7,[]),(8,[1]),(9,[1]),(10,[]),(11,[]),(12,[])])
 | 15=>(.of [(0,[]),(1,[]),(2,[]),(3,[]),(4,[]),(5,[]),(6,[]),(7,[]),(8,[]),(9,[]),(10,[]),(11,[]),(12,[]),(13,[1]),(14,[1]),(15,[]),(16,[]),(17,[])])
 | 17=>(.of [(0,[]),(1,[]),(2,[]),(3,[]),(4,[]),(5,[]),(6,[]),(7,[]),(8,[]),(9,[]),(10,[]),(11,[]),(12,[1]),(13,[1]),(14,[]),(15,[]),(16,[])])
 | 21=>(.of [(0,[]),(1,[]),(2,[]),(3,[]),(4,[]),(5,[]),(6,[]),(7,[]),(8,[]),(9,[4,8]),(10,[]),(11,[])])
 | _=>.nil
def P69:dL:=λi=>match i with
 | 6=>.run 0 9
 | _=>.nil
def P71:dL:=λi=>match i with
 | 6=>.run 0 9
 | _=>.nil
def P77:dL:=λi=>match i with
 | 3=>.run 0 14
 | _=>.nil
def S78(V:Value):Prop:=
 cF 17 [V] w λa b=>bS 41 0 [] b λc d=>cF 147 [a,c] d λe f=>bS 126 0 [] f λg h=>bS 126 0 [] h λj k=>RM (λM U G I l=>∀_:Env,
 lN 126 e λn=>bA .lss 3 I n λo=>cV o (En (λK2=>iA 126 e I λp=>lA 41 p l λq=>cF 92 [V,q] l λr s=>xT r 0 λt=>xT r 1 λ_=>od (λJ E B u=>∀_:Env,
 lN 126 G λv=>bA .lss 3 B v λx=>cV x (eH (λW=>cV E (W tt u) (iA 126 G B λy=>lA 41 y u λz=>cF 71 [z,t] u λaa ab=>W aa ab)) (λO ac=>∀_:Env,
 bB .add 3 B (i 1) λad=>J O ad ac)) (eK hH (Op.unary .not E) λae=>cV ae (bS 126 1 [(0,t)] u λaf ag=>aP 126 G af ag λZ Y=>iA 126 e I λaj=>
 lA 41 aj Y λak=>bS 126 1 [(0,ak)] Y λal am=>aP 126 U al am λan ao=>K2 an Z ao) (K2 U G u))) λJ=>J ff (i 0) s) (λI6 WM ap=>∀_:Env,
 bB .add 3 I (i 1) λaq=>M I6 WM aq ap)) (K U l)) (λM=>M g j (i 0) k)
theorem aiv(u:Value)(h:S78 w K u):CR 78 [u] w K:=
 oe 61 (λ_=>.nil) 4 [.tmp 2] Tryz.func78 h
theorem avD:PL 11:=dJ Tryz.func11
theorem avE:PL 16:=dJ Tryz.func16
theorem aiw:PL 17:=dJ Tryz.func17
theorem aix:PL 19:=dJ Tryz.func19
theorem Uh:PL 45:=dJ Tryz.func45
theorem I7:PL 46:=dJ Tryz.func46
theorem aiy:PL 47:=dJ Tryz.func47
theorem anJ:PL 49:=dJ Tryz.func49
theorem avF:PL 57:=dJ Tryz.func57
theorem anK:PL 58:=dJ Tryz.func58
theorem Ui:PL 59:=dJ Tryz.func59
theorem avG:PL 61:=dJ Tryz.func61
theorem acD:PL 62:=dJ Tryz.func62
theorem avH:PL 65:=dJ Tryz.func65
theorem anL:PL 69:=dJ Tryz.func69
theorem Uj:PL 71:=dJ Tryz.func71
theorem anM:PL 77:=dJ Tryz.func77
theorem avI:PL 78:=dJ Tryz.func78
variable (w:World) (K:Value->hM)
def S79(J:Value):Prop:=
 qM hH (NK 220 none) w λa b=>cF 148 [J] b λc d=>qM hH (NA 41 c c) d λe f=>RM (λG E oG I g=>∀_:Env,
 cV I (eH (λK2=>cF 150 [J,oG] g λh j=>xT h 0 λk=>xT h 1 λ_=>aL 223 j λB l=>eK hH (oa 223 B none none none) λn=>qM hH (Builtin.copy_ #[41,41] 3 [n,k].toArray) l λ_ o=>
 lA 223 B o λp=>GL hH (wo 220 a p false) o λq=>eK hH (Op.unary .not q) λr=>cV r (lA 223 B o λs=>RB hH (xi 220 a s tt) o λt=>
 cF 83 [oG] t λu v=>bS 126 1 [(0,u)] v λx y=>aP 126 E x y λz Y=>K2 z Y) (K2 E o)) (λW Z=>∀_:Env,
 cF 149 [J,oG] Z λM V=>xT M 0 λO=>xT M 1 λU=>G W O U V)) (K E g)) (λG=>G (.slice none 0 0) e tt f)
theorem aiA(u:Value)(h:S79 w K u):CR 79 [u] w K:=
 oe 42 (λ_=>.nil) 4 [.tmp 2] Tryz.func79 h
def P82:dL:=λi=>match i with
 | 1=>(.op 0 [] (.op 1 [] (.op 2 [] (.op 3 [] (.op 4 [] (.op 5 [] (.op 6 [] (.op 7 [] (.op 8 [] (.op 10 [] (.alt 9 [3,7] (.alt 11 [3,7] (.of [(12,[3,7]),(13,[]),(14,[]),(15,[])]) (.alt 12 [3,7] (.of [(11,[3,7]),(13,[]),(14,[]),(15,[])]) .stop)) (.alt 12 [3,7] (.of [(9,[3,7]),(11,[3,7]),(13,[]),(14,[]),(15,[])]) .stop))))))))))))
 | 5=>(.of [(0,[]),(1,[]),(2,[]),(3,[]),(4,[]),(5,[]),(6,[3]),(7,[])])
 | _=>.nil
def S84(u:Value):Prop:=
 nC u λa=>fA 181 a 0 λb=>lA 3 b (drew w) λc=>cF 153 [u] (drew w) λd e=>kA 3 b c e (eK hH (mE 181 [(0,c),(1,d)].toArray) λf=>qM hH (BF 181 f) e λg h=>
 K g h)
def P84:dL:=λi=>match i with
 | 1=>(.of [(0,[]),(1,[]),(2,[]),(3,[]),(4,[]),(5,[3]),(6,[]),(7,[]),(8,[])])
 | _=>.nil
theorem aiB(u:Value)(h:S84 w K u):CR 84 [u] w K:=
 oe 11 P84 4 [.tmp 2] Tryz.func84 h
def P86:dL:=λi=>match i with
 | 5=>.run 0 9
 | _=>.nil
def S92(M wP:Value):Prop:=
 cF 17 [M] w λa b=>lN 41 wP λc=>lN 41 a λd=>bA .neq 3 c d λe=>cV e (K (.tuple #[(.slice none 0 0),(i 1)]) b) (jR (λU I f=>∀_:Env,
 lN 41 a λg=>bA .lss 3 I g λh=>cV h (eH (λK2=>iA 41 wP I λj=>lA 3 j (drew f) λk=>bB .lss 3 k (i 0) λl=>cV l (K2 tt (drew f)) (iA 41 wP I λn=>lA 3 n (drew f) λo=>
 iA 41 a I λp=>lA 3 p (drew f) λq=>bA .gtr 3 o q λr=>K2 r (drew f))) (λs t=>∀_:Env,
 cV s (K (.tuple #[(.slice none 0 0),(i 1)]) t) (bB .add 3 I (i 1) λu=>U u t))) (En (λW=>nC M λv=>fA 122 v 3 λx=>lA 41 x (drew f) λy=>((bS 41 0 [] (drew f) λz Y=>
 kA 41 x y Y ((aP 41 z wP Y λab ac=>kA 41 x y ac (bS 41 0 [] ac λad ae=>kA 41 x y ae (aP 41 ad y ae λaf ag=>W ab af ag)))
 /\((bS 41 0 [] Y λah ai=>kA 41 x y ai (aP 41 z wP ai λaj ak=>kA 41 x y ak (aP 41 ah y ak λal am=>W aj al am)))
 /\
 True)))
 /\((bS 41 0 [] (drew f) λan B=>kA 41 x y B (bS 41 0 [] B λap aq=>kA 41 x y aq (aP 41 ap wP aq λar asx=>kA 41 x y asx (aP 41 an y asx λau av=>W ar au av))))
 /\
 True))) (λZ WN aw=>∀_:Env,
 jR (λV E J=>∀_:Env,
 nC M λay=>fA 122 ay 4 λaz=>lA 120 az J λa0=>lN 120 a0 λa1=>bA .lss 3 E a1 λa2=>cV a2 (yM (λK5=>nC M λa3=>fA 122 a3 4 λa4=>lA 120 a4 J λa5=>
 iA 120 a5 E λa6=>lA 125 a6 J λa7=>aL 125 J λB a8=>sA 125 B a7 a8 λG=>fA 125 B 0 λba=>lA 3 ba G λbb=>iA 41 Z bb λbc=>lA 3 bc G λbd=>bB .gtr 3 bd (i 0) λbe=>
 cV be (fA 125 B 0 λbf=>lA 3 bf (drew G) λbg=>fA 125 B 0 λbh=>lA 3 bh (drew G) λbi=>iA 41 Z bi λbj=>lA 3 bj (drew G) λbk=>bB .sub 3 bk (i 1) λbl=>
 iA 41 Z bg λbm=>sA 3 bm bl (drew G) λO=>fA 125 B 1 λbo=>lA 3 bo O λbp=>fA 125 B 2 λbq=>lA 3 bq O λbr=>iA 41 WN bp λbs=>sA 3 bs br O λbt=>
 K5 bt) (K5 G)) (λbu=>∀_:Env,
 bB .add 3 E (i 1) λbv=>V bv bu)) (K (.tuple #[WN,(i 0)]) J)) λV=>V (i 0) aw))) λU=>U (i 0) b)
def P92:dL:=λi=>match i with
 | 7=>.run 0 16
 | 9=>(.op 1 [] (.op 4 [] (.op 5 [] (.op 6 [] (.op 7 [] (.alt 0 [7] (.alt 2 [7] (.of [(3,[7]),(8,[]),(9,[]),(10,[])]) (.alt 3 [7] (.of [(2,[7]),(8,[]),(9,[]),(10,[])]) .stop)) (.alt 3 [7] (.of [(0,[7]),(2,[7]),(8,[]),(9,[]),(10,[])]) .stop)))))))
 | 15=>.run 0 11
 | _=>.nil
theorem aiC(u wP:Value)(h:S92 w K u wP):CR 92 [u,wP] w K:=
 oe 89 P92 48 [.tmp 4,.tmp 5] Tryz.func92 h
def P93:dL:=λi=>match i with
 | 5=>.run 0 13
 | _=>.nil
def S94(G:Value):Prop:=
 od (λu E B a=>∀_:Env,
 lN 41 G λb=>bA .lss 3 B b λc=>cV c (bC .mul 3 (i 10000) E λd=>iA 41 G B λe=>lA 3 e a λf=>bA .add 3 d f λg=>bB .add 3 B (i 1) λh=>u g h a) (K E a))
 (λu=>u (i 0) (i 0) w)
theorem aiD(u:Value)(h:S94 w K u):CR 94 [u] w K:=
 oe 19 (λ_=>.nil) 4 [.tmp 2] Tryz.func94 h
def S122(p0:Value):Prop:=
 qM hH (BF 27 p0) w λp1 a=>bS 23 0 [] a λb c=>lA 27 p1 c λd=>cF 59 [d] c λe f=>aP 23 b e f λg h=>fA 27 p1 2 λj=>lA 23 j h λk=>aP 23 g k h λl n=>
 od (λJ E G o=>∀_:Env,
 fA 27 p1 3 λp=>lA 24 p o λq=>lN 24 q λr=>bA .lss 3 G r λs=>cV s (fA 27 p1 3 λt=>lA 24 t (drew o) λu=>iA 24 u G λv=>fA 146 v 0 λx=>lA 9 x (drew o) λy=>
 fA 27 p1 3 λz=>lA 24 z (drew o) λaa=>iA 24 aa G λab=>fA 146 ab 3 λac=>lA 3 ac (drew o) λY=>eK hH (mE 161 [(0,y),(2,Y)].toArray) λV=>
 bS 23 1 [(0,V)] (drew o) λW ag=>aP 23 E W ag λO ai=>bB .add 3 G (i 1) λaj=>J O aj ai) (cF 202 [E] o λak al=>jR (λK2 B M=>∀_:Env,
 lN 23 E λU=>bA .lss 3 B U λao=>cV ao (iA 23 E B λap=>fA 161 ap 0 λaq=>lA 9 aq M λar=>cF 123 [ak,ar] M λasx I=>bA .lss 3 asx B λZ=>cV Z (iA 23 E B λaw=>
 fA 161 aw 2 λax=>lA 3 ax I λay=>K ay I) (bB .add 3 B (i 1) λaz=>K2 az I)) (K (i (-1)) M)) λK2=>K2 (i 0) al)) (λJ=>J l (i 0) n)
def avK:dL:=λi=>match i with
 | 6=>.run 0 17
 | _=>.nil
theorem acE(p0:Value)(h:S122 w K p0):CR 122 [p0] w K:=
 oe 60 avK 4 [.tmp 2] Tryz.func122 h
def avL:dL:=λi=>match i with
 | 3=>(.of [(0,[]),(2,[]),(3,[]),(1,[3]),(4,[]),(5,[])])
 | 16=>(.of [(0,[]),(2,[]),(3,[]),(1,[3]),(4,[]),(5,[])])
 | _=>.nil
def S130(B:Value):Prop:=
 lN 9 B λa=>bB .gtr 3 a (i 4000) λb=>cV b (K (.tuple #[(.slice none 0 0),(i 2),(i 4000)]) w) (bS 198 0 [] w λc d=>cF 205 [B,(i 0)] d λe f=>od (λW yF E g=>∀_:Env,
 lN 9 B λh=>bA .lss 3 E h λj=>cV j (eK hH (mE 209 [(3,E)].toArray) λk=>aL 209 g λI l=>sA 209 I k l λn=>eH (λK2=>eK hH (wk 9 B E) λo=>
 cF 206 [o] n λp q=>cV p (fA 209 I 0 λr=>sA 3 r (i 1) q λs=>jR (λZ G t=>∀_:Env,
 eH (λY=>lN 9 B λu=>bA .lss 3 G u λv=>cV v (eK hH (wk 9 B G) λx=>cF 206 [x] t λy z=>cV y (Y tt z) (eK hH (wk 9 B G) λaa=>
 cF 207 [aa] z λab ac=>Y ab ac)) (Y ff t)) (λad V=>∀_:Env,
 cV ad (bB .add 3 G (i 1) λaf=>Z af V) (bA .sub 3 G E λag=>bB .gtr 3 ag (i 16) λah=>cV ah (K (.tuple #[(.slice none 0 0),(i 2),E]) V) (K2 G V)))) λZ=>Z E s) (
 eK hH (wk 9 B E) λai=>cF 207 [ai] q λaj ak=>cV aj (fA 209 I 0 λal=>sA 3 al (i 2) ak λam=>jR (λU M an=>∀_:Env,
 eH (λK6=>lN 9 B λao=>bA .lss 3 M ao λap=>cV ap (eK hH (wk 9 B M) λaq=>cF 207 [aq] an λar asx=>K6 ar asx) (K6 ff an)) (λau J=>∀_:Env,
 cV au (yM (λK7=>fA 209 I 2 λaw=>lA 3 aw J λax=>bB .leq 3 ax (i 4294967296) λay=>cV ay (fA 209 I 2 λaz=>lA 3 az (drew J) λa0=>bC .mul 3 (i 10) a0 λa1=>
 eK hH (wk 9 B M) λa2=>bB .sub 5 a2 (.int .u8 48) λa3=>eK hH (convert 5 3 a3) λa4=>bA .add 3 a1 a4 λa5=>fA 209 I 2 λa6=>sA 3 a6 a5 (drew J) λa7=>
 K7 a7) (K7 J)) (λa8=>∀_:Env,
 bB .add 3 M (i 1) λa9=>U a9 a8)) (fA 209 I 2 λba=>lA 3 ba J λbb=>bB .gtr 3 bb (i 4294967296) λbc=>cV bc (K (.tuple #[(.slice none 0 0),(i 4),E]) J) (K2 M J))))
 λU=>U E am) (fA 209 I 0 λbd=>sA 3 bd (i 3) ak λbe=>cF 208 [B,E] be λbf bg=>bA .add 3 E bf λbh=>bA .eql 3 bh E λbi=>cV bi (K (.tuple #[(.slice none 0 0),(i 3),E]) bg) (
 K2 bh bg)))) (λO bj=>∀_:Env,
 eK hH (oa 9 B (some E) (some O) none) λbk=>fA 209 I 1 λbl=>sA 9 bl bk bj λbm=>lA 209 I bm λbn=>bS 198 1 [(0,bn)] bm λbo bp=>aP 198 yF bo bp λbq br=>
 cF 205 [B,O] br λbs bt=>W bq bs bt)) (K (.tuple #[yF,(i 0),(i 0)]) g)) λW=>W c e f)
def avM:dL:=λi=>match i with
 | 17=>.run 0 11
 | _=>.nil
theorem acF(u:Value)(h:S130 w K u):CR 130 [u] w K:=
 oe 107 avM 28 [.tmp 2,.tmp 3,.tmp 4] Tryz.func130 h
def avN:dL:=λi=>match i with
 | 1=>.run 0 17
 | _=>.nil
theorem avO:PL 79:=dJ Tryz.func79
theorem avP:PL 81:=dJ Tryz.func81
theorem avQ:PL 82:=dJ Tryz.func82
theorem GS:PL 83:=dJ Tryz.func83
theorem avR:PL 84:=dJ Tryz.func84
theorem avS:PL 86:=dJ Tryz.func86
theorem aiE:PL 92:=dJ Tryz.func92
theorem avT:PL 93:=dJ Tryz.func93
theorem avU:PL 94:=dJ Tryz.func94
theorem agf:PL 106:=dJ Tryz.func106
theorem anN:PL 118:=dJ Tryz.func118
theorem anO:PL 119:=dJ Tryz.func119
theorem agh:PL 120:=dJ Tryz.func120
theorem WO:PL 121:=dJ Tryz.func121
theorem anP:PL 122:=dJ Tryz.func122
theorem rK:PL 123:=dJ Tryz.func123
theorem Lf:PL 124:=dJ Tryz.func124
theorem RO:PL 125:=dJ Tryz.func125
theorem anQ:PL 126:=dJ Tryz.func126
theorem WQ:PL 127:=dJ Tryz.func127
theorem anR:PL 130:=dJ Tryz.func130
theorem yN:PL 131:=dJ Tryz.func131
variable (w:World) (K:Value->hM)
def avV:dL:=λi=>match i with
 | 7=>.run 0 24
 | 8=>.run 0 13
 | _=>.nil
def avW:dL:=λi=>match i with
 | 1=>.run 0 45
 | 3=>.run 0 26
 | _=>.nil
def avX:dL:=λi=>match i with
 | 8=>(.of [(0,[]),(1,[]),(2,[]),(3,[]),(4,[]),(5,[]),(6,[]),(7,[1]),(8,[]),(9,[]),(10,[])])
 | 10=>.run 0 19
 | _=>.nil
def avY:dL:=λi=>match i with
 | 1=>.run 0 18
 | _=>.nil
def avZ:dL:=λi=>match i with
 | 2=>.run 0 10
 | 4=>.run 0 13
 | _=>.nil
def av0:dL:=λi=>match i with
 | 3=>.run 0 14
 | _=>.nil
def S149(G wP:Value):Prop:=
 cF 83 [wP] w λa b=>lN 41 a λc=>bB .sub 3 c (i 1) λd=>jR (λE B e=>∀_:Env,
 bB .geq 3 B (i 0) λf=>cV f (iA 41 a B λg=>lA 3 g (drew e) λh=>nC G λj=>fA 187 j 4 λk=>lA 185 k (drew e) λl=>GL hH (wo 185 l B false) (drew e) λn=>
 lN 224 n λo=>bA .lss 3 h o λp=>cV p (iA 41 a B λq=>lA 3 q (drew e) λr=>bB .add 3 r (i 1) λs=>iA 41 a B λt=>sA 3 t s (drew e) λu=>K (.tuple #[a,tt]) u) (
 iA 41 a B λv=>sA 3 v (i 0) (drew e) λx=>bB .sub 3 B (i 1) λy=>E y x)) (K (.tuple #[(.slice none 0 0),ff]) e)) (λE=>E d b)
def av1:dL:=λi=>match i with
 | 5=>.run 0 12
 | _=>.nil
theorem acG(u wP:Value)(h:S149 w K u wP):CR 149 [u,wP] w K:=
 oe 39 av1 48 [.tmp 4,.tmp 5] Tryz.func149 h
def av2:dL:=λi=>match i with
 | 6=>.run 0 16
 | _=>.nil
def av3:dL:=λi=>match i with
 | 6=>(.of [(0,[]),(1,[]),(2,[]),(3,[]),(4,[]),(5,[]),(6,[]),(7,[]),(8,[]),(9,[]),(10,[]),(11,[]),(12,[]),(13,[]),(14,[3,8,10]),(15,[3]),(16,[])])
 | _=>.nil
def av4:dL:=λi=>match i with
 | 6=>.run 0 10
 | _=>.nil
def av5:dL:=λi=>match i with
 | 5=>(.of [(0,[]),(1,[]),(2,[]),(3,[]),(4,[]),(5,[]),(6,[4]),(7,[]),(8,[]),(9,[]),(10,[])])
 | _=>.nil
def S165(B E:Value):Prop:=
 aL 231 w λa b=>eH (λM=>bB .lss 3 E (i 0) λc=>cV c (M tt b) (nC B λd=>fA 196 d 1 λe=>lA 179 e b λf=>lN 179 f λg=>bA .geq 3 E g λh=>M h b)) (λj k=>∀_:Env,
 cV j (eK hH (mE 231 [].toArray) λl=>sA 231 a l k λn=>lA 231 a n λr=>K (.tuple #[r,(i 1)]) n) (cF 151 [B,E] k λo p=>eK hH (Op.unary .not o) λq=>
 cV q (eK hH (mE 231 [].toArray) λs=>sA 231 a s p λt=>lA 231 a t λLg=>K (.tuple #[Lg,(i 13)]) t) (nC B λu=>fA 196 u 1 λv=>lA 179 v p λx=>
 iA 179 x E λy=>lA 231 y p λz=>aL 231 p λJ ab=>sA 231 J z ab λac=>bS 179 0 [] ac λad G=>nC B λZ=>fA 196 Z 1 λag=>lA 179 ag G λV=>eK hH (oa 179 V none (some E) none) λai=>
 aP 179 ad ai G λaj U=>nC B λal=>fA 196 al 1 λam=>lA 179 am U λW=>bB .add 3 E (i 1) λao=>eK hH (oa 179 W (some ao) none none) λap=>
 aP 179 aj ap U λaq ar=>nC B λasx=>fA 196 asx 1 λau=>sA 179 au aq ar λI=>lA 231 J I λaw=>sA 231 a aw I λO=>lA 231 a O λY=>K (.tuple #[Y,(i 0)]) O)))
theorem acH(u B:Value)(h:S165 w K u B):CR 165 [u,B] w K:=
 oe 54 (λ_=>.nil) 48 [.cell 4 231,.tmp 5] Tryz.func165 h
def av6:dL:=λi=>match i with
 | 5=>(.of [(0,[]),(1,[]),(2,[]),(3,[]),(4,[]),(5,[]),(6,[]),(7,[]),(8,[]),(9,[]),(10,[]),(11,[]),(12,[]),(13,[]),(14,[]),(15,[4]),(16,[]),(17,[]),(18,[]),(19,[])])
 | _=>.nil
def av7:dL:=λi=>match i with
 | 8=>.run 0 22
 | _=>.nil
theorem RP:PL 132:=dJ Tryz.func132
theorem agi:PL 133:=dJ Tryz.func133
theorem agj:PL 134:=dJ Tryz.func134
theorem anS:PL 135:=dJ Tryz.func135
theorem RQ:PL 136:=dJ Tryz.func136
theorem anT:PL 139:=dJ Tryz.func139
theorem WR:PL 144:=dJ Tryz.func144
theorem Lh:PL 145:=dJ Tryz.func145
theorem agk:PL 147:=dJ Tryz.func147
theorem WT:PL 148:=dJ Tryz.func148
theorem anU:PL 149:=dJ Tryz.func149
theorem agl:PL 150:=dJ Tryz.func150
theorem agm:PL 151:=dJ Tryz.func151
theorem anV:PL 152:=dJ Tryz.func152
theorem agn:PL 153:=dJ Tryz.func153
theorem anW:PL 154:=dJ Tryz.func154
theorem ago:PL 155:=dJ Tryz.func155
theorem agp:PL 156:=dJ Tryz.func156
theorem anX:PL 157:=dJ Tryz.func157
theorem RR:PL 162:=dJ Tryz.func162
theorem anY:PL 165:=dJ Tryz.func165
theorem agq:PL 166:=dJ Tryz.func166
theorem anZ:PL 167:=dJ Tryz.func167
theorem WU:PL 198:=dJ Tryz.func198
variable (w:World) (K:Value->hM)
def av8:dL:=λi=>match i with
 | 10=>.run 0 7
 | _=>.nil
def av9:dL:=λi=>match i with
 | 2=>.run 0 17
 | 6=>.run 0 12
 | 8=>.run 0 9
 | 9=>.run 0 12
 | _=>.nil
def awa:dL:=λi=>match i with
 | 5=>.run 0 8
 | 7=>.run 0 9
 | 9=>.run 0 9
 | 10=>.run 0 8
 | _=>.nil
def awb:dL:=λi=>match i with
 | 5=>.run 0 17
 | _=>.nil
def awc:dL:=λi=>match i with
 | 1=>.run 0 11
 | _=>.nil
def awd:dL:=λi=>match i with
 | 1=>.run 0 11
 | 4=>.run 0 10
 | _=>.nil
def S219(B W:Value):Prop:=
 lN 41 W λa=>cF 266 [B,a] w λb c=>eK hH (Op.unary .not b) λd=>cV d (K (.tuple #[(i 0),(i 8)]) c) (aL 318 c λp6 e=>lN 277 B λf=>jR (λE g h=>∀_:Env,
 bA .lss 3 g f λj=>cV j (yM (λK2=>iA 277 B g λk=>lA 320 k h λl=>aL 320 h λn o=>sA 320 n l o λp=>fA 320 n 0 λq=>lA 3 q p λr=>cF 267 [r] p λs t=>
 bB .eql 3 s (i 0) λu=>cV u (fA 320 n 1 λv=>lA 3 v t λx=>eH (λI=>fA 320 n 0 λy=>lA 3 y t λz=>bB .eql 3 z (i 2) λaa=>cV aa (fA 320 n 1 λab=>lA 3 ab t λac=>
 iA 41 W ac λad=>lA 3 ad t λae=>I ae t) (I x t)) (λn9 af=>∀_:Env,
 cF 268 [p6,n9] af λ_ ag=>K2 ag)) (bB .eql 3 s (i 1) λah=>cV ah (fA 320 n 0 λai=>lA 3 ai (drew t) λZ=>fA 318 p6 0 λak=>cF 270 [ak] (drew t) λal am=>kA 3 ai Z am (
 cF 269 [Z,al] am λG ao=>xT G 0 λap=>xT G 1 λ_=>cF 268 [p6,ap] ao λ_ aq=>K2 aq)) (fA 318 p6 0 λar=>cF 270 [ar] t λasx J=>fA 320 n 0 λM=>lA 3 M (drew J) λV=>
 fA 318 p6 0 λax=>cF 270 [ax] (drew J) λay az=>kA 3 M V az (cF 271 [V,ay,asx] az λO Y=>xT O 0 λa2=>xT O 1 λU=>bB .neq 31 U (i 0) λa4=>cV a4 (K (.tuple #[(i 0),U]) Y) (
 cF 268 [p6,a2] Y λ_ a5=>K2 a5))))) (λa6=>∀_:Env,
 bB .add 3 g (i 1) λa7=>E a7 a6)) (fA 318 p6 0 λa8=>cF 270 [a8] h λa9 ba=>K (.tuple #[a9,(i 0)]) ba)) λE=>E (i 0) e)
def awe:dL:=λi=>match i with
 | 9=>(.of [(0,[]),(1,[]),(2,[]),(4,[]),(3,[1]),(5,[]),(6,[]),(7,[]),(8,[]),(9,[]),(10,[])])
 | 19=>(.of [(0,[]),(1,[]),(2,[]),(3,[1]),(4,[]),(5,[]),(6,[]),(7,[]),(8,[]),(9,[])])
 | _=>.nil
theorem acI(B u:Value)(h:S219 w K B u):CR 219 [B,u] w K:=
 oe 74 awe 48 [.tmp 4,.tmp 5] Tryz.func219 h
def S220(B I:Value):Prop:=
 cF 200 [B] w λa b=>eK hH (Op.unary .not a) λc=>cV c (K (.tuple #[(.slice none 0 0),(i 8)]) b) (jR (λG E d=>∀_:Env,
 lN 82 B λe=>bA .lss 3 E e λf=>cV f (eH (λK2=>iA 82 B E λg=>fA 164 g 0 λh=>lA 3 h d λj=>bB .eql 3 j (i 2) λk=>cV k (iA 82 B E λl=>fA 164 l 2 λn=>
 lA 9 n d λo=>cF 123 [I,o] d λp q=>bB .lss 3 p (i 0) λr=>K2 r q) (K2 ff d)) (λs t=>∀_:Env,
 cV s (K (.tuple #[(.slice none 0 0),(i 9)]) t) (bB .add 3 E (i 1) λu=>G u t))) (cF 272 [B,(i 0),I] d λv x=>K (.tuple #[v,(i 0)]) x)) λG=>G (i 0) b)
theorem acJ(B u:Value)(h:S220 w K B u):CR 220 [B,u] w K:=
 oe 35 (λ_=>.nil) 48 [.tmp 4,.tmp 5] Tryz.func220 h
def S224(u E B:Value):Prop:=
 lN 179 u λa=>eK hH (oa 179 u (some E) (some B) (some a)) λ_=>bA .eql 3 E B λb=>cV b (K u w) (lN 179 u λc=>eK hH (oa 179 u none (some E) none) λd=>
 eK hH (oa 179 u (some B) none none) λe=>aP 179 d e (drew w) λf g=>lN 179 f λh=>eK hH (oa 179 f (some h) (some c) none) λj=>
 qM hH (Builtin.clear_ #[179] 0 [j].toArray) g λ_ k=>K f k)
def awf:dL:=λi=>match i with
 | 5=>.run 0 8
 | _=>.nil
theorem acK(u E B:Value)(h:S224 w K u E B):CR 224 [u,E,B] w K:=
 oe 33 awf 64 [.tmp 6] Tryz.func224 h
def S229(E jC:Value):Prop:=
 nC E λa=>fA 196 a 1 λb=>lA 179 b w λc=>lN 179 c λd=>bB .sub 3 d (i 1) λe=>jR (λG B f=>∀_:Env,
 bB .geq 3 B (i 0) λg=>cV g (eH (λK2=>nC E λh=>fA 196 h 1 λj=>lA 179 j f λk=>iA 179 k B λl=>fA 231 l 0 λn=>lA 3 n f λo=>bB .eql 3 o (i 3) λp=>
 cV p (nC E λq=>fA 196 q 1 λr=>lA 179 r f λs=>iA 179 s B λt=>fA 231 t 2 λu=>lA 3 u f λv=>bA .eql 3 v jC λx=>K2 x f) (K2 ff f)) (λy z=>∀_:Env,
 cV y (nC E λO=>fA 196 O 1 λW=>lA 179 W z λV=>iA 179 V B λM=>fA 231 M 3 λI=>lA 3 I z λJ=>K (.tuple #[J,tt]) z) (bB .sub 3 B (i 1) λU=>G U z))) (
 K (.tuple #[(i 0),ff]) f)) (λG=>G e w)
theorem acL(u jC:Value)(h:S229 w K u jC):CR 229 [u,jC] w K:=
 oe 46 (λ_=>.nil) 48 [.tmp 4,.tmp 5] Tryz.func229 h
def awg:dL:=λi=>match i with
 | 3=>.run 0 10
 | 5=>(.of [(0,[]),(1,[]),(2,[]),(3,[]),(4,[]),(5,[]),(6,[4]),(7,[]),(8,[]),(9,[]),(10,[])])
 | _=>.nil
def S252(u G:Value):Prop:=
 bB .add 3 G (i 1) λa=>RM (λB E I J b=>∀_:Env,
 iA 82 u G λc=>fA 164 c 0 λd=>lA 3 d b λe=>cF 273 [e] b λf g=>bA .lss 3 J f λh=>cV h (cF 252 [u,I] g λj k=>eK hH (Builtin.max_ #[3,3] 3 [E,j].toArray) λl=>
 cF 251 [u,I] k λn o=>bB .add 3 J (i 1) λp=>B l n p o) (bB .add 3 E (i 1) λq=>K q g)) (λB=>B (i 0) a (i 0) w)
theorem acM(u B:Value)(h:S252 w K u B):CR 252 [u,B] w K:=
 oe 30 (λ_=>.nil) 16 [.tmp 4] Tryz.func252 h
theorem RS:PL 199:=dJ Tryz.func199
theorem Lj:PL 200:=dJ Tryz.func200
theorem agr:PL 201:=dJ Tryz.func201
theorem WV:PL 202:=dJ Tryz.func202
theorem ags:PL 205:=dJ Tryz.func205
theorem RT:PL 206:=dJ Tryz.func206
theorem RU:PL 207:=dJ Tryz.func207
theorem an0:PL 208:=dJ Tryz.func208
theorem vZ:PL 209:=dJ Tryz.func209
theorem WW:PL 210:=dJ Tryz.func210
theorem uz:PL 211:=dJ Tryz.func211
theorem an1:PL 212:=dJ Tryz.func212
theorem agt:PL 213:=dJ Tryz.func213
theorem Hl:PL 214:=dJ Tryz.func214
theorem agu:PL 215:=dJ Tryz.func215
theorem agv:PL 216:=dJ Tryz.func216
theorem an2:PL 219:=dJ Tryz.func219
theorem an3:PL 220:=dJ Tryz.func220
theorem an4:PL 222:=dJ Tryz.func222
theorem agw:PL 223:=dJ Tryz.func223
theorem an5:PL 224:=dJ Tryz.func224
theorem an6:PL 226:=dJ Tryz.func226
theorem an7:PL 228:=dJ Tryz.func228
theorem an8:PL 229:=dJ Tryz.func229
theorem RV:PL 230:=dJ Tryz.func230
theorem Lk:PL 251:=dJ Tryz.func251
theorem WX:PL 252:=dJ Tryz.func252
variable (w:World) (K:Value->hM)
def S256(p0 Ll BW:Value):Prop:=
 nC p0 λa=>fA 305 a 0 λb=>lA 198 b (drew w) λc=>nC p0 λd=>fA 305 d 1 λe=>lA 3 e (drew w) λf=>cF 214 [c,f] (drew w) λg h=>od (λV B J j=>∀_:Env,
 bB .leq 3 J (i 14) λk=>cV k (eH (λK2=>nC p0 λl=>fA 305 l 0 λn=>lA 198 n (drew j) λo=>nC p0 λp=>fA 305 p 1 λq=>lA 3 q (drew j) λr=>cF 290 [J] (drew j) λs t=>
 kA 198 n o t (kA 3 q r t (cF 209 [o,r,s] t λu v=>cV u (K2 J v) (K2 B v)))) (λU x=>∀_:Env,
 bB .add 3 J (i 1) λy=>V U y x)) (eH (λK3=>bB .eql 3 B (i 13) λz=>cV z (bB .eql 3 BW (i 0) λaa=>K3 aa j) (K3 ff j)) (λab M=>∀_:Env,
 cV ab (cF 291 [p0,(i 5)] M λ_ ad=>K (.tuple #[]) ad) (yM (λK4=>bB .neq 3 B (i 1) λae=>cV ae (nC p0 λaf=>fA 305 af 1 λag=>lA 3 ag M λah=>bB .add 3 ah (i 1) λai=>
 nC p0 λaj=>fA 305 aj 1 λak=>sA 3 ak ai M λal=>K4 al) (K4 M)) (λam=>∀_:Env,
 cF 292 [p0,B,g] am λan ao=>aL 193 ao λG aq=>sA 193 G an aq λO=>nC p0 λasx=>fA 305 asx 4 λau=>lA 141 au O λav=>lN 141 av λaw=>nC p0 λax=>fA 305 ax 4 λay=>
 lA 141 ay (drew O) λaz=>lA 193 G (drew O) λa0=>bS 141 1 [(0,a0)] (drew O) λa1 a2=>kA 141 ay az a2 (aP 141 az a1 a2 λa3 a4=>nC p0 λa5=>fA 305 a5 4 λa6=>
 sA 141 a6 a3 a4 λa7=>eH (λK5=>bB .neq 3 B (i 11) λa8=>cV a8 (bB .neq 3 B (i 12) λa9=>K5 a9 a7) (K5 ff a7)) (λba Z=>∀_:Env,
 cV ba (cF 257 [p0,(Go.Value.string (j0 (#[59])))] Z λ_ bc=>K (.tuple #[]) bc) (eH (λK6=>bB .eql 3 B (i 12) λbd=>cV bd (bB .add 3 BW (i 1) λbe=>
 K6 be Z) (K6 BW Z)) (λI bf=>∀_:Env,
 bB .add 3 Ll (i 1) λbg=>cF 293 [p0,bg,I] bf λbh bi=>fA 193 G 6 λbj=>sA 3 bj bh bi λE=>yM (λK7=>eH (λK8=>bB .eql 3 B (i 11) λbl=>cV bl (
 nC p0 λbm=>fA 305 bm 2 λbn=>lA 31 bn (drew E) λbo=>bB .eql 31 bo (i 0) λbp=>cV bp (nC p0 λbq=>fA 305 bq 0 λbr=>lA 198 br (drew E) λbs=>nC p0 λbt=>
 fA 305 bt 1 λbu=>lA 3 bu (drew E) λbv=>cF 209 [bs,bv,(Go.Value.string (j0 (#[101,108,115,101])))] (drew E) λbw bx=>K8 bw bx) (K8 ff (drew E))) (K8 ff (drew E)))
 (λbz W=>∀_:Env,
 cV bz (nC p0 λb1=>fA 305 b1 1 λb2=>lA 3 b2 W λb3=>bB .add 3 b3 (i 1) λb4=>nC p0 λb5=>fA 305 b5 1 λb6=>sA 3 b6 b4 W λb7=>bB .add 3 Ll (i 1) λb8=>
 cF 293 [p0,b8,I] b7 λb9 ca=>fA 193 G 7 λcb=>sA 3 cb b9 ca λcc=>K7 cc) (K7 W))) (λY=>∀_:Env,
 nC p0 λce=>fA 305 ce 4 λcf=>lA 141 cf (drew Y) λcg=>lA 193 G (drew Y) λch=>iA 141 cg aw λci=>sA 193 ci ch (drew Y) λcj=>K (.tuple #[]) cj)))))))))) (λV=>V (i 1) (i 2) h)
def awh:dL:=λi=>match i with
 | 0=>.run 0 11
 | 4=>(.of [(0,[]),(1,[]),(2,[]),(3,[]),(4,[]),(5,[]),(6,[]),(7,[]),(8,[]),(9,[3,7]),(10,[])])
 | 12=>(.of [(0,[]),(1,[]),(2,[]),(3,[]),(4,[]),(5,[]),(6,[4]),(7,[]),(8,[]),(9,[]),(10,[])])
 | 19=>.run 0 20
 | 22=>.run 0 8
 | _=>.nil
theorem acO(p0 u B:Value)(h:S256 w K p0 u B):CR 256 [p0,u,B] w K:=
 oe 134 awh 0 [] Tryz.func256 h
def awi:dL:=λi=>match i with
 | 0=>.run 0 17
 | _=>.nil
def S258(J i1 V G:Value):Prop:=
 aL 308 w λa b=>bB .eql 3 G (i 5) λc=>cV c (cF 294 [J,i1,V] b λd e=>sA 308 a d e λf=>lA 308 a f λr=>K r f) (bB .add 3 G (i 1) λg=>cF 258 [J,i1,V,g] b λh j=>
 aL 308 j λk l=>sA 308 k h l λn=>RL (λU o=>∀_:Env,
 fA 308 k 2 λp=>lA 31 p o λq=>bB .eql 31 q (i 0) λs=>cV s (od (λK2 O E t=>∀_:Env,
 cF 295 [G] t λu v=>lN 41 u λx=>bA .lss 3 E x λy=>cV y (eH (λK3=>fA 308 k 1 λz=>lA 3 z (drew v) λY=>cF 295 [G] (drew v) λab Z=>kA 3 z Y Z (iA 41 ab E λad=>
 lA 3 ad Z λae=>cF 296 [ae] Z λaf ag=>kA 3 z Y ag (cF 209 [J,Y,af] ag λah ai=>cV ah (cF 295 [G] ai λaj ak=>iA 41 aj E λal=>lA 3 al ak λam=>K3 am ak) (
 K3 O ai)))) (λW an=>∀_:Env,
 bB .add 3 E (i 1) λao=>K2 W ao an)) (bB .eql 3 O (i 0) λap=>cV ap (lA 308 k v λaq=>sA 308 a aq v λar=>lA 308 a ar λLg=>K Lg ar) (fA 308 k 1 λasx=>
 lA 3 asx v λau=>bB .add 3 au (i 1) λav=>bB .add 3 G (i 1) λaw=>cF 258 [J,av,V,aw] v λax ay=>aL 308 ay λB az=>sA 308 B ax az λI=>fA 308 B 2 λa1=>
 lA 31 a1 I λa2=>bB .neq 31 a2 (i 0) λa3=>cV a3 (lA 308 B I λa4=>sA 308 a a4 I λa5=>lA 308 a a5 λUk=>K Uk a5) (fA 308 k 1 λa6=>lA 3 a6 I λa7=>iA 198 J a7 λa8=>
 fA 209 a8 3 λa9=>lA 3 a9 I λba=>eK hH (mE 164 [(0,O),(3,ba)].toArray) λbb=>bS 82 1 [(0,bb)] I λbc bd=>fA 308 k 0 λbe=>lA 82 be bd λbf=>
 aP 82 bc bf bd λbg bh=>fA 308 B 0 λbi=>lA 82 bi bh λbj=>aP 82 bg bj bh λbk bl=>fA 308 B 1 λbm=>lA 3 bm bl λbn=>eK hH (mE 308 [(0,bk),(1,bn)].toArray) λbo=>
 sA 308 k bo bl λbp=>bB .eql 3 G (i 2) λbq=>cV bq (lA 308 k bp λbr=>sA 308 a br bp λbs=>lA 308 a bs λM=>K M bs) (U bp))))) λK2=>K2 (i 0) (i 0) o) (
 lA 308 k o λbt=>sA 308 a bt o λbu=>lA 308 a bu λr_4=>K r_4 bu)) λU=>U n)
def awj:dL:=λi=>match i with
 | 9=>(.of [(0,[]),(1,[]),(2,[]),(3,[]),(5,[]),(4,[2]),(6,[]),(7,[]),(8,[2]),(9,[])])
 | _=>.nil
theorem acP(E G u B:Value)(h:S258 w K E G u B):CR 258 [E,G,u,B] w K:=
 oe 91 awj 256 [.cell 8 308] Tryz.func258 h
def awk:dL:=λi=>match i with
 | 1=>.run 0 11
 | _=>.nil
def awl:dL:=λi=>match i with
 | 1=>.run 0 15
 | _=>.nil
def awm:dL:=λi=>match i with
 | 1=>.run 0 13
 | 2=>.run 0 15
 | _=>.nil
def S271(u E b2:Value):Prop:=
 eH (λB=>bB .lss 3 u (i 0) λa=>cV a (B tt w) (bB .geq 3 u (i 16) λb=>B b w)) (λc d=>∀_:Env,
 cV c (K (.tuple #[(i 0),(i 1)]) d) (cF 304 [] d λe f=>eK hH (wk 348 e u) λg=>bB .eql 288 g .nilFunc λh=>cV h (K (.tuple #[(i 0),(i 1)]) f) (eH (λK2=>
 bB .eql 3 u (i 8) λj=>cV j (bB .eql 3 b2 (i 0) λk=>K2 k f) (bB .eql 3 u (i 9) λl=>cV l (bB .eql 3 b2 (i 0) λn=>K2 n f) (K2 ff f))) (λo p=>∀_:Env,
 cV o (K (.tuple #[(i 0),(i 12)]) p) (kG hH g [E,b2] p λq r=>K (.tuple #[q,(i 0)]) r)))))
theorem acQ(u B b2:Value)(h:S271 w K u B b2):CR 271 [u,B,b2] w K:=
 oe 36 (λ_=>.nil) 192 [.tmp 6,.tmp 7] Tryz.func271 h
def S275(E B b2:Value):Prop:=
 bB .eql 3 E (i 5) λa=>cV a (bA .add 3 B b2 λb=>K (.tuple #[b,(i 0)]) w) (bB .eql 3 E (i 6) λc=>cV c (bA .sub 3 B b2 λd=>K (.tuple #[d,(i 0)]) w) (bB .eql 3 E (i 7) λe=>
 cV e (bA .mul 3 B b2 λf=>K (.tuple #[f,(i 0)]) w) (bB .eql 3 E (i 8) λg=>cV g (bB .eql 3 b2 (i 0) λh=>cV h (K (.tuple #[(i 0),(i 12)]) w) (cF 306 [B,b2] w λj k=>
 K (.tuple #[j,(i 0)]) k)) (bB .eql 3 E (i 9) λl=>cV l (bB .eql 3 b2 (i 0) λn=>cV n (K (.tuple #[(i 0),(i 12)]) w) (cF 306 [B,b2] w λo p=>bA .mul 3 b2 o λq=>bA .sub 3 B q λr=>
 K (.tuple #[r,(i 0)]) p)) (bB .eql 3 E (i 10) λs=>cV s (bA .eql 3 B b2 λt=>cF 305 [t] w λu v=>K (.tuple #[u,(i 0)]) v) (bB .eql 3 E (i 11) λx=>cV x (bA .neq 3 B b2 λy=>
 cF 305 [y] w λz Z=>K (.tuple #[z,(i 0)]) Z) (bB .eql 3 E (i 12) λab=>cV ab (bA .lss 3 B b2 λac=>cF 305 [ac] w λV M=>K (.tuple #[V,(i 0)]) M) (bB .eql 3 E (i 13) λO=>
 cV O (bA .leq 3 B b2 λag=>cF 305 [ag] w λI ai=>K (.tuple #[I,(i 0)]) ai) (bB .eql 3 E (i 14) λaj=>cV aj (En (λG=>bB .neq 3 B (i 0) λak=>cV ak (bB .neq 3 b2 (i 0) λal=>
 cF 305 [al] w λam J=>G am (i 0) J) (cF 305 [ff] w λao ap=>G ao (i 0) ap)) (λaq ar asx=>∀_:Env,
 K (.tuple #[aq,ar]) asx)) (bB .eql 3 E (i 15) λW=>cV W (En (λK2=>bB .neq 3 B (i 0) λY=>cV Y (cF 305 [tt] w λaw ax=>K2 aw (i 0) ax) (bB .neq 3 b2 (i 0) λay=>
 cF 305 [ay] w λaz a0=>K2 az (i 0) a0)) (λa2 a3 U=>∀_:Env,
 K (.tuple #[a2,a3]) U)) (K (.tuple #[(i 0),(i 1)]) w)))))))))))
theorem acR(u B b2:Value)(h:S275 w K u B b2):CR 275 [u,B,b2] w K:=
 oe 84 (λ_=>.nil) 192 [.tmp 6,.tmp 7] Tryz.func275 h
def S289(J G:Value):Prop:=
 od (λV Y O a=>∀_:Env,
 lN 141 J λb=>bA .lss 3 O b λc=>cV c (iA 141 J O λd=>lA 193 d a λe=>aL 193 a λf g=>sA 193 f e g λh=>eH (λK2=>fA 193 f 6 λj=>lA 3 j h λk=>
 bB .lss 3 k (i 0) λl=>cV l (K2 tt h) (fA 193 f 7 λn=>lA 3 n h λo=>bB .lss 3 o (i 0) λp=>cV p (K2 tt h) (fA 193 f 6 λq=>lA 3 q h λr=>bB .gtr 3 r (i 40) λs=>
 cV s (K2 tt h) (fA 193 f 7 λt=>lA 3 t h λu=>bB .gtr 3 u (i 40) λv=>cV v (K2 tt h) (bB .add 3 O (i 1) λx=>fA 193 f 6 λy=>lA 3 y h λz=>bA .add 3 x z λaa=>
 fA 193 f 7 λab=>lA 3 ab h λac=>bA .add 3 aa ac λad=>lN 141 J λae=>bA .gtr 3 ad ae λaf=>K2 af h))))) (λag B=>∀_:Env,
 cV ag (K (i (-1)) B) (eH (λE=>fA 193 f 6 λai=>lA 3 ai B λaj=>bB .gtr 3 aj (i 0) λak=>cV ak (fA 193 f 0 λal=>lA 3 al B λam=>bB .neq 3 am (i 11) λan=>
 cV an (fA 193 f 0 λao=>lA 3 ao B λap=>bB .neq 3 ap (i 12) λaq=>cV aq (E tt B) (fA 193 f 7 λar=>lA 3 ar B λasx=>bB .gtr 3 asx (i 0) λau=>cV au (fA 193 f 0 λav=>
 lA 3 av B λaw=>bB .neq 3 aw (i 11) λax=>cV ax (E tt B) (fA 193 f 0 λay=>lA 3 ay B λaz=>bB .eql 3 az (i 13) λa0=>cV a0 (bB .eql 3 G (i 0) λa1=>E a1 B) (
 E ff B))) (fA 193 f 0 λa2=>lA 3 a2 B λa3=>bB .eql 3 a3 (i 13) λa4=>cV a4 (bB .eql 3 G (i 0) λa5=>E a5 B) (E ff B)))) (fA 193 f 7 λa6=>lA 3 a6 B λa7=>
 bB .gtr 3 a7 (i 0) λa8=>cV a8 (fA 193 f 0 λa9=>lA 3 a9 B λba=>bB .neq 3 ba (i 11) λbb=>cV bb (E tt B) (fA 193 f 0 λbc=>lA 3 bc B λbd=>bB .eql 3 bd (i 13) λbe=>
 cV be (bB .eql 3 G (i 0) λbf=>E bf B) (E ff B))) (fA 193 f 0 λbg=>lA 3 bg B λbh=>bB .eql 3 bh (i 13) λbi=>cV bi (bB .eql 3 G (i 0) λbj=>E bj B) (
 E ff B)))) (fA 193 f 7 λbk=>lA 3 bk B λbl=>bB .gtr 3 bl (i 0) λbm=>cV bm (fA 193 f 0 λbn=>lA 3 bn B λbo=>bB .neq 3 bo (i 11) λbp=>cV bp (E tt B) (fA 193 f 0 λbq=>
 lA 3 bq B λbr=>bB .eql 3 br (i 13) λbs=>cV bs (bB .eql 3 G (i 0) λbt=>E bt B) (E ff B))) (fA 193 f 0 λbu=>lA 3 bu B λbv=>bB .eql 3 bv (i 13) λbw=>
 cV bw (bB .eql 3 G (i 0) λbx=>E bx B) (E ff B)))) (λbz I=>∀_:Env,
 cV bz (K (i (-1)) I) (bB .add 3 O (i 1) λb1=>fA 193 f 6 λb2=>lA 3 b2 (drew I) λb3=>bA .add 3 b1 b3 λb4=>eH (λK4=>fA 193 f 0 λb5=>lA 3 b5 (drew I) λb6=>
 bB .eql 3 b6 (i 12) λb7=>cV b7 (bB .add 3 G (i 1) λb8=>K4 b8 (drew I)) (K4 G (drew I))) (λM U=>∀_:Env,
 eH (λK5=>eH (λK6=>fA 193 f 0 λca=>lA 3 ca U λcb=>bB .eql 3 cb (i 11) λcc=>cV cc (K6 tt U) (fA 193 f 0 λcd=>lA 3 cd U λce=>bB .eql 3 ce (i 12) λcf=>
 K6 cf U)) (λcg Z=>∀_:Env,
 cV cg (bB .add 3 O (i 1) λci=>eK hH (oa 141 J (some ci) (some b4) none) λcj=>fA 193 f 7 λck=>lA 3 ck (drew Z) λcl=>bA .add 3 b4 cl λcm=>eK hH (oa 141 J (some b4) (some cm) none) λcn=>
 cF 289 [cj,M] (drew Z) λco cp=>kA 3 ck cl cp (cF 289 [cn,M] cp λcq cr=>eH (λK7=>bB .lss 3 co (i 0) λcs=>cV cs (K7 tt cr) (bB .lss 3 cq (i 0) λct=>K7 ct cr))
 (λcu cv=>∀_:Env,
 cV cu (K (i (-1)) cv) (bC .add 3 (i 1) co λcw=>bC .add 3 (i 1) cq λcx=>eK hH (Builtin.max_ #[3,3,3] 3 [Y,cw,cx].toArray) λcy=>K5 cy cv)))) (K5 Y Z))) (λW cz=>∀_:Env,
 fA 193 f 7 λc0=>lA 3 c0 cz λc1=>bA .add 3 b4 c1 λc2=>V W c2 cz))))))) (K Y a)) (λV=>V (i 0) (i 0) w)
def awn:dL:=λi=>match i with
 | 8=>.run 0 8
 | 12=>(.of [(0,[]),(1,[]),(2,[]),(3,[]),(4,[]),(5,[]),(7,[]),(8,[]),(9,[]),(10,[]),(11,[]),(12,[]),(13,[]),(14,[]),(6,[11]),(15,[]),(16,[]),(17,[])])
 | _=>.nil
theorem acS(B u:Value)(h:S289 w K B u):CR 289 [B,u] w K:=
 oe 135 awn 16 [.tmp 4] Tryz.func289 h
theorem agx:PL 253:=dJ Tryz.func253
theorem agy:PL 254:=dJ Tryz.func254
theorem aoc:PL 255:=dJ Tryz.func255
theorem agz:PL 256:=dJ Tryz.func256
theorem yO:PL 257:=dJ Tryz.func257
theorem RX:PL 258:=dJ Tryz.func258
theorem aod:PL 259:=dJ Tryz.func259
theorem aoe:PL 260:=dJ Tryz.func260
theorem aof:PL 261:=dJ Tryz.func261
theorem aog:PL 266:=dJ Tryz.func266
theorem WZ:PL 267:=dJ Tryz.func267
theorem RY:PL 268:=dJ Tryz.func268
theorem aoh:PL 269:=dJ Tryz.func269
theorem RZ:PL 270:=dJ Tryz.func270
theorem aoi:PL 271:=dJ Tryz.func271
theorem agA:PL 272:=dJ Tryz.func272
theorem Lm:PL 273:=dJ Tryz.func273
theorem aoj:PL 274:=dJ Tryz.func274
theorem aok:PL 275:=dJ Tryz.func275
theorem aol:PL 276:=dJ Tryz.func276
theorem aom:PL 277:=dJ Tryz.func277
theorem aon:PL 288:=dJ Tryz.func288
theorem W0:PL 289:=dJ Tryz.func289
variable (w:World) (K:Value->hM)
def awo:dL:=λi=>match i with
 | 2=>.run 0 10
 | 4=>.run 0 13
 | _=>.nil
def awp:dL:=λi=>match i with
 | 2=>.run 0 13
 | 5=>.run 0 17
 | _=>.nil
def S294(B E V:Value):Prop:=
 aL 308 w λa b=>lN 198 B λc=>bA .geq 3 E c λd=>cV d (cF 320 [B,E,(i 6)] b λe f=>sA 308 a e f λg=>lA 308 a g λr=>K r g) (eH (λK1=>cF 209 [B,E,(Go.Value.string (j0 (#[33])))] b λh j=>
 cV h (K1 tt j) (cF 209 [B,E,(Go.Value.string (j0 (#[45])))] j λk l=>K1 k l)) (λO n=>∀_:Env,
 cF 209 [B,E,(Go.Value.string (j0 (#[40])))] n λo p=>eH (λK2=>cV O (bB .eql 3 V (i 12) λq=>K2 q p) (cV o (bB .eql 3 V (i 12) λs=>K2 s p) (K2 ff p)))
 (λt u=>∀_:Env,
 cV t (cF 320 [B,E,(i 7)] u λv x=>sA 308 a v x λy=>lA 308 a y λLg=>K Lg y) (cV O (bB .add 3 E (i 1) λz=>bB .add 3 V (i 1) λaa=>cF 294 [B,z,aa] u λab ac=>
 aL 308 ac λI ae=>sA 308 I ab ae λJ=>fA 308 I 2 λag=>lA 31 ag J λah=>bB .neq 31 ah (i 0) λai=>cV ai (lA 308 I J λaj=>sA 308 a aj J λak=>lA 308 a ak λUk=>
 K Uk ak) (eH (λK3=>iA 198 B E λal=>fA 209 al 1 λam=>lA 9 am J λan=>eK hH (jQ .eql 9 false true an (Go.Value.string (j0 (#[45])))) λao=>
 cV ao (K3 (i 3) J) (K3 (i 4) J)) (λWY ap=>∀_:Env,
 iA 198 B E λaq=>fA 209 aq 3 λar=>lA 3 ar ap λasx=>eK hH (mE 164 [(0,WY),(3,asx)].toArray) λau=>bS 82 1 [(0,au)] ap λav aw=>fA 308 I 0 λax=>
 lA 82 ax aw λay=>aP 82 av ay aw λaz a0=>fA 308 I 0 λa1=>sA 82 a1 az a0 λa2=>lA 308 I a2 λa3=>sA 308 a a3 a2 λa4=>lA 308 a a4 λY=>K Y a4))) (cV o (
 bB .add 3 E (i 1) λa5=>bB .add 3 V (i 1) λa6=>cF 258 [B,a5,a6,(i 0)] u λa7 a8=>aL 308 a8 λG ba=>sA 308 G a7 ba λM=>fA 308 G 2 λbc=>lA 31 bc M λbd=>
 bB .neq 31 bd (i 0) λbe=>cV be (lA 308 G M λbf=>sA 308 a bf M λbg=>lA 308 a bg λr_4=>K r_4 bg) (fA 308 G 1 λbh=>lA 3 bh M λbi=>cF 209 [B,bi,(Go.Value.string (j0 (#[41])))] M λbj W=>
 eK hH (Op.unary .not bj) λbl=>cV bl (fA 308 G 1 λbm=>lA 3 bm W λbn=>cF 320 [B,bn,(i 5)] W λbo bp=>sA 308 a bo bp λbq=>lA 308 a bq λr_5=>K r_5 bq) (
 fA 308 G 1 λbr=>lA 3 br W λbs=>bB .add 3 bs (i 1) λbt=>fA 308 G 1 λbu=>sA 3 bu bt W λbv=>lA 308 G bv λbw=>sA 308 a bw bv λbx=>lA 308 a bx λr_6=>
 K r_6 bx))) (iA 198 B E λbz=>fA 209 bz 0 λb0=>lA 3 b0 u λb1=>bB .eql 3 b1 (i 2) λb2=>cV b2 (iA 198 B E λb3=>fA 209 b3 2 λb4=>lA 3 b4 (drew u) λb5=>
 iA 198 B E λb6=>fA 209 b6 3 λb7=>lA 3 b7 (drew u) λb8=>eK hH (mE 164 [(0,(i 1)),(1,b5),(3,b8)].toArray) λb9=>bB .add 3 E (i 1) λca=>bS 82 1 [(0,b9)] (drew u) λcb cc=>
 eK hH (mE 308 [(0,cb),(1,ca)].toArray) λcd=>sA 308 a cd cc λce=>lA 308 a ce λr_7=>K r_7 ce) (eH (λK4=>iA 198 B E λcf=>fA 209 cf 0 λcg=>
 lA 3 cg u λch=>bB .eql 3 ch (i 1) λci=>cV ci (iA 198 B E λcj=>fA 209 cj 1 λck=>lA 9 ck u λcl=>cF 211 [cl] u λcm cn=>K4 cm cn) (K4 ff u)) (λco U=>∀_:Env,
 cV co (iA 198 B E λcq=>fA 209 cq 1 λcr=>lA 9 cr (drew U) λcs=>iA 198 B E λct=>fA 209 ct 3 λcu=>lA 3 cu (drew U) λcv=>eK hH (mE 164 [(0,(i 2)),(2,cs),(3,cv)].toArray) λcw=>
 bB .add 3 E (i 1) λcx=>bS 82 1 [(0,cw)] (drew U) λcy cz=>eK hH (mE 308 [(0,cy),(1,cx)].toArray) λc0=>sA 308 a c0 cz λc1=>lA 308 a c1 λZ=>
 K Z c1) (cF 320 [B,E,(i 5)] U λc2 c3=>sA 308 a c2 c3 λc4=>lA 308 a c4 λr_9=>K r_9 c4)))))))))
def awv:dL:=λi=>match i with
 | 27=>(.of [(0,[]),(1,[]),(2,[]),(3,[]),(4,[]),(5,[]),(6,[]),(7,[]),(8,[]),(9,[]),(10,[]),(12,[]),(13,[]),(11,[]),(14,[]),(15,[])])
 | 29=>(.of [(0,[]),(1,[]),(2,[]),(3,[]),(4,[]),(5,[]),(6,[]),(7,[]),(8,[]),(9,[]),(10,[]),(12,[]),(13,[]),(11,[]),(14,[]),(15,[])])
 | _=>.nil
theorem acT(B E u:Value)(h:S294 w K B E u):CR 294 [B,E,u] w K:=
 oe 152 awv 64 [.cell 6 308] Tryz.func294 h
def S304:Prop:=
 aL 348 w λa b=>aL 348 b λB c=>iA 348 B (i 5) λd=>sA 288 d (.func (.func 324) #[] #[]) c λe=>iA 348 B (i 6) λf=>sA 288 f (.func (.func 325) #[] #[]) e λg=>
 iA 348 B (i 7) λh=>sA 288 h (.func (.func 326) #[] #[]) g λj=>iA 348 B (i 8) λk=>sA 288 k (.func (.func 327) #[] #[]) j λl=>iA 348 B (i 9) λn=>sA 288 n (.func (.func 328) #[] #[]) l λo=>
 kG hH (.func (.func 322) #[] #[]) [(.func (.func 329) #[] #[])] o λp q=>iA 348 B (i 10) λs=>sA 288 s p q λt=>kG hH (.func (.func 322) #[] #[]) [(.func (.func 330) #[] #[])] t λu v=>
 iA 348 B (i 11) λx=>sA 288 x u v λy=>kG hH (.func (.func 322) #[] #[]) [(.func (.func 331) #[] #[])] y λz V=>iA 348 B (i 12) λab=>sA 288 ab z V λac=>
 kG hH (.func (.func 322) #[] #[]) [(.func (.func 332) #[] #[])] ac λU M=>iA 348 B (i 13) λO=>sA 288 O U M λW=>kG hH (.func (.func 322) #[] #[]) [(.func (.func 333) #[] #[])] W λI ai=>
 iA 348 B (i 14) λZ=>sA 288 Z I ai λY=>kG hH (.func (.func 322) #[] #[]) [(.func (.func 334) #[] #[])] Y λal am=>iA 348 B (i 15) λJ=>sA 288 J al am λE=>
 lA 348 B E λap=>sA 348 a ap E λG=>lA 348 a G λr=>K r G
theorem acU(h:S304 w K):CR 304 [] w K:=
 oe 27 (λ_=>.nil) 1 [.cell 0 348] Tryz.func304 h
def S307(E a:Value):Prop:=
 lA 179 a w λb=>lN 179 b λc=>bB .sub 3 c (i 1) λd=>jR (λB u e=>∀_:Env,
 bB .geq 3 u (i 0) λf=>cV f (lA 179 a e λg=>iA 179 g u λh=>lA 231 h e λj=>kG hH E [u,j] e λk l=>eK hH (Op.unary .not k) λn=>cV n (
 K (.tuple #[]) l) (bB .sub 3 u (i 1) λo=>B o l)) (K (.tuple #[]) e)) (λB=>B d w)
theorem acV(u B:Value)(h:S307 w K u B):CR 307 [u,B] w K:=
 oe 19 (λ_=>.nil) 0 [] Tryz.func307 h
def S315(u:Value):Prop:=
 eH (λB=>bB .lss 3 u (i 1) λa=>cV a (B tt w) (bB .gtr 3 u (i 14) λb=>B b w)) (λc d=>∀_:Env,
 cV c (K (Go.Value.string (j0 (#[]))) d) (bS 91 15 [(0,(Go.Value.string (j0 (#[])))),(1,(Go.Value.string (j0 (#[114,101])))),(2,(Go.Value.string (j0 (#[114,110])))),(3,(Go.Value.string (j0 (#[110,101])))),(4,(Go.Value.string (j0 (#[114,110,101,102])))),(5,(Go.Value.string (j0 (#[110])))),(6,(Go.Value.string (j0 (#[110])))),(7,(Go.Value.string (j0 (#[])))),(8,(Go.Value.string (j0 (#[])))),(9,(Go.Value.string (j0 (#[110])))),(10,(Go.Value.string (j0 (#[110])))),(11,(Go.Value.string (j0 (#[101,98])))),(12,(Go.Value.string (j0 (#[107,98])))),(13,(Go.Value.string (j0 (#[])))),(14,(Go.Value.string (j0 (#[101]))))] d λe f=>
 iA 91 e u λg=>lA 9 g f λh=>K h f))
theorem acW(u:Value)(h:S315 w K u):CR 315 [u] w K:=
 oe 13 (λ_=>.nil) 4 [.tmp 2] Tryz.func315 h
def aww:dL:=λi=>match i with
 | 1=>.run 0 45
 | 3=>.run 0 13
 | _=>.nil
def awx:dL:=λi=>match i with
 | 3=>.run 0 18
 | _=>.nil
def awy:dL:=λi=>match i with
 | 1=>.run 0 31
 | 2=>.run 0 12
 | _=>.nil
def S320(G E I:Value):Prop:=
 aL 308 w λa b=>eH (λB=>lN 198 G λc=>bA .geq 3 E c λd=>cV d (B (i 6) b) (B I b)) (λu e=>∀_:Env,
 cF 214 [G,E] e λf g=>eK hH (mE 308 [(2,u),(3,f)].toArray) λh=>sA 308 a h g λj=>lA 308 a j λr=>K r j)
theorem acX(B E u:Value)(h:S320 w K B E u):CR 320 [B,E,u] w K:=
 oe 16 (λ_=>.nil) 64 [.cell 6 308] Tryz.func320 h
theorem aoo:PL 290:=dJ Tryz.func290
theorem Hn:PL 291:=dJ Tryz.func291
theorem aop:PL 292:=dJ Tryz.func292
theorem agB:PL 293:=dJ Tryz.func293
theorem agC:PL 294:=dJ Tryz.func294
theorem W3:PL 295:=dJ Tryz.func295
theorem aoq:PL 296:=dJ Tryz.func296
theorem aor:PL 297:=dJ Tryz.func297
theorem aos:PL 298:=dJ Tryz.func298
theorem aot:PL 299:=dJ Tryz.func299
theorem aou:PL 300:=dJ Tryz.func300
theorem aov:PL 301:=dJ Tryz.func301
theorem W4:PL 302:=dJ Tryz.func302
theorem Ln:PL 303:=dJ Tryz.func303
theorem aow:PL 304:=dJ Tryz.func304
theorem As:PL 305:=dJ Tryz.func305
theorem agD:PL 306:=dJ Tryz.func306
theorem aox:PL 307:=dJ Tryz.func307
theorem aoy:PL 315:=dJ Tryz.func315
theorem Lo:PL 316:=dJ Tryz.func316
theorem Ev:PL 317:=dJ Tryz.func317
theorem Lp:PL 318:=dJ Tryz.func318
theorem aoz:PL 319:=dJ Tryz.func319
theorem R0:PL 320:=dJ Tryz.func320
theorem aoA:PL 321:=dJ Tryz.func321
theorem Ho:PL 322:=dJ Tryz.func322
theorem Hp:PL 323:=dJ Tryz.func323
theorem aoB:PL 324:=dJ Tryz.func324
theorem aoC:PL 325:=dJ Tryz.func325
theorem aoD:PL 326:=dJ Tryz.func326
theorem aoE:PL 327:=dJ Tryz.func327
theorem aoF:PL 328:=dJ Tryz.func328
theorem aoG:PL 329:=dJ Tryz.func329
theorem aoH:PL 330:=dJ Tryz.func330
theorem aoI:PL 331:=dJ Tryz.func331
theorem aoJ:PL 332:=dJ Tryz.func332
theorem aoK:PL 333:=dJ Tryz.func333
theorem aoL:PL 334:=dJ Tryz.func334
end Go.Proofs.YtpdlpabnlkofmaaGreatDoor
namespace Go.Fw
def pk(w:World)(b:Nat)(cs:List Value):Prop:=∃u,w.heap[b]?=some (.cells cs.toArray u (0,0))
def Cell(w:World)(b o:Nat)(v:Value):Prop:=w.cell? ⟨b,o,none⟩=some v
structure gD(A:Nat->Prop)(w w':World):Prop where
 os:w'.os=w.os
 tape:w'.tape=w.tape
 output:w'.output=w.output
 size:w.heap.size<=w'.heap.size
 bX:∀b,b<w.heap.size->¬ A b->w'.heap[b]?=w.heap[b]?
def aX:Nat->Prop:=λ_=>False
abbrev Ext(w w':World):Prop:=gD aX w w'
def gD.refl(A:Nat->Prop)(w:World):gD A w w:=⟨rfl,rfl,rfl,sl _,λ_ _ _=>rfl⟩
def gD.trans{A B C:Nat->Prop}{w I E:World}(h:gD A w I)(k:gD B I E)(M:∀b,A b->C b)(J:∀b,b<w.heap.size->B b->C b):gD C w E:=
 ⟨k.os.trans h.os,k.tape.trans h.tape,k.output.trans h.output,vJ h.size k.size,λb hb G=>
  (k.bX b (Nat.lt_of_lt_of_le hb h.size) λu=>G (J b hb u)).trans (h.bX b hb λu=>G (M b u))⟩
def gD.then{A:Nat->Prop}{w B u:World}(h:gD A w B)(k:Ext B u):gD A w u:=h.trans k (λ_ h=>h) λ_ _ h=>h.elim
def gD.mono{A B:Nat->Prop}{w w':World}(h:gD A w w')(E:∀b,A b->B b):gD B w w':=⟨h.os,h.tape,h.output,h.size,λb hb u=>h.bX b hb λx=>u (E b x)⟩
def Ext.refl(w:World):Ext w w:=gD.refl _ _
def Ext.trans{w B u:World}(h:Ext w B)(k:Ext B u):Ext w u:=gD.then h k
def Ext.aF{A:Nat->Prop}{w w':World}(h:Ext w w'):gD A w w':=h.mono λ_ h=>h.elim
theorem Ext.drew(w:World):Ext w (drew w):=⟨rfl,rfl,rfl,sl _,λ_ _ _=>rfl⟩
def gD.below{w w':World}(h:Ext w w'):Go.RowKit.Below w.heap.size w w':=⟨h.os,h.tape,h.output,h.size,λb hb=>h.bX b hb λx=>x⟩
def rL{w:World}{b:Nat}{o:Obj}(h:w.heap[b]?=some o):b<w.heap.size:=(F1.1 h).1
def pk.lt{w:World}{b:Nat}{cs:List Value}(h:pk w b cs):b<w.heap.size:=rL h.choose_spec
def Cell.lt{w:World}{b o:Nat}{v:Value}(h:Cell w b o v):b<w.heap.size:=by
 unfold Cell UR at h
 grind
def Cell.of_eq{w w':World}{b o:Nat}{v:Value}(h:Cell w b o v)(u:w'.heap[b]?=w.heap[b]?):Cell w' b o v:=by
 unfold Cell UR at *
 grind
def pk.of_eq{w w':World}{b:Nat}{cs:List Value}(h:pk w b cs)(u:w'.heap[b]?=w.heap[b]?):pk w' b cs:=by
 grind[pk]
def Cell.aF{A:Nat->Prop}{w w':World}{b o:Nat}{v:Value}(h:Cell w b o v)(hc:gD A w w')(u:¬ A b):Cell w' b o v:=h.of_eq (hc.bX b h.lt u)
theorem Cell.ext{w w':World}{b o:Nat}{v:Value}(h:Cell w b o v)(hc:Ext w w'):Cell w' b o v:=h.aF hc (λx=>x)
def pk.cell{w:World}{b o:Nat}{cs:List Value}{v:Value}(h:pk w b cs)(u:cs[o]?=some v):Cell w b o v:=by
 obtain⟨B,h⟩:=h
 unfold Cell UR
 grind
def pk.frozen{w:World}{b o:Nat}{cs:List Value}(h:pk w b cs):w.frozen? ⟨b,o,none⟩=false:=by
 obtain⟨u,h⟩:=h
 unfold World.frozen?
 grind
def I9(w:World)(b o:Nat)(v:Value)(k:Nat)(h:k≠b):(w.setCell ⟨b,o,none⟩ v).heap[k]?=w.heap[k]?:=by
 simp only[abX,P9]
 grind
def pk.setCell{w:World}{b o:Nat}{cs:List Value}(h:pk w b cs)(v:Value):pk (w.setCell ⟨b,o,none⟩ v) b (cs.set o v):=by
 obtain⟨u,h⟩:=h
 refine⟨u,?_⟩
 simp only[abX,P9,if_true,h]
 simp
def gD.setCell(w:World)(b o:Nat)(v:Value):gD (· = b) w (w.setCell ⟨b,o,none⟩ v):=
 ⟨rfl,rfl,rfl,by simp_all,λk _ u=>I9 w b o v k u⟩
def push(w:World)(o:Obj):World:={w with heap:=w.heap.push o}
def BX(w:World)(o:Obj)(k:Nat)(h:k<w.heap.size):(push w o).heap[k]?=w.heap[k]?:=by
 grind[push]
def mf(w:World)(o:Obj):(push w o).heap[w.heap.size]?=some o:=by
 grind[push]
theorem BY(w:World)(o:Obj):(push w o).heap.size=w.heap.size+1:=by simp[push]
theorem Ext.push(w:World)(o:Obj):Ext w (push w o):=⟨rfl,rfl,rfl,by rw[BY];omega,λb hb _=>BX w o b hb⟩
theorem pk.push(w:World)(cs:List Value)(u:TypeId):pk (push w (.cells cs.toArray u)) w.heap.size cs:=⟨u,mf _ _⟩
structure HP where
 p:World->(Nat->Prop)->Prop
 loc:∀w w' F,p w F->(∀b,F b->w'.heap[b]?=w.heap[b]?)->p w' F
 lt:∀w F b,p w F->F b->b<w.heap.size
def bX(b:Nat)(cs:List Value):HP where
 p w F:=pk w b cs/\∀k,F k↔k=b
 loc w w' F h hh:=⟨h.1.of_eq (hh b ((h.2 b).2 rfl)),h.2⟩
 lt w F b' h hb:=by rw[(h.2 b').1 hb];exact h.1.lt
def rM(w0:World)(A:Nat->Prop):List HP->World->(Nat->Prop)->Prop
 | [],_,U=>∀b,¬ U b
 | H::L,w,U=>∃F u,H.p w F/\(∀b,F b->A b\/w0.heap.size<=b)/\(∀b,F b->¬ u b)/\(∀b,U b↔F b\/u b)/\rM w0 A L w u
structure St(w0:World)(A:Nat->Prop)(L:List HP)(w:World):Prop where
 aF:gD A w0 w
 tY:∃U,rM w0 A L w U
theorem rM.lt{w0:World}{A:Nat->Prop}{L:List HP}{w:World}{U:Nat->Prop}(h:rM w0 A L w U):∀b,U b->b<w.heap.size:=by
 induction L generalizing U with
 | nil=>intro b hb;exact(h b hb).elim
 | cons H L u=>
  obtain⟨F,B,h1,h2,h3,h4,h5⟩:=h
  intro b hb
  rcases(h4 b).1 hb with hf|hu
  .exact H.lt _ _ _ h1 hf
  .exact u h5 b hu
theorem rM.loc{w0:World}{A:Nat->Prop}{L:List HP}{w w':World}{U:Nat->Prop}(h:rM w0 A L w U)(u:∀b,U b->w'.heap[b]?=w.heap[b]?):rM w0 A L w' U:=by
 induction L generalizing U with
 | nil=>exact h
 | cons H L E=>
  obtain⟨F,B,h1,h2,h3,h4,h5⟩:=h
  exact⟨F,B,H.loc _ _ _ h1 λb hb=>u b ((h4 b).2 (.inl hb)),h2,h3,h4,E h5 λb hb=>u b ((h4 b).2 (.inr hb))⟩
def St.start(w:World):St w aX [] w:=⟨gD.refl _ _,aX,λ_ h=>h⟩
def St.begin{w:World}{F:Nat->Prop}{H:HP}(h:H.p w F):St w F [H] w:=
 ⟨gD.refl _ _,F,F,aX,h,λ_ h=>.inl h,λ_ _ h=>h,λ_=>⟨.inl,λh=>h.elim id λh=>h.elim⟩,λ_ h=>h⟩
theorem St.ext{w0:World}{A:Nat->Prop}{L:List HP}{w w':World}(h:St w0 A L w)(e:Ext w w'):St w0 A L w':=by
 obtain⟨U,u⟩:=h.tY
 exact⟨h.aF.then e,U,u.loc λb hb=>e.bX b (u.lt b hb) λx=>x⟩
theorem St.drew{w0:World}{A:Nat->Prop}{L:List HP}{w:World}(h:St w0 A L w):St w0 A L (drew w):=h.ext (Ext.drew w)
def St.new{w0:World}{A:Nat->Prop}{L:List HP}{w w':World}{H:HP}{F:Nat->Prop}(h:St w0 A L w)(e:Ext w w')(G:H.p w' F)(I:∀b,F b->w.heap.size<=b):St w0 A (H::L) w':=by
 obtain⟨U,M⟩:=(h.ext e).tY
 obtain⟨E,u⟩:=h.tY
 have B:rM w0 A L w' E:=u.loc λb hb=>e.bX b (u.lt b hb) (λx=>x)
 refine⟨(h.ext e).aF,λb=>F b\/E b,F,E,G,λb hb=>.inr ?_,λb hb J=>?_,λb=>Iff.rfl,B⟩
 .exact vJ h.aF.size (I b hb)
 have:=u.lt b J;grind
def St.qm{w0:World}{A:Nat->Prop}{L:List HP}{w w':World}{H H':HP}(h:St w0 A (H::L) w)
  (J:∀F,H.p w F->∃B,H'.p w' B/\(∀b,B b->F b\/w.heap.size<=b)/\gD F w w'):St w0 A (H'::L) w':=by
 obtain⟨U,F,I,h1,h2,h3,h4,h5⟩:=h.tY
 obtain⟨B,M,G,E⟩:=J F h1
 refine⟨h.aF.trans E (λ_ h=>h) λb hb u=>?_,λb=>B b\/I b,B,I,M,λb hb=>?_,λb hb O=>?_,λb=>Iff.rfl,?_⟩
 .grind
 .rcases G b hb with u|u
  .grind
  exact .inr (vJ h.aF.size u)
 .rcases G b hb with u|u
  .grind
  have:=h5.lt b O;omega
 exact h5.loc λb hb=>E.bX b (h5.lt b hb) λu=>h3 b u hb
def St.drop{w0:World}{A:Nat->Prop}{L:List HP}{w:World}{H:HP}(h:St w0 A (H::L) w):St w0 A L w:=by
 obtain⟨U,F,u,h1,h2,h3,h4,h5⟩:=h.tY
 exact⟨h.aF,u,h5⟩
def St.swap{w0:World}{A:Nat->Prop}{L:List HP}{w:World}{H H':HP}(h:St w0 A (H::H'::L) w):St w0 A (H'::H::L) w:=by
 obtain⟨U,F,O,h1,h2,h3,h4,B,u,I,E,J,M,G⟩:=h.tY
 refine⟨h.aF,U,B,λb=>F b\/u b,I,E,λb hb=>?_,λb=>?_,F,u,h1,h2,λb hb V=>?_,λb=>Iff.rfl,G⟩
 .grind
 .grind
 grind
def rM.swap{w0:World}{A:Nat->Prop}{L:List HP}{w:World}{H H':HP}{U:Nat->Prop}(h:rM w0 A (H::H'::L) w U):rM w0 A (H'::H::L) w U:=by
 obtain⟨F,O,h1,h2,h3,h4,B,u,I,E,J,M,G⟩:=h
 refine⟨B,λb=>F b\/u b,I,E,λb hb=>?_,λb=>?_,F,u,h1,h2,λb hb V=>?_,λb=>Iff.rfl,G⟩
 .grind
 .grind
 grind
def rM.under{w0:World}{A:Nat->Prop}{L L':List HP}{w:World}{H:HP}{U:Nat->Prop}(u:∀U,rM w0 A L w U->rM w0 A L' w U)(h:rM w0 A (H::L) w U):rM w0 A (H::L') w U:=by
 grind[rM]
theorem rM.pull{w0:World}{A:Nat->Prop}{u B:List HP}{w:World}{H:HP}{U:Nat->Prop}(h:rM w0 A (u++H::B) w U):rM w0 A (H::(u++B)) w U:=by
 induction u generalizing U with
 | nil=>exact h
 | cons X u E=>exact rM.swap (rM.under (λU h=>E h) h)
def St.pull{w0:World}{A:Nat->Prop}{w:World}(u:List HP){H:HP}{B:List HP}(h:St w0 A (u++H::B) w):St w0 A (H::(u++B)) w:=by
 obtain⟨U,E⟩:=h.tY
 exact⟨h.aF,U,E.pull⟩
def St.p1{w0:World}{A:Nat->Prop}{w:World}{u H:HP}{R:List HP}(h:St w0 A (u::H::R) w):St w0 A (H::u::R) w:=St.pull [u] h
def St.p2{w0:World}{A:Nat->Prop}{w:World}{B u H:HP}{R:List HP}(h:St w0 A (B::u::H::R) w):St w0 A (H::B::u::R) w:=St.pull [B,u] h
def St.p3{w0:World}{A:Nat->Prop}{w:World}{B u E H:HP}{R:List HP}(h:St w0 A (B::u::E::H::R) w):St w0 A (H::B::u::E::R) w:=St.pull [B,u,E] h
def St.p4{w0:World}{A:Nat->Prop}{w:World}{B u E P3 H:HP}{R:List HP}(h:St w0 A (B::u::E::P3::H::R) w):St w0 A (H::B::u::E::P3::R) w:=St.pull [B,u,E,P3] h
def St.p5{w0:World}{A:Nat->Prop}{w:World}{E B G P3 u H:HP}{R:List HP}(h:St w0 A (E::B::G::P3::u::H::R) w):St w0 A (H::E::B::G::P3::u::R) w:=St.pull [E,B,G,P3,u] h
def St.p6{w0:World}{A:Nat->Prop}{w:World}{G B I P3 u E H:HP}{R:List HP}(h:St w0 A (G::B::I::P3::u::E::H::R) w):St w0 A (H::G::B::I::P3::u::E::R) w:=St.pull [G,B,I,P3,u,E] h
def St.p7{w0:World}{A:Nat->Prop}{w:World}{I E J P3 u G B H:HP}{R:List HP}(h:St w0 A (I::E::J::P3::u::G::B::H::R) w):St w0 A (H::I::E::J::P3::u::G::B::R) w:=St.pull [I,E,J,P3,u,G,B] h
def St.p8{w0:World}{A:Nat->Prop}{w:World}{I E J P3 u G B M H:HP}{R:List HP}(h:St w0 A (I::E::J::P3::u::G::B::M::H::R) w):St w0 A (H::I::E::J::P3::u::G::B::M::R) w:=St.pull [I,E,J,P3,u,G,B,M] h
def St.p9{w0:World}{A:Nat->Prop}{w:World}{J G M P3 u I E O B H:HP}{R:List HP}(h:St w0 A (J::G::M::P3::u::I::E::O::B::H::R) w):St w0 A (H::J::G::M::P3::u::I::E::O::B::R) w:=St.pull [J,G,M,P3,u,I,E,O,B] h
def St.p10{w0:World}{A:Nat->Prop}{w:World}{M G O P3 u J E U B I H:HP}{R:List HP}(h:St w0 A (M::G::O::P3::u::J::E::U::B::I::H::R) w):St w0 A (H::M::G::O::P3::u::J::E::U::B::I::R) w:=St.pull [M,G,O,P3,u,J,E,U,B,I] h
def St.p11{w0:World}{A:Nat->Prop}{w:World}{O I U P3 B M G V E J u H:HP}{R:List HP}(h:St w0 A (O::I::U::P3::B::M::G::V::E::J::u::H::R) w):St w0 A (H::O::I::U::P3::B::M::G::V::E::J::u::R) w:=St.pull [O,I,U,P3,B,M,G,V,E,J,u] h
def St.p12{w0:World}{A:Nat->Prop}{w:World}{O I V P3 B M G U E J u P11 H:HP}{R:List HP}(h:St w0 A (O::I::V::P3::B::M::G::U::E::J::u::P11::H::R) w):St w0 A (H::O::I::V::P3::B::M::G::U::E::J::u::P11::R) w:=St.pull [O,I,V,P3,B,M,G,U,E,J,u,P11] h
def St.p0{w0:World}{A:Nat->Prop}{w:World}{L:List HP}(h:St w0 A L w):St w0 A L w:=h
def St.head{w0:World}{A:Nat->Prop}{L:List HP}{w:World}{H:HP}(h:St w0 A (H::L) w):∃F,H.p w F/\∀b,F b->A b\/w0.heap.size<=b:=by
 obtain⟨U,F,u,h1,h2,_⟩:=h.tY;grind
theorem St.hb{w0:World}{A:Nat->Prop}{L:List HP}{w:World}{b:Nat}{cs:List Value}(h:St w0 A (bX b cs::L) w):pk w b cs:=by
 obtain⟨F,h1,_⟩:=h.head;exact h1.1
def rN:Value->Bool
 | .agg _=>false
 | .tuple _=>false
 | _=>true
def cY(P:Program)(T:TypeId):Option (Bool×Nat):=
 match P.underlying T with
 | some d=>(P.info? T).map λi=>(match d with|.struct _|.array _ _=>true|_=>false,i.size)
 | none=>none
def aS(P:Program)(T f:Nat):Option (Nat×Option Bool):=
 match P.underlying T with
 | some (.struct B)=>(B[f]?).map λu=>(u.offset,(P.info? u.type).map λi=>i.size != 0)
 | _=>none
def eM(P:Program)(T:TypeId):Option (TypeId×Nat×Nat×Option Nat):=
 match P.underlying T with
 | some (.slice E)=>(P.info? E).map λi=>(E,i.size,i.bytes,i.zero.map λz=>z.cells.size)
 | _=>none
def eg(P:Program)(T:TypeId):Option (Option Value):=(P.info? T).map λi=>i.zero
abbrev W5(P:Program)(T:TypeId):Prop:=cY P T=some (false,1)
abbrev acY(P:Program)(T:TypeId)(n:Nat):Prop:=cY P T=some (true,n)
abbrev wQ(P:Program)(T f u:Nat):Prop:=aS P T f=some (u,some true)
abbrev W6(P:Program)(T E n bytes:Nat):Prop:=eM P T=some (E,n,bytes,some n)
abbrev m4(P:Program)(T:TypeId)(z:Value):Prop:=eg P T=some (some z)
theorem kZ{P:Program}{T:TypeId}{i:TypeInfo}(h:P.info? T=some i):pr P (typeInfo T)=some i:=by
 show pr P (match P.info? T with|some i => pure i|none => stuck "no such type")=_
 rw[h];rfl
theorem cJ{P:Program}{T:TypeId}{d:TypeDesc}(h:P.underlying T=some d):pr P (underlying T)=some d:=by
 show pr P (match P.underlying T with|some d => pure d|none => stuck "no such type")=_
 rw[h];rfl
theorem mQ{P:Program}{T:TypeId}{i:TypeInfo}(h:P.info? T=some i):pr P (sizeOf T)=some i.size:=by
 unfold sizeOf;rw[cI,kZ h];rfl
theorem vr{P:Program}{α β:Type}(m:Sem α)(f:α->β):pr P (do pure (f (<- m)))=(pr P m).map f:=by
 rw[cI];cases pr P m<;>rfl
theorem jY{P:Program}{T:TypeId}{a:Bool}{n:Nat}(h:cY P T=some (a,n)):pr P (isAgg T)=some a/\pr P (sizeOf T)=some n:=by
 unfold cY at h
 cases hd:P.underlying T with
 | none=>grind
 | some d=>
  rw[hd]at h
  cases hi:P.info? T with
  | none=>grind
  | some i=>
   rw[hi]at h
   simp only[FK,ob.injEq,abV.injEq]at h
   obtain⟨h1,h2⟩:=h
   refine⟨?_,by rw[mQ hi,h2]⟩
   unfold isAgg
   rw[cI,cJ hd]
   show pr P (match d with|.struct _|.array _ _=>pure true|_=>pure false)=_
   rw[<- h1]
   cases d<;>rfl
theorem ft{P:Program}{T E n u:Nat}{z:Option Nat}(h:eM P T=some (E,n,u,z)) :
  P.underlying T=some (.slice E)/\∃i,P.info? E=some i/\i.size=n/\i.bytes=u/\i.zero.map (λz=>z.cells.size)=z:=by
 unfold eM at h
 split at h
 .rename_i E' hE
  cases hi:P.info? E' with
  | none=>grind
  | some i=>
   grind
 cases h
section
variable {P:Program}{w:World}
theorem pop{m:Sem Value}{v:Value}{K:Value->Prop}(h:pr P m=some v)(k:K v):eK P m K:=⟨v,h,k⟩
theorem aD{a:Addr}{K:Value->Prop}(k:K (.pointer (some a))):eK P (T7 (.pointer (some a))) K:=⟨_,rfl,k⟩
theorem bN{b:Bool}{K:Value->Prop}(k:K (.bool (!b))):eK P (Op.unary .not (.bool b)) K:=⟨_,rfl,k⟩
theorem Ew{p:Prop}[Decidable p]{K:Value->Prop}(k:K (.bool (decide (¬ p)))):eK P (Op.unary .not (.bool (decide p))) K:=by
 refine bN ?_
 grind
theorem aO{vs:List Value}{i:Nat}{v:Value}{K:Value->Prop}(h:vs[i]?=some v)(k:K v):eK P (U0 (.tuple vs.toArray) i) K:=
 ⟨v,by simp only[U0,P7,h];rfl,k⟩
theorem aN{T:Nat}{cx cy:Bool}{a b:Int}{K:Value->Prop}(k:K (.bool (decide (a<b)))):eK P (jQ .lss T cx cy (ir a) (ir b)) K:=⟨_,rfl,k⟩
theorem gu{T:Nat}{cx cy:Bool}{a b:Int}{K:Value->Prop}(k:K (.bool (decide (a<=b)))):eK P (jQ .leq T cx cy (ir a) (ir b)) K:=⟨_,rfl,k⟩
theorem cL{T:Nat}{cx cy:Bool}{a b:Int}{K:Value->Prop}(k:K (.bool (decide (b<a)))):eK P (jQ .gtr T cx cy (ir a) (ir b)) K:=⟨_,rfl,k⟩
theorem cO{T:Nat}{cx cy:Bool}{a b:Int}{K:Value->Prop}(k:K (.bool (decide (b<=a)))):eK P (jQ .geq T cx cy (ir a) (ir b)) K:=⟨_,rfl,k⟩
theorem aG{T:Nat}{cx cy:Bool}{a b:Int}{K:Value->Prop}(k:K (.bool (decide (a=b)))):eK P (jQ .eql T cx cy (ir a) (ir b)) K:=⟨_,rfl,k⟩
theorem bW{T:Nat}{cx cy:Bool}{a b:Int}{K:Value->Prop}(k:K (.bool (decide (a≠b)))):eK P (jQ .neq T cx cy (ir a) (ir b)) K:=
 ⟨_,(show pr P (jQ .neq T cx cy (ir a) (ir b))=some (.bool (decide (a≠b)))from by
  show some (x6 (a != b))=_
  grind),k⟩
theorem aJ{T:Nat}{cx cy:Bool}{a b:Int}{K:Value->Prop}(h : -9223372036854775808<=a+b/\a+b<=9223372036854775807)(k:K (ir (a+b))) :
  eK P (jQ .add T cx cy (ir a) (ir b)) K:=
 ⟨_,(show pr P (jQ .add T cx cy (ir a) (ir b))=some (ir (a+b))from by
  show some (n3 .i64 (IntKind.i64.wrap (a+b)))=_
  rw[IntWalk.i64_in _ h]),k⟩
theorem fc{T:Nat}{cx cy:Bool}{a b:Int}{K:Value->Prop}(h : -9223372036854775808<=a-b/\a-b<=9223372036854775807)(k:K (ir (a-b))) :
  eK P (jQ .sub T cx cy (ir a) (ir b)) K:=
 ⟨_,(show pr P (jQ .sub T cx cy (ir a) (ir b))=some (ir (a-b))from by
  show some (n3 .i64 (IntKind.i64.wrap (a-b)))=_
  rw[IntWalk.i64_in _ h]),k⟩
theorem DG{T:Nat}{cx cy:Bool}{a b:Int}{K:Value->Prop}(h : -9223372036854775808<=a*b/\a*b<=9223372036854775807)(k:K (ir (a*b))) :
  eK P (jQ .mul T cx cy (ir a) (ir b)) K:=
 ⟨_,(show pr P (jQ .mul T cx cy (ir a) (ir b))=some (ir (a*b))from by
  show some (n3 .i64 (IntKind.i64.wrap (a*b)))=_
  rw[IntWalk.i64_in _ h]),k⟩
theorem aC{p:Prop}[Decidable p]{A B:Prop}(h1:p->A)(h2:¬ p->B):yL (.bool (decide p)) A B:=
 ⟨_,rfl,λh=>h1 (gM h),λh=>h2 (g6 h)⟩
theorem gO{A B:Prop}(h:A):yL (.bool true) A B:=⟨_,rfl,λ_=>h,λh=>by cases h⟩
theorem eR{A B:Prop}(h:B):yL (.bool false) A B:=⟨_,rfl,λh=>(by cases h),λ_=>h⟩
theorem aW{b:Bool}{A B:Prop}(h1:b=true->A)(h2:b=false->B):yL (.bool b) A B:=⟨_,rfl,h1,h2⟩
theorem gx{α:Type}(l:List α){i:Nat}(h:i<l.length):∃x,l[i]?=some x:=⟨_,List.getElem?_eq_getElem h⟩
theorem dQ{a b:Nat}(h:UN a b=true):a<=b:=Fq h
theorem dR{f:FuncId}{args:List Value}{Φ K:Value->hM}(pl:Plain P f)(h:Calls P f args.toArray w (tu Φ))(k:∀v w',Φ v w'->K v w') :
  CM P f args w K:=⟨.inl ⟨pl,h.mono λ_ _ r=>r.mono k⟩⟩
theorem gS{g:FuncId}{args first cap:List Value}{Φ K:Value->hM}(pl:Plain P g)(h:Calls P g (first++args++cap).toArray w (tu Φ))(k:∀v w',Φ v w'->K v w') :
  kG P (.func (.func g) first.toArray cap.toArray) args w K:=⟨.inl ⟨g,_,_,rfl,pl,by simpa using h.mono λ_ _ r=>r.mono k⟩⟩
theorem aoN{f:FuncId}{args:List Value}{Φ Ψ:Value->hM}(h:Calls P f args.toArray w (tu Φ))(k:∀v w',Φ v w'->Ψ v w'):Calls P f args.toArray w (tu Ψ):=
 h.mono λ_ _ r=>r.mono k
variable {w0:World}{A:Nat->Prop}{L:List HP}
theorem run_load(a:Addr)(v:Value)(h:w.cell? a=some v):(load a).run P w=.ok v w:=by
 simp_all
theorem gi(b o j:Nat):(Addr.mk b o none).add j=⟨b,o+j,none⟩:=by
 unfold Addr.add;grind
theorem run_loadCellsFrom(b o:Nat):∀(n i:Nat) (u:Array Value) (cs:List Value),cs.length=n->(∀j c,cs[j]?=some c->Cell w b (o+i+j) c)->
  (loadCellsFrom ⟨b,o,none⟩ i n u).run P w=.ok (u++cs.toArray) w:=by
 intro n
 induction n with
 | zero=>intro i u cs B _;obtain rfl:=List.length_eq_zero_iff.1 B;simp[loadCellsFrom]
 | succ n E=>
  intro i u cs B h
  match cs,B with
  | c::cs,B=>
   unfold loadCellsFrom
   rw[eG (run_load _ c (by rw[gi];exact h 0 c rfl))]
   rw[E (i+1) (u.push c) cs cD λj d hd=>by have:=h (j+1) d cD;grind]
   simp
theorem run_loadCells{b o:Nat}{cs:List Value}(h:∀j c,cs[j]?=some c->Cell w b (o+j) c):(loadCells ⟨b,o,none⟩ cs.length).run P w=.ok cs.toArray w:=by
 unfold loadCells
 rw[run_loadCellsFrom b o cs.length 0 #[] cs rfl λj c hc=>cD]
 simp
theorem aH{T:TypeId}{b o:Nat}{v:Value}(ht:W5 P T)(h:Cell w b o v):(z9 T (.pointer (some ⟨b,o,none⟩))).run P w=.ok v w:=by
 show(loadVar T ⟨b,o,none⟩).run P w=_
 unfold loadVar
 rw[eG (fa (jY ht).1 w)]
 exact run_load _ v h
theorem CQ{T:TypeId}{b o:Nat}{cs:List Value}(ht:acY P T cs.length)(h:∀j c,cs[j]?=some c->Cell w b (o+j) c) :
  (z9 T (.pointer (some ⟨b,o,none⟩))).run P w=.ok (.agg cs.toArray) w:=by
 show(loadVar T ⟨b,o,none⟩).run P w=_
 unfold loadVar
 rw[eG (fa (jY ht).1 w)]
 simp only[if_true]
 rw[eG (fa (jY ht).2 w),eG (run_loadCells h)]
 rfl
theorem aB{T:TypeId}{b o:Nat}{cs:List Value}{v:Value}{K:Value->Prop}(ht:W5 P T)(hb:pk w b cs)(hc:cs[o]?=some v)(k:K v) :
  GL P (z9 T (.pointer (some ⟨b,o,none⟩))) w K:=⟨v,aH ht (hb.cell hc),k⟩
theorem uA{T:TypeId}{b n:Nat}{cs:List Value}{K:Value->Prop}(ht:acY P T n)(hb:pk w b cs)(u:cs.length=n)(k:K (.agg cs.toArray)) :
  GL P (z9 T (.pointer (some ⟨b,0,none⟩))) w K:=by
 subst u
 exact⟨_,CQ ht λj c hc=>by rw[xp];exact hb.cell hc,k⟩
theorem OV{T f u b o:Nat}(ht:wQ P T f u):pr P (H4 T (.pointer (some ⟨b,o,none⟩)) f)=some (.pointer (some ⟨b,o+u,none⟩)):=by
 unfold wQ aS at ht
 split at ht
 .rename_i fs hfs
  cases hf:fs[f]? with
  | none=>grind
  | some fd=>
   rw[hf]at ht
   simp only[FK,ob.injEq,abV.injEq]at ht
   obtain⟨E,G⟩:=ht
   cases hi:P.info? fd.type with
   | none=>grind
   | some i=>
    rw[hi]at G
    have B:i.size≠0:=cD
    unfold H4
    rw[cI,cJ hfs]
    simp only[mv,hf]
    show pr P (do pure (abY (some (<- fieldPlace ⟨b,o,none⟩ fd))))=_
    rw[vr]
    unfold fieldPlace
    rw[cI,mQ hi]
    simp only[mv,ei B,gi,E]
    rfl
 cases ht
theorem aA{T f u b o:Nat}{K:Value->Prop}(ht:wQ P T f u)(k:K (.pointer (some ⟨b,o+u,none⟩))) :
  eK P (H4 T (.pointer (some ⟨b,o,none⟩)) f) K:=⟨_,OV ht,k⟩
theorem pfb{T f u b o T2:Nat}{cs:List Value}{v:Value}{K:Value->Prop}(ht:wQ P T f u)(h2:W5 P T2)(hb:pk w b cs)(hc:cs[o+u]?=some v)(k:K v) :
  eK P (H4 T (.pointer (some ⟨b,o,none⟩)) f) λp=>GL P (z9 T2 p) w K:=aA ht (aB h2 hb hc k)
theorem Ja(T:TypeId)(v:Value):(BF T v).run P w=.ok (.pointer (some ⟨w.heap.size,0,none⟩)) (push w (.cells v.cells T)):=rfl
theorem St.push{T:TypeId}{cs:List Value}(u:St w0 A L w):St w0 A (bX w.heap.size cs::L) (push w (.cells cs.toArray T)):=
 u.new (Ext.push _ _) (F:=λk=>k=w.heap.size) ⟨pk.push w cs T,λ_=>Iff.rfl⟩ λb hb=>by rw[hb];exact sl _
theorem nx{T:TypeId}{v:Value}{K:Value->hM}(B:St w0 A L w)(u:rN v=true)
  (k:∀b w',St w0 A (bX b [v]::L) w'->K (.pointer (some ⟨b,0,none⟩)) w'):qM P (BF T v) w K:=by
 refine⟨_,_,Ja T v,k _ _ ?_⟩
 have:v.cells=[v].toArray:=by cases v<;>first|rfl|cases u
 rw[this]
 exact B.push
theorem jZ{T:TypeId}{cs:List Value}{K:Value->hM}(u:St w0 A L w)
  (k:∀b w',St w0 A (bX b cs::L) w'->K (.pointer (some ⟨b,0,none⟩)) w'):qM P (BF T (.agg cs.toArray)) w K:=
 ⟨_,_,Ja T _,k _ _ u.push⟩
theorem gV{T:TypeId}{z:Value}{K:Value->hM}(E:St w0 A L w)(u:m4 P T z)(B:rN z=true)
  (k:∀b w',St w0 A (bX b [z]::L) w'->K (.pointer (some ⟨b,0,none⟩)) w'):qM P (Qj T true (.tuple #[])) w K:=by
 unfold m4 eg at u
 cases hi:P.info? T with
 | none=>rw[hi]at u;cases u
 | some i=>
  rw[hi]at u
  simp only[FK,ob.injEq]at u
  have h1:pr P (zeroValue T)=some z:=by unfold zeroValue;rw[cI,kZ hi];simp only[mv,u];rfl
  refine⟨_,push w (.cells [z].toArray T),?_,k _ _ (E.push (T:=T))⟩
  unfold Qj
  rw[eG (fa h1 w)]
  have:z.cells=[z].toArray:=by cases z<;>first|rfl|cases B
  show(do pure (abY (some (<- newVar T z))):Sem Value).run P w=_
  unfold newVar
  rw[this]
  rfl
theorem aQ{T:TypeId}{cs:List Value}{K:Value->hM}(B:St w0 A L w)(u:m4 P T (.agg cs.toArray))
  (k:∀b w',St w0 A (bX b cs::L) w'->K (.pointer (some ⟨b,0,none⟩)) w'):qM P (Qj T true (.tuple #[])) w K:=by
 unfold m4 eg at u
 cases hi:P.info? T with
 | none=>rw[hi]at u;cases u
 | some i=>
  rw[hi]at u
  simp only[FK,ob.injEq]at u
  have h1:pr P (zeroValue T)=some (.agg cs.toArray):=by unfold zeroValue;rw[cI,kZ hi];simp only[mv,u];rfl
  refine⟨_,push w (.cells cs.toArray T),?_,k _ _ (B.push (T:=T))⟩
  unfold Qj
  rw[eG (fa h1 w)]
  rfl
theorem run_store{b o:Nat}{cs:List Value}{v:Value}(hb:pk w b cs)(u:o<cs.length)(B:rN v=true) :
  (store ⟨b,o,none⟩ v).run P w=.ok () (w.setCell ⟨b,o,none⟩ v):=by
 have h1:w.cell? ⟨b,o,none⟩=some cs[o]:=hb.cell (by simp[u])
 have h2:=hb.frozen (o:=o)
 unfold store
 cases v<;>first|cases B|skip
 all_goals
  simp only[Sem.run,h1,h2]
  rfl
theorem Lq{b o:Nat}{cs:List Value}{v:Value}(B:St w0 A (bX b cs::L) w):St w0 A (bX b (cs.set o v)::L) (w.setCell ⟨b,o,none⟩ v):=
 B.qm λF u=>⟨F,⟨u.1.setCell v,u.2⟩,λ_ h=>.inl h,(gD.setCell w b o v).mono λk E=>(u.2 k).2 E⟩
theorem aR{T:TypeId}{b o:Nat}{cs:List Value}{v:Value}{K:hM}(B:St w0 A (bX b cs::L) w)(ht:W5 P T)(E:o<cs.length)(u:rN v=true)
  (k:∀w',St w0 A (bX b (cs.set o v)::L) w'->K w'):RB P (LS T (.pointer (some ⟨b,o,none⟩)) v) w K:=by
 refine⟨_,?_,k _ (Lq B)⟩
 show(storeVar T ⟨b,o,none⟩ v).run P w=_
 have hc:v.cells = #[v]:=by cases v<;>first|rfl|cases u
 unfold storeVar
 rw[eG (fa (jY ht).2 w),hc]
 simp only[Oa,o5,Ld,xp,ne_eq,not_true_eq_false,if_false]
 show(storeCells ⟨b,o,none⟩ [v]).run P w=_
 unfold storeCells
 rw[gi,P1,eG (run_store B.hb E u)]
 rfl
def iI:List Value->Nat->List Value->List Value
 | cs,_,[]=>cs
 | cs,o,v::r=>iI (cs.set o v) (o+1) r
theorem Ey{b o:Nat}:∀(vs:List Value) (i:Nat) (cs:List Value) (w:World),St w0 A (bX b cs::L) w->o+i+vs.length<=cs.length->(∀v∈vs,rN v=true)->
  ∃w',(storeCells ⟨b,o,none⟩ vs i).run P w=.ok () w'/\St w0 A (bX b (iI cs (o+i) vs)::L) w':=by
 intro vs
 induction vs with
 | nil=>intro i cs w u _ _;exact⟨w,rfl,u⟩
 | cons v r G=>
  intro i cs w u E B
  have J:o+i+(r.length+1)<=cs.length:=by simpa using E
  have h1:=run_store (P:=P) u.hb (o:=o+i) (v:=v) bL (B v ee)
  obtain⟨w',h2,h3⟩:=G (i+1) (cs.set (o+i) v) _ (Lq u) (by simp;omega) (λx I=>B x (by simp[I]))
  refine⟨w',?_,by rw[show o+(i+1)=o+i+1 from bL]at h3;exact h3⟩
  show(do store ((Addr.mk b o none).add i) v;storeCells ⟨b,o,none⟩ r (i+1):Sem Unit).run P w=_
  rw[gi,eG h1,h2]
theorem wR{T:TypeId}{b o n:Nat}{cs vs:List Value}{K:hM}(B:St w0 A (bX b cs::L) w)(ht:acY P T n)(E:vs.length=n)(G:o+n<=cs.length)(u:∀v∈vs,rN v=true)
  (k:∀w',St w0 A (bX b (iI cs o vs)::L) w'->K w'):RB P (LS T (.pointer (some ⟨b,o,none⟩)) (.agg vs.toArray)) w K:=by
 subst E
 obtain⟨w',h1,h2⟩:=Ey (P:=P) (o:=o) vs 0 cs w B bL u
 refine⟨w',?_,k w' h2⟩
 show(storeVar T ⟨b,o,none⟩ (.agg vs.toArray)).run P w=_
 unfold storeVar
 rw[eG (fa (jY ht).2 w)]
 simp only[abE,Oa,ne_eq,not_true_eq_false,if_false]
 exact h1
end
end Go.Fw
namespace Go.Fw
class Flat (α:Type) where
 agg:Bool
 sz:Nat
 enc:α->List Value
 val:α->Value
 pos:0<sz
 len:∀a,(enc a).length=sz
 one:∀a v,v∈enc a->rN v=true
 nU:agg=true->∀a,val a=.agg (enc a).toArray
 nV:agg=false->∀a,enc a=[val a]
instance:Flat Int where
 agg:=false
 sz:=1
 enc n:=[ir n]
 val n:=ir n
 pos:=dy
 len _:=rfl
 one a v h:=by rw[vS.1 h];rfl
 nU h:=by cases h
 nV _ _:=rfl
instance:Flat Bool where
 agg:=false
 sz:=1
 enc n:=[.bool n]
 val n:=.bool n
 pos:=dy
 len _:=rfl
 one a v h:=by rw[vS.1 h];rfl
 nU h:=by cases h
 nV _ _:=rfl
instance:Flat ByteArray where
 agg:=false
 sz:=1
 enc n:=[.string n]
 val n:=.string n
 pos:=dy
 len _:=rfl
 one a v h:=by rw[vS.1 h];rfl
 nU h:=by cases h
 nV _ _:=rfl
section
variable {α:Type}[Flat α]
def flat(xs:List α):List Value:=xs.flatMap Flat.enc
theorem mg:flat ([]:List α)=[]:=rfl
theorem jV(x:α)(xs:List α):flat (x::xs)=Flat.enc x++flat xs:=by simp[flat]
theorem ig(xs ys:List α):flat (xs++ys)=flat xs++flat ys:=by simp[flat]
theorem dI(xs:List α):(flat xs).length=xs.length*Flat.sz α:=by
 induction xs with
 | nil=>simp[mg]
 | cons x xs u=>rw[jV,l0,u,Flat.len,o5,LQ];omega
theorem Au{xs:List α}:∀v∈flat xs,rN v=true:=by
 intro v u
 obtain⟨x,_,B⟩:=List.mem_flatMap.1 u
 exact Flat.one x v B
theorem rO{xs:List α}{i j:Nat}{x:α}{c:Value}(u:xs[i]?=some x)(hc:(Flat.enc x)[j]?=some c):(flat xs)[i*Flat.sz α+j]?=some c:=by
 induction xs generalizing i with
 | nil=>simp at u
 | cons y ys B=>
  rw[jV]
  cases i with
  | zero=>
   grind
  | succ i=>
   have:=B (by simpa using u)
   rw[List.getElem?_append_right (by rw[Flat.len,LQ];omega),Flat.len]
   grind
theorem Hq(xs:List α)(n:Nat):flat (xs.take n)=(flat xs).take (n*Flat.sz α):=by
 induction xs generalizing n with
 | nil=>simp[mg]
 | cons x xs u=>
  cases n with
  | zero=>simp[mg]
  | succ n=>
   rw[List.take_succ_cons,jV,jV,u,List.take_append,Flat.len]
   have h1:(n+1)*Flat.sz α-Flat.sz α=n*Flat.sz α:=cD
   rw[h1,List.take_of_length_le (i:=(n+1)*Flat.sz α) (l:=Flat.enc x) (by rw[Flat.len,LQ];omega)]
theorem Hr(xs:List α)(n:Nat):flat (xs.drop n)=(flat xs).drop (n*Flat.sz α):=by
 induction xs generalizing n with
 | nil=>simp[mg]
 | cons x xs u=>
  cases n with
  | zero=>simp
  | succ n=>
   rw[List.drop_succ_cons,jV,u,List.drop_append,Flat.len]
   have h1:(n+1)*Flat.sz α-Flat.sz α=n*Flat.sz α:=cD
   rw[h1,List.drop_of_length_le (i:=(n+1)*Flat.sz α) (l:=Flat.enc x) (by rw[Flat.len,LQ];omega),zS]
def At(S:Nat->Prop)(w:World)(p:Value)(x:α):Prop:=
 ∃b o,p=.pointer (some ⟨b,o,none⟩)/\S b/\∀j c,(Flat.enc x)[j]?=some c->Cell w b (o+j) c
def cZ(S:Nat->Prop)(w:World)(v:Value)(xs:List α):Prop:=
 ∃a cap,v=.slice a xs.length cap/\xs.length<=cap/\((xs=[]/\cap=0)\/∃b o,a=some ⟨b,o,none⟩/\(xs≠[]->S b)/\∀j c,(flat xs)[j]?=some c->Cell w b (o+j) c)
def bF(v:Value)(xs:List α):HP where
 p w F:=(v=.slice none 0 0/\xs=[]/\∀b,¬ F b)\/
  ∃b cap rest,v=.slice (some ⟨b,0,none⟩) xs.length cap/\pk w b (flat xs++rest)/\(xs.length<=cap/\cap*Flat.sz α<=(flat xs++rest).length)/\∀k,F k↔k=b
 loc w w' F h hh:=by
  rcases h with h|⟨b,cap,rest,h1,h2,h3,h4⟩
  .grind
  .exact .inr ⟨b,cap,rest,h1,h2.of_eq (hh b ((h4 b).2 rfl)),h3,h4⟩
 lt w F b h hb:=by
  rcases h with h|⟨u,cap,rest,h1,h2,h3,h4⟩
  .grind
  .rw[(h4 b).1 hb];exact h2.lt
variable {P:Program}{w w0:World}{A S:Nat->Prop}{L:List HP}{xs ys:List α}
theorem At.aF{A:Nat->Prop}{w w':World}{p:Value}{x:α}(h:At S w p x)(hc:gD A w w')(hd:∀b,S b->¬ A b):At S w' p x:=by
 obtain⟨b,o,h1,h2,h3⟩:=h;exact⟨b,o,h1,h2,λj c u=>(h3 j c u).aF hc (hd b h2)⟩
theorem At.ext{w w':World}{p:Value}{x:α}(h:At S w p x)(hc:Ext w w'):At S w' p x:=h.aF hc λ_ _ h=>h
theorem cZ.aF{A:Nat->Prop}{w w':World}{v:Value}(h:cZ S w v xs)(hc:gD A w w')(hd:∀b,S b->¬ A b):cZ S w' v xs:=by
 obtain⟨a,cap,h1,h2,h3⟩:=h
 refine⟨a,cap,h1,h2,?_⟩
 rcases h3 with h3|⟨b,o,h3,h4,h5⟩
 .grind
 exact .inr ⟨b,o,h3,h4,λj c u=>(h5 j c u).aF hc (hd b (h4 λh=>by subst h;simp[mg]at u))⟩
theorem cZ.ext{w w':World}{v:Value}(h:cZ S w v xs)(hc:Ext w w'):cZ S w' v xs:=h.aF hc λ_ _ h=>h
theorem cZ.mono{u:Nat->Prop}{v:Value}(h:cZ S w v xs)(hd:∀b,S b->u b):cZ u w v xs:=by
 grind[cZ]
theorem cZ.nil(S:Nat->Prop)(w:World):cZ S w (.slice none 0 0) ([]:List α):=⟨none,0,rfl,sl _,.inl ⟨rfl,rfl⟩⟩
theorem bF.rd{v:Value}{F:Nat->Prop}(h:(bF v xs).p w F):cZ F w v xs:=by
 rcases h with⟨h1,h2,h3⟩|⟨b,cap,rest,h1,h2,h3,h4⟩
 .subst h1 h2;exact cZ.nil _ _
 refine⟨_,cap,h1,?_,.inr ⟨b,0,rfl,λ_=>(h4 b).2 rfl,λj c u=>?_⟩⟩
 .exact h3.1
 rw[xp]
 exact h2.cell cD
theorem St.rd{v:Value}(u:St w0 A (bF v xs::L) w):∃S,(∀b,S b->A b\/w0.heap.size<=b)/\cZ S w v xs:=by
 obtain⟨F,h1,h2⟩:=u.head;exact⟨F,h2,bF.rd h1⟩
theorem St.dS{v:Value}(u:St w0 A (bF v xs::L) w):cZ (λ_=>True) w v xs:=by
 obtain⟨S,_,h⟩:=u.rd;exact h.mono λ_ _=>trivial
theorem St.eU(u:St w0 A L w):St w0 A (bF (.slice none 0 0) ([]:List α)::L) w:=
 u.new (Ext.refl w) (F:=aX) (.inl ⟨rfl,rfl,λ_ h=>h⟩) λ_ h=>h.elim
theorem aE{T:TypeId}{p:Value}{x:α}{K:Value->Prop}(ht:cY P T=some (Flat.agg α,Flat.sz α))(h:At S w p x)(k:K (Flat.val x)):GL P (z9 T p) w K:=by
 obtain⟨b,o,rfl,_,h3⟩:=h
 cases ha:Flat.agg α with
 | true=>
  rw[ha]at ht
  refine⟨_,?_,k⟩
  rw[Flat.nU ha x]
  exact CQ (by rw[Flat.len];exact ht) h3
 | false=>
  rw[ha]at ht
  have h1:=Flat.nV ha x
  have u:Flat.sz α=1:=by rw[<- Flat.len x,h1];rfl
  rw[u]at ht
  exact⟨_,aH ht (by have:=h3 0 (Flat.val x) cD;omega),k⟩
theorem St.At{b:Nat}{x:α}(u:St w0 A (Fw.bX b (Flat.enc x)::L) w):Fw.At (λ_=>True) w (.pointer (some ⟨b,0,none⟩)) x:=
 ⟨b,0,rfl,trivial,λj c B=>by rw[xp];exact u.hb.cell B⟩
theorem bT{β:Type}[Flat β]{T f u:Nat}{p:Value}{x:α}(y:β){K:Value->Prop}(ht:wQ P T f u)(h:At S w p x)(G:(Flat.enc x)[u]?=some (Flat.val y))(B:Flat.agg β=false)
  (k:∀q,At S w q y->K q):eK P (H4 T p f) K:=by
 obtain⟨b,o,rfl,h2,h3⟩:=h
 refine aA ht (k _ ⟨b,o+u,rfl,h2,λj c E=>?_⟩)
 rw[Flat.nV B]at E
 grind
theorem Jb{T R E n u:Nat}{z:Option Nat}{a:Option Addr}{l c:Nat}(ht:eM P T=some (E,n,u,z)):pr P (Builtin.len_ #[T] R [Be a l c].toArray)=some (ir l):=by
 show pr P (do
  match <- underlying T,Be a l c with
  | .string,.string s=>pure (goInt s.size)
  | .array n _,_=>pure (goInt n)
  | .pointer arr,_=>
   let .array n _ <- underlying arr|stuck "len: pointer to array expected"
   pure (goInt n)
  | .slice _,.slice _ n _=>pure (goInt n)
  | .map _ _,.map none|.chan _ _,.chan none=>pure (goInt 0)
  | .map _ _,.map (some r)=>
   let .map entries _ <- getObj r|stuck "len: map expected"
   pure (goInt entries.size)
  | .chan _ _,.chan (some r)=>
   let .chan _ buf _ _ _ timer <- getObj r|stuck "len: channel expected"
   pure (goInt (if timer then 0 else buf.size))
  | _, _ => stuck "len: string, array, pointer to array, slice, map or channel expected")=_
 rw[cI,cJ (ft ht).1]
 rfl
theorem aI{T R E n u:Nat}{z:Option Nat}{v:Value}{K:Value->Prop}(ht:eM P T=some (E,n,u,z))(h:cZ S w v xs)(k:K (ir (xs.length:Int))) :
  eK P (Builtin.len_ #[T] R [v].toArray) K:=by
 obtain⟨a,cap,rfl,_⟩:=h
 exact⟨_,Jb ht,k⟩
theorem aK{T E I:Nat}{z:Option Nat}{v:Value}{i:Int}{x:α}{K:Value->Prop}(ht:eM P T=some (E,Flat.sz α,I,z))(h:cZ S w v xs)(M:0<=i)(u:xs[i.toNat]?=some x)
  (k:∀p,At S w p x->K p):eK P (H5 T v (ir i)) K:=by
 obtain⟨a,cap,rfl,Y,h3⟩:=h
 have Z:i.toNat<xs.length:=(kE.1 u).1
 rcases h3 with⟨rfl,_⟩|⟨b,o,rfl,h4,h5⟩
 .simp at u
 obtain⟨O,W,hi,U,_⟩:=ft ht
 refine⟨.pointer (some ⟨b,o+i.toNat*Flat.sz α,none⟩),?_,k _ ⟨b,_,rfl,h4 cD,λj c V=>?_⟩⟩
 .unfold H5
  rw[cI]
  show pr P _=_
  simp only[asIntOf]
  have G:pr P (underlying T)=some (.slice E):=cJ O
  have B:pr P (sizeOf E)=some (Flat.sz α):=by rw[mQ hi,U]
  simp only[cI,G,B,mv,eS]
  have J:0<=i/\i<(xs.length:Int):=⟨M,bL⟩
  simp only[ej J,cI,B,mv,eS,gi]
 have:=h5 (i.toNat*Flat.sz α+j) c (rO u V)
 grind
end
end Go.Fw
namespace Go.Fw
section
variable {α:Type}[Flat α] {P:Program}{w w0:World}{A S:Nat->Prop}{L:List HP}{xs ys:List α}
theorem jh{y:Nat}{i:Int}{code:BoundsCode}(u:0<=i)(h1:i<=y):pr P (abe (ir i) y code)=some i.toNat:=by
 unfold abe
 rw[cI]
 simp only[asIntOf,eS,mv,ej (show 0<=i/\i<=(y:Int)from⟨u,h1⟩)]
theorem wS{T E sz J:Nat}{z:Option Nat}{a:Option Addr}{n cap l h:Nat}{lo hi:Option Value}(ht:eM P T=some (E,sz,J,z))
  (hb:pr P (wN true n cap lo hi none)=some (l,h,cap)) :
  pr P (oa T (.slice a n cap) lo hi none)=some (.slice (if cap=l then a else a.map (·.add (l*sz))) (h-l) (cap-l)):=by
 obtain⟨u,I,G,B,_⟩:=ft ht
 unfold oa
 rw[cI,cJ u]
 simp only[mv]
 unfold Instr.slice
 rw[cI,cJ u]
 simp only[mv]
 rw[cI,hb]
 simp only[mv]
 rw[cI,mQ G,B]
 rfl
theorem og{n cap l h:Nat}{lo hi:Option Value}(E:lo=none/\l=0\/∃i:Int,lo=some (ir i)/\0<=i/\l=i.toNat)(G:hi=none/\h=n\/∃i:Int,hi=some (ir i)/\0<=i/\h=i.toNat)
  (h1:l<=h) (h2:h<=cap):pr P (wN true n cap lo hi none)=some (l,h,cap):=by
 rcases E with⟨rfl,rfl⟩|⟨i,rfl,B,rfl⟩<;>rcases G with⟨rfl,rfl⟩|⟨I,rfl,u,rfl⟩<;>simp only[wN,cI,eS,mv]
 .rw[jh u bL];rfl
 .rw[jh B bL];rfl
 rw[jh u bL];simp only[mv];rw[jh B bL];rfl
theorem cZ.cut{v:Value}{a:Option Addr}{n cap l h:Nat}(B:v=.slice a n cap)(J:cZ S w v xs)(h1:l<=h)(h2:h<=xs.length) :
  cZ S w (.slice (if cap=l then a else a.map (·.add (l*Flat.sz α))) (h-l) (cap-l)) ((xs.take h).drop l):=by
 obtain⟨V,G,M,W,h3⟩:=J
 rw[M]at B
 simp only[Be.injEq]at B
 obtain⟨rfl,Y,rfl⟩:=B
 have hlen:((xs.take h).drop l).length=h-l:=by simp;omega
 rcases h3 with⟨E,Z⟩|⟨b,o,rfl,h4,h5⟩
 .subst E
  exact⟨_,G-l,by rw[hlen],ee,.inl ⟨ee,bL⟩⟩
 refine⟨_,G-l,by rw[hlen],bL,.inr ?_⟩
 have O:(xs.take h).drop l≠[]->xs≠[]:=λu I=>u cD
 by_cases u:G=l
 .rw[ej u]
  grind[flat,Cell]
 rw[ei u]
 refine⟨b,o+l*Flat.sz α,by simp[gi],λI=>h4 (O I),λj c U=>?_⟩
 rw[Hr,Hq,List.getElem?_drop,List.getElem?_take]at U
 grind
theorem R2{T E J:Nat}{z:Option Nat}{v:Value}{lo hi:Option Value}{l h:Nat}{K:Value->Prop}(ht:eM P T=some (E,Flat.sz α,J,z))(B:cZ S w v xs)
  (I:lo=none/\l=0\/∃i:Int,lo=some (ir i)/\0<=i/\l=i.toNat) (M:hi=none/\h=xs.length\/∃i:Int,hi=some (ir i)/\0<=i/\h=i.toNat)
  (h1:l<=h) (h2:h<=xs.length) (k:∀G,cZ S w G ((xs.take h).drop l)->K G):eK P (oa T v lo hi none) K:=by
 have u:=B
 obtain⟨a,cap,rfl,O,h3⟩:=B
 exact⟨_,wS ht (og I M h1 bL),k _ (u.cut rfl h1 h2)⟩
theorem uB{T E I:Nat}{z:Option Nat}{v:Value}{i:Int}{K:Value->Prop}(ht:eM P T=some (E,Flat.sz α,I,z))(B:cZ S w v xs)(G:0<=i)(h2:i<=xs.length)
  (k:∀u,cZ S w u (xs.take i.toNat)->K u):eK P (oa T v none (some (ir i)) none) K:=
 R2 ht B (.inl ⟨rfl,rfl⟩) (.inr ⟨i,rfl,G,rfl⟩) bL bL λu h=>k u cD
theorem B2{T E I:Nat}{z:Option Nat}{v:Value}{i:Int}{K:Value->Prop}(ht:eM P T=some (E,Flat.sz α,I,z))(B:cZ S w v xs)(G:0<=i)(h2:i<=xs.length)
  (k:∀u,cZ S w u (xs.drop i.toNat)->K u):eK P (oa T v (some (ir i)) none none) K:=
 R2 ht B (.inr ⟨i,rfl,G,rfl⟩) (.inl ⟨rfl,rfl⟩) bL bL λu h=>k u cD
theorem mR{b o:Nat}:∀(vs:List Value) (i:Nat) (cs:List Value) (w:World),pk w b cs->o+i+vs.length<=cs.length->(∀v∈vs,rN v=true)->
  ∃w',(storeCells ⟨b,o,none⟩ vs i).run P w=.ok () w'/\pk w' b (iI cs (o+i) vs)/\gD (· = b) w w':=by
 intro vs
 induction vs with
 | nil=>intro i cs w hb _ _;exact⟨w,rfl,hb,gD.refl _ _⟩
 | cons v r B=>
  intro i cs w hb I u
  have E:o+i+(r.length+1)<=cs.length:=bL
  have h1:=run_store (P:=P) hb (o:=o+i) (v:=v) bL (u v ee)
  obtain⟨w',h2,h3,h4⟩:=B (i+1) (cs.set (o+i) v) _ (hb.setCell v) (by simp;omega) (λx G=>u x (by simp[G]))
  refine⟨w',?_,by grind[pk,iI],(gD.setCell w b (o+i) v).trans h4 (λ_ h=>h) λ_ _ h=>h⟩
  show(do store ((Addr.mk b o none).add i) v;storeCells ⟨b,o,none⟩ r (i+1):Sem Unit).run P w=_
  rw[gi,eG h1,h2]
theorem ly(pre u post vs:List Value)(h:u.length=vs.length):iI (pre++u++post) pre.length vs=pre++vs++post:=by
 induction vs generalizing pre u with
 | nil=>grind[iI]
 | cons v r B=>
  match u,h with
  | m::u,h=>
   have e:(pre++(m::u)++post).set pre.length v=(pre++[v])++u++post:=ee
   simp only[iI,e]
   have:=B (pre++[v]) u cD
   simp_all
theorem yf{sz:Nat}{v:Value}(u:sz=Flat.sz α)(h:cZ S w v ys):(Builtin.firstCells sz ys.length v).run P w=.ok (flat ys).toArray w:=by
 subst u
 obtain⟨a,cap,rfl,_,h3⟩:=h
 rcases h3 with⟨rfl,_⟩|⟨b,o,rfl,_,h5⟩
 .cases a with
  | none=>rfl
  | some a=>simp[Builtin.firstCells,loadCells,loadCellsFrom,mg]
 have:=run_loadCells (P:=P) h5
 rw[dI]at this
 exact this
theorem B3{b o:Nat}{cs:List Value}(h:∀j c,cs[j]?=some c->Cell w b (o+j) c):∀j v,cs[j]?=some v->w.cell? ((⟨b,o,none⟩:Addr).add j)=some v:=λj v u=>by
 rw[gi];exact h j v u
theorem CS{T E kW R:Nat}{v src:Value}{F:Nat->Prop}(ht:W6 P T E (Flat.sz α) kW)(hv:(bF v xs).p w F)(uC:cZ S w src ys)
  (hn:xs.length+ys.length<=17592186044416) (G:(xs.length+ys.length)*kW<=140737488355328) :
  ∃v' w' F',(Builtin.append_ #[T,T] R [v,src].toArray).run P w=.ok v' w'/\(bF v' (xs++ys)).p w' F'/\(∀b,F' b->F b\/w.heap.size<=b)/\gD F w w':=by
 obtain⟨Z,u,hi,ph,zq,hz⟩:=ft ht
 obtain⟨zv,V,hzs⟩:∃zv,u.zero=some zv/\zv.cells.size=Flat.sz α:=by
  cases hzz:u.zero with
  | none=>rw[hzz]at hz;cases hz
  | some zv=>rw[hzz]at hz;exact⟨zv,rfl,by simpa using hz⟩
 have hmul:(xs.length+ys.length)*u.bytes<=140737488355328:=by rw[show u.bytes=kW by omega];exact G
 have made:∀(cap:Nat),cap<xs.length+ys.length->
   (bF (.slice (some ⟨w.heap.size,0,none⟩) (xs.length+ys.length) (grownCap w (xs.length+ys.length) cap E)) (xs++ys)).p
    (w.drew.alloc (.cells ((flat xs).toArray++(flat ys).toArray++Builtin.zeroCells zv.cells (grownCap w (xs.length+ys.length) cap E-(xs.length+ys.length))) E)) (λk=>k=w.heap.size):=by
  intro cap hc
  have Ul:=grownCap_ge w (xs.length+ys.length) cap E
  refine .inr ⟨w.heap.size,grownCap w (xs.length+ys.length) cap E,(Builtin.zeroCells zv.cells (grownCap w (xs.length+ys.length) cap E-(xs.length+ys.length))).toList,ee,⟨E,?_⟩,?_,λ_=>Iff.rfl⟩
  .have:=mf w.drew (.cells ((flat xs).toArray++(flat ys).toArray++Builtin.zeroCells zv.cells (grownCap w (xs.length+ys.length) cap E-(xs.length+ys.length))) E)
   refine Eq.trans this ?_
   congr 2
   apply aca
   simp[ig]
  .refine⟨by rw[l0];exact Ul,CL (Eq.symm ?_)⟩
   have e:(Builtin.zeroCells zv.cells (grownCap w (xs.length+ys.length) cap E-(xs.length+ys.length))).toList.length=(grownCap w (xs.length+ys.length) cap E-(xs.length+ys.length))*Flat.sz α:=by
    rw[SJ,size_zeroCells,hzs]
   rw[l0,e,dI,l0,<- ZJ]
   congr 1
   omega
 have I:∀o,gD F w (w.drew.alloc o):=λo=>⟨rfl,rfl,rfl,ee,λb hb _=>BX w.drew o b hb⟩
 have rd:=uC
 obtain⟨sa,W7,rfl,hsc,O⟩:=rd
 rcases hv with⟨rfl,rfl,Y⟩|⟨b,cap,rest,rfl,hb,M,Y⟩
 ·
  simp only[Ld,xp,zS]at *
  by_cases G:ys=[]
  .subst G
   refine⟨.slice none 0 0,w,F,?_,.inl ⟨rfl,rfl,Y⟩,λb hb=>.inl hb,gD.refl _ _⟩
   cases sa<;>simp[Builtin.append_,run_underlying Z,sizeOf,typeInfo,hi,Builtin.lenOf,Builtin.firstCells,loadCells,loadCellsFrom]
  have Di:0<ys.length:=List.length_pos_iff.2 G
  rcases O with⟨h,_⟩|⟨b,o,rfl,_,B⟩
  .exact absurd h G
  have J:=run_append_nil (P:=P) w T R E u zv Z hi V ⟨b,o,none⟩ ys.length W7 (flat ys) (by rw[dI,ph]) (B3 B) Di bL bL
  refine⟨_,_,λk=>k=w.heap.size,J,?_,λk U=>.inr (by rw[U];exact sl _),I _⟩
  have:=made 0 Di
  simpa[mg]using this
 have BZ:xs.length<=cap:=M.1
 replace M:=M.2
 by_cases W:xs.length+ys.length<=cap
 ·
  have OW:(xs.length+ys.length)*Flat.sz α<=cap*Flat.sz α:=D6 _ W
  have td:(flat xs).length=xs.length*Flat.sz α:=dI xs
  have Am:(flat ys).length<=rest.length:=by
   rw[l0,td]at M;rw[dI];rw[ZJ]at OW;omega
  obtain⟨w',h1,h2,h3⟩:=mR (P:=P) (o:=xs.length*Flat.sz α) (flat ys) 0 (flat xs++rest) w hb (by rw[l0,td];omega) Au
  have GO:iI (flat xs++rest) (xs.length*Flat.sz α+0) (flat ys)=flat (xs++ys)++rest.drop (flat ys).length:=by
   have:=ly (flat xs) (rest.take (flat ys).length) (rest.drop (flat ys).length) (flat ys) (by simp;omega)
   rw[td]at this
   rw[P1,ig]
   rw[<- this]
   simp
  rw[GO]at h2
  refine⟨.slice (some ⟨b,0,none⟩) (xs.length+ys.length) cap,w',F,?_,.inr ⟨b,cap,_,ee,h2,?_,Y⟩,λb hb=>.inl hb,h3.mono λk U=>(Y k).2 U⟩
  .have hf:=yf (α:=α) (P:=P) (sz:=Flat.sz α) rfl uC
   have tZ:(⟨b,0,none⟩:Addr).add (xs.length*Flat.sz α)=⟨b,xs.length*Flat.sz α,none⟩:=by rw[gi,xp]
   simp[Builtin.append_,run_underlying Z,sizeOf,typeInfo,hi,Builtin.lenOf,W,hf,ph,tZ,h1]
  refine⟨by rw[l0];exact W,vJ M (CL ?_)⟩
  rw[l0,l0,ig,l0,List.length_drop];omega
 -- a new row
 have J:=run_append_grow (P:=P) w T R E u zv Z hi V ⟨b,0,none⟩ xs.length cap (flat xs) (by rw[dI,ph])
  (B3 λj c hj=>by rw[xp];exact hb.cell (by rw[uc (kE.1 hj).1];exact hj))
 rcases O with⟨h,_⟩|⟨b',o,rfl,_,B⟩
 .subst h;simp at W;omega
 have J:=J ⟨b',o,none⟩ ys.length W7 (flat ys) (by rw[dI,ph]) (B3 B) bL bL (growslice_fits bL hmul)
 exact⟨_,_,λk=>k=w.heap.size,J,made cap bL,λk U=>.inr (by rw[U];exact sl _),I _⟩
theorem aiK{T E I R:Nat}{v src:Value}{F:Nat->Prop}(ht:W6 P T E (Flat.sz α) I)(J:(bF v xs).p w F)(M:cZ S w src ys)
  (O:xs.length+ys.length<=1073741824) (u:I<=8192) :
  ∃B w' G,(Builtin.append_ #[T,T] R [v,src].toArray).run P w=.ok B w'/\(bF B (xs++ys)).p w' G/\(∀b,G b->F b\/w.heap.size<=b)/\gD F w w':=
 CS ht J M bL (by have:=ZK O u;omega)
theorem Lr{T E M R:Nat}{v src:Value}{K:Value->hM}(G:St w0 A (bF v xs::L) w)(ht:W6 P T E (Flat.sz α) M)(Z:cZ S w src ys)
  (hn:xs.length+ys.length<=17592186044416) (Y:(xs.length+ys.length)*M<=140737488355328) (k:∀B w',St w0 A (bF B (xs++ys)::L) w'->K B w'):qM P (Builtin.append_ #[T,T] R [v,src].toArray) w K:=by
 obtain⟨U,F,O,h1,h2,h3,h4,h5⟩:=G.tY
 obtain⟨B,w',V,g1,g2,I,J⟩:=CS (R:=R) ht h1 Z hn Y
 refine⟨B,w',g1,k B w' ?_⟩
 refine⟨G.aF.trans J (λ_ h=>h) λb hb u=>(h2 b u).elim id λhh=>bL,λb=>V b\/O b,V,O,g2,λb hb=>?_,λb hb W=>?_,λb=>Iff.rfl,?_⟩
 .rcases I b hb with u|u
  .exact h2 b u
  exact .inr (vJ G.aF.size u)
 .rcases I b hb with u|u
  .exact h3 b u W
  have:=h5.lt b W;omega
 exact h5.loc λb hb=>J.bX b (h5.lt b hb) λu=>h3 b u hb
theorem bJ{T E G R:Nat}{v src:Value}{K:Value->hM}(I:St w0 A (bF v xs::L) w)(ht:W6 P T E (Flat.sz α) G)(J:cZ S w src ys)
  (M:xs.length+ys.length<=1073741824) (u:G<=8192) (k:∀B w',St w0 A (bF B (xs++ys)::L) w'->K B w'):qM P (Builtin.append_ #[T,T] R [v,src].toArray) w K:=
 Lr I ht J bL (by have:=ZK M u;omega) k
end
end Go.Fw
namespace Go.Fw
section
variable {α:Type}[Flat α] {P:Program}{w w0:World}{A S:Nat->Prop}{L:List HP}{xs ys:List α}
theorem pF(x:α):(Flat.val x).cells=(Flat.enc x).toArray:=by
 cases h:Flat.agg α with
 | true=>rw[Flat.nU h];rfl
 | false=>
  have h1:=Flat.nV h x
  have h2:=Flat.one x (Flat.val x) cD
  rw[h1]
  revert h2
  cases Flat.val x<;>simp[rN,abE]
theorem OX(cs:List Value)(o:Nat)(v:Value)(r:List Value):iI cs o (v::r)=iI (cs.set o v) (o+1) r:=rfl
theorem Ls(u:Nat):∀(l:List Value) (k:Nat) (cs:Array Value),((l.zipIdx k).foldl (fun (cs:Array Value) q=>cs.setIfInBounds (u+q.2) q.1) cs).toList=iI cs.toList (u+k) l:=by
 intro l
 induction l with
 | nil=>intro k cs;rfl
 | cons v r B=>
  intro k cs
  rw[abf,List.foldl_cons,B (k+1),OX]
  grind
theorem Jd(u:Nat)(l:List Value)(cs:Array Value) :
  (l.toArray.zipIdx.foldl (fun (cs:Array Value) (q:Value×Nat)=>match q with|(c,j)=>cs.setIfInBounds (u+j) c) cs).toList=iI cs.toList u l:=by
 rw[<- aae]
 have e:l.toArray.zipIdx.toList=l.zipIdx 0:=ee
 rw[e]
 exact Ls u l 0 cs
theorem Um:∀(xs:List α) (k:Nat) (pre u:List Value),pre.length=k*Flat.sz α->u.length=xs.length*Flat.sz α->
  aaf (λi=>some (i*Flat.sz α,Flat.sz α)) (pre++u).toArray ((xs.zipIdx k).map λq=>(q.2,Flat.val q.1))=some (pre++flat xs).toArray:=by
 intro xs
 induction xs with
 | nil=>intro k pre u _ B;simp at B;subst B;simp[aaf,mg]
 | cons x xs G=>
  intro k pre u E B
  rw[abf,List.map_cons]
  unfold aaf
  dsimp only
  have J:(Flat.val x).cells.size=Flat.sz α:=by rw[pF];simp[Flat.len]
  have I:u.length=xs.length*Flat.sz α+Flat.sz α:=cD
  rw[ei cD]
  have e:((Flat.val x).cells.zipIdx.foldl (fun (cs:Array Value) (q:Value×Nat)=>match q with|(c,j)=>cs.setIfInBounds (k*Flat.sz α+j) c) (pre++u).toArray) =
    ((pre++Flat.enc x)++u.drop (Flat.sz α)).toArray:=by
   apply aca
   rw[pF,Jd]
   have h1:=ly pre (u.take (Flat.sz α)) (u.drop (Flat.sz α)) (Flat.enc x) (by simp[Flat.len];omega)
   simp_all
  rw[e]
  have:=G (k+1) (pre++Flat.enc x) (u.drop (Flat.sz α)) (by rw[l0,E,Flat.len,LQ]) cD
  rw[this,jV,n4]
theorem bD{T E V n:Nat}{parts:List (Nat×Value)}{K:Value->hM}(xs:List α)(M:St w0 A L w)(ht:W6 P T E (Flat.sz α) V)(Y:xs.length=n)
  (O:parts=xs.zipIdx.map λq=>(q.2,Flat.val q.1)) (hl:xs.length*Flat.sz α<=16777216) (k:∀v w',St w0 A (bF v xs::L) w'->K v w') :
  qM P (ML T n parts.toArray) w K:=by
 subst Y
 obtain⟨Z,B,hi,ph,zq,G⟩:=ft ht
 obtain⟨zv,I,W⟩:∃zv,B.zero=some zv/\zv.cells.size=Flat.sz α:=by
  cases hzz:B.zero with
  | none=>rw[hzz]at G;cases G
  | some zv=>rw[hzz]at G;exact⟨zv,rfl,by simpa using G⟩
 have es:pr P (sizeOf E)=some (Flat.sz α):=by rw[mQ hi,ph]
 have U:pr P (zeroValue E)=some zv:=by unfold zeroValue;rw[cI,kZ hi];simp only[mv,I];rfl
 refine⟨.slice (some ⟨w.heap.size,0,none⟩) xs.length xs.length,push w (.cells (flat xs).toArray E),?_,k _ _ ?_⟩
 .have u:∀z:Array Value,aaf (λi=>some (i*Flat.sz α,Flat.sz α)) ((ab6 (xs.length*Flat.sz α)).map (z[· % z.size]!)) parts=some (flat xs).toArray:=by
   intro z
   have:=Um xs 0 [] ((ab6 (xs.length*Flat.sz α)).map (z[· % z.size]!)).toList ee ee
   rw[O]
   rw[zS,zS,QH]at this
   exact this
  unfold ML
  rw[eG (fa (cJ Z) w)]
  dsimp only
  rw[eG (fa es w),ei bL]
  by_cases J:xs.length*Flat.sz α=0
  .simp only[ej J]
   rw[eG (run_pure _ w),u]
   rfl
  simp only[ei J]
  rw[eG (fa U w),eG (run_pure _ w),u]
  rfl
 refine M.new (Ext.push _ _) (F:=λk=>k=w.heap.size) (.inr ⟨w.heap.size,xs.length,[],rfl,⟨E,?_⟩,⟨sl _,by simp[dI]⟩,λ_=>Iff.rfl⟩) λb hb=>by rw[hb];exact sl _
 rw[qb];exact mf _ _
theorem wT(z:α)(n:Nat):(madeCells (Flat.enc z).toArray (n*Flat.sz α)).toList=flat (oz n z):=by
 apply List.ext_getElem?
 intro i
 have u:=Flat.pos (α:=α)
 by_cases hi:i<n*Flat.sz α
 .have h1:i / Flat.sz α<n:=by rw[Nat.div_lt_iff_lt_mul u];exact hi
  have h2:i % Flat.sz α<(Flat.enc z).length:=by rw[Flat.len];exact Nat.mod_lt _ u
  have:=rO (xs:=oz n z) (i:=i / Flat.sz α) (j:=i % Flat.sz α) (x:=z) (c:=(Flat.enc z)[i % Flat.sz α]) (by simp[h1]) (by simp[h2])
  rw[Nat.div_add_mod' i (Flat.sz α)]at this
  rw[this]
  unfold madeCells
  simp[hi,Flat.len]
  grind
 have B:(madeCells (Flat.enc z).toArray (n*Flat.sz α)).toList[i]?=none:=by
  rw[EV,SJ,size_madeCells];omega
 have E:(flat (oz n z))[i]?=none:=by
  rw[EV,dI,yz];omega
 rw[B,E]
theorem uD{T E I:Nat}{n:Int}{K:Value->hM}(z:α)(O:St w0 A L w)(ht:W6 P T E (Flat.sz α) I)(B:m4 P E (Flat.val z))(J:0<=n)(h1:n<=1073741824)(M:I<=8192)
  (k:∀v w',St w0 A (bF v (oz n.toNat z)::L) w'->K v w'):qM P (NA T (ir n) (ir n)) w K:=by
 obtain⟨U,u,hi,V,W,_⟩:=ft ht
 unfold m4 eg at B
 rw[hi]at B
 simp only[FK,ob.injEq]at B
 have hb:(u.bytes:Int)*n<=281474976710656:=by
  have h2:(u.bytes:Int)<=8192:=bL
  have h3:(u.bytes:Int)*n<=8192*n:=Int.mul_le_mul_of_nonneg_right h2 J
  omega
 have G:=run_make (P:=P) w T E u (Flat.val z) U hi B .i64 .i64 n n J (Int.le_refl _) hb bL
 rw[V,pF]at G
 refine⟨_,_,G,k _ _ ?_⟩
 refine O.new (w':=w.alloc (.cells (madeCells (Flat.enc z).toArray (n.toNat*Flat.sz α)) E)) ⟨rfl,rfl,rfl,ee,λb hb _=>BX w _ b hb⟩ (F:=λk=>k=w.heap.size)
  (.inr ⟨w.heap.size,n.toNat,[],ee,⟨E,?_⟩,⟨ee,by rw[qb,dI,yz];exact sl _⟩,λ_=>Iff.rfl⟩) λb hb=>by rw[hb];exact sl _
 rw[qb,<- wT]
 have:=mf w (.cells (madeCells (Flat.enc z).toArray (n.toNat*Flat.sz α)) E)
 rw[QH]
 exact this
def Ht(α:Type)[Flat α](v:Value)(i:Nat)(p:Value):Prop:=∃b n c,v=.slice (some ⟨b,0,none⟩) n c/\p=.pointer (some ⟨b,i*Flat.sz α,none⟩)
theorem dG{T E I:Nat}{z:Option Nat}{v:Value}{i:Int}{K:Value->Prop}(G:St w0 A (bF v xs::L) w)(ht:eM P T=some (E,Flat.sz α,I,z))(J:0<=i)(h1:i<xs.length)
  (k:∀p,Ht α v i.toNat p->K p):eK P (H5 T v (ir i)) K:=by
 obtain⟨F,h,_⟩:=G.head
 rcases h with⟨rfl,rfl,_⟩|⟨b,cap,rest,rfl,hb,V,_⟩
 .simp at h1;omega
 obtain⟨M,U,hi,O,_⟩:=ft ht
 refine⟨.pointer (some ⟨b,i.toNat*Flat.sz α,none⟩),?_,k _ ⟨b,_,_,rfl,rfl⟩⟩
 unfold H5
 have B:pr P (underlying T)=some (.slice E):=cJ M
 have u:pr P (sizeOf E)=some (Flat.sz α):=by rw[mQ hi,O]
 simp only[asIntOf,cI,B,u,mv,eS]
 simp only[ej (show 0<=i/\i<(xs.length:Int)from⟨J,h1⟩),cI,u,mv,eS,gi,xp]
theorem rC{v:Value}{F:Nat->Prop}{i:Nat}(h:(bF v xs).p w F)(hi:i<xs.length):∃b cap rest,v=.slice (some ⟨b,0,none⟩) xs.length cap/\pk w b (flat xs++rest)/\(xs.length<=cap/\cap*Flat.sz α<=(flat xs++rest).length)/\∀k,F k↔k=b:=by
 rcases h with⟨rfl,rfl,_⟩|h
 .simp at hi
 exact h
theorem fM{T:Nat}{v p:Value}{i:Nat}{x:α}{K:Value->Prop}(G:St w0 A (bF v xs::L) w)(ht:cY P T=some (Flat.agg α,Flat.sz α))(I:Ht α v i p)(B:xs[i]?=some x)(k:K (Flat.val x)) :
  GL P (z9 T p) w K:=by
 obtain⟨F,h,_⟩:=G.head
 obtain⟨b,cap,rest,E,hb,M,_⟩:=rC h (kE.1 B).1
 obtain⟨O,n,c,u,rfl⟩:=I
 rw[E]at u
 simp only[Be.injEq,ob.injEq,Addr.mk.injEq]at u
 obtain⟨⟨rfl,_,_⟩,_,_⟩:=u
 refine aE (S:=λ_=>True) ht ⟨b,i*Flat.sz α,rfl,trivial,λj c J=>hb.cell ?_⟩ k
 have:=rO B J
 rw[uc (kE.1 this).1];exact this
theorem Lt{i:Nat}(y:α)(h:i<xs.length):flat (xs.set i y)=flat (xs.take i)++Flat.enc y++flat (xs.drop (i+1)):=by
 rw[List.set_eq_take_append_cons_drop,ej h,ig,jV,n4]
theorem zu{i:Nat}{x:α}(h:xs[i]?=some x):flat xs=flat (xs.take i)++Flat.enc x++flat (xs.drop (i+1)):=by
 have hi:=(kE.1 h).1
 have:xs=xs.take i++x::xs.drop (i+1):=by
  rw[<- (kE.1 h).2,List.getElem_cons_drop,List.take_append_drop]
 conv=>lhs;rw[this]
 rw[ig,jV,n4]
theorem OY{T:Nat}{v p:Value}{i:Nat}{F:Nat->Prop}(y:α)(h:(bF v xs).p w F)(ht:cY P T=some (Flat.agg α,Flat.sz α))(J:Ht α v i p)(hi:i<xs.length) :
  ∃w',(LS T p (Flat.val y)).run P w=.ok () w'/\(bF v (xs.set i y)).p w' F/\gD F w w':=by
 obtain⟨b,cap,rest,E,hb,G,B⟩:=rC h hi
 obtain⟨W,n,c,u,rfl⟩:=J
 rw[E]at u
 simp only[Be.injEq,ob.injEq,Addr.mk.injEq]at u
 obtain⟨⟨rfl,_,_⟩,_,_⟩:=u
 have U:xs[i]?=some xs[i]:=by simp[hi]
 have V:=zu U
 have O:(flat (xs.take i)).length=i*Flat.sz α:=by rw[dI,List.length_take,Nat.min_eq_left bL]
 have hlen:i*Flat.sz α+Flat.sz α<=(flat xs).length:=by
  rw[dI,<- LQ];exact D6 _ hi
 obtain⟨w',h1,h2,h3⟩:=mR (P:=P) (o:=i*Flat.sz α) (Flat.enc y) 0 (flat xs++rest) w hb (by rw[Flat.len,l0];omega) (Flat.one y)
 have I:iI (flat xs++rest) (i*Flat.sz α+0) (Flat.enc y)=flat (xs.set i y)++rest:=by
  have:=ly (flat (xs.take i)) (Flat.enc xs[i]) (flat (xs.drop (i+1))++rest) (Flat.enc y) (by rw[Flat.len,Flat.len])
  rw[O]at this
  rw[P1,Lt y hi,V]
  grind
 rw[I]at h2
 refine⟨w',?_,.inr ⟨b,cap,rest,cD,h2,?_,B⟩,h3.mono λk M=>(B k).2 M⟩
 .show(storeVar T ⟨b,i*Flat.sz α,none⟩ (Flat.val y)).run P w=_
  unfold storeVar
  rw[eG (fa (jY ht).2 w),pF]
  simp only[Oa,Flat.len,ne_eq,not_true_eq_false,if_false]
  exact h1
 rw[l0,dI]at G |-;grind
theorem iM{T:Nat}{v p:Value}{i:Nat}{K:hM}(y:α)(E:St w0 A (bF v xs::L) w)(ht:cY P T=some (Flat.agg α,Flat.sz α))(G:Ht α v i p)(hi:i<xs.length)
  (k:∀w',St w0 A (bF v (xs.set i y)::L) w'->K w'):RB P (LS T p (Flat.val y)) w K:=by
 obtain⟨U,F,M,h1,h2,h3,h4,h5⟩:=E.tY
 obtain⟨w',J,I,B⟩:=OY y h1 ht G hi
 refine⟨w',J,k w' ⟨E.aF.trans B (λ_ h=>h) λb hb u=>(h2 b u).elim id λO=>bL,U,F,M,I,h2,h3,h4,h5.loc λb hb=>B.bX b (h5.lt b hb) λu=>h3 b u hb⟩⟩
end
end Go.Fw
