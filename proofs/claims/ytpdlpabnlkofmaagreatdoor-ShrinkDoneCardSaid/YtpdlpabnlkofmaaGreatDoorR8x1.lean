/-
  Part 1.
-/
import Derived.Test.YtpdlpabnlkofmaaGreatDoorProg
import Derived.Orders
import Derived.Tactics
import Derived.OrdersIn
import Derived.TacticsIn
import Derived.RangeFuncSeq
import Derived.RangeFuncLeaves
import Derived.Laws.Sem
import Derived.KernelRfl
import Derived.Below
import Derived.IntWalk
import Derived.Laws.AppendOwn
import Derived.Laws.MakeOwn
import Derived.WalkKit
import Derived.ProofKit
import Derived.OpenShut
import Derived.ChangeCalls
import Derived.Laws.Strings
import Derived.Lib.ConvBytes
import Derived.MapKept
import Derived.Maps.RangeRun
import Derived.Lib.AppendZeros
import Derived.LaidMore
import Derived.Lay
import Derived.SevenTiedAt
import Derived.Stop.Joined
set_option maxHeartbeats 8000000
set_option linter.all false
set_option maxRecDepth 100000
namespace Go
def cK{p:Prop}(h:p:=by omega):p:=h
def dD{p:Prop}(h:p:=by grind):p:=h
def ee{p:Prop}(h:p:=by decide):p:=h
def ei{p:Prop}(h:p:=by simp):p:=h
def ej:=@if_neg
def ew:=@if_pos
def ez:=@decide_eq_true
def fN:=@decide_eq_false
def ga:=@decide_eq_decide
def gO:=@congrArg
def gP:=@of_decide_eq_true
def g6:=@of_decide_eq_false
def g7:=@Classical.byContradiction
noncomputable abbrev hH:=Proofs.Tryz.prog
abbrev hM:=World->Prop
abbrev hZ(i:Int):Value:=.int .i64 i
end Go
open ByteArray renaming mk->kh
open List renaming getElem?_eq_some_iff->kp,length_append->la,append_assoc->n3,length_cons->oE,mem_cons_self->o1,append_nil->pL,mem_cons_of_mem->qX,replicate->r6,mem_cons->sl,nil_append->s4,getElem?_append_left->ub,mem_singleton->vx,getElem?_eq_none_iff->A9,map_congr_left->Bi,length_replicate->BO,all_eq_true->Fj,length_nil->IF,size_toArray->K9,getElem?_toArray->Pp,mem_filterMap->P3,zipIdx_cons->Zw
open Go.Instr renaming build->l4,sliceAt->n4,index->u4,sliceBounds->v7,loadAt->xR,box->zx,fieldAt->Fs,indexAt->FI,storeAt->JB,buildSlice->J8,makeSlice->M4,alloc->Pw,extract->Sd,fill->WO,sliceBound->Zs
open Option renaming bind_some->mQ,some->oi,map_some->Fh
open Go.Value renaming int->ni,bool->wX,slice->yo,cells->aaD,pointer->aba
open Bool renaming and_eq_true->ob,not_eq_true'->sk,or_eq_true->xh,true_and->yU,not_false->N8
open Nat renaming le_refl->o6,zero_add->u1,le_trans->wS,le_of_eq->zW,beq->Bn,le_of_ble_eq_true->BM,mul_le_mul_right->Cs,land->H5,shiftLeft->J6,succ_mul->KD,lor->N6,add_zero->Oe,eq_of_beq_eq_true->Pq,testBit_two_pow->P2,mul_le_mul->P5,one_shiftLeft->Q6,ble->Rs,testBit_or->SX,add_mul->Ug,blt->aaG
open Array renaming getD_eq_getD_getElem?->CT,getElem?_eq_some_iff->DK,length_toList->Ma,getElem?_modify->Pu,toArray_toList->PI,empty_append->U2,foldl_toList->VK,ext'->aaT,range->abq
open Go.World renaming cell?->RP,setCell->aa8
open Prod renaming mk->aaP
open Go.Code renaming region->abp
open Classical renaming choose->abu
namespace Go.Fw
abbrev Env:=Nat->Value
def ev(e:Env):Operand->Value
 | .tmp t=>e t
 | .const v=>v
 | .global g=>.pointer (some ⟨g,0,none⟩)
 | .func f=>.func (.func f) #[] #[]
def zZ(e:Env)(d:Nat)(v:Value):Env:=λi=>bif Bn i d then v else e i
def jX(e:Env)(d:Option Nat)(v:Value):Env:=match d with|some d=>zZ e d v|none=>e
theorem nw(e:Env)(d:Nat)(v:Value):zZ e d v d=v:=by simp[zZ]
theorem oN(e:Env){d i:Nat}(v:Value)(h:i≠d):zZ e d v i=e i:=by
 have:Bn i d=false:=by
  cases hh:Bn i d
  .rfl
  simp_all
 simp[zZ,this]
def VM(e:Env){d u:Nat}(v B:Value)(h:d≠u):zZ (zZ e d v) u B=zZ (zZ e u B) d v:=by
 funext i
 by_cases h1:i=d
 .subst h1;rw[oN _ _ h,nw,nw]
 by_cases h2:i=u
 .subst h2;rw[nw,oN _ _ h1,nw]
 rw[oN _ _ h2,oN _ _ h1,oN _ _ h1,oN _ _ h2]
def ahr(e:Env)(d:Nat)(v:Value)(h:e d=v):zZ e d v=e:=by
 funext i
 by_cases h1:i=d
 .subst h1;rw[nw,h]
 rw[oN _ _ h1]
def mark(D:Nat):Deferred:={target:=.collected D,args:=#[]}
structure jC(ds:List Nat)(n:Nat)(e:Env)(a:Act):Prop where
 defers:a.defers=ds.map mark
 size:a.tmps.size=n
 get:∀i,a.tmps.getD i undef=e i
def jC.eval{ds:List Nat}{n:Nat}{e:Env}{a:Act}(h:jC ds n e a):a.eval=ev e:=by
 funext x
 cases x<;>simp[Act.eval,ev]
 case tmp t=>simpa using h.get t
theorem jC.put{ds:List Nat}{n:Nat}{e:Env}{a:Act}(h:jC ds n e a){d:Option Nat}(u:∀k,d=some k->k<n)(v:Value) :
  jC ds n (jX e d v) (a.put d v):=by
 cases d with
 | none=>exact h
 | some d=>
  have u:=u d rfl
  refine⟨h.defers,by simp[Act.put,h.size],λi=>?_⟩
  have B:=h.get i
  simp only[Act.put,jX,CT]at *
  by_cases hi:i=d
  .subst hi
   rw[Array.getElem?_setIfInBounds_self_of_lt (by rw[h.size];exact u),nw]
   rfl
  .rw[Array.getElem?_setIfInBounds_ne (Ne.symm hi),oN _ _ hi]
   exact B
def pr(P:Program){α:Type}:Sem α->Option α
 | .pure a=>some a
 | .program k=>pr P (k P)
 | .mark _ k=>pr P k
 | _=>none
theorem fY{P:Program}{α:Type}{m:Sem α}{v:α}(h:pr P m=some v)(w:World):m.run P w=.ok v w:=by
 induction m with
 | pure a=>simp only[pr,oi.injEq]at h;simp_all
 | program k u=>exact u P h
 | mark x k u=>exact u h
 | _=>simp[pr]at h
theorem fR{P:Program}{α:Type}(a:α):pr P (pure a:Sem α)=some a:=rfl
theorem cX{P:Program}{α β:Type}(m:Sem α)(f:α->Sem β):pr P (m >>= f)=(pr P m).bind λa=>pr P (f a):=by
 show pr P (m.bind f)=_
 induction m with
 | pure a=>rfl
 | program k u=>exact u P
 | mark x k u=>exact u
 | _=>rfl
theorem eK{P:Program}{α β:Type}{m:Sem α}{f:α->Sem β}{w w':World}{a:α}(h:m.run P w=.ok a w') :
  (m >>= f).run P w=(f a).run P w':=by simp_all
theorem run_pure{P:Program}{α:Type}(a:α)(w:World):(pure a:Sem α).run P w=.ok a w:=rfl
abbrev FO(r:Option Nat):Fence:={Fence.wide with round:=r}
def DY{r:Option Nat}{p:Prop}:(FO r).depth.isSome=true->p:=λh=>by cases h
def zd{r:Option Nat}{n:Nat}{P:Program}{f:FuncId}{args:Array Value}{w:World}{R:Ending->hM}:CallsIn (FO r) n P f args w R↔Calls P f args w R:=
 callsIn_wide (n:=n)
def tV(K:Value->hM):Ending->hM:=λe w=>∃v,e=.returned v/\K v w
def tV.mono{K u:Value->hM}{e:Ending}{w:World}(h:tV K e w)(k:∀v w,K v w->u v w):tV u e w:=
 let ⟨v,B,E⟩:=h;⟨v,B,k _ _ E⟩
def Plain(P : Program)(f : FuncId) : Prop := ∃u, P.funcs[f]?=some u /\ (u.name == "runtime.NumGoroutine")=false /\ u.body.isNone=false
theorem Aa{P:Program}{f:FuncId}(h:Plain P f)(args:Array Value)(w:World) :
  (callFunc f args).run P w=.ok (.enter f args) w:=by
 obtain⟨u,h1,h2,h3⟩:=h
 show(match P.funcs[f]? with|none=>_|some u=>_:Sem Next).run P w=_
 rw[h1]
 simp[h2,h3]
structure eP(P:Program)(m:Sem Value)(K:Value->Prop):Prop where
 ex:∃v,pr P m=some v/\K v
structure Ke(P:Program)(m:Sem Value)(w:World)(K:Value->Prop):Prop where
 ex:∃v,m.run P w=.ok v w/\K v
structure qZ(P:Program)(m:Sem Value)(w:World)(K:Value->hM):Prop where
 ex:∃v w',m.run P w=.ok v w'/\K v w'
structure Vo(P:Program)(m:Sem Unit)(w:World)(K:hM):Prop where
 ex:∃w',m.run P w=.ok () w'/\K w'
structure Cv(P:Program)(f:FuncId)(args:List Value)(w:World)(K:Value->hM):Prop where
 ex:(Plain P f/\Calls P f args.toArray w (tV K))\/∃v w',(callFunc f args.toArray).run P w=.ok (.value v) w'/\K v w'
structure kI(P:Program)(fv:Value)(args:List Value)(w:World)(K:Value->hM):Prop where
 ex:(∃g first cap,fv=.func (.func g) first cap/\Plain P g/\Calls P g (first++args.toArray++cap) w (tV K))\/
  ∃l,fv=.func (.yield l) #[] #[]/\YieldAt (FO none) 0 P l args.toArray w (tV K)
structure yD(v:Value)(A B:Prop):Prop where
 ex:∃t,v=.bool t/\(t=true->A)/\(t=false->B)
structure Q9(P:Program)(m:Sem Value)(v:Value)(w:World)(R:Prop):Prop where
 aml:m.run P w=.ok v w
 rest:R
inductive DZ where
 | val (v:Value)
 | p (m:Sem Value)
 | q (m:Sem Value)
 | e (m:Sem Value)
 | u (m:Sem Unit)
 | call (f:FuncId) (args:List Value)
 | Ra (fv:Value) (args:List Value)
 | bad
def Vp:Operand->Bool|.const _=>true|_=>false
def Tz:Value->Sem Value
 | .pointer none|.nilIface|.nilFunc => stuck "nil"
 | .func (.method _) _ _ => stuck "method"
 | x=>pure x
def VN(c a b:Value):Sem Value:=do pure (if <- asBool c then a else b)
def abE(op:BinOp)(t:TypeId)(cx cy:Bool)(a b:Value):Sem Value:=
 match a,b with
 | .nilIface, .nilIface => if cx||cy then binOp op t a b else stuck "two nil interfaces"
 | .agg _, .agg _ => .program λp => if p.eqGuardType p.depth t then stuck "an interface in a part" else binOp op t a b
 | _,_=>binOp op t a b
def kj(op:BinOp)(t:TypeId)(cx cy:Bool)(a b:Value):Sem Value:=
 match op with
 | .eql=>abE .eql t cx cy a b
 | .neq=>abE .neq t cx cy a b
 | op=>binOp op t a b
def abF(P:Program)(op:BinOp)(t:TypeId)(x y:Operand):Bool:=
 match op with
 | .eql|.neq=>match P.underlying t with
  | some (.pointer _)|some .unsafePointer=>!(Vp x||Vp y)
  | _=>false
 | _=>false
def isMap(P:Program)(t:TypeId):Bool:=match P.underlying t with|some (.map _ _)|some (.chan _ _)=>true|_=>false
def amm(P:Program)(s d:TypeId):Nat:=
 match P.underlying d with
 | some (.slice _)=>2
 | some .string=>match P.underlying s with|some (.slice _)=>1|_=>0
 | _=>0
def Ab(P:Program)(o:Oper)(ρ:Operand->Value):DZ:=
 match o.op with
 | .move x|.assign x=>.val (ρ x)
 | .pick c a b=>.p (VN (ρ c) (ρ a) (ρ b))
 | .alloc t=>.e (Pw t true (.tuple #[]))
 | .box t x=>.e (zx t (ρ x))
 | .build t parts=>.p (l4 t (parts.toList.map λq=>(q.1,ρ q.2)).toArray)
 | .buildSlice t n parts=>.e (J8 t n (parts.toList.map λq=>(q.1,ρ q.2)).toArray)
 | .load t a=>.q (xR t (ρ a))
 | .store t a x=>.u (JB t (ρ a) (ρ x))
 | .nilCheck x=>.p (Tz (ρ x))
 | .binOp op t x y _=>if abF P op t x y then .q (kj op t (Vp x) (Vp y) (ρ x) (ρ y))else .p (kj op t (Vp x) (Vp y) (ρ x) (ρ y))
 | .unOp op _ x=>.p (Op.unary op (ρ x))
 | .convert s d x=>match amm P s d with|0=>.p (convert s d (ρ x))|1=>.q (convert s d (ρ x))|_=>.e (convert s d (ρ x))
 | .makeInterface t x=>.q (Instr.makeInterface t (ρ x))
 | .makeFunc fn first cap=>.val (.func fn (first.toList.map ρ).toArray (cap.toList.map ρ).toArray)
 | .makeMap t r=>.e (Instr.makeMap t (r.map ρ))
 | .makeSlice t l c=>.e (M4 t (ρ l) (ρ c))
 | .slice t x lo hi B=>.p (n4 t (ρ x) (lo.map ρ) (hi.map ρ) (B.map ρ))
 | .fieldAddr s x f=>.p (Fs s (ρ x) f)
 | .field t x f=>.p (Instr.field t (ρ x) f)
 | .indexAddr t x i=>.p (FI t (ρ x) (ρ i))
 | .index t x i=>.p (u4 t (ρ x) (ρ i))
 | .lookup t x i ok=>.q (Instr.lookup t (ρ x) (ρ i) ok)
 | .mapUpdate t m k x|.insert t m k x=>.u (Instr.mapUpdate t (ρ m) (ρ k) (ρ x))
 | .mapEntry t m k=>.e (Instr.mapEntry t (ρ m) (ρ k))
 | .entryStore t m s x=>.u (Instr.entryStore t (ρ m) (ρ s) (ρ x))
 | .range t x=>.e (Instr.range t (ρ x))
 | .next it s=>.e (Instr.next (ρ it) s o.type)
 | .entry it=>.q (Instr.entry (ρ it))
 | .typeAssert x t u ok=>.q (Instr.typeAssert (ρ x) t u ok)
 | .extract t i=>.p (Sd (ρ t) i)
 | .call c=>
  match c.callee with
  | .value (.func f)=>.call f (c.args.toList.map ρ)
  | .value x=>.Ra (ρ x) (c.args.toList.map ρ)
  | .invoke ..=>.bad
  | .builtin b=>
   match b with
   | .len=>if isMap P (c.argTypes.getD 0 0)then .q (Builtin.len_ c.argTypes o.type (c.args.toList.map ρ).toArray)else .p (Builtin.len_ c.argTypes o.type (c.args.toList.map ρ).toArray)
   | .cap=>.p (Builtin.cap_ c.argTypes o.type (c.args.toList.map ρ).toArray)
   | .min=>.p (Builtin.min_ c.argTypes o.type (c.args.toList.map ρ).toArray)
   | .max=>.p (Builtin.max_ c.argTypes o.type (c.args.toList.map ρ).toArray)
   | .append=>.e (Builtin.append_ c.argTypes o.type (c.args.toList.map ρ).toArray)
   | .copy=>.e (Builtin.copy_ c.argTypes o.type (c.args.toList.map ρ).toArray)
   | .clear=>.e (Builtin.clear_ c.argTypes o.type (c.args.toList.map ρ).toArray)
   | .delete=>.e (Builtin.delete_ c.argTypes o.type (c.args.toList.map ρ).toArray)
   | _=>.bad
 | _=>.bad
def GF(P:Program)(k:DZ)(K:Value->hM)(w:World):Prop:=
 match k with
 | .val v=>K v w
 | .p m=>eP P m (λv=>K v w)
 | .q m=>Ke P m w (λv=>K v w)
 | .e m=>qZ P m w K
 | .u m=>Vo P m w (λw'=>K undef w')
 | .call f args=>Cv P f args w K
 | .Ra fv args=>kI P fv args w K
 | .bad=>False
def DZ.quiet:DZ->Bool
 | .val _|.p _|.q _=>true
 | _=>false
def DZ.reads:DZ->Bool
 | .q _=>true
 | _=>false
def DZ.has(P:Program)(k:DZ)(w:World)(v:Value):Prop:=
 match k with
 | .val x=>x=v
 | .p m=>pr P m=some v
 | .q m=>m.run P w=.ok v w
 | _=>False
def GF.has{P:Program}{k:DZ}{K:Value->hM}{w:World}(u:k.quiet=true)(h:GF P k K w):∃v,k.has P w v/\K v w:=by
 cases k<;>simp only[DZ.quiet,Bool.false_eq_true]at u<;>simp only[GF]at h
 case val v=>exact⟨v,rfl,h⟩
 case p m=>exact h.ex
 case q m=>exact h.ex
def DZ.TA{P:Program}{k:DZ}{w w':World}{v:Value}(u:k.reads=false)(h:k.has P w v):k.has P w' v:=by
 cases k<;>simp only[DZ.has,DZ.reads,Bool.true_eq_false]at *
 .exact h
 exact h
def GF.VO{P:Program}{k:DZ}{K:Value->hM}{w:World}{v:Value}(h:k.has P w v)(B:K v w):GF P k K w:=by
 cases k<;>simp only[DZ.has]at h<;>simp only[GF]
 case val u=>grind
 case p m=>exact⟨v,h,B⟩
 case q m=>exact⟨v,h,B⟩
def GF.mono{P:Program}{k:DZ}{K E:Value->hM}{w:World}(h:GF P k K w)(B:∀v w,K v w->E v w):GF P k E w:=by
 cases k<;>simp only[GF]at *
 case val v=>grind
 case p m=>exact⟨let ⟨v,a,b⟩:=h.ex;⟨v,a,B _ _ b⟩⟩
 case q m=>exact⟨let ⟨v,a,b⟩:=h.ex;⟨v,a,B _ _ b⟩⟩
 case e m=>exact⟨let ⟨v,w',a,b⟩:=h.ex;⟨v,w',a,B _ _ b⟩⟩
 case u m=>exact⟨let ⟨w',a,b⟩:=h.ex;⟨w',a,B _ _ b⟩⟩
 case call f args=>
  rcases h.ex with⟨a,b⟩|⟨v,w',a,b⟩
  .exact⟨.inl ⟨a,b.mono λe w' r=>r.mono B⟩⟩
  .exact⟨.inr ⟨v,w',a,B _ _ b⟩⟩
 case Ra fv args=>
  rcases h.ex with⟨g,f,c,a,b,d⟩|⟨l,a,G,t,s,b,c,d⟩
  .exact⟨.inl ⟨g,f,c,a,b,d.mono λe w' r=>r.mono B⟩⟩
  .exact⟨.inr ⟨l,a,G,t,s,b,c,d.mono λe w' r=>r.mono B⟩⟩
def uu{r:Option Nat}{P:Program}{o:Oper}{a:Act}{w:World}:∀f,o.about P w a.eval=some f->(FO r).fn f:=λ_ _=>trivial
def Kn{r:Option Nat}{P:Program}{o:Oper}{a:Act}{next:Act->hM}{Q:Exit->Act->hM}{f:FuncId}{args:Array Value}{w:World}
  {K:Value->hM}(h:Calls P f args w (tV K)) (E:∀v w',K v w'->next (a.put o.dst v) w'):o.uponIn (FO r) 0 P a next Q (.ok (.enter f args) w):=by
 rw[Oper.uponIn_enter]
 refine⟨DY,zd.2 (h.mono λe w' ⟨v,u,B⟩=>?_)⟩
 grind
def Gd{r:Option Nat}{P:Program}{o:Oper}{a:Act}{next:Act->hM}{Q:Exit->Act->hM}{l:Nat}{f:FuncId}{tmps:Array Value}{assign body:Code}{w:World}
  {K:Value->hM}(h:RoundIn (FO none) 0 P l f tmps assign body w (tV K)) (G:∀v w',K v w'->next (a.put o.dst v) w'):o.uponIn (FO r) 0 P a next Q (.ok (.round l f tmps assign body) w):=by
 rw[Oper.uponIn_round]
 refine⟨DY,?_⟩
 have u:RoundIn (FO r) 0 P l f tmps assign body w (tV K):=h
 refine u.mono λe w' ⟨v,E,B⟩=>?_
 grind
def kJ{r:Option Nat}{P:Program}{o:Oper}{a:Act}{next:Act->hM}{Q:Exit->Act->hM}{w w':World}{v:Value}(u:∀c,o.op≠.defer c)
  (h:(execOp a.eval o).run P w=.ok (.value v) w') (B:next (a.put o.dst v) w'):o.wpIn (FO r) 0 P a w next Q:=by
 unfold Oper.wpIn;rw[Oper.semAt_eq _ _ _ u,h,Oper.uponIn_value];exact⟨uu,B⟩
def Ol{r:Option Nat}{P:Program}{o:Oper}{a:Act}{next:Act->hM}{Q:Exit->Act->hM}{w w':World}(u:∀c,o.op≠.defer c)
  (h:(execOp a.eval o).run P w=.ok .skip w') (B:next (a.put o.dst undef) w'):o.wpIn (FO r) 0 P a w next Q:=by
 unfold Oper.wpIn;rw[Oper.semAt_eq _ _ _ u,h,Oper.uponIn_skip];exact⟨uu,B⟩
def Ko{P:Program}{m:Sem Value}{w w':World}{v:Value}(h:m.run P w=.ok v w') :
  (do pure (.value (<- m)):Sem Next).run P w=.ok (.value v) w':=by simp_all
def amn{P:Program}{m:Sem Unit}{w w':World}(h:m.run P w=.ok () w') :
  (do m;pure .skip:Sem Next).run P w=.ok .skip w':=by simp_all
theorem Dg{α β:Type}(f:α->β)(l:Array α):(l.toList.map f).toArray=l.map f:=by
 grind
def eqG(t:TypeId)(x y:Operand)(a b:Value):Sem Unit:=
 match a,b with
 | .nilIface,.nilIface=>if (Vp x||Vp y)=true then pure ()else do
   if <- Op.eqGuardIn Op.maxDepth t a b then unsupported (.noEntry "binop/eql: two nil values of an interface type with methods, neither of them the literal nil")
 | .agg _,.agg _=>do
  if !(<- program).eqGuardType (<- program).depth t then return
  if <- Op.eqGuardIn Op.maxDepth t a b then unsupported (.noEntry "binop/eql: two nil values of an interface type with methods, in a part of a struct or an array")
 | _,_=>pure ()
def Cw{P:Program}{op:BinOp}(B:op=.eql\/op=.neq){t:TypeId}{x y:Operand}{a b:Value}{w w':World}{v:Value}
  (h:(abE op t (Vp x) (Vp y) a b).run P w=.ok v w'):(eqGuard op t x y a b).run P w=.ok () w/\(binOp op t a b).run P w=.ok v w':=by
 have u:eqGuard op t x y a b=eqG t x y a b:=by rcases B with rfl|rfl<;>cases x<;>cases y<;>rfl
 rw[u]
 clear u
 unfold eqG
 unfold abE at h
 split at h
 .split at h
  .simp_all
  simp_all
 .rename_i c1 c2
  have E : (if P.eqGuardType P.depth t then stuck "an interface in a part" else binOp op t (.agg c1) (.agg c2) : Sem Value).run P w=.ok v w' := h
  split at E
  .simp_all
  simp_all
 simp_all
def Kp{P:Program}{op:BinOp}{t:TypeId}{x y:Operand}{a b:Value}{w w':World}{v:Value}
  (h:(kj op t (Vp x) (Vp y) a b).run P w=.ok v w'):(do eqGuard op t x y a b;binOp op t a b:Sem Value).run P w=.ok v w':=by
 unfold kj at h
 split at h
 .obtain⟨h1,h2⟩:=Cw (.inl rfl) h
  simp_all
 .obtain⟨h1,h2⟩:=Cw (.inr rfl) h
  simp_all
 rename_i n1 n2
 have h1:(eqGuard op t x y a b).run P w=.ok () w:=by
  unfold eqGuard
  simp_all
 simp_all
theorem GF.wp{r:Option Nat}{ds:List Nat}{P:Program}{n:Nat}{o:Oper}{e:Env}{a:Act}{w:World}{K:Value->hM}{Q:Exit->Act->hM}{next:Act->hM}
  (ha:jC ds n e a) (h:GF P (Ab P o (ev e)) K w) (I:∀v w',K v w'->next (a.put o.dst v) w'):o.wpIn (FO r) 0 P a w next Q:=by
 have B:=ha.eval
 have G:∀c,o.op≠.defer c:=λc hc=>by unfold Ab at h;rw[hc]at h;exact h
 have V:∀{m:Sem Value},eP P m (λv=>K v w)->execOp (ev e) o=(do pure (.value (<- m)):Sem Next)->o.wpIn (FO r) 0 P a w next Q:=λM J=>by
  obtain⟨v,h1,h2⟩:=M.ex
  exact kJ (w':=w) G (by rw[B,J];exact Ko (fY h1 w)) (I _ _ h2)
 have Y:∀{m:Sem Value},Ke P m w (λv=>K v w)->execOp (ev e) o=(do pure (.value (<- m)):Sem Next)->o.wpIn (FO r) 0 P a w next Q:=λM J=>by
  obtain⟨v,h1,h2⟩:=M.ex
  exact kJ (w':=w) G (by rw[B,J];exact Ko h1) (I _ _ h2)
 have E:∀{m:Sem Value},qZ P m w K->execOp (ev e) o=(do pure (.value (<- m)):Sem Next)->o.wpIn (FO r) 0 P a w next Q:=λM J=>by
  obtain⟨v,w',h1,h2⟩:=M.ex
  exact kJ G (by rw[B,J];exact Ko h1) (I _ _ h2)
 have U:∀{m:Sem Unit},Vo P m w (λw'=>K undef w')->execOp (ev e) o=(do m;pure .skip:Sem Next)->o.wpIn (FO r) 0 P a w next Q:=λM J=>by
  obtain⟨w',h1,h2⟩:=M.ex
  exact Ol G (by rw[B,J];exact amn h1) (I _ _ h2)
 unfold Ab at h
 cases ki:o.op with
 | move x=>rw[ki]at h;exact kJ (w':=w) G (by rw[B];simp only[execOp,ki];rfl) (I _ _ h)
 | assign x=>rw[ki]at h;exact kJ (w':=w) G (by rw[B];simp only[execOp,ki];rfl) (I _ _ h)
 | pick c x y=>
  rw[ki]at h
  obtain⟨v,h1,h2⟩:=h.ex
  refine kJ (w':=w) G ?_ (I _ _ h2)
  rw[B];simp only[execOp,ki]
  have:=fY h1 w
  unfold VN at this
  revert this
  cases ev e c<;>simp only[asBool]<;>intro this<;>first|(simp only[stuck]at this;exact absurd this (by simp[Sem.run]))|skip
  case bool t=>
   have e2:v=(if t=true then ev e x else ev e y):=by
    have:(Result.ok (if t=true then ev e x else ev e y) w:Result Value)=.ok v w:=this
    simpa using this.symm
   rw[e2];rfl
 | alloc t=>rw[ki]at h;exact E h (by simp only[execOp,ki])
 | box t x=>rw[ki]at h;exact E h (by simp only[execOp,ki])
 | build t ps=>rw[ki]at h;exact V h (by simp only[execOp,ki,Dg])
 | buildSlice t n ps=>rw[ki]at h;exact E h (by simp only[execOp,ki,Dg])
 | insert t m k x=>rw[ki]at h;exact U h (by simp only[execOp,ki])
 | load t x=>rw[ki]at h;exact Y h (by simp only[execOp,ki])
 | store t x y=>rw[ki]at h;exact U h (by simp only[execOp,ki])
 | nilCheck x=>
  rw[ki]at h
  obtain⟨v,h1,h2⟩:=h.ex
  refine kJ (w':=w) G ?_ (I _ _ h2)
  rw[B];simp only[execOp,ki]
  revert h1
  cases J:ev e x with
  | pointer p=>cases p<;>simp[Tz,stuck,pr,fR]<;>(try(rintro rfl;rfl))
  | func fn f c=>cases fn<;>simp[Tz,stuck,pr,fR]<;>(try(rintro rfl;rfl))
  | _=>simp[Tz,stuck,pr,fR]<;>(try(rintro rfl;rfl))
 | binOp op t x y u=>
  rw[ki]at h
  dsimp only at h
  split at h
  .obtain⟨v,h1,h2⟩:=h.ex
   exact kJ (w':=w) G (by rw[B];simp only[execOp,ki];exact Ko (Kp h1)) (I _ _ h2)
  .obtain⟨v,h1,h2⟩:=h.ex
   exact kJ (w':=w) G (by rw[B];simp only[execOp,ki];exact Ko (Kp (fY h1 w))) (I _ _ h2)
 | unOp op t x=>rw[ki]at h;exact V h (by simp only[execOp,ki])
 | convert s d x=>
  rw[ki]at h
  dsimp only at h
  split at h
  .exact V h (by simp only[execOp,ki])
  .exact Y h (by simp only[execOp,ki])
  .exact E h (by simp only[execOp,ki])
 | makeInterface t x=>rw[ki]at h;exact Y h (by simp only[execOp,ki])
 | makeFunc fn f c=>rw[ki]at h;exact kJ (w':=w) G (by rw[B];simp only[execOp,ki,<- Dg];rfl) (I _ _ h)
 | makeMap t r=>rw[ki]at h;exact E h (by simp only[execOp,ki])
 | makeSlice t l c=>rw[ki]at h;exact E h (by simp only[execOp,ki])
 | slice t x lo hi mx=>rw[ki]at h;exact V h (by simp only[execOp,ki])
 | fieldAddr s x f=>rw[ki]at h;exact V h (by simp only[execOp,ki])
 | field t x f=>rw[ki]at h;exact V h (by simp only[execOp,ki])
 | indexAddr t x i=>rw[ki]at h;exact V h (by simp only[execOp,ki])
 | index t x i=>rw[ki]at h;exact V h (by simp only[execOp,ki])
 | lookup t x i ok=>rw[ki]at h;exact Y h (by simp only[execOp,ki])
 | mapUpdate t m k x=>rw[ki]at h;exact U h (by simp only[execOp,ki])
 | mapEntry t m k=>rw[ki]at h;exact E h (by simp only[execOp,ki])
 | entryStore t m s x=>rw[ki]at h;exact U h (by simp only[execOp,ki])
 | range t x=>rw[ki]at h;exact E h (by simp only[execOp,ki])
 | next it s=>rw[ki]at h;exact E h (by simp only[execOp,ki])
 | entry it=>rw[ki]at h;exact Y h (by simp only[execOp,ki])
 | typeAssert x t u ok=>rw[ki]at h;exact Y h (by simp only[execOp,ki])
 | extract t i=>rw[ki]at h;exact V h (by simp only[execOp,ki])
 | call c=>
  rw[ki]at h
  dsimp only at h
  have O:(c.args.toList.map (ev e)).toArray=c.args.map (ev e):=Dg _ _
  cases hc:c.callee with
  | value x=>
   rw[hc]at h
   have W:∀{g:FuncId}{first cap:Array Value},ev e x=.func (.func g) first cap->Plain P g->Calls P g (first++(c.args.toList.map (ev e)).toArray++cap) w (tV K)->o.wpIn (FO r) 0 P a w next Q:=by
    intro g first cap J M j5
    unfold Oper.wpIn
    rw[Oper.semAt_eq _ _ _ G]
    have hr:(execOp a.eval o).run P w=.ok (.enter g (first++(c.args.toList.map (ev e)).toArray++cap)) w:=by
     rw[B]
     simp only[execOp,ki]
     have h1:(resolve (ev e) c o.type).run P w=.ok {target:=.fn (.func g) cap,args:=first++c.args.map (ev e)} w:=by
      simp only[resolve,hc,J];rfl
     rw[eK h1]
     show(callFunc g (first++c.args.map (ev e)++cap)).run P w=_
     rw[Aa M,O]
    rw[hr]
    exact⟨uu,Kn j5 λv w' Z=>I v w' Z⟩
   have hyl:∀{l:Nat},ev e x=.func (.yield l) #[] #[]->YieldAt (FO none) 0 P l (c.args.toList.map (ev e)).toArray w (tV K)->o.wpIn (FO r) 0 P a w next Q:=by
    rintro l J ⟨fn,tmps,assign,body,hy,hr⟩
    unfold Oper.wpIn
    rw[Oper.semAt_eq _ _ _ G]
    have hr':(execOp a.eval o).run P w=.ok (.round l fn tmps assign body) w:=by
     rw[B]
     simp only[execOp,ki]
     have h1:(resolve (ev e) c o.type).run P w=.ok {target:=.fn (.yield l) #[],args:=#[]++c.args.map (ev e)} w:=by
      simp only[resolve,hc,J];rfl
     rw[eK h1]
     show(Instr.yield l (#[]++c.args.map (ev e))).run P w=_
     rw[U2,<- O];exact hy
    rw[hr']
    exact⟨uu,Gd hr λv w' Z=>I v w' Z⟩
   have wC:kI P (ev e x) (c.args.toList.map (ev e)) w K->o.wpIn (FO r) 0 P a w next Q:=λh=>by
    rcases h.ex with⟨g,first,cap,h1,h2,h3⟩|⟨l,h1,h2⟩
    .exact W h1 h2 h3
    .exact hyl h1 h2
   cases x with
   | func f=>
    rcases h.ex with⟨h1,h2⟩|⟨v,w',h1,h2⟩
    .exact W (g:=f) (first:=#[]) (cap:=#[]) rfl h1 (by simpa using h2)
    .refine kJ G ?_ (I _ _ h2)
     rw[B]
     simp only[execOp,ki]
     have h3:(resolve (ev e) c o.type).run P w=.ok {target:=.fn (.func f) #[],args:=#[]++c.args.map (ev e)} w:=by
      simp only[resolve,hc,ev];rfl
     rw[eK h3]
     show(callFunc f (#[]++c.args.map (ev e)++#[])).run P w=_
     rw[<- O,U2,Array.append_empty]
     exact h1
   | tmp t=>exact wC h
   | const v=>exact wC h
   | global g=>exact wC h
  | invoke r nm=>rw[hc]at h;exact h.elim
  | builtin b=>
   rw[hc]at h
   dsimp only at h
   have hb:∀{m:Sem Value},builtin b c.argTypes o.type (c.args.map fun|.const _=>true|_=>false) (c.args.map (ev e))=(do pure (.value (<- m)):Sem Next)->
     execOp (ev e) o=(do pure (.value (<- m)):Sem Next):=by
    intro m hm
    simp only[execOp,ki]
    have h1:resolve (ev e) c o.type=pure {target:=.builtin b c.argTypes o.type (c.args.map fun|.const _=>true|_=>false),args:=c.args.map (ev e)}:=by
     simp only[resolve,hc];rfl
    rw[h1]
    exact hm
   rw[O]at h
   cases b<;>first|exact h.elim|skip
   case len=>
    dsimp only at h
    split at h
    .exact Y h (hb rfl)
    .exact V h (hb rfl)
   case cap=>exact V h (hb rfl)
   case min=>exact V h (hb rfl)
   case max=>exact V h (hb rfl)
   case append=>exact E h (hb rfl)
   case copy=>exact E h (hb rfl)
   case clear=>exact E h (hb rfl)
   case delete=>exact E h (hb rfl)
 | _=>rw[ki]at h;exact h.elim
def pre(o:Oper):List Nat:=(o.after.toList.filter λe=>Region.binds .any e).map (·.on)
def BH(u:List Oper)(j:Nat):Option Nat:=(u[j]?).bind (·.dst)
def looks(u:List Oper)(o:Oper):List Nat:=
 (o.op.operands.toList.filterMap fun|.tmp t=>some t|_=>none)++(match o.guard with|some (j,_)=>(BH u j).toList|none=>[])
def oO(u:List Oper)(o:Oper)(e:Env):Bool:=
 match o.guard with
 | none=>true
 | some (j,b)=>match BH u j with
  | none=>false
  | some s=>match e s with
   | .bool B=>B == b
   | _=>false
theorem GG{ds:List Nat}{n:Nat}{e:Env}{a:Act}(h:jC ds n e a)(u:List Oper)(o:Oper):Region.wanted o (yielded u.toArray a.tmps)=oO u o e:=by
 unfold Region.wanted oO
 cases o.guard with
 | none=>rfl
 | some g=>
  obtain⟨j,b⟩:=g
  simp only[yielded,BH,Pp]
  cases (u[j]?).bind (·.dst)with
  | none=>simp
  | some s=>
   have B:=h.get s
   simp only[mQ]
   rw[<- B,CT]
   cases a.tmps[s]? with
   | none=>simp[undef]
   | some v=>grind
theorem TB{P:Program}{o:Oper}{ρ ρ':Operand->Value}(h:∀x∈o.op.operands,ρ x=ρ' x):Ab P o ρ=Ab P o ρ':=by
 unfold Ab
 cases ki:o.op<;>rw[ki]at h<;>simp only[Op.operands]at h<;>dsimp only
 case call c=>
  have G:∀x∈c.args,ρ x=ρ' x:=λx B=>h x (by simp[Call.operands,B])
  have E:c.args.toList.map ρ=c.args.toList.map ρ':=Bi λx B=>G x dD
  rw[E]
  cases hc:c.callee with
  | value x=>
   have B:ρ x=ρ' x:=h x (by simp[Call.operands,hc])
   grind
  | _=>rfl
 case build t ps=>
  have E:(ps.toList.map λq=>(q.1,ρ q.2))=ps.toList.map λq=>(q.1,ρ' q.2):=
   Bi λq I=>dD
  grind
 case buildSlice t n ps=>
  have E:(ps.toList.map λq=>(q.1,ρ q.2))=ps.toList.map λq=>(q.1,ρ' q.2):=
   Bi λq I=>dD
  grind
 case makeFunc fn f c=>
  simp_all
 case makeMap t r=>
  have:r.map ρ=r.map ρ':=by cases r with|none=>rfl|some x=>grind
  grind
 case slice t x lo hi mx=>
  have J:ρ x=ρ' x:=h x ei
  have h1:lo.map ρ=lo.map ρ':=by cases lo with|none=>rfl|some y=>grind
  have h2:hi.map ρ=hi.map ρ':=by cases hi with|none=>rfl|some y=>grind
  have h3:mx.map ρ=mx.map ρ':=by cases mx with|none=>rfl|some y=>grind
  grind
 case load t x=>grind
 case store t x y=>grind
 case pick c x y=>grind
 case binOp op t x y u=>grind
 case insert t m k x=>grind
 case mapUpdate t m k x=>grind
 case entryStore t m k x=>grind
 case mapEntry t m k=>grind
 case lookup t m k ok=>grind
 case indexAddr t m k=>grind
 case index t m k=>grind
 case makeSlice t m k=>grind
 all_goals grind
def ahs{e:Env}{d:Nat}{v:Value}{x:Operand}(h:x≠.tmp d):ev (zZ e d v) x=ev e x:=by
 cases x<;>simp only[ev]
 case tmp t=>exact oN _ _ λu=>h (by rw[u])
theorem Dh{P:Program}{B:List Oper}{o:Oper}{e:Env}{d:Option Nat}{v:Value}(h:∀k,d=some k->k ∉ looks B o) :
  Ab P o (ev (jX e d v))=Ab P o (ev e):=by
 cases d with
 | none=>rfl
 | some d=>
  refine TB λx E=>ahs λu=>h d rfl ?_
  subst u
  exact List.mem_append_left _ (P3.2 ⟨.tmp d,dD,rfl⟩)
theorem xS{u:List Oper}{o:Oper}{e:Env}{d:Option Nat}{v:Value}(h:∀k,d=some k->k ∉ looks u o) :
  oO u o (jX e d v)=oO u o e:=by
 cases d with
 | none=>rfl
 | some d=>
  have h:=h d rfl
  unfold oO
  unfold looks at h
  cases hg:o.guard with
  | none=>rfl
  | some g=>
   obtain⟨j,b⟩:=g
   rw[hg]at h
   dsimp only at h |-
   cases hs:BH u j with
   | none=>rfl
   | some s=>
    rw[hs]at h
    have:s≠d:=λB=>h (by simp[B])
    simp only[jX,oN _ _ this]
def VP(u:List Oper)(x y:Oper):Prop:=
 (∀d,x.dst=some d->d ∉ looks u y/\y.dst≠some d)/\(∀d,y.dst=some d->d ∉ looks u x)
theorem TC{e:Env}{d u:Option Nat}{v B:Value}(h:∀k,d=some k->u≠some k):jX (jX e d v) u B=jX (jX e u B) d v:=by
 cases d with
 | none=>rfl
 | some d=>cases u with
  | none=>rfl
  | some u=>exact VM _ _ _ λE=>h d rfl (by rw[E])
def Di(P:Program)(u:List Oper)(o:Oper)(K:Env->hM)(e:Env)(w:World):Prop:=
 if oO u o e=true then GF P (Ab P o (ev e)) (λv w'=>K (jX e o.dst v) w') w else K (jX e o.dst undef) w
def Di.mono{P:Program}{u:List Oper}{o:Oper}{K B:Env->hM}{e:Env}{w:World}(h:Di P u o K e w)
  (E:∀v w',K (jX e o.dst v) w'->B (jX e o.dst v) w'):Di P u o B e w:=by
 unfold Di at *
 split
 .rename_i hw;rw[ew hw]at h;exact h.mono λv w'=>E v w'
 grind
def Om(u:List Oper)(L:Nat->Bool)(i:Nat):Prop:=L i=false/\∃o,u[i]?=some o/\∀p∈pre o,L p=true
def mi(L:Nat->Bool)(i:Nat):Nat->Bool:=λk=>if k=i then true else L k
def Down(u:List Oper)(L:Nat->Bool):Prop:=∀i o,L i=true->u[i]?=some o->∀p∈pre o,L p=true
def TD(L:Nat->Bool)(i:Nat):mi L i i=true:=by simp[mi]
theorem Rb(L:Nat->Bool){i k:Nat}(h:k≠i):mi L i k=L k:=by simp[mi,h]
def It(L:Nat->Bool)(i:Nat){k:Nat}(h:L k=true):mi L i k=true:=by unfold mi;grind
theorem TE(L:Nat->Bool)(i j:Nat):mi (mi L i) j=mi (mi L j) i:=by
 grind[mi]
def Down.set{u:List Oper}{L:Nat->Bool}{i:Nat}(h:Down u L)(J:Om u L i):Down u (mi L i):=by
 intro k o B G p E
 by_cases e:k=i
 .subst e
  obtain⟨_,M,I,O⟩:=J
  grind[mi]
 rw[Rb _ e]at B
 exact It _ _ (h k o B G p E)
def Om.set{u:List Oper}{L:Nat->Bool}{i j:Nat}(h:Om u L j)(I:j≠i):Om u (mi L i) j:=
 ⟨by rw[Rb _ I];exact h.1,let ⟨o,G,E⟩:=h.2;⟨o,G,λp B=>It _ _ (E p B)⟩⟩
inductive On(ops:List Oper):Nat->Nat->Prop
 | one {j i:Nat}{o:Oper}(h:ops[j]?=some o) (hp:i∈pre o):On ops j i
 | more {j p i:Nat}{o:Oper}(h:ops[j]?=some o) (hp:p∈pre o) (hd:On ops p i):On ops j i
theorem On.listed{u:List Oper}{L:Nat->Bool}(G:Down u L){j i:Nat}(h:On u j i):(∀o,u[j]?=some o->∀p∈pre o,L p=true)->L i=true:=by
 induction h with
 | one h B=>grind
 | more h B O I=>intro M;exact I λo J q E=>G _ o (M _ h _ B) J q E
def On.Gf{u:List Oper}{L:Nat->Bool}(G:Down u L){j i:Nat}(h:On u j i)(E:Om u L j):L i=true:=
 h.listed G λo M p J=>by obtain⟨_,I,B,O⟩:=E;grind
def WS(P:Program)(u:List Oper)(Q:Env->hM)(S:Nat->hM):Nat->(Nat->Bool)->Env->hM
 | 0,L,e,w=>(∀i,¬ Om u L i)/\Q e w
 | f+1,L,e,w=>((∀i,¬ Om u L i)->Q e w)/\
   ∀i o,u[i]?=some o->Om u L i->Di P u o (λB w'=>(w'=w\/S i w')/\WS P u Q S f (mi L i) B w') e w
theorem WS.weaken{P:Program}{u:List Oper}{Q:Env->hM}{S E:Nat->hM}(h:∀i w,S i w->E i w) :
  ∀(f:Nat) (_L:Nat->Bool) (_e:Env) (_w:World),WS P u Q S f _L _e _w->WS P u Q E f _L _e _w
 | 0,_,_,_,B=>B
 | f+1,L,e,w,B=>⟨B.1,λi o G I=>(B.2 i o G I).mono λ_ _ ⟨h1,h2⟩=>⟨h1.imp id (h _ _),WS.weaken h f _ _ _ h2⟩⟩
theorem WS.first{P:Program}{B:List Oper}{Q:Env->hM}{S:Nat->hM}{i:Nat}{G:Oper}{X:DZ}{b:Bool}{v:Value}
  (hi:B[i]?=some G) (hn:b=false->v=undef) :
  ∀(f:Nat) (L:Nat->Bool) (e:Env) (w:World),Down B L->Om B L i->
   (∀j E,B[j]?=some E->j≠i->L j=false->i ∉ pre E->VP B G E)->
   Ab P G (ev e)=X->oO B G e=b->(b=true->X.has P w v)->
   WS P B Q (λj w'=>S j w'/\(On B j i\/(b=true->X.has P w' v))) f (mi L i) (jX e G.dst v) w->WS P B Q S (f+1) L e w:=by
 have done:∀(K:Env->hM) (e:Env) (w:World),Ab P G (ev e)=X->oO B G e=b->(b=true->X.has P w v)->K (jX e G.dst v) w->Di P B G K e w:=by
  intro K e w hX hb hy J
  unfold Di
  rw[hb]
  cases b with
  | true=>rw[ew rfl,hX];exact GF.VO (hy rfl) J
  | false=>grind
 have sub:∀{f:Nat}{L:Nat->Bool}{e:Env}{w:World},WS P B Q (λj w'=>S j w'/\(On B j i\/(b=true->X.has P w' v))) f L e w->WS P B Q S f L e w:=
  λh=>WS.weaken (λ_ _ h=>h.1) _ _ _ _ h
 intro f
 induction f with
 | zero=>
  intro L e w hL U Rc hX hb hy H
  refine⟨λh=>absurd U (h i),λj E Rd O=>?_⟩
  by_cases I:j=i
  .grind
  .exact absurd (O.set I) (H.1 j)
 | succ f ih=>
  intro L e w hL U Rc hX hb hy H
  refine⟨λh=>absurd U (h i),λj E Rd O=>?_⟩
  by_cases I:j=i
  .grind
  .have eG:i ∉ pre E:=λhp=>by
    obtain⟨_,W,Y,wD⟩:=O.2.elim λW h=>(⟨trivial,W,h.1,h.2⟩:True/\∃W,B[j]?=some W/\∀p∈pre W,L p=true)
    rw[Rd]at Y;cases Y
    have:=wD i hp
    rw[U.1]at this;cases this
   have M:=Rc j E Rd I O.1 eG
   have amo:¬ On B j i:=λhd=>by
    have:=hd.Gf hL O
    rw[U.1]at this;cases this
   have h1:=H.2 j E Rd (O.set I)
   have V:∀k,G.dst=some k->k ∉ looks B E:=λk J=>(M.1 k J).1
   have Z:∀k,E.dst=some k->k ∉ looks B G:=λk J=>M.2 k J
   have dd:∀k,G.dst=some k->E.dst≠some k:=λk J=>(M.1 k J).2
   have cont:∀(u:Value) (w':World),(w'=w\/(S j w'/\(On B j i\/(b=true->X.has P w' v))))->
     WS P B Q (λj w'=>S j w'/\(On B j i\/(b=true->X.has P w' v))) f (mi (mi L i) j) (jX (jX e G.dst v) E.dst u) w'->
     (w'=w\/S j w')/\WS P B Q S (f+1) (mi L j) (jX e E.dst u) w':=by
    intro u w' hw hWS
    refine⟨hw.imp id λh=>h.1,?_⟩
    refine ih (mi L j) (jX e E.dst u) w' (hL.set O) (U.set (Ne.symm I)) ?_ ?_ ?_ ?_ ?_
    .grind[mi,pre,VP]
    .rw[Dh Z];exact hX
    .rw[xS Z];exact hb
    .grind
    .rw[TE,TC λk J=>dD]
     exact hWS
   unfold Di at h1 |-
   rw[xS V]at h1
   split
   .rename_i hw
    rw[ew hw,Dh V]at h1
    exact h1.mono λu w' hh=>cont u w' hh.1 hh.2
   grind
def wr(u:List Oper):List Nat:=u.filterMap (·.dst)
def VQ{u:List Oper}{i:Nat}{o:Oper}{d:Nat}(h:u[i]?=some o)(B:o.dst=some d):d∈wr u:=
 P3.2 ⟨o,List.mem_of_getElem? h,B⟩
theorem ze{e e0:Env}{u:List Oper}{i:Nat}{o:Oper}(h:∀k,k ∉ wr u->e k=e0 k)(E:u[i]?=some o)(v:Value) :
  ∀k,k ∉ wr u->jX e o.dst v k=e0 k:=by
 intro k B
 cases hd:o.dst with
 | none=>exact h k B
 | some d=>
  have:k≠d:=λG=>B (by rw[G];exact VQ E hd)
  simp only[jX,oN _ _ this]
  grind
def Di.wpOp{r:Option Nat}{ds:List Nat}{P:Program}{n:Nat}{u:List Oper}{i:Nat}{o:Oper}{K:Env->hM}{E:Act->hM}{U:Exit->Act->hM}{e:Env}{a:Act}{w:World}
  (O:u[i]?=some o) (I:∀k,o.dst=some k->k<n) (B:jC ds n e a) (h:Di P u o K e w)
  (J:∀v G w',jC ds n (jX e o.dst v) G->K (jX e o.dst v) w'->E G w'):wpOpIn (FO r) 0 P u.toArray U i E a w:=by
 unfold Go.wpOpIn
 simp only[Pp,O]
 rw[GG B]
 unfold Di at h
 split
 .rename_i hw
  rw[ew hw]at h
  exact GF.wp B h λv w' M=>J v _ _ (B.put I v) M
 rename_i hw
 rw[ej hw]at h
 exact⟨uu,J undef _ _ (B.put I undef) h⟩
theorem WS.any{r:Option Nat}{ds:List Nat}{P:Program}{n:Nat}{u:List Oper}{Q:Env->hM}{Y:Exit->Act->hM}{S:Nat->hM}{e0:Env}
  (hd:∀d∈wr u,d<n) (W:∀e a w,jC ds n e a->(∀k,k ∉ wr u->e k=e0 k)->Q e w->Y .normal a w) :
  ∀(f:Nat) (L:Nat->Bool) (listed:Array Bool) (e:Env) (a:Act) (w:World),jC ds n e a->(∀k,k ∉ wr u->e k=e0 k)->listed.size=u.length->
   (∀i,listed.getD i false=L i)->WS P u Q S f L e w->wpAnyIn (FO r) 0 P .any u.toArray Y f listed a w:=by
 have B:∀(L:Nat->Bool) (listed:Array Bool) (_:listed.size=u.length) (_:∀i,listed.getD i false=L i) (i:Nat),
   i∈Region.ready .any u.toArray listed↔Om u L i:=by
  intro L listed G E i
  rw[mem_ready]
  have V:∀o,u[i]?=some o->listed.getD i true=L i:=λo I=>by
   grind
  unfold Om pre
  grind
 intro f
 induction f with
 | zero=>
  intro L listed e a w J M G E h
  refine⟨?_,W e a w J M h.2⟩
  cases O:Region.ready .any u.toArray listed with
  | nil=>rfl
  | cons i r=>exact absurd ((B L listed G E i).1 dD) (h.1 i)
 | succ f ih=>
  intro L listed e a w J M G E h
  refine⟨λhn=>W e a w J M (h.1 λi hi=>?_),λi hi=>?_⟩
  .have:=(B L listed G E i).2 hi
   grind
  .have O:=(B L listed G E i).1 hi
   obtain⟨o,I,_⟩:=O.2
   refine Di.wpOp I (λk hk=>hd k (VQ I hk)) J (h.2 i o I O) λv a' w' Iu Z=>?_
   refine ih (mi L i) _ _ a' w' Iu (ze M I v) dD (λk=>?_) Z.2
   have nP:i<listed.size:=dD
   have U:=E k
   simp only[CT]at U |-
   grind[mi]
def WS.region{r:Option Nat}{ds:List Nat}{P:Program}{n:Nat}{id:Nat}{u:List Oper}{Q:Env->hM}{E:Exit->Act->hM}{S:Nat->hM}{e:Env}{a:Act}{w:World}
  (I:P.follows .mixedOrders=true) (J:∀d∈wr u,d<n) (G:jC ds n e a)
  (M:∀B a w,jC ds n B a->(∀k,k ∉ wr u->B k=e k)->Q B w->E .normal a w)
  (h:WS P u Q S u.length (λ_=>false) e {w with drawn:=w.drawn+1}):(abp id u.toArray true).wpIn (FO r) 0 P E a w:=by
 refine wpIn_region_any I ?_
 rw[K9]
 refine WS.any J M u.length (λ_=>false) _ e a _ G (λ_ _=>rfl) ei (λi=>?_) h
 simp only[CT,Array.getElem?_replicate]
 grind
def lk(s:Nat):List (Nat×Option Bool)->Option (Option Bool)
 | []=>none
 | q::r=>bif Bn q.1 s then some q.2 else lk s r
def Iv(d:Nat):List (Nat×Option Bool)->List (Nat×Option Bool)
 | []=>[]
 | q::r=>bif Bn q.1 d then Iv d r else q::Iv d r
def del(d:Option Nat)(u:List (Nat×Option Bool)):List (Nat×Option Bool):=match d with|none=>u|some d=>Iv d u
def Dj(u:List (Nat×Option Bool)):Operand->Option Bool
 | .const (.bool b)=>some b
 | .tmp t=>match lk t u with|some b=>b|none=>none
 | _=>none
def afi(u:List (Nat×Option Bool)):Op->Option Operand
 | .move x=>some x
 | .assign x=>some x
 | .pick (.tmp c) a b=>match lk c u with|some (some t)=>some (bif t then a else b)|_=>none
 | _=>none
def VR(u:List (Nat×Option Bool))(d:Option Nat)(x:Operand):List (Nat×Option Bool):=
 match d,Dj u x with
 | some d,some b=>(d,some b)::Iv d u
 | d,_=>del d u
def ofK:Option Bool->Value|some b=>.bool b|none=>undef
def kB(u:List (Nat×Option Bool))(e:Env):Prop:=∀s b,lk s u=some b->e s=ofK b
theorem D0(n:Nat):Bn n n=true:=Nat.beq_refl n
theorem BI{a b:Nat}(h:a≠b):Bn a b=false:=by
 cases hh:Bn a b
 .rfl
 simp_all
theorem abJ(s d:Nat)(u:List (Nat×Option Bool)):lk s (Iv d u)=if s=d then none else lk s u:=by
 induction u with
 | nil=>simp[Iv,lk]
 | cons q r B=>
  simp only[Iv,lk]
  by_cases h1:q.1=d
  .rw[h1,D0,cond_true,B]
   by_cases h2:s=d
   .simp[h2]
   .rw[ej h2,ej h2,BI (λE=>h2 E.symm),cond_false]
  .rw[BI h1,cond_false]
   simp only[lk,B]
   by_cases h2:q.1=s
   .grind
   .rw[BI h2,cond_false,cond_false]
def kB.nil(e:Env):kB [] e:=λs b h=>by simp[lk]at h
theorem kB.del{E:List (Nat×Option Bool)}{e:Env}(h:kB E e)(d:Option Nat)(v:Value):kB (del d E) (jX e d v):=by
 cases d with
 | none=>exact h
 | some d=>
  intro s b B
  simp only[Fw.del,abJ]at B
  by_cases u:s=d
  .simp[u]at B
  .rw[ej u]at B
   simp only[jX,oN _ _ u]
   exact h s b B
def kB.cons{B:List (Nat×Option Bool)}{e:Env}(h:kB B e){s:Nat}{b:Option Bool}(E:e s=ofK b):kB ((s,b)::B) e:=by
 intro s' G u
 simp only[lk]at u
 by_cases h1:s=s'
 .subst h1;rw[D0,cond_true]at u;cases u;exact E
 rw[BI h1,cond_false]at u;exact h _ _ u
theorem kB.known{E:List (Nat×Option Bool)}{e:Env}(h:kB E e){x:Operand}{b:Bool}(B:Dj E x=some b):ev e x=.bool b:=by
 cases x with
 | tmp t=>
  have u:(match lk t E with|some b=>b|none=>none)=some b:=B
  split at u
  .rename_i b' hb;subst u;exact h t _ hb
  grind
 | const v=>cases v<;>simp[Dj]at B;simp[ev,B]
 | _=>simp[Dj]at B
def kB.aft{u:List (Nat×Option Bool)}{e:Env}(h:kB u e)(d:Option Nat)(x:Operand):kB (VR u d x) (jX e d (ev e x)):=by
 unfold VR
 split
 .rename_i d b hb
  have h1:=h.del (some d) (ev e x)
  exact kB.cons (b:=some b) h1 (by simp only[jX,nw];exact h.known hb)
 exact h.del _ _
def uw(P:Program)(u:List Oper)(r:Oper)(e:Env)(w:World)(R:Prop):Prop:=
 bif oO u r e then(match Ab P r (ev e),r.dst with|.q m,some d=>Q9 P m (e d) w R|_,_=>False)else R
def Ac(P:Program)(u:List Oper):List Oper->Env->World->Prop->Prop
 | [],_,_,R=>R
 | r::ks,e,w,R=>uw P u r e w (Ac P u ks e w R)
theorem Kq{P:Program}{u:List Oper}{ks:List Oper}{e:Env}{w:World}{R:Prop}:Ac P u ks e w R->(∀r∈ks,uw P u r e w True)/\R:=by
 induction ks with
 | nil=>intro h;exact⟨ei,h⟩
 | cons r ks B=>
  intro h
  have:uw P u r e w True/\Ac P u ks e w R:=by
   simp only[Ac,uw]at h |-
   cases hw:oO u r e with
   | false=>grind
   | true=>
    rw[hw]at h
    simp only[cond_true]at h |-
    cases hk:Ab P r (ev e)<;>rw[hk]at h<;>cases hd:r.dst<;>rw[hd]at h<;>first|grind|skip
    exact⟨⟨h.aml,trivial⟩,h.rest⟩
  grind
def D1(n:Nat)(o:Oper):Bool:=match o.dst with|none=>true|some d=>aaG d n
def goF(P:Program)(B:List Oper)(o:Oper)(ks:List Oper)(rec:List (Nat×Option Bool)->Env->hM)(u:List (Nat×Option Bool))(e:Env)(w:World):Prop:=
 match afi u o.op with
 | some x=>rec (VR u o.dst x) (jX e o.dst (ev e x)) w
 | none=>GF P (Ab P o (ev e)) (λv w'=>Ac P B ks (jX e o.dst v) w' (rec (del o.dst u) (jX e o.dst v) w')) w
def skF(o:Oper)(rec:List (Nat×Option Bool)->Env->hM)(u:List (Nat×Option Bool))(e:Env)(w:World):Prop:=
 rec (match o.dst with|some d=>(d,none)::Iv d u|none=>u) (jX e o.dst undef) w
theorem kB.skip{u:List (Nat×Option Bool)}{e:Env}(h:kB u e)(d:Option Nat) :
  kB (match d with|some d=>(d,none)::Iv d u|none=>u) (jX e d undef):=by
 cases d with
 | none=>exact h
 | some d=>exact kB.cons (b:=none) (h.del (some d) undef) (by simp only[jX,nw];rfl)
def DS(P:Program)(n:Nat)(u:List Oper)(q:Oper×List Oper)(rec:List (Nat×Option Bool)->Env->hM)(B:List (Nat×Option Bool))(e:Env)(w:World):Prop:=
  bif D1 n q.1 then
   match q.1.guard with
   | none=>goF P u q.1 q.2 rec B e w
   | some g=>match BH u g.1 with
    | none=>False
    | some s=>match lk s B with
     | some none=>skF q.1 rec B e w
     | some (some E)=>bif E == g.2 then goF P u q.1 q.2 rec B e w else skF q.1 rec B e w
     | none=>yD (e s)
       (bif g.2 then goF P u q.1 q.2 rec ((s,some true)::B) (zZ e s (.bool true)) w else skF q.1 rec ((s,some true)::B) (zZ e s (.bool true)) w)
       (bif g.2 then skF q.1 rec ((s,some false)::B) (zZ e s (.bool false)) w else goF P u q.1 q.2 rec ((s,some false)::B) (zZ e s (.bool false)) w)
  else False
def DR(P:Program)(n:Nat)(u:List Oper):List (Oper×List Oper)->(Env->hM)->List (Nat×Option Bool)->Env->hM
 | [],Q,_,e,w=>Q e w
 | q::rest,Q,kg,e,w=>DS P n u q (DR P n u rest Q) kg e w
def xU{P:Program}{u:List Oper}{o:Oper}{ks:List Oper}{rec:List (Nat×Option Bool)->Env->hM}{G:List (Nat×Option Bool)}{e:Env}{w:World}
  (B:kB G e) (h:goF P u o ks rec G e w) :
  GF P (Ab P o (ev e)) (λv w'=>(w'=w\/∀r∈ks,uw P u r (jX e o.dst v) w' True)/\∃E,kB E (jX e o.dst v)/\rec E (jX e o.dst v) w') w:=by
 unfold goF at h
 split at h
 .rename_i x hx
  have I:(Ab P o (ev e)).has P w (ev e x):=by
   unfold Ab
   cases ki:o.op<;>rw[ki]at hx<;>simp only[afi]at hx<;>first|cases hx|skip
   case move y=>simp only[DZ.has]
   case assign y=>simp only[DZ.has]
   case pick c a b=>
    cases c<;>simp only at hx<;>first|cases hx|skip
    rename_i c
    split at hx
    .rename_i t ht
     cases hx
     have hc:e c=.bool t:=B c _ ht
     simp only[DZ.has,ev,hc,VN]
     cases t<;>rfl
    .cases hx
  exact GF.VO I ⟨.inl rfl,_,B.aft _ _,h⟩
 refine h.mono λv w' J=>?_
 have:=Kq J
 exact⟨.inr this.1,_,B.del _ _,this.2⟩
theorem Iw{P:Program}{n:Nat}{u:List Oper}{q:Oper×List Oper}{rec:List (Nat×Option Bool)->Env->hM}{G:List (Nat×Option Bool)}{e:Env}{w:World}
  (B:kB G e) (h:DS P n u q rec G e w) :
  (∀d,q.1.dst=some d->d<n)/\
  Di P u q.1 (λV w'=>(w'=w\/∀r∈q.2,uw P u r V w' True)/\∃J,kB J V/\rec J V w') e w:=by
 unfold DS at h
 cases hd:D1 n q.1 with
 | false=>grind
 | true=>
  rw[hd]at h
  refine⟨λd Y=>by unfold D1 at hd;simp_all,?_⟩
  have O:∀{G:List (Nat×Option Bool)},kB G e->skF q.1 rec G e w->
    (w=w\/∀r∈q.2,uw P u r (jX e q.1.dst undef) w True)/\∃J,kB J (jX e q.1.dst undef)/\rec J (jX e q.1.dst undef) w:=
   λB h=>⟨.inl rfl,_,B.skip _,h⟩
  simp only[cond_true]at h
  unfold Di
  cases hg:q.1.guard with
  | none=>
   rw[hg]at h
   have U:oO u q.1 e=true:=by unfold oO;rw[hg]
   rw[ew U]
   exact xU B h
  | some g=>
   obtain⟨j,b⟩:=g
   rw[hg]at h
   dsimp only at h
   cases hs:BH u j with
   | none=>rw[hs]at h;exact h.elim
   | some s=>
    rw[hs]at h
    dsimp only at h
    have U:∀t,e s=.bool t->oO u q.1 e=(t == b):=λt ht=>by unfold oO;rw[hg];dsimp only;rw[hs];dsimp only;rw[ht]
    cases hl:lk s G with
    | some Z=>
     rw[hl]at h
     cases Z with
     | none=>
      dsimp only at h
      have hu:oO u q.1 e=false:=by
       unfold oO;rw[hg];dsimp only;rw[hs];dsimp only;rw[B s none hl];rfl
      rw[ej (by rw[hu];simp)]
      exact O B h
     | some W=>
      dsimp only at h
      rw[U W (B s _ hl)]
      cases hb:W == b with
      | true=>rw[hb]at h;rw[ew rfl];exact xU B h
      | false=>rw[hb]at h;rw[ej ei];exact O B h
    | none=>
     rw[hl]at h
     obtain⟨t,ht,M,E⟩:=h.ex
     rw[U t ht]
     have I:∀c,t=c->zZ e s (.bool c)=e:=λc hc=>ahr _ _ _ (by rw[ht,hc])
     cases t with
     | true=>
      have M:=M rfl
      rw[I true rfl]at M
      cases b with
      | true=>rw[ew (by rfl)];exact xU (B.cons (b:=some _) ht) M
      | false=>rw[ej ei];exact O (B.cons (b:=some _) ht) M
     | false=>
      have E:=E rfl
      rw[I false rfl]at E
      cases b with
      | true=>rw[ej ei];exact O (B.cons (b:=some _) ht) E
      | false=>rw[ew (by rfl)];exact xU (B.cons (b:=some _) ht) E
theorem DR.list{r:Option Nat}{ds:List Nat}{P:Program}{n:Nat}{u:List Oper}{Q:Env->hM}{Z:Exit->Act->hM}{e0:Env}
  (hQ:∀e a w,jC ds n e a->(∀k,k ∉ wr u->e k=e0 k)->Q e w->Z .normal a w) :
  ∀(l:List Oper) (I:List (Nat×Option Bool)) (e:Env) (a:Act) (w:World),(∀o∈l,o∈u)->jC ds n e a->(∀k,k ∉ wr u->e k=e0 k)->kB I e->
   DR P n u (l.map λo=>(o,[])) Q I e w->wpListIn (FO r) 0 P u.toArray Z l a w:=by
 intro l
 induction l with
 | nil=>intro I e a w _ B J _ h;exact hQ e a w B J h
 | cons o l V=>
  intro I e a w W B J hk h
  obtain⟨Y,E⟩:=Iw hk h
  obtain⟨i,hi⟩:=List.getElem?_of_mem (W o o1)
  have G:∀x∈l,x∈u:=λx hx=>W x (qX _ hx)
  unfold wpListIn
  rw[GG B]
  unfold Di at E
  split
  .rename_i hw
   rw[ew hw]at E
   exact GF.wp B E λv w' ⟨_,O,U,M⟩=>V O _ _ w' G (B.put Y v) (ze J hi v) U M
  .rename_i hw
   rw[ej hw]at E
   obtain⟨_,O,U,M⟩:=E
   exact⟨uu,V O _ _ w G (B.put Y undef) (ze J hi undef) U M⟩
def DR.region{r:Option Nat}{ds:List Nat}{P:Program}{n:Nat}{id:Nat}{u:List Oper}{Q:Env->hM}{E:Exit->Act->hM}{e:Env}{a:Act}{w:World}
  (G:jC ds n e a) (I:∀B a w,jC ds n B a->(∀k,k ∉ wr u->B k=e k)->Q B w->E .normal a w)
  (h:DR P n u (u.map λo=>(o,[])) Q [] e w):(abp id u.toArray false).wpIn (FO r) 0 P E a w:=
 wpIn_region_lit (DR.list I u [] e a w (λ_ h=>h) G (λ_ _=>rfl) (kB.nil e) h)
def Oo(P:Program)(o:Oper):Bool:=(Ab P o λ_=>undef).quiet
def Iy(P:Program)(o:Oper):Bool:=(Ab P o λ_=>undef).reads
theorem Ks{P:Program}{o:Oper}(ρ ρ':Operand->Value):(Ab P o ρ).quiet=(Ab P o ρ').quiet/\(Ab P o ρ).reads=(Ab P o ρ').reads:=by
 unfold Ab
 cases o.op<;>try exact⟨rfl,rfl⟩
 case binOp op t x y u=>dsimp only;split<;>exact⟨rfl,rfl⟩
 case convert s d x=>dsimp only;split<;>exact⟨rfl,rfl⟩
 case call c=>
  dsimp only
  cases c.callee with
  | value x=>cases x<;>exact⟨rfl,rfl⟩
  | invoke r nm=>grind
  | builtin b=>cases b<;>dsimp only<;>first|exact⟨rfl,rfl⟩|(split<;>exact⟨rfl,rfl⟩)
def iN(d:Nat):List Nat->Bool
 | []=>false
 | x::r=>Bn x d||iN d r
theorem Ad{d:Nat}{l:List Nat}:iN d l=true↔d∈l:=by
 induction l with
 | nil=>simp[iN]
 | cons x r u=>
  simp only[iN,xh,u,sl]
  constructor
  .rintro(h|h)
   .simp_all
   grind
  .rintro(rfl|h)
   .simp_all
   grind
def Re{d:Nat}{l:List Nat}:iN d l=false↔d ∉ l:=by
 rw[<- Ad];simp
def eqO(d:Nat):Option Nat->Bool|none=>false|some k=>Bn k d
theorem abL{d:Nat}{o:Option Nat}:eqO d o=true↔o=some d:=by
 cases o with
 | none=>simp[eqO]
 | some k=>simp_all[eqO]
def Iz(u:List Oper)(x y:Oper):Bool:=match y.dst with|none=>true|some d=>!iN d (looks u x)&&!eqO d x.dst
def BJ{u:List Oper}{x y:Oper}(h:Iz u x y=true):∀d,y.dst=some d->d ∉ looks u x/\x.dst≠some d:=by
 intro d B
 unfold Iz at h
 rw[B]at h
 simp only[ob,sk]at h
 exact⟨Re.1 h.1,λE=>by rw[<- abL]at E;grind⟩
def Oq(u:List Oper)(x y:Oper):Bool:=Iz u y x&&Iz u x y
def Ku{u:List Oper}{x y:Oper}(h:Oq u x y=true):VP u x y:=by
 simp only[Oq,ob]at h
 exact⟨λd B=>BJ h.1 d B,λd B=>(BJ h.2 d B).1⟩
def BK(f:Nat->Oper->Bool):Nat->List Oper->Bool
 | _,[]=>true
 | k,o::r=>f k o&&BK f (k+1) r
theorem oo{f:Nat->Oper->Bool}{l:List Oper}:∀{k:Nat},BK f k l=true->∀i o,l[i]?=some o->f (k+i) o=true:=by
 induction l with
 | nil=>grind
 | cons x r u=>
  grind[BK]
def CU:List Nat->Nat->Nat
 | [],_=>0
 | x::_,0=>x
 | _::r,n+1=>CU r n
def GH(u:List Nat):List Nat->Nat
 | []=>0
 | p::r=>N6 (N6 (J6 1 p) (CU u p)) (GH u r)
def GI(B:List Oper)(u:List Nat):Bool:=
 BK (λj o=>(pre o).all (λp=>aaG p j)&&Bn (CU u j) (GH u (pre o))) 0 B
theorem TF{u l:List Nat}{i:Nat}(h:(GH u l).testBit i=true):∃p∈l,p=i\/(CU u p).testBit i=true:=by
 induction l with
 | nil=>simp[GH]at h
 | cons p r E=>
  have B:(((1 <<< p) ||| CU u p) ||| GH u r).testBit i=true:=h
  simp only[SX,xh]at B
  rcases B with(B|B)|B
  .refine⟨p,ei,.inl ?_⟩
   rw[Q6,P2]at B
   grind
  .grind
  grind
theorem GJ{u:List Oper}{B:List Nat}(h:GI u B=true):∀(n j:Nat),j<n->j<u.length->∀i,(CU B j).testBit i=true->On u j i:=by
 intro n
 induction n with
 | zero=>omega
 | succ n J=>
  intro j O hlen i hi
  obtain⟨o,E⟩:∃o,u[j]?=some o:=⟨u[j],by simp[hlen]⟩
  have:=oo h j o E
  simp only[u1,ob,Fj]at this
  obtain⟨h1,h2⟩:=this
  have h2:=Pq h2
  rw[h2]at hi
  obtain⟨p,I,G⟩:=TF hi
  rcases G with rfl|G
  .exact .one E I
  .have M:p<j:=by simp_all
   exact .more E I (J p cK cK i G)
def bit(m i:Nat):Bool:=Nat.testBit m i
def GK(u:List Oper)(y:Oper):Bool:=match y.dst with|none=>false|some d=>!iN d (looks u y)
theorem Ot{u:List Oper}{y:Oper}(h:GK u y=true):∃d,y.dst=some d/\d ∉ looks u y:=by
 unfold GK at h
 cases hd:y.dst with
 | none=>grind
 | some d=>rw[hd]at h;exact⟨d,rfl,Re.1 dD⟩
def VS(P:Program)(u:List Oper)(B:List Nat)(m i:Nat)(ks:List Nat):Bool:=
 match u[i]? with
 | none=>false
 | some o=>
  !bit m i&&((pre o).all (λp=>bit m p) &&
  (bif Oo P o then
   BK (λj y=>Bn j i||(bit m j||(iN i (pre y)||Oq u o y))) 0 u
  else
   BK (λj y=>Bn j i||(bit m j||!(pre y).all λp=>bit m p)) 0 u &&
   (BK (λr y=>!bit m r||(!Iy P y||(bit (CU B i) r||iN r ks))) 0 u &&
   ks.all (λr=>match u[r]? with
    | none=>false
    | some y=>GK u y&&BK (λj z=>Bn j r||(bit (CU B r) j||Iz u y z)) 0 u))))
inductive PT where
 | nil
 | stop
 | op (i:Nat) (ks:List Nat) (r:PT)
 | alt (i:Nat) (ks:List Nat) (r o:PT)
def PT.of:List (Nat×List Nat)->PT
 | []=>.nil
 | q::r=>.op q.1 q.2 (PT.of r)
def PT.ids:PT->List Nat
 | .alt i _ _ o=>i::o.ids
 | _=>[]
def PT.many:PT->Bool
 | .alt _ _ _ _=>true
 | .op _ _ r=>r.many
 | _=>false
def afk(P:Program)(u:List Oper)(B:List Nat)(m i:Nat)(ks:List Nat):Bool:=
 match u[i]? with
 | none=>false
 | some o=>
  !bit m i&&((pre o).all (λp=>bit m p)&&(!Oo P o&&(
   (BK (λr y=>!bit m r||(!Iy P y||(bit (CU B i) r||iN r ks))) 0 u &&
   ks.all (λr=>match u[r]? with
    | none=>false
    | some y=>GK u y&&BK (λj z=>Bn j r||(bit (CU B r) j||Iz u y z)) 0 u)))))
def Rf(P:Program)(u:List Oper)(B:List Nat):Bool->Nat->Nat->PT->Bool
 | c,f,m,.nil=>!c&&(Bn f 0&&BK (λj _=>bit m j) 0 u)
 | c,_,_,.stop=>c
 | c,f,m,.op i ks r=>!c&&(match f with|0=>false|E+1=>VS P u B m i ks&&Rf P u B false E (N6 m (J6 1 i)) r)
 | c,f,m,.alt i ks r o=>(c||BK (λj y=>bit m j||(!(pre y).all (λp=>bit m p)||iN j (i::o.ids))) 0 u) &&
  ((match f with|0=>false|E+1=>afk P u B m i ks&&Rf P u B false E (N6 m (J6 1 i)) r)&&Rf P u B true f m o)
def GL(B:List Oper):List Nat:=B.foldl (λu o=>u++[GH u (pre o)]) []
def PT.run(k:Nat):Nat->PT
 | 0=>.nil
 | n+1=>.op k [] (PT.run (k+1) n)
def wj(u:List Oper)(i:Nat):Oper:=(u[i]?).getD default
def DT(P:Program)(n:Nat)(u:List Oper):PT->(Env->hM)->List (Nat×Option Bool)->Env->hM
 | .nil,Q,_,e,w=>Q e w
 | .stop,_,_,_,_=>True
 | .op i ks r,Q,B,e,w=>DS P n u (wj u i,ks.map (wj u)) (DT P n u r Q) B e w
 | .alt i ks r o,Q,B,e,w=>DS P n u (wj u i,ks.map (wj u)) (DT P n u r Q) B e w/\DT P n u o Q B e w
def DQ(P:Program)(u:List Oper):PT->(Env->hM)->Env->hM
 | .nil,Q,e,w=>Q e w
 | .stop,_,_,_=>True
 | .op i ks r,Q,e,w=>Di P u (wj u i) (λB w'=>(w'=w\/∀r∈ks.map (wj u),uw P u r B w' True)/\DQ P u r Q B w') e w
 | .alt i ks r o,Q,e,w=>Di P u (wj u i) (λB w'=>(w'=w\/∀r∈ks.map (wj u),uw P u r B w' True)/\DQ P u r Q B w') e w/\DQ P u o Q e w
theorem DT.plain{P:Program}{n:Nat}{B:List Oper}{Q:Env->hM}:∀(p:PT) (u:List (Nat×Option Bool)) (e:Env) (w:World),kB u e->DT P n B p Q u e w->DQ P B p Q e w:=by
 intro p
 induction p with
 | nil=>intro u e w _ h;exact h
 | stop=>intro u e w _ _;trivial
 | op i ks p I=>intro u e w E h;exact(Iw E h).2.mono λv w' ⟨h1,G,h2,h3⟩=>⟨h1,I G _ _ h2 h3⟩
 | alt i ks p o I J=>intro u e w E h;exact⟨(Iw E h.1).2.mono λv w' ⟨h1,G,h2,h3⟩=>⟨h1,I G _ _ h2 h3⟩,J u e w E h.2⟩
structure Tk where
 idx:Nat
 o:Oper
 b:Bool
 X:DZ
 v:Value
structure D2(P:Program)(ops:List Oper)(L:Nat->Bool)(T:List Tk)(e:Env):Prop where
 op:∀x∈T,ops[x.idx]?=some x.o
 listed:∀x∈T,L x.idx=true
 kind:∀x∈T,x.X.reads=Iy P x.o
 still:∀x∈T,x.X.reads=false->x.b=true->∀w,x.X.has P w x.v
 reads:∀x∈T,x.X.reads=true->(∀j z,ops[j]?=some z->j≠x.idx->On ops x.idx j\/Iz ops x.o z=true)->GK ops x.o=true->
  Ab P x.o (ev e)=x.X/\oO ops x.o e=x.b/\∃d,x.o.dst=some d/\(x.b=true->e d=x.v)
def ST(P:Program)(u:List Oper)(T:List Tk):Nat->hM:=λj w=>∀x∈T,On u j x.idx\/(x.b=true->x.X.has P w x.v)
def Rg{m i:Nat}:(λk=>bit (N6 m (J6 1 i)) k)=mi (λk=>bit m k) i:=by
 funext k
 show(m ||| 1 <<< i).testBit k=_
 rw[SX,Q6,P2]
 grind[mi,bit]
theorem D2.next{P:Program}{u:List Oper}{L:Nat->Bool}{T:List Tk}{e:Env}(h:D2 P u L T e)(V:Down u L){i:Nat}{o:Oper}(ho:u[i]?=some o)(hi:L i=false)(v:Value) :
  D2 P u (mi L i) T (jX e o.dst v):=by
 refine⟨h.op,λx E=>It _ _ (h.listed x E),h.kind,h.still,λx E hr Y I=>?_⟩
 obtain⟨h1,h2,d,W,h3⟩:=h.reads x E hr Y I
 have Ge:i≠x.idx:=λU=>by have:=h.listed x E;grind
 have G:Iz u x.o o=true:=by
  rcases Y i o ho Ge with amo|G
  .have:L i=true:=amo.listed V λZ J p hp=>V x.idx Z (h.listed x E) J p hp
   grind
  omega
 have B:=BJ G
 refine⟨by rw[Dh λk M=>(B k M).1];exact h1,by rw[xS λk M=>(B k M).1];exact h2,d,W,λhb=>?_⟩
 have:=h3 hb
 cases Kv:o.dst with
 | none=>exact this
 | some k=>
  have O:d≠k:=λU=>(B k Kv).2 (by rw[W,U])
  simp only[jX,oN _ _ O]
  exact this
theorem Kw{P:Program}{u:List Oper}{I:List Nat}(hc:GI u I=true){f m i:Nat}{ks:List Nat}{o:Oper}{T:List Tk}{e:Env}{w:World}{Q:Env->hM}{rec:Env->hM}
  (ho:u[i]?=some o) (U:bit m i=false) (hL:Down u (bit m)) (B:D2 P u (bit m) T e)
  (zh:∀(r:Nat) (y:Oper),u[r]?=some y->(!bit m r||(!Iy P y||(bit (CU I i) r||iN r ks)))=true)
  (Kx:∀r∈ks,(match u[r]? with|none=>false|some y=>GK u y&&BK (λj z=>Bn j r||(bit (CU I r) j||Iz u y z)) 0 u)=true)
  (iV:Di P u o (λM w'=>(w'=w\/∀r∈ks.map (wj u),uw P u r M w' True)/\rec M w') e w)
  (Y:∀v w',D2 P u (mi (bit m) i) T (jX e o.dst v)->rec (jX e o.dst v) w'->WS P u Q (ST P u T) f (mi (bit m) i) (jX e o.dst v) w') :
  Di P u o (λM w'=>(w'=w\/ST P u T i w')/\WS P u Q (ST P u T) f (mi (bit m) i) M w') e w:=by
 refine iV.mono λv w' hh=>?_
 obtain⟨G,Ae⟩:=hh
 have W:=B.next hL ho U v
 refine⟨?_,?_⟩
 .rcases G with hw|G
  .grind
  refine .inr λx E=>?_
  cases Vq:x.X.reads with
  | false=>exact .inr λhb=>B.still x E Vq hb w'
  | true=>
   have h1:=zh x.idx x.o (B.op x E)
   simp only[xh,sk]at h1
   rcases h1 with h1|h1|h1|h1
   .have:=B.listed x E;grind
   .have:=B.kind x E;grind
   .have D3:i<u.length:=(kp.1 ho).1
    exact .inl (GJ hc (i+1) i cK D3 _ h1)
   .have Z:=Ad.1 h1
    have h2:=Kx x.idx Z
    rw[B.op x E]at h2
    simp only[ob]at h2
    obtain⟨O,h2⟩:=h2
    have h2:=oo h2
    have V:x.idx<u.length:=(kp.1 (B.op x E)).1
    obtain⟨e1,e2,d,hd,e3⟩:=W.reads x E Vq (λk z hz Ge=>by
     have:=h2 k z hz
     simp only[u1,xh]at this
     rcases this with h3|h3|h3
     .simp_all
     .exact .inl (GJ hc (x.idx+1) x.idx cK V _ h3)
     grind) O
    refine .inr λhb=>?_
    have J:=G x.o (List.mem_map.2 ⟨x.idx,Z,by simp[wj,B.op x E]⟩)
    unfold uw at J
    rw[e2,hb,e1,hd]at J
    simp only[cond_true]at J
    cases hX:x.X<;>rw[hX]at J Vq<;>first|grind|cases Vq|skip
    have:=J.aml
    rw[e3 hb]at this
    exact this
 grind
theorem abN{P:Program}{u:List Oper}{Y:List Nat}{Q:Env->hM}(hc:GI u Y=true) :
  ∀(p:PT) (f m:Nat) (T:List Tk) (e:Env) (w:World),
   Down u (bit m)->D2 P u (bit m) T e->DQ P u p Q e w->
   (Rf P u Y false f m p=true->WS P u Q (ST P u T) f (bit m) e w)/\
   (Rf P u Y true f m p=true->∀j∈p.ids,∃f',f=f'+1/\Om u (bit m) j/\∀U,u[j]?=some U->Di P u U (λZ w'=>(w'=w\/ST P u T j w')/\WS P u Q (ST P u T) f' (mi (bit m) j) Z w') e w):=by
 intro p
 induction p with
 | nil=>
  intro f m T e w W hT h
  refine⟨λB=>?_,λ_ j I=>by cases I⟩
  simp only[Rf,N8,yU,ob]at B
  have wD:=oo B.2
  rw[Pq B.1]
  refine⟨λi hr=>?_,h⟩
  obtain⟨h0,o,J,_⟩:=hr
  grind
 | stop=>
  intro f m T e w W hT h
  exact⟨λB=>by simp[Rf]at B,λ_ j I=>by cases I⟩
 | op i ks p ih=>
  intro f m T e w W hT h
  refine⟨λB=>?_,λ_ j I=>by cases I⟩
  simp only[Rf,N8,yU]at B
  cases f with
  | zero=>cases B
  | succ f=>
   simp only[ob]at B
   obtain⟨G,B⟩:=B
   unfold VS at G
   cases J:u[i]? with
   | none=>rw[J]at G;cases G
   | some o=>
   rw[J]at G
   simp only[ob,sk,Fj]at G
   obtain⟨O,ahx,G⟩:=G
   have hr:Om u (bit m) i:=⟨O,o,J,ahx⟩
   have eG:wj u i=o:=by simp[wj,J]
   have V:Di P u (wj u i) (λZ w'=>(w'=w\/∀r∈ks.map (wj u),uw P u r Z w' True)/\DQ P u p Q Z w') e w:=h
   rw[eG]at V
   have Gg:(bit (N6 m (J6 1 i)))=mi (bit m) i:=Rg
   have hL':Down u (mi (bit m) i):=W.set hr
   cases hq:Oo P o with
   | true=>
    rw[hq]at G
    simp only[cond_true]at G
    have Rc:=oo G
    have hqq:∀ρ,(Ab P o ρ).quiet=true:=λρ=>by rw[(Ks ρ λ_=>undef).1];exact hq
    obtain⟨b,v,hb,hn,hy,Ae⟩:∃b v,oO u o e=b/\(b=false->v=undef)/\(b=true->(Ab P o (ev e)).has P w v)/\
      DQ P u p Q (jX e o.dst v) w:=by
     unfold Di at V
     cases hb:oO u o e with
     | true=>
      rw[ew hb]at V
      obtain⟨v,hv,_,Ae⟩:=V.has (hqq _)
      exact⟨true,v,rfl,ei,λ_=>hv,Ae⟩
     | false=>
      rw[ej (by rw[hb];simp)]at V
      obtain⟨_,Ae⟩:=V
      exact⟨false,undef,rfl,λ_=>rfl,ei,Ae⟩
    refine WS.first (X:=Ab P o (ev e)) J hn f (bit m) e w W hr ?_ rfl hb hy ?_
    .intro j U Rd hji aub eG
     have:=Rc j U Rd
     simp only[u1,xh]at this
     rcases this with h1|h1|h1|h1
     .exact absurd (Pq h1) hji
     .rw[aub]at h1;cases h1
     .exact absurd (Ad.1 h1) eG
     .exact Ku h1
    .have hT':D2 P u (mi (bit m) i) (⟨i,o,b,Ab P o (ev e),v⟩::T) (jX e o.dst v):=by
      have M:=hT.next W J O v
      constructor
      .intro x E;rcases sl.1 E with rfl|E
       .exact J
       .exact M.op x E
      .intro x E;rcases sl.1 E with rfl|E
       .exact TD _ _
       .exact M.listed x E
      .intro x E;rcases sl.1 E with rfl|E
       .exact(Ks _ _).2
       .exact M.kind x E
      .intro x E;rcases sl.1 E with rfl|E
       .intro h1 h2 w';exact DZ.TA h1 (hy h2)
       .exact M.still x E
      .intro x E;rcases sl.1 E with rfl|E
       .intro h1 h2 h3
        obtain⟨d,hd,Kh⟩:=Ot h3
        dsimp only at hd Kh |-
        have hh:∀k,o.dst=some k->k ∉ looks u o:=λk hk=>by rw[hd]at hk;cases hk;exact Kh
        refine⟨Dh hh,by rw[xS hh];exact hb,d,hd,λ_=>?_⟩
        rw[hd];exact nw _ _ _
       .exact M.reads x E
     have:=(ih f _ _ _ w (by rw[Gg];exact hL') (by rw[Gg];exact hT') Ae).1 B
     rw[Gg]at this
     refine WS.weaken (λj w' I=>?_) _ _ _ _ this
     exact⟨λx E=>I x (qX _ E),I _ o1⟩
   | false=>
    rw[hq]at G
    simp only[cond_false,ob,Fj]at G
    obtain⟨VT,zh,Kx⟩:=G
    have VT:=oo VT
    have zh:=oo zh
    refine⟨λeG=>absurd hr (eG i),λj U Rd I=>?_⟩
    have hji:j=i:=by
     have:=VT j U Rd
     simp only[u1,xh,sk]at this
     rcases this with h1|h1|h1
     .simp_all
     .have:=I.1;grind
     .obtain⟨_,o',ho',wD⟩:=I
      grind
    subst hji
    rw[J]at Rd;cases Rd
    refine Kw hc J O W hT (λr y hy=>dD) Kx V λv w' M Ae=>?_
    grind
 | alt i ks p o' ih ih2=>
  intro f m T e w W hT h
  obtain⟨h1,h2⟩:Di P u (wj u i) (λZ w'=>(w'=w\/∀r∈ks.map (wj u),uw P u r Z w' True)/\DQ P u p Q Z w') e w/\DQ P u o' Q e w:=h
  have chain:∀c,Rf P u Y c f m (.alt i ks p o')=true->∀j∈i::o'.ids,∃f',f=f'+1/\Om u (bit m) j/\∀U,u[j]?=some U->Di P u U (λZ w'=>(w'=w\/ST P u T j w')/\WS P u Q (ST P u T) f' (mi (bit m) j) Z w') e w:=by
   intro c B
   simp only[Rf,ob]at B
   obtain⟨_,B,hp2⟩:=B
   cases f with
   | zero=>cases B
   | succ f=>
    simp only[ob]at B
    obtain⟨G,B⟩:=B
    intro j I
    rcases sl.1 I with rfl|I
    .unfold afk at G
     cases J:u[j]? with
     | none=>rw[J]at G;cases G
     | some o=>
      rw[J]at G
      simp only[ob,sk,Fj]at G
      obtain⟨O,ahx,_,zh,Kx⟩:=G
      have hr:Om u (bit m) j:=⟨O,o,J,ahx⟩
      refine⟨f,rfl,hr,λU Rd=>?_⟩
      cases Rd
      have zh:=oo zh
      have eG:wj u j=o:=by simp[wj,J]
      rw[eG]at h1
      have V:=h1
      have Gg:(bit (N6 m (J6 1 j)))=mi (bit m) j:=Rg
      have hL':Down u (mi (bit m) j):=W.set hr
      refine Kw hc J O W hT (λr y hy=>dD) Kx V λv w' M Ae=>?_
      grind
    .exact(ih2 (f+1) m T e w W hT h2).2 hp2 j I
  refine⟨λB=>?_,λB=>chain true B⟩
  have hch:=chain false B
  simp only[Rf,Bool.false_or,ob]at B
  have auc:=oo B.1
  obtain⟨f',rfl,hri,_⟩:=hch i o1
  refine⟨λeG=>absurd hri (eG i),λj U Rd I=>?_⟩
  have Ky:j∈i::o'.ids:=by
   have:=auc j U Rd
   simp only[u1,xh,sk]at this
   rcases this with h3|h3|h3
   .have:=I.1;grind
   .obtain⟨_,o2,ho2,wD⟩:=I
    grind
   .exact Ad.1 h3
  obtain⟨f2,hf,_,V⟩:=hch j Ky
  simp_all
structure yE(F:(hM)->Prop)(G:hM):Prop where
 ex:∃I:hM,F I/\∀w,I w->G w
structure Ri(B:(hM)->hM)(F:(hM)->Prop):Prop where
 ex:∃I:Nat->hM,(∃m,F (I m))/\∀m w,I m w->B (λw'=>∃m',m'<m/\I m' w') w
structure eT(F:(Value->hM)->Prop)(G:Value->hM):Prop where
 ex:∃I:Value->hM,F I/\∀x0 w,I x0 w->G x0 w
structure kK(B:(Value->hM)->Value->hM)(F:(Value->hM)->Prop):Prop where
 ex:∃I:Nat->Value->hM,(∃m,F (I m))/\∀m x0 w,I m x0 w->B (λy0 w'=>∃m',m'<m/\I m' y0 w') x0 w
structure GM(F:(Value->Value->hM)->Prop)(G:Value->Value->hM):Prop where
 ex:∃I:Value->Value->hM,F I/\∀x0 x1 w,I x0 x1 w->G x0 x1 w
structure oq(B:(Value->Value->hM)->Value->Value->hM)(F:(Value->Value->hM)->Prop):Prop where
 ex:∃I:Nat->Value->Value->hM,(∃m,F (I m))/\∀m x0 x1 w,I m x0 x1 w->B (λy0 y1 w'=>∃m',m'<m/\I m' y0 y1 w') x0 x1 w
structure ams(F:(Value->Value->Value->hM)->Prop)(G:Value->Value->Value->hM):Prop where
 ex:∃I:Value->Value->Value->hM,F I/\∀x0 x1 x2 w,I x0 x1 x2 w->G x0 x1 x2 w
structure afn(B:(Value->Value->Value->hM)->Value->Value->Value->hM)(F:(Value->Value->Value->hM)->Prop):Prop where
 ex:∃I:Nat->Value->Value->Value->hM,(∃m,F (I m))/\∀m x0 x1 x2 w,I m x0 x1 x2 w->B (λy0 y1 y2 w'=>∃m',m'<m/\I m' y0 y1 y2 w') x0 x1 x2 w
structure amt(F:(Value->Value->Value->Value->hM)->Prop)(G:Value->Value->Value->Value->hM):Prop where
 ex:∃I:Value->Value->Value->Value->hM,F I/\∀x0 x1 x2 x3 w,I x0 x1 x2 x3 w->G x0 x1 x2 x3 w
structure amu(B:(Value->Value->Value->Value->hM)->Value->Value->Value->Value->hM)(F:(Value->Value->Value->Value->hM)->Prop):Prop where
 ex:∃I:Nat->Value->Value->Value->Value->hM,(∃m,F (I m))/\∀m x0 x1 x2 x3 w,I m x0 x1 x2 x3 w->B (λy0 y1 y2 y3 w'=>∃m',m'<m/\I m' y0 y1 y2 y3 w') x0 x1 x2 x3 w
structure amv(F:(Value->Value->Value->Value->Value->hM)->Prop)(G:Value->Value->Value->Value->Value->hM):Prop where
 ex:∃I:Value->Value->Value->Value->Value->hM,F I/\∀x0 x1 x2 x3 x4 w,I x0 x1 x2 x3 x4 w->G x0 x1 x2 x3 x4 w
structure amw(B:(Value->Value->Value->Value->Value->hM)->Value->Value->Value->Value->Value->hM)(F:(Value->Value->Value->Value->Value->hM)->Prop):Prop where
 ex:∃I:Nat->Value->Value->Value->Value->Value->hM,(∃m,F (I m))/\∀m x0 x1 x2 x3 x4 w,I m x0 x1 x2 x3 x4 w->B (λy0 y1 y2 y3 y4 w'=>∃m',m'<m/\I m' y0 y1 y2 y3 y4 w') x0 x1 x2 x3 x4 w
def lkv(i:Nat):List (Nat×Value)->Value->Value
 | [],d=>d
 | q::r,d=>bif Bn q.1 i then q.2 else lkv i r d
def Gh(e:Env)(M:Nat)(bs:List (Nat×Value))(dead:Env):Env:=λi=>bif bit M i then lkv i bs (dead i)else e i
def Af(l:List Nat)(F:(Env->hM)->Prop)(G:List (Nat×Value)->hM):Prop:=
 match l with
 | []=>yE (λK=>F λe w=>K w) (λw=>G [] w)
 | [u]=>eT (λK=>F λe w=>K (e u) w) (λE w=>G [(u,E)] w)
 | [u,B]=>GM (λK=>F λe w=>K (e u) (e B) w) (λE J w=>G [(u,E),(B,J)] w)
 | [u,B,I]=>ams (λK=>F λe w=>K (e u) (e B) (e I) w) (λE J M w=>G [(u,E),(B,J),(I,M)] w)
 | [u,B,I,O]=>amt (λK=>F λe w=>K (e u) (e B) (e I) (e O) w) (λE J M U w=>G [(u,E),(B,J),(I,M),(O,U)] w)
 | [u,B,I,O,V]=>amv (λK=>F λe w=>K (e u) (e B) (e I) (e O) (e V) w) (λE J M U W w=>G [(u,E),(B,J),(I,M),(O,U),(V,W)] w)
 | _=>False
def Ag(l:List Nat)(B:(Env->hM)->List (Nat×Value)->hM)(e:Env)(w:World):Prop:=
 match l with
 | []=>Ri (λK w=>B (λu w'=>K w') [] w) (λK=>K w)
 | [E]=>kK (λK J w=>B (λu w'=>K (u E) w') [(E,J)] w) (λK=>K (e E) w)
 | [E,G]=>oq (λK J M w=>B (λu w'=>K (u E) (u G) w') [(E,J),(G,M)] w) (λK=>K (e E) (e G) w)
 | [E,G,I]=>afn (λK J M U w=>B (λu w'=>K (u E) (u G) (u I) w') [(E,J),(G,M),(I,U)] w) (λK=>K (e E) (e G) (e I) w)
 | [E,G,I,O]=>amu (λK J M U V w=>B (λu w'=>K (u E) (u G) (u I) (u O) w') [(E,J),(G,M),(I,U),(O,V)] w) (λK=>K (e E) (e G) (e I) (e O) w)
 | [E,G,I,O,W]=>amw (λK J M U V Y w=>B (λu w'=>K (u E) (u G) (u I) (u O) (u W) w') [(E,J),(G,M),(I,U),(O,V),(W,Y)] w) (λK=>K (e E) (e G) (e I) (e O) (e W) w)
 | _=>False
def jK(l:List Nat)(e:Env):List (Nat×Value):=l.map λa=>(a,e a)
def Af.spec{l:List Nat}{F:(Env->hM)->Prop}{G:List (Nat×Value)->hM}(h:Af l F G) :
  ∃I:List (Nat×Value)->hM,F (λe w=>I (jK l e) w)/\∀(e:Env) w,I (jK l e) w->G (jK l e) w:=by
 unfold Af at h
 split at h
 .obtain⟨I,h1,h2⟩:=h.ex
  exact⟨λ_ w=>I w,h1,λ_ w hi=>h2 w hi⟩
 .obtain⟨I,h1,h2⟩:=h.ex
  exact⟨λq w=>match q with|[u]=>I u.2 w|_=>False,h1,λe w hi=>h2 _ w hi⟩
 .obtain⟨I,h1,h2⟩:=h.ex
  exact⟨λq w=>match q with|[u,B]=>I u.2 B.2 w|_=>False,h1,λe w hi=>h2 _ _ w hi⟩
 .obtain⟨I,h1,h2⟩:=h.ex
  exact⟨λq w=>match q with|[u,B,E]=>I u.2 B.2 E.2 w|_=>False,h1,λe w hi=>h2 _ _ _ w hi⟩
 .obtain⟨I,h1,h2⟩:=h.ex
  exact⟨λq w=>match q with|[u,B,E,J]=>I u.2 B.2 E.2 J.2 w|_=>False,h1,λe w hi=>h2 _ _ _ _ w hi⟩
 .obtain⟨I,h1,h2⟩:=h.ex
  exact⟨λq w=>match q with|[u,B,E,J,M]=>I u.2 B.2 E.2 J.2 M.2 w|_=>False,h1,λe w hi=>h2 _ _ _ _ _ w hi⟩
 grind
def Ag.spec{l:List Nat}{B:(Env->hM)->List (Nat×Value)->hM}{e:Env}{w:World}(h:Ag l B e w) :
  ∃I:Nat->List (Nat×Value)->hM,(∃m,I m (jK l e) w)/\
   ∀m e w,I m (jK l e) w->B (λU w'=>∃M,M<m/\I M (jK l U) w') (jK l e) w:=by
 unfold Ag at h
 split at h
 .obtain⟨I,⟨m,h1⟩,h2⟩:=h.ex
  exact⟨λm _ w=>I m w,⟨m,h1⟩,λm _ w hi=>h2 m w hi⟩
 .obtain⟨I,⟨m,h1⟩,h2⟩:=h.ex
  exact⟨λm q w=>match q with|[u]=>I m u.2 w|_=>False,⟨m,h1⟩,λm e w hi=>h2 m _ w hi⟩
 .obtain⟨I,⟨m,h1⟩,h2⟩:=h.ex
  exact⟨λm q w=>match q with|[u,E]=>I m u.2 E.2 w|_=>False,⟨m,h1⟩,λm e w hi=>h2 m _ _ w hi⟩
 .obtain⟨I,⟨m,h1⟩,h2⟩:=h.ex
  exact⟨λm q w=>match q with|[u,E,G]=>I m u.2 E.2 G.2 w|_=>False,⟨m,h1⟩,λm e w hi=>h2 m _ _ _ w hi⟩
 .obtain⟨I,⟨m,h1⟩,h2⟩:=h.ex
  exact⟨λm q w=>match q with|[u,E,G,J]=>I m u.2 E.2 G.2 J.2 w|_=>False,⟨m,h1⟩,λm e w hi=>h2 m _ _ _ _ w hi⟩
 .obtain⟨I,⟨m,h1⟩,h2⟩:=h.ex
  exact⟨λm q w=>match q with|[u,E,G,J,O]=>I m u.2 E.2 G.2 J.2 O.2 w|_=>False,⟨m,h1⟩,λm e w hi=>h2 m _ _ _ _ _ w hi⟩
 grind
def VU(m d:Nat):Nat:=N6 m (J6 1 d)
def amx(m d:Nat):Nat:=bif bit m d then Nat.sub m (J6 1 d)else m
def zi:List Nat->Nat
 | []=>0
 | d::r=>VU (zi r) d
def wE:List Operand->Nat->Nat
 | [],m=>m
 | .tmp t::r,m=>VU (wE r m) t
 | _::r,m=>wE r m
def lkX(id:Nat):List (Nat×Nat)->Nat
 | []=>0
 | q::r=>bif Bn q.1 id then q.2 else lkX id r
def VV:List Oper->Nat->Nat
 | [],lo=>lo
 | o::r,lo=>wE o.op.operands.toList (match o.dst with|some d=>amx (VV r lo) d|none=>VV r lo)
def amy:List Nat->Nat->Nat
 | [],m=>m
 | d::r,m=>amy r (amx m d)
def li(rl:Nat):Code->List (Nat×Nat)->Nat->Nat
 | .skip,_,lo=>lo
 | .ret,_,_=>rl
 | .exit id,X,_=>lkX id X
 | .region _ ops _,_,lo=>VV ops.toList lo
 | .seq a b,X,lo=>li rl a X (li rl b X lo)
 | .cond c a b,X,lo=>wE [c] (N6 (li rl a X lo) (li rl b X lo))
 | .block id c,X,lo=>li rl c ((id,lo)::X) lo
 | .loop c,X,_=>li rl c X (li rl c X 0)
 | .rangeFunc g ps a b,X,lo=>wE [g] (N6 lo (amy ps.toList (li rl a X (li rl b X lo))))
 | _,_,_=>0
def fH:Code->Bool
 | .seq a b=>fH a||fH b
 | .cond _ a b=>fH a||fH b
 | .block _ c=>fH c
 | .loop c=>fH c
 | .rangeFunc _ _ _ _=>true
 | _=>false
def iW:Code->Nat
 | .region _ ops _=>zi (wr ops.toList)
 | .seq a b=>N6 (iW a) (iW b)
 | .cond _ a b=>N6 (iW a) (iW b)
 | .block _ c=>iW c
 | .loop c=>iW c
 | _=>0
def guarded:List Oper->Bool
 | []=>false
 | o::r=>o.guard.isSome||guarded r
def abP(a b:Nat):Nat:=Nat.add a b
mutual
def exC(id:Nat):Code->Nat
 | .exit k=>bif Bn k id then 1 else 0
 | .seq a b=>bif Bn (nxC a) 0 then exC id a else abP (exC id a) (exC id b)
 | .cond _ a b=>abP (exC id a) (exC id b)
 | .block _ c=>exC id c
 | .loop c=>exC id c
 | .rangeFunc _ _ _ b=>exC id b
 | _=>0
def nxC:Code->Nat
 | .skip=>1
 | .region _ ops _=>bif guarded ops.toList then 2 else 1
 | .seq a b=>bif Bn (nxC a) 0 then 0 else nxC b
 | .cond _ a b=>abP (nxC a) (nxC b)
 | .block id c=>abP (nxC c) (exC id c)
 | .rangeFunc _ _ _ _=>1
 | _=>0
end
def gj(m:Nat):Nat->Nat->List Nat
 | 0,_=>[]
 | f+1,i=>bif bit m i then i::gj m f (i+1)else gj m f (i+1)
abbrev CV:=Exit->List Nat->Env->hM
def ti(K:List Nat->Env->hM)(Q:CV):CV
 | .normal,ds,e,w=>K ds e w
 | x,ds,e,w=>Q x ds e w
def VW(id:Nat)(Q:CV):CV
 | .exit k,ds,e,w=>bif Bn k id then Q .normal ds e w else Q (.exit k) ds e w
 | x,ds,e,w=>Q x ds e w
def VX(K:Option Code->hM):CV
 | .normal,_,_,w=>K none w
 | .ret,_,_,w=>K (some .ret) w
 | .exit id,_,_,w=>K (some (.exit id)) w
 | _,_,_,_=>False
def aft(N R:Nat->hM)(X:Nat->Nat->hM):Option Code->Nat->hM
 | none=>N
 | some .ret=>R
 | some (.exit id)=>X id
 | _=>λ_ _=>False
def outs:List Nat->Code->Bool
 | l,.exit id=>!(l.any λk=>Bn k id)
 | l,.seq a b=>outs l a||outs l b
 | l,.cond _ a b=>outs l a||outs l b
 | l,.block id c=>outs (id::l) c
 | l,.loop c=>outs l c
 | _,_=>false
def D4:List Value->Nat->Value
 | [],_=>undef
 | v::_,0=>v
 | _::r,k+1=>D4 r k
def GN(args:List Value):List Nat->Nat->Env->Env
 | [],_,e=>e
 | p::r,k,e=>GN args r (k+1) (zZ e p (D4 args k))
def lJ(ds:List Nat):Value:=.tuple (ds.map fun (D:Nat)=>ni .u64 (D:Int)).toArray
def ahz:Value->Nat
 | .int _ n=>n.toNat
 | _=>0
def Ah:Value->List Nat
 | .tuple vs=>vs.toList.map ahz
 | _=>[]
theorem BL(ds:List Nat):Ah (lJ ds)=ds:=by
 show(ds.map fun (D:Nat)=>ni .u64 (D:Int)).map ahz=ds
 rw[List.map_map]
 conv=>rhs;rw[<- List.map_id ds]
 exact Bi λD _=>by simp[ahz]
structure Ai(P:Program)(fv:Value)(np:Nat)(w:World)(round:List Value->World->(World->(hM)->Prop)->(Option Code->hM)->Prop)(after:Option Code->Nat->hM):Prop where
 ex:∃gf cap,fv=.func (.func gf) #[] cap/\Plain P gf/\∀L0:Loop,L0.state=.ready->L0.pending=none->
  (∀(args:List Value) (W:World) (K:Value->hM),args.length=np->W.heap[w.heap.size+1]?=some (.loop L0)->
   round args W (λw1 k=>w1.heap[w.heap.size+1]?=some (.loop L0)/\k (w1.putObj (w.heap.size+1) (.loop {L0 with state:=.busy})))
    (λj W'=>W'.heap[w.heap.size+1]?=some (.loop {L0 with state:=.busy})/\K (.bool j.isNone) (W'.putObj (w.heap.size+1) (.loop {L0 with state:=if j.isNone then .ready else .done,pending:=j})))->
   YieldAt (FO none) 0 P (w.heap.size+1) args.toArray W (tV K))->
  Calls P gf (#[.func (.yield (w.heap.size+1)) #[] #[]]++cap) ((w.alloc (.deferred (some []))).alloc (.loop L0))
   (tV λ_ W2=>∃st j,st≠.busy/\W2.heap[w.heap.size+1]?=some (.loop {L0 with state:=st,pending:=j})/\after j w.heap.size (W2.putObj (w.heap.size+1) (.loop {L0 with state:=.exhausted,pending:=j})))
abbrev dI:=Nat->PT
def Kz(pl:dI):Code->Bool
 | .region id _ true=>(pl id).many
 | .block _ c=>Kz pl c
 | .seq a b=>Kz pl a||Kz pl b
 | .cond _ a b=>Kz pl a||Kz pl b
 | _=>false
def drew(w:World):World:={w with drawn:=w.drawn+1}
def D(P:Program)(n:Nat)(pl:dI)(rl:Nat):Code->List (Nat×Nat)->Nat->CV->List Nat->Env->hM
 | .skip,_,_,Q,ds,e,w=>Q .normal ds e w
 | .ret,_,_,Q,ds,e,w=>Q .ret ds e w
 | .exit id,_,_,Q,ds,e,w=>Q (.exit id) ds e w
 | .region _ ops false,_,_,Q,ds,e,w=>DR P n ops.toList (ops.toList.map λo=>(o,[])) (Q .normal ds) [] e w
 | .region id ops true,_,_,Q,ds,e,w=>
  bif ops.toList.all (D1 n)&&(GI ops.toList (GL ops.toList)&&Rf P ops.toList (GL ops.toList) false ops.toList.length 0 (pl id))then
   DT P n ops.toList (pl id) (Q .normal ds) [] e (drew w)
  else False
 | .seq a b,X,lo,Q,ds,e,w=>
  bif Rs (nxC a) 1&&!Kz pl a then D P n pl rl a X (li rl b X lo) (ti (D P n pl rl b X lo Q) Q) ds e w
  else bif fH a then Af (n::gj (H5 (iW a) (li rl b X lo)) n 0)
   (λK=>D P n pl rl a X (li rl b X lo) (ti (λds e w=>K (zZ e n (lJ ds)) w) Q) ds e w)
   (λbs w'=>∀dead,D P n pl rl b X lo Q (Ah (lkv n bs undef)) (Gh e (iW a) bs.tail dead) w')
  else Af (gj (H5 (iW a) (li rl b X lo)) n 0)
   (λK=>D P n pl rl a X (li rl b X lo) (ti (λ_ e w=>K e w) Q) ds e w)
   (λbs w'=>∀dead,D P n pl rl b X lo Q ds (Gh e (iW a) bs dead) w')
 | .cond c a b,X,lo,Q,ds,e,w=>yD (ev e c) (D P n pl rl a X lo Q ds e w) (D P n pl rl b X lo Q ds e w)
 | .block id c,X,lo,Q,ds,e,w=>D P n pl rl c ((id,lo)::X) lo (VW id Q) ds e w
 | .loop c,X,_,Q,ds,e,w=>
  bif fH c then Ag (n::gj (H5 (iW c) (li rl c X (li rl c X 0))) n 0)
   (λK bs w=>∀dead,D P n pl rl c X (li rl c X (li rl c X 0)) (ti (λds e w=>K (zZ e n (lJ ds)) w) Q) (Ah (lkv n bs undef)) (Gh e (iW c) bs.tail dead) w) (zZ e n (lJ ds)) w
  else Ag (gj (H5 (iW c) (li rl c X (li rl c X 0))) n 0)
   (λK bs w=>∀dead,D P n pl rl c X (li rl c X (li rl c X 0)) (ti (λ_ e w=>K e w) Q) ds (Gh e (iW c) bs dead) w) e w
 | .rangeFunc g ps u E,_,_,Q,ds,e,w=>
  bif ps.toList.all (λp=>aaG p n)&&(!fH u&&!fH E)then
   Ai P (ev e g) ps.toList.length w
    (λargs W B K=>D P n pl 0 u [] (li 0 E [] 0) (ti (λG M J=>B J λI=>D P n pl 0 E [] 0 (VX K) G M I) λ_ _ _ _=>False) [] (GN args ps.toList 0 e) W)
    (aft (λD w=>Q .normal (D::ds) e w) (λD w=>Q .ret (D::ds) e w) (bif outs [] E then(λid D w=>Q (.exit id) (D::ds) e w) elseλ_ _ _=>False))
  else False
 | _,_,_,_,_,_,_=>False
theorem VY{m d i:Nat}:bit (VU m d) i=(bit m i||decide (i=d)):=by
 show(m ||| 1 <<< d).testBit i=_
 rw[SX,Q6,P2]
 unfold bit
 grind
theorem Ou{l:List Nat}{i:Nat}:bit (zi l) i=true↔i∈l:=by
 induction l with
 | nil=>simp[zi,bit]
 | cons d r u=>simp only[zi,VY,xh,u,decide_eq_true_eq,sl];grind
theorem Ov{l:List Nat}{e:Env}{i:Nat}:lkv i (jK l e) (e i)=e i:=by
 induction l with
 | nil=>rfl
 | cons a r u=>
  show(bif Bn a i then e a else lkv i (jK r e) (e i))=e i
  by_cases h:a=i
  .grind
  .rw[BI h];exact u
theorem xV{e u:Env}{M:Nat}{l:List Nat}(h:∀i,bit M i=false->u i=e i):Gh e M (jK l u) u=u:=by
 funext i
 unfold Gh
 cases hb:bit M i with
 | true=>simp only[cond_true];exact Ov
 | false=>grind
theorem KA{m:Nat}:∀(f i k:Nat),k∈gj m f i->k<i+f:=by
 intro f
 induction f with
 | zero=>intro i k h;cases h
 | succ f u=>
  grind[gj]
theorem Ow{l:List Nat}{n:Nat}{v:Value}{e:Env}(h:∀k∈l,k<n):jK l (zZ e n v)=jK l e:=
 Bi λk u=>by rw[oN _ _ (Nat.ne_of_lt (h k u))]
theorem GO{l:List Nat}{n:Nat}{ds:List Nat}{e:Env}(h:∀k∈l,k<n):jK (n::l) (zZ e n (lJ ds))=(n,lJ ds)::jK l e:=by
 show(n,zZ e n (lJ ds) n)::jK l (zZ e n (lJ ds))=_
 rw[nw,Ow h]
theorem Rj{m n:Nat}:∀k∈gj m n 0,k<n:=λk u=>by have:=KA n 0 k u;omega
def ux(n:Nat)(M:Nat)(b:Bool)(ds:List Nat)(e:Env)(Q:CV):Exit->Act->hM:=
 λx E w'=>∃B u,jC B n u E/\(∀i,bit M i=false->u i=e i)/\(b=false->B=ds)/\Q x B u w'
theorem least{p:Nat->Prop}(h:∃m,p m):∃m,p m/\∀k,p k->m<=k:=by
 obtain⟨m,u⟩:=h
 induction m using Nat.strongRecOn with
 | _ m B=>
  grind
theorem IA{n:Nat}{args:List Value}:∀(ps:List Nat) (k:Nat) (e:Env) (a:Act),(∀p∈ps,p<n)->jC [] n e a->k+ps.length<=args.length->
  jC [] n (GN args ps k e) {a with tmps:=(ps.zip (args.drop k)).foldl (λt (q:Nat×Value)=>t.setIfInBounds q.1 q.2) a.tmps}:=by
 intro ps
 induction ps with
 | nil=>simp_all[Env,GN]
 | cons p ps J=>
  intro k e a G B I
  have E:k<args.length:=dD
  have O:args.drop k=D4 args k::args.drop (k+1):=by
   rw[List.drop_eq_getElem_cons E]
   congr 1
   clear J B I G
   induction args generalizing k with
   | nil=>simp at E
   | cons v r u=>cases k with
    | zero=>rfl
    | succ k=>exact u k dD
  rw[O]
  have h1:=B.put (d:=some p) (λk I=>by simp_all) (D4 args k)
  exact J (k+1) _ _ (λq M=>G q (qX _ M)) h1 dD
theorem VZ{P:Program}{n:Nat}{pl:dI}{g:Operand}{ps:Array Tmp}{u E:Code}
  (ihA:∀(r:Option Nat) (rl:Nat) (X:List (Nat×Nat)) (lo:Nat) (Q:CV) (ds:List Nat) (e:Env) (a:Act) (w:World),
   (r=none\/fH u=false)->jC ds n e a->D P n pl rl u X lo Q ds e w->u.wpIn (FO r) 0 P (ux n (iW u) (fH u) ds e Q) a w)
  (ihB:∀(r:Option Nat) (rl:Nat) (X:List (Nat×Nat)) (lo:Nat) (Q:CV) (ds:List Nat) (e:Env) (a:Act) (w:World),
   (r=none\/fH E=false)->jC ds n e a->D P n pl rl E X lo Q ds e w->E.wpIn (FO r) 0 P (ux n (iW E) (fH E) ds e Q) a w)
  (rl:Nat) (X:List (Nat×Nat)) (lo:Nat) (Q:CV) (ds:List Nat) (e:Env) (a:Act) (w:World) (O:jC ds n e a) (h:D P n pl rl (.rangeFunc g ps u E) X lo Q ds e w) :
  (Code.rangeFunc g ps u E).wpIn (FO none) 0 P (ux n 0 true ds e Q) a w:=by
 have h':(bif ps.toList.all (λp=>aaG p n)&&(!fH u&&!fH E)then
  Ai P (ev e g) ps.toList.length w
   (λargs W B K=>D P n pl 0 u [] (li 0 E [] 0) (ti (λM e1 w1=>B w1 λw2=>D P n pl 0 E [] 0 (VX K) M e1 w2) λ_ _ _ _=>False) [] (GN args ps.toList 0 e) W)
   (aft (λD w=>Q .normal (D::ds) e w) (λD w=>Q .ret (D::ds) e w) (bif outs [] E then(λid D w=>Q (.exit id) (D::ds) e w) elseλ_ _ _=>False))
  else False):=h
 cases hc:(ps.toList.all (λp=>aaG p n)&&(!fH u&&!fH E))with
 | false=>grind
 | true=>
  rw[hc]at h'
  simp only[cond_true]at h'
  simp only[ob,sk]at hc
  obtain⟨hps,hA,hB⟩:=hc
  have auf:∀p∈ps.toList,p<n:=λp Y=>Nat.blt_eq▸Fj.1 hps p Y
  obtain⟨Z,cap,hfv,oG,Gi⟩:=h'.ex
  refine wpIn_rangeFunc λfn _=>?_
  let L0:Loop:={state:=.ready,pending:=none,fn,tmps:=a.tmps,params:=ps,assign:=u,body:=E,defers:=w.heap.size}
  have hY:=Gi L0 rfl rfl (λargs W K hlen hl D5=>?_)
  .have hC:=hY.mono (R':=rangePost (FO none) 0 P (w.heap.size+1) (ux n 0 true ds e Q) {a with defers:=[{target:=.collected w.heap.size,args:=#[]}]++a.defers}) (λx w3 hx=>?_)
   .have hC1:=(zd (r:=none) (n:=0)).2 hC
    refine⟨w.heap.size+1,[{target:=.collected w.heap.size,args:=#[]}],(w.alloc (.deferred (some []))).alloc (.loop L0),
     {target:=.fn (.func Z) cap,args:=#[.func (.yield (w.heap.size+1)) #[] #[]]},(w.alloc (.deferred (some []))).alloc (.loop L0),Z,#[.func (.yield (w.heap.size+1)) #[] #[]]++cap,
     (w.alloc (.deferred (some []))).alloc (.loop L0),run_enterLoop_outer ..,?_,λ_ _=>trivial,?_,DY,?_⟩
    rotate_left 2
    .exact hC1
    .have hg:a.eval g=.func (.func Z) #[] cap:=by rw[O.eval];exact hfv
     simp only[resolve,hg]
     simp[go_sem]
    .show(callFunc Z (#[.func (.yield (w.heap.size+1)) #[] #[]]++cap)).run P _=_
     exact Aa oG _ _
   ·
    obtain⟨v,rfl,st,j,iV,hl3,I⟩:=hx
    refine⟨j,_,run_endLoop hl3 cK,?_⟩
    have G:jC (w.heap.size::ds) n e {a with defers:=[{target:=.collected w.heap.size,args:=#[]}]++a.defers}:=⟨by rw[O.defers];rfl,O.size,O.get⟩
    cases j with
    | none=>exact⟨_,e,G,λ_ _=>rfl,λV=>(by cases V),I⟩
    | some c=>
     cases c with
     | ret=>exact wpIn_ret ⟨_,e,G,λ_ _=>rfl,λV=>(by cases V),I⟩
     | exit id=>
       have Kg:(bif outs [] E then(λid D w=>Q (.exit id) (D::ds) e w) elseλ_ _ _=>False:Nat->Nat->hM) id w.heap.size _:=I
       cases ho:outs [] E with
       | true=>rw[ho]at Kg;exact wpIn_exit ⟨_,e,G,λ_ _=>rfl,λV=>(by cases V),Kg⟩
       | false=>grind
     | _=>exact I.elim
  ·
   have nP:w.heap.size+1<W.heap.size:=(DK.1 hl).1
   refine⟨fn,_,u,E,run_yield hl cK,roundIn_of_wpIn trivial ?_⟩
   have G:jC [] n (GN args ps.toList 0 e) {tmps:=(ps.zip args.toArray).foldl (λt (q:Nat×Value)=>t.setIfInBounds q.1 q.2) a.tmps,defers:=[]}:=by
    have h0:jC [] n e {tmps:=a.tmps,defers:=[]}:=⟨rfl,O.size,O.get⟩
    have:=IA ps.toList 0 e _ auf h0 (by simpa using zW hlen.symm)
    have e1:(ps.zip args.toArray).foldl (λt (q:Nat×Value)=>t.setIfInBounds q.1 q.2) a.tmps=(ps.toList.zip (args.drop 0)).foldl (λt (q:Nat×Value)=>t.setIfInBounds q.1 q.2) a.tmps:=by
     rw[<- VK,Array.toList_zip];simp
    grind
   refine wpIn_mono (ihA (some (w.heap.size+1)) 0 [] _ _ [] _ _ W (.inr hA) G D5) λx a1 w1 Y=>?_
   obtain⟨M,e1,ha1,_,V0,J⟩:=Y
   cases x with
   | normal=>
    obtain⟨hl1,J⟩:=J
    refine⟨_,run_beginRound hl1 rfl,?_⟩
    refine wpIn_mono (ihB (some (w.heap.size+1)) 0 [] _ _ M e1 a1 _ (.inr hB) ha1 J) λx a2 w2 Y=>?_
    obtain⟨ds2,e2,ha2,_,_,J⟩:=Y
    cases x with
    | normal=>obtain⟨U,I⟩:=J;exact⟨_,_,run_endRound none U,_,rfl,I⟩
    | ret=>obtain⟨U,I⟩:=J;exact⟨_,_,run_endRound (some .ret) U,_,rfl,I⟩
    | exit id=>obtain⟨U,I⟩:=J;exact⟨_,_,run_endRound (some (.exit id)) U,_,rfl,I⟩
    | _=>exact J.elim
   | _=>exact J.elim
theorem abS{P:Program}{n:Nat}{pl:dI}(hm:P.follows .mixedOrders=true) :
  ∀(c:Code) (r:Option Nat) (rl:Nat) (X:List (Nat×Nat)) (lo:Nat) (Q:CV) (ds:List Nat) (e:Env) (a:Act) (w:World),
   (r=none\/fH c=false)->jC ds n e a->D P n pl rl c X lo Q ds e w->c.wpIn (FO r) 0 P (ux n (iW c) (fH c) ds e Q) a w:=by
 intro c
 induction c with
 | skip=>intro r rl X lo Q ds e a w _ W h;exact wpIn_skip ⟨ds,e,W,λ_ _=>rfl,λ_=>rfl,h⟩
 | ret=>intro r rl X lo Q ds e a w _ W h;exact wpIn_ret ⟨ds,e,W,λ_ _=>rfl,λ_=>rfl,h⟩
 | exit id=>intro r rl X lo Q ds e a w _ W h;exact wpIn_exit ⟨ds,e,W,λ_ _=>rfl,λ_=>rfl,h⟩
 | region id B draw=>
  intro r rl X lo Q ds e a w _ W h
  have hQ:∀(u:Env) (G:Act) (w':World),jC ds n u G->(∀k,k ∉ wr B.toList->u k=e k)->Q .normal ds u w'->ux n (iW (.region id B draw)) (fH (.region id B draw)) ds e Q .normal G w':=
   λu G w' Iu Y hq=>by
    refine⟨ds,u,Iu,λi hi=>Y i λKy=>?_,λ_=>rfl,hq⟩
    have h1:bit (zi (wr B.toList)) i=true:=Ou.2 Ky
    have h2:bit (zi (wr B.toList)) i=false:=hi
    grind
  cases draw with
  | false=>
   have:=DR.region (r:=r) (id:=id) W hQ (show DR P n B.toList (B.toList.map λo=>(o,[])) (Q .normal ds) [] e w from h)
   omega
  | true=>
   have Z:(bif B.toList.all (D1 n)&&(GI B.toList (GL B.toList)&&Rf P B.toList (GL B.toList) false B.toList.length 0 (pl id))then
    DT P n B.toList (pl id) (Q .normal ds) [] e (drew w)else False):=h
   cases hc:(B.toList.all (D1 n)&&(GI B.toList (GL B.toList)&&Rf P B.toList (GL B.toList) false B.toList.length 0 (pl id)))with
   | false=>grind
   | true=>
    rw[hc]at Z
    simp only[ob]at hc
    obtain⟨h2,h3,h4⟩:=hc
    have hd:∀d∈wr B.toList,d<n:=λd hd=>by
     obtain⟨o,ho,Kv⟩:=P3.1 hd
     have:=Fj.1 h2 o ho
     unfold D1 at this
     simp_all
    have hz:(bit 0)=λ_=>false:=by funext i;simp[bit]
    have hws:=(abN (Q:=Q .normal ds) h3 (pl id) B.toList.length 0 [] e (drew w) (λi o hi=>dD) (by constructor<;>simp) (DT.plain _ _ _ _ (kB.nil e) Z)).1 h4
    rw[hz]at hws
    have:=WS.region (r:=r) (id:=id) hm hd W hQ hws
    omega
 | seq M U ih1 ih2=>
  intro r rl X lo Q ds e a w hr W h
  have z6:r=none\/fH M=false:=hr.imp id λh=>by grind[fH]
  have Dl:r=none\/fH U=false:=hr.imp id λh=>by grind[fH]
  have key:∀(K:List Nat->Env->hM),D P n pl rl M X (li rl U X lo) (ti K Q) ds e w->
    (∀E u G w',jC E n u G->(∀i,bit (iW M) i=false->u i=e i)->(fH M=false->E=ds)->K E u w'->U.wpIn (FO r) 0 P (ux n (iW U) (fH U) E u Q) G w')->
    (Code.seq M U).wpIn (FO r) 0 P (ux n (iW (.seq M U)) (fH (.seq M U)) ds e Q) a w:=by
   intro K hK hk
   refine wpIn_seq (wpIn_mono (ih1 r rl X _ _ ds e a w z6 W hK) λx G w' hp=>?_)
   obtain⟨E,u,Iu,Y,O,hq⟩:=hp
   have hor:∀i,bit (iW (.seq M U)) i=false->bit (iW M) i=false/\bit (iW U) i=false:=λi hi=>by
    simp_all[bit,iW]
   have hrf:fH (.seq M U)=false->fH M=false/\fH U=false:=λhh=>by
    grind[fH]
   cases x with
   | normal=>
    refine wpIn_mono (hk E u G w' Iu Y O hq) λx2 a2 w2 hp2=>?_
    grind[ux,iW,fH]
   | _=>exact⟨E,u,Iu,λi hi=>Y i (hor i hi).1,λhh=>O (hrf hh).1,hq⟩
  have Z:(bif Rs (nxC M) 1&&!Kz pl M then D P n pl rl M X (li rl U X lo) (ti (D P n pl rl U X lo Q) Q) ds e w
   else bif fH M then Af (n::gj (H5 (iW M) (li rl U X lo)) n 0)
    (λK=>D P n pl rl M X (li rl U X lo) (ti (λds e w=>K (zZ e n (lJ ds)) w) Q) ds e w)
    (λbs w'=>∀dead,D P n pl rl U X lo Q (Ah (lkv n bs undef)) (Gh e (iW M) bs.tail dead) w')
   else Af (gj (H5 (iW M) (li rl U X lo)) n 0)
    (λK=>D P n pl rl M X (li rl U X lo) (ti (λ_ e w=>K e w) Q) ds e w)
    λbs w'=>∀dead,D P n pl rl U X lo Q ds (Gh e (iW M) bs dead) w'):=h
  cases hc:(Rs (nxC M) 1&&!Kz pl M)with
  | true=>
   grind
  | false=>
   rw[hc]at Z
   simp only[cond_false]at Z
   cases hc2:fH M with
   | false=>
    rw[hc2]at Z
    simp only[cond_false]at Z
    obtain⟨I,h1,h2⟩:=Af.spec Z
    refine key _ h1 λE u G w' Iu Y O hk=>?_
    have:=h2 u w' hk u
    rw[xV Y]at this
    grind
   | true=>
    rw[hc2]at Z
    simp only[cond_true]at Z
    obtain⟨I,h1,h2⟩:=Af.spec Z
    refine key _ h1 λE u G w' Iu Y O hk=>?_
    have:=h2 (zZ u n (lJ E)) w' hk u
    rw[GO Rj]at this
    rw[show((n,lJ E)::jK (gj (H5 (iW M) (li rl U X lo)) n 0) u).tail=jK (gj (H5 (iW M) (li rl U X lo)) n 0) u from rfl,xV Y,
     show lkv n ((n,lJ E)::jK (gj (H5 (iW M) (li rl U X lo)) n 0) u) undef=lJ E by show(bif Bn n n then lJ E else _)=_;simp_all,BL]at this
    grind
 | cond c M U ih1 ih2=>
  intro r rl X lo Q ds e a w hr W h
  obtain⟨t,ht,hA,hB⟩:=(show yD (ev e c) (D P n pl rl M X lo Q ds e w) (D P n pl rl U X lo Q ds e w)from h).ex
  have hor:∀i,bit (iW (.cond c M U)) i=false->bit (iW M) i=false/\bit (iW U) i=false:=λi hi=>by
   simp_all[bit,iW]
  have hrf:fH (.cond c M U)=false->fH M=false/\fH U=false:=λhh=>by
   grind[fH]
  refine wpIn_cond_split (t:=t) (by rw[W.eval];exact ht) (λh1=>?_) (λh1=>?_)
  .exact wpIn_mono (ih1 r rl X lo Q ds e a w (hr.imp id λh=>(hrf h).1) W (hA h1)) λx G w' ⟨E,u,Iu,Y,O,hq⟩=>⟨E,u,Iu,λi hi=>Y i (hor i hi).1,λhh=>O (hrf hh).1,hq⟩
  .exact wpIn_mono (ih2 r rl X lo Q ds e a w (hr.imp id λh=>(hrf h).2) W (hB h1)) λx G w' ⟨E,u,Iu,Y,O,hq⟩=>⟨E,u,Iu,λi hi=>Y i (hor i hi).2,λhh=>O (hrf hh).2,hq⟩
 | block id c ih=>
  intro r rl X lo Q ds e a w hr W h
  refine wpIn_block (wpIn_mono (ih r rl _ _ _ ds e a w hr W h) λx G w' hp=>?_)
  obtain⟨E,u,Iu,Y,O,hq⟩:=hp
  cases x with
  | exit k=>
   simp only[Exit.inBlock]
   simp only[VW]at hq
   by_cases hk:k=id
   .subst hk
    rw[D0]at hq
    grind[ux,iW,fH]
   .rw[BI hk]at hq
    grind[ux,iW,fH]
  | _=>exact⟨E,u,Iu,Y,O,hq⟩
 | loop c ih=>
  intro r rl X lo Q ds e a w hr W h
  have key:∀(V:List Nat->Env->List (Nat×Value)) (I:Nat->List (Nat×Value)->hM),(∃m,I m (V ds e) w)->
    (∀m E u w',(∀i,bit (iW c) i=false->u i=e i)->(fH c=false->E=ds)->I m (V E u) w'->D P n pl rl c X (li rl c X (li rl c X 0)) (ti (λds2 e2 w2=>∃m',m'<m/\I m' (V ds2 e2) w2) Q) E u w')->
    (Code.loop c).wpIn (FO r) 0 P (ux n (iW (.loop c)) (fH (.loop c)) ds e Q) a w:=by
   intro V I ⟨m,h1⟩ h2
   let Inv:Nat->Act->hM:=λm G w'=>∃E u,jC E n u G/\(∀i,bit (iW c) i=false->u i=e i)/\(fH c=false->E=ds)/\I m (V E u) w'
   have body:∀m G w',Inv m G w'->c.wpIn (FO r) 0 P (Exit.then (λa2 w2=>∃m',m'<m/\Inv m' a2 w2) (ux n (iW (.loop c)) (fH (.loop c)) ds e Q)) G w':=by
    rintro m G w' ⟨E,u,Iu,Y,O,hi⟩
    refine wpIn_mono (ih r rl X _ _ E u G w' hr Iu (h2 m E u w' Y O hi)) λx a2 w2 hp=>?_
    obtain⟨ds2,e2,ha2,hf2,aui,hq⟩:=hp
    have hfe:∀i,bit (iW c) i=false->e2 i=e i:=λi hi=>(hf2 i hi).trans (Y i hi)
    have amC:fH c=false->ds2=ds:=λhh=>(aui hh).trans (O hh)
    cases x with
    | normal=>obtain⟨m',hm',Ox⟩:=hq;exact⟨m',hm',ds2,e2,ha2,hfe,amC,Ox⟩
    | _=>exact⟨ds2,e2,ha2,hfe,amC,hq⟩
   classical
   let J:Act->hM:=λG w'=>∃m,Inv m G w'
   let μ:Act->World->Nat:=λG w'=>if h:∃m,Inv m G w' then abu (least h)else 0
   have hμ:∀G w',J G w'->Inv (μ G w') G w'/\∀k,Inv k G w'->μ G w'<=k:=λG w' hj=>by
    grind
   refine wpIn_loop J μ ⟨m,ds,e,W,λ_ _=>rfl,λ_=>rfl,h1⟩ λG w' hj=>?_
   refine wpIn_mono (body _ G w' (hμ G w' hj).1) λx a2 w2 hp=>?_
   cases x with
   | normal=>
    obtain⟨m',hm',Ox⟩:=hp
    exact⟨⟨m',Ox⟩,Nat.lt_of_le_of_lt ((hμ a2 w2 ⟨m',Ox⟩).2 m' Ox) hm'⟩
   | _=>exact hp
  have Z:(bif fH c then Ag (n::gj (H5 (iW c) (li rl c X (li rl c X 0))) n 0)
    (λK bs w=>∀dead,D P n pl rl c X (li rl c X (li rl c X 0)) (ti (λds e w=>K (zZ e n (lJ ds)) w) Q) (Ah (lkv n bs undef)) (Gh e (iW c) bs.tail dead) w) (zZ e n (lJ ds)) w
   else Ag (gj (H5 (iW c) (li rl c X (li rl c X 0))) n 0)
    (λK bs w=>∀dead,D P n pl rl c X (li rl c X (li rl c X 0)) (ti (λ_ e w=>K e w) Q) ds (Gh e (iW c) bs dead) w) e w):=h
  cases hc:fH c with
  | false=>
   rw[hc]at Z
   simp only[cond_false]at Z
   obtain⟨I,h1,h2⟩:=Ag.spec Z
   rw[show fH (.loop c)=fH c from rfl]at key
   have:=key (λ_ e=>jK (gj (H5 (iW c) (li rl c X (li rl c X 0))) n 0) e) I h1 λm E u w' Y O hi=>by
    have:=h2 m u w' hi u
    rw[xV Y]at this
    grind
   exact this
  | true=>
   rw[hc]at Z
   simp only[cond_true]at Z
   obtain⟨I,h1,h2⟩:=Ag.spec Z
   refine key (λds e=>jK (n::gj (H5 (iW c) (li rl c X (li rl c X 0))) n 0) (zZ e n (lJ ds))) I h1 λm E u w' Y O hi=>?_
   have:=h2 m (zZ u n (lJ E)) w' hi u
   rw[GO Rj]at this
   rw[show((n,lJ E)::jK (gj (H5 (iW c) (li rl c X (li rl c X 0))) n 0) u).tail=jK (gj (H5 (iW c) (li rl c X (li rl c X 0))) n 0) u from rfl,xV Y,
    show lkv n ((n,lJ E)::jK (gj (H5 (iW c) (li rl c X (li rl c X 0))) n 0) u) undef=lJ E by show(bif Bn n n then lJ E else _)=_;simp_all,BL]at this
   exact this
 | rangeFunc g ps asx bd ihA ihB=>
  intro r rl X lo Q ds e a w hr W h
  have CW:r=none:=hr.resolve_right (by simp[fH])
  subst CW
  exact VZ ihA ihB rl X lo Q ds e a w W h
 | _=>intro r rl X lo Q ds e a w _ W h;exact h.elim
def Oy(P:Program):List ResultVar->Env->(List Value->Prop)->hM
 | [],_,K,_=>K []
 | .tmp t::r,e,K,w=>Oy P r e (λvs=>K (e t::vs)) w
 | .cell a t::r,e,K,w=>Ke P (xR t (e a)) w (λv=>Oy P r e (λvs=>K (v::vs)) w)
def V1:List Value->Value
 | [v]=>v
 | vs=>.tuple vs.toArray
def mS:List Nat->World->(hM)->Prop
 | [],w,K=>K w
 | D::r,w,K=>w.heap[D]?=some (.deferred (some []))/\mS r (w.putObj D (.deferred none)) K
def Oz(P:Program)(rs:List ResultVar)(K:Value->hM):CV
 | .normal,ds,e,w=>mS ds w λw=>Oy P rs e (λvs=>K (V1 vs) w) w
 | .ret,ds,e,w=>mS ds w λw=>Oy P rs e (λvs=>K (V1 vs) w) w
 | _,_,_,_=>False
def CX:List Value->Env
 | [],_=>undef
 | v::_,0=>v
 | _::r,n+1=>CX r n
theorem V2(l:List Value)(i:Nat):CX l i=l.getD i undef:=by
 induction l generalizing i with
 | nil=>simp[CX]
 | cons v r u=>cases i with
  | zero=>rfl
  | succ i=>simp[CX,u]
def TG(tmps:Array Value):ResultVar->Sem Value
 | .tmp t=>pure (tmps.getD t undef)
 | .cell a t=>do loadVar t (<- asAddr (tmps.getD a undef))
theorem IB{P:Program}{t:TypeId}{v u:Value}{w:World}(h:(xR t v).run P w=.ok u w):(do loadVar t (<- asAddr v):Sem Value).run P w=.ok u w:=by
 cases v with
 | pointer a=>cases a with
  | none => exact absurd (show(Result.halt (.stuck "an address expected (no nilCheck in front?)") w : Result Value)=.ok u w from h) ei
  | some a=>exact h
 | _ => exact absurd (show(Result.halt (.stuck "an address expected (no nilCheck in front?)") w : Result Value)=.ok u w from h) ei
theorem V3{P:Program}{ds:List Nat}{n:Nat}{e:Env}{a:Act}(B:jC ds n e a):∀(rs:List ResultVar) (K:List Value->Prop) (w:World),Oy P rs e K w->
  ∃vs,(rs.mapM (TG a.tmps)).run P w=.ok vs w/\K vs:=by
 intro rs
 induction rs with
 | nil=>intro K w h;exact⟨[],rfl,h⟩
 | cons r rs G=>
  intro K w h
  have step:∀v,(TG a.tmps r).run P w=.ok v w->Oy P rs e (λvs=>K (v::vs)) w->∃vs,((r::rs).mapM (TG a.tmps)).run P w=.ok vs w/\K vs:=by
   intro v E u
   obtain⟨vs,h1,h2⟩:=G _ w u
   simp_all
  cases r with
  | tmp t=>exact step (e t) (by rw[<- B.get t];rfl) h
  | cell c t=>
   obtain⟨v,E,u⟩:=h.ex
   refine step v ?_ u
   show(do loadVar t (<- asAddr (a.tmps.getD c undef)):Sem Value).run P w=_
   rw[B.get c]
   exact IB E
theorem KB{P:Program}{u:Func}{rs:List ResultVar}(B:u.results=rs.toArray){tmps:Array Value}{w:World}{vs:List Value}
  (h:(rs.mapM (TG tmps)).run P w=.ok vs w):(results u tmps).run P w=.ok (V1 vs) w:=by
 have e:results u tmps=(rs.toArray.mapM (TG tmps) >>= λvs=>pure (if h:vs.size=1 then vs[0]else .tuple vs)):=by
  unfold results;rw[B];rfl
 rw[e,List.mapM_toArray]
 have h1:(Functor.map (λa=>a.toArray) (rs.mapM (TG tmps))).run P w=.ok vs.toArray w:=by
  simp_all
 rw[eK h1]
 show Result.ok _ w=Result.ok _ w
 congr 1
 match vs with
 | []=>rfl
 | [v]=>rfl
 | a::b::r=>simp[V1]
theorem IC{P:Program}{u:Func}{tmps:Array Value}{R:Ending->hM}:∀(ds:List Nat) (w:World),mS ds w (λw'=>∃v,(results u tmps).run P w'=.ok v w'/\R (.returned v) w')->
  LeavesInM (FO none) 0 P u tmps R (ds.map mark) .returning w:=by
 intro ds
 induction ds with
 | nil=>intro w ⟨v,h1,h2⟩;exact⟨v,h1,h2⟩
 | cons D r B=>intro w h;exact⟨ei,.inl ⟨D,_,rfl,run_takeDeferred h.1,B _ h.2⟩⟩
theorem mS.mono{ds:List Nat}{K u:hM}(B:∀w,K w->u w):∀{w:World},mS ds w K->mS ds w u:=by
 induction ds with
 | nil=>intro w h;exact B w h
 | cons D r E=>intro w h;exact⟨h.1,E h.2⟩
theorem D6{P:Program}{n:Nat}{pl:dI}{rl:Nat}{f:FuncId}{u:Func}{c:Code}{rs:List ResultVar}{args:List Value}{w:World}{K:Value->hM}
  (Y:P.follows .mixedOrders=true) (U:P.funcs[f]?=some u) (hb:u.body=some c) (hn:u.ntmps=n) (W:u.results=rs.toArray) (M:args.length<=n)
  (h:D P n pl rl c [] rl (Oz P rs K) [] (CX args) w):Calls P f args.toArray w (tV K):=by
 refine zd.1 (callsIn_of_wp_marks (F:=FO none) (n:=0) U hb trivial ?_)
 have O:jC [] n (CX args) {tmps:=args.toArray++Array.replicate (u.ntmps-args.toArray.size) undef,defers:=[]}:=by
  refine⟨rfl,dD,λi=>?_⟩
  rw[V2,CT,Array.getElem?_append]
  grind
 refine wpIn_mono (abS Y c none rl [] rl _ [] _ _ w (.inl rfl) O h) λx I w' hp=>?_
 obtain⟨G,Z,J,_,_,E⟩:=hp
 have B:mS G w' (λw=>Oy P rs Z (λvs=>K (V1 vs) w) w)->LeavesInM (FO none) 0 P u I.tmps (tV K) I.defers .returning w':=λE=>by
  rw[J.defers]
  refine IC G w' (E.mono λV h1=>?_)
  obtain⟨vs,h1,h2⟩:=V3 J rs _ V h1
  exact⟨_,KB W h1,_,rfl,h2⟩
 cases x with
 | normal=>exact B E
 | ret=>exact B E
 | _=>exact E.elim
def okD{P:Program}{n:Nat}{pl:dI}{rl:Nat}{f:FuncId}{u:Func}{c:Code}{rs:List ResultVar}{args:List Value}{w:World}{K:Value->hM}{S:Prop}
  (E:P.funcs[f]?=some u) (hb:u.body=some c) (G:u.ntmps=n) (I:u.results=rs.toArray) (J:P.follows .mixedOrders=true) (B:args.length<=n)
  (e:D P n pl rl c [] rl (Oz P rs K) [] (CX args) w=S) (h:S):Calls P f args.toArray w (tV K):=D6 J E hb G I B (e.mpr h)
def okE{P:Program}(n:Nat)(pl:dI)(rl:Nat)(rs:List ResultVar){f:FuncId}{u:Func}{args:List Value}{w:World}{K:Value->hM}{S:Prop}
  (E:P.funcs[f]?=some u) (hb:u.body=some (u.body.getD .skip)) (G:u.ntmps=n) (I:u.results=rs.toArray) (J:P.follows .mixedOrders=true) (B:args.length<=n)
  (e:D P n pl rl (u.body.getD .skip) [] rl (Oz P rs K) [] (CX args) w=S) (h:S):Calls P f args.toArray w (tV K):=okD E hb G I J B e h
theorem okZ{P:Program}(n:Nat)(pl:dI)(rl:Nat)(rs:List ResultVar){f:FuncId}{u:Func}{args:List Value}{w:World}{K:Value->hM}{S:Prop}
  (B:P.funcs[f]?=some u) (E:P.follows .mixedOrders=true) (hc:(u.body.isSome,u.ntmps,u.results,Rs args.length n)=(true,n,rs.toArray,true))
  (e:D P n pl rl (u.body.getD .skip) [] rl (Oz P rs K) [] (CX args) w=S) (h:S):Calls P f args.toArray w (tV K):=by
 have h1:u.body.isSome=true:=gO (λx=>x.1) hc
 have h2:u.ntmps=n:=gO (λx=>x.2.1) hc
 have h3:u.results=rs.toArray:=gO (λx=>x.2.2.1) hc
 have h4:Rs args.length n=true:=gO (λx=>x.2.2.2) hc
 have h5:u.body=some (u.body.getD .skip):=by
  cases hb:u.body with
  | none=>rw[hb]at h1;cases h1
  | some c=>rfl
 exact okD B h5 h2 h3 E (BM h4) e h
def dK{P : Program}{f : FuncId}{u : Func}(B : P.funcs[f]?=some u)(h : (u.name == "runtime.NumGoroutine", u.body.isNone)=(false, false) := by kernel_rfl) : Plain P f := ⟨u, B, gO (λx => x.1) h, gO (λx => x.2) h⟩
def vb{a b:Bool}(h:a=b):wX a=wX b:=gO _ h
def N7{p:Prop}[Decidable p](h:p):wX true=wX (decide p):=vb (ez h).symm
def jvF{p:Prop}[Decidable p](h:¬ p):wX false=wX (decide p):=vb (fN h).symm
def yF{p q:Prop}[Decidable p][Decidable q](h:p↔q):wX (decide p)=wX (decide q):=vb (ga.2 h)
end Go.Fw
namespace Go.Proofs.YtpdlpabnlkofmaaGreatDoor
open Go.Fw
variable (w:World) (K:Value->hM)
abbrev i(n:Int):Value:=.int .i64 n
abbrev tt:Value:=.bool true
abbrev ff:Value:=.bool false
abbrev fA(T:Nat)(v:Value)(f:Nat)(K:Value->Prop):Prop:=eP hH (Fs T v f) K
abbrev iA(T:Nat)(v j:Value)(K:Value->Prop):Prop:=eP hH (FI T v j) K
abbrev lA(T:Nat)(p:Value)(w:World)(K:Value->Prop):Prop:=Ke hH (xR T p) w K
abbrev sA(T:Nat)(p v:Value)(w:World)(K:hM):Prop:=Vo hH (JB T p v) w K
abbrev bA(o:BinOp)(T:Nat)(x y:Value)(K:Value->Prop):Prop:=eP hH (kj o T false false x y) K
abbrev bB(o:BinOp)(T:Nat)(x y:Value)(K:Value->Prop):Prop:=eP hH (kj o T false true x y) K
abbrev bC(o:BinOp)(T:Nat)(x y:Value)(K:Value->Prop):Prop:=eP hH (kj o T true false x y) K
abbrev cF(f:Nat)(args:List Value)(w:World)(K:Value->hM):Prop:=Cv hH f args w K
abbrev nC(v:Value)(K:Value->Prop):Prop:=eP hH (Tz v) K
abbrev lN(T:Nat)(v:Value)(K:Value->Prop):Prop:=eP hH (Builtin.len_ #[T] 3 [v].toArray) K
abbrev aL(T:Nat)(w:World)(K:Value->hM):Prop:=qZ hH (Pw T true (.tuple #[])) w K
abbrev xT(v:Value)(k:Nat)(K:Value->Prop):Prop:=eP hH (Sd v k) K
abbrev kA(T:Nat)(p v:Value)(w:World)(R:Prop):Prop:=Q9 hH (xR T p) v w R
abbrev aP(T:Nat)(a b:Value)(w:World)(K:Value->hM):Prop:=qZ hH (Builtin.append_ #[T,T] T [a,b].toArray) w K
abbrev bS(T n:Nat)(l:List (Nat×Value))(w:World)(K:Value->hM):Prop:=qZ hH (J8 T n l.toArray) w K
abbrev cV(v:Value)(a b:Prop):Prop:=yD v a b
noncomputable abbrev PG:Program:=hH
abbrev CR(n:Nat)(a:List Value)(w:World)(K:Value->hM):Prop:=Calls hH n a.toArray w (tV K)
abbrev PL(n:Nat):Prop:=Plain hH n
theorem mixed:Tryz.prog.follows .mixedOrders=true:=by kernel_rfl
theorem qm(n:Nat)(pl:dI)(rl:Nat)(rs:List ResultVar){f:FuncId}{u:Func}{args:List Value}{w:World}{K:Value->hM}{S:Prop}
  (B:PG.funcs[f]?=some u) (h:S) (hc:(u.body.isSome,u.ntmps,u.results,Rs args.length n)=(true,n,rs.toArray,true):=by kernel_rfl)
  (e:D PG n pl rl (u.body.getD .skip) [] rl (Oz PG rs K) [] (CX args) w=S:=by kernel_rfl):CR f args w K:=okZ n pl rl rs B mixed hc e h
def TH:List ResultVar->Nat
 | []=>0
 | .tmp t::r=>VU (TH r) t
 | .cell a _::r=>VU (TH r) a
theorem oM{f:FuncId}{u:Func}(B:Tryz.prog.funcs[f]?=some u){args:List Value}{w:World}{K:Value->hM}{pl:dI}
  (h:D hH u.ntmps pl (TH u.results.toList) (u.body.getD .skip) [] (TH u.results.toList) (Oz hH u.results.toList K) [] (CX args) w)
  (hc:(u.body.isSome,Rs args.length u.ntmps)=(true,true):=by kernel_rfl):Calls hH f args.toArray w (tV K):=by
 have h1:u.body.isSome=true:=gO (λx=>x.1) hc
 have h5:u.body=some (u.body.getD .skip):=by
  cases hb:u.body with
  | none=>rw[hb]at h1;cases h1
  | some c=>rfl
 exact D6 mixed B h5 rfl ei (BM (gO (λx=>x.2) hc)) h
theorem fg{f:FuncId}{u:Func}(B:Tryz.prog.funcs[f]?=some u){args:List Value}{w:World}{K:Value->hM}
  (h:D hH u.ntmps (λ_=>.nil) (TH u.results.toList) (u.body.getD .skip) [] (TH u.results.toList) (Oz hH u.results.toList K) [] (CX args) w)
  (hc:(u.body.isSome,Rs args.length u.ntmps)=(true,true):=by kernel_rfl):Calls hH f args.toArray w (tV K):=oM B h hc
def P11:dI:=λi=>match i with
 | 1=>(.op 0 [] (.op 1 [] (.op 3 [] (.op 4 [] (.op 6 [] (.op 7 [] (.op 9 [] (.op 10 [] (.alt 2 [4,7,10] (.alt 5 [7,10] (.alt 8 [10] (.alt 11 [] (.of [(12,[]),(13,[1,4,7,10]),(14,[])]) (.alt 13 [1,4,7,10] (.of [(11,[]),(12,[]),(14,[])]) .stop)) (.alt 13 [1,4,7,10] (.of [(8,[10]),(11,[]),(12,[]),(14,[])]) .stop)) (.alt 13 [1,4,7,10] (.of [(5,[7,10]),(8,[10]),(11,[]),(12,[]),(14,[])]) .stop)) (.alt 13 [1,4,7,10] (.of [(2,[4,7,10]),(5,[7,10]),(8,[10]),(11,[]),(12,[]),(14,[])]) .stop))))))))))
 | 5=>(.of [(0,[]),(1,[]),(2,[]),(3,[]),(4,[]),(5,[]),(6,[]),(7,[1]),(8,[1]),(9,[]),(10,[]),(11,[])])
 | 9=>(.of [(0,[]),(1,[]),(2,[]),(3,[]),(4,[]),(5,[]),(6,[]),(7,[]),(9,[]),(10,[]),(11,[]),(12,[]),(13,[]),(14,[]),(8,[1,10,14]),(15,[]),(16,[1]),(17,[]),(18,[]),(19,[])])
 | _=>.nil
def P19:dI:=λi=>match i with
 | 6=>.run 0 51
 | _=>.nil
def P46:dI:=λi=>match i with
 | 5=>(.op 0 [] (.op 1 [] (.op 2 [] (.op 3 [] (.op 4 [] (.op 5 [] (.op 6 [] (.op 7 [] (.op 8 [] (.op 9 [] (.op 10 [] (.op 11 [] (.op 12 [] (.op 13 [] (.op 14 [] (.op 15 [] (.op 16 [] (.op 17 [] (.op 18 [] (.op 19 [] (.op 20 [] (.op 21 [] (.op 22 [] (.alt 23 [4,9,17] (.of [(24,[]),(25,[4,9,17,22]),(26,[])]) (.alt 25 [4,9,17,22] (.of [(23,[4,9,17]),(24,[]),(26,[])]) .stop)))))))))))))))))))))))))
 | 9=>(.of [(0,[]),(1,[]),(2,[]),(3,[]),(4,[]),(5,[]),(6,[]),(7,[]),(8,[]),(9,[]),(10,[]),(11,[]),(12,[]),(13,[]),(14,[]),(15,[]),(16,[]),(17,[]),(18,[]),(19,[]),(20,[]),(21,[1]),(22,[]),(23,[]),(24,[])])
 | _=>.nil
def S57(p0:Value):Prop:=
 qZ hH (zx 27 p0) w λp1 a=>lA 27 p1 a λb=>cF 118 [b] a λc d=>eP hH (Op.unary .not c) λe=>cV e (K (.tuple #[(i 8),(i 0)]) d) (lA 27 p1 d λf=>
 cF 119 [f] d λg h=>cV g (K (.tuple #[(i 2),(i 0)]) h) (lA 27 p1 h λj=>cF 120 [j] h λk l=>kK (λZ i5 n=>∀_:Env,
 lN 24 k λo=>bA .lss 3 i5 o λp=>cV p (iA 24 k i5 λq=>fA 146 q 2 λr=>lA 141 r n λs=>cF 121 [s,(i 1)] n λt u=>bB .geq 3 t (i 0) λv=>cV v (K (.tuple #[(i 11),t]) u) (
 bB .add 3 i5 (i 1) λx=>Z x u)) (lA 27 p1 n λy=>cF 122 [y] n λz aa=>bB .geq 3 z (i 0) λab=>cV ab (K (.tuple #[(i 10),z]) aa) (kK (λK2 J ac=>∀_:Env,
 lN 24 k λad=>bA .lss 3 J ad λae=>cV ae (kK (λW V M=>∀_:Env,
 iA 24 k J λag=>fA 146 ag 1 λah=>lA 91 ah M λai=>lN 91 ai λaj=>bA .lss 3 V aj λak=>cV ak (iA 24 k J λal=>fA 146 al 1 λam=>lA 91 am M λan=>iA 91 an V λao=>
 lA 9 ao M λap=>eT (λK4=>iA 24 k J λaq=>fA 146 aq 1 λar=>lA 91 ar M λasx=>cF 123 [asx,ap] M λau av=>bA .lss 3 au V λaw=>cV aw (K4 tt av) (lA 27 p1 av λax=>
 cF 124 [ax] av λay az=>cF 123 [ay,ap] az λa0 a1=>bB .geq 3 a0 (i 0) λa2=>cV a2 (K4 tt a1) (lA 27 p1 a1 λa3=>cF 125 [a3] a1 λa4 a5=>cF 123 [a4,ap] a5 λa6 a7=>
 bB .geq 3 a6 (i 0) λa8=>K4 a8 a7))) (λa9 ba=>∀_:Env,
 cV a9 (iA 24 k J λbb=>fA 146 bb 3 λbc=>lA 3 bc (drew ba) λbd=>K (.tuple #[(i 10),bd]) (drew ba)) (bB .add 3 V (i 1) λbe=>W be ba))) (bB .add 3 J (i 1) λbf=>
 K2 bf M)) λW=>W (i 0) ac) (kK (λK5 B U=>∀_:Env,
 lN 24 k λbh=>bA .lss 3 B bh λbi=>cV bi (kK (λK6 G I=>∀_:Env,
 iA 24 k B λbk=>fA 146 bk 2 λbl=>lA 141 bl I λbm=>lN 141 bm λbn=>bA .lss 3 G bn λbo=>cV bo (lA 27 p1 (drew I) λbp=>iA 24 k B λbq=>lA 146 bq (drew I) λbr=>
 iA 24 k B λbs=>fA 146 bs 2 λbt=>lA 141 bt (drew I) λbu=>iA 141 bu G λbv=>lA 193 bv (drew I) λbw=>cF 126 [bp,br,bw] (drew I) λbx bz=>bB .geq 3 bx (i 0) λb0=>
 cV b0 (K (.tuple #[(i 9),bx]) bz) (bB .add 3 G (i 1) λb1=>K6 b1 bz)) (bB .add 3 B (i 1) λb2=>K5 b2 I)) λK6=>K6 (i 0) U) (lA 27 p1 (drew U) λb3=>lA 27 p1 (drew U) λb4=>
 cF 124 [b3] (drew U) λb5 b6=>kA 27 p1 b4 b6 (cF 62 [b4] b6 λb7 b8=>eP hH (n4 91 b5 none (some b7) none) λb9=>kK (λY E O=>∀_:Env,
 fA 27 p1 5 λcb=>lA 25 cb O λcc=>lN 25 cc λcd=>bA .lss 3 E cd λce=>cV ce (fA 27 p1 5 λcf=>lA 25 cf O λcg=>iA 25 cg E λch=>fA 85 ch 0 λci=>lA 82 ci O λcj=>
 cF 127 [cj,b9] O λck cl=>bB .geq 3 ck (i 0) λcm=>cV cm (K (.tuple #[(i 9),ck]) cl) (bB .add 3 E (i 1) λcn=>Y cn cl)) (K (.tuple #[(i 0),(i 0)]) O)) λY=>Y (i 0) b8)))
 λK5=>K5 (i 0) ac)) λK2=>K2 (i 0) aa))) λZ=>Z (i 0) l))
def P57:dI:=λi=>match i with
 | 23=>.run 0 7
 | 30=>.run 0 15
 | 33=>(.of [(0,[]),(2,[]),(1,[2]),(3,[]),(4,[]),(5,[])])
 | _=>.nil
theorem ahB(p0:Value)(h:S57 w K p0):CR 57 [p0] w K:=
 qm 150 P57 12 [.tmp 2,.tmp 3] Tryz.func57 h
def S61(E I M:Value):Prop:=
 eT (λJ=>lN 41 E λa=>lN 41 M λb=>bA .neq 3 a b λc=>cV c (J tt w) (lN 41 E λd=>bB .gtr 3 d (i 20) λe=>cV e (J tt w) (bB .lss 3 I (i 0) λf=>
 cV f (J tt w) (lN 41 E λg=>bA .gtr 3 I g λh=>J h w)))) (λj k=>∀_:Env,
 cV j (K (.tuple #[(.pointer none),(i 1)]) k) (kK (λK2 B l=>∀_:Env,
 bA .lss 3 B I λn=>cV n (eT (λG=>bB .eql 3 B (i 0) λo=>cV o (iA 41 E (i 0) λp=>lA 3 p (drew l) λq=>bB .neq 3 q (i 0) λr=>cV r (G tt (drew l)) (
 bB .gtr 3 B (i 0) λs=>cV s (iA 41 E B λt=>lA 3 t (drew l) λu=>bB .sub 3 B (i 1) λv=>iA 41 E v λx=>lA 3 x (drew l) λy=>bA .neq 3 u y λz=>cV z (iA 41 E B λaa=>
 lA 3 aa (drew l) λW=>bB .sub 3 B (i 1) λac=>iA 41 E ac λad=>lA 3 ad (drew l) λae=>bB .add 3 ae (i 1) λaf=>bA .neq 3 W af λag=>G ag (drew l)) (G ff (drew l))) (
 G ff (drew l)))) (bB .gtr 3 B (i 0) λah=>cV ah (iA 41 E B λai=>lA 3 ai (drew l) λaj=>bB .sub 3 B (i 1) λak=>iA 41 E ak λal=>lA 3 al (drew l) λam=>bA .neq 3 aj am λan=>
 cV an (iA 41 E B λao=>lA 3 ao (drew l) λap=>bB .sub 3 B (i 1) λaq=>iA 41 E aq λar=>lA 3 ar (drew l) λO=>bB .add 3 O (i 1) λau=>bA .neq 3 ap au λav=>
 G av (drew l)) (G ff (drew l))) (G ff (drew l)))) (λY V=>∀_:Env,
 cV Y (K (.tuple #[(.pointer none),(i 1)]) V) (bB .add 3 B (i 1) λay=>K2 ay V))) (bS 41 0 [] l λaz a0=>eP hH (n4 41 E none (some I) none) λa1=>
 aP 41 az a1 a0 λa2 a3=>bS 41 0 [] a3 λa4 a5=>aP 41 a4 M a5 λa6 a7=>eP hH (l4 122 [(0,a2),(1,a6)].toArray) λZ=>qZ hH (zx 122 Z) a7 λU ba=>
 bS 41 0 [] ba λbb bc=>aP 41 bb M bc λbd be=>nC U λbf=>fA 122 bf 2 λbg=>sA 41 bg bd be λbh=>bS 41 0 [] bh λbi bj=>eP hH (n4 41 M none (some I) none) λbk=>
 aP 41 bi bk bj λbl bm=>nC U λbn=>fA 122 bn 3 λbo=>sA 41 bo bl bm λbp=>K (.tuple #[U,(i 0)]) bp)) λK2=>K2 (i 0) k))
def P61:dI:=λi=>match i with
 | 6=>.run 0 37
 | _=>.nil
theorem ahC(u B E:Value)(h:S61 w K u B E):CR 61 [u,B,E] w K:=
 qm 97 P61 192 [.tmp 6,.tmp 7] Tryz.func61 h
def P62:dI:=λi=>match i with
 | 1=>(.of [(0,[]),(3,[]),(4,[]),(5,[]),(1,[4]),(2,[]),(6,[]),(7,[])])
 | _=>.nil
def P65:dI:=λi=>match i with
 | 6=>(.of [(0,[]),(1,[]),(2,[]),(3,[1]),(4,[1]),(5,[]),(6,[]),(7,[])])
 | 8=>(.of [(0,[]),(1,[]),(2,[]),(3,[1]),(4,[]),(5,[]),(6,[])])
 | 10=>(.of [(0,[]),(1,[]),(2,[]),(3,[1]),(4,[]),(5,[]),(6,[])])
 | 13=>(.of [(0,[]),(1,[]),(2,[]),(3,[]),(4,[]),(5,[]),(6,[]),(7,[]),(8,[1]),(9,[1]),(10,[]),(11,[]),(12,[])])
 | 15=>(.of [(0,[]),(1,[]),(2,[]),(3,[]),(4,[]),(5,[]),(6,[]),(7,[]),(8,[]),(9,[]),(10,[]),(11,[]),(12,[]),(13,[1]),(14,[1]),(15,[]),(16,[]),(17,[])])
 | 17=>(.of [(0,[]),(1,[]),(2,[]),(3,[]),(4,[]),(5,[]),(6,[]),(7,[]),(8,[]),(9,[]),(10,[]),(11,[]),(12,[1]),(13,[1]),(14,[]),(15,[]),(16,[])])
 | 21=>(.of [(0,[]),(1,[]),(2,[]),(3,[]),(4,[]),(5,[]),(6,[]),(7,[]),(8,[]),(9,[4,8]),(10,[]),(11,[])])
 | _=>.nil
def P71:dI:=λi=>match i with
 | 6=>.run 0 9
 | _=>.nil
def P77:dI:=λi=>match i with
 | 3=>.run 0 14
 | _=>.nil
theorem auk:PL 11:=dK Tryz.func11
theorem aul:PL 17:=dK Tryz.func17
theorem KC:PL 19:=dK Tryz.func19
theorem TI:PL 45:=dK Tryz.func45
theorem ID:PL 46:=dK Tryz.func46
theorem ahD:PL 47:=dK Tryz.func47
theorem amE:PL 49:=dK Tryz.func49
theorem aum:PL 57:=dK Tryz.func57
theorem amF:PL 58:=dK Tryz.func58
theorem TJ:PL 59:=dK Tryz.func59
theorem aun:PL 61:=dK Tryz.func61
theorem IE:PL 62:=dK Tryz.func62
theorem auo:PL 65:=dK Tryz.func65
theorem amG:PL 71:=dK Tryz.func71
theorem amH:PL 77:=dK Tryz.func77
variable (w:World) (K:Value->hM)
def P84:dI:=λi=>match i with
 | 1=>(.of [(0,[]),(1,[]),(2,[]),(3,[]),(4,[]),(5,[3]),(6,[]),(7,[]),(8,[])])
 | _=>.nil
def P86:dI:=λi=>match i with
 | 5=>.run 0 9
 | _=>.nil
def S92(O CY:Value):Prop:=
 cF 17 [O] w λa b=>lN 41 CY λc=>lN 41 a λd=>bA .neq 3 c d λe=>cV e (K (.tuple #[(.slice none 0 0),(i 1)]) b) (kK (λY J f=>∀_:Env,
 lN 41 a λg=>bA .lss 3 J g λh=>cV h (eT (λK2=>iA 41 CY J λj=>lA 3 j (drew f) λk=>bB .lss 3 k (i 0) λl=>cV l (K2 tt (drew f)) (iA 41 CY J λn=>lA 3 n (drew f) λo=>
 iA 41 a J λp=>lA 3 p (drew f) λq=>bA .gtr 3 o q λr=>K2 r (drew f))) (λs t=>∀_:Env,
 cV s (K (.tuple #[(.slice none 0 0),(i 1)]) t) (bB .add 3 J (i 1) λu=>Y u t))) (GM (λW=>nC O λv=>fA 122 v 3 λx=>lA 41 x (drew f) λy=>((bS 41 0 [] (drew f) λz V=>
 kA 41 x y V ((aP 41 z CY V λab ac=>kA 41 x y ac (bS 41 0 [] ac λad ae=>kA 41 x y ae (aP 41 ad y ae λaf ag=>W ab af ag)))
 /\((bS 41 0 [] V λah ai=>kA 41 x y ai (aP 41 z CY ai λaj ak=>kA 41 x y ak (aP 41 ah y ak λal am=>W aj al am)))
 /\
 True)))
 /\((bS 41 0 [] (drew f) λan B=>kA 41 x y B (bS 41 0 [] B λap aq=>kA 41 x y aq (aP 41 ap CY aq λar M=>kA 41 x y M (aP 41 an y M λau av=>W ar au av))))
 /\
 True))) (λU V4 aw=>∀_:Env,
 kK (λZ G I=>∀_:Env,
 nC O λay=>fA 122 ay 4 λaz=>lA 120 az I λa0=>lN 120 a0 λa1=>bA .lss 3 G a1 λa2=>cV a2 (yE (λK5=>nC O λa3=>fA 122 a3 4 λa4=>lA 120 a4 I λa5=>
 iA 120 a5 G λa6=>lA 125 a6 I λa7=>aL 125 I λB a8=>sA 125 B a7 a8 λE=>fA 125 B 0 λba=>lA 3 ba E λbb=>iA 41 U bb λbc=>lA 3 bc E λbd=>bB .gtr 3 bd (i 0) λbe=>
 cV be (fA 125 B 0 λbf=>lA 3 bf (drew E) λbg=>fA 125 B 0 λbh=>lA 3 bh (drew E) λbi=>iA 41 U bi λbj=>lA 3 bj (drew E) λbk=>bB .sub 3 bk (i 1) λbl=>
 iA 41 U bg λbm=>sA 3 bm bl (drew E) λbn=>fA 125 B 1 λbo=>lA 3 bo bn λbp=>fA 125 B 2 λbq=>lA 3 bq bn λbr=>iA 41 V4 bp λbs=>sA 3 bs br bn λbt=>
 K5 bt) (K5 E)) (λbu=>∀_:Env,
 bB .add 3 G (i 1) λbv=>Z bv bu)) (K (.tuple #[V4,(i 0)]) I)) λZ=>Z (i 0) aw))) λY=>Y (i 0) b)
def P92:dI:=λi=>match i with
 | 7=>.run 0 16
 | 9=>(.op 1 [] (.op 4 [] (.op 5 [] (.op 6 [] (.op 7 [] (.alt 0 [7] (.alt 2 [7] (.of [(3,[7]),(8,[]),(9,[]),(10,[])]) (.alt 3 [7] (.of [(2,[7]),(8,[]),(9,[]),(10,[])]) .stop)) (.alt 3 [7] (.of [(0,[7]),(2,[7]),(8,[]),(9,[]),(10,[])]) .stop)))))))
 | 15=>.run 0 11
 | _=>.nil
theorem ahE(u CY:Value)(h:S92 w K u CY):CR 92 [u,CY] w K:=
 qm 89 P92 48 [.tmp 4,.tmp 5] Tryz.func92 h
def P93:dI:=λi=>match i with
 | 5=>.run 0 13
 | _=>.nil
def S94(G:Value):Prop:=
 oq (λu E B a=>∀_:Env,
 lN 41 G λb=>bA .lss 3 B b λc=>cV c (bC .mul 3 (i 10000) E λd=>iA 41 G B λe=>lA 3 e a λf=>bA .add 3 d f λg=>bB .add 3 B (i 1) λh=>u g h a) (K E a))
 (λu=>u (i 0) (i 0) w)
theorem ahF(u:Value)(h:S94 w K u):CR 94 [u] w K:=
 qm 19 (λ_=>.nil) 4 [.tmp 2] Tryz.func94 h
def S122(p0:Value):Prop:=
 qZ hH (zx 27 p0) w λp1 a=>bS 23 0 [] a λb c=>lA 27 p1 c λd=>cF 59 [d] c λe f=>aP 23 b e f λg h=>fA 27 p1 2 λj=>lA 23 j h λk=>aP 23 g k h λl n=>
 oq (λM B G o=>∀_:Env,
 fA 27 p1 3 λp=>lA 24 p o λq=>lN 24 q λr=>bA .lss 3 G r λs=>cV s (fA 27 p1 3 λt=>lA 24 t (drew o) λu=>iA 24 u G λv=>fA 146 v 0 λx=>lA 9 x (drew o) λy=>
 fA 27 p1 3 λz=>lA 24 z (drew o) λaa=>iA 24 aa G λU=>fA 146 U 3 λY=>lA 3 Y (drew o) λad=>eP hH (l4 161 [(0,y),(2,ad)].toArray) λae=>
 bS 23 1 [(0,ae)] (drew o) λaf ag=>aP 23 B af ag λV ai=>bB .add 3 G (i 1) λaj=>M V aj ai) (cF 202 [B] o λak al=>kK (λK2 E J=>∀_:Env,
 lN 23 B λan=>bA .lss 3 E an λZ=>cV Z (iA 23 B E λap=>fA 161 ap 0 λaq=>lA 9 aq J λar=>cF 123 [ak,ar] J λI O=>bA .lss 3 I E λav=>cV av (iA 23 B E λW=>
 fA 161 W 2 λax=>lA 3 ax O λay=>K ay O) (bB .add 3 E (i 1) λaz=>K2 az O)) (K (i (-1)) J)) λK2=>K2 (i 0) al)) (λM=>M l (i 0) n)
def aup:dI:=λi=>match i with
 | 6=>.run 0 17
 | _=>.nil
theorem abT(p0:Value)(h:S122 w K p0):CR 122 [p0] w K:=
 qm 60 aup 4 [.tmp 2] Tryz.func122 h
def auq:dI:=λi=>match i with
 | 3=>(.of [(0,[]),(2,[]),(3,[]),(1,[3]),(4,[]),(5,[])])
 | 16=>(.of [(0,[]),(2,[]),(3,[]),(1,[3]),(4,[]),(5,[])])
 | _=>.nil
def S130(B:Value):Prop:=
 lN 9 B λa=>bB .gtr 3 a (i 4000) λb=>cV b (K (.tuple #[(.slice none 0 0),(i 2),(i 4000)]) w) (bS 198 0 [] w λc d=>cF 205 [B,(i 0)] d λe f=>oq (λV zj E g=>∀_:Env,
 lN 9 B λh=>bA .lss 3 E h λj=>cV j (eP hH (l4 209 [(3,E)].toArray) λk=>aL 209 g λI l=>sA 209 I k l λn=>eT (λK2=>eP hH (u4 9 B E) λo=>
 cF 206 [o] n λp q=>cV p (fA 209 I 0 λr=>sA 3 r (i 1) q λs=>kK (λU G t=>∀_:Env,
 eT (λK4=>lN 9 B λu=>bA .lss 3 G u λv=>cV v (eP hH (u4 9 B G) λx=>cF 206 [x] t λy z=>cV y (K4 tt z) (eP hH (u4 9 B G) λaa=>
 cF 207 [aa] z λab ac=>K4 ab ac)) (K4 ff t)) (λad Z=>∀_:Env,
 cV ad (bB .add 3 G (i 1) λaf=>U af Z) (bA .sub 3 G E λag=>bB .gtr 3 ag (i 16) λah=>cV ah (K (.tuple #[(.slice none 0 0),(i 2),E]) Z) (K2 G Z)))) λU=>U E s) (
 eP hH (u4 9 B E) λai=>cF 207 [ai] q λaj ak=>cV aj (fA 209 I 0 λal=>sA 3 al (i 2) ak λam=>kK (λY M an=>∀_:Env,
 eT (λK6=>lN 9 B λao=>bA .lss 3 M ao λap=>cV ap (eP hH (u4 9 B M) λaq=>cF 207 [aq] an λar W=>K6 ar W) (K6 ff an)) (λau J=>∀_:Env,
 cV au (yE (λK7=>fA 209 I 2 λaw=>lA 3 aw J λax=>bB .leq 3 ax (i 4294967296) λay=>cV ay (fA 209 I 2 λaz=>lA 3 az (drew J) λa0=>bC .mul 3 (i 10) a0 λa1=>
 eP hH (u4 9 B M) λa2=>bB .sub 5 a2 (.int .u8 48) λa3=>eP hH (convert 5 3 a3) λa4=>bA .add 3 a1 a4 λa5=>fA 209 I 2 λa6=>sA 3 a6 a5 (drew J) λa7=>
 K7 a7) (K7 J)) (λa8=>∀_:Env,
 bB .add 3 M (i 1) λa9=>Y a9 a8)) (fA 209 I 2 λba=>lA 3 ba J λbb=>bB .gtr 3 bb (i 4294967296) λbc=>cV bc (K (.tuple #[(.slice none 0 0),(i 4),E]) J) (K2 M J))))
 λY=>Y E am) (fA 209 I 0 λbd=>sA 3 bd (i 3) ak λbe=>cF 208 [B,E] be λbf bg=>bA .add 3 E bf λbh=>bA .eql 3 bh E λbi=>cV bi (K (.tuple #[(.slice none 0 0),(i 3),E]) bg) (
 K2 bh bg)))) (λO bj=>∀_:Env,
 eP hH (n4 9 B (some E) (some O) none) λbk=>fA 209 I 1 λbl=>sA 9 bl bk bj λbm=>lA 209 I bm λbn=>bS 198 1 [(0,bn)] bm λbo bp=>aP 198 zj bo bp λbq br=>
 cF 205 [B,O] br λbs bt=>V bq bs bt)) (K (.tuple #[zj,(i 0),(i 0)]) g)) λV=>V c e f)
def aur:dI:=λi=>match i with
 | 17=>.run 0 11
 | _=>.nil
theorem abU(u:Value)(h:S130 w K u):CR 130 [u] w K:=
 qm 107 aur 28 [.tmp 2,.tmp 3,.tmp 4] Tryz.func130 h
def aus:dI:=λi=>match i with
 | 1=>.run 0 17
 | _=>.nil
theorem aut:PL 81:=dK Tryz.func81
theorem OA:PL 83:=dK Tryz.func83
theorem auu:PL 86:=dK Tryz.func86
theorem amI:PL 92:=dK Tryz.func92
theorem auv:PL 93:=dK Tryz.func93
theorem auw:PL 94:=dK Tryz.func94
theorem afs:PL 106:=dK Tryz.func106
theorem amJ:PL 118:=dK Tryz.func118
theorem amK:PL 119:=dK Tryz.func119
theorem afu:PL 120:=dK Tryz.func120
theorem V5:PL 121:=dK Tryz.func121
theorem amL:PL 122:=dK Tryz.func122
theorem rT:PL 123:=dK Tryz.func123
theorem KF:PL 124:=dK Tryz.func124
theorem Rk:PL 125:=dK Tryz.func125
theorem amM:PL 126:=dK Tryz.func126
theorem V6:PL 127:=dK Tryz.func127
theorem amN:PL 130:=dK Tryz.func130
theorem yG:PL 131:=dK Tryz.func131
variable (w:World) (K:Value->hM)
def auy:dI:=λi=>match i with
 | 7=>.run 0 24
 | 8=>.run 0 13
 | _=>.nil
def auz:dI:=λi=>match i with
 | 1=>.run 0 45
 | 3=>.run 0 26
 | _=>.nil
def auA:dI:=λi=>match i with
 | 8=>(.of [(0,[]),(1,[]),(2,[]),(3,[]),(4,[]),(5,[]),(6,[]),(7,[1]),(8,[]),(9,[]),(10,[])])
 | 10=>.run 0 19
 | _=>.nil
def auB:dI:=λi=>match i with
 | 1=>.run 0 18
 | _=>.nil
def auC:dI:=λi=>match i with
 | 2=>.run 0 10
 | 4=>.run 0 13
 | _=>.nil
def auD:dI:=λi=>match i with
 | 3=>.run 0 14
 | _=>.nil
def P149:dI:=λi=>match i with
 | 5=>.run 0 12
 | _=>.nil
def auE:dI:=λi=>match i with
 | 6=>.run 0 16
 | _=>.nil
def auF:dI:=λi=>match i with
 | 6=>(.of [(0,[]),(1,[]),(2,[]),(3,[]),(4,[]),(5,[]),(6,[]),(7,[]),(8,[]),(9,[]),(10,[]),(11,[]),(12,[]),(13,[]),(14,[3,8,10]),(15,[3]),(16,[])])
 | _=>.nil
def auG:dI:=λi=>match i with
 | 6=>.run 0 10
 | _=>.nil
def auH:dI:=λi=>match i with
 | 5=>(.of [(0,[]),(1,[]),(2,[]),(3,[]),(4,[]),(5,[]),(6,[4]),(7,[]),(8,[]),(9,[]),(10,[])])
 | _=>.nil
def S165(E B:Value):Prop:=
 aL 231 w λa b=>eT (λU=>bB .lss 3 B (i 0) λc=>cV c (U tt b) (nC E λd=>fA 196 d 1 λe=>lA 179 e b λf=>lN 179 f λg=>bA .geq 3 B g λh=>U h b)) (λj k=>∀_:Env,
 cV j (eP hH (l4 231 [].toArray) λl=>sA 231 a l k λn=>lA 231 a n λr=>K (.tuple #[r,(i 1)]) n) (cF 151 [E,B] k λo p=>eP hH (Op.unary .not o) λq=>
 cV q (eP hH (l4 231 [].toArray) λs=>sA 231 a s p λt=>lA 231 a t λGj=>K (.tuple #[Gj,(i 13)]) t) (nC E λu=>fA 196 u 1 λv=>lA 179 v p λx=>
 iA 179 x B λy=>lA 231 y p λz=>aL 231 p λV W=>sA 231 V z W λac=>bS 179 0 [] ac λad J=>nC E λaf=>fA 196 af 1 λag=>lA 179 ag J λY=>eP hH (n4 179 Y none (some B) none) λai=>
 aP 179 ad ai J λaj M=>nC E λal=>fA 196 al 1 λam=>lA 179 am M λan=>bB .add 3 B (i 1) λao=>eP hH (n4 179 an (some ao) none none) λap=>
 aP 179 aj ap M λaq ar=>nC E λG=>fA 196 G 1 λau=>sA 179 au aq ar λI=>lA 231 V I λZ=>sA 231 a Z I λO=>lA 231 a O λKG=>K (.tuple #[KG,(i 0)]) O)))
theorem abV(B u:Value)(h:S165 w K B u):CR 165 [B,u] w K:=
 qm 54 (λ_=>.nil) 48 [.cell 4 231,.tmp 5] Tryz.func165 h
def auI:dI:=λi=>match i with
 | 5=>(.of [(0,[]),(1,[]),(2,[]),(3,[]),(4,[]),(5,[]),(6,[]),(7,[]),(8,[]),(9,[]),(10,[]),(11,[]),(12,[]),(13,[]),(14,[]),(15,[4]),(16,[]),(17,[]),(18,[]),(19,[])])
 | _=>.nil
def auJ:dI:=λi=>match i with
 | 8=>.run 0 22
 | _=>.nil
theorem Rl:PL 132:=dK Tryz.func132
theorem afv:PL 133:=dK Tryz.func133
theorem afw:PL 134:=dK Tryz.func134
theorem amO:PL 135:=dK Tryz.func135
theorem Rm:PL 136:=dK Tryz.func136
theorem amP:PL 139:=dK Tryz.func139
theorem amQ:PL 144:=dK Tryz.func144
theorem amR:PL 145:=dK Tryz.func145
theorem afx:PL 148:=dK Tryz.func148
theorem amS:PL 150:=dK Tryz.func150
theorem afy:PL 151:=dK Tryz.func151
theorem amT:PL 153:=dK Tryz.func153
theorem amU:PL 154:=dK Tryz.func154
theorem afz:PL 155:=dK Tryz.func155
theorem afA:PL 156:=dK Tryz.func156
theorem amV:PL 157:=dK Tryz.func157
theorem Rn:PL 162:=dK Tryz.func162
theorem amW:PL 165:=dK Tryz.func165
theorem afB:PL 166:=dK Tryz.func166
theorem amX:PL 167:=dK Tryz.func167
theorem V7:PL 198:=dK Tryz.func198
variable (w:World) (K:Value->hM)
def auK:dI:=λi=>match i with
 | 10=>.run 0 7
 | _=>.nil
def auL:dI:=λi=>match i with
 | 2=>.run 0 17
 | 6=>.run 0 12
 | 8=>.run 0 9
 | 9=>.run 0 12
 | _=>.nil
def auM:dI:=λi=>match i with
 | 5=>.run 0 8
 | 7=>.run 0 9
 | 9=>.run 0 9
 | 10=>.run 0 8
 | _=>.nil
def auN:dI:=λi=>match i with
 | 5=>.run 0 17
 | _=>.nil
def auO:dI:=λi=>match i with
 | 1=>.run 0 11
 | _=>.nil
def auP:dI:=λi=>match i with
 | 1=>.run 0 11
 | 4=>.run 0 10
 | _=>.nil
def S219(B U:Value):Prop:=
 lN 41 U λa=>cF 266 [B,a] w λb c=>eP hH (Op.unary .not b) λd=>cV d (K (.tuple #[(i 0),(i 8)]) c) (aL 318 c λp6 e=>lN 277 B λf=>kK (λG g h=>∀_:Env,
 bA .lss 3 g f λj=>cV j (yE (λK2=>iA 277 B g λk=>lA 320 k h λl=>aL 320 h λn o=>sA 320 n l o λp=>fA 320 n 0 λq=>lA 3 q p λr=>cF 267 [r] p λs t=>
 bB .eql 3 s (i 0) λu=>cV u (fA 320 n 1 λv=>lA 3 v t λx=>eT (λI=>fA 320 n 0 λy=>lA 3 y t λz=>bB .eql 3 z (i 2) λaa=>cV aa (fA 320 n 1 λab=>lA 3 ab t λac=>
 iA 41 U ac λad=>lA 3 ad t λae=>I ae t) (I x t)) (λn9 af=>∀_:Env,
 cF 268 [p6,n9] af λ_ ag=>K2 ag)) (bB .eql 3 s (i 1) λah=>cV ah (fA 320 n 0 λai=>lA 3 ai (drew t) λY=>fA 318 p6 0 λak=>cF 270 [ak] (drew t) λal am=>kA 3 ai Y am (
 cF 269 [Y,al] am λV ao=>xT V 0 λap=>xT V 1 λ_=>cF 268 [p6,ap] ao λ_ aq=>K2 aq)) (fA 318 p6 0 λar=>cF 270 [ar] t λE au=>fA 320 n 0 λM=>lA 3 M (drew au) λJ=>
 fA 318 p6 0 λax=>cF 270 [ax] (drew au) λay O=>kA 3 M J O (cF 271 [J,ay,E] O λZ a1=>xT Z 0 λa2=>xT Z 1 λW=>bB .neq 31 W (i 0) λa4=>cV a4 (K (.tuple #[(i 0),W]) a1) (
 cF 268 [p6,a2] a1 λ_ a5=>K2 a5))))) (λa6=>∀_:Env,
 bB .add 3 g (i 1) λa7=>G a7 a6)) (fA 318 p6 0 λa8=>cF 270 [a8] h λa9 ba=>K (.tuple #[a9,(i 0)]) ba)) λG=>G (i 0) e)
def auQ:dI:=λi=>match i with
 | 9=>(.of [(0,[]),(1,[]),(2,[]),(4,[]),(3,[1]),(5,[]),(6,[]),(7,[]),(8,[]),(9,[]),(10,[])])
 | 19=>(.of [(0,[]),(1,[]),(2,[]),(3,[1]),(4,[]),(5,[]),(6,[]),(7,[]),(8,[]),(9,[])])
 | _=>.nil
theorem abW(u B:Value)(h:S219 w K u B):CR 219 [u,B] w K:=
 qm 74 auQ 48 [.tmp 4,.tmp 5] Tryz.func219 h
def S220(B I:Value):Prop:=
 cF 200 [B] w λa b=>eP hH (Op.unary .not a) λc=>cV c (K (.tuple #[(.slice none 0 0),(i 8)]) b) (kK (λG E d=>∀_:Env,
 lN 82 B λe=>bA .lss 3 E e λf=>cV f (eT (λK2=>iA 82 B E λg=>fA 164 g 0 λh=>lA 3 h d λj=>bB .eql 3 j (i 2) λk=>cV k (iA 82 B E λl=>fA 164 l 2 λn=>
 lA 9 n d λo=>cF 123 [I,o] d λp q=>bB .lss 3 p (i 0) λr=>K2 r q) (K2 ff d)) (λs t=>∀_:Env,
 cV s (K (.tuple #[(.slice none 0 0),(i 9)]) t) (bB .add 3 E (i 1) λu=>G u t))) (cF 272 [B,(i 0),I] d λv x=>K (.tuple #[v,(i 0)]) x)) λG=>G (i 0) b)
theorem abX(u B:Value)(h:S220 w K u B):CR 220 [u,B] w K:=
 qm 35 (λ_=>.nil) 48 [.tmp 4,.tmp 5] Tryz.func220 h
def S224(u B E:Value):Prop:=
 lN 179 u λa=>eP hH (n4 179 u (some B) (some E) (some a)) λ_=>bA .eql 3 B E λb=>cV b (K u w) (lN 179 u λc=>eP hH (n4 179 u none (some B) none) λd=>
 eP hH (n4 179 u (some E) none none) λe=>aP 179 d e (drew w) λf g=>lN 179 f λh=>eP hH (n4 179 f (some h) (some c) none) λj=>
 qZ hH (Builtin.clear_ #[179] 0 [j].toArray) g λ_ k=>K f k)
def auR:dI:=λi=>match i with
 | 5=>.run 0 8
 | _=>.nil
theorem abY(E B u:Value)(h:S224 w K E B u):CR 224 [E,B,u] w K:=
 qm 33 auR 64 [.tmp 6] Tryz.func224 h
def S229(E jL:Value):Prop:=
 nC E λa=>fA 196 a 1 λb=>lA 179 b w λc=>lN 179 c λd=>bB .sub 3 d (i 1) λe=>kK (λG B f=>∀_:Env,
 bB .geq 3 B (i 0) λg=>cV g (eT (λK2=>nC E λh=>fA 196 h 1 λj=>lA 179 j f λk=>iA 179 k B λl=>fA 231 l 0 λn=>lA 3 n f λo=>bB .eql 3 o (i 3) λp=>
 cV p (nC E λq=>fA 196 q 1 λr=>lA 179 r f λs=>iA 179 s B λt=>fA 231 t 2 λu=>lA 3 u f λv=>bA .eql 3 v jL λx=>K2 x f) (K2 ff f)) (λy z=>∀_:Env,
 cV y (nC E λW=>fA 196 W 1 λI=>lA 179 I z λJ=>iA 179 J B λO=>fA 231 O 3 λM=>lA 3 M z λV=>K (.tuple #[V,tt]) z) (bB .sub 3 B (i 1) λU=>G U z))) (
 K (.tuple #[(i 0),ff]) f)) (λG=>G e w)
theorem abZ(u jL:Value)(h:S229 w K u jL):CR 229 [u,jL] w K:=
 qm 46 (λ_=>.nil) 48 [.tmp 4,.tmp 5] Tryz.func229 h
def auS:dI:=λi=>match i with
 | 3=>.run 0 10
 | 5=>(.of [(0,[]),(1,[]),(2,[]),(3,[]),(4,[]),(5,[]),(6,[4]),(7,[]),(8,[]),(9,[]),(10,[])])
 | _=>.nil
def S252(u I:Value):Prop:=
 bB .add 3 I (i 1) λa=>afn (λB J G E b=>∀_:Env,
 iA 82 u I λc=>fA 164 c 0 λd=>lA 3 d b λe=>cF 273 [e] b λf g=>bA .lss 3 E f λh=>cV h (cF 252 [u,G] g λj k=>eP hH (Builtin.max_ #[3,3] 3 [J,j].toArray) λl=>
 cF 251 [u,G] k λn o=>bB .add 3 E (i 1) λp=>B l n p o) (bB .add 3 J (i 1) λq=>K q g)) (λB=>B (i 0) a (i 0) w)
theorem ab0(u B:Value)(h:S252 w K u B):CR 252 [u,B] w K:=
 qm 30 (λ_=>.nil) 16 [.tmp 4] Tryz.func252 h
theorem Ro:PL 199:=dK Tryz.func199
theorem KI:PL 200:=dK Tryz.func200
theorem afC:PL 201:=dK Tryz.func201
theorem V8:PL 202:=dK Tryz.func202
theorem afD:PL 205:=dK Tryz.func205
theorem Rp:PL 206:=dK Tryz.func206
theorem Rq:PL 207:=dK Tryz.func207
theorem amY:PL 208:=dK Tryz.func208
theorem vQ:PL 209:=dK Tryz.func209
theorem V9:PL 210:=dK Tryz.func210
theorem uy:PL 211:=dK Tryz.func211
theorem amZ:PL 212:=dK Tryz.func212
theorem afE:PL 213:=dK Tryz.func213
theorem GQ:PL 214:=dK Tryz.func214
theorem afF:PL 215:=dK Tryz.func215
theorem afG:PL 216:=dK Tryz.func216
theorem am0:PL 219:=dK Tryz.func219
theorem am1:PL 220:=dK Tryz.func220
theorem am2:PL 222:=dK Tryz.func222
theorem afH:PL 223:=dK Tryz.func223
theorem am3:PL 224:=dK Tryz.func224
theorem am4:PL 226:=dK Tryz.func226
theorem am5:PL 228:=dK Tryz.func228
theorem am6:PL 229:=dK Tryz.func229
theorem Rr:PL 230:=dK Tryz.func230
theorem KJ:PL 251:=dK Tryz.func251
theorem Wa:PL 252:=dK Tryz.func252
variable (w:World) (K:Value->hM)
def S256(p0 KK Z:Value):Prop:=
 nC p0 λa=>fA 305 a 0 λb=>lA 198 b (drew w) λc=>nC p0 λd=>fA 305 d 1 λe=>lA 3 e (drew w) λf=>cF 214 [c,f] (drew w) λg h=>oq (λW B M j=>∀_:Env,
 bB .leq 3 M (i 14) λk=>cV k (eT (λK2=>nC p0 λl=>fA 305 l 0 λn=>lA 198 n (drew j) λo=>nC p0 λp=>fA 305 p 1 λq=>lA 3 q (drew j) λr=>cF 290 [M] (drew j) λs t=>
 kA 198 n o t (kA 3 q r t (cF 209 [o,r,s] t λu v=>cV u (K2 M v) (K2 B v)))) (λab1 x=>∀_:Env,
 bB .add 3 M (i 1) λy=>W ab1 y x)) (eT (λK3=>bB .eql 3 B (i 13) λz=>cV z (bB .eql 3 Z (i 0) λaa=>K3 aa j) (K3 ff j)) (λab O=>∀_:Env,
 cV ab (cF 291 [p0,(i 5)] O λ_ ad=>K (.tuple #[]) ad) (yE (λK4=>bB .neq 3 B (i 1) λae=>cV ae (nC p0 λaf=>fA 305 af 1 λag=>lA 3 ag O λah=>bB .add 3 ah (i 1) λai=>
 nC p0 λaj=>fA 305 aj 1 λak=>sA 3 ak ai O λal=>K4 al) (K4 O)) (λam=>∀_:Env,
 cF 292 [p0,B,g] am λan ao=>aL 193 ao λG aq=>sA 193 G an aq λJ=>nC p0 λY=>fA 305 Y 4 λau=>lA 141 au J λav=>lN 141 av λaw=>nC p0 λax=>fA 305 ax 4 λay=>
 lA 141 ay (drew J) λaz=>lA 193 G (drew J) λa0=>bS 141 1 [(0,a0)] (drew J) λa1 a2=>kA 141 ay az a2 (aP 141 az a1 a2 λa3 a4=>nC p0 λa5=>fA 305 a5 4 λa6=>
 sA 141 a6 a3 a4 λa7=>eT (λK5=>bB .neq 3 B (i 11) λa8=>cV a8 (bB .neq 3 B (i 12) λa9=>K5 a9 a7) (K5 ff a7)) (λba V=>∀_:Env,
 cV ba (cF 257 [p0,(Go.Value.string (kh (#[59])))] V λ_ bc=>K (.tuple #[]) bc) (eT (λK6=>bB .eql 3 B (i 12) λbd=>cV bd (bB .add 3 Z (i 1) λbe=>
 K6 be V) (K6 Z V)) (λI bf=>∀_:Env,
 bB .add 3 KK (i 1) λbg=>cF 293 [p0,bg,I] bf λbh bi=>fA 193 G 6 λbj=>sA 3 bj bh bi λE=>yE (λK7=>eT (λK8=>bB .eql 3 B (i 11) λbl=>cV bl (
 nC p0 λbm=>fA 305 bm 2 λbn=>lA 31 bn (drew E) λbo=>bB .eql 31 bo (i 0) λbp=>cV bp (nC p0 λbq=>fA 305 bq 0 λbr=>lA 198 br (drew E) λbs=>nC p0 λbt=>
 fA 305 bt 1 λbu=>lA 3 bu (drew E) λbv=>cF 209 [bs,bv,(Go.Value.string (kh (#[101,108,115,101])))] (drew E) λbw bx=>K8 bw bx) (K8 ff (drew E))) (K8 ff (drew E)))
 (λbz b0=>∀_:Env,
 cV bz (nC p0 λb1=>fA 305 b1 1 λb2=>lA 3 b2 b0 λb3=>bB .add 3 b3 (i 1) λb4=>nC p0 λb5=>fA 305 b5 1 λb6=>sA 3 b6 b4 b0 λb7=>bB .add 3 KK (i 1) λb8=>
 cF 293 [p0,b8,I] b7 λb9 ca=>fA 193 G 7 λcb=>sA 3 cb b9 ca λcc=>K7 cc) (K7 b0))) (λU=>∀_:Env,
 nC p0 λce=>fA 305 ce 4 λcf=>lA 141 cf (drew U) λcg=>lA 193 G (drew U) λch=>iA 141 cg aw λci=>sA 193 ci ch (drew U) λcj=>K (.tuple #[]) cj)))))))))) (λW=>W (i 1) (i 2) h)
def auT:dI:=λi=>match i with
 | 0=>.run 0 11
 | 4=>(.of [(0,[]),(1,[]),(2,[]),(3,[]),(4,[]),(5,[]),(6,[]),(7,[]),(8,[]),(9,[3,7]),(10,[])])
 | 12=>(.of [(0,[]),(1,[]),(2,[]),(3,[]),(4,[]),(5,[]),(6,[4]),(7,[]),(8,[]),(9,[]),(10,[])])
 | 19=>.run 0 20
 | 22=>.run 0 8
 | _=>.nil
theorem ab2(p0 B u:Value)(h:S256 w K p0 B u):CR 256 [p0,B,u] w K:=
 qm 134 auT 0 [] Tryz.func256 h
def auU:dI:=λi=>match i with
 | 0=>.run 0 17
 | _=>.nil
def S258(J i1 U E:Value):Prop:=
 aL 308 w λa b=>bB .eql 3 E (i 5) λc=>cV c (cF 294 [J,i1,U] b λd e=>sA 308 a d e λf=>lA 308 a f λr=>K r f) (bB .add 3 E (i 1) λg=>cF 258 [J,i1,U,g] b λh j=>
 aL 308 j λk l=>sA 308 k h l λn=>Ri (λW o=>∀_:Env,
 fA 308 k 2 λp=>lA 31 p o λq=>bB .eql 31 q (i 0) λs=>cV s (oq (λK2 M B t=>∀_:Env,
 cF 295 [E] t λu v=>lN 41 u λx=>bA .lss 3 B x λy=>cV y (eT (λK3=>fA 308 k 1 λz=>lA 3 z (drew v) λV=>cF 295 [E] (drew v) λab ac=>kA 3 z V ac (iA 41 ab B λad=>
 lA 3 ad ac λae=>cF 296 [ae] ac λaf ag=>kA 3 z V ag (cF 209 [J,V,af] ag λah ai=>cV ah (cF 295 [E] ai λaj ak=>iA 41 aj B λal=>lA 3 al ak λam=>K3 am ak) (
 K3 M ai)))) (λahG an=>∀_:Env,
 bB .add 3 B (i 1) λao=>K2 ahG ao an)) (bB .eql 3 M (i 0) λap=>cV ap (lA 308 k v λaq=>sA 308 a aq v λar=>lA 308 a ar λGj=>K Gj ar) (fA 308 k 1 λZ=>
 lA 3 Z v λau=>bB .add 3 au (i 1) λav=>bB .add 3 E (i 1) λaw=>cF 258 [J,av,U,aw] v λax ay=>aL 308 ay λI az=>sA 308 I ax az λG=>fA 308 I 2 λa1=>
 lA 31 a1 G λa2=>bB .neq 31 a2 (i 0) λa3=>cV a3 (lA 308 I G λa4=>sA 308 a a4 G λa5=>lA 308 a a5 λKG=>K KG a5) (fA 308 k 1 λa6=>lA 3 a6 G λa7=>iA 198 J a7 λa8=>
 fA 209 a8 3 λa9=>lA 3 a9 G λba=>eP hH (l4 164 [(0,M),(3,ba)].toArray) λbb=>bS 82 1 [(0,bb)] G λbc bd=>fA 308 k 0 λbe=>lA 82 be bd λbf=>
 aP 82 bc bf bd λbg bh=>fA 308 I 0 λbi=>lA 82 bi bh λbj=>aP 82 bg bj bh λbk bl=>fA 308 I 1 λbm=>lA 3 bm bl λbn=>eP hH (l4 308 [(0,bk),(1,bn)].toArray) λbo=>
 sA 308 k bo bl λY=>bB .eql 3 E (i 2) λbq=>cV bq (lA 308 k Y λbr=>sA 308 a br Y λbs=>lA 308 a bs λO=>K O bs) (W Y))))) λK2=>K2 (i 0) (i 0) o) (
 lA 308 k o λbt=>sA 308 a bt o λbu=>lA 308 a bu λr_4=>K r_4 bu)) λW=>W n)
def auV:dI:=λi=>match i with
 | 9=>(.of [(0,[]),(1,[]),(2,[]),(3,[]),(5,[]),(4,[2]),(6,[]),(7,[]),(8,[2]),(9,[])])
 | _=>.nil
theorem ab4(B u G E:Value)(h:S258 w K B u G E):CR 258 [B,u,G,E] w K:=
 qm 91 auV 256 [.cell 8 308] Tryz.func258 h
def auW:dI:=λi=>match i with
 | 1=>.run 0 11
 | _=>.nil
def auX:dI:=λi=>match i with
 | 1=>.run 0 15
 | _=>.nil
def auY:dI:=λi=>match i with
 | 1=>.run 0 13
 | 2=>.run 0 15
 | _=>.nil
def S271(u E b2:Value):Prop:=
 eT (λB=>bB .lss 3 u (i 0) λa=>cV a (B tt w) (bB .geq 3 u (i 16) λb=>B b w)) (λc d=>∀_:Env,
 cV c (K (.tuple #[(i 0),(i 1)]) d) (cF 304 [] d λe f=>eP hH (u4 348 e u) λg=>bB .eql 288 g .nilFunc λh=>cV h (K (.tuple #[(i 0),(i 1)]) f) (eT (λK2=>
 bB .eql 3 u (i 8) λj=>cV j (bB .eql 3 b2 (i 0) λk=>K2 k f) (bB .eql 3 u (i 9) λl=>cV l (bB .eql 3 b2 (i 0) λn=>K2 n f) (K2 ff f))) (λo p=>∀_:Env,
 cV o (K (.tuple #[(i 0),(i 12)]) p) (kI hH g [E,b2] p λq r=>K (.tuple #[q,(i 0)]) r)))))
theorem ab5(B u b2:Value)(h:S271 w K B u b2):CR 271 [B,u,b2] w K:=
 qm 36 (λ_=>.nil) 192 [.tmp 6,.tmp 7] Tryz.func271 h
def S275(E B b2:Value):Prop:=
 bB .eql 3 E (i 5) λa=>cV a (bA .add 3 B b2 λb=>K (.tuple #[b,(i 0)]) w) (bB .eql 3 E (i 6) λc=>cV c (bA .sub 3 B b2 λd=>K (.tuple #[d,(i 0)]) w) (bB .eql 3 E (i 7) λe=>
 cV e (bA .mul 3 B b2 λf=>K (.tuple #[f,(i 0)]) w) (bB .eql 3 E (i 8) λg=>cV g (bB .eql 3 b2 (i 0) λh=>cV h (K (.tuple #[(i 0),(i 12)]) w) (cF 306 [B,b2] w λj k=>
 K (.tuple #[j,(i 0)]) k)) (bB .eql 3 E (i 9) λl=>cV l (bB .eql 3 b2 (i 0) λn=>cV n (K (.tuple #[(i 0),(i 12)]) w) (cF 306 [B,b2] w λo p=>bA .mul 3 b2 o λq=>bA .sub 3 B q λr=>
 K (.tuple #[r,(i 0)]) p)) (bB .eql 3 E (i 10) λs=>cV s (bA .eql 3 B b2 λt=>cF 305 [t] w λu v=>K (.tuple #[u,(i 0)]) v) (bB .eql 3 E (i 11) λx=>cV x (bA .neq 3 B b2 λy=>
 cF 305 [y] w λz aa=>K (.tuple #[z,(i 0)]) aa) (bB .eql 3 E (i 12) λJ=>cV J (bA .lss 3 B b2 λU=>cF 305 [U] w λad ae=>K (.tuple #[ad,(i 0)]) ae) (bB .eql 3 E (i 13) λaf=>
 cV af (bA .leq 3 B b2 λag=>cF 305 [ag] w λM ai=>K (.tuple #[M,(i 0)]) ai) (bB .eql 3 E (i 14) λaj=>cV aj (GM (λI=>bB .neq 3 B (i 0) λak=>cV ak (bB .neq 3 b2 (i 0) λal=>
 cF 305 [al] w λam Z=>I am (i 0) Z) (cF 305 [ff] w λV ap=>I V (i 0) ap)) (λaq ar G=>∀_:Env,
 K (.tuple #[aq,ar]) G)) (bB .eql 3 E (i 15) λau=>cV au (GM (λK2=>bB .neq 3 B (i 0) λW=>cV W (cF 305 [tt] w λO ax=>K2 O (i 0) ax) (bB .neq 3 b2 (i 0) λay=>
 cF 305 [ay] w λY a0=>K2 Y (i 0) a0)) (λa2 a3 a4=>∀_:Env,
 K (.tuple #[a2,a3]) a4)) (K (.tuple #[(i 0),(i 1)]) w)))))))))))
theorem ab6(B u b2:Value)(h:S275 w K B u b2):CR 275 [B,u,b2] w K:=
 qm 84 (λ_=>.nil) 192 [.tmp 6,.tmp 7] Tryz.func275 h
def S289(O G:Value):Prop:=
 oq (λW Z M a=>∀_:Env,
 lN 141 O λb=>bA .lss 3 M b λc=>cV c (iA 141 O M λd=>lA 193 d a λe=>aL 193 a λf g=>sA 193 f e g λh=>eT (λK2=>fA 193 f 6 λj=>lA 3 j h λk=>
 bB .lss 3 k (i 0) λl=>cV l (K2 tt h) (fA 193 f 7 λn=>lA 3 n h λo=>bB .lss 3 o (i 0) λp=>cV p (K2 tt h) (fA 193 f 6 λq=>lA 3 q h λr=>bB .gtr 3 r (i 40) λs=>
 cV s (K2 tt h) (fA 193 f 7 λt=>lA 3 t h λu=>bB .gtr 3 u (i 40) λv=>cV v (K2 tt h) (bB .add 3 M (i 1) λx=>fA 193 f 6 λy=>lA 3 y h λz=>bA .add 3 x z λaa=>
 fA 193 f 7 λab=>lA 3 ab h λac=>bA .add 3 aa ac λad=>lN 141 O λae=>bA .gtr 3 ad ae λaf=>K2 af h))))) (λag B=>∀_:Env,
 cV ag (K (i (-1)) B) (eT (λE=>fA 193 f 6 λai=>lA 3 ai B λaj=>bB .gtr 3 aj (i 0) λak=>cV ak (fA 193 f 0 λal=>lA 3 al B λam=>bB .neq 3 am (i 11) λan=>
 cV an (fA 193 f 0 λao=>lA 3 ao B λap=>bB .neq 3 ap (i 12) λaq=>cV aq (E tt B) (fA 193 f 7 λar=>lA 3 ar B λY=>bB .gtr 3 Y (i 0) λau=>cV au (fA 193 f 0 λav=>
 lA 3 av B λaw=>bB .neq 3 aw (i 11) λax=>cV ax (E tt B) (fA 193 f 0 λay=>lA 3 ay B λaz=>bB .eql 3 az (i 13) λa0=>cV a0 (bB .eql 3 G (i 0) λa1=>E a1 B) (
 E ff B))) (fA 193 f 0 λa2=>lA 3 a2 B λa3=>bB .eql 3 a3 (i 13) λa4=>cV a4 (bB .eql 3 G (i 0) λa5=>E a5 B) (E ff B)))) (fA 193 f 7 λa6=>lA 3 a6 B λa7=>
 bB .gtr 3 a7 (i 0) λa8=>cV a8 (fA 193 f 0 λa9=>lA 3 a9 B λba=>bB .neq 3 ba (i 11) λbb=>cV bb (E tt B) (fA 193 f 0 λbc=>lA 3 bc B λbd=>bB .eql 3 bd (i 13) λbe=>
 cV be (bB .eql 3 G (i 0) λbf=>E bf B) (E ff B))) (fA 193 f 0 λbg=>lA 3 bg B λbh=>bB .eql 3 bh (i 13) λbi=>cV bi (bB .eql 3 G (i 0) λbj=>E bj B) (
 E ff B)))) (fA 193 f 7 λbk=>lA 3 bk B λbl=>bB .gtr 3 bl (i 0) λbm=>cV bm (fA 193 f 0 λbn=>lA 3 bn B λbo=>bB .neq 3 bo (i 11) λbp=>cV bp (E tt B) (fA 193 f 0 λbq=>
 lA 3 bq B λbr=>bB .eql 3 br (i 13) λbs=>cV bs (bB .eql 3 G (i 0) λbt=>E bt B) (E ff B))) (fA 193 f 0 λbu=>lA 3 bu B λbv=>bB .eql 3 bv (i 13) λbw=>
 cV bw (bB .eql 3 G (i 0) λbx=>E bx B) (E ff B)))) (λbz J=>∀_:Env,
 cV bz (K (i (-1)) J) (bB .add 3 M (i 1) λb1=>fA 193 f 6 λb2=>lA 3 b2 (drew J) λb3=>bA .add 3 b1 b3 λb4=>eT (λK4=>fA 193 f 0 λb5=>lA 3 b5 (drew J) λb6=>
 bB .eql 3 b6 (i 12) λb7=>cV b7 (bB .add 3 G (i 1) λb8=>K4 b8 (drew J)) (K4 G (drew J))) (λI U=>∀_:Env,
 eT (λK5=>eT (λK6=>fA 193 f 0 λca=>lA 3 ca U λcb=>bB .eql 3 cb (i 11) λcc=>cV cc (K6 tt U) (fA 193 f 0 λcd=>lA 3 cd U λce=>bB .eql 3 ce (i 12) λcf=>
 K6 cf U)) (λcg ch=>∀_:Env,
 cV cg (bB .add 3 M (i 1) λci=>eP hH (n4 141 O (some ci) (some b4) none) λcj=>fA 193 f 7 λck=>lA 3 ck (drew ch) λcl=>bA .add 3 b4 cl λcm=>eP hH (n4 141 O (some b4) (some cm) none) λcn=>
 cF 289 [cj,I] (drew ch) λco cp=>kA 3 ck cl cp (cF 289 [cn,I] cp λcq cr=>eT (λK7=>bB .lss 3 co (i 0) λcs=>cV cs (K7 tt cr) (bB .lss 3 cq (i 0) λct=>K7 ct cr))
 (λcu cv=>∀_:Env,
 cV cu (K (i (-1)) cv) (bC .add 3 (i 1) co λcw=>bC .add 3 (i 1) cq λcx=>eP hH (Builtin.max_ #[3,3,3] 3 [Z,cw,cx].toArray) λcy=>K5 cy cv)))) (K5 Z ch))) (λV cz=>∀_:Env,
 fA 193 f 7 λc0=>lA 3 c0 cz λc1=>bA .add 3 b4 c1 λc2=>W V c2 cz))))))) (K Z a)) (λW=>W (i 0) (i 0) w)
def auZ:dI:=λi=>match i with
 | 8=>.run 0 8
 | 12=>(.of [(0,[]),(1,[]),(2,[]),(3,[]),(4,[]),(5,[]),(7,[]),(8,[]),(9,[]),(10,[]),(11,[]),(12,[]),(13,[]),(14,[]),(6,[11]),(15,[]),(16,[]),(17,[])])
 | _=>.nil
theorem ab7(u B:Value)(h:S289 w K u B):CR 289 [u,B] w K:=
 qm 135 auZ 16 [.tmp 4] Tryz.func289 h
theorem afI:PL 253:=dK Tryz.func253
theorem afJ:PL 254:=dK Tryz.func254
theorem am8:PL 255:=dK Tryz.func255
theorem afK:PL 256:=dK Tryz.func256
theorem yH:PL 257:=dK Tryz.func257
theorem Ru:PL 258:=dK Tryz.func258
theorem am9:PL 259:=dK Tryz.func259
theorem ana:PL 260:=dK Tryz.func260
theorem anb:PL 261:=dK Tryz.func261
theorem anc:PL 266:=dK Tryz.func266
theorem Wc:PL 267:=dK Tryz.func267
theorem Rv:PL 268:=dK Tryz.func268
theorem ane:PL 269:=dK Tryz.func269
theorem Rw:PL 270:=dK Tryz.func270
theorem anf:PL 271:=dK Tryz.func271
theorem afL:PL 272:=dK Tryz.func272
theorem KL:PL 273:=dK Tryz.func273
theorem ang:PL 274:=dK Tryz.func274
theorem anh:PL 275:=dK Tryz.func275
theorem ani:PL 276:=dK Tryz.func276
theorem anj:PL 277:=dK Tryz.func277
theorem ank:PL 288:=dK Tryz.func288
theorem We:PL 289:=dK Tryz.func289
variable (w:World) (K:Value->hM)
def au0:dI:=λi=>match i with
 | 2=>.run 0 10
 | 4=>.run 0 13
 | _=>.nil
def au1:dI:=λi=>match i with
 | 2=>.run 0 13
 | 5=>.run 0 17
 | _=>.nil
def S294(E B W:Value):Prop:=
 aL 308 w λa b=>lN 198 E λc=>bA .geq 3 B c λd=>cV d (cF 320 [E,B,(i 6)] b λe f=>sA 308 a e f λg=>lA 308 a g λr=>K r g) (eT (λK1=>cF 209 [E,B,(Go.Value.string (kh (#[33])))] b λh j=>
 cV h (K1 tt j) (cF 209 [E,B,(Go.Value.string (kh (#[45])))] j λk l=>K1 k l)) (λO n=>∀_:Env,
 cF 209 [E,B,(Go.Value.string (kh (#[40])))] n λo p=>eT (λK2=>cV O (bB .eql 3 W (i 12) λq=>K2 q p) (cV o (bB .eql 3 W (i 12) λs=>K2 s p) (K2 ff p)))
 (λt u=>∀_:Env,
 cV t (cF 320 [E,B,(i 7)] u λv x=>sA 308 a v x λy=>lA 308 a y λGj=>K Gj y) (cV O (bB .add 3 B (i 1) λz=>bB .add 3 W (i 1) λaa=>cF 294 [E,z,aa] u λab ac=>
 aL 308 ac λI ae=>sA 308 I ab ae λJ=>fA 308 I 2 λag=>lA 31 ag J λah=>bB .neq 31 ah (i 0) λai=>cV ai (lA 308 I J λaj=>sA 308 a aj J λak=>lA 308 a ak λKG=>
 K KG ak) (eT (λK3=>iA 198 E B λal=>fA 209 al 1 λam=>lA 9 am J λan=>eP hH (kj .eql 9 false true an (Go.Value.string (kh (#[45])))) λao=>
 cV ao (K3 (i 3) J) (K3 (i 4) J)) (λWb ap=>∀_:Env,
 iA 198 E B λaq=>fA 209 aq 3 λar=>lA 3 ar ap λasx=>eP hH (l4 164 [(0,Wb),(3,asx)].toArray) λau=>bS 82 1 [(0,au)] ap λav aw=>fA 308 I 0 λax=>
 lA 82 ax aw λay=>aP 82 av ay aw λaz a0=>fA 308 I 0 λa1=>sA 82 a1 az a0 λa2=>lA 308 I a2 λa3=>sA 308 a a3 a2 λa4=>lA 308 a a4 λY=>K Y a4))) (cV o (
 bB .add 3 B (i 1) λa5=>bB .add 3 W (i 1) λa6=>cF 258 [E,a5,a6,(i 0)] u λa7 a8=>aL 308 a8 λG ba=>sA 308 G a7 ba λM=>fA 308 G 2 λbc=>lA 31 bc M λbd=>
 bB .neq 31 bd (i 0) λbe=>cV be (lA 308 G M λbf=>sA 308 a bf M λbg=>lA 308 a bg λr_4=>K r_4 bg) (fA 308 G 1 λbh=>lA 3 bh M λbi=>cF 209 [E,bi,(Go.Value.string (kh (#[41])))] M λbj V=>
 eP hH (Op.unary .not bj) λbl=>cV bl (fA 308 G 1 λbm=>lA 3 bm V λbn=>cF 320 [E,bn,(i 5)] V λbo bp=>sA 308 a bo bp λbq=>lA 308 a bq λZ=>K Z bq) (
 fA 308 G 1 λbr=>lA 3 br V λbs=>bB .add 3 bs (i 1) λbt=>fA 308 G 1 λbu=>sA 3 bu bt V λbv=>lA 308 G bv λbw=>sA 308 a bw bv λbx=>lA 308 a bx λr_6=>
 K r_6 bx))) (iA 198 E B λbz=>fA 209 bz 0 λb0=>lA 3 b0 u λb1=>bB .eql 3 b1 (i 2) λb2=>cV b2 (iA 198 E B λb3=>fA 209 b3 2 λb4=>lA 3 b4 (drew u) λb5=>
 iA 198 E B λb6=>fA 209 b6 3 λb7=>lA 3 b7 (drew u) λb8=>eP hH (l4 164 [(0,(i 1)),(1,b5),(3,b8)].toArray) λb9=>bB .add 3 B (i 1) λca=>bS 82 1 [(0,b9)] (drew u) λcb cc=>
 eP hH (l4 308 [(0,cb),(1,ca)].toArray) λcd=>sA 308 a cd cc λce=>lA 308 a ce λr_7=>K r_7 ce) (eT (λK4=>iA 198 E B λcf=>fA 209 cf 0 λcg=>
 lA 3 cg u λch=>bB .eql 3 ch (i 1) λci=>cV ci (iA 198 E B λcj=>fA 209 cj 1 λck=>lA 9 ck u λcl=>cF 211 [cl] u λcm cn=>K4 cm cn) (K4 ff u)) (λco U=>∀_:Env,
 cV co (iA 198 E B λcq=>fA 209 cq 1 λcr=>lA 9 cr (drew U) λcs=>iA 198 E B λct=>fA 209 ct 3 λcu=>lA 3 cu (drew U) λcv=>eP hH (l4 164 [(0,(i 2)),(2,cs),(3,cv)].toArray) λcw=>
 bB .add 3 B (i 1) λcx=>bS 82 1 [(0,cw)] (drew U) λcy cz=>eP hH (l4 308 [(0,cy),(1,cx)].toArray) λc0=>sA 308 a c0 cz λc1=>lA 308 a c1 λr_8=>
 K r_8 c1) (cF 320 [E,B,(i 5)] U λc2 c3=>sA 308 a c2 c3 λc4=>lA 308 a c4 λr_9=>K r_9 c4)))))))))
def au7:dI:=λi=>match i with
 | 27=>(.of [(0,[]),(1,[]),(2,[]),(3,[]),(4,[]),(5,[]),(6,[]),(7,[]),(8,[]),(9,[]),(10,[]),(12,[]),(13,[]),(11,[]),(14,[]),(15,[])])
 | 29=>(.of [(0,[]),(1,[]),(2,[]),(3,[]),(4,[]),(5,[]),(6,[]),(7,[]),(8,[]),(9,[]),(10,[]),(12,[]),(13,[]),(11,[]),(14,[]),(15,[])])
 | _=>.nil
theorem ab8(u B E:Value)(h:S294 w K u B E):CR 294 [u,B,E] w K:=
 qm 152 au7 64 [.cell 6 308] Tryz.func294 h
def S304:Prop:=
 aL 348 w λa b=>aL 348 b λB c=>iA 348 B (i 5) λd=>sA 288 d (.func (.func 324) #[] #[]) c λe=>iA 348 B (i 6) λf=>sA 288 f (.func (.func 325) #[] #[]) e λg=>
 iA 348 B (i 7) λh=>sA 288 h (.func (.func 326) #[] #[]) g λj=>iA 348 B (i 8) λk=>sA 288 k (.func (.func 327) #[] #[]) j λl=>iA 348 B (i 9) λn=>sA 288 n (.func (.func 328) #[] #[]) l λo=>
 kI hH (.func (.func 322) #[] #[]) [(.func (.func 329) #[] #[])] o λp q=>iA 348 B (i 10) λs=>sA 288 s p q λt=>kI hH (.func (.func 322) #[] #[]) [(.func (.func 330) #[] #[])] t λu v=>
 iA 348 B (i 11) λx=>sA 288 x u v λy=>kI hH (.func (.func 322) #[] #[]) [(.func (.func 331) #[] #[])] y λz aa=>iA 348 B (i 12) λI=>sA 288 I z aa λJ=>
 kI hH (.func (.func 322) #[] #[]) [(.func (.func 332) #[] #[])] J λW O=>iA 348 B (i 13) λaf=>sA 288 af W O λZ=>kI hH (.func (.func 322) #[] #[]) [(.func (.func 333) #[] #[])] Z λah Y=>
 iA 348 B (i 14) λV=>sA 288 V ah Y λU=>kI hH (.func (.func 322) #[] #[]) [(.func (.func 334) #[] #[])] U λal am=>iA 348 B (i 15) λM=>sA 288 M al am λE=>
 lA 348 B E λap=>sA 348 a ap E λG=>lA 348 a G λr=>K r G
theorem ab9(h:S304 w K):CR 304 [] w K:=
 qm 27 (λ_=>.nil) 1 [.cell 0 348] Tryz.func304 h
def S307(E a:Value):Prop:=
 lA 179 a w λb=>lN 179 b λc=>bB .sub 3 c (i 1) λd=>kK (λB u e=>∀_:Env,
 bB .geq 3 u (i 0) λf=>cV f (lA 179 a e λg=>iA 179 g u λh=>lA 231 h e λj=>kI hH E [u,j] e λk l=>eP hH (Op.unary .not k) λn=>cV n (
 K (.tuple #[]) l) (bB .sub 3 u (i 1) λo=>B o l)) (K (.tuple #[]) e)) (λB=>B d w)
theorem aca(u B:Value)(h:S307 w K u B):CR 307 [u,B] w K:=
 qm 19 (λ_=>.nil) 0 [] Tryz.func307 h
def S315(u:Value):Prop:=
 eT (λB=>bB .lss 3 u (i 1) λa=>cV a (B tt w) (bB .gtr 3 u (i 14) λb=>B b w)) (λc d=>∀_:Env,
 cV c (K (Go.Value.string (kh (#[]))) d) (bS 91 15 [(0,(Go.Value.string (kh (#[])))),(1,(Go.Value.string (kh (#[114,101])))),(2,(Go.Value.string (kh (#[114,110])))),(3,(Go.Value.string (kh (#[110,101])))),(4,(Go.Value.string (kh (#[114,110,101,102])))),(5,(Go.Value.string (kh (#[110])))),(6,(Go.Value.string (kh (#[110])))),(7,(Go.Value.string (kh (#[])))),(8,(Go.Value.string (kh (#[])))),(9,(Go.Value.string (kh (#[110])))),(10,(Go.Value.string (kh (#[110])))),(11,(Go.Value.string (kh (#[101,98])))),(12,(Go.Value.string (kh (#[107,98])))),(13,(Go.Value.string (kh (#[])))),(14,(Go.Value.string (kh (#[101]))))] d λe f=>
 iA 91 e u λg=>lA 9 g f λh=>K h f))
theorem acb(u:Value)(h:S315 w K u):CR 315 [u] w K:=
 qm 13 (λ_=>.nil) 4 [.tmp 2] Tryz.func315 h
def au8:dI:=λi=>match i with
 | 1=>.run 0 45
 | 3=>.run 0 13
 | _=>.nil
def au9:dI:=λi=>match i with
 | 3=>.run 0 18
 | _=>.nil
def ava:dI:=λi=>match i with
 | 1=>.run 0 31
 | 2=>.run 0 12
 | _=>.nil
def S320(G B I:Value):Prop:=
 aL 308 w λa b=>eT (λE=>lN 198 G λc=>bA .geq 3 B c λd=>cV d (E (i 6) b) (E I b)) (λu e=>∀_:Env,
 cF 214 [G,B] e λf g=>eP hH (l4 308 [(2,u),(3,f)].toArray) λh=>sA 308 a h g λj=>lA 308 a j λr=>K r j)
theorem acd(B u E:Value)(h:S320 w K B u E):CR 320 [B,u,E] w K:=
 qm 16 (λ_=>.nil) 64 [.cell 6 308] Tryz.func320 h
theorem anl:PL 290:=dK Tryz.func290
theorem GS:PL 291:=dK Tryz.func291
theorem anm:PL 292:=dK Tryz.func292
theorem afM:PL 293:=dK Tryz.func293
theorem afN:PL 294:=dK Tryz.func294
theorem Wf:PL 295:=dK Tryz.func295
theorem ann:PL 296:=dK Tryz.func296
theorem ano:PL 297:=dK Tryz.func297
theorem anp:PL 298:=dK Tryz.func298
theorem anq:PL 299:=dK Tryz.func299
theorem anr:PL 300:=dK Tryz.func300
theorem ans:PL 301:=dK Tryz.func301
theorem Wg:PL 302:=dK Tryz.func302
theorem KM:PL 303:=dK Tryz.func303
theorem ant:PL 304:=dK Tryz.func304
theorem Aj:PL 305:=dK Tryz.func305
theorem afO:PL 306:=dK Tryz.func306
theorem anu:PL 307:=dK Tryz.func307
theorem anv:PL 315:=dK Tryz.func315
theorem KN:PL 316:=dK Tryz.func316
theorem D9:PL 317:=dK Tryz.func317
theorem KO:PL 318:=dK Tryz.func318
theorem anw:PL 319:=dK Tryz.func319
theorem Rx:PL 320:=dK Tryz.func320
theorem anx:PL 321:=dK Tryz.func321
theorem GU:PL 322:=dK Tryz.func322
theorem GV:PL 323:=dK Tryz.func323
theorem anz:PL 324:=dK Tryz.func324
theorem anA:PL 325:=dK Tryz.func325
theorem anB:PL 326:=dK Tryz.func326
theorem anC:PL 327:=dK Tryz.func327
theorem anD:PL 328:=dK Tryz.func328
theorem anE:PL 329:=dK Tryz.func329
theorem anF:PL 330:=dK Tryz.func330
theorem anG:PL 331:=dK Tryz.func331
theorem anH:PL 332:=dK Tryz.func332
theorem anI:PL 333:=dK Tryz.func333
theorem anJ:PL 334:=dK Tryz.func334
end Go.Proofs.YtpdlpabnlkofmaaGreatDoor
namespace Go.Fw
def mT(w:World)(b:Nat)(cs:List Value):Prop:=∃u,w.heap[b]?=some (.cells cs.toArray u (0,0))
def Cell(w:World)(b o:Nat)(v:Value):Prop:=w.cell? ⟨b,o,none⟩=some v
structure gv(A:Nat->Prop)(w w':World):Prop where
 os:w'.os=w.os
 tape:w'.tape=w.tape
 output:w'.output=w.output
 size:w.heap.size<=w'.heap.size
 bY:∀b,b<w.heap.size->¬ A b->w'.heap[b]?=w.heap[b]?
def aZ:Nat->Prop:=λ_=>False
abbrev Ext(w w':World):Prop:=gv aZ w w'
def gv.refl(A:Nat->Prop)(w:World):gv A w w:=⟨rfl,rfl,rfl,o6 _,λ_ _ _=>rfl⟩
def gv.trans{A B C:Nat->Prop}{w I G:World}(h:gv A w I)(k:gv B I G)(M:∀b,A b->C b)(J:∀b,b<w.heap.size->B b->C b):gv C w G:=
 ⟨k.os.trans h.os,k.tape.trans h.tape,k.output.trans h.output,wS h.size k.size,λb hb E=>
  (k.bY b (Nat.lt_of_lt_of_le hb h.size) λu=>E (J b hb u)).trans (h.bY b hb λu=>E (M b u))⟩
def gv.then{A:Nat->Prop}{w B u:World}(h:gv A w B)(k:Ext B u):gv A w u:=h.trans k (λ_ h=>h) λ_ _ h=>h.elim
def gv.mono{A B:Nat->Prop}{w w':World}(h:gv A w w')(E:∀b,A b->B b):gv B w w':=⟨h.os,h.tape,h.output,h.size,λb hb u=>h.bY b hb λx=>u (E b x)⟩
def Ext.refl(w:World):Ext w w:=gv.refl _ _
def Ext.trans{w B u:World}(h:Ext w B)(k:Ext B u):Ext w u:=gv.then h k
def Ext.aG{A:Nat->Prop}{w w':World}(h:Ext w w'):gv A w w':=h.mono λ_ h=>h.elim
theorem Ext.drew(w:World):Ext w (drew w):=⟨rfl,rfl,rfl,o6 _,λ_ _ _=>rfl⟩
def vi{w:World}{b:Nat}{o:Obj}(h:w.heap[b]?=some o):b<w.heap.size:=(DK.1 h).1
def mT.lt{w:World}{b:Nat}{cs:List Value}(h:mT w b cs):b<w.heap.size:=vi h.choose_spec
def Cell.lt{w:World}{b o:Nat}{v:Value}(h:Cell w b o v):b<w.heap.size:=by
 unfold Cell RP at h
 grind
def Cell.of_eq{w w':World}{b o:Nat}{v:Value}(h:Cell w b o v)(u:w'.heap[b]?=w.heap[b]?):Cell w' b o v:=by
 unfold Cell RP at *
 grind
def mT.of_eq{w w':World}{b:Nat}{cs:List Value}(h:mT w b cs)(u:w'.heap[b]?=w.heap[b]?):mT w' b cs:=by
 grind[mT]
def Cell.aG{A:Nat->Prop}{w w':World}{b o:Nat}{v:Value}(h:Cell w b o v)(hc:gv A w w')(u:¬ A b):Cell w' b o v:=h.of_eq (hc.bY b h.lt u)
theorem Cell.ext{w w':World}{b o:Nat}{v:Value}(h:Cell w b o v)(hc:Ext w w'):Cell w' b o v:=h.aG hc (λx=>x)
def mT.cell{w:World}{b o:Nat}{cs:List Value}{v:Value}(h:mT w b cs)(u:cs[o]?=some v):Cell w b o v:=by
 obtain⟨B,h⟩:=h
 unfold Cell RP
 grind
def mT.frozen{w:World}{b o:Nat}{cs:List Value}(h:mT w b cs):w.frozen? ⟨b,o,none⟩=false:=by
 obtain⟨u,h⟩:=h
 unfold World.frozen?
 grind
def IG(w:World)(b o:Nat)(v:Value)(k:Nat)(h:k≠b):(w.setCell ⟨b,o,none⟩ v).heap[k]?=w.heap[k]?:=by
 simp only[aa8,Pu]
 grind
def mT.setCell{w:World}{b o:Nat}{cs:List Value}(h:mT w b cs)(v:Value):mT (w.setCell ⟨b,o,none⟩ v) b (cs.set o v):=by
 obtain⟨u,h⟩:=h
 refine⟨u,?_⟩
 simp only[aa8,Pu,if_true,h]
 simp
def gv.setCell(w:World)(b o:Nat)(v:Value):gv (· = b) w (w.setCell ⟨b,o,none⟩ v):=
 ⟨rfl,rfl,rfl,by simp_all,λk _ u=>IG w b o v k u⟩
def push(w:World)(o:Obj):World:={w with heap:=w.heap.push o}
def xW(w:World)(o:Obj)(k:Nat)(h:k<w.heap.size):(push w o).heap[k]?=w.heap[k]?:=by
 grind[push]
def mn(w:World)(o:Obj):(push w o).heap[w.heap.size]?=some o:=by
 grind[push]
theorem BN(w:World)(o:Obj):(push w o).heap.size=w.heap.size+1:=by simp[push]
theorem Ext.push(w:World)(o:Obj):Ext w (push w o):=⟨rfl,rfl,rfl,by rw[BN];omega,λb hb _=>xW w o b hb⟩
theorem mT.push(w:World)(cs:List Value)(u:TypeId):mT (push w (.cells cs.toArray u)) w.heap.size cs:=⟨u,mn _ _⟩
structure HP where
 p:World->(Nat->Prop)->Prop
 loc:∀w w' F,p w F->(∀b,F b->w'.heap[b]?=w.heap[b]?)->p w' F
 lt:∀w F b,p w F->F b->b<w.heap.size
def bY(b:Nat)(cs:List Value):HP where
 p w F:=mT w b cs/\∀k,F k↔k=b
 loc w w' F h hh:=⟨h.1.of_eq (hh b ((h.2 b).2 rfl)),h.2⟩
 lt w F b' h hb:=by rw[(h.2 b').1 hb];exact h.1.lt
def rU(w0:World)(A:Nat->Prop):List HP->World->(Nat->Prop)->Prop
 | [],_,U=>∀b,¬ U b
 | H::L,w,U=>∃F u,H.p w F/\(∀b,F b->A b\/w0.heap.size<=b)/\(∀b,F b->¬ u b)/\(∀b,U b↔F b\/u b)/\rU w0 A L w u
structure St(w0:World)(A:Nat->Prop)(L:List HP)(w:World):Prop where
 aG:gv A w0 w
 tW:∃U,rU w0 A L w U
theorem rU.lt{w0:World}{A:Nat->Prop}{L:List HP}{w:World}{U:Nat->Prop}(h:rU w0 A L w U):∀b,U b->b<w.heap.size:=by
 induction L generalizing U with
 | nil=>intro b hb;exact(h b hb).elim
 | cons H L u=>
  obtain⟨F,B,h1,h2,h3,h4,h5⟩:=h
  intro b hb
  rcases(h4 b).1 hb with hf|hu
  .exact H.lt _ _ _ h1 hf
  .exact u h5 b hu
theorem rU.loc{w0:World}{A:Nat->Prop}{L:List HP}{w w':World}{U:Nat->Prop}(h:rU w0 A L w U)(u:∀b,U b->w'.heap[b]?=w.heap[b]?):rU w0 A L w' U:=by
 induction L generalizing U with
 | nil=>exact h
 | cons H L E=>
  obtain⟨F,B,h1,h2,h3,h4,h5⟩:=h
  exact⟨F,B,H.loc _ _ _ h1 λb hb=>u b ((h4 b).2 (.inl hb)),h2,h3,h4,E h5 λb hb=>u b ((h4 b).2 (.inr hb))⟩
def St.start(w:World):St w aZ [] w:=⟨gv.refl _ _,aZ,λ_ h=>h⟩
def St.begin{w:World}{F:Nat->Prop}{H:HP}(h:H.p w F):St w F [H] w:=
 ⟨gv.refl _ _,F,F,aZ,h,λ_ h=>.inl h,λ_ _ h=>h,λ_=>⟨.inl,λh=>h.elim id λh=>h.elim⟩,λ_ h=>h⟩
theorem St.ext{w0:World}{A:Nat->Prop}{L:List HP}{w w':World}(h:St w0 A L w)(e:Ext w w'):St w0 A L w':=by
 obtain⟨U,u⟩:=h.tW
 exact⟨h.aG.then e,U,u.loc λb hb=>e.bY b (u.lt b hb) λx=>x⟩
theorem St.drew{w0:World}{A:Nat->Prop}{L:List HP}{w:World}(h:St w0 A L w):St w0 A L (drew w):=h.ext (Ext.drew w)
def St.new{w0:World}{A:Nat->Prop}{L:List HP}{w w':World}{H:HP}{F:Nat->Prop}(h:St w0 A L w)(e:Ext w w')(J:H.p w' F)(I:∀b,F b->w.heap.size<=b):St w0 A (H::L) w':=by
 obtain⟨U,M⟩:=(h.ext e).tW
 obtain⟨B,u⟩:=h.tW
 have E:rU w0 A L w' B:=u.loc λb hb=>e.bY b (u.lt b hb) (λx=>x)
 refine⟨(h.ext e).aG,λb=>F b\/B b,F,B,J,λb hb=>.inr ?_,λb hb G=>?_,λb=>Iff.rfl,E⟩
 .exact wS h.aG.size (I b hb)
 have:=u.lt b G;grind
def St.rz{w0:World}{A:Nat->Prop}{L:List HP}{w w':World}{H H':HP}(h:St w0 A (H::L) w)
  (O:∀F,H.p w F->∃B,H'.p w' B/\(∀b,B b->F b\/w.heap.size<=b)/\gv F w w'):St w0 A (H'::L) w':=by
 obtain⟨U,F,I,h1,h2,h3,h4,h5⟩:=h.tW
 obtain⟨B,M,G,E⟩:=O F h1
 refine⟨h.aG.trans E (λ_ h=>h) λb hb u=>?_,λb=>B b\/I b,B,I,M,λb hb=>?_,λb hb J=>?_,λb=>Iff.rfl,?_⟩
 .grind
 .rcases G b hb with u|u
  .grind
  exact .inr (wS h.aG.size u)
 .rcases G b hb with u|u
  .grind
  have:=h5.lt b J;omega
 exact h5.loc λb hb=>E.bY b (h5.lt b hb) λu=>h3 b u hb
def St.drop{w0:World}{A:Nat->Prop}{L:List HP}{w:World}{H:HP}(h:St w0 A (H::L) w):St w0 A L w:=by
 obtain⟨U,F,u,h1,h2,h3,h4,h5⟩:=h.tW
 exact⟨h.aG,u,h5⟩
def St.swap{w0:World}{A:Nat->Prop}{L:List HP}{w:World}{H H':HP}(h:St w0 A (H::H'::L) w):St w0 A (H'::H::L) w:=by
 obtain⟨U,F,O,h1,h2,h3,h4,B,u,G,E,J,V,I⟩:=h.tW
 refine⟨h.aG,U,B,λb=>F b\/u b,G,E,λb hb=>?_,λb=>?_,F,u,h1,h2,λb hb M=>?_,λb=>Iff.rfl,I⟩
 .grind
 .grind
 grind
def rU.swap{w0:World}{A:Nat->Prop}{L:List HP}{w:World}{H H':HP}{U:Nat->Prop}(h:rU w0 A (H::H'::L) w U):rU w0 A (H'::H::L) w U:=by
 obtain⟨F,O,h1,h2,h3,h4,B,u,G,E,J,V,I⟩:=h
 refine⟨B,λb=>F b\/u b,G,E,λb hb=>?_,λb=>?_,F,u,h1,h2,λb hb M=>?_,λb=>Iff.rfl,I⟩
 .grind
 .grind
 grind
def rU.under{w0:World}{A:Nat->Prop}{L L':List HP}{w:World}{H:HP}{U:Nat->Prop}(u:∀U,rU w0 A L w U->rU w0 A L' w U)(h:rU w0 A (H::L) w U):rU w0 A (H::L') w U:=by
 grind[rU]
theorem rU.pull{w0:World}{A:Nat->Prop}{u B:List HP}{w:World}{H:HP}{U:Nat->Prop}(h:rU w0 A (u++H::B) w U):rU w0 A (H::(u++B)) w U:=by
 induction u generalizing U with
 | nil=>exact h
 | cons X u E=>exact rU.swap (rU.under (λU h=>E h) h)
def St.pull{w0:World}{A:Nat->Prop}{w:World}(u:List HP){H:HP}{B:List HP}(h:St w0 A (u++H::B) w):St w0 A (H::(u++B)) w:=by
 obtain⟨U,E⟩:=h.tW
 exact⟨h.aG,U,E.pull⟩
def St.p1{w0:World}{A:Nat->Prop}{w:World}{u H:HP}{R:List HP}(h:St w0 A (u::H::R) w):St w0 A (H::u::R) w:=St.pull [u] h
def St.p2{w0:World}{A:Nat->Prop}{w:World}{B u H:HP}{R:List HP}(h:St w0 A (B::u::H::R) w):St w0 A (H::B::u::R) w:=St.pull [B,u] h
def St.p3{w0:World}{A:Nat->Prop}{w:World}{E u B H:HP}{R:List HP}(h:St w0 A (E::u::B::H::R) w):St w0 A (H::E::u::B::R) w:=St.pull [E,u,B] h
def St.p4{w0:World}{A:Nat->Prop}{w:World}{G u B E H:HP}{R:List HP}(h:St w0 A (G::u::B::E::H::R) w):St w0 A (H::G::u::B::E::R) w:=St.pull [G,u,B,E] h
def St.p5{w0:World}{A:Nat->Prop}{w:World}{G u B E P4 H:HP}{R:List HP}(h:St w0 A (G::u::B::E::P4::H::R) w):St w0 A (H::G::u::B::E::P4::R) w:=St.pull [G,u,B,E,P4] h
def St.p6{w0:World}{A:Nat->Prop}{w:World}{I u E G P4 B H:HP}{R:List HP}(h:St w0 A (I::u::E::G::P4::B::H::R) w):St w0 A (H::I::u::E::G::P4::B::R) w:=St.pull [I,u,E,G,P4,B] h
def St.p7{w0:World}{A:Nat->Prop}{w:World}{J B G I P4 E u H:HP}{R:List HP}(h:St w0 A (J::B::G::I::P4::E::u::H::R) w):St w0 A (H::J::B::G::I::P4::E::u::R) w:=St.pull [J,B,G,I,P4,E,u] h
def St.p8{w0:World}{A:Nat->Prop}{w:World}{J B G I P4 E u M H:HP}{R:List HP}(h:St w0 A (J::B::G::I::P4::E::u::M::H::R) w):St w0 A (H::J::B::G::I::P4::E::u::M::R) w:=St.pull [J,B,G,I,P4,E,u,M] h
def St.p9{w0:World}{A:Nat->Prop}{w:World}{J B G I P4 E u M P8 H:HP}{R:List HP}(h:St w0 A (J::B::G::I::P4::E::u::M::P8::H::R) w):St w0 A (H::J::B::G::I::P4::E::u::M::P8::R) w:=St.pull [J,B,G,I,P4,E,u,M,P8] h
def St.p10{w0:World}{A:Nat->Prop}{w:World}{J B G I P4 E u M P8 P9 H:HP}{R:List HP}(h:St w0 A (J::B::G::I::P4::E::u::M::P8::P9::H::R) w):St w0 A (H::J::B::G::I::P4::E::u::M::P8::P9::R) w:=St.pull [J,B,G,I,P4,E,u,M,P8,P9] h
def St.p11{w0:World}{A:Nat->Prop}{w:World}{M E I J P4 G B O P8 P9 u H:HP}{R:List HP}(h:St w0 A (M::E::I::J::P4::G::B::O::P8::P9::u::H::R) w):St w0 A (H::M::E::I::J::P4::G::B::O::P8::P9::u::R) w:=St.pull [M,E,I,J,P4,G,B,O,P8,P9,u] h
def St.p12{w0:World}{A:Nat->Prop}{w:World}{I E J M P4 G B O P8 P9 u P11 H:HP}{R:List HP}(h:St w0 A (I::E::J::M::P4::G::B::O::P8::P9::u::P11::H::R) w):St w0 A (H::I::E::J::M::P4::G::B::O::P8::P9::u::P11::R) w:=St.pull [I,E,J,M,P4,G,B,O,P8,P9,u,P11] h
def St.p0{w0:World}{A:Nat->Prop}{w:World}{L:List HP}(h:St w0 A L w):St w0 A L w:=h
def St.head{w0:World}{A:Nat->Prop}{L:List HP}{w:World}{H:HP}(h:St w0 A (H::L) w):∃F,H.p w F/\∀b,F b->A b\/w0.heap.size<=b:=by
 obtain⟨U,F,u,h1,h2,_⟩:=h.tW;grind
theorem St.hb{w0:World}{A:Nat->Prop}{L:List HP}{w:World}{b:Nat}{cs:List Value}(h:St w0 A (bY b cs::L) w):mT w b cs:=by
 obtain⟨F,h1,_⟩:=h.head;exact h1.1
def wG:Value->Bool
 | .agg _=>false
 | .tuple _=>false
 | _=>true
def dF(P:Program)(T:TypeId):Option (Bool×Nat):=
 match P.underlying T with
 | some d=>(P.info? T).map λi=>(match d with|.struct _|.array _ _=>true|_=>false,i.size)
 | none=>none
def aU(P:Program)(T f:Nat):Option (Nat×Option Bool):=
 match P.underlying T with
 | some (.struct B)=>(B[f]?).map λu=>(u.offset,(P.info? u.type).map λi=>i.size != 0)
 | _=>none
def eQ(P:Program)(T:TypeId):Option (TypeId×Nat×Nat×Option Nat):=
 match P.underlying T with
 | some (.slice E)=>(P.info? E).map λi=>(E,i.size,i.bytes,i.zero.map λz=>z.cells.size)
 | _=>none
def ep(P:Program)(T:TypeId):Option (Option Value):=(P.info? T).map λi=>i.zero
abbrev Wh(P:Program)(T:TypeId):Prop:=dF P T=some (false,1)
abbrev ace(P:Program)(T:TypeId)(n:Nat):Prop:=dF P T=some (true,n)
abbrev wH(P:Program)(T f u:Nat):Prop:=aU P T f=some (u,some true)
abbrev Vr(P:Program)(T E n bytes:Nat):Prop:=eQ P T=some (E,n,bytes,some n)
abbrev ot(P:Program)(T:TypeId)(z:Value):Prop:=ep P T=some (some z)
theorem mq{P:Program}{T:TypeId}{i:TypeInfo}(h:P.info? T=some i):pr P (typeInfo T)=some i:=by
 show pr P (match P.info? T with|some i => pure i|none => stuck "no such type")=_
 rw[h];rfl
theorem cZ{P:Program}{T:TypeId}{d:TypeDesc}(h:P.underlying T=some d):pr P (underlying T)=some d:=by
 show pr P (match P.underlying T with|some d => pure d|none => stuck "no such type")=_
 rw[h];rfl
theorem mU{P:Program}{T:TypeId}{i:TypeInfo}(h:P.info? T=some i):pr P (sizeOf T)=some i.size:=by
 unfold sizeOf;rw[cX,mq h];rfl
theorem xX{P:Program}{α β:Type}(m:Sem α)(f:α->β):pr P (do pure (f (<- m)))=(pr P m).map f:=by
 rw[cX];cases pr P m<;>rfl
theorem lD{P:Program}{T:TypeId}{a:Bool}{n:Nat}(h:dF P T=some (a,n)):pr P (isAgg T)=some a/\pr P (sizeOf T)=some n:=by
 unfold dF at h
 cases hd:P.underlying T with
 | none=>grind
 | some d=>
  rw[hd]at h
  cases hi:P.info? T with
  | none=>grind
  | some i=>
   rw[hi]at h
   simp only[Fh,oi.injEq,aaP.injEq]at h
   obtain⟨h1,h2⟩:=h
   refine⟨?_,by rw[mU hi,h2]⟩
   unfold isAgg
   rw[cX,cZ hd]
   show pr P (match d with|.struct _|.array _ _=>pure true|_=>pure false)=_
   rw[<- h1]
   cases d<;>rfl
theorem fp{P:Program}{T E n u:Nat}{z:Option Nat}(h:eQ P T=some (E,n,u,z)) :
  P.underlying T=some (.slice E)/\∃i,P.info? E=some i/\i.size=n/\i.bytes=u/\i.zero.map (λz=>z.cells.size)=z:=by
 unfold eQ at h
 split at h
 .rename_i E' hE
  cases hi:P.info? E' with
  | none=>grind
  | some i=>
   grind
 cases h
section
variable {P:Program}{w:World}
theorem pop{m:Sem Value}{v:Value}{K:Value->Prop}(h:pr P m=some v)(k:K v):eP P m K:=⟨v,h,k⟩
theorem aE{a:Addr}{K:Value->Prop}(k:K (.pointer (some a))):eP P (Tz (.pointer (some a))) K:=⟨_,rfl,k⟩
theorem bR{b:Bool}{K:Value->Prop}(k:K (.bool (!b))):eP P (Op.unary .not (.bool b)) K:=⟨_,rfl,k⟩
theorem KP{p:Prop}[Decidable p]{K:Value->Prop}(k:K (.bool (decide (¬ p)))):eP P (Op.unary .not (.bool (decide p))) K:=by
 refine bR ?_
 grind
theorem aO{vs:List Value}{i:Nat}{v:Value}{K:Value->Prop}(h:vs[i]?=some v)(k:K v):eP P (Sd (.tuple vs.toArray) i) K:=
 ⟨v,by simp only[Sd,Pp,h];rfl,k⟩
theorem aR{T:Nat}{cx cy:Bool}{a b:Int}{K:Value->Prop}(k:K (.bool (decide (a<b)))):eP P (kj .lss T cx cy (hZ a) (hZ b)) K:=⟨_,rfl,k⟩
theorem iE{T:Nat}{cx cy:Bool}{a b:Int}{K:Value->Prop}(k:K (.bool (decide (a<=b)))):eP P (kj .leq T cx cy (hZ a) (hZ b)) K:=⟨_,rfl,k⟩
theorem cO{T:Nat}{cx cy:Bool}{a b:Int}{K:Value->Prop}(k:K (.bool (decide (b<a)))):eP P (kj .gtr T cx cy (hZ a) (hZ b)) K:=⟨_,rfl,k⟩
theorem cR{T:Nat}{cx cy:Bool}{a b:Int}{K:Value->Prop}(k:K (.bool (decide (b<=a)))):eP P (kj .geq T cx cy (hZ a) (hZ b)) K:=⟨_,rfl,k⟩
theorem aH{T:Nat}{cx cy:Bool}{a b:Int}{K:Value->Prop}(k:K (.bool (decide (a=b)))):eP P (kj .eql T cx cy (hZ a) (hZ b)) K:=⟨_,rfl,k⟩
theorem bV{T:Nat}{cx cy:Bool}{a b:Int}{K:Value->Prop}(k:K (.bool (decide (a≠b)))):eP P (kj .neq T cx cy (hZ a) (hZ b)) K:=
 ⟨_,(show pr P (kj .neq T cx cy (hZ a) (hZ b))=some (.bool (decide (a≠b)))from by
  show some (wX (a != b))=_
  grind),k⟩
theorem aN{T:Nat}{cx cy:Bool}{a b:Int}{K:Value->Prop}(h : -9223372036854775808<=a+b/\a+b<=9223372036854775807)(k:K (hZ (a+b))) :
  eP P (kj .add T cx cy (hZ a) (hZ b)) K:=
 ⟨_,(show pr P (kj .add T cx cy (hZ a) (hZ b))=some (hZ (a+b))from by
  show some (ni .i64 (IntKind.i64.wrap (a+b)))=_
  rw[IntWalk.i64_in _ h]),k⟩
theorem fh{T:Nat}{cx cy:Bool}{a b:Int}{K:Value->Prop}(h : -9223372036854775808<=a-b/\a-b<=9223372036854775807)(k:K (hZ (a-b))) :
  eP P (kj .sub T cx cy (hZ a) (hZ b)) K:=
 ⟨_,(show pr P (kj .sub T cx cy (hZ a) (hZ b))=some (hZ (a-b))from by
  show some (ni .i64 (IntKind.i64.wrap (a-b)))=_
  rw[IntWalk.i64_in _ h]),k⟩
theorem IH{T:Nat}{cx cy:Bool}{a b:Int}{K:Value->Prop}(h : -9223372036854775808<=a*b/\a*b<=9223372036854775807)(k:K (hZ (a*b))) :
  eP P (kj .mul T cx cy (hZ a) (hZ b)) K:=
 ⟨_,(show pr P (kj .mul T cx cy (hZ a) (hZ b))=some (hZ (a*b))from by
  show some (ni .i64 (IntKind.i64.wrap (a*b)))=_
  rw[IntWalk.i64_in _ h]),k⟩
theorem aC{p:Prop}[Decidable p]{A B:Prop}(h1:p->A)(h2:¬ p->B):yD (.bool (decide p)) A B:=
 ⟨_,rfl,λh=>h1 (gP h),λh=>h2 (g6 h)⟩
theorem iz{A B:Prop}(h:A):yD (.bool true) A B:=⟨_,rfl,λ_=>h,λh=>by cases h⟩
theorem ft{A B:Prop}(h:B):yD (.bool false) A B:=⟨_,rfl,λh=>(by cases h),λ_=>h⟩
theorem aY{b:Bool}{A B:Prop}(h1:b=true->A)(h2:b=false->B):yD (.bool b) A B:=⟨_,rfl,h1,h2⟩
theorem gx{α:Type}(l:List α){i:Nat}(h:i<l.length):∃x,l[i]?=some x:=⟨_,List.getElem?_eq_getElem h⟩
theorem dL{a b:Nat}(h:Rs a b=true):a<=b:=BM h
theorem dO{f:FuncId}{args:List Value}{Φ K:Value->hM}(pl:Plain P f)(h:Calls P f args.toArray w (tV Φ))(k:∀v w',Φ v w'->K v w') :
  Cv P f args w K:=⟨.inl ⟨pl,h.mono λ_ _ r=>r.mono k⟩⟩
theorem gV{g:FuncId}{args first cap:List Value}{Φ K:Value->hM}(pl:Plain P g)(h:Calls P g (first++args++cap).toArray w (tV Φ))(k:∀v w',Φ v w'->K v w') :
  kI P (.func (.func g) first.toArray cap.toArray) args w K:=⟨.inl ⟨g,_,_,rfl,pl,by simpa using h.mono λ_ _ r=>r.mono k⟩⟩
variable {w0:World}{A:Nat->Prop}{L:List HP}
theorem run_load(a:Addr)(v:Value)(h:w.cell? a=some v):(load a).run P w=.ok v w:=by
 simp_all
theorem gF(b o j:Nat):(Addr.mk b o none).add j=⟨b,o+j,none⟩:=by
 unfold Addr.add;grind
theorem run_loadCellsFrom(b o:Nat):∀(n i:Nat) (u:Array Value) (cs:List Value),cs.length=n->(∀j c,cs[j]?=some c->Cell w b (o+i+j) c)->
  (loadCellsFrom ⟨b,o,none⟩ i n u).run P w=.ok (u++cs.toArray) w:=by
 intro n
 induction n with
 | zero=>intro i u cs B _;obtain rfl:=List.length_eq_zero_iff.1 B;simp[loadCellsFrom]
 | succ n E=>
  intro i u cs B h
  match cs,B with
  | c::cs,B=>
   unfold loadCellsFrom
   rw[eK (run_load _ c (by rw[gF];exact h 0 c rfl))]
   rw[E (i+1) (u.push c) cs dD λj d G=>by have:=h (j+1) d dD;grind]
   simp
theorem run_loadCells{b o:Nat}{cs:List Value}(h:∀j c,cs[j]?=some c->Cell w b (o+j) c):(loadCells ⟨b,o,none⟩ cs.length).run P w=.ok cs.toArray w:=by
 unfold loadCells
 rw[run_loadCellsFrom b o cs.length 0 #[] cs rfl λj c hc=>dD]
 simp
theorem aF{T:TypeId}{b o:Nat}{v:Value}(ht:Wh P T)(h:Cell w b o v):(xR T (.pointer (some ⟨b,o,none⟩))).run P w=.ok v w:=by
 show(loadVar T ⟨b,o,none⟩).run P w=_
 unfold loadVar
 rw[eK (fY (lD ht).1 w)]
 exact run_load _ v h
theorem Cy{T:TypeId}{b o:Nat}{cs:List Value}(ht:ace P T cs.length)(h:∀j c,cs[j]?=some c->Cell w b (o+j) c) :
  (xR T (.pointer (some ⟨b,o,none⟩))).run P w=.ok (.agg cs.toArray) w:=by
 show(loadVar T ⟨b,o,none⟩).run P w=_
 unfold loadVar
 rw[eK (fY (lD ht).1 w)]
 simp only[if_true]
 rw[eK (fY (lD ht).2 w),eK (run_loadCells h)]
 rfl
theorem aB{T:TypeId}{b o:Nat}{cs:List Value}{v:Value}{K:Value->Prop}(ht:Wh P T)(hb:mT w b cs)(hc:cs[o]?=some v)(k:K v) :
  Ke P (xR T (.pointer (some ⟨b,o,none⟩))) w K:=⟨v,aF ht (hb.cell hc),k⟩
theorem KQ{T:TypeId}{b n:Nat}{cs:List Value}{K:Value->Prop}(ht:ace P T n)(hb:mT w b cs)(u:cs.length=n)(k:K (.agg cs.toArray)) :
  Ke P (xR T (.pointer (some ⟨b,0,none⟩))) w K:=by
 subst u
 exact⟨_,Cy ht λj c hc=>by rw[u1];exact hb.cell hc,k⟩
theorem OB{T f u b o:Nat}(ht:wH P T f u):pr P (Fs T (.pointer (some ⟨b,o,none⟩)) f)=some (.pointer (some ⟨b,o+u,none⟩)):=by
 unfold wH aU at ht
 split at ht
 .rename_i fs hfs
  cases hf:fs[f]? with
  | none=>grind
  | some fd=>
   rw[hf]at ht
   simp only[Fh,oi.injEq,aaP.injEq]at ht
   obtain⟨E,G⟩:=ht
   cases hi:P.info? fd.type with
   | none=>grind
   | some i=>
    rw[hi]at G
    have B:i.size≠0:=dD
    unfold Fs
    rw[cX,cZ hfs]
    simp only[mQ,hf]
    show pr P (do pure (aba (some (<- fieldPlace ⟨b,o,none⟩ fd))))=_
    rw[xX]
    unfold fieldPlace
    rw[cX,mU hi]
    simp only[mQ,ej B,gF,E]
    rfl
 cases ht
theorem aA{T f u b o:Nat}{K:Value->Prop}(ht:wH P T f u)(k:K (.pointer (some ⟨b,o+u,none⟩))) :
  eP P (Fs T (.pointer (some ⟨b,o,none⟩)) f) K:=⟨_,OB ht,k⟩
theorem pfb{T f u b o T2:Nat}{cs:List Value}{v:Value}{K:Value->Prop}(ht:wH P T f u)(h2:Wh P T2)(hb:mT w b cs)(hc:cs[o+u]?=some v)(k:K v) :
  eP P (Fs T (.pointer (some ⟨b,o,none⟩)) f) λp=>Ke P (xR T2 p) w K:=aA ht (aB h2 hb hc k)
theorem II(T:TypeId)(v:Value):(zx T v).run P w=.ok (.pointer (some ⟨w.heap.size,0,none⟩)) (push w (.cells v.cells T)):=rfl
theorem St.push{T:TypeId}{cs:List Value}(u:St w0 A L w):St w0 A (bY w.heap.size cs::L) (push w (.cells cs.toArray T)):=
 u.new (Ext.push _ _) (F:=λk=>k=w.heap.size) ⟨mT.push w cs T,λ_=>Iff.rfl⟩ λb hb=>by rw[hb];exact o6 _
theorem nx{T:TypeId}{v:Value}{K:Value->hM}(B:St w0 A L w)(u:wG v=true)
  (k:∀b w',St w0 A (bY b [v]::L) w'->K (.pointer (some ⟨b,0,none⟩)) w'):qZ P (zx T v) w K:=by
 refine⟨_,_,II T v,k _ _ ?_⟩
 have:v.cells=[v].toArray:=by cases v<;>first|rfl|cases u
 rw[this]
 exact B.push
theorem ny{T:TypeId}{cs:List Value}{K:Value->hM}(u:St w0 A L w)
  (k:∀b w',St w0 A (bY b cs::L) w'->K (.pointer (some ⟨b,0,none⟩)) w'):qZ P (zx T (.agg cs.toArray)) w K:=
 ⟨_,_,II T _,k _ _ u.push⟩
theorem gC{T:TypeId}{z:Value}{K:Value->hM}(E:St w0 A L w)(u:ot P T z)(B:wG z=true)
  (k:∀b w',St w0 A (bY b [z]::L) w'->K (.pointer (some ⟨b,0,none⟩)) w'):qZ P (Pw T true (.tuple #[])) w K:=by
 unfold ot ep at u
 cases hi:P.info? T with
 | none=>rw[hi]at u;cases u
 | some i=>
  rw[hi]at u
  simp only[Fh,oi.injEq]at u
  have h1:pr P (zeroValue T)=some z:=by unfold zeroValue;rw[cX,mq hi];simp only[mQ,u];rfl
  refine⟨_,push w (.cells [z].toArray T),?_,k _ _ (E.push (T:=T))⟩
  unfold Pw
  rw[eK (fY h1 w)]
  have:z.cells=[z].toArray:=by cases z<;>first|rfl|cases B
  show(do pure (aba (some (<- newVar T z))):Sem Value).run P w=_
  unfold newVar
  rw[this]
  rfl
theorem aM{T:TypeId}{cs:List Value}{K:Value->hM}(B:St w0 A L w)(u:ot P T (.agg cs.toArray))
  (k:∀b w',St w0 A (bY b cs::L) w'->K (.pointer (some ⟨b,0,none⟩)) w'):qZ P (Pw T true (.tuple #[])) w K:=by
 unfold ot ep at u
 cases hi:P.info? T with
 | none=>rw[hi]at u;cases u
 | some i=>
  rw[hi]at u
  simp only[Fh,oi.injEq]at u
  have h1:pr P (zeroValue T)=some (.agg cs.toArray):=by unfold zeroValue;rw[cX,mq hi];simp only[mQ,u];rfl
  refine⟨_,push w (.cells cs.toArray T),?_,k _ _ (B.push (T:=T))⟩
  unfold Pw
  rw[eK (fY h1 w)]
  rfl
theorem run_store{b o:Nat}{cs:List Value}{v:Value}(hb:mT w b cs)(B:o<cs.length)(u:wG v=true) :
  (store ⟨b,o,none⟩ v).run P w=.ok () (w.setCell ⟨b,o,none⟩ v):=by
 have h1:w.cell? ⟨b,o,none⟩=some cs[o]:=hb.cell (by simp[B])
 have h2:=hb.frozen (o:=o)
 unfold store
 cases v<;>first|cases u|skip
 all_goals
  simp only[Sem.run,h1,h2]
  rfl
theorem KR{b o:Nat}{cs:List Value}{v:Value}(B:St w0 A (bY b cs::L) w):St w0 A (bY b (cs.set o v)::L) (w.setCell ⟨b,o,none⟩ v):=
 B.rz λF u=>⟨F,⟨u.1.setCell v,u.2⟩,λ_ h=>.inl h,(gv.setCell w b o v).mono λk E=>(u.2 k).2 E⟩
theorem aT{T:TypeId}{b o:Nat}{cs:List Value}{v:Value}{K:hM}(B:St w0 A (bY b cs::L) w)(ht:Wh P T)(E:o<cs.length)(u:wG v=true)
  (k:∀w',St w0 A (bY b (cs.set o v)::L) w'->K w'):Vo P (JB T (.pointer (some ⟨b,o,none⟩)) v) w K:=by
 refine⟨_,?_,k _ (KR B)⟩
 show(storeVar T ⟨b,o,none⟩ v).run P w=_
 have hc:v.cells = #[v]:=by cases v<;>first|rfl|cases u
 unfold storeVar
 rw[eK (fY (lD ht).2 w),hc]
 simp only[K9,oE,IF,u1,ne_eq,not_true_eq_false,if_false]
 show(storeCells ⟨b,o,none⟩ [v]).run P w=_
 unfold storeCells
 rw[gF,Oe,eK (run_store B.hb E u)]
 rfl
def jj:List Value->Nat->List Value->List Value
 | cs,_,[]=>cs
 | cs,o,v::r=>jj (cs.set o v) (o+1) r
theorem Ea{b o:Nat}:∀(vs:List Value) (i:Nat) (cs:List Value) (w:World),St w0 A (bY b cs::L) w->o+i+vs.length<=cs.length->(∀v∈vs,wG v=true)->
  ∃w',(storeCells ⟨b,o,none⟩ vs i).run P w=.ok () w'/\St w0 A (bY b (jj cs (o+i) vs)::L) w':=by
 intro vs
 induction vs with
 | nil=>intro i cs w u _ _;exact⟨w,rfl,u⟩
 | cons v r I=>
  intro i cs w u G B
  have E:o+i+(r.length+1)<=cs.length:=by simpa using G
  have h1:=run_store (P:=P) u.hb (o:=o+i) (v:=v) cK (B v ei)
  obtain⟨w',h2,h3⟩:=I (i+1) (cs.set (o+i) v) _ (KR u) (by simp;omega) (λx J=>B x (by simp[J]))
  refine⟨w',?_,by rw[show o+(i+1)=o+i+1 from cK]at h3;exact h3⟩
  show(do store ((Addr.mk b o none).add i) v;storeCells ⟨b,o,none⟩ r (i+1):Sem Unit).run P w=_
  rw[gF,eK h1,h2]
theorem Eb{T:TypeId}{b o n:Nat}{cs vs:List Value}{K:hM}(E:St w0 A (bY b cs::L) w)(ht:ace P T n)(B:vs.length=n)(G:o+n<=cs.length)(u:∀v∈vs,wG v=true)
  (k:∀w',St w0 A (bY b (jj cs o vs)::L) w'->K w'):Vo P (JB T (.pointer (some ⟨b,o,none⟩)) (.agg vs.toArray)) w K:=by
 subst B
 obtain⟨w',h1,h2⟩:=Ea (P:=P) (o:=o) vs 0 cs w E cK u
 refine⟨w',?_,k w' h2⟩
 show(storeVar T ⟨b,o,none⟩ (.agg vs.toArray)).run P w=_
 unfold storeVar
 rw[eK (fY (lD ht).2 w)]
 simp only[aaD,K9,ne_eq,not_true_eq_false,if_false]
 exact h1
end
end Go.Fw
namespace Go.Fw
class Flat (α:Type) where
 agg:Bool
 sz:Nat
 enc:α->List Value
 val:α->Value
 pos:0<sz
 len:∀a,(enc a).length=sz
 one:∀a v,v∈enc a->wG v=true
 oH:agg=true->∀a,val a=.agg (enc a).toArray
 oI:agg=false->∀a,enc a=[val a]
instance:Flat Int where
 agg:=false
 sz:=1
 enc n:=[hZ n]
 val n:=hZ n
 pos:=ee
 len _:=rfl
 one a v h:=by rw[vx.1 h];rfl
 oH h:=by cases h
 oI _ _:=rfl
instance:Flat Bool where
 agg:=false
 sz:=1
 enc n:=[.bool n]
 val n:=.bool n
 pos:=ee
 len _:=rfl
 one a v h:=by rw[vx.1 h];rfl
 oH h:=by cases h
 oI _ _:=rfl
instance:Flat ByteArray where
 agg:=false
 sz:=1
 enc n:=[.string n]
 val n:=.string n
 pos:=ee
 len _:=rfl
 one a v h:=by rw[vx.1 h];rfl
 oH h:=by cases h
 oI _ _:=rfl
section
variable {α:Type}[Flat α]
def flat(xs:List α):List Value:=xs.flatMap Flat.enc
theorem kL:flat ([]:List α)=[]:=rfl
theorem kM(x:α)(xs:List α):flat (x::xs)=Flat.enc x++flat xs:=by simp[flat]
theorem gG(xs ys:List α):flat (xs++ys)=flat xs++flat ys:=by simp[flat]
theorem dA(xs:List α):(flat xs).length=xs.length*Flat.sz α:=by
 induction xs with
 | nil=>simp[kL]
 | cons x xs u=>rw[kM,la,u,Flat.len,oE,KD];omega
theorem Ak{xs:List α}:∀v∈flat xs,wG v=true:=by
 intro v u
 obtain⟨x,_,B⟩:=List.mem_flatMap.1 u
 exact Flat.one x v B
theorem rV{xs:List α}{i j:Nat}{x:α}{c:Value}(u:xs[i]?=some x)(hc:(Flat.enc x)[j]?=some c):(flat xs)[i*Flat.sz α+j]?=some c:=by
 induction xs generalizing i with
 | nil=>simp at u
 | cons y ys B=>
  rw[kM]
  cases i with
  | zero=>
   grind
  | succ i=>
   have:=B (by simpa using u)
   rw[List.getElem?_append_right (by rw[Flat.len,KD];omega),Flat.len]
   grind
theorem GW(xs:List α)(n:Nat):flat (xs.take n)=(flat xs).take (n*Flat.sz α):=by
 induction xs generalizing n with
 | nil=>simp[kL]
 | cons x xs u=>
  cases n with
  | zero=>simp[kL]
  | succ n=>
   rw[List.take_succ_cons,kM,kM,u,List.take_append,Flat.len]
   have h1:(n+1)*Flat.sz α-Flat.sz α=n*Flat.sz α:=dD
   rw[h1,List.take_of_length_le (i:=(n+1)*Flat.sz α) (l:=Flat.enc x) (by rw[Flat.len,KD];omega)]
theorem GX(xs:List α)(n:Nat):flat (xs.drop n)=(flat xs).drop (n*Flat.sz α):=by
 induction xs generalizing n with
 | nil=>simp[kL]
 | cons x xs u=>
  cases n with
  | zero=>simp
  | succ n=>
   rw[List.drop_succ_cons,kM,u,List.drop_append,Flat.len]
   have h1:(n+1)*Flat.sz α-Flat.sz α=n*Flat.sz α:=dD
   rw[h1,List.drop_of_length_le (i:=(n+1)*Flat.sz α) (l:=Flat.enc x) (by rw[Flat.len,KD];omega),s4]
def At(S:Nat->Prop)(w:World)(p:Value)(x:α):Prop:=
 ∃b o,p=.pointer (some ⟨b,o,none⟩)/\S b/\∀j c,(Flat.enc x)[j]?=some c->Cell w b (o+j) c
def dC(S:Nat->Prop)(w:World)(v:Value)(xs:List α):Prop:=
 ∃a cap,v=.slice a xs.length cap/\xs.length<=cap/\((xs=[]/\cap=0)\/∃b o,a=some ⟨b,o,none⟩/\(xs≠[]->S b)/\∀j c,(flat xs)[j]?=some c->Cell w b (o+j) c)
def bH(v:Value)(xs:List α):HP where
 p w F:=(v=.slice none 0 0/\xs=[]/\∀b,¬ F b)\/
  ∃b cap rest,v=.slice (some ⟨b,0,none⟩) xs.length cap/\mT w b (flat xs++rest)/\(xs.length<=cap/\cap*Flat.sz α<=(flat xs++rest).length)/\∀k,F k↔k=b
 loc w w' F h hh:=by
  rcases h with h|⟨b,cap,rest,h1,h2,h3,h4⟩
  .grind
  .exact .inr ⟨b,cap,rest,h1,h2.of_eq (hh b ((h4 b).2 rfl)),h3,h4⟩
 lt w F b h hb:=by
  rcases h with h|⟨u,cap,rest,h1,h2,h3,h4⟩
  .grind
  .rw[(h4 b).1 hb];exact h2.lt
variable {P:Program}{w w0:World}{A S:Nat->Prop}{L:List HP}{xs ys:List α}
theorem At.aG{A:Nat->Prop}{w w':World}{p:Value}{x:α}(h:At S w p x)(hc:gv A w w')(u:∀b,S b->¬ A b):At S w' p x:=by
 obtain⟨b,o,h1,h2,h3⟩:=h;exact⟨b,o,h1,h2,λj c B=>(h3 j c B).aG hc (u b h2)⟩
theorem At.ext{w w':World}{p:Value}{x:α}(h:At S w p x)(hc:Ext w w'):At S w' p x:=h.aG hc λ_ _ h=>h
theorem dC.aG{A:Nat->Prop}{w w':World}{v:Value}(h:dC S w v xs)(hc:gv A w w')(B:∀b,S b->¬ A b):dC S w' v xs:=by
 obtain⟨a,cap,h1,h2,h3⟩:=h
 refine⟨a,cap,h1,h2,?_⟩
 rcases h3 with h3|⟨b,o,h3,h4,h5⟩
 .grind
 exact .inr ⟨b,o,h3,h4,λj c u=>(h5 j c u).aG hc (B b (h4 λh=>by subst h;simp[kL]at u))⟩
theorem dC.ext{w w':World}{v:Value}(h:dC S w v xs)(hc:Ext w w'):dC S w' v xs:=h.aG hc λ_ _ h=>h
theorem dC.mono{u:Nat->Prop}{v:Value}(h:dC S w v xs)(B:∀b,S b->u b):dC u w v xs:=by
 grind[dC]
theorem dC.nil(S:Nat->Prop)(w:World):dC S w (.slice none 0 0) ([]:List α):=⟨none,0,rfl,o6 _,.inl ⟨rfl,rfl⟩⟩
theorem bH.rd{v:Value}{F:Nat->Prop}(h:(bH v xs).p w F):dC F w v xs:=by
 rcases h with⟨h1,h2,h3⟩|⟨b,cap,rest,h1,h2,h3,h4⟩
 .subst h1 h2;exact dC.nil _ _
 refine⟨_,cap,h1,?_,.inr ⟨b,0,rfl,λ_=>(h4 b).2 rfl,λj c u=>?_⟩⟩
 .exact h3.1
 rw[u1]
 exact h2.cell dD
theorem St.rd{v:Value}(u:St w0 A (bH v xs::L) w):∃S,(∀b,S b->A b\/w0.heap.size<=b)/\dC S w v xs:=by
 obtain⟨F,h1,h2⟩:=u.head;exact⟨F,h2,bH.rd h1⟩
theorem St.dX{v:Value}(u:St w0 A (bH v xs::L) w):dC (λ_=>True) w v xs:=by
 obtain⟨S,_,h⟩:=u.rd;exact h.mono λ_ _=>trivial
theorem St.eL(u:St w0 A L w):St w0 A (bH (.slice none 0 0) ([]:List α)::L) w:=
 u.new (Ext.refl w) (F:=aZ) (.inl ⟨rfl,rfl,λ_ h=>h⟩) λ_ h=>h.elim
theorem aD{T:TypeId}{p:Value}{x:α}{K:Value->Prop}(ht:dF P T=some (Flat.agg α,Flat.sz α))(h:At S w p x)(k:K (Flat.val x)):Ke P (xR T p) w K:=by
 obtain⟨b,o,rfl,_,h3⟩:=h
 cases ha:Flat.agg α with
 | true=>
  rw[ha]at ht
  refine⟨_,?_,k⟩
  rw[Flat.oH ha x]
  exact Cy (by rw[Flat.len];exact ht) h3
 | false=>
  rw[ha]at ht
  have h1:=Flat.oI ha x
  have u:Flat.sz α=1:=by rw[<- Flat.len x,h1];rfl
  rw[u]at ht
  exact⟨_,aF ht (by have:=h3 0 (Flat.val x) dD;omega),k⟩
theorem St.At{b:Nat}{x:α}(u:St w0 A (Fw.bY b (Flat.enc x)::L) w):Fw.At (λ_=>True) w (.pointer (some ⟨b,0,none⟩)) x:=
 ⟨b,0,rfl,trivial,λj c B=>by rw[u1];exact u.hb.cell B⟩
theorem bW{β:Type}[Flat β]{T f u:Nat}{p:Value}{x:α}(y:β){K:Value->Prop}(ht:wH P T f u)(h:At S w p x)(G:(Flat.enc x)[u]?=some (Flat.val y))(B:Flat.agg β=false)
  (k:∀q,At S w q y->K q):eP P (Fs T p f) K:=by
 obtain⟨b,o,rfl,h2,h3⟩:=h
 refine aA ht (k _ ⟨b,o+u,rfl,h2,λj c E=>?_⟩)
 rw[Flat.oI B]at E
 grind
theorem IJ{T R E n u:Nat}{z:Option Nat}{a:Option Addr}{l c:Nat}(ht:eQ P T=some (E,n,u,z)):pr P (Builtin.len_ #[T] R [yo a l c].toArray)=some (hZ l):=by
 show pr P (do
  match <- underlying T,yo a l c with
  | .string,.string s=>pure (goInt s.size)
  | .array n _,_=>pure (goInt n)
  | .pointer arr,_=>
   let .array n _ <- underlying arr|stuck "len: pointer to array expected"
   pure (goInt n)
  | .slice _,.slice _ n _=>pure (goInt n)
  | .map _ _,.map none|.chan _ _,.chan none=>pure (goInt 0)
  | .map _ _,.map (some r)=>
   let .map entries _ <- getObj r|stuck "len: map expected"
   pure (goInt entries.size)
  | .chan _ _,.chan (some r)=>
   let .chan _ buf _ _ _ timer <- getObj r|stuck "len: channel expected"
   pure (goInt (if timer then 0 else buf.size))
  | _, _ => stuck "len: string, array, pointer to array, slice, map or channel expected")=_
 rw[cX,cZ (fp ht).1]
 rfl
theorem aK{T R E n u:Nat}{z:Option Nat}{v:Value}{K:Value->Prop}(ht:eQ P T=some (E,n,u,z))(h:dC S w v xs)(k:K (hZ (xs.length:Int))) :
  eP P (Builtin.len_ #[T] R [v].toArray) K:=by
 obtain⟨a,cap,rfl,_⟩:=h
 exact⟨_,IJ ht,k⟩
theorem aQ{T E U:Nat}{z:Option Nat}{v:Value}{i:Int}{x:α}{K:Value->Prop}(ht:eQ P T=some (E,Flat.sz α,U,z))(h:dC S w v xs)(J:0<=i)(u:xs[i.toNat]?=some x)
  (k:∀p,At S w p x->K p):eP P (FI T v (hZ i)) K:=by
 obtain⟨a,cap,rfl,Y,h3⟩:=h
 have Z:i.toNat<xs.length:=(kp.1 u).1
 rcases h3 with⟨rfl,_⟩|⟨b,o,rfl,h4,h5⟩
 .simp at u
 obtain⟨G,W,hi,O,_⟩:=fp ht
 refine⟨.pointer (some ⟨b,o+i.toNat*Flat.sz α,none⟩),?_,k _ ⟨b,_,rfl,h4 dD,λj c V=>?_⟩⟩
 .unfold FI
  rw[cX]
  show pr P _=_
  simp only[asIntOf]
  have I:pr P (underlying T)=some (.slice E):=cZ G
  have B:pr P (sizeOf E)=some (Flat.sz α):=by rw[mU hi,O]
  simp only[cX,I,B,mQ,fR]
  have M:0<=i/\i<(xs.length:Int):=⟨J,cK⟩
  simp only[ew M,cX,B,mQ,fR,gF]
 have:=h5 (i.toNat*Flat.sz α+j) c (rV u V)
 grind
end
end Go.Fw
namespace Go.Fw
section
variable {α:Type}[Flat α] {P:Program}{w w0:World}{A S:Nat->Prop}{L:List HP}{xs ys:List α}
theorem jn{y:Nat}{i:Int}{code:BoundsCode}(u:0<=i)(h1:i<=y):pr P (Zs (hZ i) y code)=some i.toNat:=by
 unfold Zs
 rw[cX]
 simp only[asIntOf,fR,mQ,ew (show 0<=i/\i<=(y:Int)from⟨u,h1⟩)]
theorem wI{T E sz G:Nat}{z:Option Nat}{a:Option Addr}{n cap l h:Nat}{lo hi:Option Value}(ht:eQ P T=some (E,sz,G,z))
  (hb:pr P (v7 true n cap lo hi none)=some (l,h,cap)) :
  pr P (n4 T (.slice a n cap) lo hi none)=some (.slice (if cap=l then a else a.map (·.add (l*sz))) (h-l) (cap-l)):=by
 obtain⟨u,I,J,B,_⟩:=fp ht
 unfold n4
 rw[cX,cZ u]
 simp only[mQ]
 unfold Instr.slice
 rw[cX,cZ u]
 simp only[mQ]
 rw[cX,hb]
 simp only[mQ]
 rw[cX,mU J,B]
 rfl
theorem ou{n cap l h:Nat}{lo hi:Option Value}(E:lo=none/\l=0\/∃i:Int,lo=some (hZ i)/\0<=i/\l=i.toNat)(G:hi=none/\h=n\/∃i:Int,hi=some (hZ i)/\0<=i/\h=i.toNat)
  (h1:l<=h) (h2:h<=cap):pr P (v7 true n cap lo hi none)=some (l,h,cap):=by
 rcases E with⟨rfl,rfl⟩|⟨i,rfl,B,rfl⟩<;>rcases G with⟨rfl,rfl⟩|⟨I,rfl,u,rfl⟩<;>simp only[v7,cX,fR,mQ]
 .rw[jn u cK];rfl
 .rw[jn B cK];rfl
 rw[jn u cK];simp only[mQ];rw[jn B cK];rfl
theorem dC.cut{v:Value}{a:Option Addr}{n cap l h:Nat}(B:v=.slice a n cap)(J:dC S w v xs)(h1:l<=h)(h2:h<=xs.length) :
  dC S w (.slice (if cap=l then a else a.map (·.add (l*Flat.sz α))) (h-l) (cap-l)) ((xs.take h).drop l):=by
 obtain⟨W,E,M,V,h3⟩:=J
 rw[M]at B
 simp only[yo.injEq]at B
 obtain⟨rfl,Y,rfl⟩:=B
 have hlen:((xs.take h).drop l).length=h-l:=by simp;omega
 rcases h3 with⟨G,Z⟩|⟨b,o,rfl,h4,h5⟩
 .subst G
  exact⟨_,E-l,by rw[hlen],ei,.inl ⟨ei,cK⟩⟩
 refine⟨_,E-l,by rw[hlen],cK,.inr ?_⟩
 have U:(xs.take h).drop l≠[]->xs≠[]:=λu I=>u dD
 by_cases u:E=l
 .rw[ew u]
  grind[flat,Cell]
 rw[ej u]
 refine⟨b,o+l*Flat.sz α,by simp[gF],λI=>h4 (U I),λj c O=>?_⟩
 rw[GX,GW,List.getElem?_drop,List.getElem?_take]at O
 grind
theorem Dm{T E M:Nat}{z:Option Nat}{v:Value}{lo hi:Option Value}{l h:Nat}{K:Value->Prop}(ht:eQ P T=some (E,Flat.sz α,M,z))(G:dC S w v xs)
  (I:lo=none/\l=0\/∃i:Int,lo=some (hZ i)/\0<=i/\l=i.toNat) (J:hi=none/\h=xs.length\/∃i:Int,hi=some (hZ i)/\0<=i/\h=i.toNat)
  (h1:l<=h) (h2:h<=xs.length) (k:∀B,dC S w B ((xs.take h).drop l)->K B):eP P (n4 T v lo hi none) K:=by
 have u:=G
 obtain⟨a,cap,rfl,O,h3⟩:=G
 exact⟨_,wI ht (ou I J h1 cK),k _ (u.cut rfl h1 h2)⟩
theorem l8{T E G:Nat}{z:Option Nat}{v:Value}{i:Int}{K:Value->Prop}(ht:eQ P T=some (E,Flat.sz α,G,z))(I:dC S w v xs)(B:0<=i)(h2:i<=xs.length)
  (k:∀u,dC S w u (xs.take i.toNat)->K u):eP P (n4 T v none (some (hZ i)) none) K:=
 Dm ht I (.inl ⟨rfl,rfl⟩) (.inr ⟨i,rfl,B,rfl⟩) cK cK λu h=>k u dD
theorem BP{T E G:Nat}{z:Option Nat}{v:Value}{i:Int}{K:Value->Prop}(ht:eQ P T=some (E,Flat.sz α,G,z))(I:dC S w v xs)(B:0<=i)(h2:i<=xs.length)
  (k:∀u,dC S w u (xs.drop i.toNat)->K u):eP P (n4 T v (some (hZ i)) none none) K:=
 Dm ht I (.inr ⟨i,rfl,B,rfl⟩) (.inl ⟨rfl,rfl⟩) cK cK λu h=>k u dD
theorem mV{b o:Nat}:∀(vs:List Value) (i:Nat) (cs:List Value) (w:World),mT w b cs->o+i+vs.length<=cs.length->(∀v∈vs,wG v=true)->
  ∃w',(storeCells ⟨b,o,none⟩ vs i).run P w=.ok () w'/\mT w' b (jj cs (o+i) vs)/\gv (· = b) w w':=by
 intro vs
 induction vs with
 | nil=>intro i cs w hb _ _;exact⟨w,rfl,hb,gv.refl _ _⟩
 | cons v r G=>
  intro i cs w hb I u
  have E:o+i+(r.length+1)<=cs.length:=cK
  have h1:=run_store (P:=P) hb (o:=o+i) (v:=v) cK (u v ei)
  obtain⟨w',h2,h3,h4⟩:=G (i+1) (cs.set (o+i) v) _ (hb.setCell v) (by simp;omega) (λx B=>u x (by simp[B]))
  refine⟨w',?_,by grind[mT,jj],(gv.setCell w b (o+i) v).trans h4 (λ_ h=>h) λ_ _ h=>h⟩
  show(do store ((Addr.mk b o none).add i) v;storeCells ⟨b,o,none⟩ r (i+1):Sem Unit).run P w=_
  rw[gF,eK h1,h2]
theorem mr(pre u post vs:List Value)(h:u.length=vs.length):jj (pre++u++post) pre.length vs=pre++vs++post:=by
 induction vs generalizing pre u with
 | nil=>grind[jj]
 | cons v r B=>
  match u,h with
  | m::u,h=>
   have e:(pre++(m::u)++post).set pre.length v=(pre++[v])++u++post:=ei
   simp only[jj,e]
   have:=B (pre++[v]) u dD
   simp_all
theorem xY{sz:Nat}{v:Value}(u:sz=Flat.sz α)(h:dC S w v ys):(Builtin.firstCells sz ys.length v).run P w=.ok (flat ys).toArray w:=by
 subst u
 obtain⟨a,cap,rfl,_,h3⟩:=h
 rcases h3 with⟨rfl,_⟩|⟨b,o,rfl,_,h5⟩
 .cases a with
  | none=>rfl
  | some a=>simp[Builtin.firstCells,loadCells,loadCellsFrom,kL]
 have:=run_loadCells (P:=P) h5
 rw[dA]at this
 exact this
theorem rL{b o:Nat}{cs:List Value}(h:∀j c,cs[j]?=some c->Cell w b (o+j) c):∀j v,cs[j]?=some v->w.cell? ((⟨b,o,none⟩:Addr).add j)=some v:=λj v u=>by
 rw[gF];exact h j v u
theorem CA{T E kD R:Nat}{v src:Value}{F:Nat->Prop}(ht:Vr P T E (Flat.sz α) kD)(hv:(bH v xs).p w F)(uz:dC S w src ys)
  (hn:xs.length+ys.length<=17592186044416) (M:(xs.length+ys.length)*kD<=140737488355328) :
  ∃v' w' F',(Builtin.append_ #[T,T] R [v,src].toArray).run P w=.ok v' w'/\(bH v' (xs++ys)).p w' F'/\(∀b,F' b->F b\/w.heap.size<=b)/\gv F w w':=by
 obtain⟨V,u,hi,Y,wJ,hz⟩:=fp ht
 obtain⟨zv,I,hzs⟩:∃zv,u.zero=some zv/\zv.cells.size=Flat.sz α:=by
  cases Ki:u.zero with
  | none=>rw[Ki]at hz;cases hz
  | some zv=>rw[Ki]at hz;exact⟨zv,rfl,by simpa using hz⟩
 have hmul:(xs.length+ys.length)*u.bytes<=140737488355328:=by rw[show u.bytes=kD by omega];exact M
 have made:∀(cap:Nat),cap<xs.length+ys.length->
   (bH (.slice (some ⟨w.heap.size,0,none⟩) (xs.length+ys.length) (grownCap w (xs.length+ys.length) cap E)) (xs++ys)).p
    (w.drew.alloc (.cells ((flat xs).toArray++(flat ys).toArray++Builtin.zeroCells zv.cells (grownCap w (xs.length+ys.length) cap E-(xs.length+ys.length))) E)) (λk=>k=w.heap.size):=by
  intro cap hc
  have OC:=grownCap_ge w (xs.length+ys.length) cap E
  refine .inr ⟨w.heap.size,grownCap w (xs.length+ys.length) cap E,(Builtin.zeroCells zv.cells (grownCap w (xs.length+ys.length) cap E-(xs.length+ys.length))).toList,ei,⟨E,?_⟩,?_,λ_=>Iff.rfl⟩
  .have:=mn w.drew (.cells ((flat xs).toArray++(flat ys).toArray++Builtin.zeroCells zv.cells (grownCap w (xs.length+ys.length) cap E-(xs.length+ys.length))) E)
   refine Eq.trans this ?_
   congr 2
   apply aaT
   simp[gG]
  .refine⟨by rw[la];exact OC,zW (Eq.symm ?_)⟩
   have e:(Builtin.zeroCells zv.cells (grownCap w (xs.length+ys.length) cap E-(xs.length+ys.length))).toList.length=(grownCap w (xs.length+ys.length) cap E-(xs.length+ys.length))*Flat.sz α:=by
    rw[Ma,size_zeroCells,hzs]
   rw[la,e,dA,la,<- Ug]
   congr 1
   omega
 have O:∀o,gv F w (w.drew.alloc o):=λo=>⟨rfl,rfl,rfl,ei,λb hb _=>xW w.drew o b hb⟩
 have rd:=uz
 obtain⟨sa,Gk,rfl,hsc,G⟩:=rd
 rcases hv with⟨rfl,rfl,W⟩|⟨b,cap,rest,rfl,hb,B,W⟩
 ·
  simp only[IF,u1,s4]at *
  by_cases M:ys=[]
  .subst M
   refine⟨.slice none 0 0,w,F,?_,.inl ⟨rfl,rfl,W⟩,λb hb=>.inl hb,gv.refl _ _⟩
   cases sa<;>simp[Builtin.append_,run_underlying V,sizeOf,typeInfo,hi,Builtin.lenOf,Builtin.firstCells,loadCells,loadCellsFrom]
  have Am:0<ys.length:=List.length_pos_iff.2 M
  rcases G with⟨h,_⟩|⟨b,o,rfl,_,Vs⟩
  .exact absurd h M
  have J:=run_append_nil (P:=P) w T R E u zv V hi I ⟨b,o,none⟩ ys.length Gk (flat ys) (by rw[dA,Y]) (rL Vs) Am cK cK
  refine⟨_,_,λk=>k=w.heap.size,J,?_,λk U=>.inr (by rw[U];exact o6 _),O _⟩
  have:=made 0 Am
  simpa[kL]using this
 have Al:xs.length<=cap:=B.1
 replace B:=B.2
 by_cases Z:xs.length+ys.length<=cap
 ·
  have TK:(xs.length+ys.length)*Flat.sz α<=cap*Flat.sz α:=Cs _ Z
  have tX:(flat xs).length=xs.length*Flat.sz α:=dA xs
  have Ae:(flat ys).length<=rest.length:=by
   rw[la,tX]at B;rw[dA];rw[Ug]at TK;omega
  obtain⟨w',h1,h2,h3⟩:=mV (P:=P) (o:=xs.length*Flat.sz α) (flat ys) 0 (flat xs++rest) w hb (by rw[la,tX];omega) Ak
  have Gg:jj (flat xs++rest) (xs.length*Flat.sz α+0) (flat ys)=flat (xs++ys)++rest.drop (flat ys).length:=by
   have:=mr (flat xs) (rest.take (flat ys).length) (rest.drop (flat ys).length) (flat ys) (by simp;omega)
   rw[tX]at this
   rw[Oe,gG]
   rw[<- this]
   simp
  rw[Gg]at h2
  refine⟨.slice (some ⟨b,0,none⟩) (xs.length+ys.length) cap,w',F,?_,.inr ⟨b,cap,_,ei,h2,?_,W⟩,λb hb=>.inl hb,h3.mono λk U=>(W k).2 U⟩
  .have hf:=xY (α:=α) (P:=P) (sz:=Flat.sz α) rfl uz
   have tY:(⟨b,0,none⟩:Addr).add (xs.length*Flat.sz α)=⟨b,xs.length*Flat.sz α,none⟩:=by rw[gF,u1]
   simp[Builtin.append_,run_underlying V,sizeOf,typeInfo,hi,Builtin.lenOf,Z,hf,Y,tY,h1]
  refine⟨by rw[la];exact Z,wS B (zW ?_)⟩
  rw[la,la,gG,la,List.length_drop];omega
 -- a new row
 have J:=run_append_grow (P:=P) w T R E u zv V hi I ⟨b,0,none⟩ xs.length cap (flat xs) (by rw[dA,Y])
  (rL λj c hj=>by rw[u1];exact hb.cell (by rw[ub (kp.1 hj).1];exact hj))
 rcases G with⟨h,_⟩|⟨b',o,rfl,_,Vs⟩
 .subst h;simp at Z;omega
 have J:=J ⟨b',o,none⟩ ys.length Gk (flat ys) (by rw[dA,Y]) (rL Vs) cK cK (growslice_fits cK hmul)
 exact⟨_,_,λk=>k=w.heap.size,J,made cap cK,λk U=>.inr (by rw[U];exact o6 _),O _⟩
theorem ahL{T E G R:Nat}{v src:Value}{F:Nat->Prop}(ht:Vr P T E (Flat.sz α) G)(J:(bH v xs).p w F)(O:dC S w src ys)
  (M:xs.length+ys.length<=1073741824) (u:G<=8192) :
  ∃B w' I,(Builtin.append_ #[T,T] R [v,src].toArray).run P w=.ok B w'/\(bH B (xs++ys)).p w' I/\(∀b,I b->F b\/w.heap.size<=b)/\gv F w w':=
 CA ht J O cK (by have:=P5 M u;omega)
theorem KS{T E O R:Nat}{v src:Value}{K:Value->hM}(G:St w0 A (bH v xs::L) w)(ht:Vr P T E (Flat.sz α) O)(uz:dC S w src ys)
  (hn:xs.length+ys.length<=17592186044416) (hm:(xs.length+ys.length)*O<=140737488355328) (k:∀B w',St w0 A (bH B (xs++ys)::L) w'->K B w'):qZ P (Builtin.append_ #[T,T] R [v,src].toArray) w K:=by
 obtain⟨U,F,V,h1,h2,h3,h4,h5⟩:=G.tW
 obtain⟨B,w',M,Z,Y,I,W⟩:=CA (R:=R) ht h1 uz hn hm
 refine⟨B,w',Z,k B w' ?_⟩
 refine⟨G.aG.trans W (λ_ h=>h) λb hb u=>(h2 b u).elim id λhh=>cK,λb=>M b\/V b,M,V,Y,λb hb=>?_,λb hb J=>?_,λb=>Iff.rfl,?_⟩
 .rcases I b hb with u|u
  .exact h2 b u
  exact .inr (wS G.aG.size u)
 .rcases I b hb with u|u
  .exact h3 b u J
  have:=h5.lt b J;omega
 exact h5.loc λb hb=>W.bY b (h5.lt b hb) λu=>h3 b u hb
theorem bJ{T E G R:Nat}{v src:Value}{K:Value->hM}(J:St w0 A (bH v xs::L) w)(ht:Vr P T E (Flat.sz α) G)(M:dC S w src ys)
  (I:xs.length+ys.length<=1073741824) (u:G<=8192) (k:∀B w',St w0 A (bH B (xs++ys)::L) w'->K B w'):qZ P (Builtin.append_ #[T,T] R [v,src].toArray) w K:=
 KS J ht M cK (by have:=P5 I u;omega) k
end
end Go.Fw
namespace Go.Fw
section
variable {α:Type}[Flat α] {P:Program}{w w0:World}{A S:Nat->Prop}{L:List HP}{xs ys:List α}
theorem pI(x:α):(Flat.val x).cells=(Flat.enc x).toArray:=by
 cases h:Flat.agg α with
 | true=>rw[Flat.oH h];rfl
 | false=>
  have h1:=Flat.oI h x
  have h2:=Flat.one x (Flat.val x) dD
  rw[h1]
  revert h2
  cases Flat.val x<;>simp[wG,aaD]
theorem OD(cs:List Value)(o:Nat)(v:Value)(r:List Value):jj cs o (v::r)=jj (cs.set o v) (o+1) r:=rfl
theorem KT(u:Nat):∀(l:List Value) (k:Nat) (cs:Array Value),((l.zipIdx k).foldl (fun (cs:Array Value) q=>cs.setIfInBounds (u+q.2) q.1) cs).toList=jj cs.toList (u+k) l:=by
 intro l
 induction l with
 | nil=>intro k cs;rfl
 | cons v r B=>
  intro k cs
  rw[Zw,List.foldl_cons,B (k+1),OD]
  grind
theorem IL(u:Nat)(l:List Value)(cs:Array Value) :
  (l.toArray.zipIdx.foldl (fun (cs:Array Value) (q:Value×Nat)=>match q with|(c,j)=>cs.setIfInBounds (u+j) c) cs).toList=jj cs.toList u l:=by
 rw[<- VK]
 have e:l.toArray.zipIdx.toList=l.zipIdx 0:=ei
 rw[e]
 exact KT u l 0 cs
theorem TL:∀(xs:List α) (k:Nat) (pre u:List Value),pre.length=k*Flat.sz α->u.length=xs.length*Flat.sz α->
  WO (λi=>some (i*Flat.sz α,Flat.sz α)) (pre++u).toArray ((xs.zipIdx k).map λq=>(q.2,Flat.val q.1))=some (pre++flat xs).toArray:=by
 intro xs
 induction xs with
 | nil=>intro k pre u _ B;simp at B;subst B;simp[WO,kL]
 | cons x xs G=>
  intro k pre u E B
  rw[Zw,List.map_cons]
  unfold WO
  dsimp only
  have J:(Flat.val x).cells.size=Flat.sz α:=by rw[pI];simp[Flat.len]
  have I:u.length=xs.length*Flat.sz α+Flat.sz α:=dD
  rw[ej dD]
  have e:((Flat.val x).cells.zipIdx.foldl (fun (cs:Array Value) (q:Value×Nat)=>match q with|(c,j)=>cs.setIfInBounds (k*Flat.sz α+j) c) (pre++u).toArray) =
    ((pre++Flat.enc x)++u.drop (Flat.sz α)).toArray:=by
   apply aaT
   rw[pI,IL]
   have h1:=mr pre (u.take (Flat.sz α)) (u.drop (Flat.sz α)) (Flat.enc x) (by simp[Flat.len];omega)
   simp_all
  rw[e]
  have:=G (k+1) (pre++Flat.enc x) (u.drop (Flat.sz α)) (by rw[la,E,Flat.len,KD]) dD
  rw[this,kM,n3]
theorem bD{T E Y n:Nat}{parts:List (Nat×Value)}{K:Value->hM}(xs:List α)(O:St w0 A L w)(ht:Vr P T E (Flat.sz α) Y)(V:xs.length=n)
  (hp:parts=xs.zipIdx.map λq=>(q.2,Flat.val q.1)) (hl:xs.length*Flat.sz α<=16777216) (k:∀v w',St w0 A (bH v xs::L) w'->K v w') :
  qZ P (J8 T n parts.toArray) w K:=by
 subst V
 obtain⟨U,B,hi,W,wJ,G⟩:=fp ht
 obtain⟨zv,I,M⟩:∃zv,B.zero=some zv/\zv.cells.size=Flat.sz α:=by
  cases Ki:B.zero with
  | none=>rw[Ki]at G;cases G
  | some zv=>rw[Ki]at G;exact⟨zv,rfl,by simpa using G⟩
 have es:pr P (sizeOf E)=some (Flat.sz α):=by rw[mU hi,W]
 have Z:pr P (zeroValue E)=some zv:=by unfold zeroValue;rw[cX,mq hi];simp only[mQ,I];rfl
 refine⟨.slice (some ⟨w.heap.size,0,none⟩) xs.length xs.length,push w (.cells (flat xs).toArray E),?_,k _ _ ?_⟩
 .have u:∀z:Array Value,WO (λi=>some (i*Flat.sz α,Flat.sz α)) ((abq (xs.length*Flat.sz α)).map (z[· % z.size]!)) parts=some (flat xs).toArray:=by
   intro z
   have:=TL xs 0 [] ((abq (xs.length*Flat.sz α)).map (z[· % z.size]!)).toList ei ei
   rw[hp]
   rw[s4,s4,PI]at this
   exact this
  unfold J8
  rw[eK (fY (cZ U) w)]
  dsimp only
  rw[eK (fY es w),ej cK]
  by_cases J:xs.length*Flat.sz α=0
  .simp only[ew J]
   rw[eK (run_pure _ w),u]
   rfl
  simp only[ej J]
  rw[eK (fY Z w),eK (run_pure _ w),u]
  rfl
 refine O.new (Ext.push _ _) (F:=λk=>k=w.heap.size) (.inr ⟨w.heap.size,xs.length,[],rfl,⟨E,?_⟩,⟨o6 _,by simp[dA]⟩,λ_=>Iff.rfl⟩) λb hb=>by rw[hb];exact o6 _
 rw[pL];exact mn _ _
theorem wK(z:α)(n:Nat):(madeCells (Flat.enc z).toArray (n*Flat.sz α)).toList=flat (r6 n z):=by
 apply List.ext_getElem?
 intro i
 have u:=Flat.pos (α:=α)
 by_cases hi:i<n*Flat.sz α
 .have h1:i / Flat.sz α<n:=by rw[Nat.div_lt_iff_lt_mul u];exact hi
  have h2:i % Flat.sz α<(Flat.enc z).length:=by rw[Flat.len];exact Nat.mod_lt _ u
  have:=rV (xs:=r6 n z) (i:=i / Flat.sz α) (j:=i % Flat.sz α) (x:=z) (c:=(Flat.enc z)[i % Flat.sz α]) (by simp[h1]) (by simp[h2])
  rw[Nat.div_add_mod' i (Flat.sz α)]at this
  rw[this]
  unfold madeCells
  simp[hi,Flat.len]
  grind
 have B:(madeCells (Flat.enc z).toArray (n*Flat.sz α)).toList[i]?=none:=by
  rw[A9,Ma,size_madeCells];omega
 have E:(flat (r6 n z))[i]?=none:=by
  rw[A9,dA,BO];omega
 rw[B,E]
theorem wL{T E I:Nat}{n:Int}{K:Value->hM}(z:α)(M:St w0 A L w)(ht:Vr P T E (Flat.sz α) I)(B:ot P E (Flat.val z))(G:0<=n)(h1:n<=1073741824)(O:I<=8192)
  (k:∀v w',St w0 A (bH v (r6 n.toNat z)::L) w'->K v w'):qZ P (M4 T (hZ n) (hZ n)) w K:=by
 obtain⟨U,u,hi,V,W,_⟩:=fp ht
 unfold ot ep at B
 rw[hi]at B
 simp only[Fh,oi.injEq]at B
 have hb:(u.bytes:Int)*n<=281474976710656:=by
  have h2:(u.bytes:Int)<=8192:=cK
  have h3:(u.bytes:Int)*n<=8192*n:=Int.mul_le_mul_of_nonneg_right h2 G
  omega
 have J:=run_make (P:=P) w T E u (Flat.val z) U hi B .i64 .i64 n n G (Int.le_refl _) hb cK
 rw[V,pI]at J
 refine⟨_,_,J,k _ _ ?_⟩
 refine M.new (w':=w.alloc (.cells (madeCells (Flat.enc z).toArray (n.toNat*Flat.sz α)) E)) ⟨rfl,rfl,rfl,ei,λb hb _=>xW w _ b hb⟩ (F:=λk=>k=w.heap.size)
  (.inr ⟨w.heap.size,n.toNat,[],ei,⟨E,?_⟩,⟨ei,by rw[pL,dA,BO];exact o6 _⟩,λ_=>Iff.rfl⟩) λb hb=>by rw[hb];exact o6 _
 rw[pL,<- wK]
 have:=mn w (.cells (madeCells (Flat.enc z).toArray (n.toNat*Flat.sz α)) E)
 rw[PI]
 exact this
def GY(α:Type)[Flat α](v:Value)(i:Nat)(p:Value):Prop:=∃b n c,v=.slice (some ⟨b,0,none⟩) n c/\p=.pointer (some ⟨b,i*Flat.sz α,none⟩)
theorem dR{T E O:Nat}{z:Option Nat}{v:Value}{i:Int}{K:Value->Prop}(B:St w0 A (bH v xs::L) w)(ht:eQ P T=some (E,Flat.sz α,O,z))(J:0<=i)(h1:i<xs.length)
  (k:∀p,GY α v i.toNat p->K p):eP P (FI T v (hZ i)) K:=by
 obtain⟨F,h,_⟩:=B.head
 rcases h with⟨rfl,rfl,_⟩|⟨b,cap,rest,rfl,hb,V,_⟩
 .simp at h1;omega
 obtain⟨G,U,hi,M,_⟩:=fp ht
 refine⟨.pointer (some ⟨b,i.toNat*Flat.sz α,none⟩),?_,k _ ⟨b,_,_,rfl,rfl⟩⟩
 unfold FI
 have I:pr P (underlying T)=some (.slice E):=cZ G
 have u:pr P (sizeOf E)=some (Flat.sz α):=by rw[mU hi,M]
 simp only[asIntOf,cX,I,u,mQ,fR]
 simp only[ew (show 0<=i/\i<(xs.length:Int)from⟨J,h1⟩),cX,u,mQ,fR,gF,u1]
theorem rM{v:Value}{F:Nat->Prop}{i:Nat}(h:(bH v xs).p w F)(hi:i<xs.length):∃b cap rest,v=.slice (some ⟨b,0,none⟩) xs.length cap/\mT w b (flat xs++rest)/\(xs.length<=cap/\cap*Flat.sz α<=(flat xs++rest).length)/\∀k,F k↔k=b:=by
 rcases h with⟨rfl,rfl,_⟩|h
 .simp at hi
 exact h
theorem gM{T:Nat}{v p:Value}{i:Nat}{x:α}{K:Value->Prop}(G:St w0 A (bH v xs::L) w)(ht:dF P T=some (Flat.agg α,Flat.sz α))(I:GY α v i p)(B:xs[i]?=some x)(k:K (Flat.val x)) :
  Ke P (xR T p) w K:=by
 obtain⟨F,h,_⟩:=G.head
 obtain⟨b,cap,rest,E,hb,M,_⟩:=rM h (kp.1 B).1
 obtain⟨O,n,c,u,rfl⟩:=I
 rw[E]at u
 simp only[yo.injEq,oi.injEq,Addr.mk.injEq]at u
 obtain⟨⟨rfl,_,_⟩,_,_⟩:=u
 refine aD (S:=λ_=>True) ht ⟨b,i*Flat.sz α,rfl,trivial,λj c J=>hb.cell ?_⟩ k
 have:=rV B J
 rw[ub (kp.1 this).1];exact this
theorem KU{i:Nat}(y:α)(h:i<xs.length):flat (xs.set i y)=flat (xs.take i)++Flat.enc y++flat (xs.drop (i+1)):=by
 rw[List.set_eq_take_append_cons_drop,ew h,gG,kM,n3]
theorem zn{i:Nat}{x:α}(h:xs[i]?=some x):flat xs=flat (xs.take i)++Flat.enc x++flat (xs.drop (i+1)):=by
 have hi:=(kp.1 h).1
 have:xs=xs.take i++x::xs.drop (i+1):=by
  rw[<- (kp.1 h).2,List.getElem_cons_drop,List.take_append_drop]
 conv=>lhs;rw[this]
 rw[gG,kM,n3]
theorem OE{T:Nat}{v p:Value}{i:Nat}{F:Nat->Prop}(y:α)(h:(bH v xs).p w F)(ht:dF P T=some (Flat.agg α,Flat.sz α))(U:GY α v i p)(hi:i<xs.length) :
  ∃w',(JB T p (Flat.val y)).run P w=.ok () w'/\(bH v (xs.set i y)).p w' F/\gv F w w':=by
 obtain⟨b,cap,rest,G,hb,E,B⟩:=rM h hi
 obtain⟨W,n,c,u,rfl⟩:=U
 rw[G]at u
 simp only[yo.injEq,oi.injEq,Addr.mk.injEq]at u
 obtain⟨⟨rfl,_,_⟩,_,_⟩:=u
 have I:xs[i]?=some xs[i]:=by simp[hi]
 have O:=zn I
 have M:(flat (xs.take i)).length=i*Flat.sz α:=by rw[dA,List.length_take,Nat.min_eq_left cK]
 have hlen:i*Flat.sz α+Flat.sz α<=(flat xs).length:=by
  rw[dA,<- KD];exact Cs _ hi
 obtain⟨w',h1,h2,h3⟩:=mV (P:=P) (o:=i*Flat.sz α) (Flat.enc y) 0 (flat xs++rest) w hb (by rw[Flat.len,la];omega) (Flat.one y)
 have J:jj (flat xs++rest) (i*Flat.sz α+0) (Flat.enc y)=flat (xs.set i y)++rest:=by
  have:=mr (flat (xs.take i)) (Flat.enc xs[i]) (flat (xs.drop (i+1))++rest) (Flat.enc y) (by rw[Flat.len,Flat.len])
  rw[M]at this
  rw[Oe,KU y hi,O]
  grind
 rw[J]at h2
 refine⟨w',?_,.inr ⟨b,cap,rest,dD,h2,?_,B⟩,h3.mono λk V=>(B k).2 V⟩
 .show(storeVar T ⟨b,i*Flat.sz α,none⟩ (Flat.val y)).run P w=_
  unfold storeVar
  rw[eK (fY (lD ht).2 w),pI]
  simp only[K9,Flat.len,ne_eq,not_true_eq_false,if_false]
  exact h1
 rw[la,dA]at E |-;grind
theorem ju{T:Nat}{v p:Value}{i:Nat}{K:hM}(y:α)(B:St w0 A (bH v xs::L) w)(ht:dF P T=some (Flat.agg α,Flat.sz α))(M:GY α v i p)(hi:i<xs.length)
  (k:∀w',St w0 A (bH v (xs.set i y)::L) w'->K w'):Vo P (JB T p (Flat.val y)) w K:=by
 obtain⟨U,F,J,h1,h2,h3,h4,h5⟩:=B.tW
 obtain⟨w',I,G,E⟩:=OE y h1 ht M hi
 refine⟨w',I,k w' ⟨B.aG.trans E (λ_ h=>h) λb hb u=>(h2 b u).elim id λO=>cK,U,F,J,G,h2,h3,h4,h5.loc λb hb=>E.bY b (h5.lt b hb) λu=>h3 b u hb⟩⟩
end
end Go.Fw
