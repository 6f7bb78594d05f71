/-
  Part 1.
-/
import Derived.Test.YtdncbeepkacgbaaGreatDoorProg
import Derived.Orders
import Derived.Tactics
import Derived.OrdersIn
import Derived.TacticsIn
import Derived.RangeFuncSeq
import Derived.RangeFuncLeaves
import Derived.Laws.Sem
import Derived.KernelRfl
import Derived.Below
import Derived.IntWalk
import Derived.Laws.AppendOwn
import Derived.Laws.MakeOwn
import Derived.WalkKit
import Derived.ProofKit
import Derived.OpenShut
import Derived.ChangeCalls
import Derived.Laws.Strings
import Derived.Lib.ConvBytes
import Derived.MapKept
import Derived.Maps.RangeRun
import Derived.Lib.AppendZeros
import Derived.LaidMore
import Derived.Lay
import Derived.SevenTiedAt
import Derived.Stop.Joined
set_option maxHeartbeats 8000000
set_option linter.all false
set_option maxRecDepth 100000
namespace Go
def cU{p:Prop}(h:p:=by omega):p:=h
def dH{p:Prop}(h:p:=by grind):p:=h
def er{p:Prop}(h:p:=by decide):p:=h
def et{p:Prop}(h:p:=by simp):p:=h
def ew:=@if_neg
def ez:=@if_pos
def fY:=@decide_eq_true
def gk:=@decide_eq_false
def gv:=@decide_eq_decide
def gD:=@congrArg
def hG:=@of_decide_eq_true
def hM:=@of_decide_eq_false
def hU:=@Classical.byContradiction
noncomputable abbrev hZ:=Proofs.Tryz.prog
abbrev iD:=World->Prop
abbrev iE(i:Int):Value:=.int .i64 i
end Go
open ByteArray renaming mk->jY
open List renaming getElem?_eq_some_iff->j0,length_append->lJ,append_assoc->o1,replicate->o6,length_cons->qb,mem_cons_self->qs,append_nil->rM,mem_cons_of_mem->so,mem_singleton->sU,getElem?_append_left->s7,mem_cons->ta,length_replicate->tr,nil_append->wc,length_nil->x7,getElem?_eq_none_iff->zH,map_congr_left->C2,all_eq_true->H4,size_toArray->NS,getElem?_toArray->P6,mem_filterMap->Tn,zipIdx_cons->aau
open Go.Instr renaming build->mZ,sliceAt->pA,mapUpdate->rN,lookup->ua,index->uG,sliceBounds->u1,loadAt->vK,box->zG,storeAt->Ku,makeMap->Kv,fieldAt->KF,indexAt->K0,buildSlice->L2,alloc->P9,extract->T0,makeSlice->Vv,fill->W9,sliceBound->aaj
open Option renaming bind_some->nY,some->o5,map_some->EO
open Bool renaming and_eq_true->n3,not_eq_true'->sV,or_eq_true->vo,true_and->yx,not_false->Oe
open Go.Value renaming int->n5,bool->vO,slice->yR,cells->abp,pointer->acA
open Nat renaming le_refl->qQ,zero_add->uf,le_trans->xL,le_of_eq->zU,beq->Dn,le_of_ble_eq_true->Et,mul_le_mul_right->FH,succ_mul->H5,land->I4,shiftLeft->LS,add_zero->MI,lor->PA,eq_of_beq_eq_true->P7,testBit_two_pow->Rp,mul_le_mul->Tv,one_shiftLeft->TC,ble->TK,testBit_or->Wz,add_mul->abv,blt->abU
open Array renaming getD_eq_getD_getElem?->F1,getElem?_eq_some_iff->Gu,getElem?_modify->P8,toArray_toList->QJ,length_toList->Sc,empty_append->W5,foldl_toList->W8,range->acR,ext'->adf
open Go.World renaming cell?->Qx,setCell->acp
open Prod renaming mk->abW
open Go.Code renaming region->acM
open Classical renaming choose->adh
namespace Go.Fw
abbrev Env:=Nat->Value
def ev(e:Env):Operand->Value
 | .tmp t=>e t
 | .const v=>v
 | .global g=>.pointer (some ⟨g,0,none⟩)
 | .func f=>.func (.func f) #[] #[]
def Ck(e:Env)(d:Nat)(v:Value):Env:=λi=>bif Dn i d then v else e i
def kr(e:Env)(d:Option Nat)(v:Value):Env:=match d with|some d=>Ck e d v|none=>e
theorem oq(e:Env)(d:Nat)(v:Value):Ck e d v d=v:=by simp[Ck]
theorem pH(e:Env){d i:Nat}(v:Value)(h:i≠d):Ck e d v i=e i:=by
 have:Dn i d=false:=by
  cases hh:Dn i d
  .rfl
  simp_all
 simp[Ck,this]
def aac(e:Env){d B:Nat}(v E:Value)(h:d≠B):Ck (Ck e d v) B E=Ck (Ck e B E) d v:=by
 funext i
 by_cases h1:i=d
 .subst h1;rw[pH _ _ h,oq,oq]
 by_cases h2:i=B
 .subst h2;rw[oq,pH _ _ h1,oq]
 rw[pH _ _ h2,pH _ _ h1,pH _ _ h1,pH _ _ h2]
def al5(e:Env)(d:Nat)(v:Value)(h:e d=v):Ck e d v=e:=by
 funext i
 by_cases h1:i=d
 .subst h1;rw[oq,h]
 rw[pH _ _ h1]
def mark(D:Nat):Deferred:={target:=.collected D,args:=#[]}
structure jW(ds:List Nat)(n:Nat)(e:Env)(a:Act):Prop where
 defers:a.defers=ds.map mark
 size:a.tmps.size=n
 get:∀i,a.tmps.getD i undef=e i
def jW.eval{B:List Nat}{n:Nat}{e:Env}{a:Act}(h:jW B n e a):a.eval=ev e:=by
 funext x
 cases x<;>simp[Act.eval,ev]
 case tmp t=>simpa using h.get t
theorem jW.put{E:List Nat}{n:Nat}{e:Env}{a:Act}(h:jW E n e a){d:Option Nat}(B:∀k,d=some k->k<n)(v:Value) :
  jW E n (kr e d v) (a.put d v):=by
 cases d with
 | none=>exact h
 | some d=>
  have B:=B d rfl
  refine⟨h.defers,by simp[Act.put,h.size],λi=>?_⟩
  have G:=h.get i
  simp only[Act.put,kr,F1]at *
  by_cases hi:i=d
  .subst hi
   rw[Array.getElem?_setIfInBounds_self_of_lt (by rw[h.size];exact B),oq]
   rfl
  .rw[Array.getElem?_setIfInBounds_ne (Ne.symm hi),pH _ _ hi]
   exact G
def pr(P:Program){α:Type}:Sem α->Option α
 | .pure a=>some a
 | .program k=>pr P (k P)
 | .mark _ k=>pr P k
 | _=>none
theorem fx{P:Program}{α:Type}{m:Sem α}{v:α}(h:pr P m=some v)(w:World):m.run P w=.ok v w:=by
 induction m with
 | pure a=>simp only[pr,o5.injEq]at h;simp_all
 | program k B=>exact B P h
 | mark x k B=>exact B h
 | _=>simp[pr]at h
theorem fq{P:Program}{α:Type}(a:α):pr P (pure a:Sem α)=some a:=rfl
theorem cH{P:Program}{α β:Type}(m:Sem α)(f:α->Sem β):pr P (m >>= f)=(pr P m).bind λa=>pr P (f a):=by
 show pr P (m.bind f)=_
 induction m with
 | pure a=>rfl
 | program k B=>exact B P
 | mark x k B=>exact B
 | _=>rfl
theorem eI{P:Program}{α β:Type}{m:Sem α}{f:α->Sem β}{w w':World}{a:α}(h:m.run P w=.ok a w') :
  (m >>= f).run P w=(f a).run P w':=by simp_all
theorem run_pure{P:Program}{α:Type}(a:α)(w:World):(pure a:Sem α).run P w=.ok a w:=rfl
abbrev FO(r:Option Nat):Fence:={Fence.wide with round:=r}
def Ho{r:Option Nat}{p:Prop}:(FO r).depth.isSome=true->p:=λh=>by cases h
def BF{r:Option Nat}{n:Nat}{P:Program}{f:FuncId}{args:Array Value}{w:World}{R:Ending->iD}:CallsIn (FO r) n P f args w R↔Calls P f args w R:=
 callsIn_wide (n:=n)
def rZ(K:Value->iD):Ending->iD:=λe w=>∃v,e=.returned v/\K v w
def rZ.mono{K B:Value->iD}{e:Ending}{w:World}(h:rZ K e w)(k:∀v w,K v w->B v w):rZ B e w:=
 let ⟨v,G,E⟩:=h;⟨v,G,k _ _ E⟩
def Plain(P : Program)(f : FuncId) : Prop := ∃B, P.funcs[f]?=some B /\ (B.name == "runtime.NumGoroutine")=false /\ B.body.isNone=false
theorem Cp{P:Program}{f:FuncId}(h:Plain P f)(args:Array Value)(w:World) :
  (callFunc f args).run P w=.ok (.enter f args) w:=by
 obtain⟨B,h1,h2,h3⟩:=h
 show(match P.funcs[f]? with|none=>_|some B=>_:Sem Next).run P w=_
 rw[h1]
 simp[h2,h3]
structure eK(P:Program)(m:Sem Value)(K:Value->Prop):Prop where
 ex:∃v,pr P m=some v/\K v
structure GK(P:Program)(m:Sem Value)(w:World)(K:Value->Prop):Prop where
 ex:∃v,m.run P w=.ok v w/\K v
structure se(P:Program)(m:Sem Value)(w:World)(K:Value->iD):Prop where
 ex:∃v w',m.run P w=.ok v w'/\K v w'
structure El(P:Program)(m:Sem Unit)(w:World)(K:iD):Prop where
 ex:∃w',m.run P w=.ok () w'/\K w'
structure FE(P:Program)(f:FuncId)(args:List Value)(w:World)(K:Value->iD):Prop where
 ex:(Plain P f/\Calls P f args.toArray w (rZ K))\/∃v w',(callFunc f args.toArray).run P w=.ok (.value v) w'/\K v w'
structure gR(P:Program)(fv:Value)(args:List Value)(w:World)(K:Value->iD):Prop where
 ex:(∃g first cap,fv=.func (.func g) first cap/\Plain P g/\Calls P g (first++args.toArray++cap) w (rZ K))\/
  ∃l,fv=.func (.yield l) #[] #[]/\YieldAt (FO none) 0 P l args.toArray w (rZ K)
structure Bl(v:Value)(A B:Prop):Prop where
 ex:∃t,v=.bool t/\(t=true->A)/\(t=false->B)
structure Ve(P:Program)(m:Sem Value)(v:Value)(w:World)(R:Prop):Prop where
 aqs:m.run P w=.ok v w
 rest:R
inductive Hp where
 | val (v:Value)
 | p (m:Sem Value)
 | q (m:Sem Value)
 | e (m:Sem Value)
 | u (m:Sem Unit)
 | call (f:FuncId) (args:List Value)
 | Vf (fv:Value) (args:List Value)
 | bad
def ZT:Operand->Bool|.const _=>true|_=>false
def XW:Value->Sem Value
 | .pointer none|.nilIface|.nilFunc => stuck "nil"
 | .func (.method _) _ _ => stuck "method"
 | x=>pure x
def aad(c a b:Value):Sem Value:=do pure (if <- asBool c then a else b)
def af1(op:BinOp)(t:TypeId)(cx cy:Bool)(a b:Value):Sem Value:=
 match a,b with
 | .nilIface, .nilIface => if cx||cy then binOp op t a b else stuck "two nil interfaces"
 | .agg _, .agg _ => .program λp => if p.eqGuardType p.depth t then stuck "an interface in a part" else binOp op t a b
 | _,_=>binOp op t a b
def ku(op:BinOp)(t:TypeId)(cx cy:Bool)(a b:Value):Sem Value:=
 match op with
 | .eql=>af1 .eql t cx cy a b
 | .neq=>af1 .neq t cx cy a b
 | op=>binOp op t a b
def af2(P:Program)(op:BinOp)(t:TypeId)(x y:Operand):Bool:=
 match op with
 | .eql|.neq=>match P.underlying t with
  | some (.pointer _)|some .unsafePointer=>!(ZT x||ZT y)
  | _=>false
 | _=>false
def isMap(P:Program)(t:TypeId):Bool:=match P.underlying t with|some (.map _ _)|some (.chan _ _)=>true|_=>false
def aqt(P:Program)(s d:TypeId):Nat:=
 match P.underlying d with
 | some (.slice _)=>2
 | some .string=>match P.underlying s with|some (.slice _)=>1|_=>0
 | _=>0
def Cq(P:Program)(o:Oper)(ρ:Operand->Value):Hp:=
 match o.op with
 | .move x|.assign x=>.val (ρ x)
 | .pick c a b=>.p (aad (ρ c) (ρ a) (ρ b))
 | .alloc t=>.e (P9 t true (.tuple #[]))
 | .box t x=>.e (zG t (ρ x))
 | .build t parts=>.p (mZ t (parts.toList.map λq=>(q.1,ρ q.2)).toArray)
 | .buildSlice t n parts=>.e (L2 t n (parts.toList.map λq=>(q.1,ρ q.2)).toArray)
 | .load t a=>.q (vK t (ρ a))
 | .store t a x=>.u (Ku t (ρ a) (ρ x))
 | .nilCheck x=>.p (XW (ρ x))
 | .binOp op t x y _=>if af2 P op t x y then .q (ku op t (ZT x) (ZT y) (ρ x) (ρ y))else .p (ku op t (ZT x) (ZT y) (ρ x) (ρ y))
 | .unOp op _ x=>.p (Op.unary op (ρ x))
 | .convert s d x=>match aqt P s d with|0=>.p (convert s d (ρ x))|1=>.q (convert s d (ρ x))|_=>.e (convert s d (ρ x))
 | .makeInterface t x=>.q (Instr.makeInterface t (ρ x))
 | .makeFunc fn first cap=>.val (.func fn (first.toList.map ρ).toArray (cap.toList.map ρ).toArray)
 | .makeMap t r=>.e (Kv t (r.map ρ))
 | .makeSlice t l c=>.e (Vv t (ρ l) (ρ c))
 | .slice t x lo hi B=>.p (pA t (ρ x) (lo.map ρ) (hi.map ρ) (B.map ρ))
 | .fieldAddr s x f=>.p (KF s (ρ x) f)
 | .field t x f=>.p (Instr.field t (ρ x) f)
 | .indexAddr t x i=>.p (K0 t (ρ x) (ρ i))
 | .index t x i=>.p (uG t (ρ x) (ρ i))
 | .lookup t x i ok=>.q (ua t (ρ x) (ρ i) ok)
 | .mapUpdate t m k x|.insert t m k x=>.u (rN t (ρ m) (ρ k) (ρ x))
 | .mapEntry t m k=>.e (Instr.mapEntry t (ρ m) (ρ k))
 | .entryStore t m s x=>.u (Instr.entryStore t (ρ m) (ρ s) (ρ x))
 | .range t x=>.e (Instr.range t (ρ x))
 | .next it s=>.e (Instr.next (ρ it) s o.type)
 | .entry it=>.q (Instr.entry (ρ it))
 | .typeAssert x t u ok=>.q (Instr.typeAssert (ρ x) t u ok)
 | .extract t i=>.p (T0 (ρ t) i)
 | .call c=>
  match c.callee with
  | .value (.func f)=>.call f (c.args.toList.map ρ)
  | .value x=>.Vf (ρ x) (c.args.toList.map ρ)
  | .invoke ..=>.bad
  | .builtin b=>
   match b with
   | .len=>if isMap P (c.argTypes.getD 0 0)then .q (Builtin.len_ c.argTypes o.type (c.args.toList.map ρ).toArray)else .p (Builtin.len_ c.argTypes o.type (c.args.toList.map ρ).toArray)
   | .cap=>.p (Builtin.cap_ c.argTypes o.type (c.args.toList.map ρ).toArray)
   | .min=>.p (Builtin.min_ c.argTypes o.type (c.args.toList.map ρ).toArray)
   | .max=>.p (Builtin.max_ c.argTypes o.type (c.args.toList.map ρ).toArray)
   | .append=>.e (Builtin.append_ c.argTypes o.type (c.args.toList.map ρ).toArray)
   | .copy=>.e (Builtin.copy_ c.argTypes o.type (c.args.toList.map ρ).toArray)
   | .clear=>.e (Builtin.clear_ c.argTypes o.type (c.args.toList.map ρ).toArray)
   | .delete=>.e (Builtin.delete_ c.argTypes o.type (c.args.toList.map ρ).toArray)
   | _=>.bad
 | _=>.bad
def KC(P:Program)(k:Hp)(K:Value->iD)(w:World):Prop:=
 match k with
 | .val v=>K v w
 | .p m=>eK P m (λv=>K v w)
 | .q m=>GK P m w (λv=>K v w)
 | .e m=>se P m w K
 | .u m=>El P m w (λw'=>K undef w')
 | .call f args=>FE P f args w K
 | .Vf fv args=>gR P fv args w K
 | .bad=>False
def Hp.quiet:Hp->Bool
 | .val _|.p _|.q _=>true
 | _=>false
def Hp.reads:Hp->Bool
 | .q _=>true
 | _=>false
def Hp.has(P:Program)(k:Hp)(w:World)(v:Value):Prop:=
 match k with
 | .val x=>x=v
 | .p m=>pr P m=some v
 | .q m=>m.run P w=.ok v w
 | _=>False
def KC.has{P:Program}{k:Hp}{K:Value->iD}{w:World}(B:k.quiet=true)(h:KC P k K w):∃v,k.has P w v/\K v w:=by
 cases k<;>simp only[Hp.quiet,Bool.false_eq_true]at B<;>simp only[KC]at h
 case val v=>exact⟨v,rfl,h⟩
 case p m=>exact h.ex
 case q m=>exact h.ex
def Hp.XX{P:Program}{k:Hp}{w w':World}{v:Value}(B:k.reads=false)(h:k.has P w v):k.has P w' v:=by
 cases k<;>simp only[Hp.has,Hp.reads,Bool.true_eq_false]at *
 .exact h
 exact h
def KC.aae{P:Program}{k:Hp}{K:Value->iD}{w:World}{v:Value}(h:k.has P w v)(B:K v w):KC P k K w:=by
 cases k<;>simp only[Hp.has]at h<;>simp only[KC]
 case val u=>grind
 case p m=>exact⟨v,h,B⟩
 case q m=>exact⟨v,h,B⟩
def KC.mono{P:Program}{k:Hp}{K E:Value->iD}{w:World}(h:KC P k K w)(B:∀v w,K v w->E v w):KC P k E w:=by
 cases k<;>simp only[KC]at *
 case val v=>grind
 case p m=>exact⟨let ⟨v,a,b⟩:=h.ex;⟨v,a,B _ _ b⟩⟩
 case q m=>exact⟨let ⟨v,a,b⟩:=h.ex;⟨v,a,B _ _ b⟩⟩
 case e m=>exact⟨let ⟨v,w',a,b⟩:=h.ex;⟨v,w',a,B _ _ b⟩⟩
 case u m=>exact⟨let ⟨w',a,b⟩:=h.ex;⟨w',a,B _ _ b⟩⟩
 case call f args=>
  rcases h.ex with⟨a,b⟩|⟨v,w',a,b⟩
  .exact⟨.inl ⟨a,b.mono λe w' r=>r.mono B⟩⟩
  .exact⟨.inr ⟨v,w',a,B _ _ b⟩⟩
 case Vf fv args=>
  rcases h.ex with⟨g,f,c,a,b,d⟩|⟨l,a,G,t,s,b,c,d⟩
  .exact⟨.inl ⟨g,f,c,a,b,d.mono λe w' r=>r.mono B⟩⟩
  .exact⟨.inr ⟨l,a,G,t,s,b,c,d.mono λe w' r=>r.mono B⟩⟩
def wh{r:Option Nat}{P:Program}{o:Oper}{a:Act}{w:World}:∀f,o.about P w a.eval=some f->(FO r).fn f:=λ_ _=>trivial
def ON{r:Option Nat}{P:Program}{o:Oper}{a:Act}{next:Act->iD}{Q:Exit->Act->iD}{f:FuncId}{args:Array Value}{w:World}
  {K:Value->iD}(h:Calls P f args w (rZ K)) (E:∀v w',K v w'->next (a.put o.dst v) w'):o.uponIn (FO r) 0 P a next Q (.ok (.enter f args) w):=by
 rw[Oper.uponIn_enter]
 refine⟨Ho,BF.2 (h.mono λe w' ⟨v,B,G⟩=>?_)⟩
 grind
def J6{r:Option Nat}{P:Program}{o:Oper}{a:Act}{next:Act->iD}{Q:Exit->Act->iD}{l:Nat}{f:FuncId}{tmps:Array Value}{assign body:Code}{w:World}
  {K:Value->iD}(h:RoundIn (FO none) 0 P l f tmps assign body w (rZ K)) (E:∀v w',K v w'->next (a.put o.dst v) w'):o.uponIn (FO r) 0 P a next Q (.ok (.round l f tmps assign body) w):=by
 rw[Oper.uponIn_round]
 refine⟨Ho,?_⟩
 have B:RoundIn (FO r) 0 P l f tmps assign body w (rZ K):=h
 refine B.mono λe w' ⟨v,I,G⟩=>?_
 grind
def lD{r:Option Nat}{P:Program}{o:Oper}{a:Act}{next:Act->iD}{Q:Exit->Act->iD}{w w':World}{v:Value}(B:∀c,o.op≠.defer c)
  (h:(execOp a.eval o).run P w=.ok (.value v) w') (E:next (a.put o.dst v) w'):o.wpIn (FO r) 0 P a w next Q:=by
 unfold Oper.wpIn;rw[Oper.semAt_eq _ _ _ B,h,Oper.uponIn_value];exact⟨wh,E⟩
def SG{r:Option Nat}{P:Program}{o:Oper}{a:Act}{next:Act->iD}{Q:Exit->Act->iD}{w w':World}(B:∀c,o.op≠.defer c)
  (h:(execOp a.eval o).run P w=.ok .skip w') (E:next (a.put o.dst undef) w'):o.wpIn (FO r) 0 P a w next Q:=by
 unfold Oper.wpIn;rw[Oper.semAt_eq _ _ _ B,h,Oper.uponIn_skip];exact⟨wh,E⟩
def OO{P:Program}{m:Sem Value}{w w':World}{v:Value}(h:m.run P w=.ok v w') :
  (do pure (.value (<- m)):Sem Next).run P w=.ok (.value v) w':=by simp_all
def aqu{P:Program}{m:Sem Unit}{w w':World}(h:m.run P w=.ok () w') :
  (do m;pure .skip:Sem Next).run P w=.ok .skip w':=by simp_all
theorem GL{α β:Type}(f:α->β)(l:Array α):(l.toList.map f).toArray=l.map f:=by
 grind
def eqG(t:TypeId)(x y:Operand)(a b:Value):Sem Unit:=
 match a,b with
 | .nilIface,.nilIface=>if (ZT x||ZT y)=true then pure ()else do
   if <- Op.eqGuardIn Op.maxDepth t a b then unsupported (.noEntry "binop/eql: two nil values of an interface type with methods, neither of them the literal nil")
 | .agg _,.agg _=>do
  if !(<- program).eqGuardType (<- program).depth t then return
  if <- Op.eqGuardIn Op.maxDepth t a b then unsupported (.noEntry "binop/eql: two nil values of an interface type with methods, in a part of a struct or an array")
 | _,_=>pure ()
def FG{P:Program}{op:BinOp}(G:op=.eql\/op=.neq){t:TypeId}{x y:Operand}{a b:Value}{w w':World}{v:Value}
  (h:(af1 op t (ZT x) (ZT y) a b).run P w=.ok v w'):(eqGuard op t x y a b).run P w=.ok () w/\(binOp op t a b).run P w=.ok v w':=by
 have B:eqGuard op t x y a b=eqG t x y a b:=by rcases G with rfl|rfl<;>cases x<;>cases y<;>rfl
 rw[B]
 clear B
 unfold eqG
 unfold af1 at h
 split at h
 .split at h
  .simp_all
  simp_all
 .rename_i c1 c2
  have E : (if P.eqGuardType P.depth t then stuck "an interface in a part" else binOp op t (.agg c1) (.agg c2) : Sem Value).run P w=.ok v w' := h
  split at E
  .simp_all
  simp_all
 simp_all
def OP{P:Program}{op:BinOp}{t:TypeId}{x y:Operand}{a b:Value}{w w':World}{v:Value}
  (h:(ku op t (ZT x) (ZT y) a b).run P w=.ok v w'):(do eqGuard op t x y a b;binOp op t a b:Sem Value).run P w=.ok v w':=by
 unfold ku at h
 split at h
 .obtain⟨h1,h2⟩:=FG (.inl rfl) h
  simp_all
 .obtain⟨h1,h2⟩:=FG (.inr rfl) h
  simp_all
 rename_i n1 n2
 have h1:(eqGuard op t x y a b).run P w=.ok () w:=by
  unfold eqGuard
  simp_all
 simp_all
theorem KC.wp{r:Option Nat}{ds:List Nat}{P:Program}{n:Nat}{o:Oper}{e:Env}{a:Act}{w:World}{K:Value->iD}{Q:Exit->Act->iD}{next:Act->iD}
  (ha:jW ds n e a) (h:KC P (Cq P o (ev e)) K w) (B:∀v w',K v w'->next (a.put o.dst v) w'):o.wpIn (FO r) 0 P a w next Q:=by
 have I:=ha.eval
 have G:∀c,o.op≠.defer c:=λc hc=>by unfold Cq at h;rw[hc]at h;exact h
 have V:∀{m:Sem Value},eK P m (λv=>K v w)->execOp (ev e) o=(do pure (.value (<- m)):Sem Next)->o.wpIn (FO r) 0 P a w next Q:=λO J=>by
  obtain⟨v,h1,h2⟩:=O.ex
  exact lD (w':=w) G (by rw[I,J];exact OO (fx h1 w)) (B _ _ h2)
 have Y:∀{m:Sem Value},GK P m w (λv=>K v w)->execOp (ev e) o=(do pure (.value (<- m)):Sem Next)->o.wpIn (FO r) 0 P a w next Q:=λO J=>by
  obtain⟨v,h1,h2⟩:=O.ex
  exact lD (w':=w) G (by rw[I,J];exact OO h1) (B _ _ h2)
 have E:∀{m:Sem Value},se P m w K->execOp (ev e) o=(do pure (.value (<- m)):Sem Next)->o.wpIn (FO r) 0 P a w next Q:=λO J=>by
  obtain⟨v,w',h1,h2⟩:=O.ex
  exact lD G (by rw[I,J];exact OO h1) (B _ _ h2)
 have U:∀{m:Sem Unit},El P m w (λw'=>K undef w')->execOp (ev e) o=(do m;pure .skip:Sem Next)->o.wpIn (FO r) 0 P a w next Q:=λO J=>by
  obtain⟨w',h1,h2⟩:=O.ex
  exact SG G (by rw[I,J];exact aqu h1) (B _ _ h2)
 unfold Cq at h
 cases ld:o.op with
 | move x=>rw[ld]at h;exact lD (w':=w) G (by rw[I];simp only[execOp,ld];rfl) (B _ _ h)
 | assign x=>rw[ld]at h;exact lD (w':=w) G (by rw[I];simp only[execOp,ld];rfl) (B _ _ h)
 | pick c x y=>
  rw[ld]at h
  obtain⟨v,h1,h2⟩:=h.ex
  refine lD (w':=w) G ?_ (B _ _ h2)
  rw[I];simp only[execOp,ld]
  have:=fx h1 w
  unfold aad at this
  revert this
  cases ev e c<;>simp only[asBool]<;>intro this<;>first|(simp only[stuck]at this;exact absurd this (by simp[Sem.run]))|skip
  case bool t=>
   have e2:v=(if t=true then ev e x else ev e y):=by
    have:(Result.ok (if t=true then ev e x else ev e y) w:Result Value)=.ok v w:=this
    simpa using this.symm
   rw[e2];rfl
 | alloc t=>rw[ld]at h;exact E h (by simp only[execOp,ld])
 | box t x=>rw[ld]at h;exact E h (by simp only[execOp,ld])
 | build t ps=>rw[ld]at h;exact V h (by simp only[execOp,ld,GL])
 | buildSlice t n ps=>rw[ld]at h;exact E h (by simp only[execOp,ld,GL])
 | insert t m k x=>rw[ld]at h;exact U h (by simp only[execOp,ld])
 | load t x=>rw[ld]at h;exact Y h (by simp only[execOp,ld])
 | store t x y=>rw[ld]at h;exact U h (by simp only[execOp,ld])
 | nilCheck x=>
  rw[ld]at h
  obtain⟨v,h1,h2⟩:=h.ex
  refine lD (w':=w) G ?_ (B _ _ h2)
  rw[I];simp only[execOp,ld]
  revert h1
  cases J:ev e x with
  | pointer p=>cases p<;>simp[XW,stuck,pr,fq]<;>(try(rintro rfl;rfl))
  | func fn f c=>cases fn<;>simp[XW,stuck,pr,fq]<;>(try(rintro rfl;rfl))
  | _=>simp[XW,stuck,pr,fq]<;>(try(rintro rfl;rfl))
 | binOp op t x y u=>
  rw[ld]at h
  dsimp only at h
  split at h
  .obtain⟨v,h1,h2⟩:=h.ex
   exact lD (w':=w) G (by rw[I];simp only[execOp,ld];exact OO (OP h1)) (B _ _ h2)
  .obtain⟨v,h1,h2⟩:=h.ex
   exact lD (w':=w) G (by rw[I];simp only[execOp,ld];exact OO (OP (fx h1 w))) (B _ _ h2)
 | unOp op t x=>rw[ld]at h;exact V h (by simp only[execOp,ld])
 | convert s d x=>
  rw[ld]at h
  dsimp only at h
  split at h
  .exact V h (by simp only[execOp,ld])
  .exact Y h (by simp only[execOp,ld])
  .exact E h (by simp only[execOp,ld])
 | makeInterface t x=>rw[ld]at h;exact Y h (by simp only[execOp,ld])
 | makeFunc fn f c=>rw[ld]at h;exact lD (w':=w) G (by rw[I];simp only[execOp,ld,<- GL];rfl) (B _ _ h)
 | makeMap t r=>rw[ld]at h;exact E h (by simp only[execOp,ld])
 | makeSlice t l c=>rw[ld]at h;exact E h (by simp only[execOp,ld])
 | slice t x lo hi mx=>rw[ld]at h;exact V h (by simp only[execOp,ld])
 | fieldAddr s x f=>rw[ld]at h;exact V h (by simp only[execOp,ld])
 | field t x f=>rw[ld]at h;exact V h (by simp only[execOp,ld])
 | indexAddr t x i=>rw[ld]at h;exact V h (by simp only[execOp,ld])
 | index t x i=>rw[ld]at h;exact V h (by simp only[execOp,ld])
 | lookup t x i ok=>rw[ld]at h;exact Y h (by simp only[execOp,ld])
 | mapUpdate t m k x=>rw[ld]at h;exact U h (by simp only[execOp,ld])
 | mapEntry t m k=>rw[ld]at h;exact E h (by simp only[execOp,ld])
 | entryStore t m s x=>rw[ld]at h;exact U h (by simp only[execOp,ld])
 | range t x=>rw[ld]at h;exact E h (by simp only[execOp,ld])
 | next it s=>rw[ld]at h;exact E h (by simp only[execOp,ld])
 | entry it=>rw[ld]at h;exact Y h (by simp only[execOp,ld])
 | typeAssert x t u ok=>rw[ld]at h;exact Y h (by simp only[execOp,ld])
 | extract t i=>rw[ld]at h;exact V h (by simp only[execOp,ld])
 | call c=>
  rw[ld]at h
  dsimp only at h
  have M:(c.args.toList.map (ev e)).toArray=c.args.map (ev e):=GL _ _
  cases hc:c.callee with
  | value x=>
   rw[hc]at h
   have W:∀{g:FuncId}{first cap:Array Value},ev e x=.func (.func g) first cap->Plain P g->Calls P g (first++(c.args.toList.map (ev e)).toArray++cap) w (rZ K)->o.wpIn (FO r) 0 P a w next Q:=by
    intro g first cap J O g9
    unfold Oper.wpIn
    rw[Oper.semAt_eq _ _ _ G]
    have Z:(execOp a.eval o).run P w=.ok (.enter g (first++(c.args.toList.map (ev e)).toArray++cap)) w:=by
     rw[I]
     simp only[execOp,ld]
     have h1:(resolve (ev e) c o.type).run P w=.ok {target:=.fn (.func g) cap,args:=first++c.args.map (ev e)} w:=by
      simp only[resolve,hc,J];rfl
     rw[eI h1]
     show(callFunc g (first++c.args.map (ev e)++cap)).run P w=_
     rw[Cp O,M]
    rw[Z]
    exact⟨wh,ON g9 λv w' hv=>B v w' hv⟩
   have hyl:∀{l:Nat},ev e x=.func (.yield l) #[] #[]->YieldAt (FO none) 0 P l (c.args.toList.map (ev e)).toArray w (rZ K)->o.wpIn (FO r) 0 P a w next Q:=by
    rintro l J ⟨fn,tmps,assign,body,hy,Z⟩
    unfold Oper.wpIn
    rw[Oper.semAt_eq _ _ _ G]
    have hr':(execOp a.eval o).run P w=.ok (.round l fn tmps assign body) w:=by
     rw[I]
     simp only[execOp,ld]
     have h1:(resolve (ev e) c o.type).run P w=.ok {target:=.fn (.yield l) #[],args:=#[]++c.args.map (ev e)} w:=by
      simp only[resolve,hc,J];rfl
     rw[eI h1]
     show(Instr.yield l (#[]++c.args.map (ev e))).run P w=_
     rw[W5,<- M];exact hy
    rw[hr']
    exact⟨wh,J6 Z λv w' hv=>B v w' hv⟩
   have pI:gR P (ev e x) (c.args.toList.map (ev e)) w K->o.wpIn (FO r) 0 P a w next Q:=λh=>by
    rcases h.ex with⟨g,first,cap,h1,h2,h3⟩|⟨l,h1,h2⟩
    .exact W h1 h2 h3
    .exact hyl h1 h2
   cases x with
   | func f=>
    rcases h.ex with⟨h1,h2⟩|⟨v,w',h1,h2⟩
    .exact W (g:=f) (first:=#[]) (cap:=#[]) rfl h1 (by simpa using h2)
    .refine lD G ?_ (B _ _ h2)
     rw[I]
     simp only[execOp,ld]
     have h3:(resolve (ev e) c o.type).run P w=.ok {target:=.fn (.func f) #[],args:=#[]++c.args.map (ev e)} w:=by
      simp only[resolve,hc,ev];rfl
     rw[eI h3]
     show(callFunc f (#[]++c.args.map (ev e)++#[])).run P w=_
     rw[<- M,W5,Array.append_empty]
     exact h1
   | tmp t=>exact pI h
   | const v=>exact pI h
   | global g=>exact pI h
  | invoke r nm=>rw[hc]at h;exact h.elim
  | builtin b=>
   rw[hc]at h
   dsimp only at h
   have hb:∀{m:Sem Value},builtin b c.argTypes o.type (c.args.map fun|.const _=>true|_=>false) (c.args.map (ev e))=(do pure (.value (<- m)):Sem Next)->
     execOp (ev e) o=(do pure (.value (<- m)):Sem Next):=by
    intro m hm
    simp only[execOp,ld]
    have h1:resolve (ev e) c o.type=pure {target:=.builtin b c.argTypes o.type (c.args.map fun|.const _=>true|_=>false),args:=c.args.map (ev e)}:=by
     simp only[resolve,hc];rfl
    rw[h1]
    exact hm
   rw[M]at h
   cases b<;>first|exact h.elim|skip
   case len=>
    dsimp only at h
    split at h
    .exact Y h (hb rfl)
    .exact V h (hb rfl)
   case cap=>exact V h (hb rfl)
   case min=>exact V h (hb rfl)
   case max=>exact V h (hb rfl)
   case append=>exact E h (hb rfl)
   case copy=>exact E h (hb rfl)
   case clear=>exact E h (hb rfl)
   case delete=>exact E h (hb rfl)
 | _=>rw[ld]at h;exact h.elim
def pre(o:Oper):List Nat:=(o.after.toList.filter λe=>Region.binds .any e).map (·.on)
def Em(ops:List Oper)(j:Nat):Option Nat:=(ops[j]?).bind (·.dst)
def looks(ops:List Oper)(o:Oper):List Nat:=
 (o.op.operands.toList.filterMap fun|.tmp t=>some t|_=>none)++(match o.guard with|some (j,_)=>(Em ops j).toList|none=>[])
def pJ(ops:List Oper)(o:Oper)(e:Env):Bool:=
 match o.guard with
 | none=>true
 | some (j,b)=>match Em ops j with
  | none=>false
  | some s=>match e s with
   | .bool B=>B == b
   | _=>false
theorem KD{E:List Nat}{n:Nat}{e:Env}{a:Act}(h:jW E n e a)(ops:List Oper)(o:Oper):Region.wanted o (yielded ops.toArray a.tmps)=pJ ops o e:=by
 unfold Region.wanted pJ
 cases o.guard with
 | none=>rfl
 | some g=>
  obtain⟨j,b⟩:=g
  simp only[yielded,Em,P6]
  cases (ops[j]?).bind (·.dst)with
  | none=>simp
  | some s=>
   have B:=h.get s
   simp only[nY]
   rw[<- B,F1]
   cases a.tmps[s]? with
   | none=>simp[undef]
   | some v=>grind
theorem XY{P:Program}{o:Oper}{ρ ρ':Operand->Value}(h:∀x∈o.op.operands,ρ x=ρ' x):Cq P o ρ=Cq P o ρ':=by
 unfold Cq
 cases ld:o.op<;>rw[ld]at h<;>simp only[Op.operands]at h<;>dsimp only
 case call c=>
  have G:∀x∈c.args,ρ x=ρ' x:=λx B=>h x (by simp[Call.operands,B])
  have E:c.args.toList.map ρ=c.args.toList.map ρ':=C2 λx B=>G x dH
  rw[E]
  cases hc:c.callee with
  | value x=>
   have B:ρ x=ρ' x:=h x (by simp[Call.operands,hc])
   grind
  | _=>rfl
 case build t ps=>
  have E:(ps.toList.map λq=>(q.1,ρ q.2))=ps.toList.map λq=>(q.1,ρ' q.2):=
   C2 λq I=>dH
  grind
 case buildSlice t n ps=>
  have E:(ps.toList.map λq=>(q.1,ρ q.2))=ps.toList.map λq=>(q.1,ρ' q.2):=
   C2 λq I=>dH
  grind
 case makeFunc fn f c=>
  simp_all
 case makeMap t r=>
  have:r.map ρ=r.map ρ':=by cases r with|none=>rfl|some x=>grind
  grind
 case slice t x lo hi mx=>
  have J:ρ x=ρ' x:=h x et
  have h1:lo.map ρ=lo.map ρ':=by cases lo with|none=>rfl|some y=>grind
  have h2:hi.map ρ=hi.map ρ':=by cases hi with|none=>rfl|some y=>grind
  have h3:mx.map ρ=mx.map ρ':=by cases mx with|none=>rfl|some y=>grind
  grind
 case load t x=>grind
 case store t x y=>grind
 case pick c x y=>grind
 case binOp op t x y u=>grind
 case insert t m k x=>grind
 case mapUpdate t m k x=>grind
 case entryStore t m k x=>grind
 case mapEntry t m k=>grind
 case lookup t m k ok=>grind
 case indexAddr t m k=>grind
 case index t m k=>grind
 case makeSlice t m k=>grind
 all_goals grind
def al6{e:Env}{d:Nat}{v:Value}{x:Operand}(h:x≠.tmp d):ev (Ck e d v) x=ev e x:=by
 cases x<;>simp only[ev]
 case tmp t=>exact pH _ _ λB=>h (by rw[B])
theorem GN{P:Program}{ops:List Oper}{o:Oper}{e:Env}{d:Option Nat}{v:Value}(h:∀k,d=some k->k ∉ looks ops o) :
  Cq P o (ev (kr e d v))=Cq P o (ev e):=by
 cases d with
 | none=>rfl
 | some d=>
  refine XY λx E=>al6 λB=>h d rfl ?_
  subst B
  exact List.mem_append_left _ (Tn.2 ⟨.tmp d,dH,rfl⟩)
theorem Ax{ops:List Oper}{o:Oper}{e:Env}{d:Option Nat}{v:Value}(h:∀k,d=some k->k ∉ looks ops o) :
  pJ ops o (kr e d v)=pJ ops o e:=by
 cases d with
 | none=>rfl
 | some d=>
  have h:=h d rfl
  unfold pJ
  unfold looks at h
  cases hg:o.guard with
  | none=>rfl
  | some g=>
   obtain⟨j,b⟩:=g
   rw[hg]at h
   dsimp only at h |-
   cases hs:Em ops j with
   | none=>rfl
   | some s=>
    rw[hs]at h
    have:s≠d:=λB=>h (by simp[B])
    simp only[kr,pH _ _ this]
def aaf(ops:List Oper)(x y:Oper):Prop:=
 (∀d,x.dst=some d->d ∉ looks ops y/\y.dst≠some d)/\(∀d,y.dst=some d->d ∉ looks ops x)
theorem XZ{e:Env}{d B:Option Nat}{v E:Value}(h:∀k,d=some k->B≠some k):kr (kr e d v) B E=kr (kr e B E) d v:=by
 cases d with
 | none=>rfl
 | some d=>cases B with
  | none=>rfl
  | some B=>exact aac _ _ _ λG=>h d rfl (by rw[G])
def GO(P:Program)(ops:List Oper)(o:Oper)(K:Env->iD)(e:Env)(w:World):Prop:=
 if pJ ops o e=true then KC P (Cq P o (ev e)) (λv w'=>K (kr e o.dst v) w') w else K (kr e o.dst undef) w
def GO.mono{P:Program}{ops:List Oper}{o:Oper}{K B:Env->iD}{e:Env}{w:World}(h:GO P ops o K e w)
  (E:∀v w',K (kr e o.dst v) w'->B (kr e o.dst v) w'):GO P ops o B e w:=by
 unfold GO at *
 split
 .rename_i hw;rw[ez hw]at h;exact h.mono λv w'=>E v w'
 grind
def SH(ops:List Oper)(L:Nat->Bool)(i:Nat):Prop:=L i=false/\∃o,ops[i]?=some o/\∀p∈pre o,L p=true
def nc(L:Nat->Bool)(i:Nat):Nat->Bool:=λk=>if k=i then true else L k
def Down(ops:List Oper)(L:Nat->Bool):Prop:=∀i o,L i=true->ops[i]?=some o->∀p∈pre o,L p=true
def X0(L:Nat->Bool)(i:Nat):nc L i i=true:=by simp[nc]
theorem Vg(L:Nat->Bool){i k:Nat}(h:k≠i):nc L i k=L k:=by simp[nc,h]
def Mq(L:Nat->Bool)(i:Nat){k:Nat}(h:L k=true):nc L i k=true:=by unfold nc;grind
theorem X2(L:Nat->Bool)(i j:Nat):nc (nc L i) j=nc (nc L j) i:=by
 grind[nc]
def Down.set{ops:List Oper}{L:Nat->Bool}{i:Nat}(h:Down ops L)(E:SH ops L i):Down ops (nc L i):=by
 intro k o B I p J
 by_cases e:k=i
 .subst e
  obtain⟨_,O,G,M⟩:=E
  grind[nc]
 rw[Vg _ e]at B
 exact Mq _ _ (h k o B I p J)
def SH.set{ops:List Oper}{L:Nat->Bool}{i j:Nat}(h:SH ops L j)(B:j≠i):SH ops (nc L i) j:=
 ⟨by rw[Vg _ B];exact h.1,let ⟨o,G,E⟩:=h.2;⟨o,G,λp I=>Mq _ _ (E p I)⟩⟩
inductive SJ(ops:List Oper):Nat->Nat->Prop
 | one {j i:Nat}{o:Oper}(h:ops[j]?=some o) (hp:i∈pre o):SJ ops j i
 | more {j p i:Nat}{o:Oper}(h:ops[j]?=some o) (hp:p∈pre o) (hd:SJ ops p i):SJ ops j i
theorem SJ.listed{ops:List Oper}{L:Nat->Bool}(E:Down ops L){j i:Nat}(h:SJ ops j i):(∀o,ops[j]?=some o->∀p∈pre o,L p=true)->L i=true:=by
 induction h with
 | one h B=>grind
 | more h B O M=>intro I;exact M λo J q G=>E _ o (I _ h _ B) J q G
def SJ.J7{ops:List Oper}{L:Nat->Bool}(E:Down ops L){j i:Nat}(h:SJ ops j i)(B:SH ops L j):L i=true:=
 h.listed E λo M p O=>by obtain⟨_,J,G,I⟩:=B;grind
def WS(P:Program)(ops:List Oper)(Q:Env->iD)(S:Nat->iD):Nat->(Nat->Bool)->Env->iD
 | 0,L,e,w=>(∀i,¬ SH ops L i)/\Q e w
 | f+1,L,e,w=>((∀i,¬ SH ops L i)->Q e w)/\
   ∀i o,ops[i]?=some o->SH ops L i->GO P ops o (λB w'=>(w'=w\/S i w')/\WS P ops Q S f (nc L i) B w') e w
theorem WS.weaken{P:Program}{ops:List Oper}{Q:Env->iD}{S E:Nat->iD}(h:∀i w,S i w->E i w) :
  ∀(f:Nat) (_L:Nat->Bool) (_e:Env) (_w:World),WS P ops Q S f _L _e _w->WS P ops Q E f _L _e _w
 | 0,_,_,_,B=>B
 | f+1,L,e,w,B=>⟨B.1,λi o I G=>(B.2 i o I G).mono λ_ _ ⟨h1,h2⟩=>⟨h1.imp id (h _ _),WS.weaken h f _ _ _ h2⟩⟩
theorem WS.first{P:Program}{ops:List Oper}{Q:Env->iD}{S:Nat->iD}{i:Nat}{B:Oper}{X:Hp}{b:Bool}{v:Value}
  (hi:ops[i]?=some B) (hn:b=false->v=undef) :
  ∀(f:Nat) (L:Nat->Bool) (e:Env) (w:World),Down ops L->SH ops L i->
   (∀j oj,ops[j]?=some oj->j≠i->L j=false->i ∉ pre oj->aaf ops B oj)->
   Cq P B (ev e)=X->pJ ops B e=b->(b=true->X.has P w v)->
   WS P ops Q (λj w'=>S j w'/\(SJ ops j i\/(b=true->X.has P w' v))) f (nc L i) (kr e B.dst v) w->WS P ops Q S (f+1) L e w:=by
 have done:∀(K:Env->iD) (e:Env) (w:World),Cq P B (ev e)=X->pJ ops B e=b->(b=true->X.has P w v)->K (kr e B.dst v) w->GO P ops B K e w:=by
  intro K e w Y hb hy G
  unfold GO
  rw[hb]
  cases b with
  | true=>rw[ez rfl,Y];exact KC.aae (hy rfl) G
  | false=>grind
 have sub:∀{f:Nat}{L:Nat->Bool}{e:Env}{w:World},WS P ops Q (λj w'=>S j w'/\(SJ ops j i\/(b=true->X.has P w' v))) f L e w->WS P ops Q S f L e w:=
  λh=>WS.weaken (λ_ _ h=>h.1) _ _ _ _ h
 intro f
 induction f with
 | zero=>
  intro L e w hL M Vh Y hb hy H
  refine⟨λh=>absurd M (h i),λj oj Z J=>?_⟩
  by_cases E:j=i
  .grind
  .exact absurd (J.set E) (H.1 j)
 | succ f ih=>
  intro L e w hL M Vh Y hb hy H
  refine⟨λh=>absurd M (h i),λj oj Z J=>?_⟩
  by_cases E:j=i
  .grind
  .have eT:i ∉ pre oj:=λhp=>by
    obtain⟨_,V,W,qF⟩:=J.2.elim λV h=>(⟨trivial,V,h.1,h.2⟩:True/\∃V,ops[j]?=some V/\∀p∈pre V,L p=true)
    rw[Z]at W;cases W
    have:=qF i hp
    rw[M.1]at this;cases this
   have I:=Vh j oj Z E J.1 eT
   have af6:¬ SJ ops j i:=λhd=>by
    have:=hd.J7 hL J
    rw[M.1]at this;cases this
   have h1:=H.2 j oj Z (J.set E)
   have U:∀k,B.dst=some k->k ∉ looks ops oj:=λk G=>(I.1 k G).1
   have O:∀k,oj.dst=some k->k ∉ looks ops B:=λk G=>I.2 k G
   have dd:∀k,B.dst=some k->oj.dst≠some k:=λk G=>(I.1 k G).2
   have cont:∀(u:Value) (w':World),(w'=w\/(S j w'/\(SJ ops j i\/(b=true->X.has P w' v))))->
     WS P ops Q (λj w'=>S j w'/\(SJ ops j i\/(b=true->X.has P w' v))) f (nc (nc L i) j) (kr (kr e B.dst v) oj.dst u) w'->
     (w'=w\/S j w')/\WS P ops Q S (f+1) (nc L j) (kr e oj.dst u) w':=by
    intro u w' hw hWS
    refine⟨hw.imp id λh=>h.1,?_⟩
    refine ih (nc L j) (kr e oj.dst u) w' (hL.set J) (M.set (Ne.symm E)) ?_ ?_ ?_ ?_ ?_
    .grind[nc,pre,aaf]
    .rw[GN O];exact Y
    .rw[Ax O];exact hb
    .grind
    .rw[X2,XZ λk G=>dH]
     exact hWS
   unfold GO at h1 |-
   rw[Ax U]at h1
   split
   .rename_i hw
    rw[ez hw,GN U]at h1
    exact h1.mono λu w' hh=>cont u w' hh.1 hh.2
   grind
def wr(ops:List Oper):List Nat:=ops.filterMap (·.dst)
def aag{ops:List Oper}{i:Nat}{o:Oper}{d:Nat}(h:ops[i]?=some o)(B:o.dst=some d):d∈wr ops:=
 Tn.2 ⟨o,List.mem_of_getElem? h,B⟩
theorem BG{e e0:Env}{ops:List Oper}{i:Nat}{o:Oper}(h:∀k,k ∉ wr ops->e k=e0 k)(G:ops[i]?=some o)(v:Value) :
  ∀k,k ∉ wr ops->kr e o.dst v k=e0 k:=by
 intro k B
 cases hd:o.dst with
 | none=>exact h k B
 | some d=>
  have:k≠d:=λE=>B (by rw[E];exact aag G hd)
  simp only[kr,pH _ _ this]
  grind
def GO.wpOp{r:Option Nat}{M:List Nat}{P:Program}{n:Nat}{ops:List Oper}{i:Nat}{o:Oper}{K:Env->iD}{J:Act->iD}{O:Exit->Act->iD}{e:Env}{a:Act}{w:World}
  (U:ops[i]?=some o) (G:∀k,o.dst=some k->k<n) (B:jW M n e a) (h:GO P ops o K e w)
  (I:∀v E w',jW M n (kr e o.dst v) E->K (kr e o.dst v) w'->J E w'):wpOpIn (FO r) 0 P ops.toArray O i J a w:=by
 unfold Go.wpOpIn
 simp only[P6,U]
 rw[KD B]
 unfold GO at h
 split
 .rename_i hw
  rw[ez hw]at h
  exact KC.wp B h λv w' V=>I v _ _ (B.put G v) V
 rename_i hw
 rw[ew hw]at h
 exact⟨wh,I undef _ _ (B.put G undef) h⟩
theorem WS.any{r:Option Nat}{Y:List Nat}{P:Program}{n:Nat}{ops:List Oper}{Q:Env->iD}{V:Exit->Act->iD}{S:Nat->iD}{e0:Env}
  (hd:∀d∈wr ops,d<n) (U:∀e a w,jW Y n e a->(∀k,k ∉ wr ops->e k=e0 k)->Q e w->V .normal a w) :
  ∀(f:Nat) (L:Nat->Bool) (listed:Array Bool) (e:Env) (a:Act) (w:World),jW Y n e a->(∀k,k ∉ wr ops->e k=e0 k)->listed.size=ops.length->
   (∀i,listed.getD i false=L i)->WS P ops Q S f L e w->wpAnyIn (FO r) 0 P .any ops.toArray V f listed a w:=by
 have B:∀(L:Nat->Bool) (listed:Array Bool) (_:listed.size=ops.length) (_:∀i,listed.getD i false=L i) (i:Nat),
   i∈Region.ready .any ops.toArray listed↔SH ops L i:=by
  intro L listed I E i
  rw[mem_ready]
  have W:∀o,ops[i]?=some o->listed.getD i true=L i:=λo G=>by
   grind
  unfold SH pre
  grind
 intro f
 induction f with
 | zero=>
  intro L listed e a w J M I E h
  refine⟨?_,U e a w J M h.2⟩
  cases O:Region.ready .any ops.toArray listed with
  | nil=>rfl
  | cons i r=>exact absurd ((B L listed I E i).1 dH) (h.1 i)
 | succ f ih=>
  intro L listed e a w J M I E h
  refine⟨λhn=>U e a w J M (h.1 λi hi=>?_),λi hi=>?_⟩
  .have:=(B L listed I E i).2 hi
   grind
  .have O:=(B L listed I E i).1 hi
   obtain⟨o,G,_⟩:=O.2
   refine GO.wpOp G (λk hk=>hd k (aag G hk)) J (h.2 i o G O) λv Z w' J8 hh=>?_
   refine ih (nc L i) _ _ Z w' J8 (BG M G v) dH (λk=>?_) hh.2
   have l6:i<listed.size:=dH
   have J9:=E k
   simp only[F1]at J9 |-
   grind[nc]
def WS.region{r:Option Nat}{G:List Nat}{P:Program}{n:Nat}{id:Nat}{ops:List Oper}{Q:Env->iD}{E:Exit->Act->iD}{S:Nat->iD}{e:Env}{a:Act}{w:World}
  (M:P.follows .mixedOrders=true) (J:∀d∈wr ops,d<n) (I:jW G n e a)
  (O:∀B a w,jW G n B a->(∀k,k ∉ wr ops->B k=e k)->Q B w->E .normal a w)
  (h:WS P ops Q S ops.length (λ_=>false) e {w with drawn:=w.drawn+1}):(acM id ops.toArray true).wpIn (FO r) 0 P E a w:=by
 refine wpIn_region_any M ?_
 rw[NS]
 refine WS.any J O ops.length (λ_=>false) _ e a _ I (λ_ _=>rfl) et (λi=>?_) h
 simp only[F1,Array.getElem?_replicate]
 grind
def lk(s:Nat):List (Nat×Option Bool)->Option (Option Bool)
 | []=>none
 | q::r=>bif Dn q.1 s then some q.2 else lk s r
def Mr(d:Nat):List (Nat×Option Bool)->List (Nat×Option Bool)
 | []=>[]
 | q::r=>bif Dn q.1 d then Mr d r else q::Mr d r
def del(d:Option Nat)(B:List (Nat×Option Bool)):List (Nat×Option Bool):=match d with|none=>B|some d=>Mr d B
def GP(B:List (Nat×Option Bool)):Operand->Option Bool
 | .const (.bool b)=>some b
 | .tmp t=>match lk t B with|some b=>b|none=>none
 | _=>none
def ajr(B:List (Nat×Option Bool)):Op->Option Operand
 | .move x=>some x
 | .assign x=>some x
 | .pick (.tmp c) a b=>match lk c B with|some (some t)=>some (bif t then a else b)|_=>none
 | _=>none
def aah(B:List (Nat×Option Bool))(d:Option Nat)(x:Operand):List (Nat×Option Bool):=
 match d,GP B x with
 | some d,some b=>(d,some b)::Mr d B
 | d,_=>del d B
def ofK:Option Bool->Value|some b=>.bool b|none=>undef
def lj(B:List (Nat×Option Bool))(e:Env):Prop:=∀s b,lk s B=some b->e s=ofK b
theorem Hq(n:Nat):Dn n n=true:=Nat.beq_refl n
theorem En{a b:Nat}(h:a≠b):Dn a b=false:=by
 cases hh:Dn a b
 .rfl
 simp_all
theorem af7(s d:Nat)(B:List (Nat×Option Bool)):lk s (Mr d B)=if s=d then none else lk s B:=by
 induction B with
 | nil=>simp[Mr,lk]
 | cons q r E=>
  simp only[Mr,lk]
  by_cases h1:q.1=d
  .rw[h1,Hq,cond_true,E]
   by_cases h2:s=d
   .simp[h2]
   .rw[ew h2,ew h2,En (λG=>h2 G.symm),cond_false]
  .rw[En h1,cond_false]
   simp only[lk,E]
   by_cases h2:q.1=s
   .grind
   .rw[En h2,cond_false,cond_false]
def lj.nil(e:Env):lj [] e:=λs b h=>by simp[lk]at h
theorem lj.del{G:List (Nat×Option Bool)}{e:Env}(h:lj G e)(d:Option Nat)(v:Value):lj (del d G) (kr e d v):=by
 cases d with
 | none=>exact h
 | some d=>
  intro s b E
  simp only[Fw.del,af7]at E
  by_cases B:s=d
  .simp[B]at E
  .rw[ew B]at E
   simp only[kr,pH _ _ B]
   exact h s b E
def lj.cons{E:List (Nat×Option Bool)}{e:Env}(h:lj E e){s:Nat}{b:Option Bool}(G:e s=ofK b):lj ((s,b)::E) e:=by
 intro s' I B
 simp only[lk]at B
 by_cases h1:s=s'
 .subst h1;rw[Hq,cond_true]at B;cases B;exact G
 rw[En h1,cond_false]at B;exact h _ _ B
theorem lj.known{G:List (Nat×Option Bool)}{e:Env}(h:lj G e){x:Operand}{b:Bool}(E:GP G x=some b):ev e x=.bool b:=by
 cases x with
 | tmp t=>
  have B:(match lk t G with|some b=>b|none=>none)=some b:=E
  split at B
  .rename_i b' hb;subst B;exact h t _ hb
  grind
 | const v=>cases v<;>simp[GP]at E;simp[ev,E]
 | _=>simp[GP]at E
def lj.aft{B:List (Nat×Option Bool)}{e:Env}(h:lj B e)(d:Option Nat)(x:Operand):lj (aah B d x) (kr e d (ev e x)):=by
 unfold aah
 split
 .rename_i d b hb
  have h1:=h.del (some d) (ev e x)
  exact lj.cons (b:=some b) h1 (by simp only[kr,oq];exact h.known hb)
 exact h.del _ _
def wi(P:Program)(ops:List Oper)(r:Oper)(e:Env)(w:World)(R:Prop):Prop:=
 bif pJ ops r e then(match Cq P r (ev e),r.dst with|.q m,some d=>Ve P m (e d) w R|_,_=>False)else R
def Cr(P:Program)(ops:List Oper):List Oper->Env->World->Prop->Prop
 | [],_,_,R=>R
 | r::ks,e,w,R=>wi P ops r e w (Cr P ops ks e w R)
theorem OQ{P:Program}{ops:List Oper}{ks:List Oper}{e:Env}{w:World}{R:Prop}:Cr P ops ks e w R->(∀r∈ks,wi P ops r e w True)/\R:=by
 induction ks with
 | nil=>intro h;exact⟨et,h⟩
 | cons r ks B=>
  intro h
  have:wi P ops r e w True/\Cr P ops ks e w R:=by
   simp only[Cr,wi]at h |-
   cases hw:pJ ops r e with
   | false=>grind
   | true=>
    rw[hw]at h
    simp only[cond_true]at h |-
    cases hk:Cq P r (ev e)<;>rw[hk]at h<;>cases hd:r.dst<;>rw[hd]at h<;>first|grind|skip
    exact⟨⟨h.aqs,trivial⟩,h.rest⟩
  grind
def Hr(n:Nat)(o:Oper):Bool:=match o.dst with|none=>true|some d=>abU d n
def tm(P:Program)(ops:List Oper)(o:Oper)(ks:List Oper)(rec:List (Nat×Option Bool)->Env->iD)(B:List (Nat×Option Bool))(e:Env)(w:World):Prop:=
 match ajr B o.op with
 | some x=>rec (aah B o.dst x) (kr e o.dst (ev e x)) w
 | none=>KC P (Cq P o (ev e)) (λv w'=>Cr P ops ks (kr e o.dst v) w' (rec (del o.dst B) (kr e o.dst v) w')) w
def skF(o:Oper)(rec:List (Nat×Option Bool)->Env->iD)(B:List (Nat×Option Bool))(e:Env)(w:World):Prop:=
 rec (match o.dst with|some d=>(d,none)::Mr d B|none=>B) (kr e o.dst undef) w
theorem lj.skip{B:List (Nat×Option Bool)}{e:Env}(h:lj B e)(d:Option Nat) :
  lj (match d with|some d=>(d,none)::Mr d B|none=>B) (kr e d undef):=by
 cases d with
 | none=>exact h
 | some d=>exact lj.cons (b:=none) (h.del (some d) undef) (by simp only[kr,oq];rfl)
def DS(P:Program)(n:Nat)(ops:List Oper)(q:Oper×List Oper)(rec:List (Nat×Option Bool)->Env->iD)(B:List (Nat×Option Bool))(e:Env)(w:World):Prop:=
  bif Hr n q.1 then
   match q.1.guard with
   | none=>tm P ops q.1 q.2 rec B e w
   | some g=>match Em ops g.1 with
    | none=>False
    | some s=>match lk s B with
     | some none=>skF q.1 rec B e w
     | some (some E)=>bif E == g.2 then tm P ops q.1 q.2 rec B e w else skF q.1 rec B e w
     | none=>Bl (e s)
       (bif g.2 then tm P ops q.1 q.2 rec ((s,some true)::B) (Ck e s (.bool true)) w else skF q.1 rec ((s,some true)::B) (Ck e s (.bool true)) w)
       (bif g.2 then skF q.1 rec ((s,some false)::B) (Ck e s (.bool false)) w else tm P ops q.1 q.2 rec ((s,some false)::B) (Ck e s (.bool false)) w)
  else False
def DR(P:Program)(n:Nat)(ops:List Oper):List (Oper×List Oper)->(Env->iD)->List (Nat×Option Bool)->Env->iD
 | [],Q,_,e,w=>Q e w
 | q::rest,Q,kg,e,w=>DS P n ops q (DR P n ops rest Q) kg e w
def Az{P:Program}{ops:List Oper}{o:Oper}{ks:List Oper}{rec:List (Nat×Option Bool)->Env->iD}{G:List (Nat×Option Bool)}{e:Env}{w:World}
  (B:lj G e) (h:tm P ops o ks rec G e w) :
  KC P (Cq P o (ev e)) (λv w'=>(w'=w\/∀r∈ks,wi P ops r (kr e o.dst v) w' True)/\∃E,lj E (kr e o.dst v)/\rec E (kr e o.dst v) w') w:=by
 unfold tm at h
 split at h
 .rename_i x hx
  have J:(Cq P o (ev e)).has P w (ev e x):=by
   unfold Cq
   cases ld:o.op<;>rw[ld]at hx<;>simp only[ajr]at hx<;>first|cases hx|skip
   case move y=>simp only[Hp.has]
   case assign y=>simp only[Hp.has]
   case pick c a b=>
    cases c<;>simp only at hx<;>first|cases hx|skip
    rename_i c
    split at hx
    .rename_i t ht
     cases hx
     have hc:e c=.bool t:=B c _ ht
     simp only[Hp.has,ev,hc,aad]
     cases t<;>rfl
    .cases hx
  exact KC.aae J ⟨.inl rfl,_,B.aft _ _,h⟩
 refine h.mono λv w' I=>?_
 have:=OQ I
 exact⟨.inr this.1,_,B.del _ _,this.2⟩
theorem Ms{P:Program}{n:Nat}{ops:List Oper}{q:Oper×List Oper}{rec:List (Nat×Option Bool)->Env->iD}{G:List (Nat×Option Bool)}{e:Env}{w:World}
  (B:lj G e) (h:DS P n ops q rec G e w) :
  (∀d,q.1.dst=some d->d<n)/\
  GO P ops q.1 (λV w'=>(w'=w\/∀r∈q.2,wi P ops r V w' True)/\∃I,lj I V/\rec I V w') e w:=by
 unfold DS at h
 cases hd:Hr n q.1 with
 | false=>grind
 | true=>
  rw[hd]at h
  refine⟨λd Y=>by unfold Hr at hd;simp_all,?_⟩
  have O:∀{G:List (Nat×Option Bool)},lj G e->skF q.1 rec G e w->
    (w=w\/∀r∈q.2,wi P ops r (kr e q.1.dst undef) w True)/\∃I,lj I (kr e q.1.dst undef)/\rec I (kr e q.1.dst undef) w:=
   λB h=>⟨.inl rfl,_,B.skip _,h⟩
  simp only[cond_true]at h
  unfold GO
  cases hg:q.1.guard with
  | none=>
   rw[hg]at h
   have U:pJ ops q.1 e=true:=by unfold pJ;rw[hg]
   rw[ez U]
   exact Az B h
  | some g=>
   obtain⟨j,b⟩:=g
   rw[hg]at h
   dsimp only at h
   cases hs:Em ops j with
   | none=>rw[hs]at h;exact h.elim
   | some s=>
    rw[hs]at h
    dsimp only at h
    have U:∀t,e s=.bool t->pJ ops q.1 e=(t == b):=λt ht=>by unfold pJ;rw[hg];dsimp only;rw[hs];dsimp only;rw[ht]
    cases hl:lk s G with
    | some Z=>
     rw[hl]at h
     cases Z with
     | none=>
      dsimp only at h
      have hu:pJ ops q.1 e=false:=by
       unfold pJ;rw[hg];dsimp only;rw[hs];dsimp only;rw[B s none hl];rfl
      rw[ew (by rw[hu];simp)]
      exact O B h
     | some W=>
      dsimp only at h
      rw[U W (B s _ hl)]
      cases hb:W == b with
      | true=>rw[hb]at h;rw[ez rfl];exact Az B h
      | false=>rw[hb]at h;rw[ew et];exact O B h
    | none=>
     rw[hl]at h
     obtain⟨t,ht,J,E⟩:=h.ex
     rw[U t ht]
     have M:∀c,t=c->Ck e s (.bool c)=e:=λc hc=>al5 _ _ _ (by rw[ht,hc])
     cases t with
     | true=>
      have J:=J rfl
      rw[M true rfl]at J
      cases b with
      | true=>rw[ez (by rfl)];exact Az (B.cons (b:=some _) ht) J
      | false=>rw[ew et];exact O (B.cons (b:=some _) ht) J
     | false=>
      have E:=E rfl
      rw[M false rfl]at E
      cases b with
      | true=>rw[ew et];exact O (B.cons (b:=some _) ht) E
      | false=>rw[ez (by rfl)];exact Az (B.cons (b:=some _) ht) E
theorem DR.list{r:Option Nat}{Z:List Nat}{P:Program}{n:Nat}{ops:List Oper}{Q:Env->iD}{W:Exit->Act->iD}{e0:Env}
  (hQ:∀e a w,jW Z n e a->(∀k,k ∉ wr ops->e k=e0 k)->Q e w->W .normal a w) :
  ∀(l:List Oper) (G:List (Nat×Option Bool)) (e:Env) (a:Act) (w:World),(∀o∈l,o∈ops)->jW Z n e a->(∀k,k ∉ wr ops->e k=e0 k)->lj G e->
   DR P n ops (l.map λo=>(o,[])) Q G e w->wpListIn (FO r) 0 P ops.toArray W l a w:=by
 intro l
 induction l with
 | nil=>intro G e a w _ B I _ h;exact hQ e a w B I h
 | cons o l Y=>
  intro G e a w V B I hk h
  obtain⟨U,E⟩:=Ms hk h
  obtain⟨i,hi⟩:=List.getElem?_of_mem (V o qs)
  have Sn:∀x∈l,x∈ops:=λx hx=>V x (so _ hx)
  unfold wpListIn
  rw[KD B]
  unfold GO at E
  split
  .rename_i hw
   rw[ez hw]at E
   exact KC.wp B E λv w' ⟨_,J,O,M⟩=>Y J _ _ w' Sn (B.put U v) (BG I hi v) O M
  .rename_i hw
   rw[ew hw]at E
   obtain⟨_,J,O,M⟩:=E
   exact⟨wh,Y J _ _ w Sn (B.put U undef) (BG I hi undef) O M⟩
def DR.region{r:Option Nat}{E:List Nat}{P:Program}{n:Nat}{id:Nat}{ops:List Oper}{Q:Env->iD}{G:Exit->Act->iD}{e:Env}{a:Act}{w:World}
  (I:jW E n e a) (J:∀B a w,jW E n B a->(∀k,k ∉ wr ops->B k=e k)->Q B w->G .normal a w)
  (h:DR P n ops (ops.map λo=>(o,[])) Q [] e w):(acM id ops.toArray false).wpIn (FO r) 0 P G a w:=
 wpIn_region_lit (DR.list J ops [] e a w (λ_ h=>h) I (λ_ _=>rfl) (lj.nil e) h)
def SK(P:Program)(o:Oper):Bool:=(Cq P o λ_=>undef).quiet
def Mt(P:Program)(o:Oper):Bool:=(Cq P o λ_=>undef).reads
theorem OR{P:Program}{o:Oper}(ρ ρ':Operand->Value):(Cq P o ρ).quiet=(Cq P o ρ').quiet/\(Cq P o ρ).reads=(Cq P o ρ').reads:=by
 unfold Cq
 cases o.op<;>try exact⟨rfl,rfl⟩
 case binOp op t x y u=>dsimp only;split<;>exact⟨rfl,rfl⟩
 case convert s d x=>dsimp only;split<;>exact⟨rfl,rfl⟩
 case call c=>
  dsimp only
  cases c.callee with
  | value x=>cases x<;>exact⟨rfl,rfl⟩
  | invoke r nm=>grind
  | builtin b=>cases b<;>dsimp only<;>first|exact⟨rfl,rfl⟩|(split<;>exact⟨rfl,rfl⟩)
def fE(d:Nat):List Nat->Bool
 | []=>false
 | x::r=>Dn x d||fE d r
theorem Cs{d:Nat}{l:List Nat}:fE d l=true↔d∈l:=by
 induction l with
 | nil=>simp[fE]
 | cons x r B=>
  simp only[fE,vo,B,ta]
  constructor
  .rintro(h|h)
   .simp_all
   grind
  .rintro(rfl|h)
   .simp_all
   grind
def Vj{d:Nat}{l:List Nat}:fE d l=false↔d ∉ l:=by
 rw[<- Cs];simp
def eqO(d:Nat):Option Nat->Bool|none=>false|some k=>Dn k d
theorem af8{d:Nat}{o:Option Nat}:eqO d o=true↔o=some d:=by
 cases o with
 | none=>simp[eqO]
 | some k=>simp_all[eqO]
def Mu(ops:List Oper)(x y:Oper):Bool:=match y.dst with|none=>true|some d=>!fE d (looks ops x)&&!eqO d x.dst
def Eo{ops:List Oper}{x y:Oper}(h:Mu ops x y=true):∀d,y.dst=some d->d ∉ looks ops x/\x.dst≠some d:=by
 intro d E
 unfold Mu at h
 rw[E]at h
 simp only[n3,sV]at h
 exact⟨Vj.1 h.1,λB=>by rw[<- af8]at B;grind⟩
def SL(ops:List Oper)(x y:Oper):Bool:=Mu ops y x&&Mu ops x y
def OS{ops:List Oper}{x y:Oper}(h:SL ops x y=true):aaf ops x y:=by
 simp only[SL,n3]at h
 exact⟨λd B=>Eo h.1 d B,λd B=>(Eo h.2 d B).1⟩
def Ep(f:Nat->Oper->Bool):Nat->List Oper->Bool
 | _,[]=>true
 | k,o::r=>f k o&&Ep f (k+1) r
theorem o8{f:Nat->Oper->Bool}{l:List Oper}:∀{k:Nat},Ep f k l=true->∀i o,l[i]?=some o->f (k+i) o=true:=by
 induction l with
 | nil=>grind
 | cons x r B=>
  grind[Ep]
def Gl:List Nat->Nat->Nat
 | [],_=>0
 | x::_,0=>x
 | _::r,n+1=>Gl r n
def KE(B:List Nat):List Nat->Nat
 | []=>0
 | p::r=>PA (PA (LS 1 p) (Gl B p)) (KE B r)
def KG(ops:List Oper)(B:List Nat):Bool:=
 Ep (λj o=>(pre o).all (λp=>abU p j)&&Dn (Gl B j) (KE B (pre o))) 0 ops
theorem X3{B l:List Nat}{i:Nat}(h:(KE B l).testBit i=true):∃p∈l,p=i\/(Gl B p).testBit i=true:=by
 induction l with
 | nil=>simp[KE]at h
 | cons p r G=>
  have E:(((1 <<< p) ||| Gl B p) ||| KE B r).testBit i=true:=h
  simp only[Wz,vo]at E
  rcases E with(E|E)|E
  .refine⟨p,et,.inl ?_⟩
   rw[TC,Rp]at E
   grind
  .grind
  grind
theorem KH{ops:List Oper}{B:List Nat}(h:KG ops B=true):∀(n j:Nat),j<n->j<ops.length->∀i,(Gl B j).testBit i=true->SJ ops j i:=by
 intro n
 induction n with
 | zero=>omega
 | succ n M=>
  intro j O hlen i hi
  obtain⟨o,G⟩:∃o,ops[j]?=some o:=⟨ops[j],by simp[hlen]⟩
  have:=o8 h j o G
  simp only[uf,n3,H4]at this
  obtain⟨h1,h2⟩:=this
  have h2:=P7 h2
  rw[h2]at hi
  obtain⟨p,I,E⟩:=X3 hi
  rcases E with rfl|E
  .exact .one G I
  .have J:p<j:=by simp_all
   exact .more G I (M p cU cU i E)
def bit(m i:Nat):Bool:=Nat.testBit m i
def KI(ops:List Oper)(y:Oper):Bool:=match y.dst with|none=>false|some d=>!fE d (looks ops y)
theorem SM{ops:List Oper}{y:Oper}(h:KI ops y=true):∃d,y.dst=some d/\d ∉ looks ops y:=by
 unfold KI at h
 cases hd:y.dst with
 | none=>grind
 | some d=>rw[hd]at h;exact⟨d,rfl,Vj.1 dH⟩
def aai(P:Program)(ops:List Oper)(B:List Nat)(m i:Nat)(ks:List Nat):Bool:=
 match ops[i]? with
 | none=>false
 | some o=>
  !bit m i&&((pre o).all (λp=>bit m p) &&
  (bif SK P o then
   Ep (λj y=>Dn j i||(bit m j||(fE i (pre y)||SL ops o y))) 0 ops
  else
   Ep (λj y=>Dn j i||(bit m j||!(pre y).all λp=>bit m p)) 0 ops &&
   (Ep (λr y=>!bit m r||(!Mt P y||(bit (Gl B i) r||fE r ks))) 0 ops &&
   ks.all (λr=>match ops[r]? with
    | none=>false
    | some y=>KI ops y&&Ep (λj z=>Dn j r||(bit (Gl B r) j||Mu ops y z)) 0 ops))))
inductive PT where
 | nil
 | stop
 | op (i:Nat) (ks:List Nat) (r:PT)
 | alt (i:Nat) (ks:List Nat) (r o:PT)
def PT.of:List (Nat×List Nat)->PT
 | []=>.nil
 | q::r=>.op q.1 q.2 (PT.of r)
def PT.ids:PT->List Nat
 | .alt i _ _ o=>i::o.ids
 | _=>[]
def PT.many:PT->Bool
 | .alt _ _ _ _=>true
 | .op _ _ r=>r.many
 | _=>false
def ajs(P:Program)(ops:List Oper)(B:List Nat)(m i:Nat)(ks:List Nat):Bool:=
 match ops[i]? with
 | none=>false
 | some o=>
  !bit m i&&((pre o).all (λp=>bit m p)&&(!SK P o&&(
   (Ep (λr y=>!bit m r||(!Mt P y||(bit (Gl B i) r||fE r ks))) 0 ops &&
   ks.all (λr=>match ops[r]? with
    | none=>false
    | some y=>KI ops y&&Ep (λj z=>Dn j r||(bit (Gl B r) j||Mu ops y z)) 0 ops)))))
def Vk(P:Program)(ops:List Oper)(B:List Nat):Bool->Nat->Nat->PT->Bool
 | c,f,m,.nil=>!c&&(Dn f 0&&Ep (λj _=>bit m j) 0 ops)
 | c,_,_,.stop=>c
 | c,f,m,.op i ks r=>!c&&(match f with|0=>false|E+1=>aai P ops B m i ks&&Vk P ops B false E (PA m (LS 1 i)) r)
 | c,f,m,.alt i ks r o=>(c||Ep (λj y=>bit m j||(!(pre y).all (λp=>bit m p)||fE j (i::o.ids))) 0 ops) &&
  ((match f with|0=>false|E+1=>ajs P ops B m i ks&&Vk P ops B false E (PA m (LS 1 i)) r)&&Vk P ops B true f m o)
def KJ(ops:List Oper):List Nat:=ops.foldl (λB o=>B++[KE B (pre o)]) []
def PT.run(k:Nat):Nat->PT
 | 0=>.nil
 | n+1=>.op k [] (PT.run (k+1) n)
def yO(ops:List Oper)(i:Nat):Oper:=(ops[i]?).getD default
def DT(P:Program)(n:Nat)(ops:List Oper):PT->(Env->iD)->List (Nat×Option Bool)->Env->iD
 | .nil,Q,_,e,w=>Q e w
 | .stop,_,_,_,_=>True
 | .op i ks r,Q,B,e,w=>DS P n ops (yO ops i,ks.map (yO ops)) (DT P n ops r Q) B e w
 | .alt i ks r o,Q,B,e,w=>DS P n ops (yO ops i,ks.map (yO ops)) (DT P n ops r Q) B e w/\DT P n ops o Q B e w
def DQ(P:Program)(ops:List Oper):PT->(Env->iD)->Env->iD
 | .nil,Q,e,w=>Q e w
 | .stop,_,_,_=>True
 | .op i ks r,Q,e,w=>GO P ops (yO ops i) (λB w'=>(w'=w\/∀r∈ks.map (yO ops),wi P ops r B w' True)/\DQ P ops r Q B w') e w
 | .alt i ks r o,Q,e,w=>GO P ops (yO ops i) (λB w'=>(w'=w\/∀r∈ks.map (yO ops),wi P ops r B w' True)/\DQ P ops r Q B w') e w/\DQ P ops o Q e w
theorem DT.plain{P:Program}{n:Nat}{ops:List Oper}{Q:Env->iD}:∀(p:PT) (B:List (Nat×Option Bool)) (e:Env) (w:World),lj B e->DT P n ops p Q B e w->DQ P ops p Q e w:=by
 intro p
 induction p with
 | nil=>intro B e w _ h;exact h
 | stop=>intro B e w _ _;trivial
 | op i ks p J=>intro B e w E h;exact(Ms E h).2.mono λv w' ⟨h1,G,h2,h3⟩=>⟨h1,J G _ _ h2 h3⟩
 | alt i ks p o J I=>intro B e w E h;exact⟨(Ms E h.1).2.mono λv w' ⟨h1,G,h2,h3⟩=>⟨h1,J G _ _ h2 h3⟩,I B e w E h.2⟩
structure Tk where
 idx:Nat
 o:Oper
 b:Bool
 X:Hp
 v:Value
structure Hs(P:Program)(ops:List Oper)(L:Nat->Bool)(T:List Tk)(e:Env):Prop where
 op:∀x∈T,ops[x.idx]?=some x.o
 listed:∀x∈T,L x.idx=true
 kind:∀x∈T,x.X.reads=Mt P x.o
 still:∀x∈T,x.X.reads=false->x.b=true->∀w,x.X.has P w x.v
 reads:∀x∈T,x.X.reads=true->(∀j z,ops[j]?=some z->j≠x.idx->SJ ops x.idx j\/Mu ops x.o z=true)->KI ops x.o=true->
  Cq P x.o (ev e)=x.X/\pJ ops x.o e=x.b/\∃d,x.o.dst=some d/\(x.b=true->e d=x.v)
def ST(P:Program)(ops:List Oper)(T:List Tk):Nat->iD:=λj w=>∀x∈T,SJ ops j x.idx\/(x.b=true->x.X.has P w x.v)
def Vl{m i:Nat}:(λk=>bit (PA m (LS 1 i)) k)=nc (λk=>bit m k) i:=by
 funext k
 show(m ||| 1 <<< i).testBit k=_
 rw[Wz,TC,Rp]
 grind[nc,bit]
theorem Hs.next{P:Program}{ops:List Oper}{L:Nat->Bool}{T:List Tk}{e:Env}(h:Hs P ops L T e)(O:Down ops L){i:Nat}{o:Oper}(ho:ops[i]?=some o)(hi:L i=false)(v:Value) :
  Hs P ops (nc L i) T (kr e o.dst v):=by
 refine⟨h.op,λx G=>Mq _ _ (h.listed x G),h.kind,h.still,λx G Y U M=>?_⟩
 obtain⟨h1,h2,d,V,h3⟩:=h.reads x G Y U M
 have Ay:i≠x.idx:=λW=>by have:=h.listed x G;grind
 have E:Mu ops x.o o=true:=by
  rcases U i o ho Ay with af6|E
  .have:L i=true:=af6.listed O λZ J p hp=>O x.idx Z (h.listed x G) J p hp
   grind
  omega
 have B:=Eo E
 refine⟨by rw[GN λk I=>(B k I).1];exact h1,by rw[Ax λk I=>(B k I).1];exact h2,d,V,λhb=>?_⟩
 have:=h3 hb
 cases hod:o.dst with
 | none=>exact this
 | some k=>
  have Vm:d≠k:=λW=>(B k hod).2 (by rw[V,W])
  simp only[kr,pH _ _ Vm]
  exact this
theorem OT{P:Program}{ops:List Oper}{I:List Nat}(hc:KG ops I=true){f m i:Nat}{ks:List Nat}{o:Oper}{T:List Tk}{e:Env}{w:World}{Q:Env->iD}{rec:Env->iD}
  (Z:ops[i]?=some o) (V:bit m i=false) (hL:Down ops (bit m)) (B:Hs P ops (bit m) T e)
  (BH:∀(r:Nat) (y:Oper),ops[r]?=some y->(!bit m r||(!Mt P y||(bit (Gl I i) r||fE r ks)))=true)
  (OU:∀r∈ks,(match ops[r]? with|none=>false|some y=>KI ops y&&Ep (λj z=>Dn j r||(bit (Gl I r) j||Mu ops y z)) 0 ops)=true)
  (gG:GO P ops o (λM w'=>(w'=w\/∀r∈ks.map (yO ops),wi P ops r M w' True)/\rec M w') e w)
  (W:∀v w',Hs P ops (nc (bit m) i) T (kr e o.dst v)->rec (kr e o.dst v) w'->WS P ops Q (ST P ops T) f (nc (bit m) i) (kr e o.dst v) w') :
  GO P ops o (λM w'=>(w'=w\/ST P ops T i w')/\WS P ops Q (ST P ops T) f (nc (bit m) i) M w') e w:=by
 refine gG.mono λv w' hh=>?_
 obtain⟨G,rp⟩:=hh
 have U:=B.next hL Z V v
 refine⟨?_,?_⟩
 .rcases G with hw|G
  .grind
  refine .inr λx E=>?_
  cases GQ:x.X.reads with
  | false=>exact .inr λhb=>B.still x E GQ hb w'
  | true=>
   have h1:=BH x.idx x.o (B.op x E)
   simp only[vo,sV]at h1
   rcases h1 with h1|h1|h1|h1
   .have:=B.listed x E;grind
   .have:=B.kind x E;grind
   .have SN:i<ops.length:=(j0.1 Z).1
    exact .inl (KH hc (i+1) i cU SN _ h1)
   .have Y:=Cs.1 h1
    have h2:=OU x.idx Y
    rw[B.op x E]at h2
    simp only[n3]at h2
    obtain⟨O,h2⟩:=h2
    have h2:=o8 h2
    have Vn:x.idx<ops.length:=(j0.1 (B.op x E)).1
    obtain⟨e1,e2,d,hd,e3⟩:=U.reads x E GQ (λk z hz Ay=>by
     have:=h2 k z hz
     simp only[uf,vo]at this
     rcases this with h3|h3|h3
     .simp_all
     .exact .inl (KH hc (x.idx+1) x.idx cU Vn _ h3)
     grind) O
    refine .inr λhb=>?_
    have J:=G x.o (List.mem_map.2 ⟨x.idx,Y,by simp[yO,B.op x E]⟩)
    unfold wi at J
    rw[e2,hb,e1,hd]at J
    simp only[cond_true]at J
    cases hX:x.X<;>rw[hX]at J GQ<;>first|grind|cases GQ|skip
    have:=J.aqs
    rw[e3 hb]at this
    exact this
 grind
theorem aga{P:Program}{ops:List Oper}{W:List Nat}{Q:Env->iD}(hc:KG ops W=true) :
  ∀(p:PT) (f m:Nat) (T:List Tk) (e:Env) (w:World),
   Down ops (bit m)->Hs P ops (bit m) T e->DQ P ops p Q e w->
   (Vk P ops W false f m p=true->WS P ops Q (ST P ops T) f (bit m) e w)/\
   (Vk P ops W true f m p=true->∀j∈p.ids,∃f',f=f'+1/\SH ops (bit m) j/\∀oj,ops[j]?=some oj->GO P ops oj (λY w'=>(w'=w\/ST P ops T j w')/\WS P ops Q (ST P ops T) f' (nc (bit m) j) Y w') e w):=by
 intro p
 induction p with
 | nil=>
  intro f m T e w U hT h
  refine⟨λB=>?_,λ_ j I=>by cases I⟩
  simp only[Vk,Oe,yx,n3]at B
  have qF:=o8 B.2
  rw[P7 B.1]
  refine⟨λi hr=>?_,h⟩
  obtain⟨h0,o,J,_⟩:=hr
  grind
 | stop=>
  intro f m T e w U hT h
  exact⟨λB=>by simp[Vk]at B,λ_ j I=>by cases I⟩
 | op i ks p ih=>
  intro f m T e w U hT h
  refine⟨λB=>?_,λ_ j I=>by cases I⟩
  simp only[Vk,Oe,yx]at B
  cases f with
  | zero=>cases B
  | succ f=>
   simp only[n3]at B
   obtain⟨G,B⟩:=B
   unfold aai at G
   cases J:ops[i]? with
   | none=>rw[J]at G;cases G
   | some o=>
   rw[J]at G
   simp only[n3,sV,H4]at G
   obtain⟨O,ama,G⟩:=G
   have hr:SH ops (bit m) i:=⟨O,o,J,ama⟩
   have eT:yO ops i=o:=by simp[yO,J]
   have V:GO P ops (yO ops i) (λY w'=>(w'=w\/∀r∈ks.map (yO ops),wi P ops r Y w' True)/\DQ P ops p Q Y w') e w:=h
   rw[eT]at V
   have Ka:(bit (PA m (LS 1 i)))=nc (bit m) i:=Vl
   have hL':Down ops (nc (bit m) i):=U.set hr
   cases hq:SK P o with
   | true=>
    rw[hq]at G
    simp only[cond_true]at G
    have Vh:=o8 G
    have hqq:∀ρ,(Cq P o ρ).quiet=true:=λρ=>by rw[(OR ρ λ_=>undef).1];exact hq
    obtain⟨b,v,hb,hn,hy,rp⟩:∃b v,pJ ops o e=b/\(b=false->v=undef)/\(b=true->(Cq P o (ev e)).has P w v)/\
      DQ P ops p Q (kr e o.dst v) w:=by
     unfold GO at V
     cases hb:pJ ops o e with
     | true=>
      rw[ez hb]at V
      obtain⟨v,hv,_,rp⟩:=V.has (hqq _)
      exact⟨true,v,rfl,et,λ_=>hv,rp⟩
     | false=>
      rw[ew (by rw[hb];simp)]at V
      obtain⟨_,rp⟩:=V
      exact⟨false,undef,rfl,λ_=>rfl,et,rp⟩
    refine WS.first (X:=Cq P o (ev e)) J hn f (bit m) e w U hr ?_ rfl hb hy ?_
    .intro j oj Z hji ay7 eT
     have:=Vh j oj Z
     simp only[uf,vo]at this
     rcases this with h1|h1|h1|h1
     .exact absurd (P7 h1) hji
     .rw[ay7]at h1;cases h1
     .exact absurd (Cs.1 h1) eT
     .exact OS h1
    .have hT':Hs P ops (nc (bit m) i) (⟨i,o,b,Cq P o (ev e),v⟩::T) (kr e o.dst v):=by
      have M:=hT.next U J O v
      constructor
      .intro x E;rcases ta.1 E with rfl|E
       .exact J
       .exact M.op x E
      .intro x E;rcases ta.1 E with rfl|E
       .exact X0 _ _
       .exact M.listed x E
      .intro x E;rcases ta.1 E with rfl|E
       .exact(OR _ _).2
       .exact M.kind x E
      .intro x E;rcases ta.1 E with rfl|E
       .intro h1 h2 w';exact Hp.XX h1 (hy h2)
       .exact M.still x E
      .intro x E;rcases ta.1 E with rfl|E
       .intro h1 h2 h3
        obtain⟨d,hd,hnl⟩:=SM h3
        dsimp only at hd hnl |-
        have hh:∀k,o.dst=some k->k ∉ looks ops o:=λk hk=>by rw[hd]at hk;cases hk;exact hnl
        refine⟨GN hh,by rw[Ax hh];exact hb,d,hd,λ_=>?_⟩
        rw[hd];exact oq _ _ _
       .exact M.reads x E
     have:=(ih f _ _ _ w (by rw[Ka];exact hL') (by rw[Ka];exact hT') rp).1 B
     rw[Ka]at this
     refine WS.weaken (λj w' I=>?_) _ _ _ _ this
     exact⟨λx E=>I x (so _ E),I _ qs⟩
   | false=>
    rw[hq]at G
    simp only[cond_false,n3,H4]at G
    obtain⟨aak,BH,OU⟩:=G
    have aak:=o8 aak
    have BH:=o8 BH
    refine⟨λeT=>absurd hr (eT i),λj oj Z I=>?_⟩
    have hji:j=i:=by
     have:=aak j oj Z
     simp only[uf,vo,sV]at this
     rcases this with h1|h1|h1
     .simp_all
     .have:=I.1;grind
     .obtain⟨_,o',ho',qF⟩:=I
      grind
    subst hji
    rw[J]at Z;cases Z
    refine OT hc J O U hT (λr y hy=>dH) OU V λv w' M rp=>?_
    grind
 | alt i ks p o' ih ih2=>
  intro f m T e w U hT h
  obtain⟨h1,h2⟩:GO P ops (yO ops i) (λY w'=>(w'=w\/∀r∈ks.map (yO ops),wi P ops r Y w' True)/\DQ P ops p Q Y w') e w/\DQ P ops o' Q e w:=h
  have chain:∀c,Vk P ops W c f m (.alt i ks p o')=true->∀j∈i::o'.ids,∃f',f=f'+1/\SH ops (bit m) j/\∀oj,ops[j]?=some oj->GO P ops oj (λY w'=>(w'=w\/ST P ops T j w')/\WS P ops Q (ST P ops T) f' (nc (bit m) j) Y w') e w:=by
   intro c B
   simp only[Vk,n3]at B
   obtain⟨_,B,hp2⟩:=B
   cases f with
   | zero=>cases B
   | succ f=>
    simp only[n3]at B
    obtain⟨G,B⟩:=B
    intro j I
    rcases ta.1 I with rfl|I
    .unfold ajs at G
     cases J:ops[j]? with
     | none=>rw[J]at G;cases G
     | some o=>
      rw[J]at G
      simp only[n3,sV,H4]at G
      obtain⟨O,ama,_,BH,OU⟩:=G
      have hr:SH ops (bit m) j:=⟨O,o,J,ama⟩
      refine⟨f,rfl,hr,λoj Z=>?_⟩
      cases Z
      have BH:=o8 BH
      have eT:yO ops j=o:=by simp[yO,J]
      rw[eT]at h1
      have V:=h1
      have Ka:(bit (PA m (LS 1 j)))=nc (bit m) j:=Vl
      have hL':Down ops (nc (bit m) j):=U.set hr
      refine OT hc J O U hT (λr y hy=>dH) OU V λv w' M rp=>?_
      grind
    .exact(ih2 (f+1) m T e w U hT h2).2 hp2 j I
  refine⟨λB=>?_,λB=>chain true B⟩
  have hch:=chain false B
  simp only[Vk,Bool.false_or,n3]at B
  have ay8:=o8 B.1
  obtain⟨f',rfl,hri,_⟩:=hch i qs
  refine⟨λeT=>absurd hri (eT i),λj oj Z I=>?_⟩
  have OV:j∈i::o'.ids:=by
   have:=ay8 j oj Z
   simp only[uf,vo,sV]at this
   rcases this with h3|h3|h3
   .have:=I.1;grind
   .obtain⟨_,o2,ZV,qF⟩:=I
    grind
   .exact Cs.1 h3
  obtain⟨f2,hf,_,V⟩:=hch j OV
  simp_all
structure yp(F:(iD)->Prop)(G:iD):Prop where
 ex:∃I:iD,F I/\∀w,I w->G w
structure Vo(B:(iD)->iD)(F:(iD)->Prop):Prop where
 ex:∃I:Nat->iD,(∃m,F (I m))/\∀m w,I m w->B (λw'=>∃m',m'<m/\I m' w') w
structure eW(F:(Value->iD)->Prop)(G:Value->iD):Prop where
 ex:∃I:Value->iD,F I/\∀x0 w,I x0 w->G x0 w
structure lE(B:(Value->iD)->Value->iD)(F:(Value->iD)->Prop):Prop where
 ex:∃I:Nat->Value->iD,(∃m,F (I m))/\∀m x0 w,I m x0 w->B (λy0 w'=>∃m',m'<m/\I m' y0 w') x0 w
structure Vp(F:(Value->Value->iD)->Prop)(G:Value->Value->iD):Prop where
 ex:∃I:Value->Value->iD,F I/\∀x0 x1 w,I x0 x1 w->G x0 x1 w
structure rq(B:(Value->Value->iD)->Value->Value->iD)(F:(Value->Value->iD)->Prop):Prop where
 ex:∃I:Nat->Value->Value->iD,(∃m,F (I m))/\∀m x0 x1 w,I m x0 x1 w->B (λy0 y1 w'=>∃m',m'<m/\I m' y0 y1 w') x0 x1 w
structure aqz(F:(Value->Value->Value->iD)->Prop)(G:Value->Value->Value->iD):Prop where
 ex:∃I:Value->Value->Value->iD,F I/\∀x0 x1 x2 w,I x0 x1 x2 w->G x0 x1 x2 w
structure ajw(B:(Value->Value->Value->iD)->Value->Value->Value->iD)(F:(Value->Value->Value->iD)->Prop):Prop where
 ex:∃I:Nat->Value->Value->Value->iD,(∃m,F (I m))/\∀m x0 x1 x2 w,I m x0 x1 x2 w->B (λy0 y1 y2 w'=>∃m',m'<m/\I m' y0 y1 y2 w') x0 x1 x2 w
structure aqA(F:(Value->Value->Value->Value->iD)->Prop)(G:Value->Value->Value->Value->iD):Prop where
 ex:∃I:Value->Value->Value->Value->iD,F I/\∀x0 x1 x2 x3 w,I x0 x1 x2 x3 w->G x0 x1 x2 x3 w
structure aqB(B:(Value->Value->Value->Value->iD)->Value->Value->Value->Value->iD)(F:(Value->Value->Value->Value->iD)->Prop):Prop where
 ex:∃I:Nat->Value->Value->Value->Value->iD,(∃m,F (I m))/\∀m x0 x1 x2 x3 w,I m x0 x1 x2 x3 w->B (λy0 y1 y2 y3 w'=>∃m',m'<m/\I m' y0 y1 y2 y3 w') x0 x1 x2 x3 w
structure aqC(F:(Value->Value->Value->Value->Value->iD)->Prop)(G:Value->Value->Value->Value->Value->iD):Prop where
 ex:∃I:Value->Value->Value->Value->Value->iD,F I/\∀x0 x1 x2 x3 x4 w,I x0 x1 x2 x3 x4 w->G x0 x1 x2 x3 x4 w
structure aqD(B:(Value->Value->Value->Value->Value->iD)->Value->Value->Value->Value->Value->iD)(F:(Value->Value->Value->Value->Value->iD)->Prop):Prop where
 ex:∃I:Nat->Value->Value->Value->Value->Value->iD,(∃m,F (I m))/\∀m x0 x1 x2 x3 x4 w,I m x0 x1 x2 x3 x4 w->B (λy0 y1 y2 y3 y4 w'=>∃m',m'<m/\I m' y0 y1 y2 y3 y4 w') x0 x1 x2 x3 x4 w
def Mv(i:Nat):List (Nat×Value)->Value->Value
 | [],d=>d
 | q::r,d=>bif Dn q.1 i then q.2 else Mv i r d
def Kb(e:Env)(M:Nat)(B:List (Nat×Value))(dead:Env):Env:=λi=>bif bit M i then Mv i B (dead i)else e i
def Ct(l:List Nat)(F:(Env->iD)->Prop)(G:List (Nat×Value)->iD):Prop:=
 match l with
 | []=>yp (λK=>F λe w=>K w) (λw=>G [] w)
 | [a0]=>eW (λK=>F λe w=>K (e a0) w) (λB w=>G [(a0,B)] w)
 | [a0,a1]=>Vp (λK=>F λe w=>K (e a0) (e a1) w) (λB E w=>G [(a0,B),(a1,E)] w)
 | [a0,a1,a2]=>aqz (λK=>F λe w=>K (e a0) (e a1) (e a2) w) (λB E I w=>G [(a0,B),(a1,E),(a2,I)] w)
 | [a0,a1,a2,J]=>aqA (λK=>F λe w=>K (e a0) (e a1) (e a2) (e J) w) (λB E I M w=>G [(a0,B),(a1,E),(a2,I),(J,M)] w)
 | [a0,a1,a2,J,O]=>aqC (λK=>F λe w=>K (e a0) (e a1) (e a2) (e J) (e O) w) (λB E I M U w=>G [(a0,B),(a1,E),(a2,I),(J,M),(O,U)] w)
 | _=>False
def Cu(l:List Nat)(B:(Env->iD)->List (Nat×Value)->iD)(e:Env)(w:World):Prop:=
 match l with
 | []=>Vo (λK w=>B (λE w'=>K w') [] w) (λK=>K w)
 | [a0]=>lE (λK G w=>B (λE w'=>K (E a0) w') [(a0,G)] w) (λK=>K (e a0) w)
 | [a0,a1]=>rq (λK G I w=>B (λE w'=>K (E a0) (E a1) w') [(a0,G),(a1,I)] w) (λK=>K (e a0) (e a1) w)
 | [a0,a1,a2]=>ajw (λK G I M w=>B (λE w'=>K (E a0) (E a1) (E a2) w') [(a0,G),(a1,I),(a2,M)] w) (λK=>K (e a0) (e a1) (e a2) w)
 | [a0,a1,a2,J]=>aqB (λK G I M O w=>B (λE w'=>K (E a0) (E a1) (E a2) (E J) w') [(a0,G),(a1,I),(a2,M),(J,O)] w) (λK=>K (e a0) (e a1) (e a2) (e J) w)
 | [a0,a1,a2,J,U]=>aqD (λK G I M O V w=>B (λE w'=>K (E a0) (E a1) (E a2) (E J) (E U) w') [(a0,G),(a1,I),(a2,M),(J,O),(U,V)] w) (λK=>K (e a0) (e a1) (e a2) (e J) (e U) w)
 | _=>False
def kc(l:List Nat)(e:Env):List (Nat×Value):=l.map λa=>(a,e a)
def Ct.spec{l:List Nat}{F:(Env->iD)->Prop}{G:List (Nat×Value)->iD}(h:Ct l F G) :
  ∃I:List (Nat×Value)->iD,F (λe w=>I (kc l e) w)/\∀(e:Env) w,I (kc l e) w->G (kc l e) w:=by
 unfold Ct at h
 split at h
 .obtain⟨I,h1,h2⟩:=h.ex
  exact⟨λ_ w=>I w,h1,λ_ w hi=>h2 w hi⟩
 .obtain⟨I,h1,h2⟩:=h.ex
  exact⟨λq w=>match q with|[B]=>I B.2 w|_=>False,h1,λe w hi=>h2 _ w hi⟩
 .obtain⟨I,h1,h2⟩:=h.ex
  exact⟨λq w=>match q with|[B,E]=>I B.2 E.2 w|_=>False,h1,λe w hi=>h2 _ _ w hi⟩
 .obtain⟨I,h1,h2⟩:=h.ex
  exact⟨λq w=>match q with|[B,E,J]=>I B.2 E.2 J.2 w|_=>False,h1,λe w hi=>h2 _ _ _ w hi⟩
 .obtain⟨I,h1,h2⟩:=h.ex
  exact⟨λq w=>match q with|[B,E,J,M]=>I B.2 E.2 J.2 M.2 w|_=>False,h1,λe w hi=>h2 _ _ _ _ w hi⟩
 .obtain⟨I,h1,h2⟩:=h.ex
  exact⟨λq w=>match q with|[B,E,J,M,O]=>I B.2 E.2 J.2 M.2 O.2 w|_=>False,h1,λe w hi=>h2 _ _ _ _ _ w hi⟩
 grind
def Cu.spec{l:List Nat}{B:(Env->iD)->List (Nat×Value)->iD}{e:Env}{w:World}(h:Cu l B e w) :
  ∃I:Nat->List (Nat×Value)->iD,(∃m,I m (kc l e) w)/\
   ∀m e w,I m (kc l e) w->B (λU w'=>∃O,O<m/\I O (kc l U) w') (kc l e) w:=by
 unfold Cu at h
 split at h
 .obtain⟨I,⟨m,h1⟩,h2⟩:=h.ex
  exact⟨λm _ w=>I m w,⟨m,h1⟩,λm _ w hi=>h2 m w hi⟩
 .obtain⟨I,⟨m,h1⟩,h2⟩:=h.ex
  exact⟨λm q w=>match q with|[E]=>I m E.2 w|_=>False,⟨m,h1⟩,λm e w hi=>h2 m _ w hi⟩
 .obtain⟨I,⟨m,h1⟩,h2⟩:=h.ex
  exact⟨λm q w=>match q with|[E,G]=>I m E.2 G.2 w|_=>False,⟨m,h1⟩,λm e w hi=>h2 m _ _ w hi⟩
 .obtain⟨I,⟨m,h1⟩,h2⟩:=h.ex
  exact⟨λm q w=>match q with|[E,G,J]=>I m E.2 G.2 J.2 w|_=>False,⟨m,h1⟩,λm e w hi=>h2 m _ _ _ w hi⟩
 .obtain⟨I,⟨m,h1⟩,h2⟩:=h.ex
  exact⟨λm q w=>match q with|[E,G,J,M]=>I m E.2 G.2 J.2 M.2 w|_=>False,⟨m,h1⟩,λm e w hi=>h2 m _ _ _ _ w hi⟩
 .obtain⟨I,⟨m,h1⟩,h2⟩:=h.ex
  exact⟨λm q w=>match q with|[E,G,J,M,V]=>I m E.2 G.2 J.2 M.2 V.2 w|_=>False,⟨m,h1⟩,λm e w hi=>h2 m _ _ _ _ _ w hi⟩
 grind
def aal(m d:Nat):Nat:=PA m (LS 1 d)
def aqE(m d:Nat):Nat:=bif bit m d then Nat.sub m (LS 1 d)else m
def BI:List Nat->Nat
 | []=>0
 | d::r=>aal (BI r) d
def y9:List Operand->Nat->Nat
 | [],m=>m
 | .tmp t::r,m=>aal (y9 r m) t
 | _::r,m=>y9 r m
def lkX(id:Nat):List (Nat×Nat)->Nat
 | []=>0
 | q::r=>bif Dn q.1 id then q.2 else lkX id r
def aam:List Oper->Nat->Nat
 | [],lo=>lo
 | o::r,lo=>y9 o.op.operands.toList (match o.dst with|some d=>aqE (aam r lo) d|none=>aam r lo)
def aqF:List Nat->Nat->Nat
 | [],m=>m
 | d::r,m=>aqF r (aqE m d)
def li(rl:Nat):Code->List (Nat×Nat)->Nat->Nat
 | .skip,_,lo=>lo
 | .ret,_,_=>rl
 | .exit id,X,_=>lkX id X
 | .region _ ops _,_,lo=>aam ops.toList lo
 | .seq a b,X,lo=>li rl a X (li rl b X lo)
 | .cond c a b,X,lo=>y9 [c] (PA (li rl a X lo) (li rl b X lo))
 | .block id c,X,lo=>li rl c ((id,lo)::X) lo
 | .loop c,X,_=>li rl c X (li rl c X 0)
 | .rangeFunc g ps a b,X,lo=>y9 [g] (PA lo (aqF ps.toList (li rl a X (li rl b X lo))))
 | _,_,_=>0
def gg:Code->Bool
 | .seq a b=>gg a||gg b
 | .cond _ a b=>gg a||gg b
 | .block _ c=>gg c
 | .loop c=>gg c
 | .rangeFunc _ _ _ _=>true
 | _=>false
def jr:Code->Nat
 | .region _ ops _=>BI (wr ops.toList)
 | .seq a b=>PA (jr a) (jr b)
 | .cond _ a b=>PA (jr a) (jr b)
 | .block _ c=>jr c
 | .loop c=>jr c
 | _=>0
def guarded:List Oper->Bool
 | []=>false
 | o::r=>o.guard.isSome||guarded r
def agb(a b:Nat):Nat:=Nat.add a b
mutual
def exC(id:Nat):Code->Nat
 | .exit k=>bif Dn k id then 1 else 0
 | .seq a b=>bif Dn (nxC a) 0 then exC id a else agb (exC id a) (exC id b)
 | .cond _ a b=>agb (exC id a) (exC id b)
 | .block _ c=>exC id c
 | .loop c=>exC id c
 | .rangeFunc _ _ _ b=>exC id b
 | _=>0
def nxC:Code->Nat
 | .skip=>1
 | .region _ ops _=>bif guarded ops.toList then 2 else 1
 | .seq a b=>bif Dn (nxC a) 0 then 0 else nxC b
 | .cond _ a b=>agb (nxC a) (nxC b)
 | .block id c=>agb (nxC c) (exC id c)
 | .rangeFunc _ _ _ _=>1
 | _=>0
end
def ic(m:Nat):Nat->Nat->List Nat
 | 0,_=>[]
 | f+1,i=>bif bit m i then i::ic m f (i+1)else ic m f (i+1)
abbrev Gm:=Exit->List Nat->Env->iD
def uT(K:List Nat->Env->iD)(Q:Gm):Gm
 | .normal,B,e,w=>K B e w
 | x,B,e,w=>Q x B e w
def aan(id:Nat)(Q:Gm):Gm
 | .exit k,B,e,w=>bif Dn k id then Q .normal B e w else Q (.exit k) B e w
 | x,B,e,w=>Q x B e w
def aao(K:Option Code->iD):Gm
 | .normal,_,_,w=>K none w
 | .ret,_,_,w=>K (some .ret) w
 | .exit id,_,_,w=>K (some (.exit id)) w
 | _,_,_,_=>False
def aft(N R:Nat->iD)(X:Nat->Nat->iD):Option Code->Nat->iD
 | none=>N
 | some .ret=>R
 | some (.exit id)=>X id
 | _=>λ_ _=>False
def outs:List Nat->Code->Bool
 | l,.exit id=>!(l.any λk=>Dn k id)
 | l,.seq a b=>outs l a||outs l b
 | l,.cond _ a b=>outs l a||outs l b
 | l,.block id c=>outs (id::l) c
 | l,.loop c=>outs l c
 | _,_=>false
def Ht:List Value->Nat->Value
 | [],_=>undef
 | v::_,0=>v
 | _::r,k+1=>Ht r k
def KK(args:List Value):List Nat->Nat->Env->Env
 | [],_,e=>e
 | p::r,k,e=>KK args r (k+1) (Ck e p (Ht args k))
def mu(B:List Nat):Value:=.tuple (B.map fun (D:Nat)=>n5 .u64 (D:Int)).toArray
def amb:Value->Nat
 | .int _ n=>n.toNat
 | _=>0
def Cv:Value->List Nat
 | .tuple vs=>vs.toList.map amb
 | _=>[]
theorem Er(B:List Nat):Cv (mu B)=B:=by
 show(B.map fun (D:Nat)=>n5 .u64 (D:Int)).map amb=B
 rw[List.map_map]
 conv=>rhs;rw[<- List.map_id B]
 exact C2 λD _=>by simp[amb]
structure Cw(P:Program)(fv:Value)(np:Nat)(w:World)(round:List Value->World->(World->(iD)->Prop)->(Option Code->iD)->Prop)(after:Option Code->Nat->iD):Prop where
 ex:∃gf cap,fv=.func (.func gf) #[] cap/\Plain P gf/\∀L0:Loop,L0.state=.ready->L0.pending=none->
  (∀(args:List Value) (W:World) (K:Value->iD),args.length=np->W.heap[w.heap.size+1]?=some (.loop L0)->
   round args W (λw1 k=>w1.heap[w.heap.size+1]?=some (.loop L0)/\k (w1.putObj (w.heap.size+1) (.loop {L0 with state:=.busy})))
    (λj W'=>W'.heap[w.heap.size+1]?=some (.loop {L0 with state:=.busy})/\K (.bool j.isNone) (W'.putObj (w.heap.size+1) (.loop {L0 with state:=if j.isNone then .ready else .done,pending:=j})))->
   YieldAt (FO none) 0 P (w.heap.size+1) args.toArray W (rZ K))->
  Calls P gf (#[.func (.yield (w.heap.size+1)) #[] #[]]++cap) ((w.alloc (.deferred (some []))).alloc (.loop L0))
   (rZ λ_ W2=>∃st j,st≠.busy/\W2.heap[w.heap.size+1]?=some (.loop {L0 with state:=st,pending:=j})/\after j w.heap.size (W2.putObj (w.heap.size+1) (.loop {L0 with state:=.exhausted,pending:=j})))
abbrev dM:=Nat->PT
def OW(pl:dM):Code->Bool
 | .region id _ true=>(pl id).many
 | .block _ c=>OW pl c
 | .seq a b=>OW pl a||OW pl b
 | .cond _ a b=>OW pl a||OW pl b
 | _=>false
def drew(w:World):World:={w with drawn:=w.drawn+1}
def D(P:Program)(n:Nat)(pl:dM)(rl:Nat):Code->List (Nat×Nat)->Nat->Gm->List Nat->Env->iD
 | .skip,_,_,Q,E,e,w=>Q .normal E e w
 | .ret,_,_,Q,E,e,w=>Q .ret E e w
 | .exit id,_,_,Q,E,e,w=>Q (.exit id) E e w
 | .region _ ops false,_,_,Q,E,e,w=>DR P n ops.toList (ops.toList.map λo=>(o,[])) (Q .normal E) [] e w
 | .region id ops true,_,_,Q,E,e,w=>
  bif ops.toList.all (Hr n)&&(KG ops.toList (KJ ops.toList)&&Vk P ops.toList (KJ ops.toList) false ops.toList.length 0 (pl id))then
   DT P n ops.toList (pl id) (Q .normal E) [] e (drew w)
  else False
 | .seq a b,X,lo,Q,E,e,w=>
  bif TK (nxC a) 1&&!OW pl a then D P n pl rl a X (li rl b X lo) (uT (D P n pl rl b X lo Q) Q) E e w
  else bif gg a then Ct (n::ic (I4 (jr a) (li rl b X lo)) n 0)
   (λK=>D P n pl rl a X (li rl b X lo) (uT (λE e w=>K (Ck e n (mu E)) w) Q) E e w)
   (λG w'=>∀dead,D P n pl rl b X lo Q (Cv (Mv n G undef)) (Kb e (jr a) G.tail dead) w')
  else Ct (ic (I4 (jr a) (li rl b X lo)) n 0)
   (λK=>D P n pl rl a X (li rl b X lo) (uT (λ_ e w=>K e w) Q) E e w)
   (λG w'=>∀dead,D P n pl rl b X lo Q E (Kb e (jr a) G dead) w')
 | .cond c a b,X,lo,Q,E,e,w=>Bl (ev e c) (D P n pl rl a X lo Q E e w) (D P n pl rl b X lo Q E e w)
 | .block id c,X,lo,Q,E,e,w=>D P n pl rl c ((id,lo)::X) lo (aan id Q) E e w
 | .loop c,X,_,Q,E,e,w=>
  bif gg c then Cu (n::ic (I4 (jr c) (li rl c X (li rl c X 0))) n 0)
   (λK G w=>∀dead,D P n pl rl c X (li rl c X (li rl c X 0)) (uT (λE e w=>K (Ck e n (mu E)) w) Q) (Cv (Mv n G undef)) (Kb e (jr c) G.tail dead) w) (Ck e n (mu E)) w
  else Cu (ic (I4 (jr c) (li rl c X (li rl c X 0))) n 0)
   (λK G w=>∀dead,D P n pl rl c X (li rl c X (li rl c X 0)) (uT (λ_ e w=>K e w) Q) E (Kb e (jr c) G dead) w) e w
 | .rangeFunc g ps asx bd,_,_,Q,E,e,w=>
  bif ps.toList.all (λp=>abU p n)&&(!gg asx&&!gg bd)then
   Cw P (ev e g) ps.toList.length w
    (λargs W B K=>D P n pl 0 asx [] (li 0 bd [] 0) (uT (λI e1 J=>B J λM=>D P n pl 0 bd [] 0 (aao K) I e1 M) λ_ _ _ _=>False) [] (KK args ps.toList 0 e) W)
    (aft (λD w=>Q .normal (D::E) e w) (λD w=>Q .ret (D::E) e w) (bif outs [] bd then(λid D w=>Q (.exit id) (D::E) e w) elseλ_ _ _=>False))
  else False
 | _,_,_,_,_,_,_=>False
theorem aap{m d i:Nat}:bit (aal m d) i=(bit m i||decide (i=d)):=by
 show(m ||| 1 <<< d).testBit i=_
 rw[Wz,TC,Rp]
 unfold bit
 grind
theorem SO{l:List Nat}{i:Nat}:bit (BI l) i=true↔i∈l:=by
 induction l with
 | nil=>simp[BI,bit]
 | cons d r B=>simp only[BI,aap,vo,B,decide_eq_true_eq,ta];grind
theorem SP{l:List Nat}{e:Env}{i:Nat}:Mv i (kc l e) (e i)=e i:=by
 induction l with
 | nil=>rfl
 | cons a r B=>
  show(bif Dn a i then e a else Mv i (kc r e) (e i))=e i
  by_cases h:a=i
  .grind
  .rw[En h];exact B
theorem AA{e B:Env}{M:Nat}{l:List Nat}(h:∀i,bit M i=false->B i=e i):Kb e M (kc l B) B=B:=by
 funext i
 unfold Kb
 cases hb:bit M i with
 | true=>simp only[cond_true];exact SP
 | false=>grind
theorem OX{m:Nat}:∀(f i k:Nat),k∈ic m f i->k<i+f:=by
 intro f
 induction f with
 | zero=>intro i k h;cases h
 | succ f B=>
  grind[ic]
theorem SQ{l:List Nat}{n:Nat}{v:Value}{e:Env}(h:∀k∈l,k<n):kc l (Ck e n v)=kc l e:=
 C2 λk B=>by rw[pH _ _ (Nat.ne_of_lt (h k B))]
theorem KL{l:List Nat}{n:Nat}{B:List Nat}{e:Env}(h:∀k∈l,k<n):kc (n::l) (Ck e n (mu B))=(n,mu B)::kc l e:=by
 show(n,Ck e n (mu B) n)::kc l (Ck e n (mu B))=_
 rw[oq,SQ h]
theorem Vq{m n:Nat}:∀k∈ic m n 0,k<n:=λk B=>by have:=OX n 0 k B;omega
def wj(n:Nat)(M:Nat)(b:Bool)(I:List Nat)(e:Env)(Q:Gm):Exit->Act->iD:=
 λx G w'=>∃E B,jW E n B G/\(∀i,bit M i=false->B i=e i)/\(b=false->E=I)/\Q x E B w'
theorem least{p:Nat->Prop}(h:∃m,p m):∃m,p m/\∀k,p k->m<=k:=by
 obtain⟨m,B⟩:=h
 induction m using Nat.strongRecOn with
 | _ m E=>
  grind
theorem Mw{n:Nat}{args:List Value}:∀(ps:List Nat) (k:Nat) (e:Env) (a:Act),(∀p∈ps,p<n)->jW [] n e a->k+ps.length<=args.length->
  jW [] n (KK args ps k e) {a with tmps:=(ps.zip (args.drop k)).foldl (λt (q:Nat×Value)=>t.setIfInBounds q.1 q.2) a.tmps}:=by
 intro ps
 induction ps with
 | nil=>simp_all[Env,KK]
 | cons p ps J=>
  intro k e a M G I
  have E:k<args.length:=dH
  have O:args.drop k=Ht args k::args.drop (k+1):=by
   rw[List.drop_eq_getElem_cons E]
   congr 1
   clear J G I M
   induction args generalizing k with
   | nil=>simp at E
   | cons v r B=>cases k with
    | zero=>rfl
    | succ k=>exact B k dH
  rw[O]
  have h1:=G.put (d:=some p) (λk I=>by simp_all) (Ht args k)
  exact J (k+1) _ _ (λq U=>M q (so _ U)) h1 dH
theorem aaq{P:Program}{n:Nat}{pl:dM}{g:Operand}{ps:Array Tmp}{asx bd:Code}
  (ihA:∀(r:Option Nat) (rl:Nat) (X:List (Nat×Nat)) (lo:Nat) (Q:Gm) (E:List Nat) (e:Env) (a:Act) (w:World),
   (r=none\/gg asx=false)->jW E n e a->D P n pl rl asx X lo Q E e w->asx.wpIn (FO r) 0 P (wj n (jr asx) (gg asx) E e Q) a w)
  (ihB:∀(r:Option Nat) (rl:Nat) (X:List (Nat×Nat)) (lo:Nat) (Q:Gm) (E:List Nat) (e:Env) (a:Act) (w:World),
   (r=none\/gg bd=false)->jW E n e a->D P n pl rl bd X lo Q E e w->bd.wpIn (FO r) 0 P (wj n (jr bd) (gg bd) E e Q) a w)
  (rl:Nat) (X:List (Nat×Nat)) (lo:Nat) (Q:Gm) (E:List Nat) (e:Env) (a:Act) (w:World) (O:jW E n e a) (h:D P n pl rl (.rangeFunc g ps asx bd) X lo Q E e w) :
  (Code.rangeFunc g ps asx bd).wpIn (FO none) 0 P (wj n 0 true E e Q) a w:=by
 have h':(bif ps.toList.all (λp=>abU p n)&&(!gg asx&&!gg bd)then
  Cw P (ev e g) ps.toList.length w
   (λargs W B K=>D P n pl 0 asx [] (li 0 bd [] 0) (uT (λM e1 w1=>B w1 λw2=>D P n pl 0 bd [] 0 (aao K) M e1 w2) λ_ _ _ _=>False) [] (KK args ps.toList 0 e) W)
   (aft (λD w=>Q .normal (D::E) e w) (λD w=>Q .ret (D::E) e w) (bif outs [] bd then(λid D w=>Q (.exit id) (D::E) e w) elseλ_ _ _=>False))
  else False):=h
 cases hc:(ps.toList.all (λp=>abU p n)&&(!gg asx&&!gg bd))with
 | false=>grind
 | true=>
  rw[hc]at h'
  simp only[cond_true]at h'
  simp only[n3,sV]at hc
  obtain⟨hps,hA,hB⟩:=hc
  have azb:∀p∈ps.toList,p<n:=λp Y=>Nat.blt_eq▸H4.1 hps p Y
  obtain⟨gf,cap,hfv,mM,OY⟩:=h'.ex
  refine wpIn_rangeFunc λfn _=>?_
  let Z:Loop:={state:=.ready,pending:=none,fn,tmps:=a.tmps,params:=ps,assign:=asx,body:=bd,defers:=w.heap.size}
  have hY:=OY Z rfl rfl (λargs W K hlen hl Hu=>?_)
  .have hC:=hY.mono (R':=rangePost (FO none) 0 P (w.heap.size+1) (wj n 0 true E e Q) {a with defers:=[{target:=.collected w.heap.size,args:=#[]}]++a.defers}) (λx w3 hx=>?_)
   .have hC1:=(BF (r:=none) (n:=0)).2 hC
    refine⟨w.heap.size+1,[{target:=.collected w.heap.size,args:=#[]}],(w.alloc (.deferred (some []))).alloc (.loop Z),
     {target:=.fn (.func gf) cap,args:=#[.func (.yield (w.heap.size+1)) #[] #[]]},(w.alloc (.deferred (some []))).alloc (.loop Z),gf,#[.func (.yield (w.heap.size+1)) #[] #[]]++cap,
     (w.alloc (.deferred (some []))).alloc (.loop Z),run_enterLoop_outer ..,?_,λ_ _=>trivial,?_,Ho,?_⟩
    rotate_left 2
    .exact hC1
    .have hg:a.eval g=.func (.func gf) #[] cap:=by rw[O.eval];exact hfv
     simp only[resolve,hg]
     simp[go_sem]
    .show(callFunc gf (#[.func (.yield (w.heap.size+1)) #[] #[]]++cap)).run P _=_
     exact Cp mM _ _
   ·
    obtain⟨v,rfl,st,j,gG,hl3,I⟩:=hx
    refine⟨j,_,run_endLoop hl3 cU,?_⟩
    have G:jW (w.heap.size::E) n e {a with defers:=[{target:=.collected w.heap.size,args:=#[]}]++a.defers}:=⟨by rw[O.defers];rfl,O.size,O.get⟩
    cases j with
    | none=>exact⟨_,e,G,λ_ _=>rfl,λU=>(by cases U),I⟩
    | some c=>
     cases c with
     | ret=>exact wpIn_ret ⟨_,e,G,λ_ _=>rfl,λU=>(by cases U),I⟩
     | exit id=>
       have OD:(bif outs [] bd then(λid D w=>Q (.exit id) (D::E) e w) elseλ_ _ _=>False:Nat->Nat->iD) id w.heap.size _:=I
       cases ho:outs [] bd with
       | true=>rw[ho]at OD;exact wpIn_exit ⟨_,e,G,λ_ _=>rfl,λU=>(by cases U),OD⟩
       | false=>grind
     | _=>exact I.elim
  ·
   have l6:w.heap.size+1<W.heap.size:=(Gu.1 hl).1
   refine⟨fn,_,asx,bd,run_yield hl cU,roundIn_of_wpIn trivial ?_⟩
   have G:jW [] n (KK args ps.toList 0 e) {tmps:=(ps.zip args.toArray).foldl (λt (q:Nat×Value)=>t.setIfInBounds q.1 q.2) a.tmps,defers:=[]}:=by
    have h0:jW [] n e {tmps:=a.tmps,defers:=[]}:=⟨rfl,O.size,O.get⟩
    have:=Mw ps.toList 0 e _ azb h0 (by simpa using zU hlen.symm)
    have e1:(ps.zip args.toArray).foldl (λt (q:Nat×Value)=>t.setIfInBounds q.1 q.2) a.tmps=(ps.toList.zip (args.drop 0)).foldl (λt (q:Nat×Value)=>t.setIfInBounds q.1 q.2) a.tmps:=by
     rw[<- W8,Array.toList_zip];simp
    grind
   refine wpIn_mono (ihA (some (w.heap.size+1)) 0 [] _ _ [] _ _ W (.inr hA) G Hu) λx a1 w1 Y=>?_
   obtain⟨M,e1,ha1,_,hd1,J⟩:=Y
   cases x with
   | normal=>
    obtain⟨hl1,J⟩:=J
    refine⟨_,run_beginRound hl1 rfl,?_⟩
    refine wpIn_mono (ihB (some (w.heap.size+1)) 0 [] _ _ M e1 a1 _ (.inr hB) ha1 J) λx a2 w2 Y=>?_
    obtain⟨ds2,e2,Gn,_,_,J⟩:=Y
    cases x with
    | normal=>obtain⟨V,I⟩:=J;exact⟨_,_,run_endRound none V,_,rfl,I⟩
    | ret=>obtain⟨V,I⟩:=J;exact⟨_,_,run_endRound (some .ret) V,_,rfl,I⟩
    | exit id=>obtain⟨V,I⟩:=J;exact⟨_,_,run_endRound (some (.exit id)) V,_,rfl,I⟩
    | _=>exact J.elim
   | _=>exact J.elim
theorem age{P:Program}{n:Nat}{pl:dM}(hm:P.follows .mixedOrders=true) :
  ∀(c:Code) (r:Option Nat) (rl:Nat) (X:List (Nat×Nat)) (lo:Nat) (Q:Gm) (B:List Nat) (e:Env) (a:Act) (w:World),
   (r=none\/gg c=false)->jW B n e a->D P n pl rl c X lo Q B e w->c.wpIn (FO r) 0 P (wj n (jr c) (gg c) B e Q) a w:=by
 intro c
 induction c with
 | skip=>intro r rl X lo Q B e a w _ W h;exact wpIn_skip ⟨B,e,W,λ_ _=>rfl,λ_=>rfl,h⟩
 | ret=>intro r rl X lo Q B e a w _ W h;exact wpIn_ret ⟨B,e,W,λ_ _=>rfl,λ_=>rfl,h⟩
 | exit id=>intro r rl X lo Q B e a w _ W h;exact wpIn_exit ⟨B,e,W,λ_ _=>rfl,λ_=>rfl,h⟩
 | region id ops draw=>
  intro r rl X lo Q B e a w _ W h
  have hQ:∀(E:Env) (M:Act) (w':World),jW B n E M->(∀k,k ∉ wr ops.toList->E k=e k)->Q .normal B E w'->wj n (jr (.region id ops draw)) (gg (.region id ops draw)) B e Q .normal M w':=
   λE M w' J8 Y hq=>by
    refine⟨B,E,J8,λi hi=>Y i λOV=>?_,λ_=>rfl,hq⟩
    have h1:bit (BI (wr ops.toList)) i=true:=SO.2 OV
    have h2:bit (BI (wr ops.toList)) i=false:=hi
    grind
  cases draw with
  | false=>
   have:=DR.region (r:=r) (id:=id) W hQ (show DR P n ops.toList (ops.toList.map λo=>(o,[])) (Q .normal B) [] e w from h)
   omega
  | true=>
   have Z:(bif ops.toList.all (Hr n)&&(KG ops.toList (KJ ops.toList)&&Vk P ops.toList (KJ ops.toList) false ops.toList.length 0 (pl id))then
    DT P n ops.toList (pl id) (Q .normal B) [] e (drew w)else False):=h
   cases hc:(ops.toList.all (Hr n)&&(KG ops.toList (KJ ops.toList)&&Vk P ops.toList (KJ ops.toList) false ops.toList.length 0 (pl id)))with
   | false=>grind
   | true=>
    rw[hc]at Z
    simp only[n3]at hc
    obtain⟨h2,h3,h4⟩:=hc
    have hd:∀d∈wr ops.toList,d<n:=λd hd=>by
     obtain⟨o,ho,hod⟩:=Tn.1 hd
     have:=H4.1 h2 o ho
     unfold Hr at this
     simp_all
    have hz:(bit 0)=λ_=>false:=by funext i;simp[bit]
    have hws:=(aga (Q:=Q .normal B) h3 (pl id) ops.toList.length 0 [] e (drew w) (λi o hi=>dH) (by constructor<;>simp) (DT.plain _ _ _ _ (lj.nil e) Z)).1 h4
    rw[hz]at hws
    have:=WS.region (r:=r) (id:=id) hm hd W hQ hws
    omega
 | seq c1 U ih1 ih2=>
  intro r rl X lo Q B e a w hr W h
  have Kc:r=none\/gg c1=false:=hr.imp id λh=>by grind[gg]
  have GS:r=none\/gg U=false:=hr.imp id λh=>by grind[gg]
  have key:∀(K:List Nat->Env->iD),D P n pl rl c1 X (li rl U X lo) (uT K Q) B e w->
    (∀G E M w',jW G n E M->(∀i,bit (jr c1) i=false->E i=e i)->(gg c1=false->G=B)->K G E w'->U.wpIn (FO r) 0 P (wj n (jr U) (gg U) G E Q) M w')->
    (Code.seq c1 U).wpIn (FO r) 0 P (wj n (jr (.seq c1 U)) (gg (.seq c1 U)) B e Q) a w:=by
   intro K hK hk
   refine wpIn_seq (wpIn_mono (ih1 r rl X _ _ B e a w Kc W hK) λx M w' hp=>?_)
   obtain⟨G,E,J8,Y,O,hq⟩:=hp
   have hor:∀i,bit (jr (.seq c1 U)) i=false->bit (jr c1) i=false/\bit (jr U) i=false:=λi hi=>by
    simp_all[bit,jr]
   have hrf:gg (.seq c1 U)=false->gg c1=false/\gg U=false:=λhh=>by
    grind[gg]
   cases x with
   | normal=>
    refine wpIn_mono (hk G E M w' J8 Y O hq) λx2 a2 w2 hp2=>?_
    grind[wj,jr,gg]
   | _=>exact⟨G,E,J8,λi hi=>Y i (hor i hi).1,λhh=>O (hrf hh).1,hq⟩
  have Z:(bif TK (nxC c1) 1&&!OW pl c1 then D P n pl rl c1 X (li rl U X lo) (uT (D P n pl rl U X lo Q) Q) B e w
   else bif gg c1 then Ct (n::ic (I4 (jr c1) (li rl U X lo)) n 0)
    (λK=>D P n pl rl c1 X (li rl U X lo) (uT (λB e w=>K (Ck e n (mu B)) w) Q) B e w)
    (λbs w'=>∀dead,D P n pl rl U X lo Q (Cv (Mv n bs undef)) (Kb e (jr c1) bs.tail dead) w')
   else Ct (ic (I4 (jr c1) (li rl U X lo)) n 0)
    (λK=>D P n pl rl c1 X (li rl U X lo) (uT (λ_ e w=>K e w) Q) B e w)
    λbs w'=>∀dead,D P n pl rl U X lo Q B (Kb e (jr c1) bs dead) w'):=h
  cases hc:(TK (nxC c1) 1&&!OW pl c1)with
  | true=>
   grind
  | false=>
   rw[hc]at Z
   simp only[cond_false]at Z
   cases hc2:gg c1 with
   | false=>
    rw[hc2]at Z
    simp only[cond_false]at Z
    obtain⟨I,h1,h2⟩:=Ct.spec Z
    refine key _ h1 λG E M w' J8 Y O hk=>?_
    have:=h2 E w' hk E
    rw[AA Y]at this
    grind
   | true=>
    rw[hc2]at Z
    simp only[cond_true]at Z
    obtain⟨I,h1,h2⟩:=Ct.spec Z
    refine key _ h1 λG E M w' J8 Y O hk=>?_
    have:=h2 (Ck E n (mu G)) w' hk E
    rw[KL Vq]at this
    rw[show((n,mu G)::kc (ic (I4 (jr c1) (li rl U X lo)) n 0) E).tail=kc (ic (I4 (jr c1) (li rl U X lo)) n 0) E from rfl,AA Y,
     show Mv n ((n,mu G)::kc (ic (I4 (jr c1) (li rl U X lo)) n 0) E) undef=mu G by show(bif Dn n n then mu G else _)=_;simp_all,Er]at this
    grind
 | cond c c1 U ih1 ih2=>
  intro r rl X lo Q B e a w hr W h
  obtain⟨t,ht,hA,hB⟩:=(show Bl (ev e c) (D P n pl rl c1 X lo Q B e w) (D P n pl rl U X lo Q B e w)from h).ex
  have hor:∀i,bit (jr (.cond c c1 U)) i=false->bit (jr c1) i=false/\bit (jr U) i=false:=λi hi=>by
   simp_all[bit,jr]
  have hrf:gg (.cond c c1 U)=false->gg c1=false/\gg U=false:=λhh=>by
   grind[gg]
  refine wpIn_cond_split (t:=t) (by rw[W.eval];exact ht) (λh1=>?_) (λh1=>?_)
  .exact wpIn_mono (ih1 r rl X lo Q B e a w (hr.imp id λh=>(hrf h).1) W (hA h1)) λx M w' ⟨G,E,J8,Y,O,hq⟩=>⟨G,E,J8,λi hi=>Y i (hor i hi).1,λhh=>O (hrf hh).1,hq⟩
  .exact wpIn_mono (ih2 r rl X lo Q B e a w (hr.imp id λh=>(hrf h).2) W (hB h1)) λx M w' ⟨G,E,J8,Y,O,hq⟩=>⟨G,E,J8,λi hi=>Y i (hor i hi).2,λhh=>O (hrf hh).2,hq⟩
 | block id c ih=>
  intro r rl X lo Q B e a w hr W h
  refine wpIn_block (wpIn_mono (ih r rl _ _ _ B e a w hr W h) λx M w' hp=>?_)
  obtain⟨G,E,J8,Y,O,hq⟩:=hp
  cases x with
  | exit k=>
   simp only[Exit.inBlock]
   simp only[aan]at hq
   by_cases hk:k=id
   .subst hk
    rw[Hq]at hq
    grind[wj,jr,gg]
   .rw[En hk]at hq
    grind[wj,jr,gg]
  | _=>exact⟨G,E,J8,Y,O,hq⟩
 | loop c ih=>
  intro r rl X lo Q B e a w hr W h
  have key:∀(V:List Nat->Env->List (Nat×Value)) (I:Nat->List (Nat×Value)->iD),(∃m,I m (V B e) w)->
    (∀m G E w',(∀i,bit (jr c) i=false->E i=e i)->(gg c=false->G=B)->I m (V G E) w'->D P n pl rl c X (li rl c X (li rl c X 0)) (uT (λds2 e2 w2=>∃m',m'<m/\I m' (V ds2 e2) w2) Q) G E w')->
    (Code.loop c).wpIn (FO r) 0 P (wj n (jr (.loop c)) (gg (.loop c)) B e Q) a w:=by
   intro V I ⟨m,h1⟩ h2
   let Inv:Nat->Act->iD:=λm M w'=>∃G E,jW G n E M/\(∀i,bit (jr c) i=false->E i=e i)/\(gg c=false->G=B)/\I m (V G E) w'
   have body:∀m M w',Inv m M w'->c.wpIn (FO r) 0 P (Exit.then (λa2 w2=>∃m',m'<m/\Inv m' a2 w2) (wj n (jr (.loop c)) (gg (.loop c)) B e Q)) M w':=by
    rintro m M w' ⟨G,E,J8,Y,O,hi⟩
    refine wpIn_mono (ih r rl X _ _ G E M w' hr J8 (h2 m G E w' Y O hi)) λx a2 w2 hp=>?_
    obtain⟨ds2,e2,Gn,KM,aze,hq⟩:=hp
    have hfe:∀i,bit (jr c) i=false->e2 i=e i:=λi hi=>(KM i hi).trans (Y i hi)
    have aqJ:gg c=false->ds2=B:=λhh=>(aze hh).trans (O hh)
    cases x with
    | normal=>obtain⟨m',Sn,OZ⟩:=hq;exact⟨m',Sn,ds2,e2,Gn,hfe,aqJ,OZ⟩
    | _=>exact⟨ds2,e2,Gn,hfe,aqJ,hq⟩
   classical
   let J:Act->iD:=λM w'=>∃m,Inv m M w'
   let μ:Act->World->Nat:=λM w'=>if h:∃m,Inv m M w' then adh (least h)else 0
   have hμ:∀M w',J M w'->Inv (μ M w') M w'/\∀k,Inv k M w'->μ M w'<=k:=λM w' hj=>by
    grind
   refine wpIn_loop J μ ⟨m,B,e,W,λ_ _=>rfl,λ_=>rfl,h1⟩ λM w' hj=>?_
   refine wpIn_mono (body _ M w' (hμ M w' hj).1) λx a2 w2 hp=>?_
   cases x with
   | normal=>
    obtain⟨m',Sn,OZ⟩:=hp
    exact⟨⟨m',OZ⟩,Nat.lt_of_le_of_lt ((hμ a2 w2 ⟨m',OZ⟩).2 m' OZ) Sn⟩
   | _=>exact hp
  have Z:(bif gg c then Cu (n::ic (I4 (jr c) (li rl c X (li rl c X 0))) n 0)
    (λK bs w=>∀dead,D P n pl rl c X (li rl c X (li rl c X 0)) (uT (λB e w=>K (Ck e n (mu B)) w) Q) (Cv (Mv n bs undef)) (Kb e (jr c) bs.tail dead) w) (Ck e n (mu B)) w
   else Cu (ic (I4 (jr c) (li rl c X (li rl c X 0))) n 0)
    (λK bs w=>∀dead,D P n pl rl c X (li rl c X (li rl c X 0)) (uT (λ_ e w=>K e w) Q) B (Kb e (jr c) bs dead) w) e w):=h
  cases hc:gg c with
  | false=>
   rw[hc]at Z
   simp only[cond_false]at Z
   obtain⟨I,h1,h2⟩:=Cu.spec Z
   rw[show gg (.loop c)=gg c from rfl]at key
   have:=key (λ_ e=>kc (ic (I4 (jr c) (li rl c X (li rl c X 0))) n 0) e) I h1 λm G E w' Y O hi=>by
    have:=h2 m E w' hi E
    rw[AA Y]at this
    grind
   exact this
  | true=>
   rw[hc]at Z
   simp only[cond_true]at Z
   obtain⟨I,h1,h2⟩:=Cu.spec Z
   refine key (λB e=>kc (n::ic (I4 (jr c) (li rl c X (li rl c X 0))) n 0) (Ck e n (mu B))) I h1 λm G E w' Y O hi=>?_
   have:=h2 m (Ck E n (mu G)) w' hi E
   rw[KL Vq]at this
   rw[show((n,mu G)::kc (ic (I4 (jr c) (li rl c X (li rl c X 0))) n 0) E).tail=kc (ic (I4 (jr c) (li rl c X (li rl c X 0))) n 0) E from rfl,AA Y,
    show Mv n ((n,mu G)::kc (ic (I4 (jr c) (li rl c X (li rl c X 0))) n 0) E) undef=mu G by show(bif Dn n n then mu G else _)=_;simp_all,Er]at this
   exact this
 | rangeFunc g ps asx bd ihA ihB=>
  intro r rl X lo Q B e a w hr W h
  have Kd:r=none:=hr.resolve_right (by simp[gg])
  subst Kd
  exact aaq ihA ihB rl X lo Q B e a w W h
 | _=>intro r rl X lo Q B e a w _ W h;exact h.elim
def SR(P:Program):List ResultVar->Env->(List Value->Prop)->iD
 | [],_,K,_=>K []
 | .tmp t::r,e,K,w=>SR P r e (λvs=>K (e t::vs)) w
 | .cell a t::r,e,K,w=>GK P (vK t (e a)) w (λv=>SR P r e (λvs=>K (v::vs)) w)
def aar:List Value->Value
 | [v]=>v
 | vs=>.tuple vs.toArray
def nQ:List Nat->World->(iD)->Prop
 | [],w,K=>K w
 | D::r,w,K=>w.heap[D]?=some (.deferred (some []))/\nQ r (w.putObj D (.deferred none)) K
def SS(P:Program)(rs:List ResultVar)(K:Value->iD):Gm
 | .normal,B,e,w=>nQ B w λw=>SR P rs e (λvs=>K (aar vs) w) w
 | .ret,B,e,w=>nQ B w λw=>SR P rs e (λvs=>K (aar vs) w) w
 | _,_,_,_=>False
def Gp:List Value->Env
 | [],_=>undef
 | v::_,0=>v
 | _::r,n+1=>Gp r n
theorem aas(l:List Value)(i:Nat):Gp l i=l.getD i undef:=by
 induction l generalizing i with
 | nil=>simp[Gp]
 | cons v r B=>cases i with
  | zero=>rfl
  | succ i=>simp[Gp,B]
def X4(tmps:Array Value):ResultVar->Sem Value
 | .tmp t=>pure (tmps.getD t undef)
 | .cell a t=>do loadVar t (<- asAddr (tmps.getD a undef))
theorem Mx{P:Program}{t:TypeId}{v u:Value}{w:World}(h:(vK t v).run P w=.ok u w):(do loadVar t (<- asAddr v):Sem Value).run P w=.ok u w:=by
 cases v with
 | pointer a=>cases a with
  | none => exact absurd (show(Result.halt (.stuck "an address expected (no nilCheck in front?)") w : Result Value)=.ok u w from h) et
  | some a=>exact h
 | _ => exact absurd (show(Result.halt (.stuck "an address expected (no nilCheck in front?)") w : Result Value)=.ok u w from h) et
theorem aat{P:Program}{I:List Nat}{n:Nat}{e:Env}{a:Act}(E:jW I n e a):∀(rs:List ResultVar) (K:List Value->Prop) (w:World),SR P rs e K w->
  ∃vs,(rs.mapM (X4 a.tmps)).run P w=.ok vs w/\K vs:=by
 intro rs
 induction rs with
 | nil=>intro K w h;exact⟨[],rfl,h⟩
 | cons r rs J=>
  intro K w h
  have step:∀v,(X4 a.tmps r).run P w=.ok v w->SR P rs e (λvs=>K (v::vs)) w->∃vs,((r::rs).mapM (X4 a.tmps)).run P w=.ok vs w/\K vs:=by
   intro v G B
   obtain⟨vs,h1,h2⟩:=J _ w B
   simp_all
  cases r with
  | tmp t=>exact step (e t) (by rw[<- E.get t];rfl) h
  | cell c t=>
   obtain⟨v,G,B⟩:=h.ex
   refine step v ?_ B
   show(do loadVar t (<- asAddr (a.tmps.getD c undef)):Sem Value).run P w=_
   rw[E.get c]
   exact Mx G
theorem O0{P:Program}{B:Func}{rs:List ResultVar}(E:B.results=rs.toArray){tmps:Array Value}{w:World}{vs:List Value}
  (h:(rs.mapM (X4 tmps)).run P w=.ok vs w):(results B tmps).run P w=.ok (aar vs) w:=by
 have e:results B tmps=(rs.toArray.mapM (X4 tmps) >>= λvs=>pure (if h:vs.size=1 then vs[0]else .tuple vs)):=by
  unfold results;rw[E];rfl
 rw[e,List.mapM_toArray]
 have h1:(Functor.map (λa=>a.toArray) (rs.mapM (X4 tmps))).run P w=.ok vs.toArray w:=by
  rw[<- bind_pure_comp,eI h];rfl
 rw[eI h1]
 show Result.ok _ w=Result.ok _ w
 congr 1
 match vs with
 | []=>rfl
 | [v]=>rfl
 | a::b::r=>simp[aar]
theorem My{P:Program}{E:Func}{tmps:Array Value}{R:Ending->iD}:∀(B:List Nat) (w:World),nQ B w (λw'=>∃v,(results E tmps).run P w'=.ok v w'/\R (.returned v) w')->
  LeavesInM (FO none) 0 P E tmps R (B.map mark) .returning w:=by
 intro B
 induction B with
 | nil=>intro w ⟨v,h1,h2⟩;exact⟨v,h1,h2⟩
 | cons D r G=>intro w h;exact⟨et,.inl ⟨D,_,rfl,run_takeDeferred h.1,G _ h.2⟩⟩
theorem nQ.mono{B:List Nat}{K E:iD}(G:∀w,K w->E w):∀{w:World},nQ B w K->nQ B w E:=by
 induction B with
 | nil=>intro w h;exact G w h
 | cons D r I=>intro w h;exact⟨h.1,I h.2⟩
theorem Hv{P:Program}{n:Nat}{pl:dM}{rl:Nat}{f:FuncId}{B:Func}{c:Code}{rs:List ResultVar}{args:List Value}{w:World}{K:Value->iD}
  (U:P.follows .mixedOrders=true) (Y:P.funcs[f]?=some B) (hb:B.body=some c) (hn:B.ntmps=n) (V:B.results=rs.toArray) (hle:args.length<=n)
  (h:D P n pl rl c [] rl (SS P rs K) [] (Gp args) w):Calls P f args.toArray w (rZ K):=by
 refine BF.1 (callsIn_of_wp_marks (F:=FO none) (n:=0) Y hb trivial ?_)
 have O:jW [] n (Gp args) {tmps:=args.toArray++Array.replicate (B.ntmps-args.toArray.size) undef,defers:=[]}:=by
  refine⟨rfl,dH,λi=>?_⟩
  rw[aas,F1,Array.getElem?_append]
  grind
 refine wpIn_mono (age U c none rl [] rl _ [] _ _ w (.inl rfl) O h) λx I w' Z=>?_
 obtain⟨M,W,J,_,_,E⟩:=Z
 have G:nQ M w' (λw=>SR P rs W (λvs=>K (aar vs) w) w)->LeavesInM (FO none) 0 P B I.tmps (rZ K) I.defers .returning w':=λE=>by
  rw[J.defers]
  refine My M w' (E.mono λw1 h1=>?_)
  obtain⟨vs,h1,h2⟩:=aat J rs _ w1 h1
  exact⟨_,O0 V h1,_,rfl,h2⟩
 cases x with
 | normal=>exact G E
 | ret=>exact G E
 | _=>exact E.elim
def okD{P:Program}{n:Nat}{pl:dM}{rl:Nat}{f:FuncId}{B:Func}{c:Code}{rs:List ResultVar}{args:List Value}{w:World}{K:Value->iD}{S:Prop}
  (M:P.funcs[f]?=some B) (hb:B.body=some c) (J:B.ntmps=n) (I:B.results=rs.toArray) (G:P.follows .mixedOrders=true) (E:args.length<=n)
  (e:D P n pl rl c [] rl (SS P rs K) [] (Gp args) w=S) (h:S):Calls P f args.toArray w (rZ K):=Hv G M hb J I E (e.mpr h)
def okE{P:Program}(n:Nat)(pl:dM)(rl:Nat)(rs:List ResultVar){f:FuncId}{B:Func}{args:List Value}{w:World}{K:Value->iD}{S:Prop}
  (M:P.funcs[f]?=some B) (hb:B.body=some (B.body.getD .skip)) (J:B.ntmps=n) (I:B.results=rs.toArray) (G:P.follows .mixedOrders=true) (E:args.length<=n)
  (e:D P n pl rl (B.body.getD .skip) [] rl (SS P rs K) [] (Gp args) w=S) (h:S):Calls P f args.toArray w (rZ K):=okD M hb J I G E e h
theorem okZ{P:Program}(n:Nat)(pl:dM)(rl:Nat)(rs:List ResultVar){f:FuncId}{B:Func}{args:List Value}{w:World}{K:Value->iD}{S:Prop}
  (G:P.funcs[f]?=some B) (E:P.follows .mixedOrders=true) (hc:(B.body.isSome,B.ntmps,B.results,TK args.length n)=(true,n,rs.toArray,true))
  (e:D P n pl rl (B.body.getD .skip) [] rl (SS P rs K) [] (Gp args) w=S) (h:S):Calls P f args.toArray w (rZ K):=by
 have h1:B.body.isSome=true:=gD (λx=>x.1) hc
 have h2:B.ntmps=n:=gD (λx=>x.2.1) hc
 have h3:B.results=rs.toArray:=gD (λx=>x.2.2.1) hc
 have h4:TK args.length n=true:=gD (λx=>x.2.2.2) hc
 have h5:B.body=some (B.body.getD .skip):=by
  cases hb:B.body with
  | none=>rw[hb]at h1;cases h1
  | some c=>rfl
 exact okD G h5 h2 h3 E (Et h4) e h
def dT{P : Program}{f : FuncId}{B : Func}(E : P.funcs[f]?=some B)(h : (B.name == "runtime.NumGoroutine", B.body.isNone)=(false, false) := by kernel_rfl) : Plain P f := ⟨B, E, gD (λx => x.1) h, gD (λx => x.2) h⟩
def vb{a b:Bool}(h:a=b):vO a=vO b:=gD _ h
def Vr{p:Prop}[Decidable p](h:p):vO true=vO (decide p):=vb (fY h).symm
def jvF{p:Prop}[Decidable p](h:¬ p):vO false=vO (decide p):=vb (gk h).symm
def Hw{p q:Prop}[Decidable p][Decidable q](h:p↔q):vO (decide p)=vO (decide q):=vb (gv.2 h)
end Go.Fw
namespace Go.Proofs.YtdncbeepkacgbaaGreatDoor
open Go.Fw
variable (w:World) (K:Value->iD)
abbrev i(n:Int):Value:=.int .i64 n
abbrev tt:Value:=.bool true
abbrev ff:Value:=.bool false
abbrev fA(T:Nat)(v:Value)(f:Nat)(K:Value->Prop):Prop:=eK hZ (KF T v f) K
abbrev iA(T:Nat)(v j:Value)(K:Value->Prop):Prop:=eK hZ (K0 T v j) K
abbrev lA(T:Nat)(p:Value)(w:World)(K:Value->Prop):Prop:=GK hZ (vK T p) w K
abbrev sA(T:Nat)(p v:Value)(w:World)(K:iD):Prop:=El hZ (Ku T p v) w K
abbrev bA(o:BinOp)(T:Nat)(x y:Value)(K:Value->Prop):Prop:=eK hZ (ku o T false false x y) K
abbrev bB(o:BinOp)(T:Nat)(x y:Value)(K:Value->Prop):Prop:=eK hZ (ku o T false true x y) K
abbrev bC(o:BinOp)(T:Nat)(x y:Value)(K:Value->Prop):Prop:=eK hZ (ku o T true false x y) K
abbrev cF(f:Nat)(args:List Value)(w:World)(K:Value->iD):Prop:=FE hZ f args w K
abbrev nC(v:Value)(K:Value->Prop):Prop:=eK hZ (XW v) K
abbrev lN(T:Nat)(v:Value)(K:Value->Prop):Prop:=eK hZ (Builtin.len_ #[T] 3 [v].toArray) K
abbrev aL(T:Nat)(w:World)(K:Value->iD):Prop:=se hZ (P9 T true (.tuple #[])) w K
abbrev xT(v:Value)(k:Nat)(K:Value->Prop):Prop:=eK hZ (T0 v k) K
abbrev kA(T:Nat)(p v:Value)(w:World)(R:Prop):Prop:=Ve hZ (vK T p) v w R
abbrev aP(T:Nat)(a b:Value)(w:World)(K:Value->iD):Prop:=se hZ (Builtin.append_ #[T,T] T [a,b].toArray) w K
abbrev bS(T n:Nat)(l:List (Nat×Value))(w:World)(K:Value->iD):Prop:=se hZ (L2 T n l.toArray) w K
abbrev cV(v:Value)(a b:Prop):Prop:=Bl v a b
noncomputable abbrev PG:Program:=hZ
abbrev CR(n:Nat)(a:List Value)(w:World)(K:Value->iD):Prop:=Calls hZ n a.toArray w (rZ K)
abbrev PL(n:Nat):Prop:=Plain hZ n
theorem mixed:Tryz.prog.follows .mixedOrders=true:=by kernel_rfl
theorem qG(n:Nat)(pl:dM)(rl:Nat)(rs:List ResultVar){f:FuncId}{B:Func}{args:List Value}{w:World}{K:Value->iD}{S:Prop}
  (E:PG.funcs[f]?=some B) (h:S) (hc:(B.body.isSome,B.ntmps,B.results,TK args.length n)=(true,n,rs.toArray,true):=by kernel_rfl)
  (e:D PG n pl rl (B.body.getD .skip) [] rl (SS PG rs K) [] (Gp args) w=S:=by kernel_rfl):CR f args w K:=okZ n pl rl rs E mixed hc e h
def X5:List ResultVar->Nat
 | []=>0
 | .tmp t::r=>aal (X5 r) t
 | .cell a _::r=>aal (X5 r) a
theorem pG{f:FuncId}{B:Func}(E:Tryz.prog.funcs[f]?=some B){args:List Value}{w:World}{K:Value->iD}{pl:dM}
  (h:D hZ B.ntmps pl (X5 B.results.toList) (B.body.getD .skip) [] (X5 B.results.toList) (SS hZ B.results.toList K) [] (Gp args) w)
  (hc:(B.body.isSome,TK args.length B.ntmps)=(true,true):=by kernel_rfl):Calls hZ f args.toArray w (rZ K):=by
 have h1:B.body.isSome=true:=gD (λx=>x.1) hc
 have h5:B.body=some (B.body.getD .skip):=by
  cases hb:B.body with
  | none=>rw[hb]at h1;cases h1
  | some c=>rfl
 exact Hv mixed E h5 rfl et (Et (gD (λx=>x.2) hc)) h
theorem fD{f:FuncId}{B:Func}(E:Tryz.prog.funcs[f]?=some B){args:List Value}{w:World}{K:Value->iD}
  (h:D hZ B.ntmps (λ_=>.nil) (X5 B.results.toList) (B.body.getD .skip) [] (X5 B.results.toList) (SS hZ B.results.toList K) [] (Gp args) w)
  (hc:(B.body.isSome,TK args.length B.ntmps)=(true,true):=by kernel_rfl):Calls hZ f args.toArray w (rZ K):=pG E h hc
def P16:dM:=λi=>match i with
 | 1=>(.op 0 [] (.op 1 [] (.op 3 [] (.op 4 [] (.op 6 [] (.op 7 [] (.op 9 [] (.op 10 [] (.alt 2 [4,7,10] (.alt 5 [7,10] (.alt 8 [10] (.alt 11 [] (.of [(12,[]),(13,[1,4,7,10]),(14,[])]) (.alt 13 [1,4,7,10] (.of [(11,[]),(12,[]),(14,[])]) .stop)) (.alt 13 [1,4,7,10] (.of [(8,[10]),(11,[]),(12,[]),(14,[])]) .stop)) (.alt 13 [1,4,7,10] (.of [(5,[7,10]),(8,[10]),(11,[]),(12,[]),(14,[])]) .stop)) (.alt 13 [1,4,7,10] (.of [(2,[4,7,10]),(5,[7,10]),(8,[10]),(11,[]),(12,[]),(14,[])]) .stop))))))))))
 | 5=>(.of [(0,[]),(1,[]),(2,[]),(3,[]),(4,[]),(5,[]),(6,[]),(7,[1]),(8,[1]),(9,[]),(10,[]),(11,[])])
 | 9=>(.of [(0,[]),(1,[]),(2,[]),(3,[]),(4,[]),(5,[]),(6,[]),(7,[]),(9,[]),(10,[]),(11,[]),(12,[]),(13,[]),(14,[]),(8,[1,10,14]),(15,[]),(16,[1]),(17,[]),(18,[]),(19,[])])
 | _=>.nil
def P23:dM:=λi=>match i with
 | 6=>.run 0 51
 | _=>.nil
def S24(J:Value):Prop:=
 nC J λa=>fA 126 a 6 λb=>lA 3 b w λc=>bB .neq 3 c (i 0) λd=>cV d (K (.slice none 0 0) w) (nC J λe=>fA 126 e 4 λf=>lA 124 f w λg=>lN 124 g λh=>rq (λG E j k=>∀_:Env,
 bA .lss 3 j h λl=>cV l (iA 124 g j λn=>lA 134 n k λo=>eW (λK2=>cF 70 [J,o] k λp q=>cV p (eK hZ (mZ 67 [(0,(i 1)),(1,j)].toArray) λr=>
 bS 58 1 [(0,r)] q λs t=>aP 58 E s t λu v=>K2 u v) (K2 E q)) (λvA x=>∀_:Env,
 nC o λy=>fA 137 y 0 λz=>lA 98 z x λY=>cF 69 [Y] x λU Z=>lN 22 U λad=>rq (λI O M B=>∀_:Env,
 bA .lss 3 M ad λV=>cV V (iA 22 U M λah=>lA 3 ah B λai=>eK hZ (mZ 67 [(0,(i 2)),(1,j),(2,ai)].toArray) λaj=>bS 58 1 [(0,aj)] B λak al=>
 aP 58 O ak al λam W=>bB .add 3 M (i 1) λao=>I am ao W) (bB .add 3 j (i 1) λap=>G O ap B)) λI=>I vA (i 0) Z)) (K E k)) λG=>G (.slice none 0 0) (i 0) w)
theorem amc(B:Value)(h:S24 w K B):CR 24 [B] w K:=
 qG 50 (λ_=>.nil) 4 [.tmp 2] Tryz.func24 h
def P25:dM:=λi=>match i with
 | 2=>(.of [(0,[]),(1,[]),(2,[]),(3,[]),(4,[]),(5,[]),(6,[]),(7,[]),(8,[]),(9,[]),(10,[]),(11,[]),(12,[]),(13,[3,7,11]),(14,[])])
 | _=>.nil
def P26:dM:=λi=>match i with
 | 6=>.run 0 9
 | _=>.nil
def P31:dM:=λi=>match i with
 | 6=>.run 0 9
 | _=>.nil
def P33:dM:=λi=>match i with
 | 5=>(.of [(0,[]),(1,[]),(3,[]),(4,[]),(5,[]),(6,[]),(7,[]),(2,[7]),(8,[]),(9,[]),(10,[]),(11,[]),(12,[]),(13,[]),(14,[])])
 | _=>.nil
def S38(B p1:Value):Prop:=
 se hZ (zG 67 p1) w λp3 a=>aL 72 a λb c=>eW (λE=>fA 67 p3 0 λd=>lA 3 d (drew c) λe=>bB .eql 3 e (i 3) λf=>cV f (fA 67 p3 1 λg=>lA 3 g (drew c) λh=>
 bB .eql 3 h (i 0) λj=>cV j (fA 67 p3 2 λk=>lA 3 k (drew c) λl=>bB .eql 3 l (i 0) λn=>cV n (nC B λo=>fA 126 o 6 λp=>lA 3 p (drew c) λq=>bB .eql 3 q (i 0) λs=>
 cV s (nC B λt=>fA 126 t 2 λu=>lA 102 u (drew c) λv=>fA 67 p3 3 λx=>lA 22 x (drew c) λy=>cF 81 [v,y] (drew c) λz aa=>bB .eql 40 z (i 0) λab=>E ab aa) (
 E ff (drew c))) (E ff (drew c))) (E ff (drew c))) (E ff (drew c))) (λac G=>∀_:Env,
 cV ac (nC B λae=>fA 126 ae 5 λZ=>lA 3 Z G λag=>bB .add 3 ag (i 1) λah=>nC B λai=>fA 126 ai 5 λaj=>sA 3 aj ah G λJ=>nC B λal=>fA 126 al 0 λam=>
 fA 49 am 5 λan=>lA 46 an J λao=>bS 43 1 [(0,ao)] J λap aq=>cF 64 [B,ap] aq λ_ U=>fA 67 p3 3 λasx=>lA 22 asx U λau=>cF 87 [au] U λav aw=>eK hZ (mZ 72 [(0,(i 15)),(3,av)].toArray) λax=>
 sA 72 b ax aw λO=>lA 72 b O λr=>K (.tuple #[r,(i 0)]) O) (cF 24 [B] G λaz a0=>cF 84 [az,(.func (Go.Fn.func 88) [].toArray [p3].toArray)] a0 λa1 a2=>eK hZ (Op.unary .not a1) λa3=>
 cV a3 (eK hZ (mZ 72 [].toArray) λa4=>sA 72 b a4 a2 λM=>lA 72 b M λKe=>K (.tuple #[Ke,(i 13)]) M) (fA 67 p3 0 λa6=>lA 3 a6 a2 λa7=>bB .eql 3 a7 (i 2) λa8=>
 cV a8 (lA 67 p3 a2 λY=>cF 89 [B,Y] a2 λba bb=>sA 72 b ba bb λV=>lA 72 b V λX6=>K (.tuple #[X6,(i 0)]) V) (fA 67 p3 1 λbd=>lA 3 bd a2 λbe=>cF 90 [B,be] a2 λbf bg=>
 sA 72 b bf bg λW=>lA 72 b W λI=>K (.tuple #[I,(i 0)]) W))))
def P38:dM:=λi=>match i with
 | 1=>.run 0 30
 | _=>.nil
theorem amd(B p1:Value)(h:S38 w K B p1):CR 38 [B,p1] w K:=
 qG 73 P38 48 [.cell 4 72,.tmp 5] Tryz.func38 h
def P44:dM:=λi=>match i with
 | 6=>(.of [(0,[]),(1,[]),(2,[]),(3,[1]),(4,[1]),(5,[]),(6,[]),(7,[])])
 | 8=>(.of [(0,[]),(1,[]),(2,[]),(3,[1]),(4,[]),(5,[]),(6,[])])
 | 10=>(.of [(0,[]),(1,[]),(2,[]),(3,[1]),(4,[]),(5,[]),(6,[])])
 | 13=>(.of [(0,[]),(1,[]),(2,[]),(3,[]),(4,[]),(5,[]),(6,[]),(7,[]),(8,[1]),(9,[1]),(10,[]),(11,[]),(12,[])])
 | 15=>(.of [(0,[]),(1,[]),(2,[]),(3,[]),(4,[]),(5,[]),(6,[]),(7,[]),(8,[]),(9,[]),(10,[]),(11,[]),(12,[]),(13,[1]),(14,[1]),(15,[]),(16,[]),(17,[])])
 | 17=>(.of [(0,[]),(1,[]),(2,[]),(3,[]),(4,[]),(5,[]),(6,[]),(7,[]),(8,[]),(9,[]),(10,[]),(11,[]),(12,[1]),(13,[1]),(14,[]),(15,[]),(16,[])])
 | 21=>(.of [(0,[]),(1,[]),(2,[]),(3,[]),(4,[]),(5,[]),(6,[]),(7,[]),(8,[]),(9,[4,8]),(10,[]),(11,[])])
 | _=>.nil
def P47:dM:=λi=>match i with
 | 5=>(.op 0 [] (.op 1 [] (.op 2 [] (.op 3 [] (.op 4 [] (.op 5 [] (.op 6 [] (.op 7 [] (.op 8 [] (.op 9 [] (.op 10 [] (.op 11 [] (.op 12 [] (.op 13 [] (.op 14 [] (.op 15 [] (.op 16 [] (.op 17 [] (.op 18 [] (.op 19 [] (.op 20 [] (.op 21 [] (.op 22 [] (.alt 23 [4,9,17] (.of [(24,[]),(25,[4,9,17,22]),(26,[])]) (.alt 25 [4,9,17,22] (.of [(23,[4,9,17]),(24,[]),(26,[])]) .stop)))))))))))))))))))))))))
 | 9=>(.of [(0,[]),(1,[]),(2,[]),(3,[]),(4,[]),(5,[]),(6,[]),(7,[]),(8,[]),(9,[]),(10,[]),(11,[]),(12,[]),(13,[]),(14,[]),(15,[]),(16,[]),(17,[]),(18,[]),(19,[]),(20,[]),(21,[1]),(22,[]),(23,[]),(24,[])])
 | _=>.nil
def P63:dM:=λi=>match i with
 | 1=>(.of [(0,[]),(1,[]),(3,[]),(4,[]),(6,[]),(7,[]),(2,[4,7]),(9,[]),(5,[7]),(8,[]),(10,[]),(11,[]),(12,[]),(13,[]),(14,[])])
 | _=>.nil
def P64:dM:=λi=>match i with
 | 9=>(.op 0 [] (.op 1 [] (.op 2 [] (.op 3 [] (.op 5 [] (.op 6 [] (.alt 4 [1,6] (.of [(7,[1,3]),(8,[]),(9,[]),(10,[])]) (.alt 7 [1,3] (.of [(4,[1,6]),(8,[]),(9,[]),(10,[])]) .stop))))))))
 | _=>.nil
def P70:dM:=λi=>match i with
 | 17=>.run 0 14
 | _=>.nil
def P72:dM:=λi=>match i with
 | 1=>.run 0 11
 | 3=>.run 0 13
 | _=>.nil
def S79(E U:Value):Prop:=
 lN 22 U λa=>cF 136 [E,a] w λb c=>eK hZ (Op.unary .not b) λd=>cV d (K (.tuple #[(i 0),(i 8)]) c) (aL 248 c λp6 e=>lN 116 E λf=>lE (λB g h=>∀_:Env,
 bA .lss 3 g f λj=>cV j (yp (λK2=>iA 116 E g λk=>lA 240 k h λl=>aL 240 h λn o=>sA 240 n l o λp=>fA 240 n 0 λq=>lA 3 q p λr=>cF 149 [r] p λs t=>
 bB .eql 3 s (i 0) λu=>cV u (fA 240 n 1 λv=>lA 3 v t λx=>eW (λY=>fA 240 n 0 λy=>lA 3 y t λz=>bB .eql 3 z (i 2) λaa=>cV aa (fA 240 n 1 λab=>lA 3 ab t λac=>
 iA 22 U ac λad=>lA 3 ad t λae=>Y ae t) (Y x t)) (λn9 af=>∀_:Env,
 cF 150 [p6,n9] af λ_ ag=>K2 ag)) (bB .eql 3 s (i 1) λah=>cV ah (fA 240 n 0 λM=>lA 3 M (drew t) λI=>fA 248 p6 0 λak=>cF 152 [ak] (drew t) λal O=>kA 3 M I O (
 cF 151 [I,al] O λG ao=>xT G 0 λap=>xT G 1 λ_=>cF 150 [p6,ap] ao λ_ aq=>K2 aq)) (fA 248 p6 0 λar=>cF 152 [ar] t λasx Z=>fA 240 n 0 λJ=>lA 3 J (drew Z) λaw=>
 fA 248 p6 0 λax=>cF 152 [ax] (drew Z) λay V=>kA 3 J aw V (cF 153 [aw,ay,asx] V λa0 a1=>xT a0 0 λa2=>xT a0 1 λW=>bB .neq 40 W (i 0) λa4=>cV a4 (K (.tuple #[(i 0),W]) a1) (
 cF 150 [p6,a2] a1 λ_ a5=>K2 a5))))) (λa6=>∀_:Env,
 bB .add 3 g (i 1) λa7=>B a7 a6)) (fA 248 p6 0 λa8=>cF 152 [a8] h λa9 ba=>K (.tuple #[a9,(i 0)]) ba)) λB=>B (i 0) e)
def P79:dM:=λi=>match i with
 | 9=>(.of [(0,[]),(1,[]),(2,[]),(4,[]),(3,[1]),(5,[]),(6,[]),(7,[]),(8,[]),(9,[]),(10,[])])
 | 19=>(.of [(0,[]),(1,[]),(2,[]),(3,[1]),(4,[]),(5,[]),(6,[]),(7,[]),(8,[]),(9,[])])
 | _=>.nil
theorem ame(B E:Value)(h:S79 w K B E):CR 79 [B,E] w K:=
 qG 74 P79 48 [.tmp 4,.tmp 5] Tryz.func79 h
theorem azf:PL 16:=dT Tryz.func16
theorem amf:PL 23:=dT Tryz.func23
theorem SU:PL 24:=dT Tryz.func24
theorem aqK:PL 25:=dT Tryz.func25
theorem X7:PL 26:=dT Tryz.func26
theorem amg:PL 28:=dT Tryz.func28
theorem aqL:PL 31:=dT Tryz.func31
theorem azg:PL 33:=dT Tryz.func33
theorem azh:PL 38:=dT Tryz.func38
theorem azi:PL 44:=dT Tryz.func44
theorem X8:PL 46:=dT Tryz.func46
theorem Mz:PL 47:=dT Tryz.func47
theorem amh:PL 48:=dT Tryz.func48
theorem agi:PL 50:=dT Tryz.func50
theorem aqM:PL 54:=dT Tryz.func54
theorem azj:PL 62:=dT Tryz.func62
theorem azk:PL 63:=dT Tryz.func63
theorem aqN:PL 64:=dT Tryz.func64
theorem aqO:PL 69:=dT Tryz.func69
theorem azl:PL 70:=dT Tryz.func70
theorem azm:PL 71:=dT Tryz.func71
theorem agj:PL 72:=dT Tryz.func72
theorem ami:PL 73:=dT Tryz.func73
theorem azn:PL 74:=dT Tryz.func74
theorem azo:PL 75:=dT Tryz.func75
theorem agk:PL 76:=dT Tryz.func76
theorem X9:PL 77:=dT Tryz.func77
theorem amj:PL 79:=dT Tryz.func79
variable (w:World) (K:Value->iD)
def P81:dM:=λi=>match i with
 | 5=>.run 0 9
 | _=>.nil
def S87(E:Value):Prop:=
 lN 22 E λa=>rq (λB G b c=>∀_:Env,
 bA .lss 3 b a λd=>cV d (iA 22 E b λe=>lA 3 e c λf=>bB .mul 3 G (i 10000) λg=>bA .add 3 g f λh=>bB .add 3 b (i 1) λj=>B h j c) (K G c)) (λB=>B (i 0) (i 0) w)
theorem amk(B:Value)(h:S87 w K B):CR 87 [B] w K:=
 qG 18 (λ_=>.nil) 4 [.tmp 2] Tryz.func87 h
def S89(M p1:Value):Prop:=
 se hZ (zG 67 p1) w λp3 a=>aL 72 a λb c=>eW (λO=>nC M λd=>fA 126 d 4 λe=>lA 124 e (drew c) λf=>fA 67 p3 1 λg=>lA 3 g (drew c) λh=>
 iA 124 f h λj=>lA 134 j (drew c) λk=>nC k λl=>fA 137 l 0 λn=>lA 98 n (drew c) λo=>fA 67 p3 2 λp=>lA 3 p (drew c) λq=>((cF 158 [o,q] (drew c) λs t=>
 xT s 0 λu=>xT s 1 λ_=>aL 262 t λv x=>kA 124 e f x (kA 3 g h x (kA 134 j k x (kA 98 n o x (kA 3 p q x (sA 262 v u x λy=>O v y))))))
 /\((aL 262 (drew c) λz G=>kA 124 e f G (kA 3 g h G (kA 134 j k G (kA 98 n o G (kA 3 p q G (cF 158 [o,q] G λU ac=>xT U 0 λad=>xT U 1 λ_=>sA 262 z ad ac λae=>
 O z ae))))))
 /\
 True))) (λE B=>∀_:Env,
 fA 262 E 0 λah=>lA 3 ah B λV=>bB .eql 3 V (i 3) λaj=>cV aj (nC M λak=>fA 126 ak 2 λal=>lA 102 al (drew B) λam=>fA 262 E 2 λan=>lA 3 an (drew B) λao=>
 fA 262 E 3 λap=>lA 3 ap (drew B) λaq=>cF 159 [am,ao,aq] (drew B) λ_ I=>fA 67 p3 1 λasx=>lA 3 asx I λau=>fA 262 E 2 λav=>lA 3 av I λaw=>fA 262 E 3 λax=>
 lA 3 ax I λay=>eK hZ (mZ 72 [(0,(i 12)),(1,au),(2,aw),(3,ay)].toArray) λaz=>sA 72 b az I λa0=>lA 72 b a0 λr=>K r a0) (bB .eql 3 V (i 7) λa1=>
 cV a1 (fA 67 p3 1 λa2=>lA 3 a2 B λa3=>eK hZ (mZ 72 [(0,(i 14)),(1,a3)].toArray) λa4=>sA 72 b a4 B λW=>lA 72 b W λKe=>K Ke W) (nC M λa6=>
 fA 126 a6 2 λa7=>lA 102 a7 (drew B) λa8=>fA 262 E 1 λZ=>lA 3 Z (drew B) λba=>cF 160 [a8,ba] (drew B) λ_ J=>fA 67 p3 1 λbc=>lA 3 bc J λbd=>fA 262 E 1 λbe=>
 lA 3 be J λbf=>eK hZ (mZ 72 [(0,(i 13)),(1,bd),(2,bf)].toArray) λbg=>sA 72 b bg J λY=>lA 72 b Y λX6=>K X6 Y)))
def P89:dM:=λi=>match i with
 | 1=>(.op 0 [] (.op 1 [] (.op 2 [] (.op 3 [] (.op 4 [] (.op 5 [] (.op 6 [] (.op 7 [] (.op 8 [] (.op 9 [] (.op 10 [] (.op 11 [] (.op 12 [] (.alt 13 [] (.of [(14,[]),(15,[]),(16,[]),(17,[3,5,7,10,12]),(18,[]),(19,[])]) (.alt 17 [3,5,7,10,12] (.of [(13,[]),(14,[]),(15,[]),(16,[]),(18,[]),(19,[])]) .stop)))))))))))))))
 | 4=>.run 0 9
 | 8=>.run 0 7
 | _=>.nil
theorem aml(B p1:Value)(h:S89 w K B p1):CR 89 [B,p1] w K:=
 qG 61 P89 16 [.cell 4 72] Tryz.func89 h
def S90(G E:Value):Prop:=
 aL 72 w λa b=>nC G λc=>fA 126 c 4 λd=>lA 124 d b λe=>iA 124 e E λf=>lA 134 f b λg=>nC g λh=>fA 137 h 5 λj=>lA 3 j b λk=>bB .neq 3 k (i 0) λl=>
 cV l (nC g λn=>fA 137 n 5 λo=>lA 3 o b λp=>nC G λq=>fA 126 q 6 λs=>sA 3 s p b λt=>nC G λu=>fA 126 u 7 λv=>sA 3 v E t λx=>nC g λy=>fA 137 y 5 λz=>
 lA 3 z x λaa=>eK hZ (mZ 72 [(0,(i 16)),(1,E),(2,aa)].toArray) λab=>sA 72 a ab x λU=>lA 72 a U λr=>K r U) (cF 72 [g] b λY ae=>xT Y 0 λaf=>
 xT Y 1 λ_=>aL 139 ae λM ah=>sA 139 M af ah λai=>se hZ (Kv 273 none) ai λB ak=>El hZ (rN 273 B (i 2) (.func (.func 167) #[] #[])) ak λal=>
 El hZ (rN 273 B (i 3) (.func (.func 168) #[] #[])) al λam=>El hZ (rN 273 B (i 5) (.func (.func 168) #[] #[])) am λan=>El hZ (rN 273 B (i 6) (.func (.func 168) #[] #[])) an λao=>
 El hZ (rN 273 B (i 7) (.func (.func 168) #[] #[])) ao λap=>El hZ (rN 273 B (i 4) (.func (.func 169) #[] #[])) ap λaq=>El hZ (rN 273 B (i 8) (.func (.func 170) #[] #[])) aq λar=>
 El hZ (rN 273 B (i 9) (.func (.func 171) #[] #[])) ar λasx=>El hZ (rN 273 B (i 10) (.func (.func 172) #[] #[])) asx λJ=>fA 139 M 0 λav=>
 lA 3 av J λaw=>GK hZ (ua 273 B aw false) J λax=>lA 139 M J λay=>gR hZ ax [G,g,E,ay] J λaz a0=>aL 72 a0 λO a1=>sA 72 O az a1 λa2=>
 fA 72 O 1 λa3=>sA 3 a3 E a2 λI=>yp (λW=>nC G λa5=>fA 126 a5 6 λa6=>lA 3 a6 I λa7=>bB .eql 3 a7 (i 0) λa8=>cV a8 (nC g λa9=>fA 137 a9 2 λba=>
 lA 3 ba I λbb=>bB .add 3 bb (i 1) λbc=>nC g λbd=>fA 137 bd 2 λbe=>sA 3 be bc I λbf=>cF 142 [g] bf λ_ bg=>W bg) (W I)) (λZ=>∀_:Env,
 lA 72 O Z λbi=>sA 72 a bi Z λV=>lA 72 a V λKe=>K Ke V))
theorem amm(B E:Value)(h:S90 w K B E):CR 90 [B,E] w K:=
 qG 72 (λ_=>.nil) 16 [.cell 4 72] Tryz.func90 h
def S100(E:Value):Prop:=
 lN 9 E λa=>bB .gtr 3 a (i 4000) λb=>cV b (K (.tuple #[(.slice none 0 0),(i 2),(i 4000)]) w) (bS 166 0 [] w λc d=>cF 192 [E,(i 0)] d λe f=>rq (λW BJ B g=>∀_:Env,
 lN 9 E λh=>bA .lss 3 B h λj=>cV j (eK hZ (mZ 179 [(3,B)].toArray) λk=>aL 179 g λI l=>sA 179 I k l λn=>eW (λK2=>eK hZ (uG 9 E B) λo=>
 cF 193 [o] n λp q=>cV p (fA 179 I 0 λr=>sA 3 r (i 1) q λs=>lE (λU G t=>∀_:Env,
 eW (λV=>lN 9 E λu=>bA .lss 3 G u λv=>cV v (eK hZ (uG 9 E G) λx=>cF 193 [x] t λy z=>cV y (V tt z) (eK hZ (uG 9 E G) λaa=>
 cF 194 [aa] z λab ac=>V ab ac)) (V ff t)) (λad Z=>∀_:Env,
 cV ad (bB .add 3 G (i 1) λaf=>U af Z) (bA .sub 3 G B λag=>bB .gtr 3 ag (i 16) λah=>cV ah (K (.tuple #[(.slice none 0 0),(i 2),B]) Z) (K2 G Z)))) λU=>U B s) (
 eK hZ (uG 9 E B) λai=>cF 194 [ai] q λaj ak=>cV aj (fA 179 I 0 λal=>sA 3 al (i 2) ak λam=>lE (λY M an=>∀_:Env,
 eW (λK6=>lN 9 E λao=>bA .lss 3 M ao λap=>cV ap (eK hZ (uG 9 E M) λaq=>cF 194 [aq] an λar asx=>K6 ar asx) (K6 ff an)) (λau J=>∀_:Env,
 cV au (yp (λK7=>fA 179 I 2 λaw=>lA 3 aw J λax=>bB .leq 3 ax (i 4294967296) λay=>cV ay (fA 179 I 2 λaz=>lA 3 az (drew J) λa0=>bC .mul 3 (i 10) a0 λa1=>
 eK hZ (uG 9 E M) λa2=>bB .sub 5 a2 (.int .u8 48) λa3=>eK hZ (convert 5 3 a3) λa4=>bA .add 3 a1 a4 λa5=>fA 179 I 2 λa6=>sA 3 a6 a5 (drew J) λa7=>
 K7 a7) (K7 J)) (λa8=>∀_:Env,
 bB .add 3 M (i 1) λa9=>Y a9 a8)) (fA 179 I 2 λba=>lA 3 ba J λbb=>bB .gtr 3 bb (i 4294967296) λbc=>cV bc (K (.tuple #[(.slice none 0 0),(i 4),B]) J) (K2 M J))))
 λY=>Y B am) (fA 179 I 0 λbd=>sA 3 bd (i 3) ak λbe=>cF 195 [E,B] be λbf bg=>bA .add 3 B bf λbh=>bA .eql 3 bh B λbi=>cV bi (K (.tuple #[(.slice none 0 0),(i 3),B]) bg) (
 K2 bh bg)))) (λO bj=>∀_:Env,
 eK hZ (pA 9 E (some B) (some O) none) λbk=>fA 179 I 1 λbl=>sA 9 bl bk bj λbm=>lA 179 I bm λbn=>bS 166 1 [(0,bn)] bm λbo bp=>aP 166 BJ bo bp λbq br=>
 cF 192 [E,O] br λbs bt=>W bq bs bt)) (K (.tuple #[BJ,(i 0),(i 0)]) g)) λW=>W c e f)
def azp:dM:=λi=>match i with
 | 17=>.run 0 11
 | _=>.nil
theorem agl(B:Value)(h:S100 w K B):CR 100 [B] w K:=
 qG 107 azp 28 [.tmp 2,.tmp 3,.tmp 4] Tryz.func100 h
def azq:dM:=λi=>match i with
 | 1=>.run 0 17
 | _=>.nil
def azr:dM:=λi=>match i with
 | 7=>.run 0 24
 | 8=>.run 0 13
 | _=>.nil
def azs:dM:=λi=>match i with
 | 1=>.run 0 45
 | 3=>.run 0 26
 | _=>.nil
def azt:dM:=λi=>match i with
 | 8=>(.of [(0,[]),(1,[]),(2,[]),(3,[]),(4,[]),(5,[]),(6,[]),(7,[1]),(8,[]),(9,[]),(10,[])])
 | 10=>.run 0 19
 | _=>.nil
def azu:dM:=λi=>match i with
 | 1=>.run 0 18
 | _=>.nil
def azv:dM:=λi=>match i with
 | 2=>.run 0 10
 | 4=>.run 0 13
 | _=>.nil
def azw:dM:=λi=>match i with
 | 1=>(.op 0 [] (.op 1 [] (.op 2 [] (.op 3 [] (.op 4 [] (.op 5 [] (.op 6 [] (.op 7 [] (.op 8 [] (.op 10 [] (.alt 9 [3,7] (.alt 11 [3,7] (.of [(12,[3,7]),(13,[]),(14,[]),(15,[])]) (.alt 12 [3,7] (.of [(11,[3,7]),(13,[]),(14,[]),(15,[])]) .stop)) (.alt 12 [3,7] (.of [(9,[3,7]),(11,[3,7]),(13,[]),(14,[]),(15,[])]) .stop))))))))))))
 | 5=>(.of [(0,[]),(1,[]),(2,[]),(3,[]),(4,[]),(5,[]),(6,[3]),(7,[])])
 | _=>.nil
def azx:dM:=λi=>match i with
 | 1=>(.of [(0,[]),(1,[]),(2,[]),(3,[]),(4,[]),(5,[3]),(6,[]),(7,[]),(8,[])])
 | _=>.nil
def azy:dM:=λi=>match i with
 | 1=>(.of [(0,[]),(1,[]),(2,[]),(3,[]),(4,[]),(6,[]),(7,[]),(5,[0,2,7]),(8,[]),(9,[]),(10,[])])
 | _=>.nil
def S133(c0 MC MD ME:Value):Prop:=
 se hZ (zG 46 c0) w λE a=>eW (λK1=>fA 46 E 0 λb=>lA 3 b a λc=>bB .lss 3 c (i 0) λd=>cV d (K1 tt a) (fA 46 E 0 λe=>lA 3 e a λf=>bB .gtr 3 f (i 4) λg=>
 cV g (K1 tt a) (fA 46 E 1 λh=>lA 3 h a λj=>bB .lss 3 j (i 0) λk=>cV k (K1 tt a) (fA 46 E 1 λl=>lA 3 l a λn=>bB .gtr 3 n (i 12) λo=>K1 o a)))) (λp q=>∀_:Env,
 cV p (K ff q) (fA 46 E 2 λr=>lA 44 r q λs=>lN 44 s λt=>lE (λK2 u v=>∀_:Env,
 bA .lss 3 u t λx=>cV x (iA 44 s u λy=>lA 139 y v λz=>aL 139 v λB ab=>sA 139 B z ab λY=>eW (λK3=>fA 139 B 0 λad=>lA 3 ad Y λae=>bB .lss 3 ae (i 1) λaf=>
 cV af (K3 tt Y) (fA 139 B 0 λag=>lA 3 ag Y λah=>bB .geq 3 ah (i 16) λai=>K3 ai Y)) (λaj W=>∀_:Env,
 cV aj (K ff W) (fA 139 B 1 λal=>lA 3 al (drew W) λam=>fA 46 E 0 λan=>lA 3 an (drew W) λao=>gR hZ (.func (Go.Fn.func 236) [].toArray [B].toArray) [(.int .u8 114)] (drew W) λap aq=>
 kA 3 al am aq (kA 3 an ao aq (cF 239 [ap,am,ao] aq λar asx=>eW (λK4=>gR hZ (.func (Go.Fn.func 236) [].toArray [B].toArray) [(.int .u8 107)] asx λau Z=>cV au (
 fA 139 B 1 λaw=>lA 3 aw Z λax=>fA 46 E 1 λay=>lA 3 ay Z λaz=>cF 239 [tt,ax,az] Z λa0 a1=>K4 a0 a1) (K4 ar Z)) (λa12 a2=>∀_:Env,
 fA 139 B 2 λa3=>lA 3 a3 a2 λa4=>bB .eql 3 a4 (i 0) λa5=>eW (λJ=>gR hZ (.func (Go.Fn.func 236) [].toArray [B].toArray) [(.int .u8 99)] a2 λa6 a7=>
 cV a6 (fA 139 B 2 λa8=>lA 3 a8 a7 λa9=>cF 239 [tt,a9,MC] a7 λba bb=>J ba bb) (gR hZ (.func (Go.Fn.func 236) [].toArray [B].toArray) [(.int .u8 108)] a7 λbc bd=>
 cV bc (fA 139 B 2 λbe=>lA 3 be bd λbf=>cF 239 [tt,bf,MD] bd λbg bh=>J bg bh) (gR hZ (.func (Go.Fn.func 236) [].toArray [B].toArray) [(.int .u8 109)] bd λbi bj=>
 cV bi (fA 139 B 2 λbk=>lA 3 bk bj λbl=>cF 239 [tt,bl,ME] bj λbm bn=>J bm bn) (gR hZ (.func (Go.Fn.func 236) [].toArray [B].toArray) [(.int .u8 110)] bj λbo U=>
 cV bo (fA 139 B 2 λbq=>lA 3 bq U λbr=>bB .geq 3 br (i 1) λbs=>cV bs (fA 139 B 2 λbt=>lA 3 bt U λbu=>bB .leq 3 bu (i 8) λbv=>J bv U) (J ff U)) (J a5 U)))))
 (λb13 bw=>∀_:Env,
 eW (λO=>gR hZ (.func (Go.Fn.func 236) [].toArray [B].toArray) [(.int .u8 101)] bw λbx bz=>cV bx (fA 139 B 3 λb0=>lA 116 b0 bz λb1=>fA 46 E 0 λb2=>
 lA 3 b2 bz λb3=>cF 136 [b1,b3] bz λb4 b5=>cV b4 (O tt b5) (gR hZ (.func (Go.Fn.func 236) [].toArray [B].toArray) [(.int .u8 101)] b5 λb6 b7=>eK hZ (Op.unary .not b6) λb8=>
 cV b8 (fA 139 B 3 λb9=>lA 116 b9 b7 λca=>lN 116 ca λcb=>bB .eql 3 cb (i 0) λcc=>O cc b7) (O ff b7))) (gR hZ (.func (Go.Fn.func 236) [].toArray [B].toArray) [(.int .u8 101)] bz λcd ce=>
 eK hZ (Op.unary .not cd) λcf=>cV cf (fA 139 B 3 λcg=>lA 116 cg ce λch=>lN 116 ch λci=>bB .eql 3 ci (i 0) λcj=>O cj ce) (O ff ce))) (λe14 ck=>∀_:Env,
 eW (λM=>gR hZ (.func (Go.Fn.func 236) [].toArray [B].toArray) [(.int .u8 102)] ck λcl cm=>cV cl (fA 139 B 4 λcn=>lA 116 cn cm λco=>fA 46 E 0 λcp=>
 lA 3 cp cm λcq=>cF 136 [co,cq] cm λcr cs=>cV cr (M tt cs) (gR hZ (.func (Go.Fn.func 236) [].toArray [B].toArray) [(.int .u8 102)] cs λct cu=>eK hZ (Op.unary .not ct) λcv=>
 cV cv (fA 139 B 4 λcw=>lA 116 cw cu λcx=>lN 116 cx λcy=>bB .eql 3 cy (i 0) λcz=>M cz cu) (M ff cu))) (gR hZ (.func (Go.Fn.func 236) [].toArray [B].toArray) [(.int .u8 102)] cm λc1 c2=>
 eK hZ (Op.unary .not c1) λc3=>cV c3 (fA 139 B 4 λc5=>lA 116 c5 c2 λc6=>lN 116 c6 λc7=>bB .eql 3 c7 (i 0) λc8=>M c8 c2) (M ff c2))) (λf15 c9=>∀_:Env,
 fA 139 B 5 λda=>lA 3 da c9 λdb=>bB .eql 3 db (i 0) λdc=>eW (λK8=>eW (λK9=>gR hZ (.func (Go.Fn.func 236) [].toArray [B].toArray) [(.int .u8 116)] c9 λdd de=>
 cV dd (fA 139 B 0 λdf=>lA 3 df de λdg=>bB .eql 3 dg (i 14) λdh=>K9 dh de) (K9 ff de)) (λdi dj=>∀_:Env,
 cV di (fA 46 E 2 λdk=>lA 44 dk dj λdl=>cF 240 [dl,u] dj λdm dn=>K8 dm dn) (gR hZ (.func (Go.Fn.func 236) [].toArray [B].toArray) [(.int .u8 116)] dj λdp I=>
 cV dp (fA 139 B 5 λdr=>lA 3 dr I λds=>bA .gtr 3 ds u λdt=>cV dt (fA 139 B 5 λdu=>lA 3 du I λdv=>fA 46 E 2 λdw=>lA 44 dw I λdx=>lN 44 dx λdy=>
 bA .leq 3 dv dy λdz=>K8 dz I) (K8 ff I)) (K8 dc I)))) (λazz V=>∀_:Env,
 eW (λG=>eK hZ (Op.unary .not a12) λd1=>cV d1 (G tt V) (eK hZ (Op.unary .not b13) λd2=>cV d2 (G tt V) (eK hZ (Op.unary .not e14) λd3=>
 cV d3 (G tt V) (eK hZ (Op.unary .not f15) λd4=>cV d4 (G tt V) (eK hZ (Op.unary .not azz) λd5=>G d5 V))))) (λd6 d7=>∀_:Env,
 cV d6 (K ff d7) (bB .add 3 u (i 1) λd8=>K2 d8 d7)))))))))))) (fA 46 E 2 λd9=>lA 44 d9 v λea=>cF 241 [ea] v λeb ec=>K eb ec)) λK2=>K2 (i 0) q))
def azA:dM:=λi=>match i with
 | 9=>(.of [(0,[]),(2,[]),(3,[]),(4,[]),(5,[]),(1,[3,5]),(6,[]),(7,[])])
 | _=>.nil
theorem agm(c0 E B G:Value)(h:S133 w K c0 E B G):CR 133 [c0,E,B,G] w K:=
 qG 193 azA 256 [.tmp 8] Tryz.func133 h
def azB:dM:=λi=>match i with
 | 5=>(.of [(0,[]),(1,[]),(2,[]),(3,[]),(4,[]),(5,[]),(6,[]),(7,[]),(8,[]),(9,[]),(10,[]),(11,[]),(13,[]),(14,[]),(15,[]),(16,[]),(17,[]),(18,[]),(12,[1,4,14,18]),(19,[1,4]),(20,[]),(21,[]),(22,[4]),(23,[]),(24,[]),(25,[])])
 | _=>.nil
theorem aqQ:PL 80:=dT Tryz.func80
theorem aqR:PL 81:=dT Tryz.func81
theorem Ya:PL 84:=dT Tryz.func84
theorem azC:PL 87:=dT Tryz.func87
theorem aav:PL 88:=dT Tryz.func88
theorem aaw:PL 89:=dT Tryz.func89
theorem aax:PL 90:=dT Tryz.func90
theorem aqS:PL 100:=dT Tryz.func100
theorem Bm:PL 101:=dT Tryz.func101
theorem Vs:PL 102:=dT Tryz.func102
theorem ajz:PL 103:=dT Tryz.func103
theorem ajA:PL 104:=dT Tryz.func104
theorem aqT:PL 105:=dT Tryz.func105
theorem Vt:PL 106:=dT Tryz.func106
theorem ajB:PL 107:=dT Tryz.func107
theorem yq:PL 117:=dT Tryz.func117
theorem aqU:PL 128:=dT Tryz.func128
theorem aqV:PL 129:=dT Tryz.func129
theorem aqW:PL 131:=dT Tryz.func131
theorem ajC:PL 132:=dT Tryz.func132
theorem aqX:PL 133:=dT Tryz.func133
theorem aqY:PL 134:=dT Tryz.func134
theorem aqZ:PL 135:=dT Tryz.func135
theorem Vu:PL 136:=dT Tryz.func136
theorem aq0:PL 137:=dT Tryz.func137
theorem aq1:PL 138:=dT Tryz.func138
theorem aq2:PL 139:=dT Tryz.func139
theorem ajD:PL 140:=dT Tryz.func140
variable (w:World) (K:Value->iD)
def S142(E:Value):Prop:=
 Vo (λJ a=>∀_:Env,
 cF 72 [E] a λb c=>xT b 0 λd=>xT b 1 λe=>aL 139 c λf g=>sA 139 f d g λh=>eK hZ (Op.unary .not e) λj=>cV j (K (.tuple #[]) h) (fA 139 f 3 λk=>lA 116 k h λl=>
 cF 249 [E,l] h λn o=>xT n 0 λp=>xT n 1 λq=>nC E λr=>fA 137 r 6 λs=>sA 3 s p o λt=>eK hZ (Op.unary .not q) λu=>cV u (K (.tuple #[]) t) (fA 139 f 4 λv=>
 lA 116 v t λx=>cF 249 [E,x] t λy z=>xT y 0 λaa=>xT y 1 λab=>nC E λac=>fA 137 ac 7 λad=>sA 3 ad aa z λB=>eK hZ (Op.unary .not ab) λV=>cV V (
 K (.tuple #[]) B) (nC E λag=>fA 137 ag 2 λah=>lA 3 ah B λai=>bB .add 3 ai (i 1) λI=>eW (λK2=>fA 139 f 0 λZ=>lA 3 Z B λal=>bB .eql 3 al (i 1) λam=>
 cV am (nC E λan=>fA 137 an 3 λao=>lA 22 ao (drew B) λap=>fA 139 f 1 λaq=>lA 3 aq (drew B) λar=>nC E λasx=>fA 137 asx 6 λau=>lA 3 au (drew B) λav=>
 iA 22 ap ar λaw=>sA 3 aw av (drew B) λax=>K2 I ax) (bB .eql 3 al (i 11) λay=>cV ay (fA 139 f 5 λaz=>lA 3 az B λa0=>K2 a0 B) (bB .eql 3 al (i 12) λa1=>cV a1 (
 nC E λa2=>fA 137 a2 6 λa3=>lA 3 a3 B λa4=>bB .eql 3 a4 (i 0) λa5=>cV a5 (fA 139 f 5 λa6=>lA 3 a6 B λa7=>K2 a7 B) (K2 I B)) (bB .eql 3 al (i 13) λa8=>
 cV a8 (nC E λU=>fA 137 U 4 λba=>lA 22 ba (drew B) λbb=>fA 139 f 1 λbc=>lA 3 bc (drew B) λbd=>fA 139 f 2 λbe=>lA 3 be (drew B) λbf=>iA 22 bb bd λbg=>
 sA 3 bg bf (drew B) λbh=>K2 I bh) (bB .eql 3 al (i 14) λbi=>cV bi (nC E λbj=>fA 137 bj 4 λbk=>lA 22 bk (drew B) λbl=>fA 139 f 1 λbm=>lA 3 bm (drew B) λO=>
 iA 22 bl O λbo=>lA 3 bo (drew B) λbp=>bB .sub 3 bp (i 1) λbq=>iA 22 bl O λbr=>sA 3 br bq (drew B) λG=>nC E λbt=>fA 137 bt 4 λbu=>lA 22 bu (drew G) λbv=>
 fA 139 f 1 λbw=>lA 3 bw (drew G) λbx=>iA 22 bv bx λbz=>lA 3 bz (drew G) λb0=>bB .gtr 3 b0 (i 0) λb1=>cV b1 (fA 139 f 5 λb2=>lA 3 b2 (drew G) λb3=>K2 b3 (drew G)) (
 K2 I (drew G))) (bB .eql 3 al (i 15) λb4=>cV b4 (nC E λb5=>fA 137 b5 6 λb6=>lA 3 b6 B λb7=>bB .eql 3 b7 (i 0) λW=>cV W (nC E λb9=>fA 137 b9 5 λY=>
 sA 3 Y (i 1) B λcb=>K (.tuple #[]) cb) (K2 I B)) (K (.tuple #[]) B))))))) (λM cc=>∀_:Env,
 nC E λcd=>fA 137 cd 2 λce=>sA 3 ce M cc λcf=>J cf))))) (λJ=>J w)
def azD:dM:=λi=>match i with
 | 10=>.run 0 12
 | 17=>.run 0 10
 | 19=>.run 0 11
 | 20=>.run 0 9
 | _=>.nil
theorem agn(B:Value)(h:S142 w K B):CR 142 [B] w K:=
 qG 118 azD 0 [] Tryz.func142 h
def azE:dM:=λi=>match i with
 | 1=>.run 0 11
 | _=>.nil
def azF:dM:=λi=>match i with
 | 1=>.run 0 11
 | 4=>.run 0 10
 | _=>.nil
def azG:dM:=λi=>match i with
 | 1=>.run 0 15
 | _=>.nil
def azH:dM:=λi=>match i with
 | 1=>.run 0 13
 | 2=>.run 0 15
 | _=>.nil
def S153(B a1 b2:Value):Prop:=
 eW (λE=>bB .lss 3 B (i 0) λa=>cV a (E tt w) (bB .geq 3 B (i 16) λb=>E b w)) (λc d=>∀_:Env,
 cV c (K (.tuple #[(i 0),(i 1)]) d) (cF 257 [] d λe f=>eK hZ (uG 348 e B) λg=>bB .eql 165 g .nilFunc λh=>cV h (K (.tuple #[(i 0),(i 1)]) f) (eW (λK2=>
 bB .eql 3 B (i 8) λj=>cV j (bB .eql 3 b2 (i 0) λk=>K2 k f) (bB .eql 3 B (i 9) λl=>cV l (bB .eql 3 b2 (i 0) λn=>K2 n f) (K2 ff f))) (λo p=>∀_:Env,
 cV o (K (.tuple #[(i 0),(i 12)]) p) (gR hZ g [a1,b2] p λq r=>K (.tuple #[q,(i 0)]) r)))))
theorem ago(B a1 b2:Value)(h:S153 w K B a1 b2):CR 153 [B,a1,b2] w K:=
 qG 36 (λ_=>.nil) 192 [.tmp 6,.tmp 7] Tryz.func153 h
def azI:dM:=λi=>match i with
 | 3=>.run 0 14
 | _=>.nil
def S155(G Eu:Value):Prop:=
 cF 117 [Eu] w λa b=>lN 22 a λc=>bB .sub 3 c (i 1) λd=>lE (λE B e=>∀_:Env,
 bB .geq 3 B (i 0) λf=>cV f (iA 22 a B λg=>lA 3 g (drew e) λh=>nC G λj=>fA 207 j 4 λk=>lA 205 k (drew e) λl=>GK hZ (ua 205 l B false) (drew e) λn=>
 lN 321 n λo=>bA .lss 3 h o λp=>cV p (iA 22 a B λq=>lA 3 q (drew e) λr=>bB .add 3 r (i 1) λs=>iA 22 a B λt=>sA 3 t s (drew e) λu=>K (.tuple #[a,tt]) u) (
 iA 22 a B λv=>sA 3 v (i 0) (drew e) λx=>bB .sub 3 B (i 1) λy=>E y x)) (K (.tuple #[(.slice none 0 0),ff]) e)) (λE=>E d b)
def azJ:dM:=λi=>match i with
 | 5=>.run 0 12
 | _=>.nil
theorem agp(B Eu:Value)(h:S155 w K B Eu):CR 155 [B,Eu] w K:=
 qG 39 azJ 48 [.tmp 4,.tmp 5] Tryz.func155 h
def S156(B Eu:Value):Prop:=
 lN 22 Eu λa=>cF 154 [B] w λb c=>bA .neq 3 a b λd=>cV d (K (.tuple #[(.slice none 0 0),(i 1)]) c) (cF 77 [B] c λe f=>lN 22 Eu λg=>lE (λI h j=>∀_:Env,
 bA .lss 3 h g λk=>cV k (iA 22 Eu h λl=>lA 3 l j λn=>eW (λK2=>bB .lss 3 n (i 0) λo=>cV o (K2 tt j) (nC B λp=>fA 207 p 4 λq=>lA 205 q j λr=>GK hZ (ua 205 r h false) j λs=>
 lN 321 s λt=>bA .gtr 3 n t λu=>K2 u j)) (λv x=>∀_:Env,
 cV v (K (.tuple #[(.slice none 0 0),(i 1)]) x) (nC B λy=>fA 207 y 4 λz=>lA 205 z x λW=>GK hZ (ua 205 W h false) x λab=>eK hZ (pA 321 ab none (some n) none) λO=>
 lN 321 O λad=>lE (λJ M E=>∀_:Env,
 bA .lss 3 M ad λU=>cV U (iA 321 O M λah=>lA 324 ah E λai=>aL 324 E λG Z=>sA 324 G ai Z λal=>fA 324 G 0 λam=>lA 3 am al λV=>fA 324 G 1 λao=>
 lA 3 ao al λY=>iA 22 e V λaq=>sA 3 aq Y al λar=>bB .add 3 M (i 1) λasx=>J asx ar) (bB .add 3 h (i 1) λau=>I au E)) λJ=>J (i 0) x))) (K (.tuple #[e,(i 0)]) j))
 λI=>I (i 0) f)
theorem agq(B Eu:Value)(h:S156 w K B Eu):CR 156 [B,Eu] w K:=
 qG 60 (λ_=>.nil) 48 [.tmp 4,.tmp 5] Tryz.func156 h
def azK:dM:=λi=>match i with
 | 6=>(.of [(0,[]),(1,[]),(2,[]),(3,[]),(4,[]),(5,[]),(6,[]),(7,[]),(8,[]),(9,[]),(10,[]),(11,[]),(12,[]),(13,[]),(14,[3,8,10]),(15,[3]),(16,[])])
 | _=>.nil
def azL:dM:=λi=>match i with
 | 6=>.run 0 10
 | _=>.nil
def azM:dM:=λi=>match i with
 | 5=>(.of [(0,[]),(1,[]),(2,[]),(3,[]),(4,[]),(5,[]),(6,[4]),(7,[]),(8,[]),(9,[]),(10,[])])
 | _=>.nil
def S167(m0 M a b:Value):Prop:=
 se hZ (zG 139 b) w λc d=>aL 72 d λe f=>nC M λg=>fA 137 g 0 λh=>lA 98 h (drew f) λj=>fA 139 c 2 λk=>lA 3 k (drew f) λl=>cF 259 [j,l] (drew f) λn o=>
 xT n 0 λp=>xT n 1 λq=>Vp (λJ=>eK hZ (Op.unary .not q) λs=>cV s (nC m0 λt=>fA 126 t 2 λu=>lA 102 u (drew o) λv=>fA 139 c 2 λx=>lA 3 x (drew o) λy=>
 cF 260 [v,y] (drew o) λz V=>xT z 0 λZ=>xT z 1 λ_=>J Z (i 1) V) (J p (i 2) o)) (λE SW B=>∀_:Env,
 nC M λY=>fA 137 Y 3 λae=>lA 22 ae (drew B) λO=>fA 139 c 1 λU=>lA 3 U (drew B) λah=>iA 22 O ah λai=>sA 3 ai E (drew B) λI=>fA 139 c 2 λW=>
 lA 3 W I λal=>eK hZ (mZ 72 [(0,SW),(2,al),(3,E)].toArray) λam=>sA 72 e am I λG=>lA 72 e G λr=>K r G)
def azN:dM:=λi=>match i with
 | 1=>.run 0 12
 | 4=>.run 0 11
 | 6=>.run 0 9
 | _=>.nil
theorem agr(B I E G:Value)(h:S167 w K B I E G):CR 167 [B,I,E,G] w K:=
 qG 47 azN 256 [.cell 8 72] Tryz.func167 h
def S168(m0 Y a b:Value):Prop:=
 se hZ (zG 139 b) w λc d=>aL 72 d λe f=>se hZ (Kv 352 none) f λg h=>El hZ (rN 352 g (i 3) (i 3)) h λj=>El hZ (rN 352 g (i 5) (i 4)) j λk=>
 El hZ (rN 352 g (i 6) (i 5)) k λl=>El hZ (rN 352 g (i 7) (i 6)) l λn=>fA 139 c 0 λo=>lA 3 o n λp=>fA 139 c 2 λq=>lA 3 q n λs=>
 eK hZ (mZ 262 [(0,p),(1,s)].toArray) λt=>aL 262 n λB u=>sA 262 B t u λv=>yp (λO=>fA 139 c 0 λx=>lA 3 x v λy=>bB .eql 3 y (i 3) λz=>
 cV z (nC m0 λaa=>fA 126 aa 0 λab=>fA 49 ab 0 λac=>lA 22 ac (drew v) λad=>fA 139 c 2 λae=>lA 3 ae (drew v) λZ=>iA 22 ad Z λag=>lA 3 ag (drew v) λah=>
 fA 139 c 2 λV=>lA 3 V (drew v) λM=>nC Y λak=>fA 137 ak 6 λal=>lA 3 al (drew v) λG=>fA 262 B 1 λan=>sA 3 an ah (drew v) λI=>kA 3 V M I (kA 3 al G I (
 fA 262 B 2 λap=>sA 3 ap M I λU=>kA 3 al G U (fA 262 B 3 λar=>sA 3 ar G U λasx=>O asx)))) (O v)) (λJ=>∀_:Env,
 nC Y λav=>fA 137 av 0 λaw=>lA 98 aw (drew J) λax=>lA 262 B (drew J) λay=>cF 164 [ax,ay] (drew J) λ_ E=>fA 139 c 0 λa0=>lA 3 a0 E λa1=>GK hZ (ua 352 g a1 false) E λa2=>
 fA 139 c 2 λa3=>lA 3 a3 E λa4=>fA 262 B 3 λa5=>lA 3 a5 E λa6=>eK hZ (mZ 72 [(0,a2),(2,a4),(3,a6)].toArray) λa7=>sA 72 e a7 E λW=>
 lA 72 e W λr=>K r W)
def azO:dM:=λi=>match i with
 | 4=>(.of [(0,[]),(1,[]),(2,[]),(3,[]),(4,[]),(5,[]),(6,[]),(7,[]),(8,[]),(9,[]),(10,[]),(11,[]),(12,[]),(13,[]),(14,[]),(15,[]),(16,[10,14]),(17,[]),(18,[14]),(19,[]),(20,[])])
 | 5=>.run 0 6
 | _=>.nil
theorem ags(B I E G:Value)(h:S168 w K B I E G):CR 168 [B,I,E,G] w K:=
 qG 54 azO 256 [.cell 8 72] Tryz.func168 h
def azP:dM:=λi=>match i with
 | 1=>.run 0 12
 | 2=>.run 0 9
 | 5=>.run 0 11
 | 6=>.run 0 9
 | _=>.nil
def azQ:dM:=λi=>match i with
 | 1=>.run 0 9
 | _=>.nil
def azR:dM:=λi=>match i with
 | 1=>.run 0 10
 | 4=>.run 0 8
 | _=>.nil
theorem aay:PL 141:=dT Tryz.func141
theorem ajE:PL 142:=dT Tryz.func142
theorem aaz:PL 143:=dT Tryz.func143
theorem aaA:PL 145:=dT Tryz.func145
theorem ajF:PL 147:=dT Tryz.func147
theorem aq3:PL 148:=dT Tryz.func148
theorem aaB:PL 149:=dT Tryz.func149
theorem Vw:PL 150:=dT Tryz.func150
theorem aq4:PL 151:=dT Tryz.func151
theorem Vx:PL 152:=dT Tryz.func152
theorem aq5:PL 153:=dT Tryz.func153
theorem aaC:PL 154:=dT Tryz.func154
theorem aq6:PL 155:=dT Tryz.func155
theorem ajG:PL 156:=dT Tryz.func156
theorem aq7:PL 157:=dT Tryz.func157
theorem Vy:PL 158:=dT Tryz.func158
theorem O4:PL 159:=dT Tryz.func159
theorem aaD:PL 160:=dT Tryz.func160
theorem KN:PL 164:=dT Tryz.func164
theorem aq8:PL 167:=dT Tryz.func167
theorem Vz:PL 168:=dT Tryz.func168
theorem aq9:PL 169:=dT Tryz.func169
theorem ara:PL 170:=dT Tryz.func170
theorem arb:PL 171:=dT Tryz.func171
theorem arc:PL 172:=dT Tryz.func172
variable (w:World) (K:Value->iD)
def P186:dM:=λi=>match i with
 | 5=>.run 0 13
 | _=>.nil
def azS:dM:=λi=>match i with
 | 10=>.run 0 7
 | _=>.nil
def azT:dM:=λi=>match i with
 | 2=>.run 0 17
 | 6=>.run 0 12
 | 8=>.run 0 9
 | 9=>.run 0 12
 | _=>.nil
def azU:dM:=λi=>match i with
 | 5=>.run 0 8
 | 7=>.run 0 9
 | 9=>.run 0 9
 | 10=>.run 0 8
 | _=>.nil
def azV:dM:=λi=>match i with
 | 5=>.run 0 17
 | _=>.nil
def azW:dM:=λi=>match i with
 | 1=>(.of [(1,[]),(2,[]),(5,[]),(0,[2]),(3,[]),(4,[]),(6,[]),(7,[])])
 | _=>.nil
def S240(E I:Value):Prop:=
 iA 44 E I λa=>lA 139 a w λb=>aL 139 w λc d=>sA 139 c b d λe=>eW (λB=>fA 139 c 5 λf=>lA 3 f (drew e) λg=>bB .lss 3 g (i 1) λh=>cV h (B tt (drew e)) (
 fA 139 c 5 λj=>lA 3 j (drew e) λk=>bA .gtr 3 k I λl=>cV l (B tt (drew e)) (fA 139 c 5 λn=>lA 3 n (drew e) λo=>bB .sub 3 o (i 1) λp=>iA 44 E p λq=>fA 139 q 0 λr=>
 lA 3 r (drew e) λs=>bB .neq 3 s (i 13) λt=>cV t (B tt (drew e)) (fA 139 c 5 λu=>lA 3 u (drew e) λv=>bB .sub 3 v (i 1) λx=>iA 44 E x λy=>fA 139 y 1 λz=>
 lA 3 z (drew e) λM=>fA 139 c 1 λY=>lA 3 Y (drew e) λO=>bA .neq 3 M O λW=>B W (drew e))))) (λae G=>∀_:Env,
 cV ae (K ff G) (fA 139 c 5 λJ=>lA 3 J G λah=>eK hZ (pA 44 E (some ah) (some I) none) λZ=>cF 307 [Z,(.func (Go.Fn.func 308) [].toArray [c].toArray)] G λU V=>
 eK hZ (Op.unary .not U) λal=>K al V))
def azX:dM:=λi=>match i with
 | 2=>.run 0 31
 | _=>.nil
theorem agt(B E:Value)(h:S240 w K B E):CR 240 [B,E] w K:=
 qG 49 azX 16 [.tmp 4] Tryz.func240 h
def S241(G:Value):Prop:=
 lN 44 G λa=>rq (λE B b c=>∀_:Env,
 bA .lss 3 b a λd=>cV d (eW (λK2=>iA 44 G b λe=>lA 139 e c λf=>aL 139 c λg h=>sA 139 g f h λj=>fA 139 g 0 λk=>lA 3 k j λl=>bB .neq 3 l (i 14) λn=>
 cV n (K2 B j) (fA 139 g 5 λo=>lA 3 o j λp=>bB .sub 3 p (i 1) λq=>lN 22 B λr=>lE (λI s t=>∀_:Env,
 bA .lss 3 s r λu=>cV u (iA 22 B s λv=>lA 3 v t λx=>iA 44 G x λy=>fA 139 y 5 λz=>lA 3 z t λU=>bB .sub 3 U (i 1) λab=>eW (λM=>bA .lss 3 ab q λV=>
 cV V (bA .geq 3 x q λZ=>M Z t) (M ff t)) (λae J=>∀_:Env,
 cV ae (K ff J) (bB .add 3 s (i 1) λO=>I O J))) (bS 22 1 [(0,b)] t λah ai=>aP 22 B ah ai λW Y=>K2 W Y)) λI=>I (i 0) j)) (λGU al=>∀_:Env,
 bB .add 3 b (i 1) λam=>E GU am al)) (K tt c)) (λE=>E (.slice none 0 0) (i 0) w)
theorem agu(B:Value)(h:S241 w K B):CR 241 [B] w K:=
 qG 49 (λ_=>.nil) 4 [.tmp 2] Tryz.func241 h
def S249(E l1:Value):Prop:=
 lN 116 l1 λa=>bB .eql 3 a (i 0) λb=>cV b (K (.tuple #[(i 0),tt]) w) (nC E λc=>fA 137 c 3 λd=>lA 22 d w λe=>cF 79 [l1,e] w λf g=>xT f 0 λh=>xT f 1 λj=>
 yp (λB=>bB .neq 40 j (i 0) λk=>cV k (nC E λl=>fA 137 l 5 λn=>sA 3 n (i 2) g λo=>B o) (B g)) (λp=>∀_:Env,
 bB .eql 40 j (i 0) λq=>K (.tuple #[h,q]) p))
theorem agv(B l1:Value)(h:S249 w K B l1):CR 249 [B,l1] w K:=
 qG 28 (λ_=>.nil) 48 [.tmp 4,.tmp 5] Tryz.func249 h
def azY:dM:=λi=>match i with
 | 1=>.run 0 11
 | _=>.nil
def S257:Prop:=
 aL 348 w λa b=>aL 348 b λl1 c=>iA 348 l1 (i 5) λd=>sA 165 d (.func (.func 313) #[] #[]) c λe=>iA 348 l1 (i 6) λf=>sA 165 f (.func (.func 314) #[] #[]) e λg=>
 iA 348 l1 (i 7) λh=>sA 165 h (.func (.func 315) #[] #[]) g λj=>iA 348 l1 (i 8) λk=>sA 165 k (.func (.func 316) #[] #[]) j λl=>iA 348 l1 (i 9) λn=>sA 165 n (.func (.func 317) #[] #[]) l λo=>
 gR hZ (.func (.func 311) #[] #[]) [(.func (.func 318) #[] #[])] o λp q=>iA 348 l1 (i 10) λs=>sA 165 s p q λt=>gR hZ (.func (.func 311) #[] #[]) [(.func (.func 319) #[] #[])] t λu v=>
 iA 348 l1 (i 11) λx=>sA 165 x u v λy=>gR hZ (.func (.func 311) #[] #[]) [(.func (.func 320) #[] #[])] y λz M=>iA 348 l1 (i 12) λZ=>sA 165 Z z M λO=>
 gR hZ (.func (.func 311) #[] #[]) [(.func (.func 321) #[] #[])] O λY ae=>iA 348 l1 (i 13) λG=>sA 165 G Y ae λI=>gR hZ (.func (.func 311) #[] #[]) [(.func (.func 322) #[] #[])] I λah ai=>
 iA 348 l1 (i 14) λV=>sA 165 V ah ai λW=>gR hZ (.func (.func 311) #[] #[]) [(.func (.func 323) #[] #[])] W λal am=>iA 348 l1 (i 15) λJ=>sA 165 J al am λE=>
 lA 348 l1 E λU=>sA 348 a U E λB=>lA 348 a B λr=>K r B
theorem agw(h:S257 w K):CR 257 [] w K:=
 qG 27 (λ_=>.nil) 1 [.cell 0 348] Tryz.func257 h
def S258(B E G:Value):Prop:=
 lN 198 B λa=>eK hZ (pA 198 B (some E) (some G) (some a)) λ_=>bA .eql 3 E G λb=>cV b (K B w) (lN 198 B λc=>eK hZ (pA 198 B none (some E) none) λd=>
 eK hZ (pA 198 B (some G) none none) λe=>aP 198 d e (drew w) λf g=>lN 198 f λh=>eK hZ (pA 198 f (some h) (some c) none) λj=>
 se hZ (Builtin.clear_ #[198] 0 [j].toArray) g λ_ k=>K f k)
def azZ:dM:=λi=>match i with
 | 5=>.run 0 8
 | _=>.nil
theorem agx(B E G:Value)(h:S258 w K B E G):CR 258 [B,E,G] w K:=
 qG 33 azZ 64 [.tmp 6] Tryz.func258 h
theorem ajH:PL 192:=dT Tryz.func192
theorem VA:PL 193:=dT Tryz.func193
theorem VB:PL 194:=dT Tryz.func194
theorem ard:PL 195:=dT Tryz.func195
theorem yr:PL 196:=dT Tryz.func196
theorem aaE:PL 197:=dT Tryz.func197
theorem aaF:PL 198:=dT Tryz.func198
theorem are:PL 199:=dT Tryz.func199
theorem ajI:PL 200:=dT Tryz.func200
theorem KO:PL 201:=dT Tryz.func201
theorem arf:PL 235:=dT Tryz.func235
theorem uU:PL 236:=dT Tryz.func236
theorem tn:PL 237:=dT Tryz.func237
theorem arh:PL 238:=dT Tryz.func238
theorem O5:PL 239:=dT Tryz.func239
theorem ari:PL 240:=dT Tryz.func240
theorem arj:PL 241:=dT Tryz.func241
theorem ark:PL 242:=dT Tryz.func242
theorem arl:PL 243:=dT Tryz.func243
theorem arn:PL 244:=dT Tryz.func244
theorem aro:PL 245:=dT Tryz.func245
theorem arp:PL 246:=dT Tryz.func246
theorem arq:PL 247:=dT Tryz.func247
theorem ars:PL 248:=dT Tryz.func248
theorem ajJ:PL 249:=dT Tryz.func249
theorem ajK:PL 250:=dT Tryz.func250
theorem art:PL 251:=dT Tryz.func251
theorem aru:PL 252:=dT Tryz.func252
theorem arv:PL 253:=dT Tryz.func253
theorem arw:PL 254:=dT Tryz.func254
theorem aaG:PL 255:=dT Tryz.func255
theorem O6:PL 256:=dT Tryz.func256
theorem arx:PL 257:=dT Tryz.func257
theorem ary:PL 258:=dT Tryz.func258
theorem ajL:PL 259:=dT Tryz.func259
theorem VC:PL 260:=dT Tryz.func260
theorem arz:PL 261:=dT Tryz.func261
variable (w:World) (K:Value->iD)
def S285(p0 O7 V:Value):Prop:=
 nC p0 λa=>fA 368 a 0 λb=>lA 166 b (drew w) λc=>nC p0 λd=>fA 368 d 1 λe=>lA 3 e (drew w) λf=>cF 201 [c,f] (drew w) λg h=>rq (λZ B O j=>∀_:Env,
 bB .leq 3 O (i 14) λk=>cV k (eW (λK2=>nC p0 λl=>fA 368 l 0 λn=>lA 166 n (drew j) λo=>nC p0 λp=>fA 368 p 1 λq=>lA 3 q (drew j) λr=>cF 335 [O] (drew j) λs t=>
 kA 166 n o t (kA 3 q r t (cF 196 [o,r,s] t λu v=>cV u (K2 O v) (K2 B v)))) (λagy x=>∀_:Env,
 bB .add 3 O (i 1) λy=>Z agy y x)) (eW (λK3=>bB .eql 3 B (i 13) λz=>cV z (bB .eql 3 V (i 0) λaa=>K3 aa j) (K3 ff j)) (λab J=>∀_:Env,
 cV ab (cF 336 [p0,(i 5)] J λ_ ad=>K (.tuple #[]) ad) (yp (λK4=>bB .neq 3 B (i 1) λae=>cV ae (nC p0 λaf=>fA 368 af 1 λag=>lA 3 ag J λah=>bB .add 3 ah (i 1) λai=>
 nC p0 λaj=>fA 368 aj 1 λak=>sA 3 ak ai J λal=>K4 al) (K4 J)) (λam=>∀_:Env,
 cF 337 [p0,B,g] am λan ao=>aL 220 ao λI aq=>sA 220 I an aq λM=>nC p0 λasx=>fA 368 asx 4 λau=>lA 112 au M λav=>lN 112 av λaw=>nC p0 λax=>fA 368 ax 4 λay=>
 lA 112 ay (drew M) λaz=>lA 220 I (drew M) λa0=>bS 112 1 [(0,a0)] (drew M) λa1 a2=>kA 112 ay az a2 (aP 112 az a1 a2 λa3 a4=>nC p0 λa5=>fA 368 a5 4 λa6=>
 sA 112 a6 a3 a4 λa7=>eW (λK5=>bB .neq 3 B (i 11) λa8=>cV a8 (bB .neq 3 B (i 12) λa9=>K5 a9 a7) (K5 ff a7)) (λba W=>∀_:Env,
 cV ba (cF 286 [p0,(Go.Value.string (jY (#[59])))] W λ_ bc=>K (.tuple #[]) bc) (eW (λK6=>bB .eql 3 B (i 12) λbd=>cV bd (bB .add 3 V (i 1) λbe=>
 K6 be W) (K6 V W)) (λG bf=>∀_:Env,
 bB .add 3 O7 (i 1) λbg=>cF 338 [p0,bg,G] bf λbh bi=>fA 220 I 6 λbj=>sA 3 bj bh bi λE=>yp (λK7=>eW (λY=>bB .eql 3 B (i 11) λbl=>cV bl (
 nC p0 λbm=>fA 368 bm 2 λbn=>lA 40 bn (drew E) λbo=>bB .eql 40 bo (i 0) λbp=>cV bp (nC p0 λbq=>fA 368 bq 0 λbr=>lA 166 br (drew E) λbs=>nC p0 λbt=>
 fA 368 bt 1 λbu=>lA 3 bu (drew E) λbv=>cF 196 [bs,bv,(Go.Value.string (jY (#[101,108,115,101])))] (drew E) λbw bx=>Y bw bx) (Y ff (drew E))) (Y ff (drew E)))
 (λbz b0=>∀_:Env,
 cV bz (nC p0 λb1=>fA 368 b1 1 λb2=>lA 3 b2 b0 λb3=>bB .add 3 b3 (i 1) λb4=>nC p0 λb5=>fA 368 b5 1 λb6=>sA 3 b6 b4 b0 λb7=>bB .add 3 O7 (i 1) λb8=>
 cF 338 [p0,b8,G] b7 λb9 ca=>fA 220 I 7 λcb=>sA 3 cb b9 ca λcc=>K7 cc) (K7 b0))) (λU=>∀_:Env,
 nC p0 λce=>fA 368 ce 4 λcf=>lA 112 cf (drew U) λcg=>lA 220 I (drew U) λch=>iA 112 cg aw λci=>sA 220 ci ch (drew U) λcj=>K (.tuple #[]) cj)))))))))) (λZ=>Z (i 1) (i 2) h)
def az0:dM:=λi=>match i with
 | 0=>.run 0 11
 | 4=>(.of [(0,[]),(1,[]),(2,[]),(3,[]),(4,[]),(5,[]),(6,[]),(7,[]),(8,[]),(9,[3,7]),(10,[])])
 | 12=>(.of [(0,[]),(1,[]),(2,[]),(3,[]),(4,[]),(5,[]),(6,[4]),(7,[]),(8,[]),(9,[]),(10,[])])
 | 19=>.run 0 20
 | 22=>.run 0 8
 | _=>.nil
theorem agz(p0 B E:Value)(h:S285 w K p0 B E):CR 285 [p0,B,E] w K:=
 qG 134 az0 0 [] Tryz.func285 h
def az1:dM:=λi=>match i with
 | 0=>.run 0 17
 | _=>.nil
def S287(I i1 O E:Value):Prop:=
 aL 371 w λa b=>bB .eql 3 E (i 5) λc=>cV c (cF 339 [I,i1,O] b λd e=>sA 371 a d e λf=>lA 371 a f λr=>K r f) (bB .add 3 E (i 1) λg=>cF 287 [I,i1,O,g] b λh j=>
 aL 371 j λk l=>sA 371 k h l λn=>Vo (λZ o=>∀_:Env,
 fA 371 k 2 λp=>lA 40 p o λq=>bB .eql 40 q (i 0) λs=>cV s (rq (λK2 G J t=>∀_:Env,
 cF 340 [E] t λu v=>lN 22 u λx=>bA .lss 3 J x λy=>cV y (eW (λK3=>fA 371 k 1 λz=>lA 3 z (drew v) λaa=>cF 340 [E] (drew v) λab U=>kA 3 z aa U (iA 22 ab J λad=>
 lA 3 ad U λae=>cF 341 [ae] U λaf ag=>kA 3 z aa ag (cF 196 [I,aa,af] ag λah ai=>cV ah (cF 340 [E] ai λaj ak=>iA 22 aj J λal=>lA 3 al ak λam=>K3 am ak) (
 K3 G ai)))) (λM an=>∀_:Env,
 bB .add 3 J (i 1) λao=>K2 M ao an)) (bB .eql 3 G (i 0) λap=>cV ap (lA 371 k v λaq=>sA 371 a aq v λar=>lA 371 a ar λKe=>K Ke ar) (fA 371 k 1 λasx=>
 lA 3 asx v λau=>bB .add 3 au (i 1) λav=>bB .add 3 E (i 1) λaw=>cF 287 [I,av,O,aw] v λax ay=>aL 371 ay λB az=>sA 371 B ax az λa0=>fA 371 B 2 λa1=>
 lA 40 a1 a0 λa2=>bB .neq 40 a2 (i 0) λa3=>cV a3 (lA 371 B a0 λa4=>sA 371 a a4 a0 λa5=>lA 371 a a5 λX6=>K X6 a5) (fA 371 k 1 λa6=>lA 3 a6 a0 λa7=>iA 166 I a7 λa8=>
 fA 179 a8 3 λa9=>lA 3 a9 a0 λba=>eK hZ (mZ 183 [(0,G),(3,ba)].toArray) λbb=>bS 92 1 [(0,bb)] a0 λbc bd=>fA 371 k 0 λbe=>lA 92 be bd λbf=>
 aP 92 bc bf bd λbg bh=>fA 371 B 0 λbi=>lA 92 bi bh λbj=>aP 92 bg bj bh λbk bl=>fA 371 B 1 λbm=>lA 3 bm bl λbn=>eK hZ (mZ 371 [(0,bk),(1,bn)].toArray) λbo=>
 sA 371 k bo bl λY=>bB .eql 3 E (i 2) λbq=>cV bq (lA 371 k Y λbr=>sA 371 a br Y λbs=>lA 371 a bs λV=>K V bs) (Z Y))))) λK2=>K2 (i 0) (i 0) o) (
 lA 371 k o λbt=>sA 371 a bt o λbu=>lA 371 a bu λW=>K W bu)) λZ=>Z n)
def az2:dM:=λi=>match i with
 | 9=>(.of [(0,[]),(1,[]),(2,[]),(3,[]),(5,[]),(4,[2]),(6,[]),(7,[]),(8,[2]),(9,[])])
 | _=>.nil
theorem agA(B E G I:Value)(h:S287 w K B E G I):CR 287 [B,E,G,I] w K:=
 qG 91 az2 256 [.cell 8 371] Tryz.func287 h
def S288(E I:Value):Prop:=
 bB .add 3 I (i 1) λa=>ajw (λB M J G b=>∀_:Env,
 iA 92 E I λc=>fA 183 c 0 λd=>lA 3 d b λe=>cF 342 [e] b λf g=>bA .lss 3 G f λh=>cV h (cF 288 [E,J] g λj k=>eK hZ (Builtin.max_ #[3,3] 3 [M,j].toArray) λl=>
 cF 343 [E,J] k λn o=>bB .add 3 G (i 1) λp=>B l n p o) (bB .add 3 M (i 1) λq=>K q g)) (λB=>B (i 0) a (i 0) w)
theorem agB(B E:Value)(h:S288 w K B E):CR 288 [B,E] w K:=
 qG 30 (λ_=>.nil) 16 [.tmp 4] Tryz.func288 h
theorem ajM:PL 283:=dT Tryz.func283
theorem arC:PL 284:=dT Tryz.func284
theorem ajN:PL 285:=dT Tryz.func285
theorem Bn:PL 286:=dT Tryz.func286
theorem VE:PL 287:=dT Tryz.func287
theorem ajO:PL 288:=dT Tryz.func288
theorem arD:PL 306:=dT Tryz.func306
theorem arE:PL 307:=dT Tryz.func307
theorem arF:PL 308:=dT Tryz.func308
theorem arG:PL 309:=dT Tryz.func309
theorem arH:PL 310:=dT Tryz.func310
theorem KP:PL 311:=dT Tryz.func311
theorem KQ:PL 312:=dT Tryz.func312
theorem arI:PL 313:=dT Tryz.func313
theorem arJ:PL 314:=dT Tryz.func314
theorem arK:PL 315:=dT Tryz.func315
theorem arL:PL 316:=dT Tryz.func316
theorem arM:PL 317:=dT Tryz.func317
theorem arN:PL 318:=dT Tryz.func318
theorem arO:PL 319:=dT Tryz.func319
theorem arP:PL 320:=dT Tryz.func320
theorem arQ:PL 321:=dT Tryz.func321
theorem arR:PL 322:=dT Tryz.func322
theorem arS:PL 323:=dT Tryz.func323
theorem arT:PL 324:=dT Tryz.func324
variable (w:World) (K:Value->iD)
def az3:dM:=λi=>match i with
 | 2=>.run 0 10
 | 4=>.run 0 13
 | _=>.nil
def az4:dM:=λi=>match i with
 | 2=>.run 0 13
 | 5=>.run 0 17
 | _=>.nil
def S339(E B U:Value):Prop:=
 aL 371 w λa b=>lN 166 E λc=>bA .geq 3 B c λd=>cV d (cF 357 [E,B,(i 6)] b λe f=>sA 371 a e f λg=>lA 371 a g λr=>K r g) (eW (λK1=>cF 196 [E,B,(Go.Value.string (jY (#[33])))] b λh j=>
 cV h (K1 tt j) (cF 196 [E,B,(Go.Value.string (jY (#[45])))] j λk l=>K1 k l)) (λO n=>∀_:Env,
 cF 196 [E,B,(Go.Value.string (jY (#[40])))] n λo p=>eW (λK2=>cV O (bB .eql 3 U (i 12) λq=>K2 q p) (cV o (bB .eql 3 U (i 12) λs=>K2 s p) (K2 ff p)))
 (λt u=>∀_:Env,
 cV t (cF 357 [E,B,(i 7)] u λv x=>sA 371 a v x λy=>lA 371 a y λKe=>K Ke y) (cV O (bB .add 3 B (i 1) λz=>bB .add 3 U (i 1) λaa=>cF 339 [E,z,aa] u λab ac=>
 aL 371 ac λJ ae=>sA 371 J ab ae λI=>fA 371 J 2 λag=>lA 40 ag I λah=>bB .neq 40 ah (i 0) λai=>cV ai (lA 371 J I λaj=>sA 371 a aj I λak=>lA 371 a ak λX6=>
 K X6 ak) (eW (λK3=>iA 166 E B λal=>fA 179 al 1 λam=>lA 9 am I λan=>eK hZ (ku .eql 9 false true an (Go.Value.string (jY (#[45])))) λao=>
 cV ao (K3 (i 3) I) (K3 (i 4) I)) (λaaH ap=>∀_:Env,
 iA 166 E B λaq=>fA 179 aq 3 λar=>lA 3 ar ap λasx=>eK hZ (mZ 183 [(0,aaH),(3,asx)].toArray) λau=>bS 92 1 [(0,au)] ap λav aw=>fA 371 J 0 λax=>
 lA 92 ax aw λay=>aP 92 av ay aw λaz a0=>fA 371 J 0 λa1=>sA 92 a1 az a0 λa2=>lA 371 J a2 λa3=>sA 371 a a3 a2 λa4=>lA 371 a a4 λr_3=>K r_3 a4))) (cV o (
 bB .add 3 B (i 1) λa5=>bB .add 3 U (i 1) λa6=>cF 287 [E,a5,a6,(i 0)] u λa7 a8=>aL 371 a8 λG ba=>sA 371 G a7 ba λM=>fA 371 G 2 λbc=>lA 40 bc M λbd=>
 bB .neq 40 bd (i 0) λbe=>cV be (lA 371 G M λbf=>sA 371 a bf M λbg=>lA 371 a bg λr_4=>K r_4 bg) (fA 371 G 1 λbh=>lA 3 bh M λbi=>cF 196 [E,bi,(Go.Value.string (jY (#[41])))] M λbj W=>
 eK hZ (Op.unary .not bj) λbl=>cV bl (fA 371 G 1 λbm=>lA 3 bm W λbn=>cF 357 [E,bn,(i 5)] W λbo bp=>sA 371 a bo bp λbq=>lA 371 a bq λr_5=>K r_5 bq) (
 fA 371 G 1 λbr=>lA 3 br W λbs=>bB .add 3 bs (i 1) λbt=>fA 371 G 1 λbu=>sA 3 bu bt W λbv=>lA 371 G bv λbw=>sA 371 a bw bv λbx=>lA 371 a bx λr_6=>
 K r_6 bx))) (iA 166 E B λbz=>fA 179 bz 0 λb0=>lA 3 b0 u λb1=>bB .eql 3 b1 (i 2) λb2=>cV b2 (iA 166 E B λb3=>fA 179 b3 2 λb4=>lA 3 b4 (drew u) λb5=>
 iA 166 E B λb6=>fA 179 b6 3 λb7=>lA 3 b7 (drew u) λb8=>eK hZ (mZ 183 [(0,(i 1)),(1,b5),(3,b8)].toArray) λb9=>bB .add 3 B (i 1) λca=>bS 92 1 [(0,b9)] (drew u) λcb cc=>
 eK hZ (mZ 371 [(0,cb),(1,ca)].toArray) λcd=>sA 371 a cd cc λce=>lA 371 a ce λr_7=>K r_7 ce) (eW (λK4=>iA 166 E B λcf=>fA 179 cf 0 λcg=>
 lA 3 cg u λch=>bB .eql 3 ch (i 1) λci=>cV ci (iA 166 E B λcj=>fA 179 cj 1 λck=>lA 9 ck u λcl=>cF 198 [cl] u λcm cn=>K4 cm cn) (K4 ff u)) (λco V=>∀_:Env,
 cV co (iA 166 E B λcq=>fA 179 cq 1 λcr=>lA 9 cr (drew V) λcs=>iA 166 E B λct=>fA 179 ct 3 λcu=>lA 3 cu (drew V) λcv=>eK hZ (mZ 183 [(0,(i 2)),(2,cs),(3,cv)].toArray) λcw=>
 bB .add 3 B (i 1) λcx=>bS 92 1 [(0,cw)] (drew V) λcy cz=>eK hZ (mZ 371 [(0,cy),(1,cx)].toArray) λc0=>sA 371 a c0 cz λc1=>lA 371 a c1 λZ=>
 K Z c1) (cF 357 [E,B,(i 5)] V λc2 c3=>sA 371 a c2 c3 λc4=>lA 371 a c4 λY=>K Y c4)))))))))
def az5:dM:=λi=>match i with
 | 27=>(.of [(0,[]),(1,[]),(2,[]),(3,[]),(4,[]),(5,[]),(6,[]),(7,[]),(8,[]),(9,[]),(10,[]),(12,[]),(13,[]),(11,[]),(14,[]),(15,[])])
 | 29=>(.of [(0,[]),(1,[]),(2,[]),(3,[]),(4,[]),(5,[]),(6,[]),(7,[]),(8,[]),(9,[]),(10,[]),(12,[]),(13,[]),(11,[]),(14,[]),(15,[])])
 | _=>.nil
theorem agC(B G E:Value)(h:S339 w K B G E):CR 339 [B,G,E] w K:=
 qG 152 az5 64 [.cell 6 371] Tryz.func339 h
def S350(G a:Value):Prop:=
 lA 198 a w λb=>lN 198 b λc=>bB .sub 3 c (i 1) λd=>lE (λE B e=>∀_:Env,
 bB .geq 3 B (i 0) λf=>cV f (lA 198 a e λg=>iA 198 g B λh=>lA 262 h e λj=>gR hZ G [B,j] e λk l=>eK hZ (Op.unary .not k) λn=>cV n (
 K (.tuple #[]) l) (bB .sub 3 B (i 1) λo=>E o l)) (K (.tuple #[]) e)) (λE=>E d w)
theorem agD(B E:Value)(h:S350 w K B E):CR 350 [B,E] w K:=
 qG 19 (λ_=>.nil) 0 [] Tryz.func350 h
def az6:dM:=λi=>match i with
 | 1=>.run 0 45
 | 3=>.run 0 13
 | _=>.nil
def az7:dM:=λi=>match i with
 | 3=>.run 0 18
 | _=>.nil
def az8:dM:=λi=>match i with
 | 1=>.run 0 31
 | 2=>.run 0 12
 | _=>.nil
def S357(E I J:Value):Prop:=
 aL 371 w λa b=>eW (λG=>lN 166 E λc=>bA .geq 3 I c λd=>cV d (G (i 6) b) (G J b)) (λB e=>∀_:Env,
 cF 201 [E,I] e λf g=>eK hZ (mZ 371 [(2,B),(3,f)].toArray) λh=>sA 371 a h g λj=>lA 371 a j λr=>K r j)
theorem agE(B E G:Value)(h:S357 w K B E G):CR 357 [B,E,G] w K:=
 qG 16 (λ_=>.nil) 64 [.cell 6 371] Tryz.func357 h
def S375(B a1:Value):Prop:=
 bB .eql 3 B (i 3) λa=>cV a (bC .sub 3 (i 0) a1 λb=>K (.tuple #[b,(i 0)]) w) (bB .eql 3 B (i 4) λc=>cV c (bB .eql 3 a1 (i 0) λd=>cF 380 [d] w λe f=>K (.tuple #[e,(i 0)]) f) (
 K (.tuple #[(i 0),(i 1)]) w))
theorem agF(B a1:Value)(h:S375 w K B a1):CR 375 [B,a1] w K:=
 qG 15 (λ_=>.nil) 48 [.tmp 4,.tmp 5] Tryz.func375 h
theorem arZ:PL 335:=dT Tryz.func335
theorem KR:PL 336:=dT Tryz.func336
theorem ar0:PL 337:=dT Tryz.func337
theorem ajP:PL 338:=dT Tryz.func338
theorem ajQ:PL 339:=dT Tryz.func339
theorem aaI:PL 340:=dT Tryz.func340
theorem ar1:PL 341:=dT Tryz.func341
theorem aaJ:PL 342:=dT Tryz.func342
theorem ajR:PL 343:=dT Tryz.func343
theorem ar2:PL 349:=dT Tryz.func349
theorem ar3:PL 350:=dT Tryz.func350
theorem Hz:PL 354:=dT Tryz.func354
theorem O8:PL 355:=dT Tryz.func355
theorem ar4:PL 356:=dT Tryz.func356
theorem VF:PL 357:=dT Tryz.func357
theorem ar5:PL 380:=dT Tryz.func380
end Go.Proofs.YtdncbeepkacgbaaGreatDoor
namespace Go.Fw
def oR(w:World)(b:Nat)(cs:List Value):Prop:=∃B,w.heap[b]?=some (.cells cs.toArray B (0,0))
def Cell(w:World)(b o:Nat)(v:Value):Prop:=w.cell? ⟨b,o,none⟩=some v
structure gZ(A:Nat->Prop)(w w':World):Prop where
 os:w'.os=w.os
 tape:w'.tape=w.tape
 output:w'.output=w.output
 size:w.heap.size<=w'.heap.size
 bU:∀b,b<w.heap.size->¬ A b->w'.heap[b]?=w.heap[b]?
def bE:Nat->Prop:=λ_=>False
abbrev Ext(w w':World):Prop:=gZ bE w w'
def gZ.refl(A:Nat->Prop)(w:World):gZ A w w:=⟨rfl,rfl,rfl,qQ _,λ_ _ _=>rfl⟩
def gZ.trans{A B C:Nat->Prop}{w G J:World}(h:gZ A w G)(k:gZ B G J)(O:∀b,A b->C b)(M:∀b,b<w.heap.size->B b->C b):gZ C w J:=
 ⟨k.os.trans h.os,k.tape.trans h.tape,k.output.trans h.output,xL h.size k.size,λb hb I=>
  (k.bU b (Nat.lt_of_lt_of_le hb h.size) λE=>I (M b hb E)).trans (h.bU b hb λE=>I (O b E))⟩
theorem gZ.then{A:Nat->Prop}{w B E:World}(h:gZ A w B)(k:Ext B E):gZ A w E:=h.trans k (λ_ h=>h) λ_ _ h=>h.elim
def gZ.mono{A B:Nat->Prop}{w w':World}(h:gZ A w w')(G:∀b,A b->B b):gZ B w w':=⟨h.os,h.tape,h.output,h.size,λb hb E=>h.bU b hb λx=>E (G b x)⟩
def Ext.refl(w:World):Ext w w:=gZ.refl _ _
def Ext.trans{w B E:World}(h:Ext w B)(k:Ext B E):Ext w E:=gZ.then h k
def Ext.aG{A:Nat->Prop}{w w':World}(h:Ext w w'):gZ A w w':=h.mono λ_ h=>h.elim
theorem Ext.drew(w:World):Ext w (drew w):=⟨rfl,rfl,rfl,qQ _,λ_ _ _=>rfl⟩
def gZ.below{w w':World}(h:Ext w w'):Go.RowKit.Below w.heap.size w w':=⟨h.os,h.tape,h.output,h.size,λb hb=>h.bU b hb λx=>x⟩
def tq{w:World}{b:Nat}{o:Obj}(h:w.heap[b]?=some o):b<w.heap.size:=(Gu.1 h).1
def oR.lt{w:World}{b:Nat}{cs:List Value}(h:oR w b cs):b<w.heap.size:=tq h.choose_spec
def Cell.lt{w:World}{b o:Nat}{v:Value}(h:Cell w b o v):b<w.heap.size:=by
 unfold Cell Qx at h
 grind
def Cell.of_eq{w w':World}{b o:Nat}{v:Value}(h:Cell w b o v)(B:w'.heap[b]?=w.heap[b]?):Cell w' b o v:=by
 unfold Cell Qx at *
 grind
def oR.of_eq{w w':World}{b:Nat}{cs:List Value}(h:oR w b cs)(B:w'.heap[b]?=w.heap[b]?):oR w' b cs:=by
 grind[oR]
def Cell.aG{A:Nat->Prop}{w w':World}{b o:Nat}{v:Value}(h:Cell w b o v)(hc:gZ A w w')(B:¬ A b):Cell w' b o v:=h.of_eq (hc.bU b h.lt B)
theorem Cell.ext{w w':World}{b o:Nat}{v:Value}(h:Cell w b o v)(hc:Ext w w'):Cell w' b o v:=h.aG hc (λx=>x)
def oR.cell{w:World}{b o:Nat}{cs:List Value}{v:Value}(h:oR w b cs)(E:cs[o]?=some v):Cell w b o v:=by
 obtain⟨B,h⟩:=h
 unfold Cell Qx
 grind
def oR.frozen{w:World}{b o:Nat}{cs:List Value}(h:oR w b cs):w.frozen? ⟨b,o,none⟩=false:=by
 obtain⟨B,h⟩:=h
 unfold World.frozen?
 grind
def MF(w:World)(b o:Nat)(v:Value)(k:Nat)(h:k≠b):(w.setCell ⟨b,o,none⟩ v).heap[k]?=w.heap[k]?:=by
 simp only[acp,P8]
 grind
def oR.setCell{w:World}{b o:Nat}{cs:List Value}(h:oR w b cs)(v:Value):oR (w.setCell ⟨b,o,none⟩ v) b (cs.set o v):=by
 obtain⟨B,h⟩:=h
 refine⟨B,?_⟩
 simp only[acp,P8,if_true,h]
 simp
def gZ.setCell(w:World)(b o:Nat)(v:Value):gZ (· = b) w (w.setCell ⟨b,o,none⟩ v):=
 ⟨rfl,rfl,rfl,by simp_all,λk _ B=>MF w b o v k B⟩
def push(w:World)(o:Obj):World:={w with heap:=w.heap.push o}
def Ew(w:World)(o:Obj)(k:Nat)(h:k<w.heap.size):(push w o).heap[k]?=w.heap[k]?:=by
 grind[push]
def nh(w:World)(o:Obj):(push w o).heap[w.heap.size]?=some o:=by
 grind[push]
theorem Ey(w:World)(o:Obj):(push w o).heap.size=w.heap.size+1:=by simp[push]
theorem Ext.push(w:World)(o:Obj):Ext w (push w o):=⟨rfl,rfl,rfl,by rw[Ey];omega,λb hb _=>Ew w o b hb⟩
theorem oR.push(w:World)(cs:List Value)(B:TypeId):oR (push w (.cells cs.toArray B)) w.heap.size cs:=⟨B,nh _ _⟩
structure HP where
 p:World->(Nat->Prop)->Prop
 loc:∀w w' F,p w F->(∀b,F b->w'.heap[b]?=w.heap[b]?)->p w' F
 lt:∀w F b,p w F->F b->b<w.heap.size
def bU(b:Nat)(cs:List Value):HP where
 p w F:=oR w b cs/\∀k,F k↔k=b
 loc w w' F h hh:=⟨h.1.of_eq (hh b ((h.2 b).2 rfl)),h.2⟩
 lt w F b' h hb:=by rw[(h.2 b').1 hb];exact h.1.lt
def tu(w0:World)(A:Nat->Prop):List HP->World->(Nat->Prop)->Prop
 | [],_,U=>∀b,¬ U b
 | H::L,w,U=>∃F B,H.p w F/\(∀b,F b->A b\/w0.heap.size<=b)/\(∀b,F b->¬ B b)/\(∀b,U b↔F b\/B b)/\tu w0 A L w B
structure St(w0:World)(A:Nat->Prop)(L:List HP)(w:World):Prop where
 aG:gZ A w0 w
 vC:∃U,tu w0 A L w U
theorem tu.lt{w0:World}{A:Nat->Prop}{L:List HP}{w:World}{U:Nat->Prop}(h:tu w0 A L w U):∀b,U b->b<w.heap.size:=by
 induction L generalizing U with
 | nil=>intro b hb;exact(h b hb).elim
 | cons H L B=>
  obtain⟨F,E,h1,h2,h3,h4,h5⟩:=h
  intro b hb
  rcases(h4 b).1 hb with hf|hu
  .exact H.lt _ _ _ h1 hf
  .exact B h5 b hu
theorem tu.loc{w0:World}{A:Nat->Prop}{L:List HP}{w w':World}{U:Nat->Prop}(h:tu w0 A L w U)(B:∀b,U b->w'.heap[b]?=w.heap[b]?):tu w0 A L w' U:=by
 induction L generalizing U with
 | nil=>exact h
 | cons H L G=>
  obtain⟨F,E,h1,h2,h3,h4,h5⟩:=h
  exact⟨F,E,H.loc _ _ _ h1 λb hb=>B b ((h4 b).2 (.inl hb)),h2,h3,h4,G h5 λb hb=>B b ((h4 b).2 (.inr hb))⟩
def St.start(w:World):St w bE [] w:=⟨gZ.refl _ _,bE,λ_ h=>h⟩
def St.begin{w:World}{F:Nat->Prop}{H:HP}(h:H.p w F):St w F [H] w:=
 ⟨gZ.refl _ _,F,F,bE,h,λ_ h=>.inl h,λ_ _ h=>h,λ_=>⟨.inl,λh=>h.elim id λh=>h.elim⟩,λ_ h=>h⟩
theorem St.ext{w0:World}{A:Nat->Prop}{L:List HP}{w w':World}(h:St w0 A L w)(e:Ext w w'):St w0 A L w':=by
 obtain⟨U,B⟩:=h.vC
 exact⟨h.aG.then e,U,B.loc λb hb=>e.bU b (B.lt b hb) λx=>x⟩
theorem St.drew{w0:World}{A:Nat->Prop}{L:List HP}{w:World}(h:St w0 A L w):St w0 A L (drew w):=h.ext (Ext.drew w)
def St.new{w0:World}{A:Nat->Prop}{L:List HP}{w w':World}{H:HP}{F:Nat->Prop}(h:St w0 A L w)(e:Ext w w')(J:H.p w' F)(I:∀b,F b->w.heap.size<=b):St w0 A (H::L) w':=by
 obtain⟨U,O⟩:=(h.ext e).vC
 obtain⟨G,B⟩:=h.vC
 have E:tu w0 A L w' G:=B.loc λb hb=>e.bU b (B.lt b hb) (λx=>x)
 refine⟨(h.ext e).aG,λb=>F b\/G b,F,G,J,λb hb=>.inr ?_,λb hb M=>?_,λb=>Iff.rfl,E⟩
 .exact xL h.aG.size (I b hb)
 have:=B.lt b M;grind
def St.qH{w0:World}{A:Nat->Prop}{L:List HP}{w w':World}{H H':HP}(h:St w0 A (H::L) w)
  (O:∀F,H.p w F->∃E,H'.p w' E/\(∀b,E b->F b\/w.heap.size<=b)/\gZ F w w'):St w0 A (H'::L) w':=by
 obtain⟨U,F,I,h1,h2,h3,h4,h5⟩:=h.vC
 obtain⟨E,M,G,J⟩:=O F h1
 refine⟨h.aG.trans J (λ_ h=>h) λb hb B=>?_,λb=>E b\/I b,E,I,M,λb hb=>?_,λb hb V=>?_,λb=>Iff.rfl,?_⟩
 .grind
 .rcases G b hb with B|B
  .grind
  exact .inr (xL h.aG.size B)
 .rcases G b hb with B|B
  .grind
  have:=h5.lt b V;omega
 exact h5.loc λb hb=>J.bU b (h5.lt b hb) λB=>h3 b B hb
def St.drop{w0:World}{A:Nat->Prop}{L:List HP}{w:World}{H:HP}(h:St w0 A (H::L) w):St w0 A L w:=by
 obtain⟨U,F,B,h1,h2,h3,h4,h5⟩:=h.vC
 exact⟨h.aG,B,h5⟩
def St.swap{w0:World}{A:Nat->Prop}{L:List HP}{w:World}{H H':HP}(h:St w0 A (H::H'::L) w):St w0 A (H'::H::L) w:=by
 obtain⟨U,F,O,h1,h2,h3,h4,J,B,E,G,V,M,I⟩:=h.vC
 refine⟨h.aG,U,J,λb=>F b\/B b,E,G,λb hb=>?_,λb=>?_,F,B,h1,h2,λb hb W=>?_,λb=>Iff.rfl,I⟩
 .grind
 .grind
 grind
def tu.swap{w0:World}{A:Nat->Prop}{L:List HP}{w:World}{H H':HP}{U:Nat->Prop}(h:tu w0 A (H::H'::L) w U):tu w0 A (H'::H::L) w U:=by
 obtain⟨F,O,h1,h2,h3,h4,J,B,E,G,V,M,I⟩:=h
 refine⟨J,λb=>F b\/B b,E,G,λb hb=>?_,λb=>?_,F,B,h1,h2,λb hb W=>?_,λb=>Iff.rfl,I⟩
 .grind
 .grind
 grind
def tu.under{w0:World}{A:Nat->Prop}{L L':List HP}{w:World}{H:HP}{U:Nat->Prop}(B:∀U,tu w0 A L w U->tu w0 A L' w U)(h:tu w0 A (H::L) w U):tu w0 A (H::L') w U:=by
 grind[tu]
theorem tu.pull{w0:World}{A:Nat->Prop}{B E:List HP}{w:World}{H:HP}{U:Nat->Prop}(h:tu w0 A (B++H::E) w U):tu w0 A (H::(B++E)) w U:=by
 induction B generalizing U with
 | nil=>exact h
 | cons X B G=>exact tu.swap (tu.under (λU h=>G h) h)
def St.pull{w0:World}{A:Nat->Prop}{w:World}(E:List HP){H:HP}{B:List HP}(h:St w0 A (E++H::B) w):St w0 A (H::(E++B)) w:=by
 obtain⟨U,G⟩:=h.vC
 exact⟨h.aG,U,G.pull⟩
def St.p1{w0:World}{A:Nat->Prop}{w:World}{B H:HP}{R:List HP}(h:St w0 A (B::H::R) w):St w0 A (H::B::R) w:=St.pull [B] h
def St.p2{w0:World}{A:Nat->Prop}{w:World}{E B H:HP}{R:List HP}(h:St w0 A (E::B::H::R) w):St w0 A (H::E::B::R) w:=St.pull [E,B] h
def St.p3{w0:World}{A:Nat->Prop}{w:World}{G B E H:HP}{R:List HP}(h:St w0 A (G::B::E::H::R) w):St w0 A (H::G::B::E::R) w:=St.pull [G,B,E] h
def St.p4{w0:World}{A:Nat->Prop}{w:World}{G B I E H:HP}{R:List HP}(h:St w0 A (G::B::I::E::H::R) w):St w0 A (H::G::B::I::E::R) w:=St.pull [G,B,I,E] h
def St.p5{w0:World}{A:Nat->Prop}{w:World}{I E J G B H:HP}{R:List HP}(h:St w0 A (I::E::J::G::B::H::R) w):St w0 A (H::I::E::J::G::B::R) w:=St.pull [I,E,J,G,B] h
def St.p6{w0:World}{A:Nat->Prop}{w:World}{I E J G B P5 H:HP}{R:List HP}(h:St w0 A (I::E::J::G::B::P5::H::R) w):St w0 A (H::I::E::J::G::B::P5::R) w:=St.pull [I,E,J,G,B,P5] h
def St.p7{w0:World}{A:Nat->Prop}{w:World}{J G M I B P5 E H:HP}{R:List HP}(h:St w0 A (J::G::M::I::B::P5::E::H::R) w):St w0 A (H::J::G::M::I::B::P5::E::R) w:=St.pull [J,G,M,I,B,P5,E] h
def St.p8{w0:World}{A:Nat->Prop}{w:World}{M G O I B P5 E J H:HP}{R:List HP}(h:St w0 A (M::G::O::I::B::P5::E::J::H::R) w):St w0 A (H::M::G::O::I::B::P5::E::J::R) w:=St.pull [M,G,O,I,B,P5,E,J] h
def St.p9{w0:World}{A:Nat->Prop}{w:World}{O G U J B P5 E M I H:HP}{R:List HP}(h:St w0 A (O::G::U::J::B::P5::E::M::I::H::R) w):St w0 A (H::O::G::U::J::B::P5::E::M::I::R) w:=St.pull [O,G,U,J,B,P5,E,M,I] h
def St.za{w0:World}{A:Nat->Prop}{w:World}{U I V M E P5 G O J B H:HP}{R:List HP}(h:St w0 A (U::I::V::M::E::P5::G::O::J::B::H::R) w):St w0 A (H::U::I::V::M::E::P5::G::O::J::B::R) w:=St.pull [U,I,V,M,E,P5,G,O,J,B] h
def St.p11{w0:World}{A:Nat->Prop}{w:World}{V J W O G P5 I U M E B H:HP}{R:List HP}(h:St w0 A (V::J::W::O::G::P5::I::U::M::E::B::H::R) w):St w0 A (H::V::J::W::O::G::P5::I::U::M::E::B::R) w:=St.pull [V,J,W,O,G,P5,I,U,M,E,B] h
def St.p12{w0:World}{A:Nat->Prop}{w:World}{W M Y U I P5 J V O G E B H:HP}{R:List HP}(h:St w0 A (W::M::Y::U::I::P5::J::V::O::G::E::B::H::R) w):St w0 A (H::W::M::Y::U::I::P5::J::V::O::G::E::B::R) w:=St.pull [W,M,Y,U,I,P5,J,V,O,G,E,B] h
def St.p0{w0:World}{A:Nat->Prop}{w:World}{L:List HP}(h:St w0 A L w):St w0 A L w:=h
def St.head{w0:World}{A:Nat->Prop}{L:List HP}{w:World}{H:HP}(h:St w0 A (H::L) w):∃F,H.p w F/\∀b,F b->A b\/w0.heap.size<=b:=by
 obtain⟨U,F,B,h1,h2,_⟩:=h.vC;grind
theorem St.hb{w0:World}{A:Nat->Prop}{L:List HP}{w:World}{b:Nat}{cs:List Value}(h:St w0 A (bU b cs::L) w):oR w b cs:=by
 obtain⟨F,h1,_⟩:=h.head;exact h1.1
def sg:Value->Bool
 | .agg _=>false
 | .tuple _=>false
 | _=>true
def cM(P:Program)(T:TypeId):Option (Bool×Nat):=
 match P.underlying T with
 | some d=>(P.info? T).map λi=>(match d with|.struct _|.array _ _=>true|_=>false,i.size)
 | none=>none
def aQ(P:Program)(T f:Nat):Option (Nat×Option Bool):=
 match P.underlying T with
 | some (.struct E)=>(E[f]?).map λB=>(B.offset,(P.info? B.type).map λi=>i.size != 0)
 | _=>none
def eQ(P:Program)(T:TypeId):Option (TypeId×Nat×Nat×Option Nat):=
 match P.underlying T with
 | some (.slice E)=>(P.info? E).map λi=>(E,i.size,i.bytes,i.zero.map λz=>z.cells.size)
 | _=>none
def dW(P:Program)(T:TypeId):Option (Option Value):=(P.info? T).map λi=>i.zero
abbrev aaK(P:Program)(T:TypeId):Prop:=cM P T=some (false,1)
abbrev agG(P:Program)(T:TypeId)(n:Nat):Prop:=cM P T=some (true,n)
abbrev Ez(P:Program)(T f B:Nat):Prop:=aQ P T f=some (B,some true)
abbrev SlT(P:Program)(T E n bytes:Nat):Prop:=eQ P T=some (E,n,bytes,some n)
abbrev n6(P:Program)(T:TypeId)(z:Value):Prop:=dW P T=some (some z)
theorem l7{P:Program}{T:TypeId}{i:TypeInfo}(h:P.info? T=some i):pr P (typeInfo T)=some i:=by
 show pr P (match P.info? T with|some i => pure i|none => stuck "no such type")=_
 rw[h];rfl
theorem cJ{P:Program}{T:TypeId}{d:TypeDesc}(h:P.underlying T=some d):pr P (underlying T)=some d:=by
 show pr P (match P.underlying T with|some d => pure d|none => stuck "no such type")=_
 rw[h];rfl
theorem o9{P:Program}{T:TypeId}{i:TypeInfo}(h:P.info? T=some i):pr P (sizeOf T)=some i.size:=by
 unfold sizeOf;rw[cH,l7 h];rfl
theorem xG{P:Program}{α β:Type}(m:Sem α)(f:α->β):pr P (do pure (f (<- m)))=(pr P m).map f:=by
 rw[cH];cases pr P m<;>rfl
theorem kK{P:Program}{T:TypeId}{a:Bool}{n:Nat}(h:cM P T=some (a,n)):pr P (isAgg T)=some a/\pr P (sizeOf T)=some n:=by
 unfold cM at h
 cases hd:P.underlying T with
 | none=>grind
 | some d=>
  rw[hd]at h
  cases hi:P.info? T with
  | none=>grind
  | some i=>
   rw[hi]at h
   simp only[EO,o5.injEq,abW.injEq]at h
   obtain⟨h1,h2⟩:=h
   refine⟨?_,by rw[o9 hi,h2]⟩
   unfold isAgg
   rw[cH,cJ hd]
   show pr P (match d with|.struct _|.array _ _=>pure true|_=>pure false)=_
   rw[<- h1]
   cases d<;>rfl
theorem gw{P:Program}{T E n B:Nat}{z:Option Nat}(h:eQ P T=some (E,n,B,z)) :
  P.underlying T=some (.slice E)/\∃i,P.info? E=some i/\i.size=n/\i.bytes=B/\i.zero.map (λz=>z.cells.size)=z:=by
 unfold eQ at h
 split at h
 .rename_i E' hE
  cases hi:P.info? E' with
  | none=>grind
  | some i=>
   grind
 cases h
section
variable {P:Program}{w:World}
theorem pop{m:Sem Value}{v:Value}{K:Value->Prop}(h:pr P m=some v)(k:K v):eK P m K:=⟨v,h,k⟩
theorem aD{a:Addr}{K:Value->Prop}(k:K (.pointer (some a))):eK P (XW (.pointer (some a))) K:=⟨_,rfl,k⟩
theorem bJ{b:Bool}{K:Value->Prop}(k:K (.bool (!b))):eK P (Op.unary .not (.bool b)) K:=⟨_,rfl,k⟩
theorem HC{p:Prop}[Decidable p]{K:Value->Prop}(k:K (.bool (decide (¬ p)))):eK P (Op.unary .not (.bool (decide p))) K:=by
 refine bJ ?_
 grind
theorem aN{vs:List Value}{i:Nat}{v:Value}{K:Value->Prop}(h:vs[i]?=some v)(k:K v):eK P (T0 (.tuple vs.toArray) i) K:=
 ⟨v,by simp only[T0,P6,h];rfl,k⟩
theorem aV{T:Nat}{cx cy:Bool}{a b:Int}{K:Value->Prop}(k:K (.bool (decide (a<b)))):eK P (ku .lss T cx cy (iE a) (iE b)) K:=⟨_,rfl,k⟩
theorem kq{T:Nat}{cx cy:Bool}{a b:Int}{K:Value->Prop}(k:K (.bool (decide (a<=b)))):eK P (ku .leq T cx cy (iE a) (iE b)) K:=⟨_,rfl,k⟩
theorem eh{T:Nat}{cx cy:Bool}{a b:Int}{K:Value->Prop}(k:K (.bool (decide (b<a)))):eK P (ku .gtr T cx cy (iE a) (iE b)) K:=⟨_,rfl,k⟩
theorem dC{T:Nat}{cx cy:Bool}{a b:Int}{K:Value->Prop}(k:K (.bool (decide (b<=a)))):eK P (ku .geq T cx cy (iE a) (iE b)) K:=⟨_,rfl,k⟩
theorem aI{T:Nat}{cx cy:Bool}{a b:Int}{K:Value->Prop}(k:K (.bool (decide (a=b)))):eK P (ku .eql T cx cy (iE a) (iE b)) K:=⟨_,rfl,k⟩
theorem cN{T:Nat}{cx cy:Bool}{a b:Int}{K:Value->Prop}(k:K (.bool (decide (a≠b)))):eK P (ku .neq T cx cy (iE a) (iE b)) K:=
 ⟨_,(show pr P (ku .neq T cx cy (iE a) (iE b))=some (.bool (decide (a≠b)))from by
  show some (vO (a != b))=_
  grind),k⟩
theorem aR{T:Nat}{cx cy:Bool}{a b:Int}{K:Value->Prop}(h : -9223372036854775808<=a+b/\a+b<=9223372036854775807)(k:K (iE (a+b))) :
  eK P (ku .add T cx cy (iE a) (iE b)) K:=
 ⟨_,(show pr P (ku .add T cx cy (iE a) (iE b))=some (iE (a+b))from by
  show some (n5 .i64 (IntKind.i64.wrap (a+b)))=_
  rw[IntWalk.i64_in _ h]),k⟩
theorem fO{T:Nat}{cx cy:Bool}{a b:Int}{K:Value->Prop}(h : -9223372036854775808<=a-b/\a-b<=9223372036854775807)(k:K (iE (a-b))) :
  eK P (ku .sub T cx cy (iE a) (iE b)) K:=
 ⟨_,(show pr P (ku .sub T cx cy (iE a) (iE b))=some (iE (a-b))from by
  show some (n5 .i64 (IntKind.i64.wrap (a-b)))=_
  rw[IntWalk.i64_in _ h]),k⟩
theorem VG{T:Nat}{cx cy:Bool}{a b:Int}{K:Value->Prop}(h : -9223372036854775808<=a*b/\a*b<=9223372036854775807)(k:K (iE (a*b))) :
  eK P (ku .mul T cx cy (iE a) (iE b)) K:=
 ⟨_,(show pr P (ku .mul T cx cy (iE a) (iE b))=some (iE (a*b))from by
  show some (n5 .i64 (IntKind.i64.wrap (a*b)))=_
  rw[IntWalk.i64_in _ h]),k⟩
theorem aC{p:Prop}[Decidable p]{A B:Prop}(h1:p->A)(h2:¬ p->B):Bl (.bool (decide p)) A B:=
 ⟨_,rfl,λh=>h1 (hG h),λh=>h2 (hM h)⟩
theorem jb{A B:Prop}(h:A):Bl (.bool true) A B:=⟨_,rfl,λ_=>h,λh=>by cases h⟩
theorem eX{A B:Prop}(h:B):Bl (.bool false) A B:=⟨_,rfl,λh=>(by cases h),λ_=>h⟩
theorem aX{b:Bool}{A B:Prop}(h1:b=true->A)(h2:b=false->B):Bl (.bool b) A B:=⟨_,rfl,h1,h2⟩
theorem gx{α:Type}(l:List α){i:Nat}(h:i<l.length):∃x,l[i]?=some x:=⟨_,List.getElem?_eq_getElem h⟩
theorem ei{a b:Nat}(h:TK a b=true):a<=b:=Et h
theorem eC{f:FuncId}{args:List Value}{Φ K:Value->iD}(pl:Plain P f)(h:Calls P f args.toArray w (rZ Φ))(k:∀v w',Φ v w'->K v w') :
  FE P f args w K:=⟨.inl ⟨pl,h.mono λ_ _ r=>r.mono k⟩⟩
theorem fm{g:FuncId}{args first cap:List Value}{Φ K:Value->iD}(pl:Plain P g)(h:Calls P g (first++args++cap).toArray w (rZ Φ))(k:∀v w',Φ v w'->K v w') :
  gR P (.func (.func g) first.toArray cap.toArray) args w K:=⟨.inl ⟨g,_,_,rfl,pl,by simpa using h.mono λ_ _ r=>r.mono k⟩⟩
variable {w0:World}{A:Nat->Prop}{L:List HP}
theorem run_load(a:Addr)(v:Value)(h:w.cell? a=some v):(load a).run P w=.ok v w:=by
 simp_all
theorem ix(b o j:Nat):(Addr.mk b o none).add j=⟨b,o+j,none⟩:=by
 unfold Addr.add;grind
theorem run_loadCellsFrom(b o:Nat):∀(n i:Nat) (B:Array Value) (cs:List Value),cs.length=n->(∀j c,cs[j]?=some c->Cell w b (o+i+j) c)->
  (loadCellsFrom ⟨b,o,none⟩ i n B).run P w=.ok (B++cs.toArray) w:=by
 intro n
 induction n with
 | zero=>intro i B cs E _;obtain rfl:=List.length_eq_zero_iff.1 E;simp[loadCellsFrom]
 | succ n G=>
  intro i B cs E h
  match cs,E with
  | c::cs,E=>
   unfold loadCellsFrom
   rw[eI (run_load _ c (by rw[ix];exact h 0 c rfl))]
   rw[G (i+1) (B.push c) cs dH λj d I=>by have:=h (j+1) d dH;grind]
   simp
theorem run_loadCells{b o:Nat}{cs:List Value}(h:∀j c,cs[j]?=some c->Cell w b (o+j) c):(loadCells ⟨b,o,none⟩ cs.length).run P w=.ok cs.toArray w:=by
 unfold loadCells
 rw[run_loadCellsFrom b o cs.length 0 #[] cs rfl λj c hc=>dH]
 simp
theorem aF{T:TypeId}{b o:Nat}{v:Value}(ht:aaK P T)(h:Cell w b o v):(vK T (.pointer (some ⟨b,o,none⟩))).run P w=.ok v w:=by
 show(loadVar T ⟨b,o,none⟩).run P w=_
 unfold loadVar
 rw[eI (fx (kK ht).1 w)]
 exact run_load _ v h
theorem FI{T:TypeId}{b o:Nat}{cs:List Value}(ht:agG P T cs.length)(h:∀j c,cs[j]?=some c->Cell w b (o+j) c) :
  (vK T (.pointer (some ⟨b,o,none⟩))).run P w=.ok (.agg cs.toArray) w:=by
 show(loadVar T ⟨b,o,none⟩).run P w=_
 unfold loadVar
 rw[eI (fx (kK ht).1 w)]
 simp only[if_true]
 rw[eI (fx (kK ht).2 w),eI (run_loadCells h)]
 rfl
theorem aB{T:TypeId}{b o:Nat}{cs:List Value}{v:Value}{K:Value->Prop}(ht:aaK P T)(hb:oR w b cs)(hc:cs[o]?=some v)(k:K v) :
  GK P (vK T (.pointer (some ⟨b,o,none⟩))) w K:=⟨v,aF ht (hb.cell hc),k⟩
theorem tz{T:TypeId}{b n:Nat}{cs:List Value}{K:Value->Prop}(ht:agG P T n)(hb:oR w b cs)(B:cs.length=n)(k:K (.agg cs.toArray)) :
  GK P (vK T (.pointer (some ⟨b,0,none⟩))) w K:=by
 subst B
 exact⟨_,FI ht λj c hc=>by rw[uf];exact hb.cell hc,k⟩
theorem SX{T f B b o:Nat}(ht:Ez P T f B):pr P (KF T (.pointer (some ⟨b,o,none⟩)) f)=some (.pointer (some ⟨b,o+B,none⟩)):=by
 unfold Ez aQ at ht
 split at ht
 .rename_i fs hfs
  cases hf:fs[f]? with
  | none=>grind
  | some fd=>
   rw[hf]at ht
   simp only[EO,o5.injEq,abW.injEq]at ht
   obtain⟨G,I⟩:=ht
   cases hi:P.info? fd.type with
   | none=>grind
   | some i=>
    rw[hi]at I
    have E:i.size≠0:=dH
    unfold KF
    rw[cH,cJ hfs]
    simp only[nY,hf]
    show pr P (do pure (acA (some (<- fieldPlace ⟨b,o,none⟩ fd))))=_
    rw[xG]
    unfold fieldPlace
    rw[cH,o9 hi]
    simp only[nY,ew E,ix,G]
    rfl
 cases ht
theorem aA{T f B b o:Nat}{K:Value->Prop}(ht:Ez P T f B)(k:K (.pointer (some ⟨b,o+B,none⟩))) :
  eK P (KF T (.pointer (some ⟨b,o,none⟩)) f) K:=⟨_,SX ht,k⟩
theorem pfb{T f B b o T2:Nat}{cs:List Value}{v:Value}{K:Value->Prop}(ht:Ez P T f B)(h2:aaK P T2)(hb:oR w b cs)(hc:cs[o+B]?=some v)(k:K v) :
  eK P (KF T (.pointer (some ⟨b,o,none⟩)) f) λp=>GK P (vK T2 p) w K:=aA ht (aB h2 hb hc k)
theorem MG(T:TypeId)(v:Value):(zG T v).run P w=.ok (.pointer (some ⟨w.heap.size,0,none⟩)) (push w (.cells v.cells T)):=rfl
theorem St.push{T:TypeId}{cs:List Value}(B:St w0 A L w):St w0 A (bU w.heap.size cs::L) (push w (.cells cs.toArray T)):=
 B.new (Ext.push _ _) (F:=λk=>k=w.heap.size) ⟨oR.push w cs T,λ_=>Iff.rfl⟩ λb hb=>by rw[hb];exact qQ _
theorem ni{T:TypeId}{v:Value}{K:Value->iD}(E:St w0 A L w)(B:sg v=true)
  (k:∀b w',St w0 A (bU b [v]::L) w'->K (.pointer (some ⟨b,0,none⟩)) w'):se P (zG T v) w K:=by
 refine⟨_,_,MG T v,k _ _ ?_⟩
 have:v.cells=[v].toArray:=by cases v<;>first|rfl|cases B
 rw[this]
 exact E.push
theorem kL{T:TypeId}{cs:List Value}{K:Value->iD}(B:St w0 A L w)
  (k:∀b w',St w0 A (bU b cs::L) w'->K (.pointer (some ⟨b,0,none⟩)) w'):se P (zG T (.agg cs.toArray)) w K:=
 ⟨_,_,MG T _,k _ _ B.push⟩
theorem gT{T:TypeId}{z:Value}{K:Value->iD}(G:St w0 A L w)(B:n6 P T z)(E:sg z=true)
  (k:∀b w',St w0 A (bU b [z]::L) w'->K (.pointer (some ⟨b,0,none⟩)) w'):se P (P9 T true (.tuple #[])) w K:=by
 unfold n6 dW at B
 cases hi:P.info? T with
 | none=>rw[hi]at B;cases B
 | some i=>
  rw[hi]at B
  simp only[EO,o5.injEq]at B
  have h1:pr P (zeroValue T)=some z:=by unfold zeroValue;rw[cH,l7 hi];simp only[nY,B];rfl
  refine⟨_,push w (.cells [z].toArray T),?_,k _ _ (G.push (T:=T))⟩
  unfold P9
  rw[eI (fx h1 w)]
  have:z.cells=[z].toArray:=by cases z<;>first|rfl|cases E
  show(do pure (acA (some (<- newVar T z))):Sem Value).run P w=_
  unfold newVar
  rw[this]
  rfl
theorem aJ{T:TypeId}{cs:List Value}{K:Value->iD}(E:St w0 A L w)(B:n6 P T (.agg cs.toArray))
  (k:∀b w',St w0 A (bU b cs::L) w'->K (.pointer (some ⟨b,0,none⟩)) w'):se P (P9 T true (.tuple #[])) w K:=by
 unfold n6 dW at B
 cases hi:P.info? T with
 | none=>rw[hi]at B;cases B
 | some i=>
  rw[hi]at B
  simp only[EO,o5.injEq]at B
  have h1:pr P (zeroValue T)=some (.agg cs.toArray):=by unfold zeroValue;rw[cH,l7 hi];simp only[nY,B];rfl
  refine⟨_,push w (.cells cs.toArray T),?_,k _ _ (E.push (T:=T))⟩
  unfold P9
  rw[eI (fx h1 w)]
  rfl
theorem run_store{b o:Nat}{cs:List Value}{v:Value}(hb:oR w b cs)(B:o<cs.length)(E:sg v=true) :
  (store ⟨b,o,none⟩ v).run P w=.ok () (w.setCell ⟨b,o,none⟩ v):=by
 have h1:w.cell? ⟨b,o,none⟩=some cs[o]:=hb.cell (by simp[B])
 have h2:=hb.frozen (o:=o)
 unfold store
 cases v<;>first|cases E|skip
 all_goals
  simp only[Sem.run,h1,h2]
  rfl
theorem O9{b o:Nat}{cs:List Value}{v:Value}(G:St w0 A (bU b cs::L) w):St w0 A (bU b (cs.set o v)::L) (w.setCell ⟨b,o,none⟩ v):=
 G.qH λF B=>⟨F,⟨B.1.setCell v,B.2⟩,λ_ h=>.inl h,(gZ.setCell w b o v).mono λk E=>(B.2 k).2 E⟩
theorem aO{T:TypeId}{b o:Nat}{cs:List Value}{v:Value}{K:iD}(E:St w0 A (bU b cs::L) w)(ht:aaK P T)(G:o<cs.length)(B:sg v=true)
  (k:∀w',St w0 A (bU b (cs.set o v)::L) w'->K w'):El P (Ku T (.pointer (some ⟨b,o,none⟩)) v) w K:=by
 refine⟨_,?_,k _ (O9 E)⟩
 show(storeVar T ⟨b,o,none⟩ v).run P w=_
 have hc:v.cells = #[v]:=by cases v<;>first|rfl|cases B
 unfold storeVar
 rw[eI (fx (kK ht).2 w),hc]
 simp only[NS,qb,x7,uf,ne_eq,not_true_eq_false,if_false]
 show(storeCells ⟨b,o,none⟩ [v]).run P w=_
 unfold storeCells
 rw[ix,MI,eI (run_store E.hb G B)]
 rfl
def iV:List Value->Nat->List Value->List Value
 | cs,_,[]=>cs
 | cs,o,v::r=>iV (cs.set o v) (o+1) r
theorem HD{b o:Nat}:∀(vs:List Value) (i:Nat) (cs:List Value) (w:World),St w0 A (bU b cs::L) w->o+i+vs.length<=cs.length->(∀v∈vs,sg v=true)->
  ∃w',(storeCells ⟨b,o,none⟩ vs i).run P w=.ok () w'/\St w0 A (bU b (iV cs (o+i) vs)::L) w':=by
 intro vs
 induction vs with
 | nil=>intro i cs w B _ _;exact⟨w,rfl,B⟩
 | cons v r M=>
  intro i cs w B J E
  have G:o+i+(r.length+1)<=cs.length:=by simpa using J
  have h1:=run_store (P:=P) B.hb (o:=o+i) (v:=v) cU (E v et)
  obtain⟨w',h2,h3⟩:=M (i+1) (cs.set (o+i) v) _ (O9 B) (by simp;omega) (λx I=>E x (by simp[I]))
  refine⟨w',?_,by rw[show o+(i+1)=o+i+1 from cU]at h3;exact h3⟩
  show(do store ((Addr.mk b o none).add i) v;storeCells ⟨b,o,none⟩ r (i+1):Sem Unit).run P w=_
  rw[ix,eI h1,h2]
theorem ry{T:TypeId}{b o n:Nat}{cs vs:List Value}{K:iD}(G:St w0 A (bU b cs::L) w)(ht:agG P T n)(E:vs.length=n)(I:o+n<=cs.length)(B:∀v∈vs,sg v=true)
  (k:∀w',St w0 A (bU b (iV cs o vs)::L) w'->K w'):El P (Ku T (.pointer (some ⟨b,o,none⟩)) (.agg vs.toArray)) w K:=by
 subst E
 obtain⟨w',h1,h2⟩:=HD (P:=P) (o:=o) vs 0 cs w G cU B
 refine⟨w',?_,k w' h2⟩
 show(storeVar T ⟨b,o,none⟩ (.agg vs.toArray)).run P w=_
 unfold storeVar
 rw[eI (fx (kK ht).2 w)]
 simp only[abp,NS,ne_eq,not_true_eq_false,if_false]
 exact h1
end
end Go.Fw
namespace Go.Fw
class Flat (α:Type) where
 agg:Bool
 sz:Nat
 enc:α->List Value
 val:α->Value
 pos:0<sz
 len:∀a,(enc a).length=sz
 one:∀a v,v∈enc a->sg v=true
 ot:agg=true->∀a,val a=.agg (enc a).toArray
 oS:agg=false->∀a,enc a=[val a]
instance:Flat Int where
 agg:=false
 sz:=1
 enc n:=[iE n]
 val n:=iE n
 pos:=er
 len _:=rfl
 one a v h:=by rw[sU.1 h];rfl
 ot h:=by cases h
 oS _ _:=rfl
instance:Flat Bool where
 agg:=false
 sz:=1
 enc n:=[.bool n]
 val n:=.bool n
 pos:=er
 len _:=rfl
 one a v h:=by rw[sU.1 h];rfl
 ot h:=by cases h
 oS _ _:=rfl
instance:Flat ByteArray where
 agg:=false
 sz:=1
 enc n:=[.string n]
 val n:=.string n
 pos:=er
 len _:=rfl
 one a v h:=by rw[sU.1 h];rfl
 ot h:=by cases h
 oS _ _:=rfl
section
variable {α:Type}[Flat α]
def flat(xs:List α):List Value:=xs.flatMap Flat.enc
theorem nj:flat ([]:List α)=[]:=rfl
theorem j7(x:α)(xs:List α):flat (x::xs)=Flat.enc x++flat xs:=by simp[flat]
theorem iP(xs ys:List α):flat (xs++ys)=flat xs++flat ys:=by simp[flat]
theorem dO(xs:List α):(flat xs).length=xs.length*Flat.sz α:=by
 induction xs with
 | nil=>simp[nj]
 | cons x xs B=>rw[j7,lJ,B,Flat.len,qb,H5];omega
theorem Cy{xs:List α}:∀v∈flat xs,sg v=true:=by
 intro v E
 obtain⟨x,_,B⟩:=List.mem_flatMap.1 E
 exact Flat.one x v B
theorem wm{xs:List α}{i j:Nat}{x:α}{c:Value}(B:xs[i]?=some x)(hc:(Flat.enc x)[j]?=some c):(flat xs)[i*Flat.sz α+j]?=some c:=by
 induction xs generalizing i with
 | nil=>simp at B
 | cons y ys E=>
  rw[j7]
  cases i with
  | zero=>
   grind
  | succ i=>
   have:=E (by simpa using B)
   rw[List.getElem?_append_right (by rw[Flat.len,H5];omega),Flat.len]
   grind
theorem KS(xs:List α)(n:Nat):flat (xs.take n)=(flat xs).take (n*Flat.sz α):=by
 induction xs generalizing n with
 | nil=>simp[nj]
 | cons x xs B=>
  cases n with
  | zero=>simp[nj]
  | succ n=>
   rw[List.take_succ_cons,j7,j7,B,List.take_append,Flat.len]
   have h1:(n+1)*Flat.sz α-Flat.sz α=n*Flat.sz α:=dH
   rw[h1,List.take_of_length_le (i:=(n+1)*Flat.sz α) (l:=Flat.enc x) (by rw[Flat.len,H5];omega)]
theorem KT(xs:List α)(n:Nat):flat (xs.drop n)=(flat xs).drop (n*Flat.sz α):=by
 induction xs generalizing n with
 | nil=>simp[nj]
 | cons x xs B=>
  cases n with
  | zero=>simp
  | succ n=>
   rw[List.drop_succ_cons,j7,B,List.drop_append,Flat.len]
   have h1:(n+1)*Flat.sz α-Flat.sz α=n*Flat.sz α:=dH
   rw[h1,List.drop_of_length_le (i:=(n+1)*Flat.sz α) (l:=Flat.enc x) (by rw[Flat.len,H5];omega),wc]
def At(S:Nat->Prop)(w:World)(p:Value)(x:α):Prop:=
 ∃b o,p=.pointer (some ⟨b,o,none⟩)/\S b/\∀j c,(Flat.enc x)[j]?=some c->Cell w b (o+j) c
def dP(S:Nat->Prop)(w:World)(v:Value)(xs:List α):Prop:=
 ∃a cap,v=.slice a xs.length cap/\xs.length<=cap/\((xs=[]/\cap=0)\/∃b o,a=some ⟨b,o,none⟩/\(xs≠[]->S b)/\∀j c,(flat xs)[j]?=some c->Cell w b (o+j) c)
def bG(v:Value)(xs:List α):HP where
 p w F:=(v=.slice none 0 0/\xs=[]/\∀b,¬ F b)\/
  ∃b cap rest,v=.slice (some ⟨b,0,none⟩) xs.length cap/\oR w b (flat xs++rest)/\(xs.length<=cap/\cap*Flat.sz α<=(flat xs++rest).length)/\∀k,F k↔k=b
 loc w w' F h hh:=by
  rcases h with h|⟨b,cap,rest,h1,h2,h3,h4⟩
  .grind
  .exact .inr ⟨b,cap,rest,h1,h2.of_eq (hh b ((h4 b).2 rfl)),h3,h4⟩
 lt w F b h hb:=by
  rcases h with h|⟨B,cap,rest,h1,h2,h3,h4⟩
  .grind
  .rw[(h4 b).1 hb];exact h2.lt
variable {P:Program}{w w0:World}{A S:Nat->Prop}{L:List HP}{xs ys:List α}
theorem At.aG{A:Nat->Prop}{w w':World}{p:Value}{x:α}(h:At S w p x)(hc:gZ A w w')(B:∀b,S b->¬ A b):At S w' p x:=by
 obtain⟨b,o,h1,h2,h3⟩:=h;exact⟨b,o,h1,h2,λj c E=>(h3 j c E).aG hc (B b h2)⟩
theorem At.ext{w w':World}{p:Value}{x:α}(h:At S w p x)(hc:Ext w w'):At S w' p x:=h.aG hc λ_ _ h=>h
theorem dP.aG{A:Nat->Prop}{w w':World}{v:Value}(h:dP S w v xs)(hc:gZ A w w')(E:∀b,S b->¬ A b):dP S w' v xs:=by
 obtain⟨a,cap,h1,h2,h3⟩:=h
 refine⟨a,cap,h1,h2,?_⟩
 rcases h3 with h3|⟨b,o,h3,h4,h5⟩
 .grind
 exact .inr ⟨b,o,h3,h4,λj c B=>(h5 j c B).aG hc (E b (h4 λh=>by subst h;simp[nj]at B))⟩
theorem dP.ext{w w':World}{v:Value}(h:dP S w v xs)(hc:Ext w w'):dP S w' v xs:=h.aG hc λ_ _ h=>h
theorem dP.mono{B:Nat->Prop}{v:Value}(h:dP S w v xs)(E:∀b,S b->B b):dP B w v xs:=by
 grind[dP]
theorem dP.nil(S:Nat->Prop)(w:World):dP S w (.slice none 0 0) ([]:List α):=⟨none,0,rfl,qQ _,.inl ⟨rfl,rfl⟩⟩
theorem bG.rd{v:Value}{F:Nat->Prop}(h:(bG v xs).p w F):dP F w v xs:=by
 rcases h with⟨h1,h2,h3⟩|⟨b,cap,rest,h1,h2,h3,h4⟩
 .subst h1 h2;exact dP.nil _ _
 refine⟨_,cap,h1,?_,.inr ⟨b,0,rfl,λ_=>(h4 b).2 rfl,λj c B=>?_⟩⟩
 .exact h3.1
 rw[uf]
 exact h2.cell dH
theorem St.rd{v:Value}(B:St w0 A (bG v xs::L) w):∃S,(∀b,S b->A b\/w0.heap.size<=b)/\dP S w v xs:=by
 obtain⟨F,h1,h2⟩:=B.head;exact⟨F,h2,bG.rd h1⟩
theorem St.fc{v:Value}(B:St w0 A (bG v xs::L) w):dP (λ_=>True) w v xs:=by
 obtain⟨S,_,h⟩:=B.rd;exact h.mono λ_ _=>trivial
theorem St.eU(B:St w0 A L w):St w0 A (bG (.slice none 0 0) ([]:List α)::L) w:=
 B.new (Ext.refl w) (F:=bE) (.inl ⟨rfl,rfl,λ_ h=>h⟩) λ_ h=>h.elim
theorem aE{T:TypeId}{p:Value}{x:α}{K:Value->Prop}(ht:cM P T=some (Flat.agg α,Flat.sz α))(h:At S w p x)(k:K (Flat.val x)):GK P (vK T p) w K:=by
 obtain⟨b,o,rfl,_,h3⟩:=h
 cases ha:Flat.agg α with
 | true=>
  rw[ha]at ht
  refine⟨_,?_,k⟩
  rw[Flat.ot ha x]
  exact FI (by rw[Flat.len];exact ht) h3
 | false=>
  rw[ha]at ht
  have h1:=Flat.oS ha x
  have B:Flat.sz α=1:=by rw[<- Flat.len x,h1];rfl
  rw[B]at ht
  exact⟨_,aF ht (by have:=h3 0 (Flat.val x) dH;omega),k⟩
theorem St.At{b:Nat}{x:α}(B:St w0 A (Fw.bU b (Flat.enc x)::L) w):Fw.At (λ_=>True) w (.pointer (some ⟨b,0,none⟩)) x:=
 ⟨b,0,rfl,trivial,λj c E=>by rw[uf];exact B.hb.cell E⟩
theorem cL{β:Type}[Flat β]{T f B:Nat}{p:Value}{x:α}(y:β){K:Value->Prop}(ht:Ez P T f B)(h:At S w p x)(I:(Flat.enc x)[B]?=some (Flat.val y))(E:Flat.agg β=false)
  (k:∀q,At S w q y->K q):eK P (KF T p f) K:=by
 obtain⟨b,o,rfl,h2,h3⟩:=h
 refine aA ht (k _ ⟨b,o+B,rfl,h2,λj c G=>?_⟩)
 rw[Flat.oS E]at G
 grind
theorem MH{T R E n B:Nat}{z:Option Nat}{a:Option Addr}{l c:Nat}(ht:eQ P T=some (E,n,B,z)):pr P (Builtin.len_ #[T] R [yR a l c].toArray)=some (iE l):=by
 show pr P (do
  match <- underlying T,yR a l c with
  | .string,.string s=>pure (goInt s.size)
  | .array n _,_=>pure (goInt n)
  | .pointer arr,_=>
   let .array n _ <- underlying arr|stuck "len: pointer to array expected"
   pure (goInt n)
  | .slice _,.slice _ n _=>pure (goInt n)
  | .map _ _,.map none|.chan _ _,.chan none=>pure (goInt 0)
  | .map _ _,.map (some r)=>
   let .map entries _ <- getObj r|stuck "len: map expected"
   pure (goInt entries.size)
  | .chan _ _,.chan (some r)=>
   let .chan _ buf _ _ _ timer <- getObj r|stuck "len: channel expected"
   pure (goInt (if timer then 0 else buf.size))
  | _, _ => stuck "len: string, array, pointer to array, slice, map or channel expected")=_
 rw[cH,cJ (gw ht).1]
 rfl
theorem aK{T R E n B:Nat}{z:Option Nat}{v:Value}{K:Value->Prop}(ht:eQ P T=some (E,n,B,z))(h:dP S w v xs)(k:K (iE (xs.length:Int))) :
  eK P (Builtin.len_ #[T] R [v].toArray) K:=by
 obtain⟨a,cap,rfl,_⟩:=h
 exact⟨_,MH ht,k⟩
theorem aW{T E I:Nat}{z:Option Nat}{v:Value}{i:Int}{x:α}{K:Value->Prop}(ht:eQ P T=some (E,Flat.sz α,I,z))(h:dP S w v xs)(M:0<=i)(B:xs[i.toNat]?=some x)
  (k:∀p,At S w p x->K p):eK P (K0 T v (iE i)) K:=by
 obtain⟨a,cap,rfl,Z,h3⟩:=h
 have Y:i.toNat<xs.length:=(j0.1 B).1
 rcases h3 with⟨rfl,_⟩|⟨b,o,rfl,h4,h5⟩
 .simp at B
 obtain⟨W,U,hi,O,_⟩:=gw ht
 refine⟨.pointer (some ⟨b,o+i.toNat*Flat.sz α,none⟩),?_,k _ ⟨b,_,rfl,h4 dH,λj c V=>?_⟩⟩
 .unfold K0
  rw[cH]
  show pr P _=_
  simp only[asIntOf]
  have e1:pr P (underlying T)=some (.slice E):=cJ W
  have G:pr P (sizeOf E)=some (Flat.sz α):=by rw[o9 hi,O]
  simp only[cH,e1,G,nY,fq]
  have J:0<=i/\i<(xs.length:Int):=⟨M,cU⟩
  simp only[ez J,cH,G,nY,fq,ix]
 have:=h5 (i.toNat*Flat.sz α+j) c (wm B V)
 grind
end
end Go.Fw
namespace Go.Fw
section
variable {α:Type}[Flat α] {P:Program}{w w0:World}{A S:Nat->Prop}{L:List HP}{xs ys:List α}
theorem jG{y:Nat}{i:Int}{code:BoundsCode}(B:0<=i)(h1:i<=y):pr P (aaj (iE i) y code)=some i.toNat:=by
 unfold aaj
 rw[cH]
 simp only[asIntOf,fq,nY,ez (show 0<=i/\i<=(y:Int)from⟨B,h1⟩)]
theorem zb{T E sz J:Nat}{z:Option Nat}{a:Option Addr}{n cap l h:Nat}{lo hi:Option Value}(ht:eQ P T=some (E,sz,J,z))
  (hb:pr P (u1 true n cap lo hi none)=some (l,h,cap)) :
  pr P (pA T (.slice a n cap) lo hi none)=some (.slice (if cap=l then a else a.map (·.add (l*sz))) (h-l) (cap-l)):=by
 obtain⟨B,G,I,M,_⟩:=gw ht
 unfold pA
 rw[cH,cJ B]
 simp only[nY]
 unfold Instr.slice
 rw[cH,cJ B]
 simp only[nY]
 rw[cH,hb]
 simp only[nY]
 rw[cH,o9 I,M]
 rfl
theorem pa{n cap l h:Nat}{lo hi:Option Value}(I:lo=none/\l=0\/∃i:Int,lo=some (iE i)/\0<=i/\l=i.toNat)(G:hi=none/\h=n\/∃i:Int,hi=some (iE i)/\0<=i/\h=i.toNat)
  (h1:l<=h) (h2:h<=cap):pr P (u1 true n cap lo hi none)=some (l,h,cap):=by
 rcases I with⟨rfl,rfl⟩|⟨i,rfl,E,rfl⟩<;>rcases G with⟨rfl,rfl⟩|⟨J,rfl,B,rfl⟩<;>simp only[u1,cH,fq,nY]
 .rw[jG B cU];rfl
 .rw[jG E cU];rfl
 rw[jG B cU];simp only[nY];rw[jG E cU];rfl
theorem dP.cut{v:Value}{a:Option Addr}{n cap l h:Nat}(G:v=.slice a n cap)(O:dP S w v xs)(h1:l<=h)(h2:h<=xs.length) :
  dP S w (.slice (if cap=l then a else a.map (·.add (l*Flat.sz α))) (h-l) (cap-l)) ((xs.take h).drop l):=by
 obtain⟨W,I,M,Gq,h3⟩:=O
 rw[M]at G
 simp only[yR.injEq]at G
 obtain⟨rfl,Y,rfl⟩:=G
 have hlen:((xs.take h).drop l).length=h-l:=by simp;omega
 rcases h3 with⟨E,Z⟩|⟨b,o,rfl,h4,h5⟩
 .subst E
  exact⟨_,I-l,by rw[hlen],et,.inl ⟨et,cU⟩⟩
 refine⟨_,I-l,by rw[hlen],cU,.inr ?_⟩
 have U:(xs.take h).drop l≠[]->xs≠[]:=λB J=>B dH
 by_cases B:I=l
 .rw[ez B]
  grind[flat,Cell]
 rw[ew B]
 refine⟨b,o+l*Flat.sz α,by simp[ix],λJ=>h4 (U J),λj c V=>?_⟩
 rw[KT,KS,List.getElem?_drop,List.getElem?_take]at V
 grind
theorem VH{T E M:Nat}{z:Option Nat}{v:Value}{lo hi:Option Value}{l h:Nat}{K:Value->Prop}(ht:eQ P T=some (E,Flat.sz α,M,z))(G:dP S w v xs)
  (O:lo=none/\l=0\/∃i:Int,lo=some (iE i)/\0<=i/\l=i.toNat) (J:hi=none/\h=xs.length\/∃i:Int,hi=some (iE i)/\0<=i/\h=i.toNat)
  (h1:l<=h) (h2:h<=xs.length) (k:∀I,dP S w I ((xs.take h).drop l)->K I):eK P (pA T v lo hi none) K:=by
 have B:=G
 obtain⟨a,cap,rfl,U,h3⟩:=G
 exact⟨_,zb ht (pa O J h1 cU),k _ (B.cut rfl h1 h2)⟩
theorem EB{T E J:Nat}{z:Option Nat}{v:Value}{i:Int}{K:Value->Prop}(ht:eQ P T=some (E,Flat.sz α,J,z))(I:dP S w v xs)(G:0<=i)(h2:i<=xs.length)
  (k:∀B,dP S w B (xs.take i.toNat)->K B):eK P (pA T v none (some (iE i)) none) K:=
 VH ht I (.inl ⟨rfl,rfl⟩) (.inr ⟨i,rfl,G,rfl⟩) cU cU λB h=>k B dH
theorem Yb{T E J:Nat}{z:Option Nat}{v:Value}{i:Int}{K:Value->Prop}(ht:eQ P T=some (E,Flat.sz α,J,z))(I:dP S w v xs)(G:0<=i)(h2:i<=xs.length)
  (k:∀B,dP S w B (xs.drop i.toNat)->K B):eK P (pA T v (some (iE i)) none none) K:=
 VH ht I (.inr ⟨i,rfl,G,rfl⟩) (.inl ⟨rfl,rfl⟩) cU cU λB h=>k B dH
theorem nR{b o:Nat}:∀(vs:List Value) (i:Nat) (cs:List Value) (w:World),oR w b cs->o+i+vs.length<=cs.length->(∀v∈vs,sg v=true)->
  ∃w',(storeCells ⟨b,o,none⟩ vs i).run P w=.ok () w'/\oR w' b (iV cs (o+i) vs)/\gZ (· = b) w w':=by
 intro vs
 induction vs with
 | nil=>intro i cs w hb _ _;exact⟨w,rfl,hb,gZ.refl _ _⟩
 | cons v r G=>
  intro i cs w hb J B
  have E:o+i+(r.length+1)<=cs.length:=cU
  have h1:=run_store (P:=P) hb (o:=o+i) (v:=v) cU (B v et)
  obtain⟨w',h2,h3,h4⟩:=G (i+1) (cs.set (o+i) v) _ (hb.setCell v) (by simp;omega) (λx I=>B x (by simp[I]))
  refine⟨w',?_,by grind[oR,iV],(gZ.setCell w b (o+i) v).trans h4 (λ_ h=>h) λ_ _ h=>h⟩
  show(do store ((Addr.mk b o none).add i) v;storeCells ⟨b,o,none⟩ r (i+1):Sem Unit).run P w=_
  rw[ix,eI h1,h2]
theorem mc(pre B post vs:List Value)(h:B.length=vs.length):iV (pre++B++post) pre.length vs=pre++vs++post:=by
 induction vs generalizing pre B with
 | nil=>grind[iV]
 | cons v r E=>
  match B,h with
  | m::B,h=>
   have e:(pre++(m::B)++post).set pre.length v=(pre++[v])++B++post:=et
   simp only[iV,e]
   have:=E (pre++[v]) B dH
   simp_all
theorem AB{sz:Nat}{v:Value}(B:sz=Flat.sz α)(h:dP S w v ys):(Builtin.firstCells sz ys.length v).run P w=.ok (flat ys).toArray w:=by
 subst B
 obtain⟨a,cap,rfl,_,h3⟩:=h
 rcases h3 with⟨rfl,_⟩|⟨b,o,rfl,_,h5⟩
 .cases a with
  | none=>rfl
  | some a=>simp[Builtin.firstCells,loadCells,loadCellsFrom,nj]
 have:=run_loadCells (P:=P) h5
 rw[dO]at this
 exact this
theorem EC{b o:Nat}{cs:List Value}(h:∀j c,cs[j]?=some c->Cell w b (o+j) c):∀j v,cs[j]?=some v->w.cell? ((⟨b,o,none⟩:Addr).add j)=some v:=λj v B=>by
 rw[ix];exact h j v B
theorem FJ{T E mn R:Nat}{v src:Value}{F:Nat->Prop}(ht:SlT P T E (Flat.sz α) mn)(hv:(bG v xs).p w F)(wo:dP S w src ys)
  (hn:xs.length+ys.length<=17592186044416) (G:(xs.length+ys.length)*mn<=140737488355328) :
  ∃v' w' F',(Builtin.append_ #[T,T] R [v,src].toArray).run P w=.ok v' w'/\(bG v' (xs++ys)).p w' F'/\(∀b,F' b->F b\/w.heap.size<=b)/\gZ F w w':=by
 obtain⟨hu,B,hi,mr,BK,Y⟩:=gw ht
 obtain⟨zv,W,hzs⟩:∃zv,B.zero=some zv/\zv.cells.size=Flat.sz α:=by
  cases hzz:B.zero with
  | none=>rw[hzz]at Y;cases Y
  | some zv=>rw[hzz]at Y;exact⟨zv,rfl,by simpa using Y⟩
 have hmul:(xs.length+ys.length)*B.bytes<=140737488355328:=by rw[show B.bytes=mn by omega];exact G
 have made:∀(cap:Nat),cap<xs.length+ys.length->
   (bG (.slice (some ⟨w.heap.size,0,none⟩) (xs.length+ys.length) (grownCap w (xs.length+ys.length) cap E)) (xs++ys)).p
    (w.drew.alloc (.cells ((flat xs).toArray++(flat ys).toArray++Builtin.zeroCells zv.cells (grownCap w (xs.length+ys.length) cap E-(xs.length+ys.length))) E)) (λk=>k=w.heap.size):=by
  intro cap hc
  have zd:=grownCap_ge w (xs.length+ys.length) cap E
  refine .inr ⟨w.heap.size,grownCap w (xs.length+ys.length) cap E,(Builtin.zeroCells zv.cells (grownCap w (xs.length+ys.length) cap E-(xs.length+ys.length))).toList,et,⟨E,?_⟩,?_,λ_=>Iff.rfl⟩
  .have:=nh w.drew (.cells ((flat xs).toArray++(flat ys).toArray++Builtin.zeroCells zv.cells (grownCap w (xs.length+ys.length) cap E-(xs.length+ys.length))) E)
   refine Eq.trans this ?_
   congr 2
   apply adf
   simp[iP]
  .refine⟨by rw[lJ];exact zd,zU (Eq.symm ?_)⟩
   have e:(Builtin.zeroCells zv.cells (grownCap w (xs.length+ys.length) cap E-(xs.length+ys.length))).toList.length=(grownCap w (xs.length+ys.length) cap E-(xs.length+ys.length))*Flat.sz α:=by
    rw[Sc,size_zeroCells,hzs]
   rw[lJ,e,dO,lJ,<- abv]
   congr 1
   omega
 have J:∀o,gZ F w (w.drew.alloc o):=λo=>⟨rfl,rfl,rfl,et,λb hb _=>Ew w.drew o b hb⟩
 have rd:=wo
 obtain⟨sa,U,rfl,hsc,O⟩:=rd
 rcases hv with⟨rfl,rfl,hF⟩|⟨b,cap,rest,rfl,hb,V,hF⟩
 ·
  simp only[x7,uf,wc]at *
  by_cases G:ys=[]
  .subst G
   refine⟨.slice none 0 0,w,F,?_,.inl ⟨rfl,rfl,hF⟩,λb hb=>.inl hb,gZ.refl _ _⟩
   cases sa<;>simp[Builtin.append_,run_underlying hu,sizeOf,typeInfo,hi,Builtin.lenOf,Builtin.firstCells,loadCells,loadCellsFrom]
  have Cz:0<ys.length:=List.length_pos_iff.2 G
  rcases O with⟨h,_⟩|⟨b,o,rfl,_,ZW⟩
  .exact absurd h G
  have I:=run_append_nil (P:=P) w T R E B zv hu hi W ⟨b,o,none⟩ ys.length U (flat ys) (by rw[dO,mr]) (EC ZW) Cz cU cU
  refine⟨_,_,λk=>k=w.heap.size,I,?_,λk M=>.inr (by rw[M];exact qQ _),J _⟩
  have:=made 0 Cz
  simpa[nj]using this
 have Gq:xs.length<=cap:=V.1
 replace V:=V.2
 by_cases Z:xs.length+ys.length<=cap
 ·
  have aaP:(xs.length+ys.length)*Flat.sz α<=cap*Flat.sz α:=FH _ Z
  have J3:(flat xs).length=xs.length*Flat.sz α:=dO xs
  have rp:(flat ys).length<=rest.length:=by
   rw[lJ,J3]at V;rw[dO];rw[abv]at aaP;omega
  obtain⟨w',h1,h2,h3⟩:=nR (P:=P) (o:=xs.length*Flat.sz α) (flat ys) 0 (flat xs++rest) w hb (by rw[lJ,J3];omega) Cy
  have Ka:iV (flat xs++rest) (xs.length*Flat.sz α+0) (flat ys)=flat (xs++ys)++rest.drop (flat ys).length:=by
   have:=mc (flat xs) (rest.take (flat ys).length) (rest.drop (flat ys).length) (flat ys) (by simp;omega)
   rw[J3]at this
   rw[MI,iP]
   rw[<- this]
   simp
  rw[Ka]at h2
  refine⟨.slice (some ⟨b,0,none⟩) (xs.length+ys.length) cap,w',F,?_,.inr ⟨b,cap,_,et,h2,?_,hF⟩,λb hb=>.inl hb,h3.mono λk M=>(hF k).2 M⟩
  .have hf:=AB (α:=α) (P:=P) (sz:=Flat.sz α) rfl wo
   have vD:(⟨b,0,none⟩:Addr).add (xs.length*Flat.sz α)=⟨b,xs.length*Flat.sz α,none⟩:=by rw[ix,uf]
   simp[Builtin.append_,run_underlying hu,sizeOf,typeInfo,hi,Builtin.lenOf,Z,hf,mr,vD,h1]
  refine⟨by rw[lJ];exact Z,xL V (zU ?_)⟩
  rw[lJ,lJ,iP,lJ,List.length_drop];omega
 have I:=run_append_grow (P:=P) w T R E B zv hu hi W ⟨b,0,none⟩ xs.length cap (flat xs) (by rw[dO,mr])
  (EC λj c hj=>by rw[uf];exact hb.cell (by rw[s7 (j0.1 hj).1];exact hj))
 rcases O with⟨h,_⟩|⟨b',o,rfl,_,ZW⟩
 .subst h;simp at Z;omega
 have I:=I ⟨b',o,none⟩ ys.length U (flat ys) (by rw[dO,mr]) (EC ZW) cU cU (growslice_fits cU hmul)
 exact⟨_,_,λk=>k=w.heap.size,I,made cap cU,λk M=>.inr (by rw[M];exact qQ _),J _⟩
theorem amq{T E G R:Nat}{v src:Value}{F:Nat->Prop}(ht:SlT P T E (Flat.sz α) G)(U:(bG v xs).p w F)(O:dP S w src ys)
  (M:xs.length+ys.length<=1073741824) (B:G<=8192) :
  ∃I w' J,(Builtin.append_ #[T,T] R [v,src].toArray).run P w=.ok I w'/\(bG I (xs++ys)).p w' J/\(∀b,J b->F b\/w.heap.size<=b)/\gZ F w w':=
 FJ ht U O cU (by have:=Tv M B;omega)
theorem Pa{T E J R:Nat}{v src:Value}{K:Value->iD}(I:St w0 A (bG v xs::L) w)(ht:SlT P T E (Flat.sz α) J)(wo:dP S w src ys)
  (hn:xs.length+ys.length<=17592186044416) (hm:(xs.length+ys.length)*J<=140737488355328) (k:∀G w',St w0 A (bG G (xs++ys)::L) w'->K G w'):se P (Builtin.append_ #[T,T] R [v,src].toArray) w K:=by
 obtain⟨U,F,O,h1,h2,h3,h4,h5⟩:=I.vC
 obtain⟨G,w',W,Z,g2,V,M⟩:=FJ (R:=R) ht h1 wo hn hm
 refine⟨G,w',Z,k G w' ?_⟩
 refine⟨I.aG.trans M (λ_ h=>h) λb hb B=>(h2 b B).elim id λhh=>cU,λb=>W b\/O b,W,O,g2,λb hb=>?_,λb hb Y=>?_,λb=>Iff.rfl,?_⟩
 .rcases V b hb with B|B
  .exact h2 b B
  exact .inr (xL I.aG.size B)
 .rcases V b hb with B|B
  .exact h3 b B Y
  have:=h5.lt b Y;omega
 exact h5.loc λb hb=>M.bU b (h5.lt b hb) λB=>h3 b B hb
theorem cK{T E G R:Nat}{v src:Value}{K:Value->iD}(O:St w0 A (bG v xs::L) w)(ht:SlT P T E (Flat.sz α) G)(M:dP S w src ys)
  (J:xs.length+ys.length<=1073741824) (B:G<=8192) (k:∀I w',St w0 A (bG I (xs++ys)::L) w'->K I w'):se P (Builtin.append_ #[T,T] R [v,src].toArray) w K:=
 Pa O ht M cU (by have:=Tv J B;omega) k
end
end Go.Fw
namespace Go.Fw
section
variable {α:Type}[Flat α] {P:Program}{w w0:World}{A S:Nat->Prop}{L:List HP}{xs ys:List α}
theorem qI(x:α):(Flat.val x).cells=(Flat.enc x).toArray:=by
 cases h:Flat.agg α with
 | true=>rw[Flat.ot h];rfl
 | false=>
  have h1:=Flat.oS h x
  have h2:=Flat.one x (Flat.val x) dH
  rw[h1]
  revert h2
  cases Flat.val x<;>simp[sg,abp]
theorem SY(cs:List Value)(o:Nat)(v:Value)(r:List Value):iV cs o (v::r)=iV (cs.set o v) (o+1) r:=rfl
theorem Pb(B:Nat):∀(l:List Value) (k:Nat) (cs:Array Value),((l.zipIdx k).foldl (fun (cs:Array Value) q=>cs.setIfInBounds (B+q.2) q.1) cs).toList=iV cs.toList (B+k) l:=by
 intro l
 induction l with
 | nil=>intro k cs;rfl
 | cons v r E=>
  intro k cs
  rw[aau,List.foldl_cons,E (k+1),SY]
  grind
theorem MJ(B:Nat)(l:List Value)(cs:Array Value) :
  (l.toArray.zipIdx.foldl (fun (cs:Array Value) (q:Value×Nat)=>match q with|(c,j)=>cs.setIfInBounds (B+j) c) cs).toList=iV cs.toList B l:=by
 rw[<- W8]
 have e:l.toArray.zipIdx.toList=l.zipIdx 0:=et
 rw[e]
 exact Pb B l 0 cs
theorem Yc:∀(xs:List α) (k:Nat) (pre B:List Value),pre.length=k*Flat.sz α->B.length=xs.length*Flat.sz α->
  W9 (λi=>some (i*Flat.sz α,Flat.sz α)) (pre++B).toArray ((xs.zipIdx k).map λq=>(q.2,Flat.val q.1))=some (pre++flat xs).toArray:=by
 intro xs
 induction xs with
 | nil=>intro k pre B _ E;simp at E;subst E;simp[W9,nj]
 | cons x xs J=>
  intro k pre B I E
  rw[aau,List.map_cons]
  unfold W9
  dsimp only
  have M:(Flat.val x).cells.size=Flat.sz α:=by rw[qI];simp[Flat.len]
  have G:B.length=xs.length*Flat.sz α+Flat.sz α:=dH
  rw[ew dH]
  have e:((Flat.val x).cells.zipIdx.foldl (fun (cs:Array Value) (q:Value×Nat)=>match q with|(c,j)=>cs.setIfInBounds (k*Flat.sz α+j) c) (pre++B).toArray) =
    ((pre++Flat.enc x)++B.drop (Flat.sz α)).toArray:=by
   apply adf
   rw[qI,MJ]
   have h1:=mc pre (B.take (Flat.sz α)) (B.drop (Flat.sz α)) (Flat.enc x) (by simp[Flat.len];omega)
   simp_all
  rw[e]
  have:=J (k+1) (pre++Flat.enc x) (B.drop (Flat.sz α)) (by rw[lJ,I,Flat.len,H5]) dH
  rw[this,j7,o1]
theorem bV{T E O n:Nat}{parts:List (Nat×Value)}{K:Value->iD}(xs:List α)(hs:St w0 A L w)(ht:SlT P T E (Flat.sz α) O)(V:xs.length=n)
  (W:parts=xs.zipIdx.map λq=>(q.2,Flat.val q.1)) (hl:xs.length*Flat.sz α<=16777216) (k:∀v w',St w0 A (bG v xs::L) w'->K v w') :
  se P (L2 T n parts.toArray) w K:=by
 subst V
 obtain⟨hu,G,hi,Z,BK,I⟩:=gw ht
 obtain⟨zv,J,U⟩:∃zv,G.zero=some zv/\zv.cells.size=Flat.sz α:=by
  cases hzz:G.zero with
  | none=>rw[hzz]at I;cases I
  | some zv=>rw[hzz]at I;exact⟨zv,rfl,by simpa using I⟩
 have es:pr P (sizeOf E)=some (Flat.sz α):=by rw[o9 hi,Z]
 have Y:pr P (zeroValue E)=some zv:=by unfold zeroValue;rw[cH,l7 hi];simp only[nY,J];rfl
 refine⟨.slice (some ⟨w.heap.size,0,none⟩) xs.length xs.length,push w (.cells (flat xs).toArray E),?_,k _ _ ?_⟩
 .have B:∀z:Array Value,W9 (λi=>some (i*Flat.sz α,Flat.sz α)) ((acR (xs.length*Flat.sz α)).map (z[· % z.size]!)) parts=some (flat xs).toArray:=by
   intro z
   have:=Yc xs 0 [] ((acR (xs.length*Flat.sz α)).map (z[· % z.size]!)).toList et et
   rw[W]
   rw[wc,wc,QJ]at this
   exact this
  unfold L2
  rw[eI (fx (cJ hu) w)]
  dsimp only
  rw[eI (fx es w),ew cU]
  by_cases M:xs.length*Flat.sz α=0
  .simp only[ez M]
   rw[eI (run_pure _ w),B]
   rfl
  simp only[ew M]
  rw[eI (fx Y w),eI (run_pure _ w),B]
  rfl
 refine hs.new (Ext.push _ _) (F:=λk=>k=w.heap.size) (.inr ⟨w.heap.size,xs.length,[],rfl,⟨E,?_⟩,⟨qQ _,by simp[dO]⟩,λ_=>Iff.rfl⟩) λb hb=>by rw[hb];exact qQ _
 rw[rM];exact nh _ _
theorem ze(z:α)(n:Nat):(madeCells (Flat.enc z).toArray (n*Flat.sz α)).toList=flat (o6 n z):=by
 apply List.ext_getElem?
 intro i
 have B:=Flat.pos (α:=α)
 by_cases hi:i<n*Flat.sz α
 .have h1:i / Flat.sz α<n:=by rw[Nat.div_lt_iff_lt_mul B];exact hi
  have h2:i % Flat.sz α<(Flat.enc z).length:=by rw[Flat.len];exact Nat.mod_lt _ B
  have:=wm (xs:=o6 n z) (i:=i / Flat.sz α) (j:=i % Flat.sz α) (x:=z) (c:=(Flat.enc z)[i % Flat.sz α]) (by simp[h1]) (by simp[h2])
  rw[Nat.div_add_mod' i (Flat.sz α)]at this
  rw[this]
  unfold madeCells
  simp[hi,Flat.len]
  grind
 have e1:(madeCells (Flat.enc z).toArray (n*Flat.sz α)).toList[i]?=none:=by
  rw[zH,Sc,size_madeCells];omega
 have E:(flat (o6 n z))[i]?=none:=by
  rw[zH,dO,tr];omega
 rw[e1,E]
theorem tA{T E I:Nat}{n:Int}{K:Value->iD}(z:α)(V:St w0 A L w)(ht:SlT P T E (Flat.sz α) I)(G:n6 P E (Flat.val z))(M:0<=n)(h1:n<=1073741824)(O:I<=8192)
  (k:∀v w',St w0 A (bG v (o6 n.toNat z)::L) w'->K v w'):se P (Vv T (iE n) (iE n)) w K:=by
 obtain⟨W,B,hi,U,Y,_⟩:=gw ht
 unfold n6 dW at G
 rw[hi]at G
 simp only[EO,o5.injEq]at G
 have hb:(B.bytes:Int)*n<=281474976710656:=by
  have h2:(B.bytes:Int)<=8192:=cU
  have h3:(B.bytes:Int)*n<=8192*n:=Int.mul_le_mul_of_nonneg_right h2 M
  omega
 have J:=run_make (P:=P) w T E B (Flat.val z) W hi G .i64 .i64 n n M (Int.le_refl _) hb cU
 rw[U,qI]at J
 refine⟨_,_,J,k _ _ ?_⟩
 refine V.new (w':=w.alloc (.cells (madeCells (Flat.enc z).toArray (n.toNat*Flat.sz α)) E)) ⟨rfl,rfl,rfl,et,λb hb _=>Ew w _ b hb⟩ (F:=λk=>k=w.heap.size)
  (.inr ⟨w.heap.size,n.toNat,[],et,⟨E,?_⟩,⟨et,by rw[rM,dO,tr];exact qQ _⟩,λ_=>Iff.rfl⟩) λb hb=>by rw[hb];exact qQ _
 rw[rM,<- ze]
 have:=nh w (.cells (madeCells (Flat.enc z).toArray (n.toNat*Flat.sz α)) E)
 rw[QJ]
 exact this
def KU(α:Type)[Flat α](v:Value)(i:Nat)(p:Value):Prop:=∃b n c,v=.slice (some ⟨b,0,none⟩) n c/\p=.pointer (some ⟨b,i*Flat.sz α,none⟩)
theorem dN{T E G:Nat}{z:Option Nat}{v:Value}{i:Int}{K:Value->Prop}(M:St w0 A (bG v xs::L) w)(ht:eQ P T=some (E,Flat.sz α,G,z))(I:0<=i)(h1:i<xs.length)
  (k:∀p,KU α v i.toNat p->K p):eK P (K0 T v (iE i)) K:=by
 obtain⟨F,h,_⟩:=M.head
 rcases h with⟨rfl,rfl,_⟩|⟨b,cap,rest,rfl,hb,V,_⟩
 .simp at h1;omega
 obtain⟨U,O,hi,J,_⟩:=gw ht
 refine⟨.pointer (some ⟨b,i.toNat*Flat.sz α,none⟩),?_,k _ ⟨b,_,_,rfl,rfl⟩⟩
 unfold K0
 have e1:pr P (underlying T)=some (.slice E):=cJ U
 have B:pr P (sizeOf E)=some (Flat.sz α):=by rw[o9 hi,J]
 simp only[asIntOf,cH,e1,B,nY,fq]
 simp only[ez (show 0<=i/\i<(xs.length:Int)from⟨I,h1⟩),cH,B,nY,fq,ix,uf]
theorem td{v:Value}{F:Nat->Prop}{i:Nat}(h:(bG v xs).p w F)(hi:i<xs.length):∃b cap rest,v=.slice (some ⟨b,0,none⟩) xs.length cap/\oR w b (flat xs++rest)/\(xs.length<=cap/\cap*Flat.sz α<=(flat xs++rest).length)/\∀k,F k↔k=b:=by
 rcases h with⟨rfl,rfl,_⟩|h
 .simp at hi
 exact h
theorem gW{T:Nat}{v p:Value}{i:Nat}{x:α}{K:Value->Prop}(M:St w0 A (bG v xs::L) w)(ht:cM P T=some (Flat.agg α,Flat.sz α))(G:KU α v i p)(E:xs[i]?=some x)(k:K (Flat.val x)) :
  GK P (vK T p) w K:=by
 obtain⟨F,h,_⟩:=M.head
 obtain⟨b,cap,rest,I,hb,U,_⟩:=td h (j0.1 E).1
 obtain⟨O,n,c,B,rfl⟩:=G
 rw[I]at B
 simp only[yR.injEq,o5.injEq,Addr.mk.injEq]at B
 obtain⟨⟨rfl,_,_⟩,_,_⟩:=B
 refine aE (S:=λ_=>True) ht ⟨b,i*Flat.sz α,rfl,trivial,λj c J=>hb.cell ?_⟩ k
 have:=wm E J
 rw[s7 (j0.1 this).1];exact this
theorem Pc{i:Nat}(y:α)(h:i<xs.length):flat (xs.set i y)=flat (xs.take i)++Flat.enc y++flat (xs.drop (i+1)):=by
 rw[List.set_eq_take_append_cons_drop,ez h,iP,j7,o1]
theorem BL{i:Nat}{x:α}(h:xs[i]?=some x):flat xs=flat (xs.take i)++Flat.enc x++flat (xs.drop (i+1)):=by
 have hi:=(j0.1 h).1
 have:xs=xs.take i++x::xs.drop (i+1):=by
  rw[<- (j0.1 h).2,List.getElem_cons_drop,List.take_append_drop]
 conv=>lhs;rw[this]
 rw[iP,j7,o1]
theorem SZ{T:Nat}{v p:Value}{i:Nat}{F:Nat->Prop}(y:α)(h:(bG v xs).p w F)(ht:cM P T=some (Flat.agg α,Flat.sz α))(J:KU α v i p)(hi:i<xs.length) :
  ∃w',(Ku T p (Flat.val y)).run P w=.ok () w'/\(bG v (xs.set i y)).p w' F/\gZ F w w':=by
 obtain⟨b,cap,rest,V,hb,U,E⟩:=td h hi
 obtain⟨Y,n,c,B,rfl⟩:=J
 rw[V]at B
 simp only[yR.injEq,o5.injEq,Addr.mk.injEq]at B
 obtain⟨⟨rfl,_,_⟩,_,_⟩:=B
 have W:xs[i]?=some xs[i]:=by simp[hi]
 have M:=BL W
 have G:(flat (xs.take i)).length=i*Flat.sz α:=by rw[dO,List.length_take,Nat.min_eq_left cU]
 have hlen:i*Flat.sz α+Flat.sz α<=(flat xs).length:=by
  rw[dO,<- H5];exact FH _ hi
 obtain⟨w',h1,h2,h3⟩:=nR (P:=P) (o:=i*Flat.sz α) (Flat.enc y) 0 (flat xs++rest) w hb (by rw[Flat.len,lJ];omega) (Flat.one y)
 have O:iV (flat xs++rest) (i*Flat.sz α+0) (Flat.enc y)=flat (xs.set i y)++rest:=by
  have:=mc (flat (xs.take i)) (Flat.enc xs[i]) (flat (xs.drop (i+1))++rest) (Flat.enc y) (by rw[Flat.len,Flat.len])
  rw[G]at this
  rw[MI,Pc y hi,M]
  grind
 rw[O]at h2
 refine⟨w',?_,.inr ⟨b,cap,rest,dH,h2,?_,E⟩,h3.mono λk I=>(E k).2 I⟩
 .show(storeVar T ⟨b,i*Flat.sz α,none⟩ (Flat.val y)).run P w=_
  unfold storeVar
  rw[eI (fx (kK ht).2 w),qI]
  simp only[NS,Flat.len,ne_eq,not_true_eq_false,if_false]
  exact h1
 rw[lJ,dO]at U |-;grind
theorem jm{T:Nat}{v p:Value}{i:Nat}{K:iD}(y:α)(G:St w0 A (bG v xs::L) w)(ht:cM P T=some (Flat.agg α,Flat.sz α))(M:KU α v i p)(hi:i<xs.length)
  (k:∀w',St w0 A (bG v (xs.set i y)::L) w'->K w'):El P (Ku T p (Flat.val y)) w K:=by
 obtain⟨U,F,O,h1,h2,h3,h4,h5⟩:=G.vC
 obtain⟨w',I,J,E⟩:=SZ y h1 ht M hi
 refine⟨w',I,k w' ⟨G.aG.trans E (λ_ h=>h) λb hb B=>(h2 b B).elim id λV=>cU,U,F,O,J,h2,h3,h4,h5.loc λb hb=>E.bU b (h5.lt b hb) λB=>h3 b B hb⟩⟩
end
end Go.Fw
